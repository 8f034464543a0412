import Derived.Test.YtmajgldaplkpiaaGreatDoorQ5
import Derived.Laws.AppendOwnNone
namespace Go.Proofs.YtmajgldaplkpiaaGreatDoor
open Go.RowKit Go.Maps
set_option linter.unusedVariables false
set_option maxRecDepth 100000
set_option maxHeartbeats 8000000
theorem zI {P:Program}{w:World}{ops:Array Oper}{rest:List Oper}{o:Oper}{a:Act}{Q:Exit->Act->World->Prop}(hgd:o.guard=none)(s x:Operand)(t:TypeId)
  (ho:o.op=.call { callee:=.builtin .append,args:=#[s,x],argTypes:=#[t,t] })
  (base:Nat) (e:TypeId) (i:TypeInfo) (z:Value) (size bytes:Nat) (ht:P.underlying t=some (.slice e)) (hi:P.info? e=some i) (hz:i.zero=some z)
  (hsize:i.size=size) (hby:i.bytes=bytes) (hzs:z.cells.size=size) (hsz:0<size)
  (v:Value) (n:Nat) (xs:List Value) (hs:a.eval s=v) (hown:w.ownsRow base e size v n xs)
  (A:Option Addr) (m c:Nat) (news:List Value) (hx:a.eval x=.slice A m c) (hA:A=none->m=0/\c=0) (hl:news.length=m*size)
  (hnews:∀ ad,A=some ad->∀ j u,news[j]?=some u->w.cell? (ad.add j)=some u) (h1:∀ u∈news,u.oneCell'=true)
  (h63:n+m<=maxLen) (hbytes:(n+m)*bytes<=140737488355328) (hbase:base<=w.heap.size)
  (h:∀ v' w',w'.ownsRow base e size v' (n+m) (xs++news)->w.grownBy w' v.ownBlock->wpList P ops Q rest (a.put o.dst v') w'):wpList P ops Q (o::rest) a w:=by
 cases A with
 | none=>
  obtain⟨rfl,rfl⟩:=hA rfl;have hn:news=[]:=List.eq_nil_of_length_eq_zero (by simpa using hl);subst hn;exact wpList_append_own_none hgd s x t ho base e i size ht hi v n xs hs hown hx (h v w (by simpa using hown) (World.grownBy.refl w _))
 | some ad=>
  exact wpList_append_own w hgd s x t ho base e i z size bytes ht hi hz hsize hby hzs hsz v n xs hs hown ad m c news hx hl (hnews ad rfl) h1 h63 hbytes hbase (fun v' w' h2 h3 _=>h v' w' h2 h3)
theorem zIi {w:World}{b:Nat}{v:Value}(h:w.cell? ⟨b,0,none⟩=some v):∀ j u,[v][j]?=some u->w.cell? ((⟨b,0,none⟩:Addr).add j)=some u:=by
 intro j u hj
 match j,hj with
 | 0,hj=>simp at hj;subst hj;rw[Addr.add_lit];exact h
theorem zFw : ∀ (l:List Dev) (j:Nat) (u:Value),(flat l)[j]?=some u->∃ i d jj,l[i]?=some d/\jj<10/\j=i*10+jj/\u=d.cell jj:=by
 intro l j u h;have hlt:j<(flat l).length:=(List.getElem?_eq_some_iff.1 h).1;rw[zw]at hlt;have hi:j / 10<l.length:=by omega
 refine⟨j / 10,l[j / 10],j % 10,List.getElem?_eq_getElem hi,by omega,by omega,?_⟩;have h1:=zFD l (j / 10) l[j / 10] (List.getElem?_eq_getElem hi) (j % 10) (by omega);rw[show j / 10*10+j % 10=j from by omega,h]at h1;exact Option.some.inj h1
theorem Devs.cell_of {W:World}{ad:Addr}{cap:Nat}{ds:List Dev}(h:Devs W (some ad) cap ds){i:Nat}{d:Dev}(hd:ds[i]?=some d){j:Nat}(hj:j<10):W.cell? (ad.add (i*10+j))=some (d.cell j):=by
 obtain⟨h1,_,h3⟩:=h.cell ad rfl (by intro e;subst e;simp at hd);obtain⟨b,o,sp⟩:=ad;simp at h1;subst h1;rw[Addr.add_lit];exact h3 i d hd j hj
theorem Devs.src_take {W:World}{a:Option Addr}{cap:Nat}{ds:List Dev}(h:Devs W a cap ds)(k:Nat):∀ ad,a=some ad->∀ j u,(flat (ds.take k))[j]?=some u->W.cell? (ad.add j)=some u:=by
 intro ad e j u hu;subst e;obtain⟨i,d,jj,h1,h2,rfl,rfl⟩:=zFw _ _ _ hu;refine h.cell_of ?_ h2;rw[List.getElem?_take]at h1;split at h1
 ·exact h1
 ·cases h1
theorem Devs.src_drop {W:World}{a:Option Addr}{cap:Nat}{ds:List Dev}(h:Devs W a cap ds)(k:Nat):∀ ad,a=some ad->∀ j u,(flat (ds.drop k))[j]?=some u->W.cell? ((ad.add (k*10)).add j)=some u:=by
 intro ad e j u hu;subst e;obtain⟨i,d,jj,h1,h2,rfl,rfl⟩:=zFw _ _ _ hu;rw[List.getElem?_drop]at h1;have h3:=h.cell_of h1 h2;obtain⟨hsp,_,_⟩:=h.cell ad rfl (by intro e;subst e;simp at h1);obtain⟨b,o,sp⟩:=ad;simp only at hsp;subst hsp;rw[Addr.add_lit]at h3;rw[Addr.add_lit,Addr.add_lit,<-h3]
 congr 2
 omega
theorem zm {W w1:World}{base:Nat}{e:TypeId}{size:Nat}{v:Value}{n:Nat}{xs:List Value}(h:W.ownsRow base e size v n xs)(hg:W.grownBy w1 v.ownBlock):Fr (From base) W w1:=
 (Fr.of_grown hg).mono (fun b _ e=>zN h e)
theorem Devs.keep {W W':World}{a:Option Addr}{cap:Nat}{ds:List Dev}(h:Devs W a cap ds)(hf:Fr (From W.heap.size) W W'):Devs W' a cap ds:=
 h.fr hf (fun ad e hne hS=>by have:=(h.cell ad e hne).2.1;unfold From at hS;omega)
theorem zBW {W W':World}{b:Nat}{xs:List Value}(h:∀ j u,xs[j]?=some u->W.cell? ((⟨b,0,none⟩:Addr).add j)=some u)(hf:Fr No W W'):∀ j u,xs[j]?=some u->W'.cell? ((⟨b,0,none⟩:Addr).add j)=some u:=
 fun j u hu=>hf.cell (h j u hu) id
theorem zBV (ds:List Dev)(q:Nat)(d:Dev):flat (ds.take q)++d.vals.toList++flat (ds.drop q)=flat (insAt ds q d):=by
 unfold flat insAt;rw[List.flatMap_append,List.flatMap_cons,List.append_assoc]
theorem zCE {wr w0 W:World}{a':Option Addr}{n c':Nat}{xs:List Value}{T E:TypeId}(h0:Fr No wr w0)(hf:Fr (From w0.heap.size) w0 W)(hb:W.heap[wr.heap.size]?=some (.cells #[.slice none 0 0] T))(ho:W.ownsRow w0.heap.size E 10 (.slice a' n c') n xs)(hs:wr.heap.size<w0.heap.size):
  (W.setCell ⟨wr.heap.size,0,none⟩ (.slice a' n c')).heap[wr.heap.size]?=some (.cells #[.slice a' n c'] T)/\(W.setCell ⟨wr.heap.size,0,none⟩ (.slice a' n c')).ownsRow wr.heap.size E 10 (.slice a' n c') n xs/\Fr (From wr.heap.size) wr (W.setCell ⟨wr.heap.size,0,none⟩ (.slice a' n c')):=by
 have hx:Fr (Is wr.heap.size) W (W.setCell ⟨wr.heap.size,0,none⟩ (.slice a' n c')):=Fr.setCell (S:=Is wr.heap.size) (p:=⟨wr.heap.size,0,none⟩) (Fr.refl _ _) (fun _=>rfl) _;refine⟨zF hb 0 _,zq (zu ho hx (fun b hb e=>by unfold Is at e;omega)) (by omega),?_⟩;have h1:Fr (From wr.heap.size) wr w0:=h0.mono (fun _ _ h=>h.elim);exact(h1.step hf (fun b hb h=>by unfold From at *;omega)).step hx (fun b hb e=>by unfold Is at e;unfold From;omega)
structure InsTo (w w':World)(ds:List Dev)(d:Dev)(a':Option Addr)(n' c':Nat)(k:Nat):Prop where
 hk:k<=ds.length
 new:look ds d.index=none
 ok:Okay d
 len:n'=(insAt ds k d).length
 own:w'.ownsRow w.heap.size 34 10 (.slice a' n' c') n' (flat (insAt ds k d))
 par:d.parent=0\/∃ (j:Nat) (e:Dev),j<k/\ds[j]?=some e/\e.index=d.parent
 org:∀ e∈ds,origin ds e.index≠origin ds d.parent++[d.orig]
 dep:(origin ds d.parent).length<7
def InsRes (w w':World)(ds:List Dev)(d:Dev)(e:Ending):Prop:=∃ a' n' c' er,e=.returned (.tuple #[.agg #[.slice a' n' c'],.int .i64 er])/\(er=0->∃ k,InsTo w w' ds d a' n' c' k)
theorem InsRes.no {w w':World}{ds:List Dev}{d:Dev}{er:Int}(h:er≠0):InsRes w w' ds d (.returned (.tuple #[.agg #[.slice none 0 0],.int .i64 er])):=⟨none,0,0,er,rfl,fun e=>absurd e h⟩
structure Ins (w W:World)(a:Option Addr)(n cap:Nat)(d:Dev):Prop where
 fr:Fr No w W
 p2:W.heap[w.heap.size]?=some (.cells #[.slice a n cap] 28)
 p3:W.heap[w.heap.size+1]?=some (.cells d.vals 34)
 p4:W.heap[w.heap.size+2]?=some (.cells #[.slice none 0 0] 28)
section
variable {w W W':World}{a:Option Addr}{n cap:Nat}{d:Dev}
theorem Ins.start (w:World)(a:Option Addr)(n cap:Nat)(d:Dev):Ins w (((w.alloc (.cells #[.slice a n cap] 28)).alloc (.cells d.vals 34)).alloc (.cells #[.slice none 0 0] 28)) a n cap d:=by
 have f1:Fr No ((w.alloc (.cells #[.slice a n cap] 28)).alloc (.cells d.vals 34)) (((w.alloc (.cells #[.slice a n cap] 28)).alloc (.cells d.vals 34)).alloc (.cells #[.slice none 0 0] 28)):=(Fr.refl _ _).alloc _;refine⟨(((Fr.refl _ _).alloc _).alloc _).alloc _,f1.heap (zL _ _ _) id,f1.heap (zP _ _ _) id,?_⟩;have h:=zD ((w.alloc (.cells #[.slice a n cap] 28)).alloc (.cells d.vals 34)) (.cells #[.slice none 0 0] 28);rw[World.size_alloc,World.size_alloc]at h;exact h
theorem Ins.step (h:Ins w W a n cap d)(hf:Fr No W W'):Ins w W' a n cap d:=⟨h.fr.step hf (fun _ _ h=>h),hf.heap h.p2 id,hf.heap h.p3 id,hf.heap h.p4 id⟩
theorem Ins.t0 (h:Ins w W a n cap d):W.cell? ⟨w.heap.size,0,none⟩=some (.slice a n cap):=zB h.p2 0
theorem Ins.dv (h:Ins w W a n cap d)(j:Nat)(hj:j<10):W.cell? ⟨w.heap.size+1,j,none⟩=some (d.cell j):=by
 rw[zB h.p3,<-Array.getElem?_toList];exact zEr d j hj
theorem Ins.at (h:Ins w W a n cap d):DevAt W (w.heap.size+1) 0 d:=
 ⟨h.dv 0 (by omega),h.dv 1 (by omega),h.dv 2 (by omega),h.dv 3 (by omega),h.dv 4 (by omega),h.dv 5 (by omega),h.dv 6 (by omega),h.dv 7 (by omega),h.dv 8 (by omega),h.dv 9 (by omega)⟩
theorem Ins.r0 (h:Ins w W a n cap d):W.cell? ⟨w.heap.size+2,0,none⟩=some (.slice none 0 0):=zB h.p4 0
theorem Ins.rf (h:Ins w W a n cap d):W.frozen? ⟨w.heap.size+2,0,none⟩=false:=zC h.p4 0
theorem Ins.fin (h:Ins w W a n cap d)(v:Value):Fr No w (W.setCell ⟨w.heap.size+2,0,none⟩ v):=h.fr.setNew (p:=⟨w.heap.size+2,0,none⟩) (by simp) v
theorem Ins.size (h:Ins w W a n cap d):w.heap.size+3<=W.heap.size:=by have:=zE h.p4;omega
end
theorem zGR (a:Option Addr)(cap:Nat)(ds:List Dev)(d:Dev)(l:List (ByteArray×ByteArray))(m:Int)(w:World)(hl:Devs w a cap ds)(hb:ds.length<=1000)(hT:TreeOk ds)(hs:Sized d)(hla:Atts w d.aa d.ac l)(han:d.an=l.length)(hd:d.drv=⟨#[]⟩)(hm:w.cell? ⟨0,0,none⟩=some (.int .i64 m))(h0:0<w.heap.size):
  Calls Tryz.prog 11 #[.agg #[.slice a ds.length cap],.agg d.vals] w fun e w'=>InsRes w w' ds d e/\Fr No w w':=by
 have hI:=Ins.start w a ds.length cap d;have Hcheck:=Lib.hid (fun W (hf:Fr No w W)=>zJi d l m W hs (hla.no hf (fun _=>id)) han hd (hf.cell hm id) (by have:=hf.size;omega));clear hla han hd hs
 go_enter Tryz.func11,Tryz.ntmps11
 unfold Dev.vals at *
 go_upto_region 1 with(fail)
 generalize ((w.alloc (.cells #[.slice a ds.length cap] 28)).alloc (.cells #[.int .i64 d.index,.int .i64 d.parent,.string d.name,.string d.orig,.string d.sub,.string d.drv,.string d.ali,.int .i64 d.kind,.int .i64 d.num,.slice d.aa d.an d.ac] 34)).alloc (.cells #[.slice none 0 0] 28)=W0 at *;obtain⟨a0,a1,a2,a3,a4,a5,a6,a7,a8,a9⟩:=hI.at;simp only[Nat.zero_add]at a0 a1 a2 a3 a4 a5 a6 a7 a8 a9
 go_wp2_with fail
 refine(Hcheck.out _ hI.fr).mono ?_;rintro e w1 ⟨⟨er,rfl,hok⟩,hf1⟩;have Hok:=Lib.hid hok;clear hok a0 a1 a2 a3 a4 a5 a6 a7 a8 a9 Hcheck;have hI1:=hI.step hf1;clear hI hf1;by_cases her:er=0
 case neg=>
  have hb:(er != 0)=true:=by simpa using her
  have r0:=hI1.r0;have rf:=hI1.rf
  go_wp2_with fail
  refine bodyPost_ret (v:=.tuple #[.agg #[.slice none 0 0],.int .i64 41]) (by simp[results,Tryz.results11,go_sem,r0]) rfl ?_;exact⟨InsRes.no (by decide),hI1.fin _⟩
 subst her;have Hok2:Hid (Okay d):=Lib.hid (Hok.out rfl);clear Hok;have hl1:=hl.no hI1.fr (fun _=>id);have t0:=hI1.t0;obtain⟨a0,a1,a2,a3,a4,a5,a6,a7,a8,a9⟩:=hI1.at;simp only[Nat.zero_add]at a0 a1 a2 a3 a4 a5 a6 a7 a8 a9;have r0:=hI1.r0;have rf:=hI1.rf
 go_wp2_with fail
 refine(zCm a cap ds d.index _ hl1).mono ?_;rintro e w2 ⟨rfl,rfl⟩;cases hlk:look ds d.index with
 | some d0=>
  have hge:0<=place ds d.index:=by
   have h3:¬ place ds d.index<0:=fun h=>by rw[zAZ.1 h]at hlk;cases hlk
   omega
  clear hlk
  go_wp2_with fail
  refine bodyPost_ret (v:=.tuple #[.agg #[.slice none 0 0],.int .i64 44]) (by simp[results,Tryz.results11,go_sem,r0]) rfl ?_;exact⟨InsRes.no (by decide),hI1.fin _⟩
 | none=>
  have hge:¬ 0<=place ds d.index:=by have:=zAZ.2 hlk;omega
  have Hlk:=Lib.hid hlk;clear hlk
  go_upto_region 5 with(fail)
  go_cut [32] (fun v wx=>(∃ b,v=.bool b/\(b=false->d.parent=0\/∃ p,look ds d.parent=some p))/\w1=wx)
  case first=>
   by_cases hp:d.parent=0
   ·have hpb:(d.parent != 0)=false:=by simp[hp]
    have Hp:=Lib.hid hp;clear hp
    go_wp2_with fail
    go_meet
    exact⟨⟨_,rfl,fun _=>.inl Hp.out⟩,rfl⟩
   ·have hpb:(d.parent != 0)=true:=by simpa using hp
    clear hp
    go_wp2_with fail
    refine(zCm a cap ds d.parent _ hl1).mono ?_;rintro e w3 ⟨rfl,rfl⟩;cases hlp:look ds d.parent with
    | some p=>
     have hge:¬ place ds d.parent<0:=fun h=>by rw[zAZ.1 h]at hlp;cases hlp
     have Hlp:=Lib.hid hlp;clear hlp
     go_wp2_with fail
     go_meet
     exact⟨⟨_,rfl,fun _=>.inr ⟨p,Hlp.out⟩⟩,rfl⟩
    | none=>
     have hge:place ds d.parent<0:=zAZ.2 hlp;clear hlp
     go_wp2_with fail
     go_meet
     exact⟨⟨true,rfl,fun h=>by cases h⟩,rfl⟩
  case rest=>
   obtain⟨⟨b,rfl,hpar⟩,rfl⟩:=hcut;have Hpar0:=Lib.hid hpar;clear hpar;cases b
   case true=>
    go_wp2_with fail
    refine bodyPost_ret (v:=.tuple #[.agg #[.slice none 0 0],.int .i64 42]) (by simp[results,Tryz.results11,go_sem,r0]) rfl ?_;exact⟨InsRes.no (by decide),hI1.fin _⟩
   have Hpar:=Lib.hid (Hpar0.out rfl);clear Hpar0;by_cases h256:256<=ds.length
   ·have h256':(256:Int)<=ds.length:=by omega
    go_wp2_with fail
    refine bodyPost_ret (v:=.tuple #[.agg #[.slice none 0 0],.int .i64 40]) (by simp[results,Tryz.results11,go_sem,r0]) rfl ?_;exact⟨InsRes.no (by decide),hI1.fin _⟩
   have h256':¬ (256:Int)<=ds.length:=by omega
   clear hge h256
   go_upto_region 9 with(fail)
   go_cut [6] (fun v wx=>∃ av cv,v=.slice av ((origin ds d.parent).length+1) cv/\wx.ownsRow w1.heap.size 9 1 (.slice av ((origin ds d.parent).length+1) cv) ((origin ds d.parent).length+1) ((origin ds d.parent++[d.orig]).map Value.string)/\Fr No w1 wx)
   case first=>
    refine zY (From w1.heap.size) (.q 0 (.q 1 (.q 2 (.q 4 (.q 5 (.m2 3 (.m1 6 (.m1 7 (.q 8 .fin))) 6 (.m1 3 (.m1 7 (.q 8 .fin))))))))) _ (by kernel_rfl) (by kernel_rfl) (fun w0 hf0=>?_) (fun _ _ h=>h);have hI0:=hI1.step hf0;have hl0:=hl1.no hf0 (fun _=>id);have hsz1:=hI1.size;have c0:∀ g:Gr (From w1.heap.size) w0,g.W.cell? ⟨w.heap.size,0,none⟩=some (.slice a ds.length cap):=fun g=>g.fr.cell hI0.t0 (by unfold From;simp;omega)
    have c1:∀ g:Gr (From w1.heap.size) w0,g.W.cell? ⟨w.heap.size+1,1,none⟩=some (.int .i64 d.parent):=fun g=>g.fr.cell (hI0.dv 1 (by omega)) (by unfold From;simp;omega)
    have c3:∀ g:Gr (From w1.heap.size) w0,g.W.cell? ⟨w.heap.size+1,3,none⟩=some (.string d.orig):=fun g=>g.fr.cell (hI0.dv 3 (by omega)) (by unfold From;simp;omega)
    have hol:(origin ds d.parent).length<=1000:=by unfold origin;simp;have:=zAu ds d.parent;omega
    have hsz0:=hf0.size;obtain⟨i0,hi,hz0,hz1,hz2⟩:=info_parts infoS
    repeat (apply zM;exact rfl;exact rfl;exact rfl;intro K hK;go_big_quiet_op;go_big_quiet_on)
    clear a0 a1 a2 a3 a4 a5 a6 a7 a8 a9 t0 r0 rf;refine zh rfl rfl ?_ ?_
    ·go_wp2_with fail
     refine(zBP a cap ds d.parent _ hl0 (by omega)).mono ?_;rintro e w2 ⟨⟨v,rfl,hown⟩,hf2⟩;have hsz2:=hf2.size
     go_wp2_with fail
     refine OnlyN.mk ⟨hf2.mono (fun _ _ h=>h.elim),?_⟩;refine zH rfl ?_
     go_wp2_with fail
     refine OnlyN.mk ⟨(Fr.refl _ _).alloc _,?_⟩;refine zH rfl ?_
     go_wp2_with (at_builtin;refine wpList_append_own _ rfl _ _ 44 rfl w0.heap.size 9 i0 (.string ByteArray.empty) 1 16 Tryz.underlying44 hi hz0 hz1 hz2 rfl (by decide) _ _ _ rfl (hown.alloc _) ⟨w2.heap.size,0,none⟩ 1 1 [.string d.orig] rfl rfl (cell_one_new _ _ _) (zBO [d.orig]) (by unfold maxLen;omega) (by omega) (by simp;omega) ?_;intro v' w3 hown3 hgrow3 _;obtain⟨av',cv',rfl⟩:=zG hown3)
     have hf3:Fr (From w1.heap.size) (w2.alloc (.cells #[.string d.orig] 9)) w3:=(Fr.of_grown hgrow3).mono (fun b _ e=>by have:=zN hown e;unfold From at *;omega);refine OnlyN.mk ⟨hf3,?_⟩
     repeat (apply zM;exact rfl;exact rfl;exact rfl;intro K hK;go_big_quiet_op;go_big_quiet_on)
     refine zS ?_
     go_wp2_with fail
     go_meet
     refine⟨av',cv',rfl,?_,?_⟩
     ·rw[List.map_append];exact zq hown3 (by omega)
     ·exact((hf0.step hf2 (fun _ _ h=>h)).alloc _).step hf3 (fun b hb h=>by unfold From at h;omega)
    ·go_wp2_with fail
     refine OnlyN.mk ⟨(Fr.refl _ _).alloc _,?_⟩;have hx:Fr No w0 (w0.alloc (.cells #[.string d.orig] 9)):=(Fr.refl _ _).alloc _;have hxb:=zB (zD w0 (.cells #[.string d.orig] 9)) 0;refine zH rfl ?_
     go_wp2_with fail
     refine(zBP a cap ds d.parent _ (hl0.no hx (fun _=>id)) (by omega)).mono ?_;rintro e w2 ⟨⟨v,rfl,hown⟩,hf2⟩;have hsz2:=hf2.size;rw[World.size_alloc]at hsz2 hown;have hxb2:=hf2.cell hxb id
     go_wp2_with fail
     refine OnlyN.mk ⟨hf2.mono (fun _ _ h=>h.elim),?_⟩;refine zH rfl ?_
     go_wp2_with (at_builtin;refine wpList_append_own _ rfl _ _ 44 rfl (w0.heap.size+1) 9 i0 (.string ByteArray.empty) 1 16 Tryz.underlying44 hi hz0 hz1 hz2 rfl (by decide) _ _ _ rfl hown ⟨w0.heap.size,0,none⟩ 1 1 [.string d.orig] rfl rfl (zIi hxb2) (zBO [d.orig]) (by unfold maxLen;omega) (by omega) (by omega) ?_;intro v' w3 hown3 hgrow3 _;obtain⟨av',cv',rfl⟩:=zG hown3)
     have hf3:Fr (From w1.heap.size) w2 w3:=(Fr.of_grown hgrow3).mono (fun b _ e=>by have:=zN hown e;unfold From at *;omega);refine OnlyN.mk ⟨hf3,?_⟩
     repeat (apply zM;exact rfl;exact rfl;exact rfl;intro K hK;go_big_quiet_op;go_big_quiet_on)
     refine zS ?_
     go_wp2_with fail
     go_meet
     refine⟨av',cv',rfl,?_,?_⟩
     ·rw[List.map_append];exact zq hown3 (by omega)
     ·exact((hf0.step hx (fun _ _ h=>h)).step hf2 (fun _ _ h=>h)).step hf3 (fun b hb h=>by unfold From at h;omega)
   case rest=>
    obtain⟨av,cv,rfl,hown,hf2⟩:=hcut;obtain⟨ow,how⟩:∃ ow,ow=origin ds d.parent++[d.orig]:=⟨_,rfl⟩
    have hlow:(origin ds d.parent).length+1=ow.length:=by rw[how];simp
    rw[<-how,hlow]at hown;rw[hlow];have How:=Lib.hid how;have Hlow:=Lib.hid hlow;have hol:ow.length<=1001:=by rw[<-hlow];unfold origin;simp;have:=zAu ds d.parent;omega
    obtain⟨_,_,ev,hSw,hfresh⟩:=Strs.of_own hown;cases ev;have hI2:=hI1.step hf2;have hl2:=hl1.no hf2 (fun _=>id);clear how hlow hown a0 a1 a2 a3 a4 a5 a6 a7 a8 a9 t0 r0 rf hfresh;by_cases h7:7<ow.length
    ·have h7':(7:Int)<ow.length:=by omega
     have r0:=hI2.r0;have rf:=hI2.rf
     go_wp2_with fail
     refine bodyPost_ret (v:=.tuple #[.agg #[.slice none 0 0],.int .i64 46]) (by simp[results,Tryz.results11,go_sem,r0]) rfl ?_;exact⟨InsRes.no (by decide),hI2.fin _⟩
    have h7':¬ (7:Int)<ow.length:=by omega
    go_wp2_with fail
    go_loopw [7,8] (fun atv iv wr=>∃ k q:Nat,k<=ds.length/\q<=k/\iv=.int .i64 k/\atv=.int .i64 q/\Hid (∀ (j:Nat) (e:Dev),j<k->ds[j]?=some e->cmpN (origin ds e.index) ow≠0/\(cmpN (origin ds e.index) ow<0->j<q))/\Fr No wc wr) (fun _ iv _=>ds.length-(intOf iv).toNat)
    case atStart=>exact⟨0,0,by omega,by omega,rfl,rfl,fun j e hj=>by omega,Fr.refl _ _⟩
    case round=>
     obtain⟨k,q,hk,hq,rfl,rfl,HQ,hfr⟩:=hrel;have hI3:=hI2.step hfr;have hl3:=hl2.no hfr (fun _=>id);have t0:=hI3.t0;by_cases hlt:k<ds.length
     ·have hlt':(k:Int)<ds.length:=by omega
      obtain⟨b,off,x,rfl,hx,hc⟩:=hl3.dev hlt;have hx32:=hT.sz x (List.mem_of_getElem? hx);have Hx:=Lib.hid hx
      go_wp2_with fail
      refine zR No [(0,false),(1,false),(2,false),(3,false),(4,false),(5,false),(6,false),(8,false),(7,true),(9,true),(10,false)] (by kernel_rfl) (by kernel_rfl) (fun w0 hf0=>?_);have g0:∀ g:Gr No w0,g.W.cell? ⟨w.heap.size,0,none⟩=some (.slice (some ⟨b,off,none⟩) ds.length cap):=fun g=>g.fr.cell (hf0.cell t0 id) id
      have g1:∀ g:Gr No w0,g.W.cell? ⟨b,off+k*10,none⟩=some (.int .i64 x.index):=fun g=>g.fr.cell (hf0.cell hc.c0 id) id
      clear hx
      repeat (apply zT;exact rfl;exact rfl;exact rfl;intro K hK;go_big_quiet_op;go_big_quiet_on)
      apply zi;exact rfl
      go_wp2_with fail
      refine(zBP (some ⟨b,off,none⟩) cap ds x.index _ (hl3.no hf0 (fun _=>id)) (by omega)).mono ?_;rintro e w3 ⟨⟨vo,rfl,hown3⟩,hf3⟩;obtain⟨ao,co,rfl,hSo,-⟩:=Strs.of_own hown3;have hSw3:=((hSw.no hfr (fun _=>id)).no hf0 (fun _=>id)).no hf3 (fun _=>id);clear g0 g1 hown3
      go_wp2_with fail
      refine OnlyN.mk ⟨hf3,?_⟩;apply zi;exact rfl
      go_wp2_with fail
      refine(zEy ao co _ av cv ow _ hSo hSw3).mono ?_;rintro e w4 ⟨rfl,hf4⟩;generalize hcc:cmpN (origin ds x.index) ow=c;have Hcc:=Lib.hid hcc;clear hcc hSo hSw3
      go_wp2_with fail
      refine OnlyN.mk ⟨hf4,?_⟩
      repeat (apply zT;exact rfl;exact rfl;exact rfl;intro K hK;go_big_quiet_op;go_big_quiet_on)
      refine zb ?_;have hfr4:=((hfr.step hf0 (fun _ _ h=>h)).step hf3 (fun _ _ h=>h)).step hf4 (fun _ _ h=>h);have hI4:=hI2.step hfr4;have hl4:=hl2.no hfr4 (fun _=>id);obtain⟨b',off',x',e',hx',hc'⟩:=hl4.dev hlt;cases e';obtain rfl:x=x':=by have:=Hx.out;rw[hx']at this;exact(Option.some.inj this).symm
      clear hx' hc t0
      go_wp2_with fail
      refine zR No [(0,false),(1,false),(2,false),(3,false),(4,false),(5,false),(6,false),(7,false),(8,false),(9,true),(10,false)] (by kernel_rfl) (by kernel_rfl) (fun w0' hf0'=>?_);by_cases hc0:c=0
      ·subst hc0
       repeat (first | (apply zT;exact rfl;exact rfl;exact rfl;intro K hK;go_big_quiet_op;go_big_quiet_on) | (apply zW;exact rfl;exact rfl;exact rfl;intro K hK;go_big_quiet_op;go_big_quiet_on))
       apply zi;exact rfl
       go_wp2_with fail
       refine OnlyN.mk ⟨Fr.refl _ _,?_⟩
       repeat (first | (apply zT;exact rfl;exact rfl;exact rfl;intro K hK;go_big_quiet_op;go_big_quiet_on) | (apply zW;exact rfl;exact rfl;exact rfl;intro K hK;go_big_quiet_op;go_big_quiet_on))
       refine zb ?_;have hI5:=hI4.step hf0';have r0:=hI5.r0;have rf:=hI5.rf
       go_wp2_with fail
       refine bodyPost_ret (v:=.tuple #[.agg #[.slice none 0 0],.int .i64 44]) (by simp[results,Tryz.results11,go_sem,r0]) rfl ?_;exact⟨InsRes.no (by decide),hI5.fin _⟩
      ·have hcb:(c==0)=false:=by simpa using hc0
       have Hc0:=Lib.hid hc0;have g0:∀ g:Gr No w0',g.W.cell? ⟨w.heap.size,0,none⟩=some (.slice (some ⟨b,off,none⟩) ds.length cap):=fun g=>g.fr.cell (hf0'.cell hI4.t0 id) id
       have e0:∀ g:Gr No w0',g.W.cell? ⟨b,off+k*10,none⟩=some (.int .i64 x.index):=fun g=>g.fr.cell (hf0'.cell hc'.c0 id) id
       have e1:∀ g:Gr No w0',g.W.cell? ⟨b,off+k*10+1,none⟩=some (.int .i64 x.parent):=fun g=>g.fr.cell (hf0'.cell hc'.c1 id) id
       have e2:∀ g:Gr No w0',g.W.cell? ⟨b,off+k*10+2,none⟩=some (.string x.name):=fun g=>g.fr.cell (hf0'.cell hc'.c2 id) id
       have e3:∀ g:Gr No w0',g.W.cell? ⟨b,off+k*10+3,none⟩=some (.string x.orig):=fun g=>g.fr.cell (hf0'.cell hc'.c3 id) id
       have e4:∀ g:Gr No w0',g.W.cell? ⟨b,off+k*10+4,none⟩=some (.string x.sub):=fun g=>g.fr.cell (hf0'.cell hc'.c4 id) id
       have e5:∀ g:Gr No w0',g.W.cell? ⟨b,off+k*10+5,none⟩=some (.string x.drv):=fun g=>g.fr.cell (hf0'.cell hc'.c5 id) id
       have e6:∀ g:Gr No w0',g.W.cell? ⟨b,off+k*10+6,none⟩=some (.string x.ali):=fun g=>g.fr.cell (hf0'.cell hc'.c6 id) id
       have e7:∀ g:Gr No w0',g.W.cell? ⟨b,off+k*10+7,none⟩=some (.int .i64 x.kind):=fun g=>g.fr.cell (hf0'.cell hc'.c7 id) id
       have e8:∀ g:Gr No w0',g.W.cell? ⟨b,off+k*10+8,none⟩=some (.int .i64 x.num):=fun g=>g.fr.cell (hf0'.cell hc'.c8 id) id
       have e9:∀ g:Gr No w0',g.W.cell? ⟨b,off+k*10+9,none⟩=some (.slice x.aa x.an x.ac):=fun g=>g.fr.cell (hf0'.cell hc'.c9 id) id
       obtain⟨a0,a1,a2,a3,a4,a5,a6,a7,a8,a9⟩:=(hI4.step hf0').at;simp only[Nat.zero_add]at a0 a1 a2 a3 a4 a5 a6 a7 a8 a9;have d0:∀ g:Gr No w0',g.W.cell? ⟨w.heap.size+1,0,none⟩=some (.int .i64 d.index):=fun g=>g.fr.cell a0 id
       have d1:∀ g:Gr No w0',g.W.cell? ⟨w.heap.size+1,1,none⟩=some (.int .i64 d.parent):=fun g=>g.fr.cell a1 id
       have d2:∀ g:Gr No w0',g.W.cell? ⟨w.heap.size+1,2,none⟩=some (.string d.name):=fun g=>g.fr.cell a2 id
       have d3:∀ g:Gr No w0',g.W.cell? ⟨w.heap.size+1,3,none⟩=some (.string d.orig):=fun g=>g.fr.cell a3 id
       have d4:∀ g:Gr No w0',g.W.cell? ⟨w.heap.size+1,4,none⟩=some (.string d.sub):=fun g=>g.fr.cell a4 id
       have d5:∀ g:Gr No w0',g.W.cell? ⟨w.heap.size+1,5,none⟩=some (.string d.drv):=fun g=>g.fr.cell a5 id
       have d6:∀ g:Gr No w0',g.W.cell? ⟨w.heap.size+1,6,none⟩=some (.string d.ali):=fun g=>g.fr.cell a6 id
       have d7:∀ g:Gr No w0',g.W.cell? ⟨w.heap.size+1,7,none⟩=some (.int .i64 d.kind):=fun g=>g.fr.cell a7 id
       have d8:∀ g:Gr No w0',g.W.cell? ⟨w.heap.size+1,8,none⟩=some (.int .i64 d.num):=fun g=>g.fr.cell a8 id
       have d9:∀ g:Gr No w0',g.W.cell? ⟨w.heap.size+1,9,none⟩=some (.slice d.aa d.an d.ac):=fun g=>g.fr.cell a9 id
       clear a0 a1 a2 a3 a4 a5 a6 a7 a8 a9 hc' hc0
       repeat (apply zT;exact rfl;exact rfl;exact rfl;intro K hK;go_big_quiet_op;go_big_quiet_on)
       apply zi;exact rfl
       go_wp2_with fail
       refine(zJh x d m _ hx32 Hok2.out.orig.1 ((hI4.step hf0').fr.cell hm id) (by have:=(hI4.step hf0').size;omega)).mono ?_;rintro e w5 ⟨⟨bb,rfl⟩,hf5⟩
       go_wp2_with fail
       refine OnlyN.mk ⟨hf5,?_⟩;clear e0 e1 e2 e3 e4 e5 e6 e7 e8 e9 d0 d1 d2 d3 d4 d5 d6 d7 d8 d9 g0
       repeat (apply zT;exact rfl;exact rfl;exact rfl;intro K hK;go_big_quiet_op;go_big_quiet_on)
       refine zb ?_;have hfr5:=(hfr4.step hf0' (fun _ _ h=>h)).step hf5 (fun _ _ h=>h);have hI5:=hI2.step hfr5;cases bb
       case true=>
        have r0:=hI5.r0;have rf:=hI5.rf
        go_wp2_with fail
        refine bodyPost_ret (v:=.tuple #[.agg #[.slice none 0 0],.int .i64 44]) (by simp[results,Tryz.results11,go_sem,r0]) rfl ?_;exact⟨InsRes.no (by decide),hI5.fin _⟩
       case false=>
        by_cases hneg:c<0
        ·go_wp2_with fail
         go_roundw
         case rel=>
          refine⟨k+1,k+1,by omega,by omega,by go_num,by go_num,fun j e hj he=>?_,hfr5⟩;by_cases hjk:j<k
          ·have h1:=HQ.out j e hjk he;exact⟨h1.1,fun h=>by have:=h1.2 h;omega⟩
          ·obtain rfl:j=k:=by omega
           have:=Hx.out;rw[he]at this;cases this;rw[Hcc.out];exact⟨Hc0.out,fun _=>by omega⟩
         case measure=>simp[intOf];omega
        ·have Hneg:=Lib.hid hneg
         go_wp2_with fail
         go_roundw
         case rel=>
          refine⟨k+1,q,by omega,by omega,by go_num,rfl,fun j e hj he=>?_,hfr5⟩;by_cases hjk:j<k
          ·exact HQ.out j e hjk he
          ·obtain rfl:j=k:=by omega
           have:=Hx.out;rw[he]at this;cases this;rw[Hcc.out];exact⟨Hc0.out,fun h=>absurd h Hneg.out⟩
         case measure=>simp[intOf];omega
     ·obtain rfl:k=ds.length:=by omega
      have hpq:d.parent=0\/∃ (j:Nat) (e:Dev),j<q/\ds[j]?=some e/\e.index=d.parent:=by
       rcases Hpar.out with h | ⟨p,hp⟩
       ·exact .inl h
       ·obtain⟨hpm,hpi⟩:=zAE hp;obtain⟨j,hj⟩:=List.getElem?_of_mem hpm;have hjl:j<ds.length:=(List.getElem?_eq_some_iff.1 hj).1;refine .inr ⟨j,p,((HQ.out j p hjl hj).2 ?_),hj,hpi⟩;rw[hpi,How.out,zEi];omega
      have hog:∀ e∈ds,origin ds e.index≠origin ds d.parent++[d.orig]:=fun e he h=>by
       obtain⟨j,hj⟩:=List.getElem?_of_mem he;have hjl:j<ds.length:=(List.getElem?_eq_some_iff.1 hj).1;apply (HQ.out j e hjl hj).1;rw[h,<-How.out];have hself:∀ x:List ByteArray,cmpN x x=0:=fun x=>by
        induction x with
        | nil=>rfl
        | cons y t ih=>rw[cmpN,if_pos rfl,ih]
       exact hself _
      have hdep:(origin ds d.parent).length<7:=by have:=Hlow.out;omega
      have Hfin:=Lib.hid (And.intro hpq (And.intro hog hdep));clear hpq hog hdep;obtain⟨i0,hi,hz0,hz1,hz2⟩:=info_parts infoD;have hsz3:=hI3.size
      go_upto_region 22 with(fail)
      generalize hX:wr.alloc (.cells #[.slice none 0 0] 28)=X;have hXb:X.heap[wr.heap.size]?=some (.cells #[.slice none 0 0] 28):=by rw[<-hX];exact zD _ _
      have hXf:Fr No wr X:=by rw[<-hX];exact(Fr.refl _ _).alloc _
      have hXs:X.heap.size=wr.heap.size+1:=by rw[<-hX];simp
      have HXs:=Lib.hid hXs;have hXs':wr.heap.size<X.heap.size:=by omega
      have hIX:=hI3.step hXf;have hlX:=hl3.no hXf (fun _=>id);clear hX t0 hXs
      go_cut [] (fun wx=>∃ a' c',wx.heap[wr.heap.size]?=some (.cells #[.slice a' (ds.length+1) c'] 28)/\wx.ownsRow wr.heap.size 34 10 (.slice a' (ds.length+1) c') (ds.length+1) (flat (insAt ds q d))/\Fr (From wr.heap.size) wr wx)
      case first=>
       refine zY (From wr.heap.size) (.q 0 (.q 2 (.q 3 (.q 4 (.q 5 (.q 7 (.q 10 (.q 11 (.q 12 (.q 13 (.m2 1 (.m2 6 (.m1 8 (.m1 9 (.m1 14 (.q 15 (.m1 16 .fin))))) 8 (.m1 6 (.m1 9 (.m1 14 (.q 15 (.m1 16 .fin)))))) 8 (.m1 1 (.m1 6 (.m1 9 (.m1 14 (.q 15 (.m1 16 .fin))))))))))))))))) _ (by kernel_rfl) (by kernel_rfl) (fun w0 hf0=>?_) (fun _ _ h=>h);have hX0:=hXf.step hf0 (fun _ _ h=>h);have hI0:=hIX.step hf0;have hl0:=hlX.no hf0 (fun _=>id);have hb0:=hf0.heap hXb id;have hs0:=hf0.size;have g0:∀ g:Gr (From wr.heap.size) w0,g.W.cell? ⟨w.heap.size,0,none⟩=some (.slice a ds.length cap):=fun g=>g.fr.cell hI0.t0 (by unfold From;simp;omega)
       obtain⟨a0,a1,a2,a3,a4,a5,a6,a7,a8,a9⟩:=hI0.at;simp only[Nat.zero_add]at a0 a1 a2 a3 a4 a5 a6 a7 a8 a9;have nf:¬ From wr.heap.size (w.heap.size+1):=by unfold From;omega
       have d0:∀ g:Gr (From wr.heap.size) w0,g.W.cell? ⟨w.heap.size+1,0,none⟩=some (.int .i64 d.index):=fun g=>g.fr.cell a0 nf
       have d1:∀ g:Gr (From wr.heap.size) w0,g.W.cell? ⟨w.heap.size+1,1,none⟩=some (.int .i64 d.parent):=fun g=>g.fr.cell a1 nf
       have d2:∀ g:Gr (From wr.heap.size) w0,g.W.cell? ⟨w.heap.size+1,2,none⟩=some (.string d.name):=fun g=>g.fr.cell a2 nf
       have d3:∀ g:Gr (From wr.heap.size) w0,g.W.cell? ⟨w.heap.size+1,3,none⟩=some (.string d.orig):=fun g=>g.fr.cell a3 nf
       have d4:∀ g:Gr (From wr.heap.size) w0,g.W.cell? ⟨w.heap.size+1,4,none⟩=some (.string d.sub):=fun g=>g.fr.cell a4 nf
       have d5:∀ g:Gr (From wr.heap.size) w0,g.W.cell? ⟨w.heap.size+1,5,none⟩=some (.string d.drv):=fun g=>g.fr.cell a5 nf
       have d6:∀ g:Gr (From wr.heap.size) w0,g.W.cell? ⟨w.heap.size+1,6,none⟩=some (.string d.ali):=fun g=>g.fr.cell a6 nf
       have d7:∀ g:Gr (From wr.heap.size) w0,g.W.cell? ⟨w.heap.size+1,7,none⟩=some (.int .i64 d.kind):=fun g=>g.fr.cell a7 nf
       have d8:∀ g:Gr (From wr.heap.size) w0,g.W.cell? ⟨w.heap.size+1,8,none⟩=some (.int .i64 d.num):=fun g=>g.fr.cell a8 nf
       have d9:∀ g:Gr (From wr.heap.size) w0,g.W.cell? ⟨w.heap.size+1,9,none⟩=some (.slice d.aa d.an d.ac):=fun g=>g.fr.cell a9 nf
       clear a0 a1 a2 a3 a4 a5 a6 a7 a8 a9;have hcap:=hl.len;have hq':q<=cap:=by omega
       rcases a with _ | ad
       ·have hnil:ds.length=0/\cap=0:=by have:=hl.isNil rfl;exact⟨by rw[this.1];rfl,this.2⟩
        have hn1:=hnil.1;have hn2:=hnil.2;have Hn1:=Lib.hid hn1;have Hn2:=Lib.hid hn2;clear hn1 hn2 hnil
        repeat (apply zM;exact rfl;exact rfl;exact rfl;intro K hK;go_big_quiet_op;go_big_quiet_on)
        clear d0 d1 d2 d3 d4 d5 d6 d7 d8 d9 g0;refine zh rfl rfl ?_ ?_
        ·have x0:w0.cell? ⟨wr.heap.size,0,none⟩=some (.slice none 0 0):=zB hb0 0
         go_wp2_with fail
         refine OnlyN.mk ⟨Fr.refl _ _,?_⟩;clear x0;refine zh rfl rfl ?_ ?_
         focus
          go_wp2_with (at_builtin;refine zI rfl _ _ 26 rfl w0.heap.size 34 i0 (.agg #[.int .i64 0,.int .i64 0,.string ByteArray.empty,.string ByteArray.empty,.string ByteArray.empty,.string ByteArray.empty,.string ByteArray.empty,.int .i64 0,.int .i64 0,.slice none 0 0]) 10 136 Tryz.underlying26 hi hz0 hz1 hz2 rfl (by decide) _ 0 [] rfl (World.ownsRow_nil _ _ _ _) _ q _ (flat (ds.take q)) rfl (fun _=>⟨by have:=Hn1.out;omega,by have:=Hn2.out;omega⟩) (by rw[zw,List.length_take,Nat.min_eq_left hq]) (fun ad' e=>by cases e) (zAB _) (by unfold maxLen;omega) (by omega) (by omega) ?_;intro v6 w6 own6 gr6;obtain⟨a6,c6,rfl⟩:=zG own6)
          simp only[Nat.zero_add,List.nil_append]at own6;have f6:Fr No w0 w6:=(Fr.of_grown gr6).mono (fun b _ e=>by cases e);refine OnlyN.mk ⟨f6.mono (fun _ _ h=>h.elim),?_⟩;refine zH rfl ?_
          go_wp2_with fail
          refine OnlyN.mk ⟨(Fr.refl _ _).alloc _,?_⟩;have o6:=own6.alloc (.cells #[.int .i64 d.index,.int .i64 d.parent,.string d.name,.string d.orig,.string d.sub,.string d.drv,.string d.ali,.int .i64 d.kind,.int .i64 d.num,.slice d.aa d.an d.ac] 34);refine zH rfl ?_
          go_wp2_with (at_builtin;refine zI rfl _ _ 26 rfl w0.heap.size 34 i0 (.agg #[.int .i64 0,.int .i64 0,.string ByteArray.empty,.string ByteArray.empty,.string ByteArray.empty,.string ByteArray.empty,.string ByteArray.empty,.int .i64 0,.int .i64 0,.slice none 0 0]) 10 136 Tryz.underlying26 hi hz0 hz1 hz2 rfl (by decide) _ _ _ rfl o6 (some ⟨w6.heap.size,0,none⟩) 1 1 d.vals.toList rfl (fun e=>by cases e) rfl (fun ad' e=>by cases e;exact zX _ d.vals _ rfl) (zv d) (by unfold maxLen;omega) (by omega) (by have:=(((Fr.refl (From w0.heap.size) w0).step f6 (fun _ _ h=>h.elim)).alloc (.cells #[.int .i64 d.index,.int .i64 d.parent,.string d.name,.string d.orig,.string d.sub,.string d.drv,.string d.ali,.int .i64 d.kind,.int .i64 d.num,.slice d.aa d.an d.ac] 34)).size;omega) ?_;intro v9 w9 own9 gr9;obtain⟨a9,c9,rfl⟩:=zG own9)
          have f9:Fr (From w0.heap.size) w0 w9:=(((Fr.refl (From w0.heap.size) w0).step f6 (fun _ _ h=>h.elim)).alloc (.cells #[.int .i64 d.index,.int .i64 d.parent,.string d.name,.string d.orig,.string d.sub,.string d.drv,.string d.ali,.int .i64 d.kind,.int .i64 d.num,.slice d.aa d.an d.ac] 34)).step (zm o6 gr9) (fun _ _ h=>h);refine OnlyN.mk ⟨(zm o6 gr9).mono (fun b _ h=>by unfold From at *;omega),?_⟩
         rotate_left 1
         focus
          go_wp2_with fail
          refine OnlyN.mk ⟨(Fr.refl _ _).alloc _,?_⟩;have hx8:Fr No w0 (w0.alloc (.cells #[.int .i64 d.index,.int .i64 d.parent,.string d.name,.string d.orig,.string d.sub,.string d.drv,.string d.ali,.int .i64 d.kind,.int .i64 d.num,.slice d.aa d.an d.ac] 34)):=(Fr.refl _ _).alloc _;refine zH rfl ?_
          go_wp2_with (at_builtin;refine zI rfl _ _ 26 rfl w0.heap.size 34 i0 (.agg #[.int .i64 0,.int .i64 0,.string ByteArray.empty,.string ByteArray.empty,.string ByteArray.empty,.string ByteArray.empty,.string ByteArray.empty,.int .i64 0,.int .i64 0,.slice none 0 0]) 10 136 Tryz.underlying26 hi hz0 hz1 hz2 rfl (by decide) _ 0 [] rfl (World.ownsRow_nil _ _ _ _) _ q _ (flat (ds.take q)) rfl (fun _=>⟨by have:=Hn1.out;omega,by have:=Hn2.out;omega⟩) (by rw[zw,List.length_take,Nat.min_eq_left hq]) (fun ad' e=>by cases e) (zAB _) (by unfold maxLen;omega) (by omega) (by simp) ?_;intro v6 w6 own6 gr6;obtain⟨a6,c6,rfl⟩:=zG own6)
          simp only[Nat.zero_add,List.nil_append]at own6;have f6:Fr No (w0.alloc (.cells #[.int .i64 d.index,.int .i64 d.parent,.string d.name,.string d.orig,.string d.sub,.string d.drv,.string d.ali,.int .i64 d.kind,.int .i64 d.num,.slice d.aa d.an d.ac] 34)) w6:=(Fr.of_grown gr6).mono (fun b _ e=>by cases e);refine OnlyN.mk ⟨f6.mono (fun _ _ h=>h.elim),?_⟩;have hc8:=zBW (zX w0 d.vals 34 rfl) f6;refine zH rfl ?_;have f06:Fr (From w0.heap.size) w0 w6:=(hx8.step f6 (fun _ _ h=>h)).mono (fun _ _ h=>h.elim)
          go_wp2_with (at_builtin;refine zI rfl _ _ 26 rfl w0.heap.size 34 i0 (.agg #[.int .i64 0,.int .i64 0,.string ByteArray.empty,.string ByteArray.empty,.string ByteArray.empty,.string ByteArray.empty,.string ByteArray.empty,.int .i64 0,.int .i64 0,.slice none 0 0]) 10 136 Tryz.underlying26 hi hz0 hz1 hz2 rfl (by decide) _ _ _ rfl own6 (some ⟨w0.heap.size,0,none⟩) 1 1 d.vals.toList rfl (fun e=>by cases e) rfl (fun ad' e=>by cases e;exact hc8) (zv d) (by unfold maxLen;omega) (by omega) (by have:=f06.size;omega) ?_;intro v9 w9 own9 gr9;obtain⟨a9,c9,rfl⟩:=zG own9)
          have f9:Fr (From w0.heap.size) w0 w9:=f06.step (zm own6 gr9) (fun _ _ h=>h);refine OnlyN.mk ⟨(zm own6 gr9).mono (fun b _ h=>by unfold From at *;omega),?_⟩
         all_goals (
          refine zH rfl ?_
          go_wp2_with (at_builtin;refine zI rfl _ _ 26 rfl w0.heap.size 34 i0 (.agg #[.int .i64 0,.int .i64 0,.string ByteArray.empty,.string ByteArray.empty,.string ByteArray.empty,.string ByteArray.empty,.string ByteArray.empty,.int .i64 0,.int .i64 0,.slice none 0 0]) 10 136 Tryz.underlying26 hi hz0 hz1 hz2 rfl (by decide) _ _ _ rfl own9 _ (ds.length-q) _ (flat (ds.drop q)) rfl (fun _=>⟨by have:=Hn1.out;omega,by have:=Hn2.out;omega⟩) (by rw[zw,List.length_drop]) (fun ad' e=>by cases e) (zAB _) (by unfold maxLen;omega) (by omega) (by have:=f9.size;omega) ?_;intro v14 w14 own14 gr14;obtain⟨a14,c14,rfl⟩:=zG own14)
          have f14:Fr (From w0.heap.size) w0 w14:=f9.step (zm own9 gr14) (fun _ _ h=>h);refine OnlyN.mk ⟨(zm own9 gr14).mono (fun b _ h=>by unfold From at *;omega),?_⟩
          repeat (apply zM;exact rfl;exact rfl;exact rfl;intro K hK;go_big_quiet_op;go_big_quiet_on)
          refine zH rfl ?_;have hb14:=f14.heap hb0 (by unfold From;omega);have x14:w14.cell? ⟨wr.heap.size,0,none⟩=some (.slice none 0 0):=zB hb14 0;have z14:w14.frozen? ⟨wr.heap.size,0,none⟩=false:=zC hb14 0;have en:q+1+(ds.length-q)=ds.length+1:=by omega
          rw[en,zBV]at own14;rw[en];have Hend:=Lib.hid (zCE hX0 f14 hb14 own14 (by omega));clear own14 gr14 own9 gr9 own6 gr6 en hb14 f14 f9 f6
          go_wp2_with fail
          refine OnlyN.mk ⟨(Fr.refl _ _).setCell (p:=⟨wr.heap.size,0,none⟩) (fun _=>Nat.le_refl _) _,?_⟩;refine zS ?_
          go_wp2_with fail
          go_meet
          exact⟨a14,c14,Hend.out⟩
          )
        ·go_wp2_with fail
         refine OnlyN.mk ⟨(Fr.refl _ _).alloc _,?_⟩;have hx8:Fr No w0 (w0.alloc (.cells #[.int .i64 d.index,.int .i64 d.parent,.string d.name,.string d.orig,.string d.sub,.string d.drv,.string d.ali,.int .i64 d.kind,.int .i64 d.num,.slice d.aa d.an d.ac] 34)):=(Fr.refl _ _).alloc _;refine zH rfl ?_;have x0:(w0.alloc (.cells #[.int .i64 d.index,.int .i64 d.parent,.string d.name,.string d.orig,.string d.sub,.string d.drv,.string d.ali,.int .i64 d.kind,.int .i64 d.num,.slice d.aa d.an d.ac] 34)).cell? ⟨wr.heap.size,0,none⟩=some (.slice none 0 0):=zB (hx8.heap hb0 id) 0
         go_wp2_with fail
         refine OnlyN.mk ⟨Fr.refl _ _,?_⟩;clear x0;refine zH rfl ?_
         go_wp2_with (at_builtin;refine zI rfl _ _ 26 rfl w0.heap.size 34 i0 (.agg #[.int .i64 0,.int .i64 0,.string ByteArray.empty,.string ByteArray.empty,.string ByteArray.empty,.string ByteArray.empty,.string ByteArray.empty,.int .i64 0,.int .i64 0,.slice none 0 0]) 10 136 Tryz.underlying26 hi hz0 hz1 hz2 rfl (by decide) _ 0 [] rfl (World.ownsRow_nil _ _ _ _) _ q _ (flat (ds.take q)) rfl (fun _=>⟨by have:=Hn1.out;omega,by have:=Hn2.out;omega⟩) (by rw[zw,List.length_take,Nat.min_eq_left hq]) (fun ad' e=>by cases e) (zAB _) (by unfold maxLen;omega) (by omega) (by simp) ?_;intro v6 w6 own6 gr6;obtain⟨a6,c6,rfl⟩:=zG own6)
         simp only[Nat.zero_add,List.nil_append]at own6;have f6:Fr No (w0.alloc (.cells #[.int .i64 d.index,.int .i64 d.parent,.string d.name,.string d.orig,.string d.sub,.string d.drv,.string d.ali,.int .i64 d.kind,.int .i64 d.num,.slice d.aa d.an d.ac] 34)) w6:=(Fr.of_grown gr6).mono (fun b _ e=>by cases e);refine OnlyN.mk ⟨f6.mono (fun _ _ h=>h.elim),?_⟩;have hc8:=zBW (zX w0 d.vals 34 rfl) f6;refine zH rfl ?_;have f06:Fr (From w0.heap.size) w0 w6:=(hx8.step f6 (fun _ _ h=>h)).mono (fun _ _ h=>h.elim)
         go_wp2_with (at_builtin;refine zI rfl _ _ 26 rfl w0.heap.size 34 i0 (.agg #[.int .i64 0,.int .i64 0,.string ByteArray.empty,.string ByteArray.empty,.string ByteArray.empty,.string ByteArray.empty,.string ByteArray.empty,.int .i64 0,.int .i64 0,.slice none 0 0]) 10 136 Tryz.underlying26 hi hz0 hz1 hz2 rfl (by decide) _ _ _ rfl own6 (some ⟨w0.heap.size,0,none⟩) 1 1 d.vals.toList rfl (fun e=>by cases e) rfl (fun ad' e=>by cases e;exact hc8) (zv d) (by unfold maxLen;omega) (by omega) (by have:=f06.size;omega) ?_;intro v9 w9 own9 gr9;obtain⟨a9,c9,rfl⟩:=zG own9)
         have f9:Fr (From w0.heap.size) w0 w9:=f06.step (zm own6 gr9) (fun _ _ h=>h);refine OnlyN.mk ⟨(zm own6 gr9).mono (fun b _ h=>by unfold From at *;omega),?_⟩;refine zH rfl ?_
         go_wp2_with (at_builtin;refine zI rfl _ _ 26 rfl w0.heap.size 34 i0 (.agg #[.int .i64 0,.int .i64 0,.string ByteArray.empty,.string ByteArray.empty,.string ByteArray.empty,.string ByteArray.empty,.string ByteArray.empty,.int .i64 0,.int .i64 0,.slice none 0 0]) 10 136 Tryz.underlying26 hi hz0 hz1 hz2 rfl (by decide) _ _ _ rfl own9 _ (ds.length-q) _ (flat (ds.drop q)) rfl (fun _=>⟨by have:=Hn1.out;omega,by have:=Hn2.out;omega⟩) (by rw[zw,List.length_drop]) (fun ad' e=>by cases e) (zAB _) (by unfold maxLen;omega) (by omega) (by have:=f9.size;omega) ?_;intro v14 w14 own14 gr14;obtain⟨a14,c14,rfl⟩:=zG own14)
         have f14:Fr (From w0.heap.size) w0 w14:=f9.step (zm own9 gr14) (fun _ _ h=>h);refine OnlyN.mk ⟨(zm own9 gr14).mono (fun b _ h=>by unfold From at *;omega),?_⟩
         repeat (apply zM;exact rfl;exact rfl;exact rfl;intro K hK;go_big_quiet_op;go_big_quiet_on)
         refine zH rfl ?_;have hb14:=f14.heap hb0 (by unfold From;omega);have x14:w14.cell? ⟨wr.heap.size,0,none⟩=some (.slice none 0 0):=zB hb14 0;have z14:w14.frozen? ⟨wr.heap.size,0,none⟩=false:=zC hb14 0;have en:q+1+(ds.length-q)=ds.length+1:=by omega
         rw[en,zBV]at own14;rw[en];have Hend:=Lib.hid (zCE hX0 f14 hb14 own14 (by omega));clear own14 gr14 own9 gr9 own6 gr6 en hb14 f14 f9 f6
         go_wp2_with fail
         refine OnlyN.mk ⟨(Fr.refl _ _).setCell (p:=⟨wr.heap.size,0,none⟩) (fun _=>Nat.le_refl _) _,?_⟩;refine zS ?_
         go_wp2_with fail
         go_meet
         exact⟨a14,c14,Hend.out⟩
       ·by_cases hcq:cap=q
        ·subst hcq;have Hdn:Hid (ds.drop cap=[]):=List.drop_of_length_le (by omega)
         repeat (apply zM;exact rfl;exact rfl;exact rfl;intro K hK;go_big_quiet_op;go_big_quiet_on)
         clear d0 d1 d2 d3 d4 d5 d6 d7 d8 d9 g0;refine zh rfl rfl ?_ ?_
         ·have x0:w0.cell? ⟨wr.heap.size,0,none⟩=some (.slice none 0 0):=zB hb0 0
          go_wp2_with fail
          refine OnlyN.mk ⟨Fr.refl _ _,?_⟩;clear x0;refine zh rfl rfl ?_ ?_
          focus
           go_wp2_with (at_builtin;refine zI rfl _ _ 26 rfl w0.heap.size 34 i0 (.agg #[.int .i64 0,.int .i64 0,.string ByteArray.empty,.string ByteArray.empty,.string ByteArray.empty,.string ByteArray.empty,.string ByteArray.empty,.int .i64 0,.int .i64 0,.slice none 0 0]) 10 136 Tryz.underlying26 hi hz0 hz1 hz2 rfl (by decide) _ 0 [] rfl (World.ownsRow_nil _ _ _ _) _ cap _ (flat (ds.take cap)) rfl (fun e=>by cases e) (by rw[zw,List.length_take,Nat.min_eq_left hq]) (fun ad' e=>hl0.src_take cap ad' e) (zAB _) (by unfold maxLen;omega) (by omega) (by omega) ?_;intro v6 w6 own6 gr6;obtain⟨a6,c6,rfl⟩:=zG own6)
           simp only[Nat.zero_add,List.nil_append]at own6;have f6:Fr No w0 w6:=(Fr.of_grown gr6).mono (fun b _ e=>by cases e);refine OnlyN.mk ⟨f6.mono (fun _ _ h=>h.elim),?_⟩;refine zH rfl ?_
           go_wp2_with fail
           refine OnlyN.mk ⟨(Fr.refl _ _).alloc _,?_⟩;have o6:=own6.alloc (.cells #[.int .i64 d.index,.int .i64 d.parent,.string d.name,.string d.orig,.string d.sub,.string d.drv,.string d.ali,.int .i64 d.kind,.int .i64 d.num,.slice d.aa d.an d.ac] 34);refine zH rfl ?_
           go_wp2_with (at_builtin;refine zI rfl _ _ 26 rfl w0.heap.size 34 i0 (.agg #[.int .i64 0,.int .i64 0,.string ByteArray.empty,.string ByteArray.empty,.string ByteArray.empty,.string ByteArray.empty,.string ByteArray.empty,.int .i64 0,.int .i64 0,.slice none 0 0]) 10 136 Tryz.underlying26 hi hz0 hz1 hz2 rfl (by decide) _ _ _ rfl o6 (some ⟨w6.heap.size,0,none⟩) 1 1 d.vals.toList rfl (fun e=>by cases e) rfl (fun ad' e=>by cases e;exact zX _ d.vals _ rfl) (zv d) (by unfold maxLen;omega) (by omega) (by have:=(((Fr.refl (From w0.heap.size) w0).step f6 (fun _ _ h=>h.elim)).alloc (.cells #[.int .i64 d.index,.int .i64 d.parent,.string d.name,.string d.orig,.string d.sub,.string d.drv,.string d.ali,.int .i64 d.kind,.int .i64 d.num,.slice d.aa d.an d.ac] 34)).size;omega) ?_;intro v9 w9 own9 gr9;obtain⟨a9,c9,rfl⟩:=zG own9)
           have f9:Fr (From w0.heap.size) w0 w9:=(((Fr.refl (From w0.heap.size) w0).step f6 (fun _ _ h=>h.elim)).alloc (.cells #[.int .i64 d.index,.int .i64 d.parent,.string d.name,.string d.orig,.string d.sub,.string d.drv,.string d.ali,.int .i64 d.kind,.int .i64 d.num,.slice d.aa d.an d.ac] 34)).step (zm o6 gr9) (fun _ _ h=>h);refine OnlyN.mk ⟨(zm o6 gr9).mono (fun b _ h=>by unfold From at *;omega),?_⟩
          rotate_left 1
          focus
           go_wp2_with fail
           refine OnlyN.mk ⟨(Fr.refl _ _).alloc _,?_⟩;have hx8:Fr No w0 (w0.alloc (.cells #[.int .i64 d.index,.int .i64 d.parent,.string d.name,.string d.orig,.string d.sub,.string d.drv,.string d.ali,.int .i64 d.kind,.int .i64 d.num,.slice d.aa d.an d.ac] 34)):=(Fr.refl _ _).alloc _;refine zH rfl ?_
           go_wp2_with (at_builtin;refine zI rfl _ _ 26 rfl w0.heap.size 34 i0 (.agg #[.int .i64 0,.int .i64 0,.string ByteArray.empty,.string ByteArray.empty,.string ByteArray.empty,.string ByteArray.empty,.string ByteArray.empty,.int .i64 0,.int .i64 0,.slice none 0 0]) 10 136 Tryz.underlying26 hi hz0 hz1 hz2 rfl (by decide) _ 0 [] rfl (World.ownsRow_nil _ _ _ _) _ cap _ (flat (ds.take cap)) rfl (fun e=>by cases e) (by rw[zw,List.length_take,Nat.min_eq_left hq]) (fun ad' e=>(hl0.no hx8 (fun _=>id)).src_take cap ad' e) (zAB _) (by unfold maxLen;omega) (by omega) (by simp) ?_;intro v6 w6 own6 gr6;obtain⟨a6,c6,rfl⟩:=zG own6)
           simp only[Nat.zero_add,List.nil_append]at own6;have f6:Fr No (w0.alloc (.cells #[.int .i64 d.index,.int .i64 d.parent,.string d.name,.string d.orig,.string d.sub,.string d.drv,.string d.ali,.int .i64 d.kind,.int .i64 d.num,.slice d.aa d.an d.ac] 34)) w6:=(Fr.of_grown gr6).mono (fun b _ e=>by cases e);refine OnlyN.mk ⟨f6.mono (fun _ _ h=>h.elim),?_⟩;have hc8:=zBW (zX w0 d.vals 34 rfl) f6;refine zH rfl ?_;have f06:Fr (From w0.heap.size) w0 w6:=(hx8.step f6 (fun _ _ h=>h)).mono (fun _ _ h=>h.elim)
           go_wp2_with (at_builtin;refine zI rfl _ _ 26 rfl w0.heap.size 34 i0 (.agg #[.int .i64 0,.int .i64 0,.string ByteArray.empty,.string ByteArray.empty,.string ByteArray.empty,.string ByteArray.empty,.string ByteArray.empty,.int .i64 0,.int .i64 0,.slice none 0 0]) 10 136 Tryz.underlying26 hi hz0 hz1 hz2 rfl (by decide) _ _ _ rfl own6 (some ⟨w0.heap.size,0,none⟩) 1 1 d.vals.toList rfl (fun e=>by cases e) rfl (fun ad' e=>by cases e;exact hc8) (zv d) (by unfold maxLen;omega) (by omega) (by have:=f06.size;omega) ?_;intro v9 w9 own9 gr9;obtain⟨a9,c9,rfl⟩:=zG own9)
           have f9:Fr (From w0.heap.size) w0 w9:=f06.step (zm own6 gr9) (fun _ _ h=>h);refine OnlyN.mk ⟨(zm own6 gr9).mono (fun b _ h=>by unfold From at *;omega),?_⟩
          all_goals (
           refine zH rfl ?_
           go_wp2_with (at_builtin;refine zI rfl _ _ 26 rfl w0.heap.size 34 i0 (.agg #[.int .i64 0,.int .i64 0,.string ByteArray.empty,.string ByteArray.empty,.string ByteArray.empty,.string ByteArray.empty,.string ByteArray.empty,.int .i64 0,.int .i64 0,.slice none 0 0]) 10 136 Tryz.underlying26 hi hz0 hz1 hz2 rfl (by decide) _ _ _ rfl own9 _ 0 _ [] rfl (fun e=>by cases e) rfl (fun ad' e j u hu=>by simp at hu) (by simp) (by unfold maxLen;omega) (by omega) (by have:=f9.size;omega) ?_;intro v14 w14 own14 gr14;obtain⟨a14,c14,rfl⟩:=zG own14)
           have f14:Fr (From w0.heap.size) w0 w14:=f9.step (zm own9 gr14) (fun _ _ h=>h);refine OnlyN.mk ⟨(zm own9 gr14).mono (fun b _ h=>by unfold From at *;omega),?_⟩
           repeat (apply zM;exact rfl;exact rfl;exact rfl;intro K hK;go_big_quiet_op;go_big_quiet_on)
           refine zH rfl ?_;have hb14:=f14.heap hb0 (by unfold From;omega);have x14:w14.cell? ⟨wr.heap.size,0,none⟩=some (.slice none 0 0):=zB hb14 0;have z14:w14.frozen? ⟨wr.heap.size,0,none⟩=false:=zC hb14 0;have en:cap+1+0=ds.length+1:=by omega
           have e0:(flat (ds.take cap)++d.vals.toList++[])=flat (ds.take cap)++d.vals.toList++flat (ds.drop cap):=by rw[Hdn.out];rfl
           simp only[List.append_nil,Nat.add_zero]at own14 e0 en;rw[en,e0,zBV]at own14
           try rw[en]
           have Hend:=Lib.hid (zCE hX0 f14 hb14 own14 (by omega));clear own14 gr14 own9 gr9 own6 gr6 en hb14 f14 f9 f6
           go_wp2_with fail
           refine OnlyN.mk ⟨(Fr.refl _ _).setCell (p:=⟨wr.heap.size,0,none⟩) (fun _=>Nat.le_refl _) _,?_⟩;refine zS ?_
           go_wp2_with fail
           go_meet
           exact⟨a14,c14,Hend.out⟩
           )
         ·go_wp2_with fail
          refine OnlyN.mk ⟨(Fr.refl _ _).alloc _,?_⟩;have hx8:Fr No w0 (w0.alloc (.cells #[.int .i64 d.index,.int .i64 d.parent,.string d.name,.string d.orig,.string d.sub,.string d.drv,.string d.ali,.int .i64 d.kind,.int .i64 d.num,.slice d.aa d.an d.ac] 34)):=(Fr.refl _ _).alloc _;refine zH rfl ?_;have x0:(w0.alloc (.cells #[.int .i64 d.index,.int .i64 d.parent,.string d.name,.string d.orig,.string d.sub,.string d.drv,.string d.ali,.int .i64 d.kind,.int .i64 d.num,.slice d.aa d.an d.ac] 34)).cell? ⟨wr.heap.size,0,none⟩=some (.slice none 0 0):=zB (hx8.heap hb0 id) 0
          go_wp2_with fail
          refine OnlyN.mk ⟨Fr.refl _ _,?_⟩;clear x0;refine zH rfl ?_
          go_wp2_with (at_builtin;refine zI rfl _ _ 26 rfl w0.heap.size 34 i0 (.agg #[.int .i64 0,.int .i64 0,.string ByteArray.empty,.string ByteArray.empty,.string ByteArray.empty,.string ByteArray.empty,.string ByteArray.empty,.int .i64 0,.int .i64 0,.slice none 0 0]) 10 136 Tryz.underlying26 hi hz0 hz1 hz2 rfl (by decide) _ 0 [] rfl (World.ownsRow_nil _ _ _ _) _ cap _ (flat (ds.take cap)) rfl (fun e=>by cases e) (by rw[zw,List.length_take,Nat.min_eq_left hq]) (fun ad' e=>(hl0.no hx8 (fun _=>id)).src_take cap ad' e) (zAB _) (by unfold maxLen;omega) (by omega) (by simp) ?_;intro v6 w6 own6 gr6;obtain⟨a6,c6,rfl⟩:=zG own6)
          simp only[Nat.zero_add,List.nil_append]at own6;have f6:Fr No (w0.alloc (.cells #[.int .i64 d.index,.int .i64 d.parent,.string d.name,.string d.orig,.string d.sub,.string d.drv,.string d.ali,.int .i64 d.kind,.int .i64 d.num,.slice d.aa d.an d.ac] 34)) w6:=(Fr.of_grown gr6).mono (fun b _ e=>by cases e);refine OnlyN.mk ⟨f6.mono (fun _ _ h=>h.elim),?_⟩;have hc8:=zBW (zX w0 d.vals 34 rfl) f6;refine zH rfl ?_;have f06:Fr (From w0.heap.size) w0 w6:=(hx8.step f6 (fun _ _ h=>h)).mono (fun _ _ h=>h.elim)
          go_wp2_with (at_builtin;refine zI rfl _ _ 26 rfl w0.heap.size 34 i0 (.agg #[.int .i64 0,.int .i64 0,.string ByteArray.empty,.string ByteArray.empty,.string ByteArray.empty,.string ByteArray.empty,.string ByteArray.empty,.int .i64 0,.int .i64 0,.slice none 0 0]) 10 136 Tryz.underlying26 hi hz0 hz1 hz2 rfl (by decide) _ _ _ rfl own6 (some ⟨w0.heap.size,0,none⟩) 1 1 d.vals.toList rfl (fun e=>by cases e) rfl (fun ad' e=>by cases e;exact hc8) (zv d) (by unfold maxLen;omega) (by omega) (by have:=f06.size;omega) ?_;intro v9 w9 own9 gr9;obtain⟨a9,c9,rfl⟩:=zG own9)
          have f9:Fr (From w0.heap.size) w0 w9:=f06.step (zm own6 gr9) (fun _ _ h=>h);refine OnlyN.mk ⟨(zm own6 gr9).mono (fun b _ h=>by unfold From at *;omega),?_⟩;refine zH rfl ?_
          go_wp2_with (at_builtin;refine zI rfl _ _ 26 rfl w0.heap.size 34 i0 (.agg #[.int .i64 0,.int .i64 0,.string ByteArray.empty,.string ByteArray.empty,.string ByteArray.empty,.string ByteArray.empty,.string ByteArray.empty,.int .i64 0,.int .i64 0,.slice none 0 0]) 10 136 Tryz.underlying26 hi hz0 hz1 hz2 rfl (by decide) _ _ _ rfl own9 _ 0 _ [] rfl (fun e=>by cases e) rfl (fun ad' e j u hu=>by simp at hu) (by simp) (by unfold maxLen;omega) (by omega) (by have:=f9.size;omega) ?_;intro v14 w14 own14 gr14;obtain⟨a14,c14,rfl⟩:=zG own14)
          have f14:Fr (From w0.heap.size) w0 w14:=f9.step (zm own9 gr14) (fun _ _ h=>h);refine OnlyN.mk ⟨(zm own9 gr14).mono (fun b _ h=>by unfold From at *;omega),?_⟩
          repeat (apply zM;exact rfl;exact rfl;exact rfl;intro K hK;go_big_quiet_op;go_big_quiet_on)
          refine zH rfl ?_;have hb14:=f14.heap hb0 (by unfold From;omega);have x14:w14.cell? ⟨wr.heap.size,0,none⟩=some (.slice none 0 0):=zB hb14 0;have z14:w14.frozen? ⟨wr.heap.size,0,none⟩=false:=zC hb14 0;have en:cap+1+0=ds.length+1:=by omega
          have e0:(flat (ds.take cap)++d.vals.toList++[])=flat (ds.take cap)++d.vals.toList++flat (ds.drop cap):=by rw[Hdn.out];rfl
          simp only[List.append_nil,Nat.add_zero]at own14 e0 en;rw[en,e0,zBV]at own14
          try rw[en]
          have Hend:=Lib.hid (zCE hX0 f14 hb14 own14 (by omega));clear own14 gr14 own9 gr9 own6 gr6 en hb14 f14 f9 f6
          go_wp2_with fail
          refine OnlyN.mk ⟨(Fr.refl _ _).setCell (p:=⟨wr.heap.size,0,none⟩) (fun _=>Nat.le_refl _) _,?_⟩;refine zS ?_
          go_wp2_with fail
          go_meet
          exact⟨a14,c14,Hend.out⟩
        ·repeat (apply zM;exact rfl;exact rfl;exact rfl;intro K hK;go_big_quiet_op;go_big_quiet_on)
         clear d0 d1 d2 d3 d4 d5 d6 d7 d8 d9 g0;refine zh rfl rfl ?_ ?_
         ·have x0:w0.cell? ⟨wr.heap.size,0,none⟩=some (.slice none 0 0):=zB hb0 0
          go_wp2_with fail
          refine OnlyN.mk ⟨Fr.refl _ _,?_⟩;clear x0;refine zh rfl rfl ?_ ?_
          focus
           go_wp2_with (at_builtin;refine zI rfl _ _ 26 rfl w0.heap.size 34 i0 (.agg #[.int .i64 0,.int .i64 0,.string ByteArray.empty,.string ByteArray.empty,.string ByteArray.empty,.string ByteArray.empty,.string ByteArray.empty,.int .i64 0,.int .i64 0,.slice none 0 0]) 10 136 Tryz.underlying26 hi hz0 hz1 hz2 rfl (by decide) _ 0 [] rfl (World.ownsRow_nil _ _ _ _) _ q _ (flat (ds.take q)) rfl (fun e=>by cases e) (by rw[zw,List.length_take,Nat.min_eq_left hq]) (fun ad' e=>hl0.src_take q ad' e) (zAB _) (by unfold maxLen;omega) (by omega) (by omega) ?_;intro v6 w6 own6 gr6;obtain⟨a6,c6,rfl⟩:=zG own6)
           simp only[Nat.zero_add,List.nil_append]at own6;have f6:Fr No w0 w6:=(Fr.of_grown gr6).mono (fun b _ e=>by cases e);refine OnlyN.mk ⟨f6.mono (fun _ _ h=>h.elim),?_⟩;refine zH rfl ?_
           go_wp2_with fail
           refine OnlyN.mk ⟨(Fr.refl _ _).alloc _,?_⟩;have o6:=own6.alloc (.cells #[.int .i64 d.index,.int .i64 d.parent,.string d.name,.string d.orig,.string d.sub,.string d.drv,.string d.ali,.int .i64 d.kind,.int .i64 d.num,.slice d.aa d.an d.ac] 34);refine zH rfl ?_
           go_wp2_with (at_builtin;refine zI rfl _ _ 26 rfl w0.heap.size 34 i0 (.agg #[.int .i64 0,.int .i64 0,.string ByteArray.empty,.string ByteArray.empty,.string ByteArray.empty,.string ByteArray.empty,.string ByteArray.empty,.int .i64 0,.int .i64 0,.slice none 0 0]) 10 136 Tryz.underlying26 hi hz0 hz1 hz2 rfl (by decide) _ _ _ rfl o6 (some ⟨w6.heap.size,0,none⟩) 1 1 d.vals.toList rfl (fun e=>by cases e) rfl (fun ad' e=>by cases e;exact zX _ d.vals _ rfl) (zv d) (by unfold maxLen;omega) (by omega) (by have:=(((Fr.refl (From w0.heap.size) w0).step f6 (fun _ _ h=>h.elim)).alloc (.cells #[.int .i64 d.index,.int .i64 d.parent,.string d.name,.string d.orig,.string d.sub,.string d.drv,.string d.ali,.int .i64 d.kind,.int .i64 d.num,.slice d.aa d.an d.ac] 34)).size;omega) ?_;intro v9 w9 own9 gr9;obtain⟨a9,c9,rfl⟩:=zG own9)
           have f9:Fr (From w0.heap.size) w0 w9:=(((Fr.refl (From w0.heap.size) w0).step f6 (fun _ _ h=>h.elim)).alloc (.cells #[.int .i64 d.index,.int .i64 d.parent,.string d.name,.string d.orig,.string d.sub,.string d.drv,.string d.ali,.int .i64 d.kind,.int .i64 d.num,.slice d.aa d.an d.ac] 34)).step (zm o6 gr9) (fun _ _ h=>h);refine OnlyN.mk ⟨(zm o6 gr9).mono (fun b _ h=>by unfold From at *;omega),?_⟩
          rotate_left 1
          focus
           go_wp2_with fail
           refine OnlyN.mk ⟨(Fr.refl _ _).alloc _,?_⟩;have hx8:Fr No w0 (w0.alloc (.cells #[.int .i64 d.index,.int .i64 d.parent,.string d.name,.string d.orig,.string d.sub,.string d.drv,.string d.ali,.int .i64 d.kind,.int .i64 d.num,.slice d.aa d.an d.ac] 34)):=(Fr.refl _ _).alloc _;refine zH rfl ?_
           go_wp2_with (at_builtin;refine zI rfl _ _ 26 rfl w0.heap.size 34 i0 (.agg #[.int .i64 0,.int .i64 0,.string ByteArray.empty,.string ByteArray.empty,.string ByteArray.empty,.string ByteArray.empty,.string ByteArray.empty,.int .i64 0,.int .i64 0,.slice none 0 0]) 10 136 Tryz.underlying26 hi hz0 hz1 hz2 rfl (by decide) _ 0 [] rfl (World.ownsRow_nil _ _ _ _) _ q _ (flat (ds.take q)) rfl (fun e=>by cases e) (by rw[zw,List.length_take,Nat.min_eq_left hq]) (fun ad' e=>(hl0.no hx8 (fun _=>id)).src_take q ad' e) (zAB _) (by unfold maxLen;omega) (by omega) (by simp) ?_;intro v6 w6 own6 gr6;obtain⟨a6,c6,rfl⟩:=zG own6)
           simp only[Nat.zero_add,List.nil_append]at own6;have f6:Fr No (w0.alloc (.cells #[.int .i64 d.index,.int .i64 d.parent,.string d.name,.string d.orig,.string d.sub,.string d.drv,.string d.ali,.int .i64 d.kind,.int .i64 d.num,.slice d.aa d.an d.ac] 34)) w6:=(Fr.of_grown gr6).mono (fun b _ e=>by cases e);refine OnlyN.mk ⟨f6.mono (fun _ _ h=>h.elim),?_⟩;have hc8:=zBW (zX w0 d.vals 34 rfl) f6;refine zH rfl ?_;have f06:Fr (From w0.heap.size) w0 w6:=(hx8.step f6 (fun _ _ h=>h)).mono (fun _ _ h=>h.elim)
           go_wp2_with (at_builtin;refine zI rfl _ _ 26 rfl w0.heap.size 34 i0 (.agg #[.int .i64 0,.int .i64 0,.string ByteArray.empty,.string ByteArray.empty,.string ByteArray.empty,.string ByteArray.empty,.string ByteArray.empty,.int .i64 0,.int .i64 0,.slice none 0 0]) 10 136 Tryz.underlying26 hi hz0 hz1 hz2 rfl (by decide) _ _ _ rfl own6 (some ⟨w0.heap.size,0,none⟩) 1 1 d.vals.toList rfl (fun e=>by cases e) rfl (fun ad' e=>by cases e;exact hc8) (zv d) (by unfold maxLen;omega) (by omega) (by have:=f06.size;omega) ?_;intro v9 w9 own9 gr9;obtain⟨a9,c9,rfl⟩:=zG own9)
           have f9:Fr (From w0.heap.size) w0 w9:=f06.step (zm own6 gr9) (fun _ _ h=>h);refine OnlyN.mk ⟨(zm own6 gr9).mono (fun b _ h=>by unfold From at *;omega),?_⟩
          all_goals (
           refine zH rfl ?_
           go_wp2_with (at_builtin;refine zI rfl _ _ 26 rfl w0.heap.size 34 i0 (.agg #[.int .i64 0,.int .i64 0,.string ByteArray.empty,.string ByteArray.empty,.string ByteArray.empty,.string ByteArray.empty,.string ByteArray.empty,.int .i64 0,.int .i64 0,.slice none 0 0]) 10 136 Tryz.underlying26 hi hz0 hz1 hz2 rfl (by decide) _ _ _ rfl own9 _ (ds.length-q) _ (flat (ds.drop q)) rfl (fun e=>by cases e) (by rw[zw,List.length_drop]) (fun ad' e=>by cases e;exact(hl0.keep f9).src_drop q ad rfl) (zAB _) (by unfold maxLen;omega) (by omega) (by have:=f9.size;omega) ?_;intro v14 w14 own14 gr14;obtain⟨a14,c14,rfl⟩:=zG own14)
           have f14:Fr (From w0.heap.size) w0 w14:=f9.step (zm own9 gr14) (fun _ _ h=>h);refine OnlyN.mk ⟨(zm own9 gr14).mono (fun b _ h=>by unfold From at *;omega),?_⟩
           repeat (apply zM;exact rfl;exact rfl;exact rfl;intro K hK;go_big_quiet_op;go_big_quiet_on)
           refine zH rfl ?_;have hb14:=f14.heap hb0 (by unfold From;omega);have x14:w14.cell? ⟨wr.heap.size,0,none⟩=some (.slice none 0 0):=zB hb14 0;have z14:w14.frozen? ⟨wr.heap.size,0,none⟩=false:=zC hb14 0;have en:q+1+(ds.length-q)=ds.length+1:=by omega
           rw[en,zBV]at own14;rw[en];have Hend:=Lib.hid (zCE hX0 f14 hb14 own14 (by omega));clear own14 gr14 own9 gr9 own6 gr6 en hb14 f14 f9 f6
           go_wp2_with fail
           refine OnlyN.mk ⟨(Fr.refl _ _).setCell (p:=⟨wr.heap.size,0,none⟩) (fun _=>Nat.le_refl _) _,?_⟩;refine zS ?_
           go_wp2_with fail
           go_meet
           exact⟨a14,c14,Hend.out⟩
           )
         ·go_wp2_with fail
          refine OnlyN.mk ⟨(Fr.refl _ _).alloc _,?_⟩;have hx8:Fr No w0 (w0.alloc (.cells #[.int .i64 d.index,.int .i64 d.parent,.string d.name,.string d.orig,.string d.sub,.string d.drv,.string d.ali,.int .i64 d.kind,.int .i64 d.num,.slice d.aa d.an d.ac] 34)):=(Fr.refl _ _).alloc _;refine zH rfl ?_;have x0:(w0.alloc (.cells #[.int .i64 d.index,.int .i64 d.parent,.string d.name,.string d.orig,.string d.sub,.string d.drv,.string d.ali,.int .i64 d.kind,.int .i64 d.num,.slice d.aa d.an d.ac] 34)).cell? ⟨wr.heap.size,0,none⟩=some (.slice none 0 0):=zB (hx8.heap hb0 id) 0
          go_wp2_with fail
          refine OnlyN.mk ⟨Fr.refl _ _,?_⟩;clear x0;refine zH rfl ?_
          go_wp2_with (at_builtin;refine zI rfl _ _ 26 rfl w0.heap.size 34 i0 (.agg #[.int .i64 0,.int .i64 0,.string ByteArray.empty,.string ByteArray.empty,.string ByteArray.empty,.string ByteArray.empty,.string ByteArray.empty,.int .i64 0,.int .i64 0,.slice none 0 0]) 10 136 Tryz.underlying26 hi hz0 hz1 hz2 rfl (by decide) _ 0 [] rfl (World.ownsRow_nil _ _ _ _) _ q _ (flat (ds.take q)) rfl (fun e=>by cases e) (by rw[zw,List.length_take,Nat.min_eq_left hq]) (fun ad' e=>(hl0.no hx8 (fun _=>id)).src_take q ad' e) (zAB _) (by unfold maxLen;omega) (by omega) (by simp) ?_;intro v6 w6 own6 gr6;obtain⟨a6,c6,rfl⟩:=zG own6)
          simp only[Nat.zero_add,List.nil_append]at own6;have f6:Fr No (w0.alloc (.cells #[.int .i64 d.index,.int .i64 d.parent,.string d.name,.string d.orig,.string d.sub,.string d.drv,.string d.ali,.int .i64 d.kind,.int .i64 d.num,.slice d.aa d.an d.ac] 34)) w6:=(Fr.of_grown gr6).mono (fun b _ e=>by cases e);refine OnlyN.mk ⟨f6.mono (fun _ _ h=>h.elim),?_⟩;have hc8:=zBW (zX w0 d.vals 34 rfl) f6;refine zH rfl ?_;have f06:Fr (From w0.heap.size) w0 w6:=(hx8.step f6 (fun _ _ h=>h)).mono (fun _ _ h=>h.elim)
          go_wp2_with (at_builtin;refine zI rfl _ _ 26 rfl w0.heap.size 34 i0 (.agg #[.int .i64 0,.int .i64 0,.string ByteArray.empty,.string ByteArray.empty,.string ByteArray.empty,.string ByteArray.empty,.string ByteArray.empty,.int .i64 0,.int .i64 0,.slice none 0 0]) 10 136 Tryz.underlying26 hi hz0 hz1 hz2 rfl (by decide) _ _ _ rfl own6 (some ⟨w0.heap.size,0,none⟩) 1 1 d.vals.toList rfl (fun e=>by cases e) rfl (fun ad' e=>by cases e;exact hc8) (zv d) (by unfold maxLen;omega) (by omega) (by have:=f06.size;omega) ?_;intro v9 w9 own9 gr9;obtain⟨a9,c9,rfl⟩:=zG own9)
          have f9:Fr (From w0.heap.size) w0 w9:=f06.step (zm own6 gr9) (fun _ _ h=>h);refine OnlyN.mk ⟨(zm own6 gr9).mono (fun b _ h=>by unfold From at *;omega),?_⟩;refine zH rfl ?_
          go_wp2_with (at_builtin;refine zI rfl _ _ 26 rfl w0.heap.size 34 i0 (.agg #[.int .i64 0,.int .i64 0,.string ByteArray.empty,.string ByteArray.empty,.string ByteArray.empty,.string ByteArray.empty,.string ByteArray.empty,.int .i64 0,.int .i64 0,.slice none 0 0]) 10 136 Tryz.underlying26 hi hz0 hz1 hz2 rfl (by decide) _ _ _ rfl own9 _ (ds.length-q) _ (flat (ds.drop q)) rfl (fun e=>by cases e) (by rw[zw,List.length_drop]) (fun ad' e=>by cases e;exact(hl0.keep f9).src_drop q ad rfl) (zAB _) (by unfold maxLen;omega) (by omega) (by have:=f9.size;omega) ?_;intro v14 w14 own14 gr14;obtain⟨a14,c14,rfl⟩:=zG own14)
          have f14:Fr (From w0.heap.size) w0 w14:=f9.step (zm own9 gr14) (fun _ _ h=>h);refine OnlyN.mk ⟨(zm own9 gr14).mono (fun b _ h=>by unfold From at *;omega),?_⟩
          repeat (apply zM;exact rfl;exact rfl;exact rfl;intro K hK;go_big_quiet_op;go_big_quiet_on)
          refine zH rfl ?_;have hb14:=f14.heap hb0 (by unfold From;omega);have x14:w14.cell? ⟨wr.heap.size,0,none⟩=some (.slice none 0 0):=zB hb14 0;have z14:w14.frozen? ⟨wr.heap.size,0,none⟩=false:=zC hb14 0;have en:q+1+(ds.length-q)=ds.length+1:=by omega
          rw[en,zBV]at own14;rw[en];have Hend:=Lib.hid (zCE hX0 f14 hb14 own14 (by omega));clear own14 gr14 own9 gr9 own6 gr6 en hb14 f14 f9 f6
          go_wp2_with fail
          refine OnlyN.mk ⟨(Fr.refl _ _).setCell (p:=⟨wr.heap.size,0,none⟩) (fun _=>Nat.le_refl _) _,?_⟩;refine zS ?_
          go_wp2_with fail
          go_meet
          exact⟨a14,c14,Hend.out⟩
      case rest=>
       obtain⟨a',c',hwb,hown,hff⟩:=hcut;have hI6:=hI3.fr;have hx6:Fr No w wc:=hI3.fr.step hff (fun b hb h=>by unfold From at h;omega);have hb4:=hff.heap hI3.p4 (by unfold From;omega);have y0:wc.cell? ⟨wr.heap.size,0,none⟩=some (.slice a' (ds.length+1) c'):=zB hwb 0;have r0:wc.cell? ⟨w.heap.size+2,0,none⟩=some (.slice none 0 0):=zB hb4 0;have rf:wc.frozen? ⟨w.heap.size+2,0,none⟩=false:=zC hb4 0;have Hown:=Lib.hid hown;clear hown
       go_wp2_with fail
       refine bodyPost_ret (v:=.tuple #[.agg #[.slice a' (ds.length+1) c'],.int .i64 0]) (by simp[results,Tryz.results11,go_sem,r0]) rfl ?_;have hxx:Fr (Is (w.heap.size+2)) wc (wc.setCell ⟨w.heap.size+2,0,none⟩ (.slice a' (ds.length+1) c')):=Fr.setCell (S:=Is (w.heap.size+2)) (p:=⟨w.heap.size+2,0,none⟩) (Fr.refl _ _) (fun _=>rfl) _;refine⟨⟨a',ds.length+1,c',0,rfl,fun _=>⟨q,⟨by omega,Hlk.out,Hok2.out,zEb.symm,zq (zu Hown.out hxx (fun b hb e=>by unfold Is at e;omega)) (by omega),Hfin.out.1,Hfin.out.2.1,Hfin.out.2.2⟩⟩⟩,hx6.step hxx (fun b hb e=>by unfold Is at e;omega)⟩
end Go.Proofs.YtmajgldaplkpiaaGreatDoor
