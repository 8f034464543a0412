import Derived.Test.YtmajgldaplkpiaaGreatDoorQ8
import Derived.Lib.SliceRun
namespace Go.Proofs.YtmajgldaplkpiaaGreatDoor
open Go.RowKit Go.Maps
set_option linter.unusedVariables false
set_option maxRecDepth 100000
set_option maxHeartbeats 2000000
theorem zBb (a:Option Addr)(cap:Nat)(ds:List Dev)(n:Int)(w:World)(hl:Devs w a cap ds)(hT:TreeOk ds)(hn:ds.length<=1000)(hx:(Lit.int .i64 n).wf=true):
  Calls Tryz.prog 23 #[.agg #[.slice a ds.length cap],.int .i64 n] w fun e w'=>e=.returned (.tuple #[.string (((look ds n).map fun _=>pathOf (origin ds n)).getD ⟨#[]⟩),.bool (look ds n).isSome])/\Fr No w w':=by
 have h0:Fr No w (w.alloc (.cells #[.slice a ds.length cap] 28)):=(Fr.refl _ _).alloc _;have ho:ogs ds n=(look ds n).map fun _=>pathOf (origin ds n):=by
  have:=zFc hT ds.length (Nat.le_refl _) n;rw[List.take_of_length_le (Nat.le_refl _)]at this;exact this
 have hfd:∀ (m1 m2:Nat) (W:World),(Instr.field 97 (.agg #[.slice a ds.length cap,.map (some m1),.map (some m2)]) 2).run Tryz.prog W=.ok (.map (some m2)) W:=fun _ _ _=>by kernel_rfl
 have Ho:=Lib.hid ho;have H0:=Lib.hid h0;clear ho h0
 go_enter Tryz.func23,Tryz.ntmps23
 go_wp2_with fail
 refine(zBi a cap ds _ (hl.no H0.out (fun _=>id)) hT hn).mono ?_;rintro e w1 ⟨⟨m1,m2,rfl,_,_,_,_,hS⟩,hf1⟩
 go_wp2_with (at_lookup;refine zDQ rfl _ _ 95 rfl rfl m2 _ _ n hx rfl hS rfl ?_)
 refine bodyPost_ret (v:=.tuple #[.string ((ogs ds n).getD ⟨#[]⟩),.bool (ogs ds n).isSome]) (by simp[results,Tryz.results23,go_sem]) rfl ?_;refine⟨?_,H0.out.step hf1 (fun _ _ h=>h)⟩;rw[Ho.out];cases look ds n<;>rfl
def VAt (w:World)(m1 m2:Nat)(ds:List Dev):Prop:=IMap w m1 (plcs ds ds.length) ds.length/\SMap w m2 (ogs ds) ds.length
theorem VAt.fr {S:Nat->Prop}{w w':World}{m1 m2:Nat}{ds:List Dev}(h:VAt w m1 m2 ds)(hf:Fr S w w')(h1:¬ S m1)(h2:¬ S m2):VAt w' m1 m2 ds:=⟨h.1.fr hf h1,h.2.fr hf h2⟩
theorem zIY (ds:List Dev)(n:Int):plcs ds ds.length n=(look ds n).map fun _=>place ds n:=by unfold plcs;rw[List.take_of_length_le (Nat.le_refl _)]
def FindIs (ds:List Dev)(n:Int)(e:Ending):Prop:=(look ds n=none/\e=.returned (.tuple #[.agg Dev.zero.vals,.bool false]))\/∃ d,look ds n=some d/\e=.returned (.tuple #[.agg d.vals,.bool true])
theorem zEG (a:Option Addr)(cap:Nat)(ds:List Dev)(m1 m2:Nat)(n:Int)(w:World)(hl:Devs w a cap ds)(hV:VAt w m1 m2 ds)(hx:(Lit.int .i64 n).wf=true):
  Calls Tryz.prog 257 #[.agg #[.slice a ds.length cap,.map (some m1),.map (some m2)],.int .i64 n] w fun e w'=>
   FindIs ds n e/\Fr No w w':=by
 have hm:=hl.lenmax;have h0:Fr No w ((w.alloc (.cells #[.slice a ds.length cap,.map (some m1),.map (some m2)] 97)).alloc (.cells #[.int .i64 0,.int .i64 0,.string ⟨#[]⟩,.string ⟨#[]⟩,.string ⟨#[]⟩,.string ⟨#[]⟩,.string ⟨#[]⟩,.int .i64 0,.int .i64 0,.slice none 0 0] 34)):=((Fr.refl _ _).alloc _).alloc _;have q0:=zL w (.cells #[.slice a ds.length cap,.map (some m1),.map (some m2)] 97) (.cells #[.int .i64 0,.int .i64 0,.string ⟨#[]⟩,.string ⟨#[]⟩,.string ⟨#[]⟩,.string ⟨#[]⟩,.string ⟨#[]⟩,.int .i64 0,.int .i64 0,.slice none 0 0] 34);have p2:=zP w (.cells #[.slice a ds.length cap,.map (some m1),.map (some m2)] 97) (.cells #[.int .i64 0,.int .i64 0,.string ⟨#[]⟩,.string ⟨#[]⟩,.string ⟨#[]⟩,.string ⟨#[]⟩,.string ⟨#[]⟩,.int .i64 0,.int .i64 0,.slice none 0 0] 34)
 go_enter Tryz.func257,Tryz.ntmps257
 go_upto_region 1 with(fail)
 generalize (w.alloc (.cells #[.slice a ds.length cap,.map (some m1),.map (some m2)] 97)).alloc (.cells #[.int .i64 0,.int .i64 0,.string ⟨#[]⟩,.string ⟨#[]⟩,.string ⟨#[]⟩,.string ⟨#[]⟩,.string ⟨#[]⟩,.int .i64 0,.int .i64 0,.slice none 0 0] 34)=w2 at *;obtain⟨t0,t1⟩:=cl2 q0;obtain⟨z0,z1,z2,z3,z4,z5,z6,z7,z8,z9⟩:=cl10 p2;obtain⟨y0,y1,y2,y3,y4,y5,y6,y7,y8,y9⟩:=fl10 p2;have hI:=hV.1.fr h0 id;have hl2:=hl.no h0 (fun _=>id);have hg:=zIY ds n;rcases zAV ds n with⟨h1,h2⟩ | ⟨k,d,h1,h2,h3⟩
 ·have g0:plcs ds ds.length n=none:=by rw[hg,h1];rfl
  have h10:=zAy p2 rfl Dev.zero;have hfin:=Lib.hid (And.intro h1 (h0.step h10.2 (fun b hb e=>by unfold Is at e;omega)));have h1':look ds n=none:=h1;clear h10 p2 q0 hg h2 h0 h1 hV hl hl2;have H1:=Lib.hid h1';clear h1'
  go_wp2_with (at_lookup;refine zDS rfl _ _ 94 rfl rfl m1 _ _ n hx rfl hI rfl ?_;rw[g0];simp only[Option.getD_none,Option.isSome_none])
  refine bodyPost_ret (v:=.tuple #[.agg Dev.zero.vals,.bool false]) (by simp[results,Tryz.results257,go_sem,Dev.vals,Dev.zero,z0,z1,z2,z3,z4,z5,z6,z7,z8,z9];try rfl) rfl ?_;exact⟨.inl ⟨H1.out,rfl⟩,hfin.out.2⟩
 ·have g0:plcs ds ds.length n=some (k:Int):=by rw[hg,h1,h2];rfl
  have hlt:k<ds.length:=(List.getElem?_eq_some_iff.1 h3).1;have hlt':(k:Int)<ds.length:=by omega
  obtain⟨bb,off,d',rfl,hd,c0,c1,c2,c3,c4,c5,c6,c7,c8,c9⟩:=hl2.dev hlt;rw[h3]at hd;cases hd;have h10:=zAy p2 rfl d;have hfin:=Lib.hid (And.intro h1 (h0.step h10.2 (fun b hb e=>by unfold Is at e;omega)));have H1:=Lib.hid h1;clear h10 p2 q0 hg h2 h3 h0 h1 hV hl hl2
  go_wp2_with (at_lookup;refine zDS rfl _ _ 94 rfl rfl m1 _ _ n hx rfl hI rfl ?_;rw[g0];simp only[Option.getD_some,Option.isSome_some])
  refine bodyPost_ret (v:=.tuple #[.agg d.vals,.bool true]) (by simp[results,Tryz.results257,go_sem,Dev.vals,z0,z1,z2,z3,z4,z5,z6,z7,z8,z9]) rfl ?_;exact⟨.inr ⟨d,H1.out,rfl⟩,hfin.out.2⟩
theorem zJa (u v x:Value)(n:Int)(w:World):
  Calls Tryz.prog 206 #[.agg #[u,v,x],.int .i64 n] w fun e w'=>e=.returned (.func (.func 256) #[] #[.pointer (some ⟨w.heap.size,0,none⟩),.pointer (some ⟨w.heap.size+1,0,none⟩)])/\w'=(w.alloc (.cells #[u,v,x] 97)).alloc (.cells #[.int .i64 n] 3):=by
 go_enter Tryz.func206,Tryz.ntmps206
 go_wp2_with fail
 go_ret;exact⟨rfl,rfl⟩
theorem zDc : ∀ (l:List ByteArray) (s:ByteArray),(l.foldl (fun s x=>s++⟨#[47]⟩++x) s).data.toList=s.data.toList++Lib.joinTail [47] (l.map (·.data.toList))
 | [],s=>by simp[Lib.joinTail]
 | x::t,s=>by
  rw[List.foldl_cons,zDc t];simp[Lib.joinTail]
theorem zGW (l:List ByteArray):(pathOf l).data.toList=Lib.joinTail [47] (l.map (·.data.toList)):=by
 unfold pathOf;rw[zDc];rfl
theorem zHL {l:List ByteArray}(h:l≠[]):(⟨#[47]⟩:ByteArray)++⟨(Lib.join (l.map (·.data.toList)) [47]).toArray⟩=pathOf l:=by
 refine zEA ?_;rw[zGW];cases l with
 | nil=>exact absurd rfl h
 | cons x t=>simp[Lib.join_cons,Lib.joinTail]
theorem zG7 : ∀ (l:List ByteArray),(∀ x∈l,x.size<=32)->(Lib.joinTail [47] (l.map (·.data.toList))).length<=33*l.length
 | [],_=>by simp[Lib.joinTail]
 | x::t,h=>by
  have h1:=zG7 t (fun y hy=>h y (List.mem_cons_of_mem _ hy));have h2:=h x (List.mem_cons_self ..);have h3:x.data.toList.length=x.size:=by simp
  simp only[Lib.joinTail,List.map_cons,List.flatten_cons,List.length_append,List.length_cons,List.length_nil,List.map_map]at h1 ⊢;omega
theorem zJ9 {l:List ByteArray}(h:∀ x∈l,x.size<=32):(Lib.join (l.map (·.data.toList)) [47]).length<=33*l.length:=by
 cases l with
 | nil=>simp[Lib.join,List.intercalate]
 | cons x t=>
  have:=zG7 (x::t) h;simp only[List.map_cons,Lib.join_cons,Lib.joinTail,List.flatten_cons,List.length_append,List.length_cons,List.length_nil]at this ⊢;omega
theorem zIS (a:Option Addr)(cap:Nat)(l:List ByteArray)(w:World)(hl:Strs w a cap l)(hne:l≠[])(hs:∀ x∈l,x.size<=32)(hn:l.length<=1000000):
  Calls Tryz.prog 40 #[.slice a l.length cap] w fun e w'=>e=.returned (.string (pathOf l))/\Fr No w w':=by
 have h1:l.length≠0:=fun h=>hne (List.eq_nil_of_length_eq_zero h)
 obtain⟨b,off,x,rfl,_,_⟩:=hl.at (k:=0) (by omega);obtain⟨_,hb,hc⟩:=hl.cell _ rfl hne;have hj:=zJ9 hs;have hcap:=hl.len;have hp:=Lib.hid (zHL hne)
 go_enter Tryz.func40,Tryz.ntmps40
 go_wp2_with fail
 refine(Tryz.strings_Join b off cap l ⟨#[47]⟩ _ (fun j x hx=>hc j x hx) hb (by omega) hcap (by show (Lib.join _ [47]).length<=_;omega)).mono ?_;rintro e w1 ⟨rfl,hf⟩;have hf1:=Fr.of_below_size hf;have hsz:(Lib.join (l.map (·.data.toList)) [47]).length<=33000000:=by omega
 have e47:(⟨#[47]⟩:ByteArray).data.toList=[47]:=rfl;rw[e47]
 go_wp2_with fail
 go_ret;refine⟨?_,hf1⟩;rw[<-hp.out];rfl
theorem zHS {ds:List Dev}(hT:TreeOk ds)(n:Int):∀ x∈origin ds n,x.size<=32:=by
 intro x hx;unfold origin at hx;rw[List.mem_reverse]at hx;obtain⟨d,hd,rfl⟩:=List.mem_map.1 hx;exact hT.sz d (zEj hd)
theorem zCl (a:Option Addr)(cap:Nat)(ds:List Dev)(n:Int)(w:World)(hl:Devs w a cap ds)(hT:TreeOk ds)(hb:ds.length<=1000000):
  Calls Tryz.prog 13 #[.agg #[.slice a ds.length cap],.int .i64 n] w fun e w'=>e=.returned (.string (pathOf (origin ds n)))/\Fr No w w':=by
 have hx:Fr No w (w.alloc (.cells #[.slice a ds.length cap] 28)):=(Fr.refl _ _).alloc _;have hlx:=hl.no hx (fun _=>id);have hol:(origin ds n).length<=1000000:=by unfold origin;simp;have:=zAu ds n;omega
 have hz:=Lib.hid (zHS hT n)
 go_enter Tryz.func13,Tryz.ntmps13
 go_wp2_with fail
 refine(zBP a cap ds n _ hlx hb).mono ?_;rintro e w1 ⟨⟨v,rfl,hown⟩,hf1⟩;obtain⟨ac,cc,rfl,hS,hfresh⟩:=Strs.of_own hown;have hfr1:=hx.step hf1 (fun _ _ h=>h);clear hown hx hlx hl;by_cases hne:origin ds n=[]
 ·have Hne:=Lib.hid hne;have h0:(origin ds n).length=0:=by rw[hne];rfl
  clear hne hol hS
  go_wp2_with fail
  go_ret;refine⟨?_,hfr1⟩;rw[Hne.out];rfl
 ·have h0:0<(origin ds n).length:=List.length_pos_iff.2 hne;have h0':(0:Int)<(origin ds n).length:=by omega
  have Hne:=Lib.hid hne;clear hne
  go_wp2_with fail
  refine(zIS ac cc (origin ds n) _ hS Hne.out hz.out hol).mono ?_;rintro e w2 ⟨rfl,hf2⟩
  go_wp2_with fail
  go_ret;exact⟨rfl,hfr1.step hf2 (fun _ _ h=>h)⟩
theorem zKE (d:Dev)(b:Nat)(n:Int)(w:World)(hb:w.cell? ⟨b,0,none⟩=some (.int .i64 n)):
  Calls Tryz.prog 43 #[.agg d.vals,.pointer (some ⟨b,0,none⟩)] w fun e w'=>e=.returned (.bool (d.index==n))/\Fr No w w':=by
 have hx:Fr No w (w.alloc (.cells d.vals 34)):=(Fr.refl _ _).alloc _;have hbx:=hx.cell hb id;clear hb;unfold Dev.vals at *
 go_enter Tryz.func43,Tryz.ntmps43
 go_wp2_with fail
 go_ret;exact⟨rfl,hx⟩
theorem zGg (a:Option Addr)(cap:Nat)(ds:List Dev)(b:Nat)(n:Int)(w:World)(hl:Devs w a cap ds)(hb:w.cell? ⟨b,0,none⟩=some (.int .i64 n)):
  Calls Tryz.prog 78 #[.slice a ds.length cap,.func (.func 43) #[] #[.pointer (some ⟨b,0,none⟩)]] w fun e w'=>e=.returned (.int .i64 (place ds n))/\Fr No w w':=by
 have hm:=hl.lenmax
 go_enter Tryz.func78,Tryz.ntmps78
 go_wp2_with fail
 go_loopw [8] (fun i wr=>∃ k:Nat,k<=ds.length/\i=.int .i64 k/\Hid (∀ x∈ds.take k,x.index≠n)/\Fr No w wr) (fun i _=>ds.length-(intOf i).toNat)
 case atStart=>exact⟨0,by omega,rfl,by unfold Hid;simp,Fr.refl _ _⟩
 case round=>
  obtain⟨k,hk,rfl,hno,hfr⟩:=hrel;by_cases hlt:k<ds.length
  ·have hlt':(k:Int)<ds.length:=by omega
   obtain⟨bb,off,d,rfl,hd,c0,c1,c2,c3,c4,c5,c6,c7,c8,c9⟩:=(hl.no hfr (fun _=>id)).dev hlt;have Hd:=Lib.hid hd;clear hd
   go_wp2_with fail
   refine(zKE d b n _ (hfr.cell hb id)).mono ?_;rintro e w1 ⟨rfl,hf1⟩;have hfr1:=hfr.step hf1 (fun _ _ h=>h);clear c0 c1 c2 c3 c4 c5 c6 c7 c8 c9;by_cases hxn:d.index=n
   ·have hbt:(d.index==n)=true:=by simpa using hxn
    have Hxn:=Lib.hid hxn;clear hxn
    go_wp2_with fail
    go_ret;exact⟨zAI (zB9 ds n k d Hd.out Hxn.out hno.out).symm,hfr1⟩
   ·have hbt:(d.index==n)=false:=by simpa using hxn
    have Hxn:=Lib.hid hxn;clear hxn
    go_wp2_with fail
    go_roundw
    case rel=>
     refine⟨k+1,by omega,by go_num,?_,hfr1⟩;unfold Hid;intro x hx;rw[List.take_add_one,Hd.out]at hx;rcases List.mem_append.1 hx with h | h
     ·exact hno.out x h
     ·simp at h;subst h;exact Hxn.out
    case measure=>simp[intOf];omega
  ·obtain rfl:k=ds.length:=by omega
   have h:=hno.out;rw[List.take_of_length_le (by omega)]at h;have Hp:Hid (place ds n=-1):=zCA _ _ h;clear h
   go_wp2_with fail
   go_ret;exact⟨zAI Hp.out.symm,hfr⟩
theorem zD3 (W:World)(a:Option Addr)(n c:Nat):(binOp .eql 32 (.slice a n c) (.slice none 0 0)).run Tryz.prog W=.ok (.bool a.isNone) W:=Lib.run_eql_slice_nil W 32 50 a n c 0 0 Tryz.underlying32
theorem infoA : (Tryz.prog.info? 50).map (fun i=>(i.zero,i.size,i.bytes))=some (some (.agg #[.string ByteArray.empty,.string ByteArray.empty]),2,32):=by kernel_rfl
def aflat (l:List (ByteArray×ByteArray)):List Value:=l.flatMap (fun x=>[.string x.1,.string x.2])
theorem zDH (l:List (ByteArray×ByteArray)):(aflat l).length=l.length*2:=by
 induction l with
 | nil=>rfl
 | cons d t ih=>
  have:aflat (d::t)=[.string d.1,.string d.2]++aflat t:=by simp[aflat]
  rw[this,List.length_append,ih];simp;omega
theorem zEC : ∀ (l:List (ByteArray×ByteArray)) (i:Nat) (x:ByteArray×ByteArray),l[i]?=some x->(aflat l)[i*2]?=some (.string x.1)/\(aflat l)[i*2+1]?=some (.string x.2)
 | [],i,d,h=>by simp at h
 | y::t,0,x,h=>by
  simp at h;subst h;exact⟨rfl,rfl⟩
 | y::t,i+1,x,h=>by
  have e:aflat (y::t)=.string y.1::.string y.2::aflat t:=by simp[aflat]
  have h1:=zEC t i x (by simpa using h);rw[e,show (i+1)*2=i*2+1+1 from by omega];exact h1
theorem zIF (l:List (ByteArray×ByteArray))(j:Nat)(u:Value)(h:(aflat l)[j]?=some u):∃ i x,l[i]?=some x/\((j=i*2/\u=.string x.1)\/(j=i*2+1/\u=.string x.2)):=by
 have hlt:j<(aflat l).length:=(List.getElem?_eq_some_iff.1 h).1;rw[zDH]at hlt;have hi:j / 2<l.length:=by omega
 have h1:=zEC l (j / 2) l[j / 2] (List.getElem?_eq_getElem hi);refine⟨j / 2,l[j / 2],List.getElem?_eq_getElem hi,?_⟩;rcases(by omega:j=j / 2*2\/j=j / 2*2+1)with e | e
 ·left;refine⟨e,?_⟩;rw[e,h1.1]at h;exact(Option.some.inj h).symm
 ·right;refine⟨e,?_⟩;rw[e,h1.2]at h;exact(Option.some.inj h).symm
theorem zEn (l:List (ByteArray×ByteArray)):∀ u∈aflat l,u.oneCell'=true:=by
 intro u hu;obtain⟨x,_,hu⟩:=List.mem_flatMap.1 hu;simp at hu;rcases hu with rfl | rfl<;>rfl
theorem Atts.src {W:World}{a:Option Addr}{cap:Nat}{l:List (ByteArray×ByteArray)}(h:Atts W a cap l):∀ ad,a=some ad->∀ j u,(aflat l)[j]?=some u->W.cell? (ad.add j)=some u:=by
 intro ad e j u hu;obtain⟨i,x,hx,hj⟩:=zIF _ _ _ hu;obtain⟨h1,_,h3⟩:=h.cell ad e (by intro e;subst e;simp at hx);obtain⟨b,o,sp⟩:=ad;simp only at h1;subst h1;have h4:=h3 i x hx;rw[Addr.add_lit];rcases hj with⟨rfl,rfl⟩ | ⟨rfl,rfl⟩
 ·exact h4.1
 ·exact h4.2
theorem Atts.of_own {w:World}{base:Nat}{e:TypeId}{v:Value}{l:List (ByteArray×ByteArray)}(h:w.ownsRow base e 2 v l.length (aflat l))(hw:∀ x∈l,x.1.size<=maxLen/\x.2.size<=maxLen):
  ∃ a cap,v=.slice a l.length cap/\Atts w a cap l/\∀ ad,a=some ad->base<=ad.block:=by
 obtain⟨_,⟨rfl,h2⟩ | ⟨g,cap,cur,rfl,hg,hb,h1,h2,h3,h4⟩⟩:=h
 ·have:l=[]:=List.eq_nil_of_length_eq_zero h2;subst this;exact⟨none,0,rfl,Atts.nil w,fun _ e=>by cases e⟩
 ·refine⟨some ⟨g,0,none⟩,cap,rfl,⟨h1,h2,(fun e=>by cases e),hw,?_⟩,fun ad e=>by cases e;exact hg⟩;intro ad e hne;cases e;refine⟨rfl,zE hb,fun i x hi=>?_⟩;have hlt:i<l.length:=(List.getElem?_eq_some_iff.1 hi).1;have h5:=zEC l i x hi;rw[zB hb,zB hb];simp only[Nat.zero_add];rw[<-Array.getElem?_toList,<-Array.getElem?_toList];have e1:∀ j,j<l.length*2->cur.toList[j]?=(aflat l)[j]?:=fun j hj=>by
   rw[<-h4,List.getElem?_take_of_lt hj]
  rw[e1 _ (by omega),e1 _ (by omega)];exact h5
theorem zFM (a:Option Addr)(cap:Nat)(l:List (ByteArray×ByteArray))(w:World)(hl:Atts w a cap l)(hb:l.length<=1000000):
  Calls Tryz.prog 62 #[.slice a l.length cap] w fun e w'=>(∃ a' c',e=.returned (.slice a' l.length c')/\Atts w' a' c' l/\∀ ad,a'=some ad->w.heap.size<=ad.block)/\Fr No w w':=by
 obtain⟨i0,hi,hz0,hz1,hz2⟩:=info_parts infoA;cases a with
 | none=>
  obtain⟨rfl,rfl⟩:=hl.isNil rfl;have hq:=zD3
  go_enter Tryz.func62,Tryz.ntmps62
  go_wp2_with fail
  go_ret;exact⟨⟨none,0,rfl,Atts.nil _,fun _ e=>by cases e⟩,Fr.refl _ _⟩
 | some ad=>
  have hx:Fr No w (w.alloc (.cells #[] 50)):=(Fr.refl _ _).alloc _;have hlx:=hl.no hx (fun _=>id);have hq:=zD3
  go_enter Tryz.func62,Tryz.ntmps62
  have own0:(w.alloc (.cells #[] 50)).ownsRow w.heap.size 50 2 (.slice (some ⟨w.heap.size,0,none⟩) 0 0) 0 []:=
   ⟨rfl,.inr ⟨w.heap.size,0,#[],rfl,Nat.le_refl _,zD _ _,Nat.le_refl _,by unfold maxLen;omega,rfl,rfl⟩⟩
  go_wp2_with (at_builtin;refine zI rfl _ _ 32 rfl w.heap.size 50 i0 (.agg #[.string ByteArray.empty,.string ByteArray.empty]) 2 32 Tryz.underlying32 hi hz0 hz1 hz2 rfl (by decide) _ 0 [] rfl own0 (some ad) l.length _ (aflat l) rfl (fun e=>by cases e) (zDH l) (fun ad' e=>hlx.src ad' e) (zEn l) (by unfold maxLen;omega) (by omega) (by simp) ?_;intro v' w1 own1 gr1)
  go_ret;simp only[Nat.zero_add,List.nil_append]at own1;obtain⟨a',c',hv,h1,h2⟩:=Atts.of_own own1 hl.wf;exact⟨⟨a',c',by rw[<-hv];rfl,h1,h2⟩,((Fr.refl No w).alloc _).step (zm own0 gr1) (fun b hb h=>by unfold From at h;omega)⟩
theorem zDd (d:Dev)(l:List (ByteArray×ByteArray))(w:World)(hl:Atts w d.aa d.ac l)(han:d.an=l.length)(hb:l.length<=1000000):
  Calls Tryz.prog 79 #[.agg d.vals] w fun e w'=>(∃ a' c',e=.returned (.agg ({ d with aa:=a',ac:=c' }:Dev).vals)/\Atts w' a' c' l/\∀ ad,a'=some ad->w.heap.size<=ad.block)/\Fr No w w':=by
 obtain⟨ix,pa,nm,og,sb,dr,al,kd,nu,aa,an,ac⟩:=d;dsimp only at han hl;subst han;have hx:Fr No w ((w.alloc (.cells #[.int .i64 ix,.int .i64 pa,.string nm,.string og,.string sb,.string dr,.string al,.int .i64 kd,.int .i64 nu,.slice aa l.length ac] 34)).alloc (.cells #[.int .i64 0,.int .i64 0,.string ⟨#[]⟩,.string ⟨#[]⟩,.string ⟨#[]⟩,.string ⟨#[]⟩,.string ⟨#[]⟩,.int .i64 0,.int .i64 0,.slice none 0 0] 34)):=((Fr.refl _ _).alloc _).alloc _;have q0:=zL w (.cells #[.int .i64 ix,.int .i64 pa,.string nm,.string og,.string sb,.string dr,.string al,.int .i64 kd,.int .i64 nu,.slice aa l.length ac] 34) (.cells #[.int .i64 0,.int .i64 0,.string ⟨#[]⟩,.string ⟨#[]⟩,.string ⟨#[]⟩,.string ⟨#[]⟩,.string ⟨#[]⟩,.int .i64 0,.int .i64 0,.slice none 0 0] 34);have q1:=zP w (.cells #[.int .i64 ix,.int .i64 pa,.string nm,.string og,.string sb,.string dr,.string al,.int .i64 kd,.int .i64 nu,.slice aa l.length ac] 34) (.cells #[.int .i64 0,.int .i64 0,.string ⟨#[]⟩,.string ⟨#[]⟩,.string ⟨#[]⟩,.string ⟨#[]⟩,.string ⟨#[]⟩,.int .i64 0,.int .i64 0,.slice none 0 0] 34);show Calls Tryz.prog 79 #[.agg #[.int .i64 ix,.int .i64 pa,.string nm,.string og,.string sb,.string dr,.string al,.int .i64 kd,.int .i64 nu,.slice aa l.length ac]] w _
 go_enter Tryz.func79,Tryz.ntmps79
 go_upto_region 1 with(fail)
 have hW2:w.heap.size+2<=((w.alloc (.cells #[.int .i64 ix,.int .i64 pa,.string nm,.string og,.string sb,.string dr,.string al,.int .i64 kd,.int .i64 nu,.slice aa l.length ac] 34)).alloc (.cells #[.int .i64 0,.int .i64 0,.string ⟨#[]⟩,.string ⟨#[]⟩,.string ⟨#[]⟩,.string ⟨#[]⟩,.string ⟨#[]⟩,.int .i64 0,.int .i64 0,.slice none 0 0] 34)).heap.size:=by simp
 generalize (w.alloc (.cells #[.int .i64 ix,.int .i64 pa,.string nm,.string og,.string sb,.string dr,.string al,.int .i64 kd,.int .i64 nu,.slice aa l.length ac] 34)).alloc (.cells #[.int .i64 0,.int .i64 0,.string ⟨#[]⟩,.string ⟨#[]⟩,.string ⟨#[]⟩,.string ⟨#[]⟩,.string ⟨#[]⟩,.int .i64 0,.int .i64 0,.slice none 0 0] 34)=W0 at *;have c9:W0.cell? ⟨w.heap.size,9,none⟩=some (.slice aa l.length ac):=zB q0 9;have hW0:w.heap.size<=W0.heap.size:=hx.size
 go_wp2_with fail
 refine(zFM aa ac l _ (hl.no hx (fun _=>id)) hb).mono ?_;rintro e w1 ⟨⟨a',c',rfl,hA,hfresh⟩,hf1⟩;have p0:=hf1.heap q0 id;have p1:=hf1.heap q1 id;clear c9 q0 q1;have c9:w1.cell? ⟨w.heap.size,9,none⟩=some (.slice aa l.length ac):=zB p0 9;have f9:w1.frozen? ⟨w.heap.size,9,none⟩=false:=zC p0 9
 go_upto_region 2 with(fail)
 have hx1:Fr (Is w.heap.size) w1 (w1.setCell ⟨w.heap.size,9,none⟩ (.slice a' l.length c')):=Fr.setAt (Fr.refl _ _) _;have r0:=zF p0 9 (.slice a' l.length c');have r1:=hx1.heap p1 (fun e=>by unfold Is at e;omega);have hA1:=hA.fr hx1 (fun ad e _ h=>by have:=hfresh ad e;unfold Is at h;omega);clear p0 p1 c9 f9;generalize w1.setCell ⟨w.heap.size,9,none⟩ (.slice a' l.length c')=W1 at *;obtain⟨c0,c1,c2,c3,c4,c5,c6,c7,c8,c9⟩:=cl10 r0;obtain⟨z0,z1,z2,z3,z4,z5,z6,z7,z8,z9⟩:=cl10 r1;obtain⟨y0,y1,y2,y3,y4,y5,y6,y7,y8,y9⟩:=fl10 r1;have h10:=zAy r1 rfl ⟨ix,pa,nm,og,sb,dr,al,kd,nu,a',l.length,c'⟩;have hfin:Hid _:=And.intro (hA1.fr h10.2 (fun ad e _ h=>by have:=hfresh ad e;unfold Is at h;omega)) ((((hx.step hf1 (fun _ _ h=>h)).step hx1 (fun b hb e=>by unfold Is at e;omega)).step h10.2 (fun b hb e=>by unfold Is at e;omega)));clear h10 hA1 hA r0 r1 hx1
 go_wp2_with fail
 refine bodyPost_ret (v:=.agg #[.int .i64 ix,.int .i64 pa,.string nm,.string og,.string sb,.string dr,.string al,.int .i64 kd,.int .i64 nu,.slice a' l.length c']) (by simp[results,Tryz.results79,go_sem,z0,z1,z2,z3,z4,z5,z6,z7,z8,z9]) rfl ?_;exact⟨⟨a',c',rfl,hfin.out.1,fun ad e=>by have:=hfresh ad e;omega⟩,hfin.out.2⟩
def FoundD (w w':World)(ds:List Dev)(n:Int)(e:Ending):Prop:=
 (look ds n=none/\e=.returned (.tuple #[.agg Dev.zero.vals,.bool false]))\/
 ∃ d a' c' l,look ds n=some d/\e=.returned (.tuple #[.agg ({ d with aa:=a',ac:=c' }:Dev).vals,.bool true])/\Atts w' a' c' l/\d.an=l.length/\l.length<=24/\∀ ad,a'=some ad->w.heap.size<=ad.block
theorem zGK (a:Option Addr)(cap:Nat)(ds:List Dev)(b base:Nat)(n:Int)(w:World)(hl:Tr w base a cap ds)(hb:w.cell? ⟨b,0,none⟩=some (.int .i64 n)):
  Calls Tryz.prog 42 #[.agg #[.slice a ds.length cap],.func (.func 43) #[] #[.pointer (some ⟨b,0,none⟩)]] w fun e w'=>FoundD w w' ds n e/\Fr No w w':=by
 have hx:Fr No w ((w.alloc (.cells #[.slice a ds.length cap] 28)).alloc (.cells #[.int .i64 0,.int .i64 0,.string ⟨#[]⟩,.string ⟨#[]⟩,.string ⟨#[]⟩,.string ⟨#[]⟩,.string ⟨#[]⟩,.int .i64 0,.int .i64 0,.slice none 0 0] 34)):=((Fr.refl _ _).alloc _).alloc _;have q0:=zL w (.cells #[.slice a ds.length cap] 28) (.cells #[.int .i64 0,.int .i64 0,.string ⟨#[]⟩,.string ⟨#[]⟩,.string ⟨#[]⟩,.string ⟨#[]⟩,.string ⟨#[]⟩,.int .i64 0,.int .i64 0,.slice none 0 0] 34);have q1:=zP w (.cells #[.slice a ds.length cap] 28) (.cells #[.int .i64 0,.int .i64 0,.string ⟨#[]⟩,.string ⟨#[]⟩,.string ⟨#[]⟩,.string ⟨#[]⟩,.string ⟨#[]⟩,.int .i64 0,.int .i64 0,.slice none 0 0] 34);have hW2:w.heap.size+2<=((w.alloc (.cells #[.slice a ds.length cap] 28)).alloc (.cells #[.int .i64 0,.int .i64 0,.string ⟨#[]⟩,.string ⟨#[]⟩,.string ⟨#[]⟩,.string ⟨#[]⟩,.string ⟨#[]⟩,.int .i64 0,.int .i64 0,.slice none 0 0] 34)).heap.size:=by simp
 have hm:=hl.dv.lenmax
 go_enter Tryz.func42,Tryz.ntmps42
 go_upto_region 1 with(fail)
 generalize (w.alloc (.cells #[.slice a ds.length cap] 28)).alloc (.cells #[.int .i64 0,.int .i64 0,.string ⟨#[]⟩,.string ⟨#[]⟩,.string ⟨#[]⟩,.string ⟨#[]⟩,.string ⟨#[]⟩,.int .i64 0,.int .i64 0,.slice none 0 0] 34)=W0 at *;have t0:W0.cell? ⟨w.heap.size,0,none⟩=some (.slice a ds.length cap):=zB q0 0
 go_wp2_with fail
 refine(zGg a cap ds b n _ (hl.dv.no hx (fun _=>id)) (hx.cell hb id)).mono ?_;rintro e w1 ⟨rfl,hf1⟩;have p0:=hf1.heap q0 id;have p1:=hf1.heap q1 id;have hx1:=hx.step hf1 (fun _ _ h=>h);have hl1:=hl.no hx1;have hs1:w.heap.size+1<w1.heap.size:=zE p1;clear t0 q0 q1;rcases zAV ds n with⟨hlk,hpl⟩ | ⟨k,d,hlk,hpl,hdk⟩
 ·rw[hpl];have Hlk:=Lib.hid hlk;clear hlk hpl;obtain⟨z0,z1,z2,z3,z4,z5,z6,z7,z8,z9⟩:=cl10 p1;obtain⟨y0,y1,y2,y3,y4,y5,y6,y7,y8,y9⟩:=fl10 p1;have h10:=zAy p1 rfl ⟨0,0,⟨#[]⟩,⟨#[]⟩,⟨#[]⟩,⟨#[]⟩,⟨#[]⟩,0,0,none,0,0⟩;have hfin:=Lib.hid (hx1.step h10.2 (fun b hb e=>by unfold Is at e;omega));clear h10 p1 hx1 p0
  go_wp2_with fail
  refine bodyPost_ret (v:=.tuple #[.agg Dev.zero.vals,.bool false]) (by simp[results,Tryz.results42,go_sem,Dev.vals,Dev.zero,z0,z1,z2,z3,z4,z5,z6,z7,z8,z9];rfl) rfl ?_;exact⟨.inl ⟨Hlk.out,rfl⟩,hfin.out⟩
 ·rw[hpl];have Hlk:=Lib.hid hlk;have hk:k<ds.length:=(List.getElem?_eq_some_iff.1 hdk).1;obtain⟨l,hA,han,hlb⟩:=(hl1.el d (List.mem_of_getElem? hdk)).att;obtain⟨bb,off,d',rfl,hd,c0,c1,c2,c3,c4,c5,c6,c7,c8,c9⟩:=hl1.dv.dev hk;obtain rfl:d=d':=by rw[hdk]at hd;exact Option.some.inj hd
  have Hcopy:=Lib.hid (zDd d l w1 hA han (by omega));have t0:w1.cell? ⟨w.heap.size,0,none⟩=some (.slice (some ⟨bb,off,none⟩) ds.length cap):=zB p0 0;have Han:=Lib.hid han;clear hlk hpl hdk hd han
  go_wp2_with fail
  refine Hcopy.out.mono ?_;rintro e w2 ⟨⟨a',c',rfl,hA',hfresh⟩,hf2⟩;have p2:=hf2.heap p1 id;have hx2:=hx1.step hf2 (fun _ _ h=>h);clear p0 p1 c0 c1 c2 c3 c4 c5 c6 c7 c8 c9 t0;have hs2:w.heap.size+1<w2.heap.size:=zE p2;obtain⟨z0,z1,z2,z3,z4,z5,z6,z7,z8,z9⟩:=cl10 p2;obtain⟨y0,y1,y2,y3,y4,y5,y6,y7,y8,y9⟩:=fl10 p2;have h10:=zAy p2 rfl { d with aa:=a',ac:=c' };have hfin:Hid _:=And.intro (hA'.fr h10.2 (fun ad e _ h=>by have:=hfresh ad e;unfold Is at h;omega)) (hx2.step h10.2 (fun b hb e=>by unfold Is at e;omega));clear h10 hA' p2 hx2;unfold Dev.vals
  go_wp2_with fail
  refine bodyPost_ret (v:=.tuple #[.agg ({ d with aa:=a',ac:=c' }:Dev).vals,.bool true]) (by simp[results,Tryz.results42,go_sem,Dev.vals,z0,z1,z2,z3,z4,z5,z6,z7,z8,z9]) rfl ?_;exact⟨.inr ⟨d,a',c',l,Hlk.out,rfl,hfin.out.1,Han.out,hlb,fun ad e=>by have:=hfresh ad e;omega⟩,hfin.out.2⟩
theorem zA9 (a:Option Addr)(cap:Nat)(ds:List Dev)(base:Nat)(n:Int)(w:World)(hl:Tr w base a cap ds):
  Calls Tryz.prog 16 #[.agg #[.slice a ds.length cap],.int .i64 n] w fun e w'=>FoundD w w' ds n e/\Fr No w w':=by
 have hx:Fr No w (((w.alloc (.cells #[.slice a ds.length cap] 28)).alloc (.cells #[.int .i64 n] 3)).alloc (.cells #[.int .i64 0,.int .i64 0,.string ⟨#[]⟩,.string ⟨#[]⟩,.string ⟨#[]⟩,.string ⟨#[]⟩,.string ⟨#[]⟩,.int .i64 0,.int .i64 0,.slice none 0 0] 34)):=(((Fr.refl _ _).alloc _).alloc _).alloc _;have fx:Fr No ((w.alloc (.cells #[.slice a ds.length cap] 28)).alloc (.cells #[.int .i64 n] 3)) (((w.alloc (.cells #[.slice a ds.length cap] 28)).alloc (.cells #[.int .i64 n] 3)).alloc (.cells #[.int .i64 0,.int .i64 0,.string ⟨#[]⟩,.string ⟨#[]⟩,.string ⟨#[]⟩,.string ⟨#[]⟩,.string ⟨#[]⟩,.int .i64 0,.int .i64 0,.slice none 0 0] 34)):=(Fr.refl _ _).alloc _;have q0:=fx.heap (zL w (.cells #[.slice a ds.length cap] 28) (.cells #[.int .i64 n] 3)) id;have q1:=fx.heap (zP w (.cells #[.slice a ds.length cap] 28) (.cells #[.int .i64 n] 3)) id;have q2:=zD ((w.alloc (.cells #[.slice a ds.length cap] 28)).alloc (.cells #[.int .i64 n] 3)) (.cells #[.int .i64 0,.int .i64 0,.string ⟨#[]⟩,.string ⟨#[]⟩,.string ⟨#[]⟩,.string ⟨#[]⟩,.string ⟨#[]⟩,.int .i64 0,.int .i64 0,.slice none 0 0] 34);rw[World.size_alloc,World.size_alloc]at q2;clear fx
 go_enter Tryz.func16,Tryz.ntmps16
 go_upto_region 1 with(fail)
 generalize ((w.alloc (.cells #[.slice a ds.length cap] 28)).alloc (.cells #[.int .i64 n] 3)).alloc (.cells #[.int .i64 0,.int .i64 0,.string ⟨#[]⟩,.string ⟨#[]⟩,.string ⟨#[]⟩,.string ⟨#[]⟩,.string ⟨#[]⟩,.int .i64 0,.int .i64 0,.slice none 0 0] 34)=W0 at *;have t0:W0.cell? ⟨w.heap.size,0,none⟩=some (.slice a ds.length cap):=zB q0 0;have t1:W0.cell? ⟨w.heap.size+1,0,none⟩=some (.int .i64 n):=zB q1 0;have hW0:=hx.size;have hW1:=zE q2
 go_wp2_with fail
 refine(zGK a cap ds (w.heap.size+1) base n _ (hl.no hx) t1).mono ?_;rintro e w2 ⟨hF,hf2⟩;have p2:=hf2.heap q2 id;have hx2:=hx.step hf2 (fun _ _ h=>h);have hs2:w.heap.size+2<w2.heap.size:=zE p2;clear t0 t1 q0 q1 q2;obtain⟨z0,z1,z2,z3,z4,z5,z6,z7,z8,z9⟩:=cl10 p2;obtain⟨y0,y1,y2,y3,y4,y5,y6,y7,y8,y9⟩:=fl10 p2;rcases hF with⟨hlk,rfl⟩ | ⟨d,a',c',l,hlk,rfl,hA,han,hlb,hfr⟩
 ·have h10:=zAy p2 rfl Dev.zero;have hfin:=Lib.hid (And.intro hlk (hx2.step h10.2 (fun b hb e=>by unfold Is at e;omega)));clear h10 p2 hx2 hlk;unfold Dev.vals Dev.zero
  go_wp2_with fail
  refine bodyPost_ret (v:=.tuple #[.agg Dev.zero.vals,.bool false]) (by simp[results,Tryz.results16,go_sem,Dev.vals,Dev.zero,z0,z1,z2,z3,z4,z5,z6,z7,z8,z9]) rfl ?_;exact⟨.inl ⟨hfin.out.1,rfl⟩,hfin.out.2⟩
 ·have h10:=zAy p2 rfl { d with aa:=a',ac:=c' };have hfin:=Lib.hid (And.intro hlk (And.intro han (And.intro (hA.fr h10.2 (fun ad e _ h=>by have:=hfr ad e;unfold Is at h;omega)) (hx2.step h10.2 (fun b hb e=>by unfold Is at e;omega)))));clear h10 p2 hx2 hlk han hA;unfold Dev.vals
  go_wp2_with fail
  refine bodyPost_ret (v:=.tuple #[.agg ({ d with aa:=a',ac:=c' }:Dev).vals,.bool true]) (by simp[results,Tryz.results16,go_sem,Dev.vals,z0,z1,z2,z3,z4,z5,z6,z7,z8,z9]) rfl ?_;exact⟨.inr ⟨d,a',c',l,hfin.out.1,rfl,hfin.out.2.2.1,hfin.out.2.1,hlb,fun ad e=>by have:=hfr ad e;omega⟩,hfin.out.2.2.2⟩
end Go.Proofs.YtmajgldaplkpiaaGreatDoor
