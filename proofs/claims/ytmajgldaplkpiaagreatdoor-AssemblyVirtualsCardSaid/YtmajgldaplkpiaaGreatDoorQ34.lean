import Derived.Test.YtmajgldaplkpiaaGreatDoorQ33
import Derived.Deep.Slices
import Derived.SliceStrings
import Derived.ChangeArms
import Derived.SizedLaws
namespace Go.Proofs.YtmajgldaplkpiaaGreatDoor
open Go.RowKit Go.Maps Go.ChangeShapes
set_option linter.unusedVariables false
set_option maxRecDepth 100000
set_option maxHeartbeats 8000000
theorem zKn {L O:List Mem}{ids:List ByteArray}(hids:IsIds L ids)(h:O.map Mem.k=own1 L ids){j:Nat}{m:Mem}(hj:O[j]?=some m):
  ∃ o,ids[j]?=some m.i/\best L (kb m.i)=some o/\m.k=o.k/\m.l=o.l/\m.l.length=1/\o∈L:=by
 have h1:(O.map Mem.k)[j]?=some m.k:=by rw[List.getElem?_map,hj];rfl
 rw[h,own1,List.getElem?_map]at h1;obtain⟨x,hx,he⟩:=Option.map_eq_some_iff.1 h1;obtain⟨o,ho⟩:=Option.isSome_iff_exists.1 ((hids.mem x).1 (List.mem_of_getElem? hx));obtain⟨h2,h3,h4⟩:=zCW _ _ _ ho;rw[ho,Option.getD_some]at he;have e1:m.i=o.i:=(congrArg Mem.i he).symm;have e2:m.l=o.l:=(congrArg Mem.l he).symm;have e3:m.i=x:=by rw[e1];exact zEZ h4
 refine⟨o,by rw[e3];exact hx,by rw[e3];exact ho,he.symm,e2,by rw[e2];exact h3,h2⟩
theorem zJz {L O:List Mem}{ids:List ByteArray}(h:O.map Mem.k=own1 L ids):O.length=ids.length:=by
 have:=congrArg List.length h
 simpa [own1]using this
theorem zCq (ids K:List ByteArray)(x:ByteArray):opened (ids++[x]) K=opened ids K++(if hasS K x=true then [x]else []):=by
 unfold opened;rw[List.filter_append]
 congr 1
 rw[List.filter_cons];split<;>rfl
def zKZ (w:World)(L:List Mem)(K:List ByteArray)(r:Int)(e:Ending)(w':World):Prop:=
 ∃ (a':Option Addr) (c':Nat) (V:List Vir) (ids:List ByteArray),e=.returned (.slice a' V.length c')/\Virs w' a' c' V/\(∀ ad,a'=some ad->w.heap.size<=ad.block)/\IsIds L ids/\V=(opened ids K).map (virOf L r)/\ids.length<=L.length
theorem zJP (a:Option Addr)(cap:Nat)(L:List Mem)(ka:Option Addr)(kc:Nat)(K:List ByteArray)(r:Int)(m0:Int)(w:World)(hl:Mems w a cap L)(hb:MemSmall L)(hk:Strs w ka kc K)(hkl:K.length<=1000000)(hks:∀ x∈K,x.size<=maxLen)
  (hm0:w.cell? ⟨0,0,none⟩=some (.int .i64 m0)) (hw0:0<w.heap.size):
  Calls Tryz.prog 157 #[.slice a L.length cap,.slice ka K.length kc,.int .i64 r] w fun e w'=>zKZ w L K r e w'/\Fr No w w':=by
 obtain⟨i0,hi0,hz0,hz1,hz2⟩:=info_parts infoV;have hlm:=hb.len;have Hb:=Lib.hid hb;clear hb
 go_enter Tryz.func157,Tryz.ntmps157
 go_wp2_with fail
 refine(zJ7 ka kc K w hk hkl hks).mono ?_;rintro e w1 ⟨⟨mb,rfl,hK1,hmb⟩,hf1⟩;have hl1:=hl.no hf1 (fun _=>id);have hm1:=hf1.cell hm0 id;have hs1:=hf1.size;have Hf1:=Lib.hid hf1;have hmb1:mb<w1.heap.size:=VMap.lt hK1;clear hk hks hl hm0 hf1
 go_wp2_with fail
 refine(zI0 a cap L m0 w1 hl1 Hb.out hm1 (by omega)).mono ?_;rintro e w2 ⟨⟨oa,oc,O,ids,rfl,hO,hOf,hOm,hids,ho,hil⟩,hf2⟩;have hol:=zJz ho;have hs2:=hf2.size;have hK2:=hK1.fr hf2 id;have Hf2:=Lib.hid (Hf1.out.step hf2 (fun _ _ h=>h));have Hids:=Lib.hid hids;have Ho:=Lib.hid ho;have HOm:=Lib.hid hOm;have hom:=hO.lenmax;clear hl1 hm1 hf2 hK1 hids ho hOm hOf
 go_wp2_with fail
 go_loopw [8,18] (fun v i wr=>∃ (j:Nat) (V:List Vir) (av:Option Addr) (cv:Nat),j<=O.length/\V.length<=j/\v=.slice av V.length cv/\i=.int .i64 (j:Int)/\wr.ownsRow w2.heap.size 79 4 (.slice av V.length cv) V.length (vflat V)/\Hid (V=(opened (ids.take j) K).map (virOf L r))/\Fr (From w2.heap.size) w2 wr) (fun _ i _=>O.length-(intOf i).toNat)
 case atStart=>exact⟨0,[],none,0,by omega,by simp,rfl,rfl,World.ownsRow_nil _ _ _ _,by unfold Hid;simp[opened],Fr.refl _ _⟩
 case round=>
  obtain⟨j,V,av,cv,hj,hVj,rfl,rfl,hown,HV,hf⟩:=hrel;have hsr:=hf.size;by_cases hlt:j<O.length
  ·have hlt':(j:Int)<O.length:=by omega
   obtain⟨b,off,m,rfl,hxj,hst,hat,hbl⟩:=(hO.keep hf (fun b hb h=>by unfold From at h;omega)).elem hlt;obtain⟨o,hid,hbo,hmk,hml,hm1,hoL⟩:=zKn Hids.out Ho.out hxj;have hib:∀ ad,m.a=some ad->ad.block<w2.heap.size:=fun ad e=>((hO.ok m (List.mem_of_getElem? hxj)).cell ad e (by intro e;rw[e]at hm1;cases hm1)).2.1
   have him:m.i.size<=1000000:=by have h1:=Hb.out.i o hoL;have h2:=congrArg Mem.i hmk;have h3:m.i=o.i:=h2;rw[h3];exact h1
   have hix:m.i.size<=maxLen:=by unfold maxLen;omega
   have Htj:Hid (ids.take (j+1)=ids.take j++[m.i]):=by unfold Hid;rw[List.take_add_one,hid];rfl
   have hK3:=hK2.fr hf (by unfold From;omega);have hst0:=hst.at (k:=0) (by omega);have Hin:Hid (∀ c,m.l[0]?=some c->virOf L r m.i=⟨⟨#[]⟩,openT++m.i,c,r⟩):=fun c hc=>by
    unfold virOf zJN;rw[hbo,Option.getD_some,<-hml]
    congr 1
    rcases hll:m.l with _ | ⟨d,t⟩
    ·rw[hll]at hc;cases hc
    ·rw[hll]at hc;simpa using hc
   have hml1:(0:Int)<m.l.length:=by omega
   clear hxj hid hbo hmk hml hoL hst;obtain⟨mp,mi,mr,ms,mt,me,ma,ml,mc⟩:=m;obtain⟨c0,c1,c2,c3,c4,c5,c6⟩:=hat;simp only at c0 c1 c2 c3 c4 c5 c6 him hix hst0 hml1 hm1 hib;obtain⟨ib,io,c,rfl,hc,hcc⟩:=hst0;rw[Nat.add_zero]at hcc;have hibl:=hib _ rfl;simp only at hibl;clear hib;have Hc:=Lib.hid (Hin.out c hc);have Hm1:=Lib.hid hm1;clear hc Hin hm1;simp only at Hc Htj;have hx1:Fr No wr (wr.alloc (.cells #[.string mp,.string mi,.int .i64 mr,.int .i64 ms,.int .i64 mt,.int .i64 me,.slice (some ⟨ib,io,none⟩) ml.length mc] 264)):=(Fr.refl _ _).alloc _;have hKx:=hK3.fr hx1 id;unfold KSet at hKx;have hv:((fun x=>if hasS K (bk x)=true then some (Value.agg #[])else none) (kb mi)).getD (.agg #[])=.agg #[]:=by
    simp only[zEB];cases hasS K mi<;>rfl
   rcases hh:hasS K mi with _ | _
   ·have hbo:((fun x=>if hasS K (bk x)=true then some (Value.agg #[])else none) (kb mi)).isSome=false:=by simp only[zEB,hh];rfl
    have hx2:Fr No wr ((wr.alloc (.cells #[.string mp,.string mi,.int .i64 mr,.int .i64 ms,.int .i64 mt,.int .i64 me,.slice (some ⟨ib,io,none⟩) ml.length mc] 264)).alloc (.cells #[] 271)):=hx1.alloc _;have hown2:=zJ hown hx2 (fun _ _ h=>h);have HV2:Hid (V=(opened (ids.take (j+1)) K).map (virOf L r)):=by unfold Hid;rw[Htj.out,zCq,hh];simpa using HV.out
    have HF:=Lib.hid (And.intro hown2 (hf.step hx2 (fun _ _ h=>h.elim)));clear hown2 hown hx2 hx1 hf hh HV
    go_wp2_with (at_lookup;refine zBM rfl _ _ 268 271 (.agg #[]) (zeroE _) rfl Tryz.underlying268 mb _ _ mi hix rfl hKx rfl (.agg #[]) hv false hbo ?_)
    go_roundw
    case rel=>exact⟨j+1,V,av,cv,by omega,by omega,rfl,by go_num,HF.out.1,HV2,HF.out.2⟩
    case measure=>simp[intOf];omega
   ·have hbo:((fun x=>if hasS K (bk x)=true then some (Value.agg #[])else none) (kb mi)).isSome=true:=by simp only[zEB,hh];rfl
    have hx2:Fr No wr ((wr.alloc (.cells #[.string mp,.string mi,.int .i64 mr,.int .i64 ms,.int .i64 mt,.int .i64 me,.slice (some ⟨ib,io,none⟩) ml.length mc] 264)).alloc (.cells #[] 271)):=hx1.alloc _;have q1:=zL wr (.cells #[.string mp,.string mi,.int .i64 mr,.int .i64 ms,.int .i64 mt,.int .i64 me,.slice (some ⟨ib,io,none⟩) ml.length mc] 264) (.cells #[] 271);have hown2:=zJ hown hx2 (fun _ _ h=>h);have HV2:Hid ((opened (ids.take (j+1)) K).map (virOf L r)=V++[⟨⟨#[]⟩,openT++mi,c,r⟩]):=by unfold Hid;rw[Htj.out,zCq,hh,if_pos rfl,List.map_append,<-HV.out,List.map_cons,List.map_nil,Hc.out]
    go_upto_region 8 with(at_lookup;refine zBM rfl _ _ 268 271 (.agg #[]) (zeroE _) rfl Tryz.underlying268 mb _ _ mi hix rfl hKx rfl (.agg #[]) hv true hbo ?_)
    have hcx:=hx2.cell hcc id;have hsx:=hx2.size;have hfx:=hf.step hx2 (fun _ _ h=>h.elim);have nO:¬ (Value.slice av V.length cv).ownBlock=some wr.heap.size:=fun h=>by have:=zU hown h;omega
    have nI:¬ (Value.slice av V.length cv).ownBlock=some ib:=fun h=>by have:=zN hown h;unfold From at this;omega
    clear hx2 hx1 hown hcc hf hKx hv hbo c0 c1 c2 c3 c4 c5 c6;generalize (wr.alloc (.cells #[.string mp,.string mi,.int .i64 mr,.int .i64 ms,.int .i64 mt,.int .i64 me,.slice (some ⟨ib,io,none⟩) ml.length mc] 264)).alloc (.cells #[] 271)=W5 at *;refine zR (fun b=>(Value.slice av V.length cv).ownBlock=some b) [(0,false),(1,false),(2,false),(3,false),(4,false),(5,false),(6,false),(7,false),(8,false),(9,false),(10,true),(11,true),(12,false)] (by kernel_rfl) (by kernel_rfl) (fun w0 hf0=>?_);have g1:∀ g:Gr (fun b=>(Value.slice av V.length cv).ownBlock=some b) w0,g.W.cell? ⟨wr.heap.size,1,none⟩=some (.string mi):=fun g=>g.fr.cell (hf0.cell (zB q1 1) id) nO
    have g6:∀ g:Gr (fun b=>(Value.slice av V.length cv).ownBlock=some b) w0,g.W.cell? ⟨wr.heap.size,6,none⟩=some (.slice (some ⟨ib,io,none⟩) ml.length mc):=fun g=>g.fr.cell (hf0.cell (zB q1 6) id) nO
    have gc:∀ g:Gr (fun b=>(Value.slice av V.length cv).ownBlock=some b) w0,g.W.cell? ⟨ib,io,none⟩=some (.string c):=fun g=>g.fr.cell (hf0.cell hcx id) nI
    have hown3:=zJ hown2 hf0 (fun _ _ h=>h);have hz:¬ 9223372036854775807<5+mi.size:=by omega
    have hs0:=hf0.size;have Hfx:=Lib.hid (hfx.step hf0 (fun _ _ h=>h.elim));have Hown3:=Lib.hid hown3;have HV0:=Lib.hid HV;clear hown2 hf0 hfx q1 hcx nO nI HV hown3
    repeat (apply zT;exact rfl;exact rfl;exact rfl;intro K hK;go_big_quiet_op;go_big_quiet_on)
    clear g1 g6 gc;apply zi;exact rfl
    go_wp2_with fail
    refine OnlyN.mk ⟨(Fr.refl _ _).alloc _,?_⟩;apply zi;exact rfl
    go_wp2_with (at_builtin;refine wpList_append_own _ rfl _ _ 71 rfl w2.heap.size 79 i0 (.agg #[.string ByteArray.empty,.string ByteArray.empty,.string ByteArray.empty,.int .i64 0]) 4 56 Tryz.underlying71 hi0 hz0 hz1 hz2 rfl (by decide) _ _ _ rfl (Hown3.out.alloc _) ⟨w0.heap.size,0,none⟩ 1 1 (Vir.vals ⟨⟨#[]⟩,openT++mi,c,r⟩).toList rfl rfl (zX _ (Vir.vals ⟨⟨#[]⟩,openT++mi,c,r⟩) _ rfl) (zBg _) (by unfold maxLen;omega) (by omega) (by first | omega | (simp;done) | (simp;omega)) ?_;intro v' w6 hown6 hgrow6 _;obtain⟨av',cv',rfl⟩:=zG hown6)
    have hgf:Fr (fun b=>(Value.slice av V.length cv).ownBlock=some b) (w0.alloc (.cells (Vir.vals ⟨⟨#[]⟩,openT++mi,c,r⟩) 79)) w6:=Fr.of_grown hgrow6;have hal:Fr No w0 (w0.alloc (.cells (Vir.vals ⟨⟨#[]⟩,openT++mi,c,r⟩) 79)):=(Fr.refl _ _).alloc _;refine OnlyN.mk ⟨hgf,?_⟩;have HF:=Lib.hid (And.intro hown6 ((Hfx.out.step hal (fun _ _ h=>h.elim)).step hgf (fun b _ h=>zN Hown3.out h)));clear hown6 hgf hal hgrow6
    repeat (apply zT;exact rfl;exact rfl;exact rfl;intro K hK;go_big_quiet_op;go_big_quiet_on)
    refine zb ?_
    go_wp2_with fail
    go_roundw
    case rel=>exact⟨j+1,V++[⟨⟨#[]⟩,openT++mi,c,r⟩],av',cv',by omega,by simp;omega,by simp,by go_num,by rw[List.length_append,zBN];exact HF.out.1,Lib.hid HV2.out.symm,HF.out.2⟩
    case measure=>simp[intOf];omega
  ·obtain rfl:j=O.length:=by omega
   obtain⟨a',c',hv,hR,hfresh⟩:=Virs.of_own hown;cases hv;have hV:=HV.out;rw[hol,List.take_length]at hV;have H:=Lib.hid (And.intro hR (And.intro hfresh (And.intro hV ((Hf2.out.step hf (fun b hb h=>by have:=Hf2.out.size;unfold From at h;omega))))));clear hown HV hf hR hfresh hV
   go_wp2_with fail
   go_ret;exact⟨⟨_,_,V,ids,rfl,H.out.1,fun ad e=>by have:=H.out.2.1 ad e;omega,Hids.out,H.out.2.2.1,hil⟩,H.out.2.2.2⟩
theorem zHo {s:ByteArray}{c:Ct}(h:parseC s=some c):c.id.size<=100000/\c.inner.length<=10000:=by
 obtain⟨hf,-⟩:=zBD h;have hw:c∈c.walk:=by
  obtain⟨k,i,l,sl,t,e,n⟩:=c;simp[Ct.walk]
 exact⟨(hf.small c hw).1,Nat.le_trans (zCy hw) hf.count⟩
theorem zFz {s:ByteArray}{c:Ct}(h:parseC s=some c)(hk:c.kind=2\/c.kind=4):1<=c.slot/\c.slot<=16:=by
 obtain⟨hf,-⟩:=zBD h;have hg:=hf.good;obtain⟨k,i,l,sl,t,e,n⟩:=c;rw[Ct.good,Bool.and_eq_true]at hg;have h4:=hg.1;have hk':k=2\/k=4:=hk;rcases hk' with rfl | rfl
 ·simp[alike,zAC]at h4;show 1<=sl/\sl<=16
  omega
 ·simp[alike,zAC]at h4;show 1<=sl/\sl<=16
  omega
theorem zC1 {s:ByteArray}{c:Ct}(h:parseC s=some c)(hk:c.kind=2\/c.kind=3\/c.kind=4):c.inner.length<=16:=by
 obtain⟨hf,-⟩:=zBD h;have hg:=hf.good;obtain⟨k,i,l,sl,t,e,n⟩:=c;rw[Ct.good,Bool.and_eq_true]at hg;have h4:=hg.1;have hk':k=2\/k=3\/k=4:=hk;show n.length<=16
 rcases hk' with rfl | rfl | rfl
 ·simp[alike]at h4;omega
 ·simp[alike]at h4;omega
 ·simp[alike,someIn]at h4;omega
structure OneM (m:Mem)(o:ByteArray):Prop where
 p:m.p=o
 i:m.i.size<=100000
 l:m.l.length<=16
 s:0<=m.s/\m.s<=16
theorem zJ1 {k:Int}{mk:ByteArray->Int->Ct->Mem}(hmk:∀ p rd c,parseC c.txt=some c->c.kind=k->OneM (mk p rd c) p){p:ByteArray}{rd:Int}{s:ByteArray}{m:Mem}(h:ofK k mk p rd s=some m):OneM m p:=by
 unfold ofK at h;cases hc:parseC s with
 | none=>rw[hc]at h;cases h
 | some c=>
  rw[hc]at h;simp only at h;split at h
  ·rename_i hk;cases h;have:=(zBD hc).2;exact hmk p rd c (by rw[this];exact hc) hk
  ·cases h
theorem zHY (p:ByteArray)(rd:Int)(c:Ct)(h:parseC c.txt=some c)(hk:c.kind=2):OneM (mk2 p rd c) p:=by
 have h1:=zHo h;have h2:=zFz h (.inl hk);exact⟨rfl,h1.1,by show (c.inner.map Ct.txt).length<=16;rw[List.length_map];exact zC1 h (by simp[hk]),by show 0<=c.slot/\c.slot<=16;omega⟩
theorem zHX (p:ByteArray)(rd:Int)(c:Ct)(h:parseC c.txt=some c)(hk:c.kind=3):OneM (mk3 p rd c) p:=by
 have h1:=zHo h;exact⟨rfl,h1.1,by show (c.inner.map Ct.txt).length<=16;rw[List.length_map];exact zC1 h (by simp[hk]),by show (0:Int)<=0/\(0:Int)<=16;omega⟩
theorem zE5 (p:ByteArray)(rd:Int)(c:Ct)(h:parseC c.txt=some c)(hk:c.kind=4):OneM (mk4 p rd c) p:=by
 have h1:=zHo h;have h2:=zFz h (.inr hk);exact⟨rfl,h1.1,by show (c.inner.map Ct.txt).length<=16;rw[List.length_map];exact zC1 h (by simp[hk]),by show 0<=c.slot/\c.slot<=16;omega⟩
theorem zFj {k:Int}{mk:ByteArray->Int->Ct->Mem}(hmk:∀ p rd c,parseC c.txt=some c->c.kind=k->OneM (mk p rd c) p){tx:Dev->ByteArray}{S:List Src}{L:List Mem}(h:L.map Mem.k=S.filterMap (fun s=>ofK k mk s.o s.r (tx s.d))):
  L.length<=S.length/\∀ m∈L,∃ s∈S,OneM m s.o:=by
 refine⟨?_,fun m hm=>?_⟩
 ·have:=congrArg List.length h;rw[List.length_map]at this;rw[this];exact List.length_filterMap_le _ _
 ·have h1:m.k∈L.map Mem.k:=List.mem_map_of_mem hm;rw[h]at h1;obtain⟨s,hs,h2⟩:=List.mem_filterMap.1 h1;have h3:=zJ1 hmk h2;exact⟨s,hs,⟨h3.p,h3.i,h3.l,h3.s⟩⟩
theorem zAa {k:Int}{mk:ByteArray->Int->Ct->Mem}(hmk:∀ p rd c,parseC c.txt=some c->c.kind=k->OneM (mk p rd c) p){tx:Dev->ByteArray}{S:List Src}{L:List Mem}(h:L.map Mem.k=S.filterMap (fun s=>ofK k mk s.o s.r (tx s.d)))(hS:S.length<=1000)(ho:∀ s∈S,s.o.size<=1000000):MemSmall2 L:=by
 obtain⟨h1,h2⟩:=zFj hmk h;refine⟨by omega,fun m hm=>?_,fun m hm=>?_,fun m hm=>?_,fun m hm=>?_⟩
 ·obtain⟨s,hs,h3⟩:=h2 m hm;rw[h3.p];exact ho s hs
 ·obtain⟨s,hs,h3⟩:=h2 m hm;have:=h3.i;omega
 ·obtain⟨s,hs,h3⟩:=h2 m hm;have:=h3.l;omega
 ·obtain⟨s,hs,h3⟩:=h2 m hm;have:=h3.s;exact WalkArith.wf_i64 (by omega)
theorem zDZ {k:Int}{mk:ByteArray->Int->Ct->Mem}(hmk:∀ p rd c,parseC c.txt=some c->c.kind=k->OneM (mk p rd c) p){tx:Dev->ByteArray}{S:List Src}{L:List Mem}(h:L.map Mem.k=S.filterMap (fun s=>ofK k mk s.o s.r (tx s.d)))(hS:S.length<=1000)(ho:∀ s∈S,s.o.size<=1000000):MemSmall L:=
 have h2:=zAa hmk h hS ho
 ⟨h2.len,h2.p,h2.i,h2.l⟩
theorem zF8 {good:Mem->Bool}{L:List Mem}{ids:List ByteArray}{O:List ArrM}{m:ArrM}(hids:IsIds2 (zk good L) ids)(hO:O.map ArrM.toArr=ids.map (buildA (zk good L)))(hm:m∈O)(hi:∀ x∈L,x.i.size<=1000000):m.i.size<=1000000:=by
 have h1:m.toArr∈O.map ArrM.toArr:=List.mem_map_of_mem hm;rw[hO]at h1;obtain⟨gi,hg,h2⟩:=List.mem_map.1 h1;have h3:m.i=gi:=by rw[<-h2];rfl
 obtain⟨s,hs⟩:=(hids.mem gi).1 hg;obtain⟨x,hx⟩:=Option.isSome_iff_exists.1 hs;obtain⟨h4,-,h5⟩:=zB4 L _ _ hx;have h6:x.i=gi:=congrArg Prod.fst h5;rw[h3,<-h6];exact hi x h4
theorem zES {L:List Mem}{ids K:List ByteArray}{r:Int}{v:Vir}(hids:IsIds L ids)(hv:v∈(opened ids K).map (virOf L r))(hi:∀ x∈L,x.i.size<=1000000):v.q.size=0/\v.o.size<=1000005:=by
 obtain⟨x,hx,rfl⟩:=List.mem_map.1 hv;have h1:x∈ids:=(List.mem_filter.1 hx).1;obtain⟨m,hm⟩:=Option.isSome_iff_exists.1 ((hids.mem x).1 h1);obtain⟨h2,-,h3⟩:=zCW L _ _ hm;have h4:m.i=x:=zCC (l:=[m.i]) (l':=[x]) (by simp[h3]) |> fun h=>by injection h
 have h5:=hi m h2;rw[h4]at h5;refine⟨rfl,?_⟩;show (openT++x).size<=_
 rw[ByteArray.size_append];show 5+x.size<=_
 omega
theorem zGb {k:Int}{mk:ByteArray->Int->Ct->Mem}(hmk:∀ p rd c,parseC c.txt=some c->c.kind=k->OneM (mk p rd c) p){tx:Dev->ByteArray}{S:List Src}{L:List Mem}(h:L.map Mem.k=S.filterMap (fun s=>ofK k mk s.o s.r (tx s.d))):∀ m∈L,m.l.length<=16:=fun m hm=>by
 obtain⟨s,hs,h3⟩:=(zFj hmk h).2 m hm;exact h3.l
theorem zFE {good:Mem->Bool}{L:List Mem}(hi:∀ x∈L,x.l.length<=16)(gi:ByteArray):(zAR (zk good L) gi).l.length<=16:=by
 unfold zAR;cases hq:zk good L (gi,zAq (zk good L) gi)with
 | none=>simp[Mem.zero]
 | some m=>exact hi m (zB4 L _ _ hq).1
theorem zIA {good:Mem->Bool}{L:List Mem}{ids:List ByteArray}{O:List ArrM}{m:ArrM}(hO:O.map ArrM.toArr=ids.map (buildA (zk good L)))(hm:m∈O)(hi:∀ x∈L,x.l.length<=16):m.l.length<=16:=by
 have h1:m.toArr∈O.map ArrM.toArr:=List.mem_map_of_mem hm;rw[hO]at h1;obtain⟨gi,hg,h2⟩:=List.mem_map.1 h1;have h3:m.l=(zAR (zk good L) gi).l:=by rw[<-h2];rfl
 rw[h3];exact zFE hi gi
def Wt {H:Type}(t:TypeId)(d:DataW H):Prop:=∀ n∈d.weights Tryz.prog t,n<=reachBytes
theorem wt_each {H:Type}{ts:List TypeId}{ds:List (DataW H)}(h:(DataW.weightsEach Tryz.prog ts ds).all (·<=reachBytes)=true){j:Nat}{t:TypeId}{d:DataW H}(ht:ts[j]?=some t)(hd:ds[j]?=some d):Wt t d:=fun n hn=>by
 have:=List.all_eq_true.1 h n (DataW.weights_mem_each ht hd n hn)
 simpa using this
section
variable {H:Type}{enc:TypeId×Value->H}{w:World}{base:Nat}{spare:Nat->Bool}{held:Bool}
end
section
variable {H:Type}{enc:TypeId×Value->H}{w:World}{base:Nat}{spare:Nat->Bool}{held:Bool}
end
theorem zGO (a:Option Addr)(cap:Nat)(l:List ByteArray)(s:ByteArray)(w:World)(hl:Strs w a cap l):
  Calls Tryz.prog 96 #[.slice a l.length cap,.string s] w fun e w'=>IdxS l s e/\Fr No w w':=by
 have hm:=hl.lenmax
 go_enter Tryz.func96,Tryz.ntmps96
 go_wp2_with fail
 go_loop [8] (fun i=>∃ k:Nat,k<=l.length/\i=.int .i64 k/\Hid (∀ x∈l.take k,(x.toList==s.toList)=false)) (fun i=>l.length-(intOf i).toNat)
 case atStart=>exact⟨0,by omega,rfl,by unfold Hid;simp⟩
 case round=>
  obtain⟨k,hk,rfl,hno⟩:=hrel;by_cases hlt:k<l.length
  ·have hlt':(k:Int)<l.length:=by omega
   obtain⟨b,off,x,rfl,hx,hc⟩:=hl.at hlt;have Hx:=Lib.hid hx;clear hx;rcases he:(s.toList==x.toList)with _ | _
   ·have he':(x.toList==s.toList)=false:=by rw[Bool.beq_comm];exact he
    have He':=Lib.hid he';clear he'
    go_wp2_with fail
    go_round
    case rel=>
     refine⟨k+1,by omega,by go_num,?_⟩;unfold Hid;intro y hy;rw[List.take_add_one,Hx.out]at hy;rcases List.mem_append.1 hy with h | h
     ·exact hno.out y h
     ·simp at h;subst h;exact He'.out
    case measure=>simp[intOf];omega
   ·have Hg:Hid (hasS l s=true):=zKB Hx.out (by rw[Bool.beq_comm];exact he)
    go_wp2_with fail
    go_ret;exact⟨⟨k,rfl,by rw[Hg.out];simp⟩,Fr.refl _ _⟩
  ·obtain rfl:k=l.length:=by omega
   have h:=hno.out;rw[List.take_of_length_le (by omega)]at h;have Hg:Hid (hasS l s=false):=zKA h
   go_wp2_with fail
   go_ret;exact⟨⟨-1,rfl,by rw[Hg.out];rfl⟩,Fr.refl _ _⟩
theorem zDm (a:Option Addr)(cap:Nat)(l:List ByteArray)(s:ByteArray)(w:World)(hl:Strs w a cap l):
  Calls Tryz.prog 94 #[.slice a l.length cap,.string s] w fun e w'=>e=.returned (.bool (hasS l s))/\Fr No w w':=by
 go_enter Tryz.func94,Tryz.ntmps94
 go_wp2_with fail
 refine(zGO a cap l s _ hl).mono ?_;rintro e w1 ⟨⟨i,rfl,hi⟩,hf1⟩;have Hi:=Lib.hid hi;clear hi
 go_wp2_with fail
 go_ret;exact⟨zK Hi.out,hf1⟩
def lvT (id:ByteArray)(k:Int):ByteArray:=(⟨#[108,118,45]⟩:ByteArray)++id++(⟨#[45]⟩:ByteArray)++(⟨(Lib.itoa k).toArray⟩:ByteArray)
def lvOk (id:ByteArray)(k:Int):Bool:=decide (1<=k)&&decide (k<=16)&&isName (lvT id k)
theorem zIl (id:ByteArray)(k:Int):(lvT id k).size=id.size+4+(Lib.itoa k).length:=by
 unfold lvT;rw[ByteArray.size_append,ByteArray.size_append,ByteArray.size_append];show 3+id.size+1+(Lib.itoa k).toArray.size=_
 simp;omega
theorem zKb (id:ByteArray)(k:Int)(w:World)(hE:Env w)(hid:id.size<=1000000)(hk:(Lit.int .i64 k).wf=true):
  Calls Tryz.prog 219 #[.string id,.int .i64 k] w fun e w'=>e=.returned (.tuple #[.string (if lvOk id k=true then lvT id k else ⟨#[]⟩),.int .i64 (if lvOk id k=true then 0 else 340)])/\Fr No w w':=by
 have hkb:-9223372036854775808<=k/\k<=9223372036854775807:=by simp[Lit.wf,IntKind.min,IntKind.max,IntKind.signed,IntKind.bits]at hk;omega
 have hil:=Lib.itoa_length_le k hkb.1 hkb.2;have hsz:=zIl id k;have h1:((⟨#[108,118,45]⟩:ByteArray)++id).size<=9223372036854775807:=by rw[ByteArray.size_append];show 3+id.size<=_;omega
 have h2:((⟨#[108,118,45]⟩:ByteArray)++id++(⟨#[45]⟩:ByteArray)).size<=9223372036854775807:=by rw[ByteArray.size_append,ByteArray.size_append];show 3+id.size+1<=_;omega
 obtain⟨it,hit⟩:∃ it,it=(⟨(Lib.itoa k).toArray⟩:ByteArray):=⟨_,rfl⟩
 have hL:lvT id k=(⟨#[108,118,45]⟩:ByteArray)++id++(⟨#[45]⟩:ByteArray)++it:=by rw[hit];rfl
 have h3:((⟨#[108,118,45]⟩:ByteArray)++id++(⟨#[45]⟩:ByteArray)++it).size<=9223372036854775807:=by rw[<-hL,hsz];omega
 have h4:((⟨#[108,118,45]⟩:ByteArray)++id++(⟨#[45]⟩:ByteArray)++it).size<=maxLen:=by unfold maxLen;rw[<-hL,hsz];omega
 have hits:it.size<=21:=by rw[hit];simpa [ByteArray.size]using hil
 have hz3:¬ 9223372036854775807<3+id.size+1+it.size:=by omega
 have hz4:¬ 9223372036854775807<((⟨#[108,118,45]⟩:ByteArray)++id++(⟨#[45]⟩:ByteArray)).size+it.size:=by rw[<-ByteArray.size_append];omega
 have hz5:((⟨#[108,118,45]⟩:ByteArray)++id++(⟨#[45]⟩:ByteArray)).size+it.size<=9223372036854775807:=by omega
 obtain⟨bo,hbo⟩:∃ bo,bo=lvOk id k:=⟨_,rfl⟩
 rw[<-hbo,hL];have Hbo:=Lib.hid hbo;have HL:=Lib.hid hL;have hit2:(⟨(Lib.itoa k).toArray⟩:ByteArray)=it:=hit.symm;clear hbo hL hsz hil hit
 go_enter Tryz.func219,Tryz.ntmps219
 go_wp2_with fail
 refine(Tryz.strconv_Itoa k hkb.1 hkb.2 _ hE.tab).mono ?_;rintro e w1 ⟨rfl,kk,os,rfl⟩;have hf1:Fr No w (Go.Sort.grow (w.drewN kk) os):=Fr.of_below_size (Lib.below_grow _ w (Nat.le_refl _) kk os);generalize Go.Sort.grow (w.drewN kk) os=w1 at *;rw[hit2];by_cases hk1:1<=k
 ·by_cases hk2:k<=16
  ·go_wp2_with fail
   refine(zAF _ _ h4).mono ?_;rintro e w2 ⟨rfl,hf2⟩;have hf12:=hf1.step hf2 (fun _ _ h=>h);have hb:bo=isName ((⟨#[108,118,45]⟩:ByteArray)++id++(⟨#[45]⟩:ByteArray)++it):=by rw[Hbo.out,<-HL.out];unfold lvOk;simp[hk1,hk2]
   rw[<-hb];have Hf:=Lib.hid hf12;clear hf1 hf2 hf12 hb;cases bo
   ·go_wp2_with fail
    refine bodyPost_ret (v:=.tuple #[.string ⟨#[]⟩,.int .i64 340]) (by simp[results,Tryz.results219,go_sem]) rfl ?_;exact⟨by simp,Hf.out⟩
   ·go_wp2_with fail
    refine bodyPost_ret (v:=.tuple #[.string ((⟨#[108,118,45]⟩:ByteArray)++id++(⟨#[45]⟩:ByteArray)++it),.int .i64 0]) (by simp[results,Tryz.results219,go_sem]) rfl ?_;exact⟨by simp,Hf.out⟩
  ·have hb:bo=false:=by rw[Hbo.out];unfold lvOk;simp[hk2]
   subst hb;have Hf:=Lib.hid hf1;clear hf1
   go_wp2_with fail
   refine bodyPost_ret (v:=.tuple #[.string ⟨#[]⟩,.int .i64 340]) (by simp[results,Tryz.results219,go_sem]) rfl ?_;exact⟨by simp,Hf.out⟩
 ·have hb:bo=false:=by rw[Hbo.out];unfold lvOk;simp[hk1]
  subst hb;have Hf:=Lib.hid hf1;clear hf1
  go_wp2_with fail
  refine bodyPost_ret (v:=.tuple #[.string ⟨#[]⟩,.int .i64 340]) (by simp[results,Tryz.results219,go_sem]) rfl ?_;exact⟨by simp,Hf.out⟩
def wantAt (gi:ByteArray)(ins:List ByteArray)(r:Int)(i:Nat):Vir:=⟨⟨#[]⟩,lvT gi ((i:Int)+1),ins[i]?.getD ⟨#[]⟩,r⟩
def wantF (gi:ByteArray)(ins:List ByteArray)(r:Int)(k:Nat):List Vir:=((List.range k).filter fun i:Nat=>lvOk gi ((i:Int)+1)).map (wantAt gi ins r)
theorem zDU (gi:ByteArray)(ins:List ByteArray)(r:Int)(k:Nat):wantF gi ins r (k+1)=wantF gi ins r k++(if lvOk gi ((k:Int)+1)=true then [wantAt gi ins r k]else []):=by
 unfold wantF;rw[List.range_succ,List.filter_append,List.map_append];cases h:lvOk gi ((k:Int)+1)<;>simp[h]
theorem zGz (gi:ByteArray)(ins:List ByteArray)(r:Int)(k:Nat):(wantF gi ins r k).length<=k:=by
 unfold wantF;rw[List.length_map];exact Nat.le_trans (List.length_filter_le _ _) (by simp)
def wantL (gi:ByteArray)(t n:Int)(ins:List ByteArray)(r:Int):List Vir:=if n=t then wantF gi ins r ins.length else []
theorem zJb (gi:ByteArray)(t e n rd:Int)(pa:Option Addr)(pn pc:Nat)(la:Option Addr)(lc:Nat)(ins:List ByteArray)(w:World)(hE:Env w)(hid:gi.size<=1000000)(hS:Strs w la lc ins)(hil:ins.length<=1000000):
  Calls Tryz.prog 161 #[.agg #[.string gi,.slice pa pn pc,.int .i64 t,.int .i64 e,.int .i64 n,.slice la ins.length lc],.int .i64 rd] w fun en w'=>(∃ a' c' V,en=.returned (.slice a' (V:List Vir).length c')/\Virs w' a' c' V/\V=wantL gi t n ins rd/\∀ ad,a'=some ad->w.heap.size<=ad.block)/\Fr No w w':=by
 obtain⟨i0,hi0,hz0,hz1,hz2⟩:=info_parts infoV;have hx:Fr No w (w.alloc (.cells #[.string gi,.slice pa pn pc,.int .i64 t,.int .i64 e,.int .i64 n,.slice la ins.length lc] 206)):=(Fr.refl _ _).alloc _;have q0:=zD w (.cells #[.string gi,.slice pa pn pc,.int .i64 t,.int .i64 e,.int .i64 n,.slice la ins.length lc] 206);have hm:=hS.lenmax;have hS0:=hS.no hx (fun _=>id);have hE0:=hE.no hx;have hl0:=zE q0;obtain⟨W0,hW0⟩:∃ W0,W0=w.alloc (.cells #[.string gi,.slice pa pn pc,.int .i64 t,.int .i64 e,.int .i64 n,.slice la ins.length lc] 206):=⟨_,rfl⟩
 rw[<-hW0]at hx q0 hS0 hE0 hl0;obtain⟨x0,-,x2,-,x4,x5⟩:=cl6 q0;have Hx:=Lib.hid hx;clear hx hS hE
 go_enter Tryz.func161,Tryz.ntmps161
 go_upto_region 1 with(fail)
 rw[<-hW0];clear hW0;by_cases hnt:n=t
 ·subst hnt
  go_wp2_with fail
  go_loopw [5,18] (fun u i wr=>∃ (j:Nat) (V:List Vir) (av:Option Addr) (cv:Nat),j<=ins.length/\V.length<=j/\u=.slice av V.length cv/\i=.int .i64 (j:Int)/\wr.ownsRow W0.heap.size 79 4 (.slice av V.length cv) V.length (vflat V)/\Hid (V=wantF gi ins rd j)/\Fr (From W0.heap.size) W0 wr) (fun _ i _=>ins.length-(intOf i).toNat)
  case atStart=>exact⟨0,[],none,0,by omega,by simp,rfl,rfl,World.ownsRow_nil _ _ _ _,by unfold Hid wantF;simp,Fr.refl _ _⟩
  case round=>
   obtain⟨j,V,av,cv,hj,hVl,rfl,rfl,hown,HV,hf⟩:=hrel;have hVle:V.length<=1000000:=by omega
   by_cases hlt:j<ins.length
   ·have hlt':(j:Int)<ins.length:=by omega
    obtain⟨b,off,x,rfl,hxj,hc⟩:=(hS0.fr hf (fun ad e hne=>by have:=(hS0.cell ad e hne).2.1;unfold From;omega)).at hlt;have y0:wr.cell? ⟨w.heap.size,0,none⟩=some (.string gi):=hf.cell x0 (by show ¬ From W0.heap.size w.heap.size;unfold From;omega);have hnm:=zKb gi ((j:Int)+1) wr (hE0.no (hf.mono (fun b hb h=>by unfold From at h;omega))) hid (WalkArith.wf_i64 (by omega));have Hxj:=Lib.hid hxj;have hsr:=hf.size;clear hxj;rcases hok:lvOk gi ((j:Int)+1)with _ | _
    ·rw[hok]at hnm;simp only[Bool.false_eq_true,if_false]at hnm;have HV2:Hid (V=wantF gi ins rd (j+1)):=by unfold Hid;rw[zDU,hok];simpa using HV.out
     clear hok
     go_wp2_with fail
     refine hnm.mono ?_;rintro en w1 ⟨rfl,hf1⟩;have H:=Lib.hid (And.intro (zJ hown hf1 (fun _ _ h=>h)) (hf.step hf1 (fun _ _ h=>h.elim)));clear hown hf hf1 hnm HV
     go_wp2_with fail
     go_roundw
     case rel=>exact⟨j+1,V,av,cv,by omega,by omega,rfl,by go_num,H.out.1,HV2,H.out.2⟩
     case measure=>simp[intOf];omega
    ·rw[hok]at hnm;simp only[if_true]at hnm;have HV2:Hid (wantF gi ins rd (j+1)=V++[⟨⟨#[]⟩,lvT gi ((j:Int)+1),x,rd⟩]):=by
      unfold Hid;rw[zDU,hok,<-HV.out,if_pos rfl];unfold wantAt;rw[Hxj.out];rfl
     clear hok
     go_wp2_with fail
     refine hnm.mono ?_;rintro en w1 ⟨rfl,hf1⟩;have hown1:=zJ hown hf1 (fun _ _ h=>h);have hf01:=hf.step hf1 (fun _ _ h=>h.elim);have hs1:=hf1.size;have Hown1:=Lib.hid hown1;have Hf01:=Lib.hid hf01;obtain⟨nm,hnm2⟩:∃ nm,nm=lvT gi ((j:Int)+1):=⟨_,rfl⟩
     rw[<-hnm2]at HV2 ⊢;clear hown hf hf1 hnm HV hf01 hnm2
     go_wp2_with (at_builtin;refine wpList_append_own _ rfl _ _ 71 rfl W0.heap.size 79 i0 (.agg #[.string ByteArray.empty,.string ByteArray.empty,.string ByteArray.empty,.int .i64 0]) 4 56 Tryz.underlying71 hi0 hz0 hz1 hz2 rfl (by decide) _ _ _ rfl (hown1.alloc _) ⟨w1.heap.size,0,none⟩ 1 1 (Vir.vals ⟨⟨#[]⟩,nm,x,rd⟩).toList rfl rfl (zX _ (Vir.vals ⟨⟨#[]⟩,nm,x,rd⟩) _ rfl) (zBg _) (by unfold maxLen;omega) (by omega) (by first | omega | (simp;done) | (simp;omega)) ?_;intro v' w6 hown6 hgrow6 _;obtain⟨av',cv',rfl⟩:=zG hown6)
     have hgf:Fr (fun b=>(Value.slice av V.length cv).ownBlock=some b) (w1.alloc (.cells (Vir.vals ⟨⟨#[]⟩,nm,x,rd⟩) 79)) w6:=Fr.of_grown hgrow6;have hal:Fr No w1 (w1.alloc (.cells (Vir.vals ⟨⟨#[]⟩,nm,x,rd⟩) 79)):=(Fr.refl _ _).alloc _;have HF:=Lib.hid (And.intro hown6 ((Hf01.out.step hal (fun _ _ h=>h.elim)).step hgf (fun b _ h=>zN Hown1.out h)));clear hown6 hgf hal hgrow6 hown1
     go_roundw
     case rel=>exact⟨j+1,V++[⟨⟨#[]⟩,nm,x,rd⟩],av',cv',by omega,by simp;omega,by simp,by go_num,by rw[List.length_append,zBN];exact HF.out.1,Lib.hid HV2.out.symm,HF.out.2⟩
     case measure=>simp[intOf];omega
   ·obtain rfl:j=ins.length:=by omega
    obtain⟨a',c',hv,hR,hfresh⟩:=Virs.of_own hown;cases hv;have hfr0:=Hx.out.size;have H:=Lib.hid (And.intro (And.intro hR (fun ad e=>Nat.le_trans hfr0 (hfresh ad e))) (Hx.out.step (hf.mono (T:=No) (fun b hb h=>by unfold From at h;omega)) (fun _ _ h=>h)));clear hown hf hR hfresh hfr0
    go_wp2_with fail
    go_ret;exact⟨⟨_,_,V,rfl,H.out.1.1,by unfold wantL;rw[if_pos rfl];exact HV.out,H.out.1.2⟩,H.out.2⟩
 ·have hb:(n != t)=true:=by simpa using hnt
  have Hnt:=Lib.hid hnt;clear hnt
  go_wp2_with fail
  go_ret;exact⟨⟨none,0,[],rfl,Virs.nil _,by unfold wantL;rw[if_neg Hnt.out],fun ad e=>by cases e⟩,Hx.out⟩
end Go.Proofs.YtmajgldaplkpiaaGreatDoor
