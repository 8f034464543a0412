import Derived.Test.YtmajgldaplkpiaaGreatDoorQ42
import Derived.Maps.OwnIn
namespace Go.Proofs.YtmajgldaplkpiaaGreatDoor
open Go.RowKit Go.Maps Go.Shelf
set_option linter.unusedVariables false
set_option maxRecDepth 100000
set_option maxHeartbeats 8000000
attribute [local go_sem] Oper.semAt_some
theorem zDJ {F:Fence}{nF:Nat}{w:World}{ops:Array Oper}{rest:List Oper}{o:Oper}{a:Act}{Q:Exit->Act->World->Prop}(hg:o.guard=none)(m x v:Operand)(t e:TypeId)(hop:o.op=Op.mapUpdate t m x v)(ht:Tryz.prog.underlying t=some (.map 132 e))
  (mb:Nat) (g:ByteArray×ByteArray->Option Value) (N:Nat) (hN:N<maxLen) (s:ByteArray) (n:ByteArray) (hs:s.size<=maxLen) (hn:n.size<=maxLen) (u:Value) (hm:a.eval m=.map (some mb)) (hown:QMap w mb g N) (hx:a.eval x=.agg #[.string s,.string n]) (hv:a.eval v=u)
  (hK:∀ w',QMap w' mb (updQ g (s,n) u) (N+1)->Fr (Is mb) w w'->wpListIn F nF Tryz.prog ops Q rest (a.put o.dst undef) w'):wpListIn F nF Tryz.prog ops Q (o::rest) a w:=by
 obtain⟨D,k,hk,ho,hh⟩:=hown;refine wpListIn_mapUpdate_own w hg m x v t hop 132 e lawQ ht heldV mb k D hm ho (by omega) _ _ _ hx hv (keyQ hs hn) (.held u) [] rfl (fun w' h h'=>hK w' ⟨_,k+1,by omega,h,fun y hy hy2=>?_⟩ (Fr.of_grown_some h'));obtain⟨h1,h2⟩:=hh y hy hy2;unfold updQ;by_cases e:y=(s,n)
 ·subst e;rw[if_pos rfl];exact⟨by rw[has_put_same ho.isMap (zD1 _) _];rfl,fun v hv z=>by cases hv;rw[atKey_put_same ho.isMap (zD1 _) _ _]⟩
 ·rw[if_neg e];have hne:aqL y≠aqL (s,n):=fun he=>e (zIB hy hy2 hs hn he)
  exact⟨by rw[has_put_other hne];exact h1,fun v hv z=>by rw[atKey_put_other hne];exact h2 v hv z⟩
theorem zIg {w:World}{base base':Nat}{e:TypeId}{size:Nat}{v:Value}{n:Nat}{xs:List Value}(h:w.ownsRow base e size v n xs)(hb:base'<=base):w.ownsRow base' e size v n xs:=by
 obtain⟨h0,⟨h1,h2⟩ | ⟨g,cap,cur,h1,hg,hr⟩⟩:=h
 ·exact⟨h0,.inl ⟨h1,h2⟩⟩
 ·exact⟨h0,.inr ⟨g,cap,cur,h1,Nat.le_trans hb hg,hr⟩⟩
def AddP (w:World)(b0 pb:Nat)(vq vo vc:ByteArray)(W:World):Prop:=
 ∃ (bt:Nat) (a':Option Addr) (n' c':Nat) (av:Option Addr) (cv:Nat),W.heap[pb]?=some (.cells #[.slice a' n' c',.slice av 1 cv] 135)/\W.ownsRow b0 69 14 (.slice av 1 cv) 1 (ocs 1 vq ⟨0,0,⟨#[]⟩,vo,zZ,⟨#[]⟩,⟨#[]⟩,2,1048576,some ⟨bt,0,none⟩,1,1⟩ ⟨#[]⟩ ⟨#[]⟩).toList/\
  Atts W (some ⟨bt,0,none⟩) 1 [(zQ,vc)]/\BlkT W (some ⟨bt,0,none⟩) 50/\b0<=bt/\Fr (Is pb) w W
structure PlI (w2:World)(mb bx:Nat)(pre:List (Int×Vir))(V:Nat->Prop)(W:World):Prop where
 box:W.heap[bx]?=some (.cells #[.map (some mb)] 120)
 map:∃ g N,QMap W mb g N/\N<=pre.length/\∀ p,∃ y:Vir,(g p).getD zB6=.agg #[.string y.q,.string y.o,.string y.c,.int .i64 y.r]
 foot:∀ b,V b↔b=mb
 fr:Fr (fun b=>b=mb\/w2.heap.size<=b) w2 W
theorem zKT (base:Nat)(a:Option Addr)(cap:Nat)(ds:List Dev)(ma:Option Addr)(mc:Nat)(vq vo vc:ByteArray)(vr p m:Int)(w:World)(hl:Tr w base a cap ds)(hn:ds.length<=250)(hE:Env w)(hv:∀ d∈ds,virB ds d.index=false)
  (hM:Virs w ma mc [(⟨vq,vo,vc,vr⟩:Vir)]) (hp:ParIs ds vq p) (hno:ds.find? (atP ds (vq++(⟨#[47]⟩:ByteArray)++vo))=none)
  (hq:vq.size<=100000) (ho:vo.size<=100000) (hc:vc.toList.isEmpty=false) (hcs:vc.size<=100000) (hu:usedF ds 1048576=false) (hnw:∀ d∈ds,(Lit.int .i64 d.num).wf=true) (hmx:0<=maxI ds/\maxI ds<=1000000) (hpw:(Lit.int .i64 p).wf=true)
  (hok:∀ aa,InsOk ds (newD ds p vo aa) [(zQ,vc)]) (hsz:∀ aa,Sized (newD ds p vo aa)) (hm:w.cell? ⟨0,0,none⟩=some (.int .i64 m)):
  Calls Tryz.prog 32 #[.agg #[.slice a ds.length cap],.slice ma 1 mc] w fun e w'=>(∃ (bt:Nat) (av:Option Addr) (cv:Nat),e=.returned (.slice av 1 cv)/\w'.ownsRow w.heap.size 69 14 (.slice av 1 cv) 1 (ocs 1 vq ⟨0,0,⟨#[]⟩,vo,zZ,⟨#[]⟩,⟨#[]⟩,2,1048576,some ⟨bt,0,none⟩,1,1⟩ ⟨#[]⟩ ⟨#[]⟩).toList/\
    Atts w' (some ⟨bt,0,none⟩) 1 [(zQ,vc)]/\BlkT w' (some ⟨bt,0,none⟩) 50/\w.heap.size<=bt)/\Fr No w w':=by
 refine(callsIn_wide (n:=12)).1 (callsIn_of_wp_marks Tryz.func32 rfl trivial (wpIn_wide.2 ?_));simp only[Tryz.ntmps32,List.size_toArray,List.length_cons,List.length_nil,Nat.reduceAdd,Nat.reduceSub,Array.replicate_succ,Array.replicate_zero,List.push_toArray,List.append_toArray,List.nil_append,List.cons_append];have hmk:=@run_makeMap Tryz.prog;obtain⟨W0,hW0⟩:∃ W0,W0=((w.alloc (.cells #[.slice a ds.length cap] 28)).alloc (.map #[] 0)).alloc (.cells #[.map (some (w.heap.size+1))] 120):=⟨_,rfl⟩
 have hW:Fr No w W0:=by rw[hW0];exact(((Fr.refl _ _).alloc _).alloc _).alloc _
 have b0:W0.heap[w.heap.size]?=some (.cells #[.slice a ds.length cap] 28):=by rw[hW0];exact((Fr.refl No _).alloc _).heap (zL _ _ _) id
 have m1:QMap W0 (w.heap.size+1) (fun _=>none) 0:=by
  rw[hW0];have:=QMap.made (w.alloc (.cells #[.slice a ds.length cap] 28));rw[World.size_alloc]at this;exact this.fr ((Fr.refl No _).alloc _) id
 have b2:W0.heap[w.heap.size+2]?=some (.cells #[.map (some (w.heap.size+1))] 120):=by
  rw[hW0];have:=zD ((w.alloc (.cells #[.slice a ds.length cap] 28)).alloc (.map #[] 0)) (.cells #[.map (some (w.heap.size+1))] 120);rw[World.size_alloc,World.size_alloc]at this;exact this
 have hs0:W0.heap.size=w.heap.size+3:=by rw[hW0];simp
 have Hs0:=Lib.hid hs0;have HA:=Lib.hid (And.intro hl (And.intro hE hM));have HP:=Lib.hid (And.intro hp hno);have HO:=Lib.hid (And.intro hok (And.intro hsz hm));have HU:=Lib.hid (And.intro hu hnw);have HV:=Lib.hid hv;have hmbl:∀ ad,ma=some ad->ad.block<w.heap.size:=fun ad e=>(hM.cell ad e (by simp)).2.1
 clear hs0 hl hE hM hp hno hok hsz hm hu hnw hv
 go_upto_region 2 with(fail)
 rw[<-hW0];clear hW0 hmk
 go_wp2_with fail
 refine(zI5 _ _ _ _).mono ?_;rintro e w1 ⟨rfl,rfl⟩;have hx:Fr No W0 (W0.alloc (.cells #[.slice ma 1 mc] 71)):=(Fr.refl _ _).alloc _;have db:=zD W0 (.cells #[.slice ma 1 mc] 71);have hfw:=hW.step hx (fun _ _ h=>h);have d0:=hx.heap b0 id;have d2:=hx.heap b2 id;have dm:=m1.fr hx id;rw[Hs0.out]at db;clear b0 b2 m1 hx hW
 go_wp2_with fail
 rw[Hs0.out];generalize W0.alloc (.cells #[.slice ma 1 mc] 71)=W2 at *;have hl2:=zE db;have HD:=Lib.hid (And.intro d0 (And.intro d2 dm));refine(wpIn_wide (n:=12)).1 (zAw (α:=Int×Vir) (T:=fun _=>False) (V0:=Is (w.heap.size+1)) rfl (by omega) (gf:=107) (lb:=#[.pointer (some ⟨w.heap.size+3,0,none⟩)]) rfl trivial (enters_of Tryz.func107 (by kernel_rfl) rfl) (encs:=fun x:Int×Vir=>#[.int .i64 x.1,.agg x.2.vals]) (fun _=>rfl) (fun b h=>h.elim) (fun b h=>by unfold Is at h;omega)
  (zDN 11 (by omega) (w.heap.size+3) ma mc [(⟨vq,vo,vc,vr⟩:Vir)] W2 (Is (w.heap.size+1)) db (HA.out.2.2.fr hfw (fun _ _ _=>id)) (by simp) ⟨fun h=>by unfold Is at h;omega,fun ad e _ h=>by have:=hmbl ad e;unfold Is at h;omega⟩)
  (PlI W2 (w.heap.size+1) (w.heap.size+2)) (fun s V A h b hb=>by obtain⟨g,N,hq,_⟩:=h.map;rw[(h.foot b).1 hb];exact hq.lt) (fun s V A B S h hf hS=>by
   obtain⟨g,N,hq,hN,hg⟩:=h.map;exact⟨hf.heap h.box (fun hb=>by
    have h':W2.heap.size<=w.heap.size+2:=(hS _ hb).2.resolve_left id;omega),⟨g,N,hq.fr hf (fun hb=>(hS _ hb).1 ((h.foot _).2 rfl)),hN,hg⟩,h.foot,h.fr.step hf (fun b hb hs=>by
    rcases(hS b hs).2 with h' | h'
    ·exact h'.elim
    ·exact .inr h')⟩)
  ⟨d2,⟨_,0,dm,Nat.le_refl _,fun p=>⟨⟨⟨#[]⟩,⟨#[]⟩,⟨#[]⟩,0⟩,rfl⟩⟩,fun b=>Iff.rfl,Fr.refl _ _⟩
  (fun x V a' W=>∃ Bx,W2.heap.size+2<=Bx/\W.heap[Bx]?=some (.cells x.2.vals 79)/\¬ V Bx/\a'={ tmps:=#[.agg #[.slice a ds.length cap],.slice ma 1 mc,.pointer (some ⟨w.heap.size,0,none⟩),undef,.slice none 0 0,.pointer (some ⟨w.heap.size+2,0,none⟩),undef,.pointer (some ⟨Bx,0,none⟩),undef,undef,undef,.map (some (w.heap.size+1)),.slice ma 1 mc,.func (.func 107) #[] #[.pointer (some ⟨w.heap.size+3,0,none⟩)],.int .i64 x.1,.agg x.2.vals,undef,undef,undef,undef,undef,undef,undef,undef,undef,undef,undef,undef,undef,undef,undef,undef,undef,undef,undef,undef,undef,undef,undef,undef,undef,undef,undef,undef,undef,undef],defers:=[] })
  (fun x V a' A B h hf=>by obtain⟨Bx,h1,h2,h3,h4⟩:=h;exact⟨Bx,h1,hf.heap h2 (fun e=>by unfold Is at e;omega),h3,h4⟩)
  ?assign ?body ?done)
 case assign=>
  intro l pre V x W K hi hsz2 hK;have hlt:∀ b,V b->b<W.heap.size:=fun b hb=>by obtain⟨g,N,hq,_⟩:=hi.map;rw[(hi.foot b).1 hb];exact hq.lt
  have hK':=fun a' W' (h1:Fr No W W') h2=>hK a' W' h1 h2
  clear hfw d0 d2 dm db;unfold Vir.vals
  gi_wp2
  exact hK _ _ ((Fr.refl _ _).alloc _) ⟨W.heap.size,hsz2,zD _ _,fun h=>by have:=hlt _ h;omega,rfl⟩
 case body=>
  rintro l pre V ⟨xi,v⟩ a' W hi ⟨Bx,hBx,hbx,hVx,rfl⟩ hpre hsz2;have hmem:v=⟨vq,vo,vc,vr⟩:=by
   have h1:((xi,v):Int×Vir)∈revR [(⟨vq,vo,vc,vr⟩:Vir)]:=hpre.subset (by simp);unfold revR at h1;simp at h1;exact h1.2
  have hpl:pre.length<=1:=by
   have h1:=hpre.length_le;rw[zDo]at h1;simp only[List.length_append,List.length_cons,List.length_nil]at h1;omega
  have hsv:v.q.size<=maxLen/\v.o.size<=maxLen:=by rw[hmem];unfold maxLen;dsimp only;omega
  obtain⟨g,N,hqm,hN,hg⟩:=hi.map;have x2:W.cell? ⟨w.heap.size+2,0,none⟩=some (.map (some (w.heap.size+1))):=zB hi.box 0;obtain⟨x3,x4,x5,x6⟩:=cl4 hbx;have HI:=Lib.hid hi;have HG:=Lib.hid hg;clear hfw d0 d2 dm db hmem hi hbx hpre hg
  gi_wp2_with (gi_at_mapUpdate;refine zDJ rfl _ _ _ 120 _ rfl Tryz.underlying120 (w.heap.size+1) g N (by unfold maxLen;omega) v.q v.o hsv.1 hsv.2 (.agg #[.string v.q,.string v.o,.string v.c,.int .i64 v.r]) rfl hqm rfl rfl ?_;intro w6 hq6 hf6)
  have hV1:V (w.heap.size+1):=(HI.out.foot _).2 rfl;refine⟨V,fun b h=>.inl h,⟨hf6.heap HI.out.box (fun h=>by unfold Is at h;omega),⟨_,N+1,hq6,by simp;omega,fun p=>?_⟩,HI.out.foot,HI.out.fr.step hf6 (fun b hb h=>.inl h)⟩,hf6.mono (fun b hb h=>by unfold Is at h;subst h;exact hV1)⟩;unfold updQ;by_cases e:p=(v.q,v.o)
  ·rw[if_pos e];exact⟨v,rfl⟩
  ·rw[if_neg e];exact HG.out p
 case done=>
  rintro V W hi hK hnV;obtain⟨g,N,hqm,hN,hg⟩:=hi.map;have hold:∀ b,b<w.heap.size+1->¬ (b=w.heap.size+1\/W2.heap.size<=b):=fun b hb h=>by rcases h with h | h<;>omega
  have hfW:Fr No w W:=hfw.step hi.fr (fun b hb h=>hold b (by omega) h);have t0:W.cell? ⟨w.heap.size,0,none⟩=some (.slice a ds.length cap):=zB (hi.fr.heap d0 (hold _ (by omega))) 0;have t5:W.cell? ⟨w.heap.size+2,0,none⟩=some (.map (some (w.heap.size+1))):=zB hi.box 0;obtain⟨W1,hW1⟩:∃ W1,W1=W.alloc (.cells #[.slice a ds.length cap,.slice none 0 0] 135):=⟨_,rfl⟩
  have x1:Fr No W W1:=by rw[hW1];exact(Fr.refl _ _).alloc _
  have pb1:W1.heap[W.heap.size]?=some (.cells #[.slice a ds.length cap,.slice none 0 0] 135):=by rw[hW1];exact zD _ _
  have hf1:=hfW.step x1 (fun _ _ h=>h);have hrm:=zId W.heap.size (w.heap.size+1) base a cap ds none 0 0 g N W1 (HA.out.1.no hf1) hn (HA.out.2.1.no hf1) pb1 (hqm.fr x1 id) hg HV.out;have HBX:=Lib.hid (x1.heap hi.box id);have HQ:=Lib.hid (And.intro (hqm.fr x1 id) hg);have HF1:=Lib.hid hf1;have HPB:=Lib.hid pb1;have HK1:=Lib.hid (x1.heap hK id);have hww:=hfW.size;have hkl:=zE hK;have hnW:W2.heap.size≠W.heap.size:=by omega
  clear hfw d0 d2 dm db hi hqm hg x1 pb1 hf1 hK hnV hold hfW
  go_upto_region 6 with(fail)
  rw[<-hW1];clear hW1 t0 t5;have t5:W1.cell? ⟨w.heap.size+2,0,none⟩=some (.map (some (w.heap.size+1))):=zB HBX.out 0
  go_wp2_with fail
  refine hrm.mono ?_;rintro e w3 ⟨rfl,hf3⟩;clear hrm t5;have t5:w3.cell? ⟨w.heap.size+2,0,none⟩=some (.map (some (w.heap.size+1))):=zB (hf3.heap HBX.out id) 0;have hf03:=HF1.out.step hf3 (fun _ _ h=>h);have hst:=zLF W.heap.size (w.heap.size+1) base a cap ds none 0 0 g N w3 (HA.out.1.no hf03) hn (HA.out.2.1.no hf03) (hf3.heap HPB.out id) (HQ.out.1.fr hf3 id) HQ.out.2 HV.out;clear hf03
  go_wp2_with fail
  refine hst.mono ?_;rintro e w4 ⟨rfl,hf4⟩;have hf14:=hf3.step hf4 (fun _ _ h=>h);have HF4:=Lib.hid (HF1.out.step hf14 (fun _ _ h=>h));have HPB4:=Lib.hid (hf14.heap HPB.out id);have HK4:=Lib.hid (hf14.heap HK1.out id);have hs4:=HF4.out.size;clear hst t5 hf3 hf4 hf14 HBX HQ HPB HF1 HK1
  go_wp2_with fail
  go_loopw [34] (fun x wr=>(x=.int .i64 0/\wr=w4)\/(x=.int .i64 1/\Hid (AddP w4 w.heap.size W.heap.size vq vo vc wr))) (fun x _=>(1-intOf x).toNat)
  case atStart=>exact .inl ⟨rfl,rfl⟩
  case round=>
   rcases hrel with⟨rfl,rfl⟩ | ⟨rfl,HAP⟩
   ·obtain⟨vb,voff,u,rfl,hu0,⟨c0,c1,c2,c3⟩,hvb⟩:=(HA.out.2.2.fr HF4.out (fun _ _ _=>id)).elem (k:=0) (by simp);obtain rfl:u=⟨vq,vo,vc,vr⟩:=by simpa using hu0.symm
    simp only[Nat.zero_mul,Nat.add_zero]at c0 c1 c2 c3;obtain⟨W5,hW5⟩:∃ W5,W5=wr.alloc (.cells #[.string vq,.string vo,.string vc,.int .i64 vr] 79):=⟨_,rfl⟩
    have x5:Fr No wr W5:=by rw[hW5];exact(Fr.refl _ _).alloc _
    have b5:W5.heap[wr.heap.size]?=some (.cells #[.string vq,.string vo,.string vc,.int .i64 vr] 79):=by rw[hW5];exact zD _ _
    have hf05:=HF4.out.step x5 (fun _ _ h=>h);have had:=zKl W.heap.size base _ cap ds vq vo vc vr p m W5 (HA.out.1.no hf05) hn (HA.out.2.1.no hf05) (x5.heap HPB4.out id) HP.out.1 HP.out.2 hq ho hc hcs HU.out.1 HU.out.2 hmx hpw HO.out.1 HO.out.2.1 (hf05.cell HO.out.2.2 id);obtain⟨v0,v1,v2,v3⟩:=cl4 b5;have s5:=hf05.size;have HX5:=Lib.hid x5;clear hu0 x5 b5 hf05
    go_upto_region 11 with(fail)
    rw[<-hW5];clear hW5 c0 c1 c2 c3
    go_wp2_with fail
    refine had.mono ?_;rintro e w6 ⟨rfl,⟨bt,a',n',c',av,cv,kp6,ho6,hA6,hB6,hbt⟩,hf6⟩;have HAD:Hid (AddP wr w.heap.size W.heap.size vq vo vc w6):=⟨bt,a',n',c',av,cv,kp6,zIg ho6 s5,hA6,hB6,by omega,(HX5.out.mono (fun _ _ h=>h.elim)).step hf6 (fun _ _ h=>h)⟩
    clear had kp6 ho6 hA6 hB6 hf6 v0 v1 v2 v3
    go_wp2_with fail
    go_roundw
    case rel=>exact .inr ⟨by first | rfl | (go_num;done),HAD⟩
    case measure=>simp[intOf]
   ·obtain⟨bt,a',n',c',av,cv,kp,hor,hat,hbt,hb,hfp⟩:=HAP.out;have t1:wr.cell? ⟨W.heap.size,1,none⟩=some (.slice av 1 cv):=zB kp 1;have hKr:=hfp.heap HK4.out (fun h=>hnW h);have hput:Fr (Is W2.heap.size) wr (wr.putObj W2.heap.size (.deferred none)):=Fr.putObj _ _ _ rfl;have hfin:Fr No w (wr.putObj W2.heap.size (.deferred none)):=((HF4.out.step hfp (fun b hb h=>by unfold Is at h;omega))).step hput (fun b hb h=>by unfold Is at h;omega);have hat2:=hat.fr hput (fun ad e _ h=>by obtain⟨cs,hc⟩:=hbt ad e;unfold Is at h;rw[h,hKr]at hc;cases hc);have hbt2:=hbt.fr hput (fun ad e h=>by obtain⟨cs,hc⟩:=hbt ad e;unfold Is at h;rw[h,hKr]at hc;cases hc);have hor2:=zJ hor hput (fun b hb h=>by
     obtain⟨ad,rfl,rfl⟩:=zBo hb;obtain⟨cs,hc⟩:=zAj hor ad rfl;unfold Is at h;rw[h,hKr]at hc;cases hc)
    have H:=Lib.hid (And.intro hor2 (And.intro hat2 (And.intro hbt2 (And.intro hb hfin))));have HKR:=Lib.hid hKr;clear kp hor hat hbt hb hfp hput hfin hat2 hbt2 hor2 hKr
    go_wp2_with fail
    refine⟨by simp,.inl ⟨_,_,rfl,run_takeDeferred HKR.out,?_⟩⟩;exact⟨_,results_tmp rfl _ _ _,⟨bt,av,cv,rfl,H.out.1,H.out.2.1,H.out.2.2.1,H.out.2.2.2.1⟩,H.out.2.2.2.2⟩
theorem KSt.no {w w':World}{kb base:Nat}{a:Option Addr}{cap:Nat}{ds:List Dev}{ev:Option Addr}{en ec:Nat}{ix:Int}(h:KSt w kb base a cap ds ev en ec ix)(hf:Fr No w w'):KSt w' kb base a cap ds ev en ec ix:=
 ⟨hf.heap h.blk id,h.tr.no hf,h.ta.fr hf (fun _ _=>id),fun d hd=>(h.te d hd).fr hf (fun _ _=>id),h.own.elim fun xs hx=>⟨xs,zJ hx hf (fun _ _=>id)⟩,h.nm⟩
theorem KSt.new (w:World)(base:Nat):KSt (w.alloc (.cells (kcs none 0 0 none 0 0 0) 105)) w.heap.size base none 0 [] none 0 0 0:=
 ⟨zD _ _,Tr.nil _ _,BlkT.none _ _,fun d hd=>by simp at hd,⟨[],World.ownsRow_nil _ _ _ _⟩,fun d hd=>by simp at hd⟩
theorem zEs {w w':World}{kb base:Nat}{a:Option Addr}{cap:Nat}{ds:List Dev}{ev:Option Addr}{en ec:Nat}{ix:Int}(h:KSt w kb base a cap ds ev en ec ix){a':Option Addr}{c':Nat}{ds':List Dev}
  (hD:Devs w' a' c' ds') (hf:∀ ad,a'=some ad->w.heap.size<=ad.block) (hC:Cop w w' w.heap.size ds ds') (hwf:TreeWf ds'):Tr w' w.heap.size a' c' ds':=
 hC.tr (fun d hd=>⟨(h.tr.el d hd).sz,(h.tr.el d hd).drv⟩) hD hwf hf (Nat.le_refl _)
theorem zF3 {w w':World}{b0:Nat}{a a':Option Addr}{c c':Nat}(h:Cop w w' b0 [D0 a c] [D0 a' c']){t:ByteArray}(hA:Atts w a c [(zQ,t)]):Atts w' a' c' [(zQ,t)]:=by
 obtain⟨l,h1,h2,h3,h4⟩:=(h.el 0 _ _ rfl rfl).att;have e:l=[(zQ,t)]:=Atts.det (w:=w) (a:=a) (c:=c) (c':=c) h1 hA h3.symm;subst e;exact h2
theorem zF2 {w w':World}{b0:Nat}{a a' e e':Option Addr}{c c' f f':Nat}(h:Cop w w' b0 [D0 a c,D1 e f] [D0 a' c',D1 e' f']){t u:ByteArray}(hA:Atts w a c [(zQ,t)])(hB:Atts w e f [(zQ,u)]):Atts w' a' c' [(zQ,t)]/\Atts w' e' f' [(zQ,u)]:=by
 obtain⟨l,h1,h2,h3,h4⟩:=(h.el 0 _ _ rfl rfl).att;obtain⟨k,g1,g2,g3,g4⟩:=(h.el 1 _ _ rfl rfl).att;have x:l=[(zQ,t)]:=Atts.det (w:=w) (a:=a) (c:=c) (c':=c) h1 hA h3.symm;have y:k=[(zQ,u)]:=Atts.det (w:=w) (a:=e) (c:=f) (c':=f) g1 hB g3.symm;subst x;subst y;exact⟨h2,g2⟩
theorem getT (t:ByteArray):getP [(zQ,t)] zr=t:=by
 have h:isKey zr (zQ,t)=true:=by simp[isKey,zQ,zr]
 unfold getP;rw[List.find?_cons_of_pos h];rfl
theorem txs0 {w:World}{a:Option Addr}{c:Nat}(h:Atts w a c [(zQ,sxT)]):TxS w w.heap.size sxTx [D0 a c]:=fun d hd=>by
 obtain rfl:d=D0 a c:=by simpa using hd
 exact⟨_,h,rfl,getT _,by show sxT.size<=_;decide,fun ad e hne=>(h.cell ad e hne).2.1⟩
theorem txs1 {w:World}{a e:Option Addr}{c f:Nat}(h:Atts w a c [(zQ,sxT)])(h':Atts w e f [(zQ,sxR)]):TxS w w.heap.size sxTx [D0 a c,D1 e f]:=fun d hd=>by
 rcases List.mem_cons.1 hd with rfl | hd
 ·exact⟨_,h,rfl,getT _,by show sxT.size<=_;decide,fun ad e hne=>(h.cell ad e hne).2.1⟩
 ·obtain rfl:d=D1 e f:=by simpa using hd
  exact⟨_,h',rfl,getT _,by show sxR.size<=_;decide,fun ad e hne=>(h'.cell ad e hne).2.1⟩
theorem zJI (w:World):∀ r∈[sxL0,sxL1],RecOk w r:=fun r hr=>by
 rcases List.mem_cons.1 hr with rfl | hr
 ·exact⟨Atts.nil w,Strs.nil w⟩
 ·obtain rfl:r=sxL1:=by simpa using hr
  exact⟨Atts.nil w,Strs.nil w⟩
theorem zKp {w:World}{base:Nat}{av:Option Addr}{cv:Nat}{k:Int}{path nm vl:ByteArray}{x:Dev}(h:w.ownsRow base 69 14 (.slice av 1 cv) 1 (ocs k path x nm vl).toList):∃ g,av=some ⟨g,0,none⟩/\OpB w g k path x nm vl/\g<w.heap.size:=by
 obtain⟨h0,⟨h1,h2⟩ | ⟨g,cap,cur,h1,hg,hb,hn,hm,hs,ht⟩⟩:=h
 ·cases h2
 ·cases h1;have hj:∀ j,j<14->cur[j]?=(ocs k path x nm vl)[j]?:=fun j hj=>by
   rw[<-Array.getElem?_toList,<-Array.getElem?_toList,<-ht,List.getElem?_take_of_lt (by omega)]
  have hc:∀ j,j<14->w.cell? ⟨g,j,none⟩=(ocs k path x nm vl)[j]?:=fun j h=>by rw[zB hb j];exact hj j h
  exact⟨g,rfl,⟨hc 0 (by omega),hc 1 (by omega),hc 2 (by omega),hc 3 (by omega),hc 4 (by omega),hc 5 (by omega),hc 6 (by omega),hc 7 (by omega),hc 8 (by omega),hc 9 (by omega),hc 10 (by omega),hc 11 (by omega),hc 12 (by omega),hc 13 (by omega)⟩,zE hb⟩
theorem zJp (a:Option Addr)(c:Nat)(r:Int)(S:List Src)(M:List Vir)(G:List (ByteArray×ByteArray))(h:sxI0 a c r S M G):SmR [D0 a c] r S M G:=by
 obtain⟨rfl,rfl,hM⟩:=h;refine⟨fun s hs=>?_,by simp,?_,by simp⟩
 ·obtain rfl:s=⟨0,D0 a c,sxPA,0⟩:=by simpa using hs
  exact⟨by simp,by show sxPA.size<=_;decide⟩
 ·rcases hM with⟨_,rfl⟩ | rfl<;>simp
theorem zJo (a e:Option Addr)(c f:Nat)(r:Int)(S:List Src)(M:List Vir)(G:List (ByteArray×ByteArray))(h:sxI1 a e c f r S M G):SmR [D0 a c,D1 e f] r S M G:=by
 rcases h with⟨rfl,rfl,rfl,rfl⟩ | ⟨rfl,rfl,rfl,rfl⟩ | ⟨rfl,rfl,rfl,rfl⟩
 ·refine⟨fun s hs=>?_,by simp,by simp,by simp⟩;obtain rfl:s=⟨0,D0 a c,sxPA,0⟩:=by simpa using hs
  exact⟨by simp,by show sxPA.size<=_;decide⟩
 all_goals
  refine⟨fun s hs=>?_,by simp,by simp,by simp⟩;rcases List.mem_cons.1 hs with rfl | hs
  ·exact⟨by simp,by show sxPA.size<=_;decide⟩
  ·obtain rfl:s=⟨1,D1 e f,sxPB,1⟩:=by simpa using hs
   exact⟨by simp,by show sxPB.size<=_;decide⟩
theorem zJ6 (w:World)(hE:Env w):Calls Tryz.prog 10 #[] w fun e w'=>e=.returned (.bool true)/\Fr No w w':=by
 obtain⟨m,hm⟩:=hE.len;have h9:=hE.sz;have HE:=Lib.hid hE;have HM:=Lib.hid hm;clear hE hm
 go_enter Tryz.func10,Tryz.ntmps10
 go_wp2_with fail
 refine(zLJ w).mono ?_;rintro e w1 ⟨rfl,hw1⟩;have HK1:Hid (KSt w1 w.heap.size w.heap.size none 0 [] none 0 0 0):=by unfold Hid;rw[hw1];exact KSt.new w _
 have HF1:Hid (Fr No w w1):=by unfold Hid;rw[hw1];exact(Fr.refl _ _).alloc _
 obtain⟨kb,hkb⟩:∃ kb,kb=w.heap.size:=⟨_,rfl⟩
 rw[<-hkb]at HK1 ⊢;have HKB:=Lib.hid hkb;clear hw1 hkb
 go_wp2_with fail
 refine(zKu sxA sxT 1 w1 (by kernel_rfl) (by show sxT.size<=_;decide)).mono ?_;rintro e w2 ⟨⟨b,rfl,hA2,hB2,hb2⟩,hf2⟩;have HF2:=Lib.hid (HF1.out.step hf2 (fun _ _ h=>h));have hdo:=k_do kb ⟨#[]⟩ ⟨#[]⟩ ⟨#[]⟩ ⟨0,0,⟨#[]⟩,sxA,zZ,⟨#[]⟩,⟨#[]⟩,2,1,some ⟨b,0,none⟩,1,1⟩ 1 0 w2 (fun w'=>(∃ a' c' aa ac ev' ec',KSt w' kb kb a' c' [D0 aa ac] ev' 1 ec' 1/\Atts w' aa ac [(zQ,sxT)])/\Fr No w w') (fun W hW=>by
  have hx:Fr No w2 W:=by rw[hW];exact(Fr.refl _ _).alloc _
  have hwW:=HF2.out.step hx (fun _ _ h=>h);have hk:=(HK1.out.no hf2).no hx;have hadd:=zKw kb kb none 0 [] none 0 0 0 ⟨#[]⟩ ⟨#[]⟩ ⟨#[]⟩ ⟨0,0,⟨#[]⟩,sxA,zZ,⟨#[]⟩,⟨#[]⟩,2,1,some ⟨b,0,none⟩,1,1⟩ 1 0 [(zQ,sxT)] m W hk (by omega) (by omega) (by rw[HKB.out];exact hwW.size) (hA2.no hx (fun _=>id)) (by simp) rfl rfl (zKi (some ⟨b,0,none⟩) 1) par0 (by decide) (ins0 (some ⟨b,0,none⟩) 1)
   (fun w' ds' hC=>by obtain⟨a',c',rfl⟩:=cop0 (a:=some ⟨b,0,none⟩) (c:=1) hC;exact wf0 _ _) (hwW.cell HM.out id) (by have:=hwW.size;omega) (by rw[HKB.out];omega)
  refine hadd.mono ?_;rintro e w' ⟨rfl,⟨a',c',ds',ev',ec',hk',hC⟩,hf'⟩;obtain⟨aa,ac,rfl⟩:=cop0 (a:=some ⟨b,0,none⟩) (c:=1) hC;have hat:=zF3 (a:=some ⟨b,0,none⟩) (c:=1) hC (hA2.no hx (fun _=>id));exact⟨rfl,⟨a',c',aa,ac,ev',ec',hk',hat⟩,hwW.step hf' (fun k hk h=>by
   rcases h with h | h
   ·rw[h,HKB.out]at hk;omega
   ·cases h)⟩)
 clear hA2 hB2 hb2
 go_wp2_with fail
 refine hdo.mono ?_;rintro e w3 ⟨rfl,⟨a1,c1,aa,ac,ev1,ec1,hk3,hat3⟩,hf3⟩;have HK3:=Lib.hid (And.intro hk3 hat3);have HF3:=Lib.hid hf3;clear hdo hk3 hat3 hf3 hf2;obtain⟨W4,hW4⟩:∃ W4,W4=w3.alloc (.cells sxL0.vals 46):=⟨_,rfl⟩
 have f4:Fr No w3 W4:=by rw[hW4];exact(Fr.refl _ _).alloc _
 have b4:W4.heap[w3.heap.size]?=some (.cells sxL0.vals 46):=by rw[hW4];exact zD _ _
 unfold sxL0 Rec.vals Rec.zero sxPA at hW4;simp only[List.length_nil]at hW4
 go_upto_region 8 with(fail)
 rw[<-hW4];clear hW4;have own4:W4.ownsRow w.heap.size 46 12 (.slice (some ⟨w3.heap.size,0,none⟩) 1 1) [sxL0].length (rflat [sxL0]):=⟨rfl,.inr ⟨w3.heap.size,1,_,rfl,HF3.out.size,b4,Nat.le_refl _,by decide,rfl,rfl⟩⟩
 have HO4:=Lib.hid own4;have HF4:=Lib.hid (HF3.out.step f4 (fun _ _ h=>h));have HK4:=Lib.hid (And.intro (HK3.out.1.no f4) (HK3.out.2.no f4 (fun _=>id)));have HREC:Hid (∀ W,Fr No W4 W->Recs W (some ⟨w3.heap.size,0,none⟩) 1 [sxL0]):=fun W hW=>by
  obtain⟨x,y,hv,hr,_⟩:=Recs.of_own (zJ own4 hW (fun _ _=>id)) (fun r hr=>zJI W r (by simp at hr;simp[hr]));cases hv;exact hr
 have htr:=zHg kb a1 c1 [D0 aa ac] ev1 1 ec1 1 W4 HK4.out.1.blk HK4.out.1.tr.dv (by simp) (fun d hd=>by
  obtain⟨l,g1,g2,g3⟩:=(HK4.out.1.tr.el d hd).att;exact⟨l,g1,g2,g3⟩)
 clear own4 f4 b4
 go_wp2_with fail
 refine htr.mono ?_;rintro e w5 ⟨⟨a5,c5,ds5,rfl,hD5,hB5,hfr5,hC5⟩,hf5⟩;obtain⟨x5,y5,rfl⟩:=cop0 hC5;have hA5:=zF3 hC5 HK4.out.2;have hT5:=zEs HK4.out.1 hD5 hfr5 hC5 (wf0 x5 y5);have HF5:=Lib.hid (HF4.out.step hf5 (fun _ _ h=>h));have hmust:=zH9 a5 (some ⟨w3.heap.size,0,none⟩) none none c5 1 0 0 W4.heap.size 0 [D0 x5 y5] [sxL0] sxTx [] [] w5 hT5 (by simp) (HREC.out w5 hf5) (HE.out.no HF5.out) (Strs.nil _) (Strs.nil _) (by simp) (by simp) (txs0 hA5) (sxI0 x5 y5)
  (fun r S M G S' M' G' h1 h2 h3=>by
   rw[zKM]at h2;obtain⟨g1,g2,g3⟩:=zEL h1 h2;exact⟨g1,g3,.inr g2⟩) (zJp x5 y5) ⟨src0 x5 y5,rfl,.inl ⟨rfl,rfl⟩⟩
 have HF45:=Lib.hid hf5;clear htr hD5 hB5 hfr5 hC5 hA5 hT5 hf5
 go_wp2_with fail
 refine hmust.mono ?_;rintro e w6 ⟨⟨ma,mc,r6,S6,M6,G6,S6',M6',G6',rfl,hV6,hVf6,hI6,hN6,hno6⟩,hf6⟩;rw[zKM]at hN6;obtain⟨-,rfl,-⟩:=zEL hI6 hN6;have HV6:=Lib.hid hV6;have HF46:=Lib.hid (HF45.out.step hf6 (fun _ _ h=>h));have HF6:=Lib.hid (HF5.out.step hf6 (fun _ _ h=>h));clear hmust hV6 hVf6 hI6 hN6 hno6 hf6;have htr:=zHg kb a1 c1 [D0 aa ac] ev1 1 ec1 1 w6 (HK4.out.1.no HF46.out).blk (HK4.out.1.no HF46.out).tr.dv (by simp) (fun d hd=>by
  obtain⟨l,g1,g2,g3⟩:=((HK4.out.1.no HF46.out).tr.el d hd).att;exact⟨l,g1,g2,g3⟩)
 go_wp2_with fail
 refine htr.mono ?_;rintro e w7 ⟨⟨a7,c7,ds7,rfl,hD7,hB7,hfr7,hC7⟩,hf7⟩;obtain⟨x7,y7,rfl⟩:=cop0 hC7;have hT7:=zEs (HK4.out.1.no HF46.out) hD7 hfr7 hC7 (wf0 x7 y7);have HF7:=Lib.hid (HF6.out.step hf7 (fun _ _ h=>h));have HF47:=Lib.hid (HF46.out.step hf7 (fun _ _ h=>h));have HV7:=Lib.hid (HV6.out.fr hf7 (fun _ _ _=>id));have hplan:=zKT w6.heap.size a7 c7 [D0 x7 y7] ma mc sxPA sxB sxR 1 1 m w7 hT7 (by simp) (HE.out.no HF7.out) (fun d hd=>by
  obtain rfl:d=D0 x7 y7:=by simpa using hd
  exact vir0 x7 y7) HV7.out (par1 x7 y7) (at1 x7 y7) (by show sxPA.size<=_;decide) (by show sxB.size<=_;decide) (by kernel_rfl) (by show sxR.size<=_;decide) (zK9 x7 y7) (fun d hd=>by
  obtain rfl:d=D0 x7 y7:=by simpa using hd
  show (Lit.int .i64 1).wf=true
  decide) (by rw[max0];omega) (by decide) (fun q=>by rw[zKq];exact ins1 x7 q y7 1) (fun q=>by rw[zKq];exact zJJ q 1) (HF7.out.cell HM.out id)
 clear htr hD7 hB7 hfr7 hC7 hT7 hf7
 go_wp2_with fail
 refine hplan.mono ?_;rintro e w8 ⟨⟨bt,av,cv,rfl,ho8,hA8,hB8,hbt8⟩,hf8⟩;have HF8:=Lib.hid (HF7.out.step hf8 (fun _ _ h=>h));have HF48:=Lib.hid (HF47.out.step hf8 (fun _ _ h=>h));obtain⟨g,rfl,hOB,hgl⟩:=zKp ho8;have HOB:=Lib.hid hOB;have HA8:=Lib.hid (And.intro hA8 hB8);obtain⟨mb,moff,u,rfl,hu0,⟨m0,m1,m2,m3⟩,hml⟩:=(HV7.out.fr hf8 (fun _ _ _=>id)).elem (k:=0) (by simp);obtain rfl:u=sxV 1:=by simpa using hu0.symm
 simp only[Nat.zero_mul,Nat.add_zero]at m0 m1 m2 m3;unfold sxV sxB at m1;dsimp only at m1;obtain⟨o0,o1,o2,o3,o4,o5,o6,o7,o8,o9,o10,o11,o12,o13⟩:=hOB;unfold sxPA at o1;clear hplan ho8 hA8 hB8 hf8 hu0 m0 m2 m3
 go_upto_region 12 with(fail)
 clear m1;have hdo:=k_do kb sxPA ⟨#[]⟩ ⟨#[]⟩ ⟨0,0,⟨#[]⟩,sxB,zZ,⟨#[]⟩,⟨#[]⟩,2,1048576,some ⟨bt,0,none⟩,1,1⟩ 2 0 w8 (fun w'=>(∃ a' c' x y z u ev' ec',KSt w' kb kb a' c' [D0 x y,D1 z u] ev' 2 ec' 2/\Atts w' x y [(zQ,sxT)]/\Atts w' z u [(zQ,sxR)])/\Fr No w w'/\Fr (fun b=>b=kb\/(Value.slice ev1 1 ec1).ownBlock=some b) w8 w') (fun W hW=>by
  have hx:Fr No w8 W:=by rw[hW];exact(Fr.refl _ _).alloc _
  have hwW:=HF8.out.step hx (fun _ _ h=>h);have h4W:=HF48.out.step hx (fun _ _ h=>h);have hk:=HK4.out.1.no h4W;have hadd:=zKw kb kb a1 c1 [D0 aa ac] ev1 1 ec1 1 sxPA ⟨#[]⟩ ⟨#[]⟩ ⟨0,0,⟨#[]⟩,sxB,zZ,⟨#[]⟩,⟨#[]⟩,2,1048576,some ⟨bt,0,none⟩,1,1⟩ 1 1 [(zQ,sxR)] m W hk (by omega) (by omega) (by rw[HKB.out];exact hwW.size) (HA8.out.1.no hx (fun _=>id)) (by simp) rfl rfl (zJJ (some ⟨bt,0,none⟩) 1) (par1 aa ac) (by decide) (ins1 aa (some ⟨bt,0,none⟩) ac 1)
   (fun w' ds' hC=>by obtain⟨x,y,z,u,rfl⟩:=cop1 (a:=aa) (c:=ac) (e:=some ⟨bt,0,none⟩) (f:=1) hC;exact wf1 _ _ _ _) (hwW.cell HM.out id) (by have:=hwW.size;omega) (by rw[HKB.out];omega)
  refine hadd.mono ?_;rintro e w' ⟨rfl,⟨a',c',ds',ev',ec',hk',hC⟩,hf'⟩;obtain⟨x,y,z,u,rfl⟩:=cop1 (a:=aa) (c:=ac) (e:=some ⟨bt,0,none⟩) (f:=1) hC;have hat:=zF2 (a:=aa) (c:=ac) (e:=some ⟨bt,0,none⟩) (f:=1) hC (HK4.out.2.no h4W (fun _=>id)) (HA8.out.1.no hx (fun _=>id));refine⟨rfl,⟨a',c',x,y,z,u,ev',ec',hk',hat⟩,hwW.step hf' (fun k hk2 h=>by
   rcases h with h | h
   ·rw[h,HKB.out]at hk2;omega
   ·obtain⟨xs,ho⟩:=hk.own;have:=zN ho h;unfold From at this;rw[HKB.out]at this;omega),(hx.mono (fun _ _ h=>h.elim)).step hf' (fun _ _ h=>h)⟩)
 unfold sxPA at hdo;unfold zZ at hdo o6;unfold sxB at hdo o5;unfold ocs at hdo
 (try dsimp only at hdo)
 go_wp2_with fail
 refine hdo.mono ?_;rintro e w9 ⟨rfl,⟨a9,c9,x9,y9,z9,u9,ev9,ec9,hk9,hA9,hA9'⟩,hf9,hg9⟩;have HK9:=Lib.hid (And.intro hk9 (And.intro hA9 hA9'));have HF9:=Lib.hid hf9;have HO9:Hid (w9.ownsRow w.heap.size 46 12 (.slice (some ⟨w3.heap.size,0,none⟩) 1 1) [sxL0].length (rflat [sxL0])):=by
  have h8:=zJ HO4.out HF48.out (fun _ _=>id);refine zJ h8 hg9 (fun b hb h=>?_);rcases h with h | h
  ·subst h;have hkk:=(HK4.out.1.no HF48.out).blk;exact zf h8 hkk (by decide) hb
  ·obtain⟨xs,ho⟩:=(HK4.out.1.no HF48.out).own;obtain⟨ad,e1,e2⟩:=zBo hb;rw[<-e2]at h;exact BlkT.ne ho (zAj h8) (by decide) ad e1 h
 clear hdo hk9 hA9 hA9' hf9 hg9 o0 o1 o2 o3 o4 o5 o6 o7 o8 o9 o10 o11 o12 o13;have htr:=zHg kb a9 c9 [D0 x9 y9,D1 z9 u9] ev9 2 ec9 2 w9 HK9.out.1.blk HK9.out.1.tr.dv (by simp) (fun d hd=>by
  obtain⟨l,g1,g2,g3⟩:=(HK9.out.1.tr.el d hd).att;exact⟨l,g1,g2,g3⟩)
 go_wp2_with fail
 refine htr.mono ?_;rintro e wA ⟨⟨aA,cA,dsA,rfl,hDA,hBA,hfrA,hCA⟩,hfA⟩;obtain⟨xA,yA,zA,uA,rfl⟩:=cop1 hCA;have hAA:=zF2 hCA HK9.out.2.1 HK9.out.2.2;have hTA:=zEs HK9.out.1 hDA hfrA hCA (wf1 xA zA yA uA);have HTA:=Lib.hid (And.intro hTA hAA);have HFA:=Lib.hid (HF9.out.step hfA (fun _ _ h=>h));have HOA:=Lib.hid (zJ HO9.out hfA (fun _ _=>id));clear htr hDA hBA hfrA hCA hAA hTA hfA;obtain⟨i0,hi0,hz0,hz1,hz2⟩:=info_parts infoR;have hoA:wA.ownsRow w.heap.size 46 12 (.slice (some ⟨w3.heap.size,0,none⟩) 1 1) 1 (rflat [sxL0]):=HOA.out;have hsA:=HFA.out.size;have hl9:w3.heap.size<w9.heap.size:=zU HO9.out rfl;have hw3:=HF3.out.size
 go_wp2_with (at_builtin;refine wpList_append_own_at _ rfl _ _ 30 rfl w.heap.size 46 i0 (.agg #[.string ByteArray.empty,.int .i64 0,.slice none 0 0,.slice none 0 0,.slice none 0 0,.slice none 0 0,.slice none 0 0,.string ByteArray.empty,.int .i64 0,.string ByteArray.empty,.string ByteArray.empty,.int .i64 0]) 12 208 Tryz.underlying30 hi0 hz0 hz1 hz2 rfl (by decide) _ _ _ rfl (hoA.alloc _) ⟨wA.heap.size,0,none⟩ 1 1 (Rec.vals sxL1).toList rfl rfl (zX _ (Rec.vals sxL1) _ rfl) (zBk _) (by decide) (by decide) (by rw[World.size_alloc];omega) ?_;intro v' wB hownB hgrowB _ hatB;obtain⟨avB,cvB,rfl⟩:=zG hownB)
 have hal:Fr No wA (wA.alloc (.cells (Rec.vals sxL1) 46)):=(Fr.refl _ _).alloc _;have hgB:Fr (Is w3.heap.size) wA wB:=(hal.mono (fun _ _ h=>h.elim)).step (Fr.of_grown hgrowB) (fun b _ h=>by injection h with h;exact h.symm);have HFB:=Lib.hid (HFA.out.step hgB (fun b hb h=>by unfold Is at h;omega));have hnA:∀ b,w9.heap.size<=b->¬ Is w3.heap.size b:=fun b hb h=>by unfold Is at h;omega
 have hTB:Tr wB w9.heap.size aA cA [D0 xA yA,D1 zA uA]:=HTA.out.1.fr hgB hnA;have hA0:=HTA.out.2.1.fr hgB (fun ad e _=>hnA _ ((HTA.out.1.el (D0 xA yA) (by simp)).fresh ad e));have hA1:=HTA.out.2.2.fr hgB (fun ad e _=>hnA _ ((HTA.out.1.el (D1 zA uA) (by simp)).fresh ad e));have hRB:Recs wB avB cvB [sxL0,sxL1]:=by
  obtain⟨x,y,hv,hr,_⟩:=Recs.of_own (l:=[sxL0,sxL1]) (v:=.slice avB 2 cvB) hownB (zJI wB);cases hv;exact hr
 have hmust:=zH9 aA avB none none cA cvB 0 0 w9.heap.size 0 [D0 xA yA,D1 zA uA] [sxL0,sxL1] sxTx [] [] wB hTB (by simp) hRB (HE.out.no HFB.out) (Strs.nil _) (Strs.nil _) (by simp) (by simp) (txs1 hA0 hA1) (sxI1 xA zA yA uA)
  (fun r S M G S' M' G' h1 h2 h3=>by
   rw[zKL]at h2;exact(zEK h1 h2).1 h3) (zJo xA zA yA uA) (.inl ⟨rfl,src1 xA zA yA uA,rfl,rfl⟩)
 clear hownB hgrowB hatB hal hgB hnA hTB hA0 hA1 hRB;refine hmust.mono ?_;rintro e wC ⟨⟨mC,cC,rC,SC,MC,GC,SC',MC',GC',rfl,hVC,hVfC,hIC,hNC,hnoC⟩,hfC⟩;rw[zKL]at hNC;obtain rfl:=(zEK hIC hNC).2 hnoC;have HFC:=Lib.hid (HFB.out.step hfC (fun _ _ h=>h));obtain⟨mb2,moff2,u2,rfl,hu2,⟨m0,m1,m2,m3⟩,hml2⟩:=hVC.elem (k:=1) (by simp);obtain rfl:u2=sxW 2:=by simpa using hu2.symm
 unfold sxW sxM sxX at m0 m1 m2 m3;simp only[Nat.one_mul]at m0 m1 m2 m3;clear hmust hVC hVfC hIC hNC hnoC hfC hu2
 go_wp2_with fail
 go_ret;exact⟨by simp,HFC.out⟩
end Go.Proofs.YtmajgldaplkpiaaGreatDoor
