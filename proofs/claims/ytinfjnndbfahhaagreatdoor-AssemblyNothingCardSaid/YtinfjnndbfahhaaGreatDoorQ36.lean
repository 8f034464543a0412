import Derived.Test.YtinfjnndbfahhaaGreatDoorQ35
import Derived.Maps.OwnIn
import Derived.Sort.CutIn
namespace Go.Proofs.YtinfjnndbfahhaaGreatDoor
open Go.RowKit Go.Maps Go.Shelf
set_option linter.unusedVariables false
set_option maxRecDepth 100000
set_option maxHeartbeats 4000000
attribute [local go_sem] Oper.semAt_some
theorem zDW {F:Fence}{U:Nat}{w:World}{q:Array Oper}{f:List Oper}{o:Oper}{a:Act}{Q:Exit->Act->World->Prop}(Z:o.guard=none)(m x v:Operand)(t e:TypeId)(O:o.op=Op.mapUpdate t m x v)(ht:Tryz.prog.underlying t=some (.map 132 e))
  (A:Nat) (g:ByteArray×ByteArray->Option Value) (N:Nat) (hN:N<maxLen) (s:ByteArray) (n:ByteArray) (V:s.size<=maxLen) (X:n.size<=maxLen) (u:Value) (hm:a.eval m=.map (some A)) (C:QMap w A g N) (hx:a.eval x=.agg #[.string s,.string n]) (I:a.eval v=u)
  (hK:∀ w',QMap w' A (updQ g (s,n) u) (N+1)->Fr (Is A) w w'->wpListIn F U Tryz.prog q Q f (a.put o.dst undef) w'):wpListIn F U Tryz.prog q Q (o::f) a w:=by
 obtain⟨D,k,hk,R,hh⟩:=C;refine wpListIn_mapUpdate_own w Z m x v t O 132 e lawQ ht heldV A k D hm R (by omega) _ _ _ hx I (keyQ V X) (.held u) [] rfl (fun w' h h'=>hK w' ⟨_,k+1,by omega,h,fun y Y J=>?_⟩ (Fr.of_grown_some h'));obtain⟨h1,h2⟩:=hh y Y J;unfold updQ;by_cases e:y=(s,n)
 ·subst e;rw[if_pos rfl];exact⟨by rw[has_put_same R.isMap (zEO _) _];rfl,fun v I z=>by cases I;rw[atKey_put_same R.isMap (zEO _) _ _]⟩
 ·rw[if_neg e];have L:aqL y≠aqL (s,n):=fun he=>e (zI1 Y J V X he)
  exact⟨by rw[has_put_other L];exact h1,fun v I z=>by rw[atKey_put_other L];exact h2 v I z⟩
theorem zEF {w:World}{f base':Nat}{e:TypeId}{o:Nat}{v:Value}{n:Nat}{z:List Value}(h:w.ownsRow f e o v n z)(C:base'<=f):w.ownsRow base' e o v n z:=by
 obtain⟨A,⟨q,D⟩ | ⟨g,u,y,q,F,I⟩⟩:=h
 ·exact⟨A,.inl ⟨q,D⟩⟩
 ·exact⟨A,.inr ⟨g,u,y,q,Nat.le_trans C F,I⟩⟩
def AddP (w:World)(b0 pb:Nat)(vq vo vc:ByteArray)(W:World):Prop:=
 ∃ (bt:Nat) (a':Option Addr) (n' c':Nat) (av:Option Addr) (cv:Nat),W.heap[pb]?=some (.cells #[.slice a' n' c',.slice av 1 cv] 135)/\W.ownsRow b0 38 14 (.slice av 1 cv) 1 (ocs 1 vq ⟨0,0,⟨#[]⟩,vo,zT,⟨#[]⟩,⟨#[]⟩,2,1048576,some ⟨bt,0,none⟩,1,1⟩ ⟨#[]⟩ ⟨#[]⟩).toList/\
  Atts W (some ⟨bt,0,none⟩) 1 [(zN,vc)]/\BlkT W (some ⟨bt,0,none⟩) 76/\b0<=bt/\Fr (Is pb) w W
structure PlI (w2:World)(mb bx:Nat)(pre:List (Int×Vir))(V:Nat->Prop)(W:World):Prop where
 box:W.heap[bx]?=some (.cells #[.map (some mb)] 80)
 map:∃ g N,QMap W mb g N/\N<=pre.length/\∀ p,∃ y:Vir,(g p).getD zBf=.agg #[.string y.q,.string y.o,.string y.c,.int .i64 y.r]
 foot:∀ b,V b↔b=mb
 fr:Fr (fun b=>b=mb\/w2.heap.size<=b) w2 W
theorem zLZ (I:Nat)(a:Option Addr)(f:Nat)(ds:List Dev)(ma:Option Addr)(mc:Nat)(J D L:ByteArray)(vr p m:Int)(w:World)(hl:Tr w I a f ds)(hn:ds.length<=250)(hE:Env w)(hv:∀ d∈ds,virB ds d.index=false)
  (hM:Virs w ma mc [(⟨J,D,L,vr⟩:Vir)]) (hp:ParIs ds J p) (d5:ds.find? (atP ds (J++(⟨#[47]⟩:ByteArray)++D))=none)
  (hq:J.size<=100000) (ho:D.size<=100000) (hc:L.toList.isEmpty=false) (f7:L.size<=100000) (hu:usedF ds 1048576=false) (d6:∀ d∈ds,(Lit.int .i64 d.num).wf=true) (f8:0<=maxI ds/\maxI ds<=1000000) (f9:(Lit.int .i64 p).wf=true)
  (d7:∀ aa,InsOk ds (newD ds p D aa) [(zN,L)]) (d8:∀ aa,Sized (newD ds p D aa)) (hm:w.cell? ⟨0,0,none⟩=some (.int .i64 m)):
  Calls Tryz.prog 30 #[.agg #[.slice a ds.length f],.slice ma 1 mc] w fun e w'=>(∃ (bt:Nat) (av:Option Addr) (cv:Nat),e=.returned (.slice av 1 cv)/\w'.ownsRow w.heap.size 38 14 (.slice av 1 cv) 1 (ocs 1 J ⟨0,0,⟨#[]⟩,D,zT,⟨#[]⟩,⟨#[]⟩,2,1048576,some ⟨bt,0,none⟩,1,1⟩ ⟨#[]⟩ ⟨#[]⟩).toList/\
    Atts w' (some ⟨bt,0,none⟩) 1 [(zN,L)]/\BlkT w' (some ⟨bt,0,none⟩) 76/\w.heap.size<=bt)/\Fr No w w':=by
 refine(callsIn_wide (n:=12)).1 (callsIn_of_wp_marks Tryz.func30 rfl trivial (wpIn_wide.2 ?_));simp only[Tryz.ntmps30,List.size_toArray,List.length_cons,List.length_nil,Nat.reduceAdd,Nat.reduceSub,Array.replicate_succ,Array.replicate_zero,List.push_toArray,List.append_toArray,List.nil_append,List.cons_append];have g0:=@run_makeMap Tryz.prog;obtain⟨Z,F⟩:∃ Z,Z=((w.alloc (.cells #[.slice a ds.length f] 48)).alloc (.map #[] 0)).alloc (.cells #[.map (some (w.heap.size+1))] 80):=⟨_,rfl⟩
 have hW:Fr No w Z:=by rw[F];exact(((Fr.refl _ _).alloc _).alloc _).alloc _
 have b0:Z.heap[w.heap.size]?=some (.cells #[.slice a ds.length f] 48):=by rw[F];exact((Fr.refl No _).alloc _).heap (zI _ _ _) id
 have m1:QMap Z (w.heap.size+1) (fun _=>none) 0:=by
  rw[F];have:=QMap.made (w.alloc (.cells #[.slice a ds.length f] 48));rw[World.size_alloc]at this;exact this.fr ((Fr.refl No _).alloc _) id
 have b2:Z.heap[w.heap.size+2]?=some (.cells #[.map (some (w.heap.size+1))] 80):=by
  rw[F];have:=zD ((w.alloc (.cells #[.slice a ds.length f] 48)).alloc (.map #[] 0)) (.cells #[.map (some (w.heap.size+1))] 80);rw[World.size_alloc,World.size_alloc]at this;exact this
 have d9:Z.heap.size=w.heap.size+3:=by rw[F];simp
 have e0:=zh d9;have HA:=zh (And.intro hl (And.intro hE hM));have HP:=zh (And.intro hp d5);have HO:=zh (And.intro d7 (And.intro d8 hm));have HU:=zh (And.intro hu d6);have HV:=zh hv;have e1:∀ Y,ma=some Y->Y.block<w.heap.size:=fun Y e=>(hM.cell Y e (by simp)).2.1
 clear d9 hl hE hM hp d5 d7 d8 hm hu d6 hv
 go_upto_region 2 with(fail)
 rw[<-F];clear F g0
 go_wp2_with fail
 refine(zGo _ _ _ _).mono ?_;rintro e w1 ⟨rfl,rfl⟩;have hx:Fr No Z (Z.alloc (.cells #[.slice ma 1 mc] 50)):=(Fr.refl _ _).alloc _;have db:=zD Z (.cells #[.slice ma 1 mc] 50);have a2:=hW.step hx zi;have d0:=hx.heap b0 id;have d2:=hx.heap b2 id;have dm:=m1.fr hx id;rw[e0.out]at db;clear b0 b2 m1 hx hW
 go_wp2_with fail
 rw[e0.out];generalize Z.alloc (.cells #[.slice ma 1 mc] 50)=W2 at *;have h6:=zC db;have HD:=zh (And.intro d0 (And.intro d2 dm));refine(wpIn_wide (n:=12)).1 (zAD (α:=Int×Vir) (T:=fun _=>False) (V0:=Is (w.heap.size+1)) rfl (by omega) (gf:=122) (lb:=#[.pointer (some ⟨w.heap.size+3,0,none⟩)]) rfl trivial (enters_of Tryz.func122 (by kernel_rfl) rfl) (encs:=fun x:Int×Vir=>#[.int .i64 x.1,.agg x.2.vals]) (fun _=>rfl) (fun b h=>h.elim) (fun b h=>by unfold Is at h;omega)
  (zBe 11 (by omega) (w.heap.size+3) ma mc [(⟨J,D,L,vr⟩:Vir)] W2 (Is (w.heap.size+1)) db (HA.out.2.2.fr a2 (fun _ _ _=>id)) (by simp) ⟨fun h=>by unfold Is at h;omega,fun Y e _ h=>by have:=e1 Y e;unfold Is at h;omega⟩)
  (PlI W2 (w.heap.size+1) (w.heap.size+2)) (fun s V A h b y=>by obtain⟨g,N,hq,_⟩:=h.map;rw[(h.foot b).1 y];exact hq.lt) (fun s V A B S h hf hS=>by
   obtain⟨g,N,hq,hN,hg⟩:=h.map;exact⟨hf.heap h.box (fun y=>by
    have h':W2.heap.size<=w.heap.size+2:=(hS _ y).2.resolve_left id;omega),⟨g,N,hq.fr hf (fun y=>(hS _ y).1 ((h.foot _).2 rfl)),hN,hg⟩,h.foot,h.fr.step hf (fun b y hs=>by
    rcases(hS b hs).2 with h' | h'
    ·exact h'.elim
    ·exact .inr h')⟩)
  ⟨d2,⟨_,0,dm,Nat.le_refl _,fun p=>⟨⟨⟨#[]⟩,⟨#[]⟩,⟨#[]⟩,0⟩,rfl⟩⟩,fun b=>Iff.rfl,Fr.refl _ _⟩
  (fun x V a' W=>∃ Bx,W2.heap.size+2<=Bx/\W.heap[Bx]?=some (.cells x.2.vals 94)/\¬ V Bx/\a'={ tmps:=#[.agg #[.slice a ds.length f],.slice ma 1 mc,.pointer (some ⟨w.heap.size,0,none⟩),undef,.slice none 0 0,.pointer (some ⟨w.heap.size+2,0,none⟩),undef,.pointer (some ⟨Bx,0,none⟩),undef,undef,undef,.map (some (w.heap.size+1)),.slice ma 1 mc,.func (.func 122) #[] #[.pointer (some ⟨w.heap.size+3,0,none⟩)],.int .i64 x.1,.agg x.2.vals,undef,undef,undef,undef,undef,undef,undef,undef,undef,undef,undef,undef,undef,undef,undef,undef,undef,undef,undef,undef,undef,undef,undef,undef,undef,undef,undef,undef,undef,undef],defers:=[] })
  (fun x V a' A B h hf=>by obtain⟨Bx,h1,h2,h3,h4⟩:=h;exact⟨Bx,h1,hf.heap h2 (fun e=>by unfold Is at e;omega),h3,h4⟩)
  ?assign ?body ?done)
 case assign=>
  intro l e2 V x W K O b6 hK;have g1:∀ b,V b->b<W.heap.size:=fun b y=>by obtain⟨g,N,hq,_⟩:=O.map;rw[(O.foot b).1 y];exact hq.lt
  have h7:=fun a' W' (h1:Fr No W W') h2=>hK a' W' h1 h2
  clear a2 d0 d2 dm db;unfold Vir.vals
  gi_wp2
  exact hK _ _ ((Fr.refl _ _).alloc _) ⟨W.heap.size,b6,zD _ _,fun h=>by have:=g1 _ h;omega,rfl⟩
 case body=>
  rintro l e2 V ⟨xi,v⟩ a' W O ⟨Bx,h8,e3,h9,rfl⟩ a3 b6;have b7:v=⟨J,D,L,vr⟩:=by
   have h1:((xi,v):Int×Vir)∈revR [(⟨J,D,L,vr⟩:Vir)]:=a3.subset (by simp);unfold revR at h1;simp at h1;exact h1.2
  have i0:e2.length<=1:=by
   have h1:=a3.length_le;rw[zAl]at h1;simp only[List.length_append,List.length_cons,List.length_nil]at h1;omega
  have e4:v.q.size<=maxLen/\v.o.size<=maxLen:=by rw[b7];unfold maxLen;dsimp only;omega
  obtain⟨g,N,a4,hN,hg⟩:=O.map;have x2:W.cell? ⟨w.heap.size+2,0,none⟩=some (.map (some (w.heap.size+1))):=zB O.box 0;obtain⟨x3,x4,x5,x6⟩:=cl4 e3;have HI:=zh O;have HG:=zh hg;clear a2 d0 d2 dm db b7 O e3 a3 hg
  gi_wp2_with (gi_at_mapUpdate;refine zDW rfl _ _ _ 80 _ rfl Tryz.underlying80 (w.heap.size+1) g N (by unfold maxLen;omega) v.q v.o e4.1 e4.2 (.agg #[.string v.q,.string v.o,.string v.c,.int .i64 v.r]) rfl a4 rfl rfl ?_;intro w6 g2 U)
  have g3:V (w.heap.size+1):=(HI.out.foot _).2 rfl;refine⟨V,fun b h=>.inl h,⟨U.heap HI.out.box (fun h=>by unfold Is at h;omega),⟨_,N+1,g2,by simp;omega,fun p=>?_⟩,HI.out.foot,HI.out.fr.step U (fun b y h=>.inl h)⟩,U.mono (fun b y h=>by unfold Is at h;subst h;exact g3)⟩;unfold updQ;by_cases e:p=(v.q,v.o)
  ·rw[if_pos e];exact⟨v,rfl⟩
  ·rw[if_neg e];exact HG.out p
 case done=>
  rintro V W O hK g4;obtain⟨g,N,a4,hN,hg⟩:=O.map;have a5:∀ b,b<w.heap.size+1->¬ (b=w.heap.size+1\/W2.heap.size<=b):=fun b y h=>by rcases h with h | h<;>omega
  have c6:Fr No w W:=a2.step O.fr (fun b y h=>a5 b (by omega) h);have t0:W.cell? ⟨w.heap.size,0,none⟩=some (.slice a ds.length f):=zB (O.fr.heap d0 (a5 _ (by omega))) 0;have t5:W.cell? ⟨w.heap.size+2,0,none⟩=some (.map (some (w.heap.size+1))):=zB O.box 0;obtain⟨W1,a9⟩:∃ W1,W1=W.alloc (.cells #[.slice a ds.length f,.slice none 0 0] 135):=⟨_,rfl⟩
  have x1:Fr No W W1:=by rw[a9];exact(Fr.refl _ _).alloc _
  have c7:W1.heap[W.heap.size]?=some (.cells #[.slice a ds.length f,.slice none 0 0] 135):=by rw[a9];exact zD _ _
  have b1:=c6.step x1 zi;have e5:=zJX W.heap.size (w.heap.size+1) I a f ds none 0 0 g N W1 (HA.out.1.no b1) hn (HA.out.2.1.no b1) c7 (a4.fr x1 id) hg HV.out;have c8:=zh (x1.heap O.box id);have HQ:=zh (And.intro (a4.fr x1 id) hg);have c9:=zh b1;have d1:=zh c7;have e6:=zh (x1.heap hK id);have i1:=c6.size;have i2:=zC hK;have g5:W2.heap.size≠W.heap.size:=by omega
  clear a2 d0 d2 dm db O a4 hg x1 c7 b1 hK g4 a5 c6
  go_upto_region 6 with(fail)
  rw[<-a9];clear a9 t0 t5;have t5:W1.cell? ⟨w.heap.size+2,0,none⟩=some (.map (some (w.heap.size+1))):=zB c8.out 0
  go_wp2_with fail
  refine e5.mono ?_;rintro e w3 ⟨rfl,X⟩;clear e5 t5;have t5:w3.cell? ⟨w.heap.size+2,0,none⟩=some (.map (some (w.heap.size+1))):=zB (X.heap c8.out id) 0;have a6:=c9.out.step X zi;have e7:=zLo W.heap.size (w.heap.size+1) I a f ds none 0 0 g N w3 (HA.out.1.no a6) hn (HA.out.2.1.no a6) (X.heap d1.out id) (HQ.out.1.fr X id) HQ.out.2 HV.out;clear a6
  go_wp2_with fail
  refine e7.mono ?_;rintro e w4 ⟨rfl,e8⟩;have R:=X.step e8 zi;have b3:=zh (c9.out.step R zi);have e9:=zh (R.heap d1.out id);have g6:=zh (R.heap e6.out id);have i3:=b3.out.size;clear e7 t5 X e8 R c8 HQ d1 c9 e6
  go_wp2_with fail
  go_loopw [34] (fun x wr=>(x=.int .i64 0/\wr=w4)\/(x=.int .i64 1/\Hid (AddP w4 w.heap.size W.heap.size J D L wr))) (fun x _=>(1-intOf x).toNat)
  case atStart=>exact .inl ⟨rfl,rfl⟩
  case round=>
   rcases hrel with⟨rfl,rfl⟩ | ⟨rfl,g7⟩
   ·obtain⟨vb,h5,u,rfl,f0,⟨c0,c1,c2,c3⟩,i4⟩:=(HA.out.2.2.fr b3.out (fun _ _ _=>id)).elem (k:=0) (by simp);obtain rfl:u=⟨J,D,L,vr⟩:=by simpa using f0.symm
    simp only[Nat.zero_mul,Nat.add_zero]at c0 c1 c2 c3;obtain⟨W5,b4⟩:∃ W5,W5=wr.alloc (.cells #[.string J,.string D,.string L,.int .i64 vr] 94):=⟨_,rfl⟩
    have x5:Fr No wr W5:=by rw[b4];exact(Fr.refl _ _).alloc _
    have b5:W5.heap[wr.heap.size]?=some (.cells #[.string J,.string D,.string L,.int .i64 vr] 94):=by rw[b4];exact zD _ _
    have z:=b3.out.step x5 zi;have f1:=zLq W.heap.size I _ f ds J D L vr p m W5 (HA.out.1.no z) hn (HA.out.2.1.no z) (x5.heap e9.out id) HP.out.1 HP.out.2 hq ho hc f7 HU.out.1 HU.out.2 f8 f9 HO.out.1 HO.out.2.1 (z.cell HO.out.2.2 id);obtain⟨v0,v1,v2,v3⟩:=cl4 b5;have s5:=z.size;have g8:=zh x5;clear f0 x5 b5 z
    go_upto_region 11 with(fail)
    rw[<-b4];clear b4 c0 c1 c2 c3
    go_wp2_with fail
    refine f1.mono ?_;rintro e w6 ⟨rfl,⟨bt,a',n',c',av,cv,f2,f3,f4,f5,a7⟩,U⟩;have g9:Hid (AddP wr w.heap.size W.heap.size J D L w6):=⟨bt,a',n',c',av,cv,f2,zEF f3 s5,f4,f5,by omega,(g8.out.mono zn).step U zi⟩
    clear f1 f2 f3 f4 f5 U v0 v1 v2 v3
    go_wp2_with fail
    go_roundw
    case rel=>exact .inr ⟨by first | rfl | (go_num;done),g9⟩
    case measure=>simp[intOf]
   ·obtain⟨bt,a',n',c',av,cv,kp,d3,f6,a7,y,d4⟩:=g7.out;have t1:wr.cell? ⟨W.heap.size,1,none⟩=some (.slice av 1 cv):=zB kp 1;have a8:=d4.heap g6.out (fun h=>g5 h);have C:Fr (Is W2.heap.size) wr (wr.putObj W2.heap.size (.deferred none)):=Fr.putObj _ _ _ rfl;have b8:Fr No w (wr.putObj W2.heap.size (.deferred none)):=((b3.out.step d4 (fun b y h=>by unfold Is at h;omega))).step C (fun b y h=>by unfold Is at h;omega);have b9:=f6.fr C (fun Y e _ h=>by obtain⟨cs,hc⟩:=a7 Y e;unfold Is at h;rw[h,a8]at hc;cases hc);have c4:=a7.fr C (fun Y e h=>by obtain⟨cs,hc⟩:=a7 Y e;unfold Is at h;rw[h,a8]at hc;cases hc);have c5:=zG d3 C (fun b y h=>by
     obtain⟨Y,rfl,rfl⟩:=zAn y;obtain⟨cs,hc⟩:=zAI d3 Y rfl;unfold Is at h;rw[h,a8]at hc;cases hc)
    have H:=zh (And.intro c5 (And.intro b9 (And.intro c4 (And.intro y b8))));have h0:=zh a8;clear kp d3 f6 a7 y d4 C b8 b9 c4 c5 a8
    go_wp2_with fail
    refine⟨by simp,.inl ⟨_,_,rfl,run_takeDeferred h0.out,?_⟩⟩;exact⟨_,results_tmp rfl _ _ _,⟨bt,av,cv,rfl,H.out.1,H.out.2.1,H.out.2.2.1,H.out.2.2.2.1⟩,H.out.2.2.2.2⟩
def roundN {α:Type}(I:List α->(Nat->Prop)->World->Prop)(pre:List α)(V:Nat->Prop)(W:World):Exit->Act->World->Prop
 | .normal,_,W'=>∃ V',(∀ b,V' b->V b\/W.heap.size<=b)/\I pre V' W'/\Fr V W W'
 | _,_,_=>False
def GivesN {α:Type}(F:Fence)(n:Nat)(P:Program)(gf:Nat)(lb:Array Value)(encs:α->Array Value)(T V0:Nat->Prop)(xs:List α)(w:World):Prop:=
 ∀ (l:Nat) (J:List α->(Nat->Prop)->World->Prop) (W:World),Fr No w W->w.heap.size<=l->l<W.heap.size->
  (∀ s V A,J s V A->∀ b,V b->b<A.heap.size)->
  (∀ s V A B S,J s V A->Fr S A B->(∀ b,S b->¬ V b/\(T b\/W.heap.size<=b))->J s V B)->
  (∀ pre V x A,J pre V A->pre++[x] <+: xs->W.heap.size<=A.heap.size->YieldAt F (n-1) P l (encs x) A fun e B=>e=.returned (.bool true)/\∃ V',(∀ b,V' b->V b\/A.heap.size<=b)/\J (pre++[x]) V' B/\Fr (fun b=>V b\/b=l) A B)->
  J [] V0 W->CallsIn F n P gf (#[.func (.yield l) #[] #[]]++lb) W fun e W'=>(∃ v,e=.returned v)/\∃ V,J xs V W'
theorem zCQ {α:Type}{F:Fence}{n:Nat}{P:Program}{g:Operand}{ps:Array Tmp}{assign body:Code}{Q:Exit->Act->World->Prop}{a:Act}{w:World}
  (b5:F.round=none) (h1:1<=n) {gf:Nat} {lb:Array Value} (hg:a.eval g=.func (.func gf) #[] lb) (b6:F.fn gf) (eg:∀ args w,(callFunc gf args).run P w=.ok (.enter gf args) w)
  {encs:α->Array Value} (b7:∀ x,(encs x).size=ps.size) {T V0:Nat->Prop} (hT:∀ b,T b->b<w.heap.size) (a5:∀ b,V0 b->b<w.heap.size) {xs:List α}
  (a6:GivesN F (n-1) P gf lb encs T V0 xs w)
  (I:List α->(Nat->Prop)->World->Prop) (a7:∀ s V A,I s V A->∀ b,V b->b<A.heap.size)
  (hI:∀ s V A B S,I s V A->Fr S A B->(∀ b,S b->¬ V b/\(T b\/w.heap.size<=b))->I s V B) (h0:I [] V0 w)
  (Ax:α->(Nat->Prop)->Act->World->Prop) (b8:∀ x V N A B,Ax x V N A->Fr (Is (w.heap.size+1)) A B->Ax x V N B)
  (z:∀ (l:Nat) (o:List α) (V:Nat->Prop) (x:α) (W:World) (K:Act->World->Prop),I o V W->w.heap.size+2<=W.heap.size->(∀ N W',Fr No W W'->Ax x V N W'->K N W')->
   assign.wpIn (F.inRound l) (n-1-1) P (Exit.then K (fun _ _ _=>False)) { tmps:=(ps.zip (encs x)).foldl (fun t (p,v)=>t.setIfInBounds p v) a.tmps,defers:=[] } W)
  (Y:∀ (l:Nat) (o:List α) (V:Nat->Prop) (x:α) (N:Act) (W:World),I o V W->Ax x V N W->o++[x] <+: xs->w.heap.size+2<=W.heap.size->body.wpIn (F.inRound l) (n-1-1) P (roundN I (o++[x]) V W) N W)
  (Z:∀ (V:Nat->Prop) (W:World),I xs V W->W.heap[w.heap.size]?=some (.deferred (some []))->¬ V w.heap.size->Q .normal { a with defers:={ target:=.collected w.heap.size,args:=#[] }::a.defers } W):
  (Code.rangeFunc g ps assign body).wpIn F n P Q a w:=by
 refine wpIn_rangeFunc ?_;intro fn b9;rw[b5];obtain⟨q,f⟩:∃ q:LoopState->Option Code->Loop,q=fun st pe=>{ state:=st,pending:=pe,fn,tmps:=a.tmps,params:=ps,assign,body,defers:=w.heap.size }:=⟨_,rfl⟩
 obtain⟨C,D⟩:∃ C,(w.alloc (.deferred (some []))).alloc (.loop (q .ready none))=C:=⟨_,rfl⟩
 have d4:C.heap.size=w.heap.size+2:=by rw[<-D];simp
 have c2:C.heap[w.heap.size+1]?=some (.loop (q .ready none)):=by
  rw[<-D];have:=World.alloc_heap_new (w.alloc (.deferred (some []))) (.loop (q .ready none));rwa [World.size_alloc]at this
 have c3:C.heap[w.heap.size]?=some (.deferred (some [])):=by
  rw[<-D];exact(Below.heap_alloc _ _ _ (by simp)).trans (World.alloc_heap_new w _)
 have R:Fr No w C:=by rw[<-D];exact((Fr.refl _ _).alloc _).alloc _
 have c4:I [] V0 C:=hI _ _ _ _ _ h0 R (fun _ h=>h.elim);refine⟨w.heap.size+1,[{ target:=.collected w.heap.size,args:=#[] }],C,{ target:=.fn (.func gf) lb,args:=#[.func (.yield (w.heap.size+1)) #[] #[]] },C,gf,
  #[.func (.yield (w.heap.size+1)) #[] #[]]++lb,C,?_,?_,?_,?_,fun _=>h1,?_⟩
 ·rw[<-D,f];exact run_enterLoop_outer _ _ _ _ _
 ·simp only[resolve,hg];simp[go_sem]
 ·intro f' a8;simp[Target.leads]at a8;subst a8;exact b6
 ·simp[invoke,go_sem,eg]
 ·refine(a6 (w.heap.size+1) (fun o V W=>I o V W/\¬ V w.heap.size/\¬ V (w.heap.size+1)/\W.heap[w.heap.size+1]?=some (.loop (q .ready none))/\W.heap[w.heap.size]?=some (.deferred (some [])))
   C R (by omega) (by omega) (fun s V A h=>a7 s V A h.1) ?_ ?_ ⟨c4,fun h=>by have:=a5 _ h;omega,fun h=>by have:=a5 _ h;omega,c2,c3⟩).mono ?_
  ·rintro s V A B S ⟨hi,y,u,hl,hk⟩ hf hS;refine⟨hI _ _ _ _ _ hi hf (fun b J=>⟨(hS b J).1,(hS b J).2.imp id (fun h=>by omega)⟩),y,u,hf.heap hl (fun h=>?_),hf.heap hk (fun h=>?_)⟩
   ·rcases(hS _ h).2 with h | h
    ·have:=hT _ h;omega
    ·omega
   ·rcases(hS _ h).2 with h | h
    ·have:=hT _ h;omega
    ·omega
  ·rintro o V x W ⟨hi,y,u,hl,hk⟩ a9 d5;have d6:w.heap.size+1<W.heap.size:=(Array.getElem?_eq_some_iff.1 hl).1;have hy:=run_yield (P:=P) (args:=encs x) hl (by rw[f];exact b7 x);rw[f]at hy;refine⟨fn,_,assign,body,hy,roundIn_of_wpIn b9 (z _ o V x W _ hi (by omega) ?_)⟩;clear hy;intro N Wa L c5;have b0:=L.heap hl id;have c6:=L.heap hk id;have c7:=hI _ _ _ _ _ hi L (fun _ h=>h.elim);have b1:w.heap.size+1<Wa.heap.size:=(Array.getElem?_eq_some_iff.1 b0).1;have d7:=L.size;refine⟨_,run_beginRound b0 (by rw[f]),?_⟩;have c8:(Wa.putObj (w.heap.size+1) (.loop { q .ready none with state:=.busy })).heap[w.heap.size+1]?=some (.loop { q .ready none with state:=.busy }):=World.putObj_heap_same b1;have c9:(Wa.putObj (w.heap.size+1) (.loop { q .ready none with state:=.busy })).heap[w.heap.size]?=some (.deferred (some [])):=(World.putObj_heap_other (by omega)).trans c6;have O:Fr (Is (w.heap.size+1)) Wa (Wa.putObj (w.heap.size+1) (.loop { q .ready none with state:=.busy })):=Fr.putObj _ _ _ rfl;have d0:=hI _ _ _ _ _ c7 O (fun b J=>by unfold Is at J;subst J;exact⟨u,.inr (by omega)⟩);refine wpIn_mono (Y _ o V x N _ d0 (b8 _ _ _ _ _ c5 O) a9 (by simp;omega)) ?_;rintro e a3 W3 hp;cases e with
   | normal=>
    obtain⟨V',b2,d1,a2⟩:=hp;have b3:=a2.heap c8 u;have d2:=a2.heap c9 y;have a4:∀ b,V' b->V b\/Wa.heap.size<=b:=fun b h=>(b2 b h).imp id (fun h=>Nat.le_trans O.size h)
    clear b2;have b4:¬ V' w.heap.size:=fun h=>by rcases a4 _ h with h | h;exact y h;omega
    have U:¬ V' (w.heap.size+1):=fun h=>by rcases a4 _ h with h | h;exact u h;omega
    have d3:∀ b,V' b->V b\/W.heap.size<=b:=fun b h=>(a4 b h).imp id (fun h=>by omega)
    have X:=run_endRound (P:=P) none b3;rw[f]at X;refine⟨_,_,X,rfl,V',d3,⟨hI _ _ _ _ _ d1 (Fr.putObj (S:=Is (w.heap.size+1)) _ _ _ rfl) (fun b J=>by unfold Is at J;subst J;exact⟨U,.inr (by omega)⟩),b4,U,?_,?_⟩,?_⟩
    ·rw[f];exact World.putObj_heap_same (Array.getElem?_eq_some_iff.1 b3).1
    ·exact(World.putObj_heap_other (by omega)).trans d2
    ·refine(((L.mono zn).step O ?_).step a2 ?_).step (Fr.putObj (S:=Is (w.heap.size+1)) _ _ _ rfl) ?_
     ·rintro b _ h;exact .inr h
     ·rintro b _ h;exact .inl h
     ·rintro b _ h;exact .inr h
   | ret=>exact hp.elim
   | exit id=>exact hp.elim
   | goto t=>exact hp.elim
   | panic ch=>exact hp.elim
   | outgrown=>exact hp.elim
  ·rintro e W2 ⟨⟨v,rfl⟩,V,hi,y,u,hl,hk⟩;refine⟨none,_,by have:=run_endLoop (P:=P) hl (by rw[f];simp);rw[f]at this;exact this,Z V _ (hI _ _ _ _ _ hi (Fr.putObj (S:=Is (w.heap.size+1)) _ _ _ rfl) (fun b J=>by unfold Is at J;subst J;exact⟨u,.inr (by omega)⟩)) ((World.putObj_heap_other (by omega)).trans hk) y⟩
attribute [local go_sem] Oper.semAt_some
def subL (n:Int):List Dev->(Int->Bool)->List Dev
 | [],_=>[]
 | d::t,R=>if (d.index==n||R d.parent)=true then d::subL n t (upd R d.index true)else subL n t R
theorem zD1 {n:Int}{d:Dev}{R:Int->Bool}(h:(d.index==n||R d.parent)=true)(t:List Dev):subL n (d::t) R=d::subL n t (upd R d.index true):=if_pos h
theorem zD2 {n:Int}{d:Dev}{R:Int->Bool}(h:(d.index==n||R d.parent)=false)(t:List Dev):subL n (d::t) R=subL n t R:=if_neg (by rw[h];simp)
theorem BMap.look {w:World}{o:Nat}{g:Int->Bool}{N:Nat}(h:BMap w o g N){k:Int}(u:(Lit.int .i64 k).wf=true):(Instr.lookup 213 (.map (some o)) (.int .i64 k) false).run Tryz.prog w=.ok (.bool (g k)) w:=by
 obtain⟨D,n,_,y,z⟩:=h;obtain⟨v,C,f,A⟩:=y.lookup lawI Tryz.underlying213 (zeroB w) (plainElem_bool (by kernel_rfl) false) (keyOf_int_mk Tryz.underlying3 u);obtain⟨c,rfl,q⟩:=zAm (by kernel_rfl) A;simp only[Prod.mk.injEq]at q;obtain rfl:c=g k:=by
  have:=q.1.symm.trans (z k)
  simpa using this
 exact f
theorem zBp {F:Fence}{A:Nat}{w:World}{q:Array Oper}{f:List Oper}{o:Oper}{a:Act}{Q:Exit->Act->World->Prop}(I:o.guard=none)(m x v:Operand)(t:TypeId)(z:o.op=Op.mapUpdate t m x v)(J:Tryz.prog.underlying t=some (.map 3 4))
  (u:Nat) (g:Int->Bool) (N:Nat) (hN:N<maxLen) (k:Int) (L:(Lit.int .i64 k).wf=true) (b:Bool) (O:a.eval m=.map (some u)) (y:BMap w u g N) (R:a.eval x=.int .i64 k) (U:a.eval v=.bool b)
  (V:∀ w',BMap w' u (upd g k b) (N+1)->Fr (Is u) w w'->wpListIn F A Tryz.prog q Q f (a.put o.dst undef) w'):wpListIn F A Tryz.prog q Q (o::f) a w:=by
 obtain⟨D,n,X,C,Y⟩:=y;exact wpListIn_mapUpdate_own w I m x v t z 3 4 lawI J _ u n D O C (by omega) _ _ _ R U (keyOf_int_mk Tryz.underlying3 L) (.lit (.bool b)) [] (plainElem_bool (by kernel_rfl) b) (fun w' h Z=>V w' (BMap.put X C Y k b h) (Fr.of_grown_some Z))
theorem zEk (u:Value)(n:Int)(w:World):
  Calls Tryz.prog 145 #[.agg #[u],.int .i64 n] w fun e w'=>e=.returned (.func (.func 197) #[] #[.pointer (some ⟨w.heap.size,0,none⟩),.pointer (some ⟨w.heap.size+1,0,none⟩)])/\w'=(w.alloc (.cells #[u] 48)).alloc (.cells #[.int .i64 n] 3):=by
 go_enter Tryz.func145,Tryz.ntmps145
 go_wp2_with fail
 go_ret;exact⟨rfl,rfl⟩
structure SubAt (W:World)(a:Option Addr)(cap:Nat)(ds:List Dev)(n:Int)(Bt Bi:Nat):Prop where
 devs:Devs W a cap ds
 tree:W.heap[Bt]?=some (.cells #[.slice a ds.length cap] 48)
 idx:W.heap[Bi]?=some (.cells #[.int .i64 n] 3)
theorem SubAt.fr {S:Nat->Prop}{W u:World}{a:Option Addr}{f:Nat}{ds:List Dev}{n:Int}{g o:Nat}(h:SubAt W a f ds n g o)(q:Fr S W u)(y:∀ v,a=some v->ds≠[]->¬ S v.block)(z:¬ S g)(A:¬ S o):SubAt u a f ds n g o:=
 ⟨h.devs.fr q y,q.heap h.tree z,q.heap h.idx A⟩
theorem SubAt.no {W g:World}{a:Option Addr}{f:Nat}{ds:List Dev}{n:Int}{o q:Nat}(h:SubAt W a f ds n o q)(u:Fr No W g):SubAt g a f ds n o q:=h.fr u (fun _ _ _=>id) id id
theorem zEn (n:Nat)(hn:3<=n)(a:Option Addr)(Y:Nat)(ds:List Dev)(g:Int)(Z Bi:Nat)(V0:Nat->Prop)(w:World)(hT:TreeOk ds)(hU:SubAt w a Y ds g Z Bi)(e8:ds.length<=1000000)
  (hV:¬ V0 Z/\¬ V0 Bi/\∀ v,a=some v->ds≠[]->¬ V0 v.block):
  GivesN Fence.wide n Tryz.prog 197 #[.pointer (some ⟨Z,0,none⟩),.pointer (some ⟨Bi,0,none⟩)] (fun d:Dev=>#[.agg d.vals]) (fun _=>False) V0 (subL g ds (fun _=>false)) w:=by
 intro l J W b0 e9 f0 b1 hJ hY h0;have d3:=@run_makeMap Tryz.prog;have d4:Z<w.heap.size:=zC hU.tree;have d5:Bi<w.heap.size:=zC hU.idx;have b2:∀ v,a=some v->ds≠[]->v.block<w.heap.size:=fun v e q=>(hU.devs.cell v e q).2.1
 have f1:=b0.size;have hm:=hU.devs.lenmax;have f2:1<=n:=by omega
 have hx:Fr No W (W.alloc (.map #[] 0)):=(Fr.refl _ _).alloc _;have d6:=zDN W;have f3:(W.alloc (.map #[] 0)).heap.size=W.heap.size+1:=by simp
 have b4:=(hU.no b0).no hx;have d7:=hJ _ _ _ _ _ h0 hx (fun _ h=>h.elim);have d8:¬ V0 W.heap.size:=fun h=>by have:=b1 _ _ _ h0 _ h;omega
 have cv:(W.alloc (.map #[] 0)).cell? ⟨Z,0,none⟩=some (.slice a ds.length Y):=zB b4.tree 0;show CallsIn Fence.wide n Tryz.prog 197 #[.func (.yield l) #[] #[],.pointer (some ⟨Z,0,none⟩),.pointer (some ⟨Bi,0,none⟩)] W _
 refine callsIn_of_wp Tryz.func197 rfl trivial ?_ rfl;simp only[Tryz.ntmps197,List.size_toArray,List.length_cons,List.length_nil,Nat.reduceAdd,Nat.reduceSub,Array.replicate_succ,Array.replicate_zero,List.push_toArray,List.append_toArray,List.nil_append,List.cons_append]
 gi_wp2
 clear cv d3;generalize W.alloc (.map #[] 0)=W0 at *
 gi_loopw [11] (fun i wr=>∃ (k:Nat) (f:List Dev) (R:Int->Bool) (V:Nat->Prop),k<=ds.length/\i=.int .i64 (k:Int)/\Hid (subL g ds (fun _=>false)=f++subL g (ds.drop k) R)/\BMap wr W.heap.size R k/\SubAt wr a Y ds g Z Bi/\J f V wr/\Hid (¬ V W.heap.size/\∀ b,V b->V0 b\/W.heap.size<=b)/\W0.heap.size<=wr.heap.size) (fun i _=>ds.length-(intOf i).toNat)
 case atStart=>exact⟨0,[],fun _=>false,V0,by omega,rfl,by unfold Hid;simp,d6,b4,d7,⟨d8,fun b h=>.inl h⟩,Nat.le_refl _⟩
 case round=>
  obtain⟨k,f,R,V,hk,rfl,HC,b5,a2,a3,u,f4⟩:=hrel;by_cases a4:k<ds.length
  ·have e5:(k:Int)<ds.length:=by omega
   obtain⟨db,f5,x,d9,C,y0,y1,y2,y3,y4,y5,y6,y7,y8,y9⟩:=a2.devs.dev a4;subst d9;have a5:=List.mem_of_getElem? C;have e0:=hT.iwf a5;have e1:=hT.pwf a5;have y:ds.drop k=x::ds.drop (k+1):=by
    have e:ds[k]=x:=by rw[List.getElem?_eq_getElem a4]at C;exact Option.some.inj C
    rw[List.drop_eq_getElem_cons a4,e]
   have hC:=HC.out;rw[y]at hC;have F:=zh hC;obtain⟨W1,z⟩:∃ W1,W1=wr.alloc (.cells x.vals 36):=⟨_,rfl⟩
   have I:Fr No wr W1:=by rw[z];exact(Fr.refl _ _).alloc _
   have L:W1.heap[wr.heap.size]?=some (.cells x.vals 36):=by rw[z];exact zD wr (.cells x.vals 36)
   have f6:=I.size;have N:=a2.no I;have O:=b5.fr I id;have a6:=hJ _ _ _ _ _ a3 I (fun _ h=>h.elim);clear C a5 y hC a2 b5 a3;have s0:W1.cell? ⟨Bi,0,none⟩=some (.int .i64 g):=zB N.idx 0;obtain⟨z0,z1⟩:=cl2 L;unfold Dev.vals at z
   gi_upto_region 4 with(fail)
   rw[<-z];clear z y0 y1 y2 y3 y4 y5 y6 y7 y8 y9;have o:=zh (And.intro N (And.intro O (And.intro a6 L)));generalize (Value.agg #[.int .i64 x.index,.int .i64 x.parent,.string x.name,.string x.orig,.string x.sub,.string x.drv,.string x.ali,.int .i64 x.kind,.int .i64 x.num,.slice x.aa x.an x.ac])=xv
   gi_cut [25]from 99 (fun b wx=>b=.bool (!(x.index==g||R x.parent))/\wx=W1)
   case first=>
    by_cases a7:x.index=g
    ·gi_wp2_with fail
     gi_meet
     exact⟨by simp[a7],rfl⟩
    ·have f7:(x.index != g)=true:=by simp[a7]
     have e2:=O.look e1;rcases hRx:R x.parent with _ | _
     all_goals
      rw[hRx]at e2
      gi_wp2_with fail
      gi_meet
      exact⟨by simp[a7,hRx],rfl⟩
   case rest=>
    obtain⟨rfl,rfl⟩:=hcut;rcases hb:(x.index==g||R x.parent)with _ | _
    ·have U:Hid (subL g ds (fun _=>false)=f++subL g (ds.drop (k+1)) R):=by
      unfold Hid;rw[F.out,zD2 hb]
     clear HC F N a6 L hb
     gi_wp2_with fail
     go_roundw
     case rel=>exact⟨k+1,f,R,V,by omega,by go_num,U.out,by obtain⟨D,nn,h1,h2⟩:=o.out.2.1;exact⟨D,nn,by omega,h2⟩,o.out.1,o.out.2.2.1,u.out,by omega⟩
     case measure=>simp[intOf];omega
    ·have U:Hid (subL g ds (fun _=>false)=(f++[x])++subL g (ds.drop (k+1)) (upd R x.index true)):=by
      unfold Hid;rw[F.out,zD1 hb,List.append_assoc];rfl
     clear HC F N a6 L hb
     gi_upto_region 6 with(gi_at_mapUpdate;refine zBp rfl _ _ _ 213 rfl Tryz.underlying213 W.heap.size _ _ (by unfold maxLen;omega) x.index e0 true rfl O rfl rfl ?_;intro w3 b6 A)
     have b7:=hJ _ _ _ _ _ o.out.2.2.1 A (fun b hb=>by unfold Is at hb;subst hb;exact⟨u.out.1,.inr (Nat.le_refl _)⟩);have f8:=A.size;have e3:=hY f V x w3 b7 ⟨subL g (ds.drop (k+1)) (upd R x.index true),U.out.symm⟩ (by omega);have b8:=o.out.1.fr A (fun v e q h=>by unfold Is at h;have:=b2 v e q;omega) (fun h=>by unfold Is at h;omega) (fun h=>by unfold Is at h;omega);have b3:=A.heap o.out.2.2.2 (fun h=>by unfold Is at h;omega);obtain⟨fn,e6,d2,e7,hy,hR⟩:=e3;obtain⟨c0,c1,c2,c3,c4,c5,c6,c7,c8,c9⟩:=DevB.of b3;have a8:=zh (And.intro b8 b6);unfold Dev.vals at hy;clear b7 b8 b6 A b3 z0 z1 s0 O
     gi_wp2
     refine hR.mono ?_;rintro e W3 ⟨rfl,V',a9,b9,X⟩;have f9:=X.size;have n4:∀ b,b<w.heap.size->¬ V0 b->¬ (V b\/b=l):=fun b h1 h2 h=>h.elim (fun h=>(u.out.2 b h).elim h2 (fun h=>by omega)) (fun h=>by omega)
     have d0:=a8.out.1.fr X (fun v e q=>n4 _ (b2 v e q) (hV.2.2 v e q)) (n4 _ d4 hV.1) (n4 _ d5 hV.2.1);have d1:=a8.out.2.fr X (fun h=>h.elim u.out.1 (fun h=>by omega));have HF:=zh (And.intro d0 (And.intro d1 b9));have e4:Hid (¬ V' W.heap.size/\∀ b,V' b->V0 b\/W.heap.size<=b):=⟨fun h=>(a9 _ h).elim u.out.1 (fun h=>by omega),fun b h=>(a9 b h).elim (u.out.2 b) (fun h=>.inr (by omega))⟩
     clear d0 d1 b9 a9 X hR hy a8 o c0 c1 c2 c3 c4 c5 c6 c7 c8 c9
     gi_wp2
     go_roundw
     case rel=>exact⟨k+1,f++[x],upd R x.index true,V',by omega,by go_num,U.out,HF.out.2.1,HF.out.1,HF.out.2.2,e4.out,by omega⟩
     case measure=>simp[intOf];omega
  ·obtain rfl:k=ds.length:=by omega
   gi_wp2
   go_end0
   have e:subL g ds (fun _=>false)=f:=by rw[HC.out,List.drop_length];simp[subL]
   rw[e];exact⟨⟨_,rfl⟩,V,a3⟩
end Go.Proofs.YtinfjnndbfahhaaGreatDoor
