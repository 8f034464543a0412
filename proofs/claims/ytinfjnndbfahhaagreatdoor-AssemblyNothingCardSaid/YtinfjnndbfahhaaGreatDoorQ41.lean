import Derived.Test.YtinfjnndbfahhaaGreatDoorQ40
namespace Go.Proofs.YtinfjnndbfahhaaGreatDoor
open Go.RowKit Go.Maps Go.Shelf
set_option linter.unusedVariables false
set_option maxRecDepth 100000
set_option maxHeartbeats 4000000
attribute [local go_sem] Oper.semAt_some
structure PlZ (w2:World)(mb bx:Nat)(V:Nat->Prop)(W:World):Prop where
 box:W.heap[bx]?=some (.cells #[.map (some mb)] 80)
 map:QMap W mb (fun _=>none) 0
 foot:∀ b,V b↔b=mb
 fr:Fr (fun b=>b=mb\/w2.heap.size<=b) w2 W
theorem zJ6 (q:Nat)(a:Option Addr)(f:Nat)(ds:List Dev)(U:Option Addr)(X:Nat)(w:World)(hl:Tr w q a f ds)(hn:ds.length<=250)(hE:Env w)(hF:FlatW ds)(a7:TrT w a ds)(g:q<=w.heap.size)(h8:8<w.heap.size)
  (hv:∀ d∈ds,preB d.orig=true) (hM:Virs w U X []):
  Calls Tryz.prog 30 #[.agg #[.slice a ds.length f],.slice U 0 X] w fun e w'=>(∃ (av:Option Addr) (cv:Nat),e=.returned (.slice av ds.length cv)/\w'.ownsRow w.heap.size 38 14 (.slice av ds.length cv) ds.length (rmOps (revR ds)))/\Fr No w w':=by
 refine(callsIn_wide (n:=12)).1 (callsIn_of_wp_marks Tryz.func30 rfl trivial (wpIn_wide.2 ?_));simp only[Tryz.ntmps30,List.size_toArray,List.length_cons,List.length_nil,Nat.reduceAdd,Nat.reduceSub,Array.replicate_succ,Array.replicate_zero,List.push_toArray,List.append_toArray,List.nil_append,List.cons_append];have c2:=@run_makeMap Tryz.prog;obtain⟨z,o⟩:∃ z,z=((w.alloc (.cells #[.slice a ds.length f] 48)).alloc (.map #[] 0)).alloc (.cells #[.map (some (w.heap.size+1))] 80):=⟨_,rfl⟩
 have hW:Fr No w z:=by rw[o];exact(((Fr.refl _ _).alloc _).alloc _).alloc _
 have b0:z.heap[w.heap.size]?=some (.cells #[.slice a ds.length f] 48):=by rw[o];exact((Fr.refl No _).alloc _).heap (zI _ _ _) id
 have m1:QMap z (w.heap.size+1) (fun _=>none) 0:=by
  rw[o];have:=QMap.made (w.alloc (.cells #[.slice a ds.length f] 48));rw[World.size_alloc]at this;exact this.fr ((Fr.refl No _).alloc _) id
 have b2:z.heap[w.heap.size+2]?=some (.cells #[.map (some (w.heap.size+1))] 80):=by
  rw[o];have:=zD ((w.alloc (.cells #[.slice a ds.length f] 48)).alloc (.map #[] 0)) (.cells #[.map (some (w.heap.size+1))] 80);rw[World.size_alloc,World.size_alloc]at this;exact this
 have a8:z.heap.size=w.heap.size+3:=by rw[o];simp
 have a9:=zh a8;have HA:=zh (And.intro hl (And.intro hE hM));have HV:=zh (And.intro hF (And.intro a7 hv));clear a8 hl hE hM hF a7 hv
 go_upto_region 2 with(fail)
 rw[<-o];clear o c2
 go_wp2_with fail
 refine(zGo _ _ _ _).mono ?_;rintro e w1 ⟨rfl,rfl⟩;have Y:Fr No z (z.alloc (.cells #[.slice U 0 X] 50)):=(Fr.refl _ _).alloc _;have db:=zD z (.cells #[.slice U 0 X] 50);have L:=hW.step Y zi;have d0:=Y.heap b0 id;have d2:=Y.heap b2 id;have dm:=m1.fr Y id;rw[a9.out]at db;clear b0 b2 m1 Y hW
 go_wp2_with fail
 rw[a9.out];generalize z.alloc (.cells #[.slice U 0 X] 50)=W2 at *;have d1:=zC db;have HD:=zh (And.intro d0 (And.intro d2 dm));refine(wpIn_wide (n:=12)).1 (zAD (α:=Int×Vir) (T:=fun _=>False) (V0:=Is (w.heap.size+1)) rfl (by omega) (gf:=122) (lb:=#[.pointer (some ⟨w.heap.size+3,0,none⟩)]) rfl trivial (enters_of Tryz.func122 (by kernel_rfl) rfl) (encs:=fun x:Int×Vir=>#[.int .i64 x.1,.agg x.2.vals]) (fun _=>rfl) (fun b h=>h.elim) (fun b h=>by unfold Is at h;omega)
  (zBe 11 (by omega) (w.heap.size+3) U X [] W2 (Is (w.heap.size+1)) db (HA.out.2.2.fr L (fun _ _ _=>id)) (by simp) ⟨fun h=>by unfold Is at h;omega,fun ad e a2 h=>a2 rfl⟩)
  (fun _=>PlZ W2 (w.heap.size+1) (w.heap.size+2)) (fun s V A h b g=>by rw[(h.foot b).1 g];exact h.map.lt) (fun s V A B S h hf hS=>by
   exact⟨hf.heap h.box (fun g=>by
    have h':W2.heap.size<=w.heap.size+2:=(hS _ g).2.resolve_left id;omega),h.map.fr hf (fun g=>(hS _ g).1 ((h.foot _).2 rfl)),h.foot,h.fr.step hf (fun b g hs=>by
    rcases(hS b hs).2 with h' | h'
    ·exact h'.elim
    ·exact .inr h')⟩)
  ⟨d2,dm,fun b=>Iff.rfl,Fr.refl _ _⟩
  (fun x V a' W=>∃ Bx,W2.heap.size+2<=Bx/\W.heap[Bx]?=some (.cells x.2.vals 94)/\¬ V Bx/\a'={ tmps:=#[.agg #[.slice a ds.length f],.slice U 0 X,.pointer (some ⟨w.heap.size,0,none⟩),undef,.slice none 0 0,.pointer (some ⟨w.heap.size+2,0,none⟩),undef,.pointer (some ⟨Bx,0,none⟩),undef,undef,undef,.map (some (w.heap.size+1)),.slice U 0 X,.func (.func 122) #[] #[.pointer (some ⟨w.heap.size+3,0,none⟩)],.int .i64 x.1,.agg x.2.vals,undef,undef,undef,undef,undef,undef,undef,undef,undef,undef,undef,undef,undef,undef,undef,undef,undef,undef,undef,undef,undef,undef,undef,undef,undef,undef,undef,undef,undef,undef],defers:=[] })
  (fun x V a' A B h hf=>by obtain⟨Bx,h1,h2,h3,h4⟩:=h;exact⟨Bx,h1,hf.heap h2 (fun e=>by unfold Is at e;omega),h3,h4⟩)
  ?assign ?body ?done)
 case assign=>
  intro l c3 V x W K J Z hK;have c4:∀ b,V b->b<W.heap.size:=fun b g=>by rw[(J.foot b).1 g];exact J.map.lt
  have d3:=fun a' W' (h1:Fr No W W') h2=>hK a' W' h1 h2
  clear L d0 d2 dm db;unfold Vir.vals
  gi_wp2
  exact hK _ _ ((Fr.refl _ _).alloc _) ⟨W.heap.size,Z,zD _ _,fun h=>by have:=c4 _ h;omega,rfl⟩
 case body=>
  rintro l c3 V ⟨xi,v⟩ a' W J ⟨Bx,d4,d5,d6,rfl⟩ b1 Z;have h1:=b1.length_le;rw[zAl]at h1;simp at h1
 case done=>
  rintro V W J hK c5;have N:=J.map;have C:∀ b,b<w.heap.size+1->¬ (b=w.heap.size+1\/W2.heap.size<=b):=fun b g h=>by rcases h with h | h<;>omega
  have O:Fr No w W:=L.step J.fr (fun b g h=>C b (by omega) h);have t0:W.cell? ⟨w.heap.size,0,none⟩=some (.slice a ds.length f):=zB (J.fr.heap d0 (C _ (by omega))) 0;have t5:W.cell? ⟨w.heap.size+2,0,none⟩=some (.map (some (w.heap.size+1))):=zB J.box 0;obtain⟨W1,R⟩:∃ W1,W1=W.alloc (.cells #[.slice a ds.length f,.slice none 0 0] 135):=⟨_,rfl⟩
  have x1:Fr No W W1:=by rw[R];exact(Fr.refl _ _).alloc _
  have a3:W1.heap[W.heap.size]?=some (.cells #[.slice a ds.length f,.slice none 0 0] 135):=by rw[R];exact zD _ _
  have u:=O.step x1 zi;have c6:=O.size;have b3:=zH6 W.heap.size (w.heap.size+1) q a f ds (fun _=>none) 0 W1 (HA.out.1.no u) hn (HA.out.2.1.no u) HV.out.1 (HV.out.2.1.fr u (fun _ _=>id)) a3 (N.fr x1 id) (fun _=>rfl) HV.out.2.2 (by have:=N.lt;omega) (by omega) (by omega);have a4:=zh (x1.heap J.box id);have HQ:=zh (N.fr x1 id);have a5:=zh u;have d7:=u.size;have d8:=zh a3;have b4:=zh (x1.heap hK id);have c6:=O.size;have d9:=zC hK;have c7:W2.heap.size≠W.heap.size:=by omega
  clear L d0 d2 dm db J N x1 a3 u hK c5 C O
  go_upto_region 6 with(fail)
  rw[<-R];clear R t0 t5;have t5:W1.cell? ⟨w.heap.size+2,0,none⟩=some (.map (some (w.heap.size+1))):=zB a4.out 0
  go_wp2_with fail
  refine b3.mono ?_;rintro e w3 ⟨rfl,⟨ao,co,c1,a1,k3,b5,D⟩,y⟩;clear b3 t5;have a2:w.heap.size+2≠W.heap.size:=by omega
  have b6:=HQ.out.fr y (fun h=>by unfold Is at h;omega);have t5:w3.cell? ⟨w.heap.size+2,0,none⟩=some (.map (some (w.heap.size+1))):=zB (y.heap a4.out a2) 0;have b7:Env w3:=((HA.out.2.1.no a5.out).fr y (fun b g h=>by unfold Is at h;omega))
  have b8:=zLo W.heap.size (w.heap.size+1) q a1 c1 [] ao ds.length co (fun _=>none) 0 w3 b5 (by simp) b7 k3 b6 (fun p=>⟨⟨⟨#[]⟩,⟨#[]⟩,⟨#[]⟩,0⟩,rfl⟩) (fun d hd=>by simp at hd);have a6:=y.heap b4.out (fun h=>c7 h);have c8:=zh ((a5.out.mono zn).step y (fun b g h=>h):Fr (Is W.heap.size) w w3);have c9:Hid (∀ b,(Value.slice ao ds.length co).ownBlock=some b->b≠W2.heap.size):=fun b h e=>by
   obtain⟨ad,hv,g⟩:=zAn h;obtain⟨x,Y⟩:=zAI D ad hv;rw[g,e,a6]at Y;cases Y
  clear y b5 b6 b7 HQ b4 a5 a4
  go_wp2_with fail
  refine b8.mono ?_;rintro e w4 ⟨rfl,F⟩;have k4:=F.heap k3 id;have t1:w4.cell? ⟨W.heap.size,1,none⟩=some (.slice ao ds.length co):=zB k4 1;have b9:=F.heap a6 id;have I:Fr (Is W2.heap.size) w4 (w4.putObj W2.heap.size (.deferred none)):=Fr.putObj _ _ _ rfl;have H:=zh (And.intro (zEF (zG (zG D F (fun _ _=>id)) I (fun b g h=>c9.out b g h)) (base':=w.heap.size) (by omega)) (And.intro b9 ((c8.out.step F zn).step I (fun b g h=>by unfold Is at h;omega) |>.mono (T:=No) (fun b g h=>by unfold Is at h;omega))));clear b8 k3 k4 F a6 b9 I D t5
  go_wp2_with fail
  go_loopw [34] (fun x wr=>x=.int .i64 0/\wr=w4) (fun x _=>(1-intOf x).toNat)
  case atStart=>exact⟨rfl,rfl⟩
  case round=>
   obtain⟨rfl,rfl⟩:=hrel
   go_wp2_with fail
   refine⟨by simp,.inl ⟨_,_,rfl,run_takeDeferred H.out.2.1,?_⟩⟩;exact⟨_,results_tmp rfl _ _ _,⟨ao,co,rfl,H.out.1⟩,H.out.2.2⟩
theorem zHJ (w:World):Calls Tryz.prog 219 #[.int .u64 0] w fun e w'=>(∃ k,e=.returned (.int .i64 k))/\w'=w:=by
 go_enter Tryz.func219,Tryz.ntmps219
 go_wp2_with fail
 go_ret;exact⟨⟨_,rfl⟩,rfl⟩
theorem zIu (w:World):Calls Tryz.prog 169 #[.int .u64 0] w fun e w'=>(∃ k,e=.returned (.int .i64 k))/\w'=w:=by
 have h:=zHJ w
 go_enter Tryz.func169,Tryz.ntmps169
 go_wp2_with fail
 refine h.mono ?_;rintro e w' ⟨⟨k,rfl⟩,rfl⟩
 go_wp2_with fail
 go_ret;exact⟨⟨_,rfl⟩,rfl⟩
theorem zHq (a:Option Addr)(c f:Nat)(S:List Src)(w:World)(g:w.ownsRow f 123 13 (.slice a S.length c) S.length (sflat S))(q:S.length<=1000):
  Calls Tryz.prog 117 #[.slice a S.length c,.func (.func 118) #[] #[]] w fun e w'=>e=.returned (.tuple #[])/\
   (∃ h:List Src,h.Perm S/\h.Pairwise (fun x y=>x.at_<=y.at_)/\w'.ownsRow f 123 13 (.slice a h.length c) h.length (sflat h))/\Fr (fun b=>(Value.slice a S.length c).ownBlock=some b) w w':=by
 by_cases o:S=[]
 ·subst o;refine(zHs a c _ w (zIu w)).mono ?_;rintro e w' ⟨rfl,rfl⟩;exact⟨rfl,⟨[],.refl _,.nil,g⟩,Fr.refl _ _⟩
 ·exact zJJ a c f S w g o q
end Go.Proofs.YtinfjnndbfahhaaGreatDoor
