import Derived.Test.YtinfjnndbfahhaaGreatDoorQ37
namespace Go.Proofs.YtinfjnndbfahhaaGreatDoor
open Go.RowKit Go.Maps Go.Shelf
set_option linter.unusedVariables false
set_option maxRecDepth 100000
set_option maxHeartbeats 8000000
attribute [local go_sem] Oper.semAt_some
def ixs (l:List Dev):Int->Bool:=fun i=>l.any fun d=>d.index==i
theorem zJk (l:List Dev)(x:Dev):upd (ixs l) x.index true=ixs (l++[x]):=by
 funext i
 unfold upd ixs;rw[List.any_append];by_cases h:i=x.index
 ·subst h;simp
 ·have:(x.index==i)=false:=by simpa using fun e=>h e.symm
  simp[h,this]
def remL (n:Int)(ds:List Dev):List Dev:=ds.filter fun d=>!ixs (subL n ds (fun _=>false)) d.index
theorem zKq {n:Int}{ds:List Dev}{R:Int->Bool}{d:Dev}(h:look ds n=some d):subL n ds R≠[]:=by
 induction ds generalizing R with
 | nil=>cases h
 | cons x t f=>
  unfold look at h;unfold subL;by_cases e:x.index=n
  ·rw[if_pos (by simp[e])];simp
  ·rw[List.find?_cons_of_neg (by simpa using e)]at h;split
   ·simp
   ·exact f h
theorem zFP {w:World}{q:Array Oper}{f:List Oper}{o:Oper}{a:Act}{Q:Exit->Act->World->Prop}(C:o.guard=none)(m:Operand)(t:TypeId)(v:o.op=Op.call { callee:=Callee.builtin Builtin.len,args:=#[m],argTypes:=#[t] })(F:Tryz.prog.underlying t=some (.map 3 4))
  (y:Nat) (g:Int->Bool) (N:Nat) (I:a.eval m=.map (some y)) (u:BMap w y g N) (x:Int) (J:g x=true)
  (L:∀ k:Nat,0<k->wpList Tryz.prog q Q f (a.put o.dst (.int .i64 k)) w):wpList Tryz.prog q Q (o::f) a w:=by
 obtain⟨D,n,_,A,O⟩:=u;refine wpList_len_own w C m t v 3 4 F _ y n D I A (L _ ?_);rcases Nat.eq_zero_or_pos (Maps.size D)with h | h
 ·exfalso;obtain⟨V,z,Y,Z,hs,R⟩:=A;obtain⟨X,U⟩:∃ X,D=.map X:=⟨_,R⟩
  subst U;obtain rfl:X=[]:=List.eq_nil_of_length_eq_zero h;have:=O x;rw[J]at this;cases this
 ·exact h
theorem Cop.filter {w w':World}{f:Nat}(p:Dev->Bool)(v:∀ d g:Dev,g.index=d.index->p g=p d):∀ {ds cs:List Dev},Cop w w' f ds cs->Cop w w' f (ds.filter p) (cs.filter p)
 | [],cs,h=>by
  have:cs=[]:=List.eq_nil_of_length_eq_zero h.len;subst this;exact h
 | d::t,[],h=>by have:=h.len;cases this
 | d::t,g::A,h=>by
  have y:=h.el 0 d g rfl rfl;have C:Cop w w' f t A:=⟨by have:=h.len;simpa using this,fun i x q e o=>h.el (i+1) x q e o⟩
  have z:p g=p d:=v d g (by rw[y.eq]);have u:=Cop.filter p v C;cases hpd:p d with
  | false=>rw[List.filter_cons_of_neg (by rw[hpd];simp),List.filter_cons_of_neg (by rw[z,hpd];simp)];exact u
  | true=>
   rw[List.filter_cons_of_pos hpd,List.filter_cons_of_pos (by rw[z,hpd])];refine⟨by simp[u.len],fun i x q e o=>?_⟩;cases i with
   | zero=>cases e;cases o;exact y
   | succ i=>exact u.el i x q e o
def RemRes (w w':World)(ds:List Dev)(n:Int)(e:Ending):Prop:=
 ∃ a' c' ds',e=.returned (.tuple #[.agg #[.slice a' (List.length ds') c'],.int .i64 0])/\Devs w' a' c' ds'/\BlkT w' a' 36/\(∀ ad,a'=some ad->w.heap.size<=ad.block)/\Cop w w' w.heap.size (remL n ds) ds'
theorem zKu (d:Dev)(o q N:Nat)(g:Int->Bool)(w:World)(y:w.heap[o]?=some (.cells #[.map (some q)] 213))(z:BMap w q g N)(u:(Lit.int .i64 d.index).wf=true):
  Calls Tryz.prog 147 #[.agg d.vals,.pointer (some ⟨o,0,none⟩)] w fun e w'=>e=.returned (.bool (g d.index))/\Fr No w w':=by
 obtain⟨h,f⟩:∃ h,h=w.alloc (.cells d.vals 36):=⟨_,rfl⟩
 have v:Fr No w h:=by rw[f];exact(Fr.refl _ _).alloc _
 have A:h.heap[w.heap.size]?=some (.cells d.vals 36):=by rw[f];exact zD _ _
 have D:=(DevB.of A).c0;have F:h.cell? ⟨o,0,none⟩=some (.map (some q)):=zB (v.heap y id) 0;have C:=(z.fr v id).look u;unfold Dev.vals at f ⊢
 go_enter Tryz.func147,Tryz.ntmps147
 go_upto_region 1 with(fail)
 rw[<-f];clear f
 go_wp2_with fail
 go_ret;exact⟨rfl,v⟩
structure RemI (w0:World)(bm mb:Nat)(pre:List Dev)(V:Nat->Prop)(W:World):Prop where
 map:BMap W mb (ixs pre) pre.length
 foot:V=Is mb
 fr:Fr (fun b=>b=mb\/w0.heap.size<=b) w0 W
 box:W.heap[bm]?=some (.cells #[.map (some mb)] 213)
theorem zF6 (a:Option Addr)(f c2:Nat)(ds:List Dev)(n:Int)(dn:Dev)(w:World)(hl:Tr w c2 a f ds)(hn:ds.length<=256)(a7:look ds n=some dn):
  Calls Tryz.prog 93 #[.agg #[.slice a ds.length f],.int .i64 n] w fun e w'=>RemRes w w' ds n e/\Fr No w w':=by
 have hT:=hl.wf.1;refine(callsIn_wide (n:=12)).1 (callsIn_of_wp_marks Tryz.func93 rfl trivial (wpIn_wide.2 ?_));simp only[Tryz.ntmps93,List.size_toArray,List.length_cons,List.length_nil,Nat.reduceAdd,Nat.reduceSub,Array.replicate_succ,Array.replicate_zero,List.push_toArray,List.append_toArray,List.nil_append,List.cons_append];obtain⟨o,U⟩:∃ o,o=(((w.alloc (.cells #[.slice a ds.length f] 48)).alloc (.cells #[.slice none 0 0] 48)).alloc (.map #[] 0)).alloc (.cells #[.map (some (w.heap.size+1+1))] 213):=⟨_,rfl⟩
 have d9:=@run_makeMap Tryz.prog;obtain⟨V0,I⟩:∃ V0,V0=(w.alloc (.cells #[.slice a ds.length f] 48)).alloc (.cells #[.slice none 0 0] 48):=⟨_,rfl⟩
 have f0:Fr No w V0:=by rw[I];exact((Fr.refl _ _).alloc _).alloc _
 have a2:V0.heap[w.heap.size]?=some (.cells #[.slice a ds.length f] 48):=by rw[I];exact zI _ _ _
 have a4:V0.heap[w.heap.size+1]?=some (.cells #[.slice none 0 0] 48):=by rw[I];exact zL _ _ _
 have sV:V0.heap.size=w.heap.size+1+1:=by rw[I];simp
 rw[<-I]at U;have f1:Fr No V0 o:=by rw[U];exact((Fr.refl _ _).alloc _).alloc _
 have b2:=f1.heap a2 id;have b4:=f1.heap a4 id;have b6:o.heap[w.heap.size+1+1+1]?=some (.cells #[.map (some (w.heap.size+1+1))] 213):=by
  have h:=zL V0 (.map #[] 0) (.cells #[.map (some (w.heap.size+1+1))] 213);rw[sV]at h;rw[U];exact h
 have hM:BMap o (w.heap.size+1+1) (ixs []) 0:=by
  have h:=(zDN V0).fr (S:=No) ((Fr.refl No _).alloc (.cells #[.map (some (w.heap.size+1+1))] 213)) id;rw[sV]at h;rw[U];exact h
 have hW:Fr No w o:=f0.step f1 zi;have t2:o.cell? ⟨w.heap.size,0,none⟩=some (.slice a ds.length f):=zB b2 0;have f6:=zC b6
 go_upto_region 2 with(fail)
 rw[<-I,<-U];clear U I f0 f1 a2 a4 sV d9
 go_wp2_with fail
 refine(zEk _ _ _).mono ?_;rintro e w2 ⟨rfl,rfl⟩;have X:Fr No o ((o.alloc (.cells #[.slice a ds.length f] 48)).alloc (.cells #[.int .i64 n] 3)):=((Fr.refl _ _).alloc _).alloc _;have J:=hW.step X zi;have hU:SubAt ((o.alloc (.cells #[.slice a ds.length f] 48)).alloc (.cells #[.int .i64 n] 3)) a f ds n o.heap.size (o.heap.size+1):=⟨hl.dv.no J (fun _=>id),zI _ _ _,zL _ _ _⟩
 have d2:=X.heap b2 id;have d4:=X.heap b4 id;have d6:=X.heap b6 id;have dM:=hM.fr X id;have b7:((o.alloc (.cells #[.slice a ds.length f] 48)).alloc (.cells #[.int .i64 n] 3)).heap.size=o.heap.size+2:=by simp
 clear t2 b2 b4 b6 hM X hW
 go_wp2_with fail
 generalize (o.alloc (.cells #[.slice a ds.length f] 48)).alloc (.cells #[.int .i64 n] 3)=W2 at *;have a8:∀ F,a=some F->ds≠[]->F.block<w.heap.size:=fun F e Y=>(hl.dv.cell F e Y).2.1
 refine(wpIn_wide (n:=12)).1 (zCQ (α:=Dev) (T:=fun _=>False) (V0:=Is (w.heap.size+1+1)) rfl (by omega) (gf:=197) (lb:=#[.pointer (some ⟨o.heap.size,0,none⟩),.pointer (some ⟨o.heap.size+1,0,none⟩)]) rfl trivial (enters_of Tryz.func197 (by kernel_rfl) rfl) (encs:=fun d:Dev=>#[.agg d.vals]) (fun _=>rfl) (fun b h=>h.elim) (fun b h=>by unfold Is at h;omega)
  (zEn 11 (by omega) a f ds n o.heap.size (o.heap.size+1) (Is (w.heap.size+1+1)) W2 hT hU (by omega) ⟨fun h=>by unfold Is at h;omega,fun h=>by unfold Is at h;omega,fun F e Y h=>by have:=a8 F e Y;unfold Is at h;omega⟩)
  (RemI W2 (w.heap.size+1+1+1) (w.heap.size+1+1)) (fun _ _ _ h b u=>by rw[h.foot]at u;unfold Is at u;rw[u];exact h.map.lt)
  (fun s V A B S h hf hS=>by
   have nb:∀ b,S b->¬ V b/\W2.heap.size<=b:=fun b u=>⟨(hS b u).1,(hS b u).2.resolve_left id⟩
   exact⟨h.map.fr hf (fun u=>(nb _ u).1 (by rw[h.foot];rfl)),h.foot,h.fr.step hf (fun b u hs=>.inr (nb b hs).2),hf.heap h.box (fun u=>by have:=(nb _ u).2;omega)⟩)
  ⟨dM,rfl,Fr.refl _ _,d6⟩
  (fun x V L W=>∃ Bx,W2.heap.size+2<=Bx/\W.heap[Bx]?=some (.cells x.vals 36)/\L={ tmps:=#[.agg #[.slice a ds.length f],.int .i64 n,.pointer (some ⟨w.heap.size,0,none⟩),undef,.pointer (some ⟨w.heap.size+1,0,none⟩),.int .i64 0,.pointer (some ⟨w.heap.size+1+1+1,0,none⟩),.pointer (some ⟨Bx,0,none⟩),.map (some (w.heap.size+1+1)),.agg #[.slice a ds.length f],.int .i64 n,.func (.func 197) #[] #[.pointer (some ⟨o.heap.size,0,none⟩),.pointer (some ⟨o.heap.size+1,0,none⟩)],.agg x.vals,undef,undef,undef,undef,undef,undef,undef,undef,undef,undef,undef,undef,undef],defers:=[] })
  (fun x V L A B h hf=>by obtain⟨Bx,h1,h2,h3⟩:=h;exact⟨Bx,h1,hf.heap h2 (fun e=>by unfold Is at e;omega),h3⟩)
  ?assign ?body ?done)
 case assign=>
  intro l c3 V x W K N b0 hK;have f7:=fun L W' (h1:Fr No W W') h2=>hK L W' h1 h2
  clear a8 b7 hU J d2 d4 d6 dM hl hT a7;unfold Dev.vals
  gi_wp2
  exact hK _ _ ((Fr.refl _ _).alloc _) ⟨W.heap.size,b0,zD _ _,rfl⟩
 case body=>
  rintro l c3 V x L W N ⟨Bx,f8,c4,rfl⟩ Z b0;have c5:x∈ds:=zD3 (List.IsPrefix.subset Z (by simp));have e0:=hT.iwf c5;have f9:c3.length<=256:=by
   have h7:=Z.length_le;have h8:=zCZ n ds (fun _=>false);simp at h7;omega
  have t6:W.cell? ⟨w.heap.size+1+1+1,0,none⟩=some (.map (some (w.heap.size+1+1))):=zB N.box 0;have t0:W.cell? ⟨Bx,0,none⟩=some (.int .i64 x.index):=zB c4 0;have e4:=N.map;have HI:=zh N;clear N Z c5 c4 a8 b7 hU J d2 d4 d6 dM hl hT a7
  gi_wp2_with (gi_at_mapUpdate;refine zBp rfl _ _ _ 213 rfl Tryz.underlying213 (w.heap.size+1+1) _ _ (by unfold maxLen;omega) x.index e0 true rfl e4 rfl rfl ?_;intro w3 c7 z)
  have c8:=HI.out.foot;refine⟨V,fun b h=>.inl h,⟨?_,c8,HI.out.fr.step z (fun b u h=>.inl h),z.heap HI.out.box (fun h=>by unfold Is at h;omega)⟩,by rw[c8];exact z⟩;rw[zJk]at c7;obtain⟨D,q,h1,h2⟩:=c7;exact⟨D,q,by rw[List.length_append];exact h1,h2⟩
 case done=>
  rintro V W N hK e5;have g:Fr (Is W2.heap.size) W (W.putObj W2.heap.size (.deferred none)):=Fr.putObj _ _ _ rfl;have t6:W.cell? ⟨w.heap.size+1+1+1,0,none⟩=some (.map (some (w.heap.size+1+1))):=zB N.box 0;have k2:=N.fr.heap d2 (fun h=>by have:=zC d2;omega);have k4:=N.fr.heap d4 (fun h=>by have:=zC d4;omega);have t2:W.cell? ⟨w.heap.size,0,none⟩=some (.slice a ds.length f):=zB k2 0;have FW:Fr No w W:=J.step (N.fr) (fun b u h=>by have:=J.size;omega);obtain⟨y,hy⟩:=List.exists_mem_of_ne_nil _ (zKq (R:=fun _=>false) a7);have e6:ixs (subL n ds (fun _=>false)) y.index=true:=List.any_eq_true.2 ⟨y,hy,by simp⟩;have c9:=zCq a f ds W (hl.dv.no FW (fun _=>id)) (by omega) (fun x hx=>by
   obtain⟨l',g1,g2,g3⟩:=(hl.el x hx).att;exact⟨l',g1.no FW (fun _=>id),g2,g3⟩)
  have b1:=N.map;have f3:w.heap.size+2<=W2.heap.size:=by have:=J.size;omega
  have HB:=zh (And.intro N.box (And.intro N.map k4));have HF:=zh (And.intro FW hK);have HT:=zh hT;have HL:=zh hl;have e7:=FW.size;clear N g J hy a8 b7 hU d2 d4 d6 dM a7 e5 k2 hl hT FW hK k4
  go_upto_region 7 with(at_len;refine zFP rfl _ 213 rfl Tryz.underlying213 (w.heap.size+1+1) _ _ rfl b1 y.index e6 ?_;intro q hq;have g0:((q:Int)==0)=false:=by simp;omega)
  go_wp2_with fail
  refine c9.mono ?_;rintro e w3 ⟨⟨v,cs,rfl,C,O⟩,z⟩;obtain⟨av,cv,rfl⟩:=zJ C;have g4:cs.length<=256:=by have:=O.len;omega
  have b3:=zHO 147 #[.pointer (some ⟨w.heap.size+1+1+1,0,none⟩)] (enters_of Tryz.func147 (by kernel_rfl) rfl) (fun d=>ixs (subL n ds (fun _=>false)) d.index) W.heap.size av cv cs w3 C (by omega) (fun x hx W' d1=>by
   have Y:∀ b,b<W.heap.size->¬ (Value.slice av cs.length cv).ownBlock=some b:=fun b u h=>by have:=(zAG C h).1;omega
   have h1:=zC HB.out.1;obtain⟨d0,e8,e9⟩:=O.mem hx;exact zKu x _ _ _ _ W' (d1.heap (z.heap HB.out.1 id) (Y _ (zC HB.out.1))) ((HB.out.2.1.fr z id).fr d1 (Y _ HB.out.2.1.lt)) (by rw[e9.eq];show (Lit.int .i64 d0.index).wf=true;exact HT.out.iwf e8))
  have HC:=zh (And.intro O C);have f2:=zh z;clear O C t2 c9 b1 z
  go_wp2_with fail
  refine b3.mono ?_;rintro e w4 ⟨⟨L,c',k,rfl,hk,a3⟩,b8⟩;have a9:Fr No W w4:=(f2.out.step b8 (fun b u h=>by have:=(zAG HC.out.2 h).1;omega))
  have k4:=a9.heap HB.out.2.2 id;have d3:∀ b,b<W.heap.size->¬ (Value.slice L k c').ownBlock=some b:=fun b u h=>by have:=(zAG a3 h).1;omega
  have f4:=zE k4 0;have z4:w4.cell? ⟨w.heap.size+1,0,none⟩=some (.slice none 0 0):=zB k4 0;have x5:Fr (Is (w.heap.size+1)) w4 (w4.setCell ⟨w.heap.size+1,0,none⟩ (.slice L k c')):=Fr.setAt (Fr.refl _ _) _;have k5:=zF k4 0 (.slice L k c');have a5:=zG a3 x5 (fun b u h=>by unfold Is at h;exact d3 _ (zC HB.out.2.2) (by rw[<-h];exact u));have b9:Cop W w4 W.heap.size (remL n ds) (cs.filter fun x=>!ixs (subL n ds (fun _=>false)) x.index):=((HC.out.1.own HC.out.2 b8).filter _ (fun d d' e=>by rw[e]))
  have d5:=b9.fr x5 (fun d hd F e h=>by
   obtain⟨y,_,hc⟩:=b9.mem hd;have:=hc.fresh F e;have:=zC HB.out.2.2;unfold Is at h;omega)
  subst hk;obtain⟨a6,c6,hv,d7,b5⟩:=Devs.of_own a5;injection hv with e1 e2 e3
  subst e1 e3;have H5:=zh (And.intro d7 (And.intro (zAI a5) (And.intro b5 (And.intro d5 (And.intro ((HF.out.1.step a9 zi).step x5 (fun b u h=>by unfold Is at h;omega)) (And.intro (x5.heap (a9.heap HF.out.2 id) (fun h=>by unfold Is at h;omega)) k5))))));have z5:(w4.setCell ⟨w.heap.size+1,0,none⟩ (.slice L (cs.filter fun x=>!ixs (subL n ds (fun _=>false)) x.index).length c')).cell? ⟨w.heap.size+1,0,none⟩=some (.slice L (cs.filter fun x=>!ixs (subL n ds (fun _=>false)) x.index).length c'):=zB k5 0;have g:Fr (Is W2.heap.size) (w4.setCell ⟨w.heap.size+1,0,none⟩ (.slice L (cs.filter fun x=>!ixs (subL n ds (fun _=>false)) x.index).length c')) _:=Fr.putObj _ W2.heap.size (.deferred none) rfl;clear k5 x5 a5 b9 d5 d7 b5 a3 b8 a9 k4;obtain⟨fs,d8⟩:∃ fs,fs=cs.filter fun x=>!ixs (subL n ds (fun _=>false)) x.index:=⟨_,rfl⟩
  rw[<-d8]at H5 z5 g ⊢;clear d8 b3
  go_wp2_with fail
  refine⟨by simp,.inl ⟨_,_,rfl,run_takeDeferred H5.out.2.2.2.2.2.1,?_⟩⟩;have f5:=zC HF.out.2;have z6:=g.cell z5 (fun h=>by unfold Is at h;dsimp only at h;omega);refine⟨.tuple #[.agg #[.slice L fs.length c'],.int .i64 0],by simp[results,Tryz.results93,go_sem,z6],⟨L,c',fs,rfl,H5.out.1.fr g (fun F e _ h=>by have:=H5.out.2.2.1 F e;unfold Is at h;omega),H5.out.2.1.fr g (fun F e h=>by have:=H5.out.2.2.1 F e;unfold Is at h;omega),fun F e=>by have:=H5.out.2.2.1 F e;omega,?_⟩,H5.out.2.2.2.2.1.step g (fun b u h=>by unfold Is at h;omega)⟩;exact(H5.out.2.2.2.1.fr g (fun d hd F e h=>by
   obtain⟨y,_,hc⟩:=H5.out.2.2.2.1.mem hd;have:=hc.fresh F e;unfold Is at h;omega)).src HF.out.1 (fun d hd=>by
   obtain⟨l',g1,g2,_⟩:=(HL.out.el d (List.mem_filter.1 hd).1).att;exact⟨l',g1,g2⟩) e7
attribute [local go_sem] Oper.semAt_some
def EvL (n:Nat)(xs:List Value):Prop:=∀ i,i<n->∃ (q c x:Int) (p y:ByteArray),xs[i*5]?=some (.int .i64 q)/\xs[i*5+1]?=some (.int .i64 c)/\xs[i*5+2]?=some (.int .i64 x)/\xs[i*5+3]?=some (.string p)/\xs[i*5+4]?=some (.string y)
theorem EvL.nil : EvL 0 []:=fun i h=>by omega
theorem EvL.snoc {n:Nat}{f:List Value}(h:EvL n f)(g:f.length=n*5)(q c x:Int)(p y:ByteArray):EvL (n+1) (f++[.int .i64 q,.int .i64 c,.int .i64 x,.string p,.string y]):=fun i u=>by
 by_cases o:i<n
 ·obtain⟨q,c,x,p,y,v,z,A,C,D⟩:=h i o;refine⟨q,c,x,p,y,?_,?_,?_,?_,?_⟩<;>rw[List.getElem?_append_left (by omega)]<;>assumption
 ·obtain rfl:i=n:=by omega
  refine⟨q,c,x,p,y,?_,?_,?_,?_,?_⟩<;>rw[List.getElem?_append_right (by omega),g]
  ·rw[Nat.sub_self];rfl
  ·rw[Nat.add_sub_cancel_left];rfl
  ·rw[Nat.add_sub_cancel_left];rfl
  ·rw[Nat.add_sub_cancel_left];rfl
  ·rw[Nat.add_sub_cancel_left];rfl
theorem Evs.of_own {w:World}{f n c:Nat}{a:Option Addr}{q:List Value}(h:w.ownsRow f 104 5 (.slice a n c) n q)(z:EvL n q):Evs w a n q:=by
 refine⟨fun e=>(zFc h e).1,fun F e=>?_,z⟩;obtain⟨_,⟨v,_⟩ | ⟨g,A,C,v,I,y,J,L,N,D⟩⟩:=h
 ·cases v;cases e
 ·cases v;cases e;refine⟨rfl,zC y,fun j u o=>?_⟩;have O:=(List.getElem?_eq_some_iff.1 o).1;rw[zB y,Nat.zero_add,<-Array.getElem?_toList];rw[<-D,List.getElem?_take]at o;split at o
  ·exact o
  ·cases o
theorem zJM {α:Type}{L:List α}{p:Int×α}(h:p∈revR L):p.2∈L:=by
 unfold revR at h;obtain⟨q,f,g⟩:=List.mem_map.1 h;rw[List.mem_reverse]at f;have o:=List.mem_zipIdx f;rw[<-g];dsimp only;rw[o.2.2];exact List.getElem_mem _
structure KrI (w0:World)(bt rb:Nat)(pre:List (Int×Dev))(V:Nat->Prop)(W:World):Prop where
 st:∃ (av:Option Addr) (cv:Nat) (xs:List Value),W.heap[bt]?=some (.cells #[.slice av pre.length cv] 58)/\W.ownsRow rb 104 5 (.slice av pre.length cv) pre.length xs/\EvL pre.length xs/\V=fun b=>b=bt\/(Value.slice av pre.length cv).ownBlock=some b
 fr:Fr (fun b=>b=bt\/w0.heap.size<=b) w0 W
theorem KrI.mv {o:World}{y z:Nat}{f:List (Int×Dev)}{V S:Nat->Prop}{A B:World}(h:KrI o y z f V A)(q:Fr S A B)(u:∀ b,S b->¬ V b/\o.heap.size<=b):KrI o y z f V B:=by
 obtain⟨C,D,F,I,J,L,N⟩:=h.st;subst N;exact⟨⟨C,D,F,q.heap I (fun g=>(u _ g).1 (.inl rfl)),zG J q (fun b g v=>(u _ v).1 (.inr g)),L,rfl⟩,h.fr.step q (fun b g v=>.inr (u b v).2)⟩
theorem KSt.obj {w w':World}{A f:Nat}{a:Option Addr}{g:Nat}{ds:List Dev}{u:Option Addr}{C D:Nat}{F:Int}{q:Nat}(h:KSt w A f a g ds u C D F)(v:Fr (Is q) w w')(y:∀ cs T J,¬ w.heap[q]?=some (.cells cs T J)):KSt w' A f a g ds u C D F:=by
 obtain⟨L,N,O⟩:=Tr.typ h.tr h.ta h.te v (fun b cs T o z=>absurd (o▸z) (y cs T (0,0)));obtain⟨R,I⟩:=h.own;refine⟨v.heap h.blk (fun e=>y _ _ _ (e▸h.blk)),L,N,O,⟨R,zG I v (fun b o e=>?_)⟩,h.nm⟩;cases u with
 | none=>cases o
 | some U=>
  obtain⟨cs,z⟩:=zAI I U rfl;cases o;exact y _ _ _ (e▸z)
def RemK (w w':World)(kb base:Nat)(ds:List Dev)(n:Int)(en:Nat)(ix:Int):Prop:=
 ∃ a' cap' ds' ev' en' ec',KSt w' kb base a' cap' ds' ev' en' ec' ix/\en'<=en+ds.length/\Cop w w' w.heap.size (remL n ds) ds'
theorem zJi (F D:Nat)(a:Option Addr)(O:Nat)(ds:List Dev)(ev:Option Addr)(en ec:Nat)(ix k:Int)(b9 nm vl:ByteArray)(x d dn:Dev)(w:World)(R:KSt w F D a O ds ev en ec ix)(o0:en<=5000)(hn:ds.length<=256)(J:D<=w.heap.size)(g9:look ds d.index=some dn)(i1:∀ w' f,Cop w w' w.heap.size (remL d.index ds) f->TreeWf f):
  Calls Tryz.prog 50 #[.pointer (some ⟨F,0,none⟩),.agg (ocs k b9 x nm vl),.agg d.vals] w fun e w'=>e=.returned (.int .i64 0)/\RemK w w' F D ds d.index en ix/\Fr (fun b=>b=F\/(Value.slice ev en ec).ownBlock=some b) w w':=by
 obtain⟨ie,l0,l1,l2,l4⟩:=info_parts infoE;refine(callsIn_wide (n:=12)).1 (callsIn_of_wp_marks Tryz.func50 rfl trivial (wpIn_wide.2 ?_));simp only[Tryz.ntmps50,List.size_toArray,List.length_cons,List.length_nil,Nat.reduceAdd,Nat.reduceSub,Array.replicate_succ,Array.replicate_zero,List.push_toArray,List.append_toArray,List.nil_append,List.cons_append];obtain⟨V0,b0⟩:∃ V0,V0=(w.alloc (.cells #[.pointer (some ⟨F,0,none⟩)] 26)).alloc (.cells (ocs k b9 x nm vl) 38):=⟨_,rfl⟩
 obtain⟨W0,b1⟩:∃ W0,W0=(V0.alloc (.cells d.vals 36)).alloc (.cells #[.slice none 0 0] 58):=⟨_,rfl⟩
 have f0:Fr No w V0:=by rw[b0];exact((Fr.refl _ _).alloc _).alloc _
 have a3:V0.heap[w.heap.size]?=some (.cells #[.pointer (some ⟨F,0,none⟩)] 26):=by rw[b0];exact zI _ _ _
 have sV:V0.heap.size=w.heap.size+1+1:=by rw[b0];simp
 have f1:Fr No V0 W0:=by rw[b1];exact((Fr.refl _ _).alloc _).alloc _
 have b3:=f1.heap a3 id;have b5:W0.heap[w.heap.size+1+1]?=some (.cells d.vals 36):=by rw[b1,<-sV];exact zI _ _ _
 have b7:W0.heap[w.heap.size+1+1+1]?=some (.cells #[.slice none 0 0] 58):=by rw[b1,<-sV];exact zL _ _ _
 have hW:Fr No w W0:=f0.step f1 zi;have l5:=R.tr.wf.1.iwf (zAN g9).1;rw[(zAN g9).2]at l5;unfold Dev.vals at b1;unfold ocs at b0;clear f0 a3 sV f1;unfold Dev.vals ocs
 go_upto_region 2 with(fail)
 rw[<-b0,<-b1];clear b0 b1;have HK:=zh R;have l6:=zh i1;have l8:=zC R.blk;have l9:=zC b7;have i2:=hW.heap R.blk id;clear R i1;refine zQ No [(0,false),(1,false),(2,false),(3,false),(4,false),(5,false),(6,true),(7,true)] (by kernel_rfl) (by kernel_rfl) (fun w1 b2=>?_);have c3:=b2.heap b3 id;have c5:=b2.heap b5 id;have c7:=b2.heap b7 id;have ck:=b2.heap i2 id;have t3:∀ g:Gr No w1,g.W.cell? ⟨w.heap.size,0,none⟩=some (.pointer (some ⟨F,0,none⟩)):=fun g=>zB (g.fr.heap c3 id) 0
 have t5:∀ g:Gr No w1,g.W.cell? ⟨w.heap.size+1+1,0,none⟩=some (.int .i64 d.index):=fun g=>zB (g.fr.heap c5 id) 0
 have t0:∀ g:Gr No w1,g.W.cell? ⟨F,0,none⟩=some (.slice a ds.length O):=fun g=>zB (g.fr.heap ck id) 0
 have x1:=hW.step b2 zi;have f2:=zHn a O D ds d.index w1 (HK.out.tr.no x1) hn;clear b3 b5 b7 i2 hW b2
 repeat (apply zS rfl rfl rfl;intro K R;go_big_quiet_op;go_big_quiet_on)
 clear t3 t5 t0;apply zk;exact rfl
 go_wp2_with fail
 refine f2.mono ?_;rintro e w2 ⟨⟨a2,c2,I,rfl,i3,_,f3,h0⟩,a4⟩;have o1:I.length<=256:=by have:=h0.len;have:=zCZ d.index ds (fun _=>false);omega
 have i4:=zh h0;clear f2 h0
 go_wp2_with fail
 refine zf a4 ?_;apply zk;exact rfl
 go_wp2_with fail
 refine(zEZ _ _ _ _).mono ?_;rintro e w3 ⟨rfl,rfl⟩;have b4:Fr No w2 (w2.alloc (.cells #[.slice a2 I.length c2] 46)):=(Fr.refl _ _).alloc _;have db:=zD w2 (.cells #[.slice a2 I.length c2] 46);have e0:=i3.no b4 (fun _=>id);have x3:=(x1.step a4 zi).step b4 zi;have d3:=(a4.step b4 zi).heap c3 id;have d5:=(a4.step b4 zi).heap c5 id;have d7:=(a4.step b4 zi).heap c7 id;have m0:w.heap.size+3<w2.heap.size:=by have:=zC c7;have:=a4.size;omega
 have o2:w2.heap.size<(w2.alloc (.cells #[.slice a2 I.length c2] 46)).heap.size:=by simp
 have a5:∀ o,a2=some o->w.heap.size+3<o.block:=fun o e=>by have:=f3 o e;have:=zC c7;omega
 clear c3 c5 c7 ck i3 a4 b4 x1 f3
 go_wp2_with fail
 refine OnlyN.mk ⟨(Fr.refl No _).alloc _,?_⟩;refine zY ?_;generalize c4:w2.heap.size=B2 at *;generalize w2.alloc (.cells #[.slice a2 I.length c2] 46)=W2 at *
 go_wp2_with fail
 refine(wpIn_wide (n:=12)).1 (zAD (α:=Int×Dev) (T:=fun _=>False) (V0:=Is (w.heap.size+1+1+1)) rfl (by omega) (gf:=144) (lb:=#[.pointer (some ⟨B2,0,none⟩)]) rfl trivial (enters_of Tryz.func144 (by kernel_rfl) rfl) (encs:=fun x:Int×Dev=>#[.int .i64 x.1,.agg x.2.vals]) (fun _=>rfl) (fun b h=>h.elim) (fun b h=>by unfold Is at h;omega)
  (zAs 11 (by omega) B2 a2 c2 I W2 (Is (w.heap.size+1+1+1)) db e0 (by omega) ⟨fun h=>by unfold Is at h;omega,fun o e _ h=>by have:=a5 o e;unfold Is at h;omega⟩)
  (KrI W2 (w.heap.size+1+1+1) (W2.heap.size+2)) (fun _ _ _ h b J=>by
   obtain⟨av,cv,xs,h1,h2,_,rfl⟩:=h.st;rcases J with rfl | J
   ·exact zC h1
   ·exact(zAG h2 J).2)
  (fun s V A B S h hf hS=>h.mv hf (fun b J=>⟨(hS b J).1,(hS b J).2.resolve_left id⟩))
  ⟨⟨none,0,[],d7,World.ownsRow_nil _ _ _ _,EvL.nil,by funext b;unfold Is;simp[Value.ownBlock]⟩,Fr.refl _ _⟩
  (fun y V v W=>∃ Bx,W2.heap.size+2<=Bx/\W.heap[Bx]?=some (.cells y.2.vals 36)/\¬ V Bx/\v={ tmps:=#[.pointer (some ⟨F,0,none⟩),.agg #[.int .i64 k,.string b9,.int .i64 x.index,.int .i64 x.parent,.string x.name,.string x.orig,.string x.sub,.string x.drv,.string x.ali,.int .i64 x.kind,.int .i64 x.num,.slice x.aa x.an x.ac,.string nm,.string vl],.agg #[.int .i64 d.index,.int .i64 d.parent,.string d.name,.string d.orig,.string d.sub,.string d.drv,.string d.ali,.int .i64 d.kind,.int .i64 d.num,.slice d.aa d.an d.ac],.pointer (some ⟨w.heap.size,0,none⟩),.pointer (some ⟨w.heap.size+1,0,none⟩),.pointer (some ⟨w.heap.size+1+1,0,none⟩),.int .i64 0,.pointer (some ⟨w.heap.size+1+1+1,0,none⟩),undef,.pointer (some ⟨Bx,0,none⟩),undef,undef,.pointer (some ⟨F,0,none⟩),.pointer (some ⟨F,0,none⟩),.pointer (some ⟨F,0,none⟩),.agg #[.slice a ds.length O],.pointer (some ⟨w.heap.size+1+1,0,none⟩),.int .i64 d.index,.slice a2 I.length c2,.func (.func 144) #[] #[.pointer (some ⟨B2,0,none⟩)],.int .i64 y.1,.agg y.2.vals,undef,undef,undef,undef,undef,undef,undef,undef,undef,undef,undef,undef,undef,undef,undef,undef,undef,undef,undef,undef,undef,undef,undef,undef,undef,undef,undef],defers:=[] })
  (fun y V v A B h hf=>by obtain⟨Bx,h1,h2,h3,h4⟩:=h;exact⟨Bx,h1,hf.heap h2 (fun e=>by unfold Is at e;omega),h3,h4⟩)
  ?assign ?body ?done)
 case assign=>
  intro l z V y W K hi f4 R;have m3:∀ b,V b->b<W.heap.size:=fun b J=>by
   obtain⟨av,cv,xs,h1,h2,_,rfl⟩:=hi.st;rcases J with rfl | J
   ·exact zC h1
   ·exact(zAG h2 J).2
  have o3:=fun v W' (h1:Fr No W W') h2=>R v W' h1 h2
  clear a5 d3 d5 d7 db e0 x3;unfold Dev.vals
  gi_wp2
  exact R _ _ ((Fr.refl _ _).alloc _) ⟨W.heap.size,f4,zD _ _,fun h=>by have:=m3 _ h;omega,rfl⟩
 case body=>
  rintro l z V y v W hi ⟨Bx,o4,i5,i6,rfl⟩ c6 f4;obtain⟨av,cv,xs,h1,h2,h3,rfl⟩:=hi.st;have i7:=zJM (List.IsPrefix.subset c6 (show y∈z++[y] by simp));have o5:z.length<=256:=by
   have h7:=c6.length_le;rw[zAl]at h7;simp at h7;omega
  obtain⟨d0,i8,i9⟩:=i4.out.mem i7;have j0:(Lit.int .i64 y.2.index).wf=true:=by
   rw[i9.eq];show (Lit.int .i64 d0.index).wf=true
   exact HK.out.tr.wf.1.iwf (zD3 i8)
  have m4:=x3.size;have fw:Fr (From w.heap.size) w W:=(x3.mono zn).step hi.fr (fun b J h=>by unfold From;omega);have ek:=fw.heap HK.out.blk (fun h=>by unfold From at h;omega);have j1:=HK.out.tr.keep fw (fun b J _ h=>by unfold From at h;omega);have e3:=hi.fr.heap d3 (fun h=>by have:=zC d3;omega);have HI:=zh hi.fr;clear hi c6 i7 i8 i9 a5 d3 d5 d7 db e0 x3 fw;dsimp only at i6;dsimp only
  gi_upto_region 4 with(fail)
  refine zBk 7 (fun b=>(Value.slice av z.length cv).ownBlock=some b) (.q 0 (.q 1 (.q 2 (.q 3 (.m1 4 (.m1 5 (.m1 6 (.m1 7 .fin)))))))) _ (by kernel_rfl) (by kernel_rfl) (fun W3 N=>?_) zj;have s3:=N.size;have k7:=N.heap h1 id;have a6:=zG h2 N (fun _ _=>id);have n7:=zR a6 k7 (by decide);have nx:¬ (Value.slice av z.length cv).ownBlock=some Bx:=fun h=>i6 (.inr h)
  have g3:=N.heap e3 id;have n3:=zR a6 g3 (by decide);have t7:∀ g:Gr (fun b=>(Value.slice av z.length cv).ownBlock=some b) W3,g.W.cell? ⟨w.heap.size+1+1+1,0,none⟩=some (.slice av z.length cv):=fun g=>zB (g.fr.heap k7 n7) 0
  have t3:∀ g:Gr (fun b=>(Value.slice av z.length cv).ownBlock=some b) W3,g.W.cell? ⟨w.heap.size,0,none⟩=some (.pointer (some ⟨F,0,none⟩)):=fun g=>zB (g.fr.heap g3 n3) 0
  have tx:∀ g:Gr (fun b=>(Value.slice av z.length cv).ownBlock=some b) W3,g.W.cell? ⟨Bx,0,none⟩=some (.int .i64 y.2.index):=fun g=>zB (g.fr.heap (N.heap i5 id) nx) 0
  have j2:=zIR F a O D ds ev en ec ix 2 y.2.index W3 (N.heap ek id) (j1.no N) (by omega) j0 HK.out.nm;have m5:=zh N;clear i5 h1 h2 ek j1 e3 g3 N j0
  repeat (apply tx_q rfl rfl rfl;intro K R;go_big_quiet_op;go_big_quiet_on)
  clear t7 t3 tx n3 nx;apply zBd;exact rfl
  go_wp2_with fail
  refine j2.mono ?_;rintro e W4 ⟨⟨sp,rfl⟩,b6⟩;clear j2;have s4:=b6.size;have f5:=zG a6 b6 (fun _ _=>id);have al:=(Fr.refl No W4).alloc (.cells #[.int .i64 0,.int .i64 2,.int .i64 y.2.index,.string sp,.string ⟨#[]⟩] 104);have a7:=zG f5 al (fun _ _=>id);have k5:=al.heap (b6.heap k7 id) id;have j3:=zh al;have m6:=zh (m5.out.step b6 zi);clear a6 f5 k7 al
  go_wp2_with fail
  refine OnlyN.mk ⟨fun _=>b6.mono zn,?_⟩;clear b6;apply zBd;exact rfl
  go_wp2_with fail
  refine OnlyN.mk ⟨fun _=>j3.out.mono zn,?_⟩;apply zBd;exact rfl
  go_wp2_with (at_builtin;refine wpList_append_own_at _ rfl _ _ 58 rfl (W2.heap.size+2) 104 ie (.agg #[.int .i64 0,.int .i64 0,.int .i64 0,.string ByteArray.empty,.string ByteArray.empty]) 5 56 Tryz.underlying58 l0 l1 l2 l4 rfl (by decide) _ _ _ rfl a7 ⟨W4.heap.size,0,none⟩ 1 1 [.int .i64 0,.int .i64 2,.int .i64 y.2.index,.string sp,.string ⟨#[]⟩] rfl rfl (ze _ #[.int .i64 0,.int .i64 2,.int .i64 y.2.index,.string sp,.string ⟨#[]⟩] _ rfl) (fun u hu=>by simp at hu;rcases hu with rfl | rfl | rfl | rfl | rfl<;>rfl) (by unfold maxLen;omega) (by omega) (by rw[World.size_alloc];omega) ?_;intro v' w6 a8 j4 _ m7;obtain⟨e1,e2,rfl⟩:=zJ a8)
  have gf:Fr (fun b=>(Value.slice av z.length cv).ownBlock=some b) (W4.alloc (.cells #[.int .i64 0,.int .i64 2,.int .i64 y.2.index,.string sp,.string ⟨#[]⟩] 104)) w6:=Fr.of_grown j4;refine zf gf ?_;have k6:=gf.heap k5 n7;have n6:=zR a8 k6 (by decide);have t7:w6.cell? ⟨w.heap.size+1+1+1,0,none⟩=some (.slice av z.length cv):=zB k6 0;have f7:w6.frozen? ⟨w.heap.size+1+1+1,0,none⟩=false:=zE k6 0;have x8:Fr (Is (w.heap.size+1+1+1)) w6 (w6.setCell ⟨w.heap.size+1+1+1,0,none⟩ (.slice e1 (z.length+1) e2)):=Fr.setAt (Fr.refl _ _) _;have k8:=zF k6 0 (.slice e1 (z.length+1) e2);have c8:=zG a8 x8 (fun b J h=>n6 (by unfold Is at h;rw[<-h];exact J));have ff:Fr (fun b=>b=w.heap.size+1+1+1\/(Value.slice av z.length cv).ownBlock=some b) W _:=(((m6.out.step j3.out zi).mono zn).step gf (fun b _ h=>.inr h)).step x8 (fun b _ h=>.inl h);have HR:=zh (And.intro k8 (And.intro c8 (And.intro ff (h3.snoc a7.1 0 2 y.2.index sp ⟨#[]⟩))));have HO:Hid (∀ b,(Value.slice e1 (z.length+1) e2).ownBlock=some b->W2.heap.size+2<=b):=fun b h=>(zAG c8 h).1
  have m8:Hid (∀ b,(Value.slice av z.length cv).ownBlock=some b->W2.heap.size+2<=b):=fun b h=>(zAG a7 h).1
  clear a7 a8 c8 j4 gf k5 k6 k8 x8 ff n6 n7 m7;apply zBd;exact rfl
  go_wp2_with fail
  refine OnlyN.mk ⟨fun h=>(h rfl).elim,?_⟩;refine zF5 ?_;refine⟨_,?_,⟨⟨e1,e2,_,by rw[List.length_append];exact HR.out.1,by rw[List.length_append];exact HR.out.2.1,by rw[List.length_append];exact HR.out.2.2.2,rfl⟩,HI.out.step HR.out.2.2.1 (fun b J h=>?_)⟩,HR.out.2.2.1⟩
  ·rintro b (h | h)
   ·exact .inl (.inl h)
   ·rw[List.length_append]at h;exact .inr (HO.out b h)
  ·rcases h with h | h
   ·exact .inl h
   ·exact .inr (by have:=m8.out b h;omega)
 case done=>
  rintro V W hi R h5;obtain⟨av,cv,xs,h1,h2,h3,h6⟩:=hi.st;have j5:(revR I).length=I.length:=zAl I;rw[j5]at h1 h2 h3 h6;rw[h6]at h5;have m4:=x3.size;have FW:Fr No w W:=(x3.step hi.fr (fun b J h=>by omega))
  have ek:=FW.heap HK.out.blk id;have e3:=hi.fr.heap d3 (fun h=>by have:=zC d3;omega);have e5:=hi.fr.heap d5 (fun h=>by have:=zC d5;omega);have f6:=fun (W':World) (hf:Fr No W W')=>zF6 a O D ds d.index dn W' (HK.out.tr.no (FW.step hf zi)) hn g9
  have f8:=zh f6;have HW:=zh (And.intro FW (And.intro h1 (And.intro h2 (And.intro h3 R))));have o6:=zh h5;have g0:Hid (∀ y∈remL d.index ds,∃ l,Atts W y.aa y.ac l/\y.an=l.length):=fun y hy=>by
   obtain⟨l',g1,g2,_⟩:=(HK.out.tr.el y (List.mem_filter.1 hy).1).att;exact⟨l',g1.no FW (fun _=>id),g2⟩
  clear hi h1 h2 h3 h6 h5 R f6 FW a5 d3 d5 d7 db e0 x3 j5 l9 m0
  go_upto_region 5 with(fail)
  go_cut [10,11]from 29 (fun m9 n0 wy=>∃ Bt v c' f,m9=.pointer (some ⟨Bt,0,none⟩)/\n0=.int .i64 0/\Hid (wy.heap[Bt]?=some (.cells #[.slice v (List.length f) c'] 48)/\W.heap.size<=Bt)/\Hid (Devs wy v c' f/\BlkT wy v 36/\(∀ o,v=some o->W.heap.size<=o.block)/\Cop W wy W.heap.size (remL d.index ds) f)/\Fr No W wy)
  case first=>
   refine zb (fun b=>W.heap.size<=b) (.q 0 (.q 1 (.q 2 (.q 3 (.q 4 (.q 5 (.m2 6 (.q 7 (.q 8 (.q 9 (.m1 10 (.m1 11 (.q 12 .fin)))))) 10 (.m1 6 (.q 7 (.q 8 (.q 9 (.m1 11 (.q 12 .fin))))))))))))) _ (by kernel_rfl) (by kernel_rfl) (fun W8 C=>?_) zj;have s8:=C.size;have t3:∀ g:Gr (fun b=>W.heap.size<=b) W8,g.W.cell? ⟨w.heap.size,0,none⟩=some (.pointer (some ⟨F,0,none⟩)):=fun g=>zB (g.fr.heap (C.heap e3 id) (fun h=>by have:=zC e3;omega)) 0
   have t5:∀ g:Gr (fun b=>W.heap.size<=b) W8,g.W.cell? ⟨w.heap.size+1+1,0,none⟩=some (.int .i64 d.index):=fun g=>zB (g.fr.heap (C.heap e5 id) (fun h=>by have:=zC e5;omega)) 0
   have t0:∀ g:Gr (fun b=>W.heap.size<=b) W8,g.W.cell? ⟨F,0,none⟩=some (.slice a ds.length O):=fun g=>zB (g.fr.heap (C.heap ek id) (fun h=>by have:=zC ek;omega)) 0
   have b8:=zh C;clear C
   repeat (apply zM rfl rfl rfl;intro K R;go_big_quiet_op;go_big_quiet_on)
   clear t3 t5 t0;refine zv rfl rfl ?_ ?_
   focus
    go_wp2_with fail
    refine(f8.out W8 b8.out).mono ?_;rintro e w9 ⟨⟨v,c',f,rfl,hD,c9,U,X⟩,e4⟩;have s9:=e4.size;have HR:=zh (And.intro hD (And.intro c9 (And.intro U X)));clear hD c9 U X
    go_wp2_with fail
    refine zm e4 ?_
    repeat (apply zM rfl rfl rfl;intro K R;go_big_quiet_op;go_big_quiet_on)
    apply zH;exact rfl;obtain⟨L,e6⟩:∃ L,L=w9.alloc (.cells #[.slice none 0 0] 48):=⟨_,rfl⟩
    have fA:Fr No w9 L:=by rw[e6];exact(Fr.refl _ _).alloc _
    have qA:L.heap[w9.heap.size]?=some (.cells #[.slice none 0 0] 48):=by rw[e6];exact zD _ _
    go_wp2_with fail
    refine zp ?_;rw[<-e6];clear e6;have HT:Hid (Devs L v c' f/\BlkT L v 36/\(∀ o,v=some o->W.heap.size<=o.block)/\Cop W L W.heap.size (remL d.index ds) f):=⟨HR.out.1.no fA (fun _=>id),HR.out.2.1.fr fA (fun _ _=>id),fun o e=>by have:=HR.out.2.2.1 o e;omega,(HR.out.2.2.2.src b8.out g0.out s8).fr fA (fun _ _ _ _=>id)⟩
    have g4:Hid (Fr No W L):=(b8.out.step e4 zi).step fA zi;have c4:Hid (W.heap.size<=w9.heap.size):=by unfold Hid;omega
    clear HR fA e4 s9;generalize w9.heap.size=Bt at *
   rotate_left 1
   focus
    obtain⟨W9,e7⟩:∃ W9,W9=W8.alloc (.cells #[.slice none 0 0] 48):=⟨_,rfl⟩
    have f9:Fr No W8 W9:=by rw[e7];exact(Fr.refl _ _).alloc _
    have q9:W9.heap[W8.heap.size]?=some (.cells #[.slice none 0 0] 48):=by rw[e7];exact zD _ _
    go_wp2_with fail
    refine zp ?_;rw[<-e7];clear e7;apply zH;exact rfl
    go_wp2_with fail
    refine(f8.out W9 (b8.out.step f9 zi)).mono ?_;rintro e L ⟨⟨v,c',f,rfl,hD,c9,U,X⟩,e8⟩;have s9:=f9.size;have qA:=e8.heap q9 id;have HT:Hid (Devs L v c' f/\BlkT L v 36/\(∀ o,v=some o->W.heap.size<=o.block)/\Cop W L W.heap.size (remL d.index ds) f):=⟨hD,c9,fun o e=>by have:=U o e;omega,X.src (b8.out.step f9 zi) g0.out (by omega)⟩
    have g4:Hid (Fr No W L):=(b8.out.step f9 zi).step e8 zi;have c4:Hid (W.heap.size<=W8.heap.size):=s8;clear hD c9 U X q9
    go_wp2_with fail
    refine zm e8 ?_
    repeat (apply zM rfl rfl rfl;intro K R;go_big_quiet_op;go_big_quiet_on)
    clear f9 e8 s9;generalize W8.heap.size=Bt at *
   all_goals (
    apply zH;exact rfl;have y0:=zE qA 0;have z0:L.cell? ⟨Bt,0,none⟩=some (.slice none 0 0):=zB qA 0;have fB:Fr (Is Bt) L (L.setCell ⟨Bt,0,none⟩ (.slice v f.length c')):=Fr.setAt (Fr.refl _ _) _;have qB:=zF qA 0 (.slice v f.length c');have n1:=BlkT.ne_blk HT.out.2.1 qA (by decide);have HU:Hid (Devs (L.setCell ⟨Bt,0,none⟩ (.slice v f.length c')) v c' f/\BlkT (L.setCell ⟨Bt,0,none⟩ (.slice v f.length c')) v 36/\(∀ o,v=some o->W.heap.size<=o.block)/\Cop W (L.setCell ⟨Bt,0,none⟩ (.slice v f.length c')) W.heap.size (remL d.index ds) f):=
     ⟨HT.out.1.fr fB (fun o e _=>n1 o e),HT.out.2.1.fr fB n1,HT.out.2.2.1,HT.out.2.2.2.fr fB (fun d hd=>by
      obtain⟨y,_,hy⟩:=HT.out.2.2.2.mem hd;exact BlkT.ne_blk hy.typ qA (by decide))⟩
    have n2:Hid (Fr No W (L.setCell ⟨Bt,0,none⟩ (.slice v f.length c'))):=g4.out.step fB (fun b J h=>by have:=c4.out;unfold Is at h;omega);have n4:=zh qB;clear qB fB n1 qA
    go_wp2_with fail
    refine OnlyN.mk ⟨Fr.setCell (Fr.refl _ _) (fun _=>c4.out) _,?_⟩
    repeat (apply zM rfl rfl rfl;intro K R;go_big_quiet_op;go_big_quiet_on)
    refine zX ?_
    go_wp2_with fail
    go_meet
    exact⟨Bt,v,c',f,rfl,rfl,⟨n4.out,c4.out⟩,HU,n2.out⟩
    )
  case rest=>
   obtain⟨Bt,v,c',f,rfl,rfl,j6,HU,C⟩:=hcut;have o7:F<w.heap.size:=l8;have k8:=C.heap ek id;have g3:=zB (C.heap e3 id) 0;have gB:=zB j6.out.1 0;have g7:=C.heap HW.out.2.1 id;have gd:=C.heap HW.out.2.2.2.2 id;have sW:=HW.out.1.size;have l3:=zC e3;have l7:=zC HW.out.2.1;have ld:=zC HW.out.2.2.2.2;have y0:=zE k8 0;have z0:wc.cell? ⟨F,0,none⟩=some (.slice a ds.length O):=zB k8 0;have f9:Fr (Is F) wc (wc.setCell ⟨F,0,none⟩ (.slice v f.length c')):=Fr.setAt (Fr.refl _ _) _;have k9:(wc.setCell ⟨F,0,none⟩ (.slice v f.length c')).heap[F]?=some (.cells (kcs v f.length c' ev en ec ix) 60):=zF k8 0 _;obtain⟨xk,e9⟩:=HK.out.own;have d1:=zG e9 (HW.out.1.step C zi) (fun _ _=>id);have nk:=zR d1 k8 (by decide);have d2:=zG d1 f9 (fun b J h=>by unfold Is at h;subst h;exact nk J);have j7:=(((Evs.of_own HW.out.2.2.1 HW.out.2.2.2.1).fr C (fun _ _=>id)).fr f9 (fun o e h=>by
    have:=(zAG HW.out.2.2.1 (b:=o.block) (by rw[e];rfl)).1;unfold Is at h;omega))
   have H9:=zh (And.intro (f9.heap g7 (fun h=>by unfold Is at h;omega)) (And.intro (f9.heap gd (fun h=>by unfold Is at h;omega)) f9));have HB:=zh C;have n5:=(f9.cell g3 (fun h=>by unfold Is at h;dsimp only at h;omega))
   go_upto_region 9 with(fail)
   generalize wc.setCell ⟨F,0,none⟩ (.slice v f.length c')=W9 at *;have s9:w.heap.size<=W9.heap.size:=by have:=H9.out.2.2.size;have:=HB.out.size;omega
   have n8:=zB H9.out.1 0;have j8:=zIS F D v f.length c' ev en ec ix av I.length cv xs xk W9 k9 d2 (by omega) (by omega) j7 (by omega) (fun o e=>by
    have h1:=(zAG HW.out.2.2.1 (b:=o.block) (by rw[e];rfl)).1;exact⟨by omega,fun h=>by have:=(zAG e9 h).2;omega⟩)
   have HX:=zh (And.intro e9 (And.intro k9 d2));clear k8 g3 gB g7 gd y0 z0 f9 k9 e9 d1 d2 j7 C j6 ek e3 e5
   go_wp2_with fail
   refine j8.mono ?_;rintro e h8 ⟨rfl,⟨j9,k0,n9,k1,d4⟩,Y⟩;clear j8 n5 n8;have g5:∀ b,(Value.slice ev en ec).ownBlock=some b->b<w.heap.size:=fun b h=>(zAG HX.out.1 h).2
   have hS:∀ b cs T,(b=F\/(Value.slice ev en ec).ownBlock=some b)->W9.heap[b]?=some (.cells cs T (0,0))->T≠36/\T≠76:=by
    intro b cs T h hc;rcases h with rfl | h
    ·rw[HX.out.2.1]at hc;cases hc;exact⟨by decide,by decide⟩
    ·by_cases hT:T=104
     ·subst hT;exact⟨by decide,by decide⟩
     ·exact absurd h (zR HX.out.2.2 hc hT)
   have h9:∀ o:Addr,W.heap.size<=o.block->¬ Is F o.block:=fun o h e=>by unfold Is at e;omega
   have C9:Cop W W9 W.heap.size (remL d.index ds) f:=HU.out.2.2.2.fr H9.out.2.2 (fun x Z o e=>by
    obtain⟨y,_,hy⟩:=HU.out.2.2.2.mem Z;exact h9 o (hy.fresh o e))
   have d6:Cop w W9 w.heap.size (remL d.index ds) f:=C9.src HW.out.1 (fun x Z=>by
    obtain⟨l',g1,g2,_⟩:=(HK.out.tr.el x (List.mem_filter.1 Z).1).att;exact⟨l',g1,g2⟩) sW
   have g6:Tr W9 D v c' f:=d6.tr (fun x Z=>⟨(HK.out.tr.el x (List.mem_filter.1 Z).1).sz,(HK.out.tr.el x (List.mem_filter.1 Z).1).drv⟩) (HU.out.1.fr H9.out.2.2 (fun o e _=>h9 o (HU.out.2.2.1 o e))) (l6.out _ _ d6) (fun o e=>by have:=HU.out.2.2.1 o e;omega) J;have g8:∀ x∈f,BlkT W9 x.aa 76:=fun x Z=>by
    obtain⟨y,_,hy⟩:=d6.mem Z;exact hy.typ
   obtain⟨g1,g2,g3⟩:=Tr.typ g6 (HU.out.2.1.fr H9.out.2.2 (fun o e=>h9 o (HU.out.2.2.1 o e))) g8 Y hS;have i0:=C9.fr Y (fun x Z o e h=>by
    obtain⟨y,_,hy⟩:=C9.mem Z;have:=hy.fresh o e;rcases h with h | h
    ·omega
    ·have:=g5 _ h;omega)
   have d8:=Y.heap H9.out.2.1 (fun h=>by
    rcases h with h | h
    ·omega
    ·have:=g5 _ h;omega)
   have a9:Fr (Is W2.heap.size) h8 (h8.putObj W2.heap.size (.deferred none)):=Fr.putObj _ _ _ rfl;have KS:KSt h8 F D v c' f j9 (en+I.length) k0 ix:=⟨k1,g1,g2,g3,⟨n9,d4⟩,d6.names (fun x Z=>HK.out.nm x (List.mem_filter.1 Z).1)⟩
   have k2:=KS.obj a9 (fun cs T fz h=>by rw[d8]at h;cases h);have k3:=(i0.fr a9 (fun x Z o e h=>by
    obtain⟨y,_,hy⟩:=i0.mem Z;have:=hy.fresh o e;unfold Is at h;omega)).src HW.out.1 (fun x Z=>by
    obtain⟨l',g1,g2,_⟩:=(HK.out.tr.el x (List.mem_filter.1 Z).1).att;exact⟨l',g1,g2⟩) sW
   have o8:I.length<=ds.length:=by have:=i4.out.len;have:=zCZ d.index ds (fun _=>false);omega
   have d9:=zh (And.intro k2 (And.intro k3 (((((HW.out.1.step HB.out zi).mono (T:=fun b=>b=F\/(Value.slice ev en ec).ownBlock=some b) zn).step H9.out.2.2 (fun b _ h=>.inl h)).step Y zi).step a9 (fun b J h=>by unfold Is at h;omega))));have k4:=zh d8;clear hS C9 d6 g6 g8 g1 g2 g3 i0 d8 a9 KS k2 k3 k1 d4 Y
   go_wp2_with fail
   refine⟨by simp,.inl ⟨_,_,rfl,run_takeDeferred k4.out,?_⟩⟩;exact⟨.int .i64 0,by simp[results,Tryz.results50,go_sem],rfl,⟨v,c',f,j9,_,k0,d9.out.1,by omega,d9.out.2.1⟩,d9.out.2.2⟩
end Go.Proofs.YtinfjnndbfahhaaGreatDoor
