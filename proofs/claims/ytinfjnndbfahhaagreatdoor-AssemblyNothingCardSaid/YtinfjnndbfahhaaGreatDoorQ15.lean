import Derived.Test.YtinfjnndbfahhaaGreatDoorQ10
import Derived.Test.YtinfjnndbfahhaaGreatDoorQ14
namespace Go.Proofs.YtinfjnndbfahhaaGreatDoor
open Go.RowKit Go.Maps
set_option linter.unusedVariables false
set_option maxRecDepth 100000
set_option maxHeartbeats 4000000
section
variable {P:Program}{ops:Array Oper}{Q:Exit->Act->World->Prop}{md:Region.Mode}{S S':World->Prop}{n:Nat}
def wpAnyX (P:Program)(md:Region.Mode)(ops:Array Oper)(Q:Exit->Act->World->Prop)(S:World->Prop)(n:Nat):Nat->Array Bool->Act->World->Prop
 | 0,listed,a,w=>Region.ready md ops listed=[]/\Q .normal a w
 | fuel+1,listed,a,w=>(Region.ready md ops listed=[]->Q .normal a w)/\
  ∀ i∈Region.ready md ops listed,wpOp P ops Q i (fun a' w'=>(i≠n->S w')/\wpAnyX P md ops Q S n fuel (listed.setIfInBounds i true) a' w') a w
theorem zCF : ∀ (fuel:Nat) (f:Array Bool) (a:Act) (w:World),wpAnyX P md ops Q S n fuel f a w->wpAny P md ops Q fuel f a w
 | 0,_,_,_,h=>h
 | fuel+1,_,_,_,h=>⟨h.1,fun i g=>wpOp_mono (fun o w' q=>zCF fuel _ o w' q.2) (h.2 i g)⟩
theorem zCC (h:∀ W,S W->S' W):∀ (fuel:Nat) (f:Array Bool) (a:Act) (w:World),wpAnyX P md ops Q S n fuel f a w->wpAnyX P md ops Q S' n fuel f a w
 | 0,_,_,_,g=>g
 | fuel+1,_,_,_,g=>⟨g.1,fun i q=>wpOp_mono (fun u w' o=>⟨fun e=>h _ (o.1 e),zCC h fuel _ u w' o.2⟩) (g.2 i q)⟩
theorem zCR {i:Nat}{F:Oper}{v:Value}(hi:ops[i]?=some F)(A:∀ (j:Nat) (o:Oper) cs b,ops[j]?=some o->o.op≠.select cs b)
  (hQ:∀ c a w,Q (.panic c) (a.put F.dst v) w->Q (.panic c) a w) (hn:∃ o,ops[n]?=some o/\∃ e∈o.after,Region.binds md e=true/\e.on=i):
  ∀ (g:Nat) (f:Array Bool) (a:Act) (w:World),
   (∀ j I,ops[j]?=some I->j≠i->f.getD j true=false->(∀ e∈I.after,Region.binds md e=true->e.on≠i)->F.apart ops I=true)->
   i∈Region.ready md ops f->YieldsIf P ops S F v a->S w->
   wpAnyX P md ops Q S n g (f.setIfInBounds i true) (a.put F.dst v) w->wpAnyX P md ops Q S n (g+1) f a w:=by
 intro g
 induction g with
 | zero=>
  intro f a w _ J Y O H;refine⟨fun h=>(by rw[h]at J;cases J),fun j Z=>?_⟩;by_cases q:j=i
  ·subst q;exact Y.wpOp hi O ⟨fun _=>O,H⟩
  ·have:=ready_mono Z q;rw[H.1]at this;cases this
 | succ g ih=>
  intro f a w u J Y O H;refine⟨fun h=>(by rw[h]at J;cases J),fun j Z=>?_⟩;by_cases q:j=i
  ·subst q;exact Y.wpOp hi O ⟨fun _=>O,H⟩
  ·have L:=H.2 j (ready_mono Z q);obtain⟨C,I,y,R⟩:=mem_ready.1 Z;have D:∀ e∈I.after,Region.binds md e=true->e.on≠i:=fun e he hb a2=>by
    have L:=R e he hb;have h0:=(mem_ready.1 J).1;rw[a2]at L;rcases Nat.lt_or_ge i f.size with h' | h'
    ·simp[h']at h0 L;rw[h0]at L;cases L
    ·simp[Array.getElem?_eq_none h']at L
   have a3:j≠n:=fun e=>by
    obtain⟨o,h2,d,N,h4,h5⟩:=hn;rw[e,h2]at y;cases y;exact D d N h4 h5
   have h2:=wpOp_putIf y (u j I y q C D) (fun cs b=>A i F cs b hi) (fun cs b=>A j I cs b y) hQ Y L;have z:∀ k U,ops[k]?=some U->k≠i->(f.setIfInBounds j true).getD k true=false->
     (∀ e∈U.after,Region.binds md e=true->e.on≠i)->F.apart ops U=true:=fun k U hk a4 V a5=>by
    refine u k U hk a4 ?_ a5;by_cases X:j=k
    ·subst X;exact C
    ·rw[getD_set_ne true X]at V;exact V
   refine wpOp_mono (fun a' w' N=>⟨N.2.1,ih (f.setIfInBounds j true) a' w' z (ready_mono J (Ne.symm q)) N.1 (N.2.1 a3) ?_⟩) h2;rw[Array.setIfInBounds_comm _ _ q];exact N.2.2
end
def onLast (ops:Array Oper)(n i:Nat):Bool:=match ops[n]? with | none=>false | some o=>o.after.any fun e=>Region.binds .any e&&e.on==i
theorem zC1 {f:Array Oper}{n i:Nat}(h:onLast f n i=true):∃ o,f[n]?=some o/\∃ e∈o.after,Region.binds .any e=true/\e.on=i:=by
 unfold onLast at h;split at h
 ·cases h
 ·rename_i o g;simp only[Array.any_eq_true,Bool.and_eq_true,beq_iff_eq]at h;obtain⟨k,q,u,v⟩:=h;exact⟨o,g,_,Array.getElem_mem q,u,v⟩
def schedX (ops:Array Oper)(n:Nat):Sg->Array Bool->Bool
 | .fin,listed=>(Region.ready .any ops listed).isEmpty
 | .q i s,listed=>(Region.ready .any ops listed).contains i&&Region.free .any ops listed i&&onLast ops n i&&schedX ops n s (listed.setIfInBounds i true)
 | .m1 i s,listed=>(Region.ready .any ops listed==[i])&&(i != n||s.size==0)&&schedX ops n s (listed.setIfInBounds i true)
 | .m2 i s j s',listed=>(Region.ready .any ops listed==[i,j])&&i != n&&j != n&&(s'.size==s.size)&&schedX ops n s (listed.setIfInBounds i true)&&schedX ops n s' (listed.setIfInBounds j true)
 | .m3 ..,_=>false
def wpMx (P:Program)(l:List Oper)(T:Nat->Prop)(n i:Nat)(K:Act->World->Prop)(a:Act)(w:World):Prop:=
 match nth l i with
 | none=>False
 | some o=>wpList P l.toArray (OnlyN fun a' w'=>(i≠n->Fr T w w')/\K a' w') [o] a w
def wpSx (P:Program)(l:List Oper)(M:Act->World->Prop)(T:Nat->Prop)(n:Nat):Sg->Act->World->Prop
 | .fin,a,w=>M a w
 | .q i s,a,w=>match nth l i with
  | none=>False
  | some o=>zAo o.op=true/\(if Region.wanted o (yielded l.toArray a.tmps)=true then ∃ v,zFL P o a (Cls T w) v/\wpSx P l M T n s (a.put o.dst v) w else wpSx P l M T n s (a.put o.dst undef) w)
 | .m1 i s,a,w=>wpMx P l T n i (wpSx P l M T n s) a w
 | .m2 i s j s',a,w=>wpMx P l T n i (wpSx P l M T n s) a w/\wpMx P l T n j (wpSx P l M T n s') a w
 | .m3 ..,_,_=>False
section
variable {P:Program}{M:Act->World->Prop}
theorem zFe {l:List Oper}{T:Nat->Prop}{n i:Nat}{K:Act->World->Prop}{g:Nat}{f:Array Bool}{a:Act}{w:World}(h:wpMx P l T n i K a w)
  (y:∀ q w',K q w'->(i≠n->Fr T w w')->wpAnyX P .any l.toArray (OnlyN M) (Fr T w) n g (f.setIfInBounds i true) q w'):
  wpOp P l.toArray (OnlyN M) i (fun q w'=>(i≠n->Fr T w w')/\wpAnyX P .any l.toArray (OnlyN M) (Fr T w) n g (f.setIfInBounds i true) q w') a w:=by
 unfold wpMx at h;cases ho':nth l i with
 | none=>rw[ho']at h;exact h.elim
 | some o=>
  rw[ho']at h;dsimp only at h;have z:l.toArray[i]?=some o:=by rw[List.getElem?_toArray,<-zDj];exact ho'
  unfold wpOp;simp only[z];unfold wpList at h;split
  ·rename_i u;rw[if_pos u]at h;rcases h with h | ⟨_,h⟩
   ·exact .inl (Oper.wp_mono (fun q w' v=>⟨v.1,y _ _ v.2 v.1⟩) (zFO h))
   ·obtain⟨_,_,h⟩:=h;exact h.elim
  ·rename_i u;rw[if_neg u]at h;exact⟨h.1,y _ _ h.2 h.1⟩
theorem zI2 {l:List Oper}{T:Nat->Prop}{n:Nat}{f:Array Bool}{a:Act}{w:World}(o:Region.ready .any l.toArray f=[])(h:M a w):∀ g,wpAnyX P .any l.toArray (OnlyN M) (Fr T w) n g f a w
 | 0=>⟨o,h⟩
 | _+1=>⟨fun _=>h,by rw[o];simp⟩
theorem anyTX {l:List Oper}{T:Nat->Prop}{n:Nat}(A:Region.noSelect l.toArray=true):∀ (σ:Sg) (f:Array Bool) (a:Act) (w:World),
  schedX l.toArray n σ f=true->wpSx P l M T n σ a w->wpAnyX P .any l.toArray (OnlyN M) (Fr T w) n σ.size f a w
 | .fin,f,a,w,u,h=>zI2 (by simpa [schedX]using u) h 0
 | .q i s,f,a,w,u,h=>by
  simp only[schedX,Bool.and_eq_true]at u;obtain⟨⟨⟨y,z⟩,V⟩,g⟩:=u;simp only[wpSx]at h;cases hn:nth l i with
  | none=>rw[hn]at h;exact h.elim
  | some o=>
   rw[hn]at h;have J:l.toArray[i]?=some o:=by rw[List.getElem?_toArray,<-zDj];exact hn
   obtain⟨hv,h⟩:=h;split at h
   ·rename_i N;obtain⟨v,X,h⟩:=h;exact zCR J (Region.noSelect_spec A) (fun _ _ _ h=>h.elim) (zC1 V) _ _ _ _ (Region.free_spec J z) (by simpa using y) (.inl ⟨N,fun W C=>X W ⟨⟨W,C⟩,rfl⟩⟩) (Fr.refl _ _) (anyTX A s _ _ w g h)
   ·rename_i N;exact zCR J (Region.noSelect_spec A) (fun _ _ _ h=>h.elim) (zC1 V) _ _ _ _ (Region.free_spec J z) (by simpa using y) (.inr ⟨by simpa using N,rfl⟩) (Fr.refl _ _) (anyTX A s _ _ w g h)
 | .m1 i s,f,a,w,u,h=>by
  simp only[schedX,Bool.and_eq_true,beq_iff_eq]at u;obtain⟨⟨y,O⟩,g⟩:=u;refine⟨fun F=>(by rw[y]at F;cases F),fun j L=>?_⟩;rw[y]at L;obtain rfl:j=i:=by simpa using L
  refine zFe h (fun I w' D z=>?_);by_cases e:j=n
  ·cases s with
   | fin=>exact⟨by simpa [schedX]using g,D⟩
   | _=>simp[e,Sg.size]at O
  ·exact zCC (fun W C=>(z e).step C zi) _ _ _ _ (anyTX A s _ I w' g D)
 | .m2 i s j Y,f,a,w,u,h=>by
  simp only[schedX,Bool.and_eq_true,beq_iff_eq,bne_iff_ne]at u;obtain⟨⟨⟨⟨⟨y,Z⟩,L⟩,O⟩,g⟩,R⟩:=u;refine⟨fun F=>(by rw[y]at F;cases F),fun x U=>?_⟩;rw[y]at U;simp only[List.mem_cons,List.not_mem_nil,or_false]at U;by_cases e:x=i
  ·subst e;exact zFe h.1 (fun I w' D z=>zCC (fun W C=>(z Z).step C zi) _ _ _ _ (anyTX A s _ I w' g D))
  ·obtain rfl:x=j:=U.resolve_left e;refine zFe h.2 (fun I w' D z=>?_);have:=anyTX A Y _ I w' R D;rw[O]at this;exact zCC (fun W C=>(z L).step C zi) _ _ _ _ this
end
section
variable {P:Program}{M:Act->World->Prop}{T:Nat->Prop}{l:List Oper}{σ σ':Sg}{a:Act}{w:World}{n:Nat}
theorem zJN {u:Nat}{Q:Exit->Act->World->Prop}(n:Nat)(T:Nat->Prop)(σ:Sg)(M:Act->World->Prop)(v:P.follows .mixedOrders=true)
  (f:(Region.noSelect l.toArray&&(σ.size==l.length)&&schedX l.toArray n σ (Array.replicate l.toArray.size false))=true)
  (h:∀ g,Fr No w g->wpSx P l M T n σ a g) (y:∀ o w',M o w'->Q .normal o w'):(Code.region u l.toArray true).wp P Q a w:=by
 simp only[Bool.and_eq_true,beq_iff_eq]at f;have q:=anyTX (M:=M) f.1.1 σ _ a w.drew f.2 (h _ ((Fr.refl No w).drew));have z:l.toArray.size=σ.size:=by simp[f.1.2]
 rw[<-z]at q;refine wp_mono (wp_region_any v (zCF _ _ _ _ q)) fun e a w h=>?_
 cases e<;>first | exact y _ _ h | exact h.elim
theorem zBk {r m:Nat}{A:Nat}{Q:Exit->Act->World->Prop}(n:Nat)(T:Nat->Prop)(σ:Sg)(M:Act->World->Prop)(g:P.follows .mixedOrders=true)
  (f:(Region.noSelect l.toArray&&(σ.size==l.length)&&schedX l.toArray n σ (Array.replicate l.toArray.size false)&&zEI l)=true)
  (h:∀ q,Fr No w q->wpSx P l M T n σ a q) (C:∀ u w',M u w'->Q .normal u w'):(Code.region A l.toArray true).wpIn (Fence.wide.inRound r) m P Q a w:=by
 simp only[Bool.and_eq_true,beq_iff_eq]at f;have v:=anyTX (M:=M) f.1.1.1 σ _ a w.drew f.1.2 (h _ ((Fr.refl No w).drew));have D:l.toArray.size=σ.size:=by simp[f.1.1.2]
 rw[<-D]at v;have F:=zCF _ _ _ _ v;have I:∀ (i:Nat) (o:Oper),l.toArray[i]?=some o->∀ c,o.op≠Op.defer c:=fun i o y c J=>by
  have g:o∈l:=by rw[List.getElem?_toArray]at y;exact List.mem_of_getElem? y
  have z:=List.all_eq_true.1 f.2 o g;rw[J]at z;cases z
 refine wpIn_mono (Q:=OnlyN M) (wpIn_region_draw fun t=>?_) fun e a w h=>?_
 ·simp only[Region.schedule,g,Bool.true_or,if_true];exact zBY I _ _ _ (wpAny_sound l.toArray.size t _ a _ F)
 ·cases e<;>first | exact C _ _ h | exact h.elim
theorem zF5 (h:M a w):wpSx P l M T n .fin a w:=h
theorem tx_q {i:Nat}{o:Oper}(A:nth l i=some o)(z:zAo o.op=true)(C:Region.wanted o (yielded l.toArray a.tmps)=true)
  (h:∀ K:Act->Prop,(∀ y,wpSx P l M T n σ y w->K y)->o.quiet P a (fun W=>∃ g:Gr T w,W=g.W) K):wpSx P l M T n (.q i σ) a w:=by
 obtain⟨v,D,F⟩:=h (fun y=>wpSx P l M T n σ y w) (fun _ h=>h);simp only[wpSx,A,C,if_true];refine⟨z,v,fun W I=>?_,F⟩;have f:=D W I;unfold Oper.quietAt at f;cases hr:(execOp a.eval o).run P W with
 | halt x J=>rw[hr]at f;exact f.elim
 | ok n J=>
  obtain⟨u,rfl⟩:=zA4 a.eval o z hr;rw[hr]at f;obtain⟨L,N⟩:=f;rw[L,N]
theorem zMP {i:Nat}{o:Oper}{K:Act->World->Prop}(f:nth l i=some o)(h:wpList P l.toArray (OnlyN fun g w'=>(i≠n->Fr T w w')/\K g w') [o] a w):wpMx P l T n i K a w:=by
 unfold wpMx;rw[f];exact h
theorem zBd {i:Nat}{o:Oper}(f:nth l i=some o)(h:wpList P l.toArray (OnlyN fun g w'=>(i≠n->Fr T w w')/\wpSx P l M T n σ g w') [o] a w):wpSx P l M T n (.m1 i σ) a w:=zMP f h
end
theorem zR {w:World}{f:Nat}{e T:TypeId}{o:Nat}{v:Value}{n:Nat}{y:List Value}(z:w.ownsRow f e o v n y){b:Nat}{cs:Array Value}(A:w.heap[b]?=some (.cells cs T))(u:T≠e):¬ v.ownBlock=some b:=by
 intro h;obtain⟨_,⟨rfl,_⟩ | ⟨g,C,D,rfl,F,q,_⟩⟩:=z
 ·cases h
 ·cases h;rw[A]at q;cases q;exact u rfl
def kcs (a:Option Addr)(n cap:Nat)(ev:Option Addr)(en ec:Nat)(ix:Int):Array Value:=#[.slice a n cap,.slice none 0 0,.slice none 0 0,.slice ev en ec,.int .i64 ix]
theorem zIR (z:Nat)(a:Option Addr)(f h:Nat)(ds:List Dev)(Y:Option Addr)(Z ec:Nat)(ix o n:Int)(w:World)(N:w.heap[z]?=some (.cells (kcs a ds.length f Y Z ec ix) 60))(O:Tr w h a f ds)(hn:ds.length<=1000)(R:(Lit.int .i64 n).wf=true)(u:∀ d∈ds,d.name.size<=1000):
  Calls Tryz.prog 41 #[.pointer (some ⟨z,0,none⟩),.int .i64 o,.int .i64 n] w fun e w'=>(∃ s,e=.returned (.agg #[.int .i64 0,.int .i64 o,.int .i64 n,.string s,.string ⟨#[]⟩]))/\Fr No w w':=by
 obtain⟨q,g⟩:∃ q,q=w.alloc (.cells #[.int .i64 0,.int .i64 0,.int .i64 0,.string ⟨#[]⟩,.string ⟨#[]⟩] 104):=⟨_,rfl⟩
 have A:Fr No w q:=by rw[g];exact(Fr.refl _ _).alloc _
 have U:q.heap[w.heap.size]?=some (.cells #[.int .i64 0,.int .i64 0,.int .i64 0,.string ⟨#[]⟩,.string ⟨#[]⟩] 104):=by rw[g];exact zD _ _
 have k0:q.cell? ⟨z,0,none⟩=some (.slice a ds.length f):=zB (A.heap N id) 0;have V:=zHi a f h ds n q (O.no A) hn R u;clear u O N R
 go_enter Tryz.func41,Tryz.ntmps41
 go_upto_region 1 with(fail)
 rw[<-g];clear g
 go_wp2_with fail
 refine V.mono ?_;rintro e w1 ⟨⟨s,b,rfl⟩,y⟩;have C:=y.heap U id;obtain⟨z0,z1,z2,z3,z4⟩:=cl5 C;obtain⟨y0,y1,y2,y3,y4⟩:=fl5 C;have X:∀ D F I J L,Fr No w (((((w1.setCell ⟨w.heap.size,0,none⟩ D).setCell ⟨w.heap.size,1,none⟩ F).setCell ⟨w.heap.size,2,none⟩ I).setCell ⟨w.heap.size,3,none⟩ J).setCell ⟨w.heap.size,4,none⟩ L):=fun D F I J L=>
  (A.step y zi).step (T:=Is w.heap.size) (((((Fr.refl _ _).setAt D).setAt F).setAt I).setAt J |>.setAt L) (fun b hb e=>by unfold Is at e;omega)
 have Hf:=zh X;clear X V U C k0
 go_wp2_with fail
 refine bodyPost_ret (v:=.agg #[.int .i64 0,.int .i64 o,.int .i64 n,.string s,.string ⟨#[]⟩]) (by simp[results,Tryz.results41,go_sem,z0,z1,z2,z3,z4]) rfl ?_;exact⟨⟨s,rfl⟩,Hf.out _ _ _ _ _⟩
theorem infoE : (Tryz.prog.info? 104).map (fun i=>(i.zero,i.size,i.bytes))=some (some (.agg #[.int .i64 0,.int .i64 0,.int .i64 0,.string ByteArray.empty,.string ByteArray.empty]),5,56):=by kernel_rfl
structure Evs (w:World)(a:Option Addr)(n:Nat)(xs:List Value):Prop where
 isNil:a=none->n=0
 src:∀ ad,a=some ad->ad.spot=none/\ad.block<w.heap.size/\∀ j u,xs[j]?=some u->w.cell? ⟨ad.block,ad.off+j,none⟩=some u
 el:∀ i,i<n->∃ (q c x:Int) (p y:ByteArray),xs[i*5]?=some (.int .i64 q)/\xs[i*5+1]?=some (.int .i64 c)/\xs[i*5+2]?=some (.int .i64 x)/\xs[i*5+3]?=some (.string p)/\xs[i*5+4]?=some (.string y)
theorem Evs.fr {S:Nat->Prop}{w w':World}{a:Option Addr}{n:Nat}{g:List Value}(h:Evs w a n g)(o:Fr S w w')(q:∀ f,a=some f->¬ S f.block):Evs w' a n g:=
 ⟨h.isNil,fun f e=>⟨(h.src f e).1,Nat.lt_of_lt_of_le (h.src f e).2.1 o.size,fun j u v=>o.cell ((h.src f e).2.2 j u v) (q f e)⟩,h.el⟩
def EmRes (w':World)(kb base:Nat)(a:Option Addr)(n cap en:Nat)(ix:Int):Prop:=∃ ev' ec' xs',w'.heap[kb]?=some (.cells (kcs a n cap ev' en ec' ix) 60)/\w'.ownsRow base 104 5 (.slice ev' en ec') en xs'
theorem zIS (z A:Nat)(a:Option Addr)(n O:Nat)(ev:Option Addr)(F ec:Nat)(ix:Int)(es:Option Addr)(R ce:Nat)(us:List Value)(xs:List Value)(w:World)(hk:w.heap[z]?=some (.cells (kcs a n O ev F ec ix) 60))(a4:w.ownsRow A 104 5 (.slice ev F ec) F xs)(c9:F<=10000)(d0:R<=10000)(hE:Evs w es R us)(b9:A<=w.heap.size)
  (a9:∀ I,es=some I->I.block≠z/\¬ (Value.slice ev F ec).ownBlock=some I.block):
  Calls Tryz.prog 40 #[.pointer (some ⟨z,0,none⟩),.slice es R ce] w fun e w'=>e=.returned (.tuple #[])/\EmRes w' z A a n O (F+R) ix/\Fr (fun b=>b=z\/(Value.slice ev F ec).ownBlock=some b) w w':=by
 obtain⟨i0,c2,c3,c4,c5⟩:=info_parts infoE;have d1:=zC hk;have HE:=zh (And.intro hE a9);have HO:=zh a4;have HK:=zh hk;clear hE a9
 go_enter Tryz.func40,Tryz.ntmps40
 go_wp2_with fail
 go_loopw [8] (fun v wr=>∃ (j M:Nat) (f:Option Addr) (o:Nat) (a7:List Value),j<=R/\v=.int .i64 (j:Int)/\Hid (M=F+j)/\Hid (wr.heap[z]?=some (.cells (kcs a n O f M o ix) 60))/\Hid (wr.ownsRow A 104 5 (.slice f M o) M a7)/\Hid (∀ b,(Value.slice f M o).ownBlock=some b->(Value.slice ev F ec).ownBlock=some b\/w.heap.size<=b)/\Hid (Fr (fun b=>b=z\/(Value.slice ev F ec).ownBlock=some b) w wr)) (fun v _=>R-(intOf v).toNat)
 case atStart=>exact⟨0,F,ev,ec,xs,by omega,rfl,rfl,HK.out,HO.out,fun b h=>.inl h,Fr.refl _ _⟩
 case round=>
  obtain⟨j,M,f,o,a7,hj,rfl,hM,U,a8,b0,V⟩:=hrel;clear a4 hk;by_cases c6:j<R
  ·have b4:(j:Int)<R:=by omega
   have d2:M<=20000:=by have:=hM.out;omega
   have X:=HE.out.1.fr V.out (fun I e h=>h.elim (HE.out.2 I e).1 (HE.out.2 I e).2);obtain⟨q,c,x,p,y,u0,u1,u2,u3,u4⟩:=X.el j c6;obtain⟨I,rfl⟩:∃ I,es=some I:=by
    cases es with
    | none=>have:=X.isNil rfl;omega
    | some I=>exact⟨I,rfl⟩
   obtain⟨eb,eo,d3⟩:=I;obtain⟨b5,c7,hs⟩:=X.src _ rfl;dsimp only at b5 c7 hs;subst b5;have e0:=hs _ _ u0;have e1:=hs _ _ u1;have e2:=hs _ _ u2;have e3:=hs _ _ u3;have e4:=hs _ _ u4;rw[<-Nat.add_assoc]at e1 e2 e3 e4;have k3:wr.cell? ⟨z,3,none⟩=some (.slice f M o):=zB U.out 3;clear hs u0 u1 u2 u3 u4 X;obtain⟨Y,Z⟩:∃ Y,Y=wr.alloc (.cells #[.int .i64 q,.int .i64 c,.int .i64 x,.string p,.string y] 104):=⟨_,rfl⟩
   have x1:Fr No wr Y:=by rw[Z];exact(Fr.refl _ _).alloc _
   have b1:Y.heap[wr.heap.size]?=some (.cells #[.int .i64 q,.int .i64 c,.int .i64 x,.string p,.string y] 104):=by rw[Z];exact zD _ _
   go_upto_region 3 with(fail)
   rw[<-Z];clear Z e0 e1 e2 e3 e4 k3;have k3:Y.cell? ⟨z,3,none⟩=some (.slice f M o):=zB (x1.heap U.out id) 3;have e0:Y.cell? ⟨wr.heap.size,0,none⟩=some (.int .i64 q):=zB b1 0;have f0:Y.frozen? ⟨wr.heap.size,0,none⟩=false:=zE b1 0;obtain⟨W2,a2⟩:∃ W2,W2=Y.setCell ⟨wr.heap.size,0,none⟩ (.int .i64 ((M:Int)+1)):=⟨_,rfl⟩
   have x2:Fr (Is wr.heap.size) Y W2:=by rw[a2];exact Fr.setAt (Fr.refl _ _) _
   have b2:W2.heap[wr.heap.size]?=some (.cells #[.int .i64 ((M:Int)+1),.int .i64 c,.int .i64 x,.string p,.string y] 104):=by rw[a2];exact zF b1 0 _
   have a3:Hid (Fr No wr W2):=x1.step x2 (fun b hb e=>by unfold Is at e;omega)
   go_upto_region 4 with(fail)
   rw[<-a2];clear a2 k3 e0 f0 b1 x1 x2;have d4:w.heap.size<=wr.heap.size:=V.out.size;have d5:wr.heap.size<=W2.heap.size:=a3.out.size;refine zJN 10 (fun b=>(Value.slice f M o).ownBlock=some b) (.q 0 (.q 1 (.q 2 (.q 3 (.q 4 (.q 5 (.m1 6 (.m1 7 (.m1 8 (.q 9 (.m1 10 .fin))))))))))) _ (by kernel_rfl) (by kernel_rfl) (fun W3 D=>?_) zj;have d6:=D.size;have k4:=D.heap (a3.out.heap U.out id) id;have J:=(zG a8.out a3.out (fun _ _=>id)) |> fun h=>zG h D (fun _ _=>id)
   have b3:=D.heap b2 id;have nk:=zR J k4 (by decide);have nb:¬ (Value.slice f M o).ownBlock=some wr.heap.size:=fun h=>by have:=(zAG a8.out h).2;omega
   have z3:∀ g:Gr (fun b=>(Value.slice f M o).ownBlock=some b) W3,g.W.cell? ⟨z,3,none⟩=some (.slice f M o):=fun g=>zB (g.fr.heap k4 nk) 3
   have bB:=fun g:Gr (fun b=>(Value.slice f M o).ownBlock=some b) W3=>g.fr.heap b3 nb
   have e0:=fun g=>zB (bB g) 0
   have e1:=fun g=>zB (bB g) 1
   have e2:=fun g=>zB (bB g) 2
   have e3:=fun g=>zB (bB g) 3
   have e4:=fun g=>zB (bB g) 4
   simp only[List.getElem?_toArray,List.getElem?_cons_zero,List.getElem?_cons_succ]at e0 e1 e2 e3 e4;have c8:=zh D;clear bB D b2 b3
   repeat (apply tx_q rfl rfl rfl;intro K hK;go_big_quiet_op;go_big_quiet_on)
   clear e0 e1 e2 e3 e4;have al:=(Fr.refl No W3).alloc (.cells #[.int .i64 ((M:Int)+1),.int .i64 c,.int .i64 x,.string p,.string y] 104);have a5:=zG J al (fun _ _=>id);have k5:=al.heap k4 id;have b6:=zh al;clear J k4 al;apply zBd;exact rfl
   go_wp2_with fail
   refine OnlyN.mk ⟨fun _=>b6.out.mono zn,?_⟩;apply zBd;exact rfl
   go_wp2_with (at_builtin;refine wpList_append_own_at _ rfl _ _ 58 rfl A 104 i0 (.agg #[.int .i64 0,.int .i64 0,.int .i64 0,.string ByteArray.empty,.string ByteArray.empty]) 5 56 Tryz.underlying58 c2 c3 c4 c5 rfl (by decide) _ _ _ rfl a5 ⟨W3.heap.size,0,none⟩ 1 1 [.int .i64 ((M:Int)+1),.int .i64 c,.int .i64 x,.string p,.string y] rfl rfl (ze _ #[.int .i64 ((M:Int)+1),.int .i64 c,.int .i64 x,.string p,.string y] _ rfl) (fun u hu=>by simp at hu;rcases hu with rfl | rfl | rfl | rfl | rfl<;>rfl) (by unfold maxLen;omega) (by omega) (by rw[World.size_alloc];omega) ?_;intro v' w6 C b7 _ b8;obtain⟨L,N,rfl⟩:=zJ C)
   have gf:Fr (fun b=>(Value.slice f M o).ownBlock=some b) (W3.alloc (.cells #[.int .i64 ((M:Int)+1),.int .i64 c,.int .i64 x,.string p,.string y] 104)) w6:=Fr.of_grown b7;refine zf gf ?_;have k6:=gf.heap k5 nk;have n6:=zR C k6 (by decide);have t6:w6.cell? ⟨z,3,none⟩=some (.slice f M o):=zB k6 3;have f6:w6.frozen? ⟨z,3,none⟩=false:=zE k6 3;have x7:Fr (Is z) w6 (w6.setCell ⟨z,3,none⟩ (.slice L (M+1) N)):=Fr.setAt (Fr.refl _ _) _;have k7:(w6.setCell ⟨z,3,none⟩ (.slice L (M+1) N)).heap[z]?=some (.cells (kcs a n O L (M+1) N ix) 60):=zF k6 3 _;have a6:=zG C x7 (fun b hb h=>by unfold Is at h;subst h;exact n6 hb);have ff:Fr (fun b=>b=z\/(Value.slice f M o).ownBlock=some b) wr (w6.setCell ⟨z,3,none⟩ (.slice L (M+1) N)):=((((a3.out.step c8.out zi).step b6.out zi).mono zn).step gf (fun b _ h=>.inr h)).step x7 (fun b _ h=>.inl h);have HR:=zh (And.intro k7 (And.intro a6 (And.intro b8 ff)));clear a5 C b7 gf k5 k6 n6 x7 k7 a6 ff b8 nk nb;apply zBd;exact rfl
   go_wp2_with fail
   refine OnlyN.mk ⟨fun _=>Fr.refl _ _,?_⟩
   repeat (apply tx_q rfl rfl rfl;intro K hK;go_big_quiet_op;go_big_quiet_on)
   apply zBd;exact rfl
   go_wp2_with fail
   refine OnlyN.mk ⟨fun h=>(h rfl).elim,?_⟩;refine zF5 ?_;clear z3 t6 f6
   go_wp2_with fail
   go_roundw
   case rel=>exact⟨j+1,M+1,L,N,_,by omega,by go_num,by have:=hM.out;show M+1=F+(j+1);omega,HR.out.1,HR.out.2.1,fun b hb=>by
    rcases HR.out.2.2.1 with h | h
    ·exact b0.out b (h▸hb)
    ·right;have h5:=hb.symm.trans h;simp only[Option.some.injEq,World.size_alloc]at h5;omega,V.out.step HR.out.2.2.2 (fun b hb h=>by
    rcases h with h | h
    ·exact .inl h
    ·rcases b0.out b h with h6 | h6
     ·exact .inr h6
     ·omega)⟩
   case measure=>simp[intOf];omega
  ·obtain rfl:j=R:=by omega
   have b4:¬ (j:Int)<j:=by omega
   go_wp2_with fail
   go_end0
   have e:=hM.out;subst e;exact⟨rfl,⟨f,o,a7,U.out,a8.out⟩,V.out⟩
theorem zL1 (v I f:Nat)(a:Option Addr)(n o:Nat)(y:Option Addr)(g z:Nat)(L A i:Int)(s:ByteArray)(U:List Value)(w:World)(V:w.heap[v]?=some (.cells (kcs a n o y g z L) 60))(C:w.ownsRow f 104 5 (.slice y g z) g U)(N:g<=10000)(J:w.heap[I]?=some (.cells #[.int .i64 0,.int .i64 A,.int .i64 i,.string s,.string ⟨#[]⟩] 104))(q:f<=w.heap.size)(O:¬ (Value.slice y g z).ownBlock=some I):
  Calls Tryz.prog 40 #[.pointer (some ⟨v,0,none⟩),.slice (some ⟨I,0,none⟩) 1 1] w fun e w'=>e=.returned (.tuple #[])/\
   (∃ D F R,w'.heap[v]?=some (.cells (kcs a n o D (g+1) F L) 60)/\w'.ownsRow f 104 5 (.slice D (g+1) F) (g+1) R)/\Fr (fun b=>b=v\/(Value.slice y g z).ownBlock=some b) w w':=
 zIS v f a n o y g z L (some ⟨I,0,none⟩) 1 1 [.int .i64 0,.int .i64 A,.int .i64 i,.string s,.string ⟨#[]⟩] U w V C N (by omega)
  ⟨fun e=>(by cases e),fun X e=>by cases e;exact⟨rfl,zC J,fun j u Y=>by rw[zB J];simpa using Y⟩,fun j Z=>match j,Z with | 0,_=>⟨_,_,_,_,_,rfl,rfl,rfl,rfl,rfl⟩⟩ q (fun X e=>by
   cases e;refine⟨fun h=>?_,O⟩;dsimp only at h;rw[h,V]at J;cases J)
end Go.Proofs.YtinfjnndbfahhaaGreatDoor
