import Derived.Below
import Derived.Lib.Hide
import Derived.Test.YtinfjnndbfahhaaGreatDoorProg
import Derived.WalkKit
import Derived.WalkSpells
import Derived.WalkLawsBesides
import Derived.Maps.OwnSet
import Derived.Deep.QuietTactic
import Derived.BigQuiet
import Derived.Deep.DeepFit
import Derived.Deep.DeepMust
import Derived.RangeFuncNested
import Derived.RangeFuncBound
import Derived.RangeFuncCalls
import Derived.RangeFuncLeaves
import Derived.Shelf.Abstract
import Derived.Shelf.RegionOpen
import Derived.OwnWalkIn
import Derived.TacticsInMore
import Derived.LoopNIn
import Derived.LoopIn
namespace Go.Proofs.YtinfjnndbfahhaaGreatDoor
open Go.RowKit Go.Maps
set_option linter.unusedVariables false
set_option maxRecDepth 100000
set_option maxHeartbeats 1000000
theorem zh {p:Prop}(h:p):Hid p:=h
theorem zi {α:Type}{P Q:α->Prop}:∀ b,P b->Q b->Q b:=fun _ _ h=>h
theorem zn {α:Type}{P Q:α->Prop}:∀ b,P b->False->Q b:=fun _ _ h=>h.elim
theorem zj {α β:Type}{Q:α->β->Prop}:∀ a b,Q a b->Q a b:=fun _ _ h=>h
structure Fr (S:Nat->Prop)(w w':World):Prop where
 os:w'.os=w.os
 tape:w'.tape=w.tape
 output:w'.output=w.output
 size:w.heap.size<=w'.heap.size
 block:∀ k,k<w.heap.size->¬ S k->w'.heap[k]?=w.heap[k]?
def No : Nat->Prop:=fun _=>False
def Is (b:Nat):Nat->Prop:=fun k=>k=b
def From (b:Nat):Nat->Prop:=fun k=>b<=k
theorem Fr.refl (S:Nat->Prop)(w:World):Fr S w w:=⟨rfl,rfl,rfl,Nat.le_refl _,fun _ _ _=>rfl⟩
theorem Fr.trans {S T U:Nat->Prop}{w w' f:World}(h:Fr S w w')(k:Fr T w' f)(q:∀ b,b<w.heap.size->S b->U b)(u:∀ b,b<w.heap.size->T b->U b):Fr U w f:=
 ⟨k.os.trans h.os,k.tape.trans h.tape,k.output.trans h.output,Nat.le_trans h.size k.size,
  fun b g o=>(k.block b (Nat.lt_of_lt_of_le g h.size) (fun v=>o (u b g v))).trans (h.block b g (fun y=>o (q b g y)))⟩
theorem Fr.step {S:Nat->Prop}{w w' f:World}(h:Fr S w w'){T:Nat->Prop}(k:Fr T w' f)(g:∀ b,b<w.heap.size->T b->S b):Fr S w f:=
 h.trans k zi g
theorem Fr.mono {S T:Nat->Prop}{w w':World}(h:Fr S w w')(g:∀ b,b<w.heap.size->S b->T b):Fr T w w':=
 ⟨h.os,h.tape,h.output,h.size,fun b f o=>h.block b f (fun q=>o (g b f q))⟩
theorem Fr.of_grown {w w':World}{row:Option Nat}(h:w.grownBy w' row):Fr (fun k=>row=some k) w w':=
 ⟨h.os,h.tape,h.output,h.size,fun k f g=>h.block k f (fun e=>g e.symm)⟩
theorem Fr.of_grown_some {w w':World}{b:Nat}(h:w.grownBy w' (some b)):Fr (Is b) w w':=
 (Fr.of_grown h).mono (fun _ _ e=>(Option.some.inj e).symm)
theorem Fr.of_grown_none {w w':World}(h:w.grownBy w' none):Fr No w w':=
 (Fr.of_grown h).mono (fun _ _ e=>by cases e)
theorem Fr.of_below_size {w w':World}(h:Below w.heap.size w w'):Fr No w w':=
 ⟨h.os,h.tape,h.output,h.size,fun k f _=>h.block k f⟩
theorem Fr.below {S:Nat->Prop}{B:Nat}{w w':World}(h:Fr S w w')(o:B<=w.heap.size)(f:∀ b,b<B->¬ S b):Below B w w':=
 ⟨h.os,h.tape,h.output,h.size,fun k g=>h.block k (by omega) (f k g)⟩
theorem Fr.grown {S:Nat->Prop}{w w':World}{row:Option Nat}(h:Fr S w w')(f:∀ b,S b->row=some b):w.grownBy w' row:=
 ⟨h.os,h.tape,h.output,h.size,fun k g o=>h.block k g (fun q=>o (f k q).symm)⟩
theorem Fr.alloc {S:Nat->Prop}{a w:World}(h:Fr S a w)(o:Obj):Fr S a (w.alloc o):=
 h.step (T:=No) ⟨rfl,rfl,rfl,by simp,fun k f _=>Below.heap_alloc _ _ _ f⟩ zn
theorem Fr.setCell {S:Nat->Prop}{a w:World}(h:Fr S a w){p:Addr}(f:p.block<a.heap.size->S p.block)(u:Value):Fr S a (w.setCell p u):=
 h.step (T:=Is p.block) ⟨rfl,rfl,rfl,by simp[World.setCell],fun k _ g=>Below.heap_setCell _ _ _ _ g⟩ (fun b o e=>by unfold Is at e;subst e;exact f o)
theorem Fr.drew {S:Nat->Prop}{a w:World}(h:Fr S a w):Fr S a w.drew:=⟨h.os,h.tape,h.output,h.size,h.block⟩
theorem Fr.drewN {S:Nat->Prop}{a w:World}(h:Fr S a w)(n:Nat):Fr S a (w.drewN n):=⟨h.os,h.tape,h.output,h.size,h.block⟩
theorem Fr.heap {S:Nat->Prop}{w w':World}(h:Fr S w w'){b:Nat}{o:Obj}(f:w.heap[b]?=some o)(g:¬ S b):w'.heap[b]?=some o:=
 (h.block b (Array.getElem?_eq_some_iff.1 f).1 g).trans f
theorem Fr.cell {S:Nat->Prop}{w w':World}(h:Fr S w w'){p:Addr}{v:Value}(f:w.cell? p=some v)(q:¬ S p.block):w'.cell? p=some v:=by
 have g:p.block<w.heap.size:=by
  unfold World.cell? at f;cases hh:w.heap[p.block]? with
  | none=>simp[hh]at f
  | some o=>exact(Array.getElem?_eq_some_iff.1 hh).1
 rw[World.cell?_of_block (h.block _ g q)];exact f
theorem Fr.ownsMap {S:Nat->Prop}{H:Type}{P:Program}{k:TypeId}{R:Value->Option (DataW H×List MemPlace)}{w w':World}{b n:Nat}{D:DataW H}(h:Fr S w w')(g:w.ownsMap P k R b n D)(o:¬ S b):w'.ownsMap P k R b n D:=by
 have q:=g.lt;obtain⟨u,f,v,r⟩:=g;exact⟨u,f,h.heap v o,r⟩
theorem zB {w:World}{b:Nat}{cs:Array Value}{T:TypeId}{f:Nat×Nat}(h:w.heap[b]?=some (.cells cs T f))(i:Nat):w.cell? ⟨b,i,none⟩=cs[i]?:=by
 simp[World.cell?,h]
theorem zE {w:World}{b:Nat}{cs:Array Value}{T:TypeId}(h:w.heap[b]?=some (.cells cs T (0,0)))(i:Nat):w.frozen? ⟨b,i,none⟩=false:=by
 simp[World.frozen?,h]
theorem zC {w:World}{b:Nat}{o:Obj}(h:w.heap[b]?=some o):b<w.heap.size:=(Array.getElem?_eq_some_iff.1 h).1
theorem zF {w:World}{b:Nat}{cs:Array Value}{T:TypeId}{f:Nat×Nat}(h:w.heap[b]?=some (.cells cs T f))(i:Nat)(v:Value):
  (w.setCell ⟨b,i,none⟩ v).heap[b]?=some (.cells (cs.setIfInBounds i v) T f):=by
 simp[World.setCell,Array.getElem?_modify,h]
theorem zD (w:World)(o:Obj):(w.alloc o).heap[w.heap.size]?=some o:=by
 show (w.heap.push o)[w.heap.size]?=_
 simp
theorem Fr.setNew {S:Nat->Prop}{a w:World}(h:Fr S a w){p:Addr}(g:a.heap.size<=p.block)(u:Value):Fr S a (w.setCell p u):=
 h.setCell (fun f=>absurd f (by omega)) u
theorem zI (w:World)(o f:Obj):((w.alloc o).alloc f).heap[w.heap.size]?=some o:=by
 show ((w.heap.push o).push f)[w.heap.size]?=_
 simp[Array.getElem?_push]
theorem zL (w:World)(o f:Obj):((w.alloc o).alloc f).heap[w.heap.size+1]?=some f:=by
 have h:=zD (w.alloc o) f
 rwa [World.size_alloc]at h
def upd (f:Int->Bool)(x:Int)(b:Bool):Int->Bool:=fun y=>if y=x then b else f y
theorem lawI : Keyed Tryz.prog 3:=int_keyed Tryz.underlying3
theorem zBz (x:Int):WideAt.IsKeyLit (.int .i64 x):=by
 simp[WideAt.IsKeyLit]
def zKt {α:Type}(N:Nat)(I:List α->(Nat->Prop)->World->Prop)(pre:List α)(V:Nat->Prop)(W:World):Exit->Act->World->Prop
 | .normal,_,W'=>∃ V',(∀ b,V' b->V b\/N<=b)/\I pre V' W'/\Fr V W W'
 | _,_,_=>False
theorem Fr.putObj {S:Nat->Prop}(W:World)(r:Nat)(o:Obj)(f:S r):Fr S W (W.putObj r o):=
 ⟨rfl,rfl,rfl,by simp,fun k _ g=>World.putObj_heap_other (fun e=>g (e▸f))⟩
def Gives {α:Type}(F:Fence)(n:Nat)(P:Program)(gf:Nat)(lb:Array Value)(encs:α->Array Value)(T V0:Nat->Prop)(xs:List α)(w:World):Prop:=
 ∀ (l:Nat) (J:List α->(Nat->Prop)->World->Prop) (W:World),Fr No w W->w.heap.size<=l->l<W.heap.size->
  (∀ s V A,J s V A->∀ b,V b->b<A.heap.size)->
  (∀ s V A B,J s V A->Fr T A B->(∀ b,V b->¬ T b)->J s V B)->
  (∀ pre V x A,J pre V A->pre++[x] <+: xs->YieldAt F (n-1) P l (encs x) A fun e B=>e=.returned (.bool true)/\∃ V',(∀ b,V' b->V b\/w.heap.size+2<=b)/\J (pre++[x]) V' B/\Fr (fun b=>V b\/b=l) A B)->
  J [] V0 W->CallsIn F n P gf (#[.func (.yield l) #[] #[]]++lb) W fun e W'=>(∃ v,e=.returned v)/\∃ V,J xs V W'
theorem zAD {α:Type}{F:Fence}{n:Nat}{P:Program}{g:Operand}{ps:Array Tmp}{assign body:Code}{Q:Exit->Act->World->Prop}{a:Act}{w:World}
  (b5:F.round=none) (h1:1<=n) {gf:Nat} {lb:Array Value} (hg:a.eval g=.func (.func gf) #[] lb) (b6:F.fn gf) (eg:∀ args w,(callFunc gf args).run P w=.ok (.enter gf args) w)
  {encs:α->Array Value} (b7:∀ x,(encs x).size=ps.size) {T V0:Nat->Prop} (hT:∀ b,T b->b<w.heap.size) (a6:∀ b,V0 b->b<w.heap.size) {xs:List α}
  (a7:Gives F (n-1) P gf lb encs T V0 xs w)
  (I:List α->(Nat->Prop)->World->Prop) (a8:∀ s V A,I s V A->∀ b,V b->b<A.heap.size)
  (hI:∀ s V A B S,I s V A->Fr S A B->(∀ b,S b->¬ V b/\(T b\/w.heap.size<=b))->I s V B) (h0:I [] V0 w)
  (Ax:α->(Nat->Prop)->Act->World->Prop) (b8:∀ x V N A B,Ax x V N A->Fr (Is (w.heap.size+1)) A B->Ax x V N B)
  (z:∀ (l:Nat) (o:List α) (V:Nat->Prop) (x:α) (W:World) (K:Act->World->Prop),I o V W->w.heap.size+2<=W.heap.size->(∀ N W',Fr No W W'->Ax x V N W'->K N W')->
   assign.wpIn (F.inRound l) (n-1-1) P (Exit.then K (fun _ _ _=>False)) { tmps:=(ps.zip (encs x)).foldl (fun t (p,v)=>t.setIfInBounds p v) a.tmps,defers:=[] } W)
  (X:∀ (l:Nat) (o:List α) (V:Nat->Prop) (x:α) (N:Act) (W:World),I o V W->Ax x V N W->o++[x] <+: xs->w.heap.size+2<=W.heap.size->body.wpIn (F.inRound l) (n-1-1) P (zKt (w.heap.size+2) I (o++[x]) V W) N W)
  (Y:∀ (V:Nat->Prop) (W:World),I xs V W->W.heap[w.heap.size]?=some (.deferred (some []))->¬ V w.heap.size->Q .normal { a with defers:={ target:=.collected w.heap.size,args:=#[] }::a.defers } W):
  (Code.rangeFunc g ps assign body).wpIn F n P Q a w:=by
 refine wpIn_rangeFunc ?_;intro fn b9;rw[b5];obtain⟨q,f⟩:∃ q:LoopState->Option Code->Loop,q=fun st pe=>{ state:=st,pending:=pe,fn,tmps:=a.tmps,params:=ps,assign,body,defers:=w.heap.size }:=⟨_,rfl⟩
 obtain⟨C,D⟩:∃ C,(w.alloc (.deferred (some []))).alloc (.loop (q .ready none))=C:=⟨_,rfl⟩
 have d4:C.heap.size=w.heap.size+2:=by rw[<-D];simp
 have c2:C.heap[w.heap.size+1]?=some (.loop (q .ready none)):=by
  rw[<-D];have:=World.alloc_heap_new (w.alloc (.deferred (some []))) (.loop (q .ready none));rwa [World.size_alloc]at this
 have c3:C.heap[w.heap.size]?=some (.deferred (some [])):=by
  rw[<-D];exact(Below.heap_alloc _ _ _ (by simp)).trans (World.alloc_heap_new w _)
 have O:Fr No w C:=by rw[<-D];exact((Fr.refl _ _).alloc _).alloc _
 have c4:I [] V0 C:=hI _ _ _ _ _ h0 O (fun _ h=>h.elim);refine⟨w.heap.size+1,[{ target:=.collected w.heap.size,args:=#[] }],C,{ target:=.fn (.func gf) lb,args:=#[.func (.yield (w.heap.size+1)) #[] #[]] },C,gf,
  #[.func (.yield (w.heap.size+1)) #[] #[]]++lb,C,?_,?_,?_,?_,fun _=>h1,?_⟩
 ·rw[<-D,f];exact run_enterLoop_outer _ _ _ _ _
 ·simp only[resolve,hg];simp[go_sem]
 ·intro f' a9;simp[Target.leads]at a9;subst a9;exact b6
 ·simp[invoke,go_sem,eg]
 ·refine(a7 (w.heap.size+1) (fun o V W=>I o V W/\¬ V w.heap.size/\¬ V (w.heap.size+1)/\W.heap[w.heap.size+1]?=some (.loop (q .ready none))/\W.heap[w.heap.size]?=some (.deferred (some [])))
   C O (by omega) (by omega) (fun s V A h=>a8 s V A h.1) ?_ ?_ ⟨c4,fun h=>by have:=a6 _ h;omega,fun h=>by have:=a6 _ h;omega,c2,c3⟩).mono ?_
  ·rintro s V A B ⟨hi,y,u,Z,hk⟩ hf c5;refine⟨hI _ _ _ _ _ hi hf (fun b J=>⟨fun h=>c5 b h J,.inl J⟩),y,u,hf.heap Z (fun h=>?_),hf.heap hk (fun h=>?_)⟩
   ·have:=hT _ h;omega
   ·have:=hT _ h;omega
  ·rintro o V x W ⟨hi,y,u,Z,hk⟩ b0;have d5:w.heap.size+1<W.heap.size:=(Array.getElem?_eq_some_iff.1 Z).1;have hy:=run_yield (P:=P) (args:=encs x) Z (by rw[f];exact b7 x);rw[f]at hy;refine⟨fn,_,assign,body,hy,roundIn_of_wpIn b9 (z _ o V x W _ hi (by omega) ?_)⟩;clear hy;intro N Wa L c6;have b1:=L.heap Z id;have c7:=L.heap hk id;have c8:=hI _ _ _ _ _ hi L (fun _ h=>h.elim);have b2:w.heap.size+1<Wa.heap.size:=(Array.getElem?_eq_some_iff.1 b1).1;have d6:=L.size;refine⟨_,run_beginRound b1 (by rw[f]),?_⟩;have c9:(Wa.putObj (w.heap.size+1) (.loop { q .ready none with state:=.busy })).heap[w.heap.size+1]?=some (.loop { q .ready none with state:=.busy }):=World.putObj_heap_same b2;have d0:(Wa.putObj (w.heap.size+1) (.loop { q .ready none with state:=.busy })).heap[w.heap.size]?=some (.deferred (some [])):=(World.putObj_heap_other (by omega)).trans c7;have a2:Fr (Is (w.heap.size+1)) Wa (Wa.putObj (w.heap.size+1) (.loop { q .ready none with state:=.busy })):=Fr.putObj _ _ _ rfl;have d1:=hI _ _ _ _ _ c8 a2 (fun b J=>by unfold Is at J;subst J;exact⟨u,.inr (by omega)⟩);refine wpIn_mono (X _ o V x N _ d1 (b8 _ _ _ _ _ c6 a2) b0 (by simp;omega)) ?_;rintro e a3 W3 hp;cases e with
   | normal=>
    obtain⟨V',a4,d2,a5⟩:=hp;have b3:=a5.heap c9 u;have d3:=a5.heap d0 y;have b4:¬ V' w.heap.size:=fun h=>by rcases a4 _ h with h | h;exact y h;omega
    have R:¬ V' (w.heap.size+1):=fun h=>by rcases a4 _ h with h | h;exact u h;omega
    have U:=run_endRound (P:=P) none b3;rw[f]at U;refine⟨_,_,U,rfl,V',a4,⟨hI _ _ _ _ _ d2 (Fr.putObj (S:=Is (w.heap.size+1)) _ _ _ rfl) (fun b J=>by unfold Is at J;subst J;exact⟨R,.inr (by omega)⟩),b4,R,?_,?_⟩,?_⟩
    ·rw[f];exact World.putObj_heap_same (Array.getElem?_eq_some_iff.1 b3).1
    ·exact(World.putObj_heap_other (by omega)).trans d3
    ·refine(((L.mono zn).step a2 ?_).step a5 ?_).step (Fr.putObj (S:=Is (w.heap.size+1)) _ _ _ rfl) ?_
     ·rintro b _ h;exact .inr h
     ·rintro b _ h;exact .inl h
     ·rintro b _ h;exact .inr h
   | ret=>exact hp.elim
   | exit id=>exact hp.elim
   | goto t=>exact hp.elim
   | panic ch=>exact hp.elim
   | outgrown=>exact hp.elim
  ·rintro e W2 ⟨⟨v,rfl⟩,V,hi,y,u,Z,hk⟩;refine⟨none,_,by have:=run_endLoop (P:=P) Z (by rw[f];simp);rw[f]at this;exact this,Y V _ (hI _ _ _ _ _ hi (Fr.putObj (S:=Is (w.heap.size+1)) _ _ _ rfl) (fun b J=>by unfold Is at J;subst J;exact⟨u,.inr (by omega)⟩)) ((World.putObj_heap_other (by omega)).trans hk) y⟩
structure Ints (w:World)(a:Option Addr)(cap:Nat)(l:List Int):Prop where
 len:l.length<=cap
 max:cap<=maxLen
 wf:∀ x∈l,(Lit.int .i64 x).wf=true
 isNil:a=none->l=[]/\cap=0
 cell:∀ ad,a=some ad->l≠[]->ad.spot=none/\ad.block<w.heap.size/\∀ i x,l[i]?=some x->w.cell? ⟨ad.block,ad.off+i,none⟩=some (.int .i64 x)
theorem Ints.at {w:World}{a:Option Addr}{o:Nat}{l:List Int}(h:Ints w a o l){k:Nat}(g:k<l.length):
  ∃ b f x,a=some ⟨b,f,none⟩/\l[k]?=some x/\w.cell? ⟨b,f+k,none⟩=some (.int .i64 x):=by
 cases a with
 | none=>obtain⟨rfl,_⟩:=h.isNil rfl;simp at g
 | some u=>
  obtain⟨b,f,y⟩:=u;obtain⟨q,z,v⟩:=h.cell _ rfl (by intro e;subst e;simp at g);simp at q;subst q;exact⟨b,f,l[k],rfl,by simp[g],v k _ (by simp[g])⟩
theorem Ints.lenmax {w:World}{a:Option Addr}{f:Nat}{l:List Int}(h:Ints w a f l):l.length<=9223372036854775807:=by
 have o:=h.len;have g:=h.max;unfold maxLen at g;omega
theorem Ints.fr {S:Nat->Prop}{w w':World}{a:Option Addr}{f:Nat}{l:List Int}(h:Ints w a f l)(q:Fr S w w')(u:∀ g,a=some g->l≠[]->¬ S g.block):Ints w' a f l:=
 ⟨h.len,h.max,h.wf,h.isNil,fun g e o=>by
  obtain⟨v,y,z⟩:=h.cell g e o;exact⟨v,Nat.lt_of_lt_of_le y q.size,fun i x A=>q.cell (z i x A) (u g e o)⟩⟩
theorem Ints.no {S:Nat->Prop}{w w':World}{a:Option Addr}{f:Nat}{l:List Int}(h:Ints w a f l)(g:Fr S w w')(o:∀ k,¬ S k):Ints w' a f l:=h.fr g (fun _ _ _=>o _)
theorem Ints.nil (w:World):Ints w none 0 []:=⟨by simp,by simp,by simp,fun _=>⟨rfl,rfl⟩,fun _ e _=>by cases e⟩
theorem Ints.of_own {w:World}{o:Nat}{e:TypeId}{v:Value}{l:List Int}(h:w.ownsRow o e 1 v l.length (l.map (Value.int .i64)))(D:∀ x∈l,(Lit.int .i64 x).wf=true):
  ∃ a f,v=.slice a l.length f/\Ints w a f l/\∀ q,a=some q->o<=q.block:=by
 obtain⟨_,⟨rfl,u⟩ | ⟨g,f,y,rfl,F,z,I,u,O,J⟩⟩:=h
 ·have:l=[]:=List.eq_nil_of_length_eq_zero u;subst this;exact⟨none,0,rfl,Ints.nil w,fun _ e=>by cases e⟩
 ·refine⟨some ⟨g,0,none⟩,f,rfl,⟨I,u,D,(fun e=>by cases e),?_⟩,fun q e=>by cases e;exact F⟩;intro q e L;cases e;refine⟨rfl,zC z,fun i x A=>?_⟩;rw[zB z];simp only[Nat.zero_add];have N:i<l.length:=(List.getElem?_eq_some_iff.1 A).1;have C:(y.toList.take (l.length*1))[i]?=(l.map (Value.int .i64))[i]?:=by rw[J]
  rw[List.getElem?_take_of_lt (by omega)]at C;rw[<-Array.getElem?_toList,C];simp[A]
theorem zK {a b:Bool}(h:a=b):Ending.returned (.bool a)=.returned (.bool b):=by rw[h]
theorem zAp {k:IntKind}{a b:Int}(h:a=b):Ending.returned (.int k a)=.returned (.int k b):=by rw[h]
theorem Ints.of_isRow {w:World}{a:Option Addr}{f g:Nat}{q:List Int}(h:(a=none/\f=0/\g=0/\q=[])\/
  ∃ x,a=some x/\f<=g/\g<=maxLen/\q.length=g/\(∀ i,i<q.length->w.cell? (x.add i)=some (.int .i64 (q.getD i 0)))/\∀ n∈q,(Lit.int .i64 n).wf=true):
  ∃ l:List Int,l.length=f/\Ints w a g l:=by
 rcases h with⟨rfl,rfl,rfl,rfl⟩ | ⟨x,rfl,R,J,U,I,L⟩
 ·exact⟨[],rfl,Ints.nil w⟩
 ·refine⟨q.take f,by simp;omega,by simp;omega,J,fun x N=>L x (List.mem_of_mem_take N),(fun e=>by cases e),?_⟩;intro V e C;cases e;have u:0<q.length:=by
   cases q with
   | nil=>simp at C
   | cons _ _=>simp
  have A:=I 0 u;have v:x.spot=none:=by simpa [Addr.add]using World.cell?_spot A
  obtain⟨b,O,X⟩:=x;simp at v;subst v;refine⟨rfl,?_,fun i y D=>?_⟩
  ·unfold World.cell? at A;simp only[Addr.add]at A;cases hh:w.heap[b]? with
   | none=>simp[hh]at A
   | some o=>exact(Array.getElem?_eq_some_iff.1 hh).1
  ·have z:i<(q.take f).length:=(List.getElem?_eq_some_iff.1 D).1;have F:=I i (by simp at z;omega);rw[List.getElem?_take_of_lt (by simp at z;omega)]at D;rw[List.getD_eq_getElem?_getD,D]at F;rw[Addr.add_lit]at F
   simpa using F
theorem zGa (v n:Int)(w:World)(q:1<=n)(u:n<=4294967296)(y:(Lit.int .i64 v).wf=true):
  Calls Tryz.prog 24 #[.int .i64 v,.int .i64 n] w fun e w'=>∃ r,e=.returned (.int .i64 r)/\0<=r/\r<n/\w=w':=by
 by_cases h:n<=1
 ·go_enter Tryz.func24,Tryz.ntmps24
  go_wp2;go_ret;exact⟨_,rfl,by omega,by omega,rfl⟩
 ·have g:-n<v.tmod n:=by have:=Int.lt_tmod_of_pos v (b:=n) (by omega);omega
  have o:v.tmod n<n:=Int.tmod_lt_of_pos v (by omega);by_cases f:v.tmod n<0
  ·go_enter Tryz.func24,Tryz.ntmps24
   go_wp2;go_ret;exact⟨_,rfl,by omega,by omega,rfl⟩
  ·go_enter Tryz.func24,Tryz.ntmps24
   go_wp2;go_ret;exact⟨_,rfl,by omega,by omega,rfl⟩
def Tape (w:World)(B tb k:Nat):Prop:=
 ∃ a cap l T,Ints w a cap l/\(∀ ad,a=some ad->l≠[]->ad.block<B)/\B<=tb/\w.heap[tb]?=some (.cells #[.slice a l.length cap,.int .i64 (k:Int)] T (0,0))
theorem Tape.lt {w:World}{B f k:Nat}(h:Tape w B f k):f<w.heap.size:=by
 obtain⟨a,g,l,T,_,_,_,o⟩:=h;exact zC o
theorem Tape.fr {S:Nat->Prop}{w w':World}{B f k:Nat}(h:Tape w B f k)(q:Fr S w w')(v:∀ b,b<B->¬ S b)(y:¬ S f):Tape w' B f k:=by
 obtain⟨a,g,l,T,z,u,A,C⟩:=h;exact⟨a,g,l,T,z.fr q (fun D e o=>v _ (u D e o)),u,A,q.heap C y⟩
theorem zEj (B f k:Nat)(n:Int)(w:World)(O:Tape w B f k)(Z:k<=1000000000000)(F:1<=n)(I:n<=4294967296):
  Calls Tryz.prog 9 #[.pointer (some ⟨f,0,none⟩),.int .i64 n] w fun e w'=>∃ r,e=.returned (.int .i64 r)/\0<=r/\r<n/\Tape w' B f (k+1)/\Fr (Is f) w w':=by
 obtain⟨a,v,l,T,z,J,R,A⟩:=O;have c0:w.cell? ⟨f,0,none⟩=some (.slice a l.length v):=by rw[zB A];rfl
 have c1:w.cell? ⟨f,1,none⟩=some (.int .i64 (k:Int)):=by rw[zB A];rfl
 have f1:w.frozen? ⟨f,1,none⟩=false:=zE A 1;have hm:=z.lenmax;have g:∀ m:Nat,Tape ((w.setCell ⟨f,1,none⟩ (.int .i64 ((k:Int)+1))).drewN m) B f (k+1)/\Fr (Is f) w ((w.setCell ⟨f,1,none⟩ (.int .i64 ((k:Int)+1))).drewN m):=fun m=>by
  have L:Fr (Is f) w ((w.setCell ⟨f,1,none⟩ (.int .i64 ((k:Int)+1))).drewN m):=(Fr.setCell (S:=Is f) (p:=⟨f,1,none⟩) (Fr.refl _ _) (fun _=>rfl) _).drewN m;refine⟨⟨a,v,l,T,z.fr L (fun U e C h=>by have:=J U e C;unfold Is at h;omega),J,R,?_⟩,L⟩;show (w.setCell ⟨f,1,none⟩ (.int .i64 ((k:Int)+1))).heap[f]?=_
  rw[zF A];rfl
 have o:=zh g;clear g;by_cases D:k<l.length
 ·obtain⟨b,V,x,rfl,N,hc⟩:=z.at D;have X:=zh (z.wf x (List.mem_of_getElem? N));have y:(k:Int)<l.length:=by omega
  clear N
  go_enter Tryz.func9,Tryz.ntmps9
  go_wp2_with fail
  go_quiet (fail)
  go_wp2_with fail
  go_quiet (fail)
  go_wp2_with fail
  refine(zGa _ n _ F I X.out).mono ?_;rintro e Y ⟨r,rfl,q,u,rfl⟩
  go_wp2_with fail
  go_ret;exact⟨r,rfl,q,u,o.out _⟩
 ·have y:¬ (k:Int)<l.length:=by omega
  go_enter Tryz.func9,Tryz.ntmps9
  go_wp2_with fail
  go_quiet (fail)
  go_wp2_with fail
  refine(zGa _ n _ F I (WalkArith.wf_i64 (by omega))).mono ?_;rintro e Y ⟨r,rfl,q,u,rfl⟩
  go_wp2_with fail
  go_ret;exact⟨r,rfl,q,u,o.out _⟩
structure Dev where
 index:Int
 parent:Int
 name:ByteArray
 orig:ByteArray
 sub:ByteArray
 drv:ByteArray
 ali:ByteArray
 kind:Int
 num:Int
 aa:Option Addr
 an:Nat
 ac:Nat
def Dev.cell (d:Dev):Nat->Value
 | 0=>.int .i64 d.index
 | 1=>.int .i64 d.parent
 | 2=>.string d.name
 | 3=>.string d.orig
 | 4=>.string d.sub
 | 5=>.string d.drv
 | 6=>.string d.ali
 | 7=>.int .i64 d.kind
 | 8=>.int .i64 d.num
 | _=>.slice d.aa d.an d.ac
def Dev.vals (d:Dev):Array Value:=#[.int .i64 d.index,.int .i64 d.parent,.string d.name,.string d.orig,.string d.sub,.string d.drv,.string d.ali,.int .i64 d.kind,.int .i64 d.num,.slice d.aa d.an d.ac]
def Dev.zero : Dev:=⟨0,0,ByteArray.empty,ByteArray.empty,ByteArray.empty,ByteArray.empty,ByteArray.empty,0,0,none,0,0⟩
structure Devs (w:World)(a:Option Addr)(cap:Nat)(ds:List Dev):Prop where
 len:ds.length<=cap
 max:cap<=maxLen
 isNil:a=none->ds=[]/\cap=0
 cell:∀ ad,a=some ad->ds≠[]->ad.spot=none/\ad.block<w.heap.size/\∀ i d,ds[i]?=some d->∀ j,j<10->w.cell? ⟨ad.block,ad.off+(i*10+j),none⟩=some (d.cell j)
theorem Devs.at {w:World}{a:Option Addr}{o:Nat}{ds:List Dev}(h:Devs w a o ds){k:Nat}(g:k<ds.length):
  ∃ b f d,a=some ⟨b,f,none⟩/\ds[k]?=some d/\∀ j,j<10->w.cell? ⟨b,f+(k*10+j),none⟩=some (d.cell j):=by
 cases a with
 | none=>obtain⟨rfl,_⟩:=h.isNil rfl;simp at g
 | some u=>
  obtain⟨b,f,y⟩:=u;obtain⟨q,z,v⟩:=h.cell _ rfl (by intro e;subst e;simp at g);simp at q;subst q;exact⟨b,f,ds[k],rfl,List.getElem?_eq_getElem g,v k _ (List.getElem?_eq_getElem g)⟩
structure DevAt (w:World)(b o:Nat)(d:Dev):Prop where
 c0:w.cell? ⟨b,o,none⟩=some (.int .i64 d.index)
 c1:w.cell? ⟨b,o+1,none⟩=some (.int .i64 d.parent)
 c2:w.cell? ⟨b,o+2,none⟩=some (.string d.name)
 c3:w.cell? ⟨b,o+3,none⟩=some (.string d.orig)
 c4:w.cell? ⟨b,o+4,none⟩=some (.string d.sub)
 c5:w.cell? ⟨b,o+5,none⟩=some (.string d.drv)
 c6:w.cell? ⟨b,o+6,none⟩=some (.string d.ali)
 c7:w.cell? ⟨b,o+7,none⟩=some (.int .i64 d.kind)
 c8:w.cell? ⟨b,o+8,none⟩=some (.int .i64 d.num)
 c9:w.cell? ⟨b,o+9,none⟩=some (.slice d.aa d.an d.ac)
theorem Devs.dev {w:World}{a:Option Addr}{o:Nat}{ds:List Dev}(h:Devs w a o ds){k:Nat}(q:k<ds.length):
  ∃ b g d,a=some ⟨b,g,none⟩/\ds[k]?=some d/\DevAt w b (g+k*10) d:=by
 obtain⟨b,g,d,u,v,f⟩:=h.at q;refine⟨b,g,d,u,v,?_⟩;exact⟨f 0 (by omega),f 1 (by omega),f 2 (by omega),f 3 (by omega),f 4 (by omega),f 5 (by omega),f 6 (by omega),f 7 (by omega),f 8 (by omega),f 9 (by omega)⟩
theorem Devs.lenmax {w:World}{a:Option Addr}{f:Nat}{ds:List Dev}(h:Devs w a f ds):ds.length<=9223372036854775807:=by
 have o:=h.len;have g:=h.max;unfold maxLen at g;omega
theorem Devs.fr {S:Nat->Prop}{w w':World}{a:Option Addr}{f:Nat}{ds:List Dev}(h:Devs w a f ds)(q:Fr S w w')(u:∀ g,a=some g->ds≠[]->¬ S g.block):Devs w' a f ds:=
 ⟨h.len,h.max,h.isNil,fun g e o=>by
  obtain⟨v,y,z⟩:=h.cell g e o;exact⟨v,Nat.lt_of_lt_of_le y q.size,fun i d A j C=>q.cell (z i d A j C) (u g e o)⟩⟩
theorem Devs.no {S:Nat->Prop}{w w':World}{a:Option Addr}{f:Nat}{ds:List Dev}(h:Devs w a f ds)(g:Fr S w w')(o:∀ k,¬ S k):Devs w' a f ds:=h.fr g (fun _ _ _=>o _)
theorem Devs.nil (w:World):Devs w none 0 []:=⟨by simp,by simp,fun _=>⟨rfl,rfl⟩,fun _ e _=>by cases e⟩
def place : List Dev->Int->Int
 | [],_=>-1
 | d::t,n=>if d.index=n then 0 else if place t n<0 then -1 else place t n+1
theorem zGF : ∀ (ds:List Dev) (n:Int),-1<=place ds n/\place ds n<ds.length
 | [],n=>by simp[place]
 | d::t,n=>by
  have:=zGF t n;unfold place;split
  ·simp only[List.length_cons];omega
  ·split<;>simp only[List.length_cons]<;>omega
theorem zCH : ∀ (ds:List Dev) (n:Int) (k:Nat) (d:Dev),ds[k]?=some d->d.index=n->(∀ x∈ds.take k,x.index≠n)->place ds n=k
 | [],n,k,d,h,_,_=>by simp at h
 | x::t,n,0,d,h,e,_=>by simp at h;subst h;simp[place,e]
 | x::t,n,k+1,d,h,e,f=>by
  have g:x.index≠n:=f x (by simp);have o:=zCH t n k d (by simpa using h) e (fun y q=>f y (by simp[q]));unfold place;rw[if_neg g,o];split<;>omega
theorem zCI : ∀ (ds:List Dev) (n:Int),(∀ x∈ds,x.index≠n)->place ds n=-1
 | [],n,_=>rfl
 | x::t,n,h=>by
  unfold place;rw[if_neg (h x (by simp)),zCI t n (fun y f=>h y (by simp[f]))];simp
theorem zHv (a:Option Addr)(o:Nat)(ds:List Dev)(n:Int)(w:World)(v:Devs w a o ds):
  Calls Tryz.prog 220 #[.slice a ds.length o,.int .i64 n] w fun e w'=>e=.returned (.int .i64 (place ds n))/\w=w':=by
 have F:=v.lenmax
 go_enter Tryz.func220,Tryz.ntmps220
 go_wp2
 go_loop [5] (fun i=>∃ k:Nat,k<=ds.length/\i=.int .i64 k/\Hid (∀ x∈ds.take k,x.index≠n)) (fun i=>ds.length-(intOf i).toNat)
 case atStart=>exact⟨0,by omega,rfl,by unfold Hid;simp⟩
 case round=>
  obtain⟨k,I,rfl,g⟩:=hrel;by_cases u:k<ds.length
  ·obtain⟨b,A,d,rfl,q,y⟩:=v.at u;have z:=zh q;have C:=y 0 (by omega);simp only[Dev.cell,Nat.add_zero]at C;clear q y;by_cases f:d.index=n
   ·have D:(d.index==n)=true:=by simpa using f
    go_wp2;go_ret;exact⟨zAp (zCH ds n k d z.out f g.out).symm,rfl⟩
   ·have D:(d.index==n)=false:=by simpa using f
    go_wp2
    go_round
    case rel=>
     refine⟨k+1,by omega,by go_num,?_⟩;unfold Hid;intro x q;rw[List.take_add_one,z.out]at q;rcases List.mem_append.1 q with h | h
     ·exact g.out x h
     ·simp at h;subst h;exact f
    case measure=>simp[intOf];omega
  ·obtain rfl:k=ds.length:=by omega
   have h:=g.out;rw[List.take_of_length_le (by omega)]at h;go_wp2;go_ret;exact⟨zAp (zCI _ _ h).symm,rfl⟩
def devOf (ds:List Dev)(n:Int):Dev:=if place ds n<0 then Dev.zero else (ds[(place ds n).toNat]?).getD Dev.zero
theorem zGD (a:Option Addr)(f:Nat)(ds:List Dev)(n:Int)(w:World)(F:Devs w a f ds):
  Calls Tryz.prog 171 #[.agg #[.slice a ds.length f],.int .i64 n] w fun e w'=>e=.returned (.tuple #[.agg (devOf ds n).vals,.bool (decide (0<=place ds n))])/\Fr No w w':=by
 have I:Fr No w (w.alloc (.cells #[.slice a ds.length f] 48)):=(Fr.refl _ _).alloc _;have J:Fr No w ((w.alloc (.cells #[.slice a ds.length f] 48)).alloc (.cells #[.int .i64 0,.int .i64 0,.string ByteArray.empty,.string ByteArray.empty,.string ByteArray.empty,.string ByteArray.empty,.string ByteArray.empty,.int .i64 0,.int .i64 0,.slice none 0 0] 36)):=I.alloc _;have o:=F.no J (fun _=>id)
 go_enter Tryz.func171,Tryz.ntmps171
 go_wp2_with fail
 refine(zHv a f ds n _ o).mono ?_;rintro e R ⟨rfl,rfl⟩;obtain⟨p,z⟩:∃ p,p=place ds n:=⟨_,rfl⟩
 have A:=zGF ds n;rw[<-z]at A;rw[<-z];have q:=zh z;clear z;by_cases g:p<0
 ·have u:devOf ds n=Dev.zero:=by unfold devOf;rw[if_pos (by rw[<-q.out];exact g)]
  have C:=zh u;clear u;have D:Hid (decide (0<=place ds n)=false):=decide_eq_false (by rw[<-q.out];omega)
  go_wp2_with fail
  refine bodyPost_ret (v:=.tuple #[.agg Dev.zero.vals,.bool false]) (by simp[results,Tryz.results171,go_sem,Dev.vals,Dev.zero];rfl) rfl ?_;refine(fun (h:Fr No w _)=>⟨by rw[C.out,D.out],h⟩) ?_
  repeat (first | exact Fr.refl _ _ | refine Fr.alloc ?_ _ | refine Fr.setNew ?_ (by simp) _)
 ·obtain⟨k,rfl⟩:=Int.eq_ofNat_of_zero_le (by omega:0<=p);have L:k<ds.length:=by omega
  obtain⟨b,N,d,rfl,u,O⟩:=o.dev L;have y:devOf ds n=d:=by
   unfold devOf;rw[if_neg (by rw[<-q.out];exact g),<-q.out,Int.toNat_natCast,u];rfl
  have C:=zh y;have D:Hid (decide (0<=place ds n)=true):=decide_eq_true (by rw[<-q.out];omega);clear y u;obtain⟨U,V,X,Y,Z,c5,c6,c7,c8,c9⟩:=O
  go_wp2_with fail
  refine bodyPost_ret (v:=.tuple #[.agg d.vals,.bool true]) (by simp[results,Tryz.results171,go_sem,Dev.vals]) rfl ?_;refine(fun (h:Fr No w _)=>⟨by rw[C.out,D.out],h⟩) ?_
  repeat (first | exact Fr.refl _ _ | refine Fr.alloc ?_ _ | refine Fr.setNew ?_ (by simp) _)
theorem Fr.setAt {b i:Nat}{a w:World}(h:Fr (Is b) a w)(v:Value):Fr (Is b) a (w.setCell ⟨b,i,none⟩ v):=h.setCell (p:=⟨b,i,none⟩) (fun _=>rfl) v
theorem zBF {W:World}{b:Nat}{cs:Array Value}{T:TypeId}(h:W.heap[b]?=some (.cells cs T))(g:cs.size=10)(p:Dev):
  ((((((((((W.setCell ⟨b,0,none⟩ (.int .i64 p.index)).setCell ⟨b,1,none⟩ (.int .i64 p.parent)).setCell ⟨b,2,none⟩ (.string p.name)).setCell ⟨b,3,none⟩ (.string p.orig)).setCell ⟨b,4,none⟩ (.string p.sub)).setCell ⟨b,5,none⟩ (.string p.drv)).setCell ⟨b,6,none⟩ (.string p.ali)).setCell ⟨b,7,none⟩ (.int .i64 p.kind)).setCell ⟨b,8,none⟩ (.int .i64 p.num)).setCell ⟨b,9,none⟩ (.slice p.aa p.an p.ac)).heap[b]?=some (.cells p.vals T)/\Fr (Is b) W ((((((((((W.setCell ⟨b,0,none⟩ (.int .i64 p.index)).setCell ⟨b,1,none⟩ (.int .i64 p.parent)).setCell ⟨b,2,none⟩ (.string p.name)).setCell ⟨b,3,none⟩ (.string p.orig)).setCell ⟨b,4,none⟩ (.string p.sub)).setCell ⟨b,5,none⟩ (.string p.drv)).setCell ⟨b,6,none⟩ (.string p.ali)).setCell ⟨b,7,none⟩ (.int .i64 p.kind)).setCell ⟨b,8,none⟩ (.int .i64 p.num)).setCell ⟨b,9,none⟩ (.slice p.aa p.an p.ac)):=by
 refine⟨?_,Fr.setAt (Fr.setAt (Fr.setAt (Fr.setAt (Fr.setAt (Fr.setAt (Fr.setAt (Fr.setAt (Fr.setAt (Fr.setAt (Fr.refl _ _) _) _) _) _) _) _) _) _) _) _⟩;obtain⟨l⟩:=cs
 match l,g with
 | [_,_,_,_,_,_,_,_,_,_],_=>
  have o:=zF h 0 (.int .i64 p.index);have q:=zF o 1 (.int .i64 p.parent);have u:=zF q 2 (.string p.name);have v:=zF u 3 (.string p.orig);have y:=zF v 4 (.string p.sub);have z:=zF y 5 (.string p.drv);have A:=zF z 6 (.string p.ali);have C:=zF A 7 (.int .i64 p.kind);have D:=zF C 8 (.int .i64 p.num);have f:=zF D 9 (.slice p.aa p.an p.ac);simp only[List.setIfInBounds_toArray,List.set_cons_zero,List.set_cons_succ]at f;exact f
def OkN (s:ByteArray):Prop:=s.size<=32/\∀ b∈s.data.toList,b≠47
end Go.Proofs.YtinfjnndbfahhaaGreatDoor
