import Derived.Below
import Derived.Lib.Hide
import Derived.Test.YtckkocmhlhefpaaGreatDoorProg
import Derived.WalkKit
import Derived.WalkSpells
import Derived.WalkLawsBesides
import Derived.Maps.OwnSet
import Derived.Deep.QuietTactic
import Derived.BigQuiet
import Derived.Deep.DeepFit
import Derived.Deep.DeepMust
import Derived.RangeFuncNested
import Derived.RangeFuncBound
import Derived.RangeFuncCalls
import Derived.RangeFuncLeaves
import Derived.Shelf.Abstract
import Derived.Shelf.RegionOpen
import Derived.OwnWalkIn
import Derived.TacticsInMore
import Derived.LoopNIn
import Derived.LoopIn
namespace Go.Proofs.YtckkocmhlhefpaaGreatDoor
open Go.RowKit Go.Maps
set_option linter.unusedVariables false
set_option maxRecDepth 100000
set_option maxHeartbeats 1000000
instance:Coe World Nat:=⟨λw=>w.heap.size⟩
open Go renaming World->c,Value->a1,maxLen->am
open Go.Ending renaming returned->bc
open Go.Lit renaming int->ar
open Go.Proofs.Tryz renaming prog->al,func24->ay,ntmps24->az,func9->bm,ntmps9->bn,results171->bo
open Go.RowKit.Below renaming heap_alloc->bb
open Go.Value renaming int->bp
open Go.World renaming putObj_heap_other->au,cell?->ba,alloc_heap_new->bq,putObj_heap_same->br,setCell->bs,size_alloc->bt
open IntKind renaming i64->K
open Obj renaming cells->af
open Value renaming int->L,string->a0,slice->ab
open _root_ renaming Nat->C,List->q,Int->M,Option->ae,ByteArray->ah,Array->ai,if_neg->ak
open _root_.ByteArray renaming empty->ag
open _root_.Int renaming toNat_natCast->bd
open _root_.List renaming length_cons->aj,map_append->ao,map_cons->ap,take_append_drop->aq,getElem?_take_of_lt->av,mem_of_getElem?->aw,getElem?_append_right->be,getElem?_eq_getElem->bf,getElem?_of_mem->bg,mem_append->bh,nodup_cons->bi
open _root_.Nat renaming lt_of_lt_of_le->ax,min_eq_left->bj
open _root_.Option renaming none->E,some->G
variable{p:Addr}{α:Type}{P:α->Prop}{S:C->Prop}{T:TypeId}{w w':c}{o b v k u tb i:C}{row:ae C}{a:ae Addr}{n:M}{cs:ai a1}{l:q M}
theorem zh {p:Prop}(h:p):Hid p:=h
theorem zi {Q:α->Prop}:∀ b,P b->Q b->Q b:=λ_ _ h=>h
theorem zn {Q:α->Prop}:∀ b,P b->False->Q b:=λ_ _ h=>h.elim
theorem zj {β:Type}{Q:α->β->Prop}:∀ a b,Q a b->Q a b:=λ_ _ h=>h
structure Fr (S:C->Prop)(w w':c):Prop where
 os:w'.os=w.os
 tape:w'.tape=w.tape
 output:w'.output=w.output
 size:(w:C)<=(w':C)
 block:∀ k,k<(w:C)->¬ S k->w'.heap[k]?=w.heap[k]?
def No : C->Prop:=λ_=>False
abbrev Is (b:C):C->Prop:=λk=>k=b
abbrev From (b:C):C->Prop:=λk=>b<=k
theorem Fr.refl (S:C->Prop)(w:c):Fr S w w:=⟨rfl,rfl,rfl,Nat.le_refl _,λ_ _ _=>rfl⟩
theorem Fr.trans {T U:C->Prop}{o:c}(h:Fr S w w')(k:Fr T w' o)(y:∀ b,b<(w:C)->S b->U b)(z:∀ b,b<(w:C)->T b->U b):Fr U w o:=
 ⟨k.os.trans h.os,k.tape.trans h.tape,k.output.trans h.output,Nat.le_trans h.size k.size,
  λb u v=>(k.block b (ax u h.size) (λA=>v (z b u A))).trans (h.block b u (λD=>v (y b u D)))⟩
theorem Fr.step {o:c}(h:Fr S w w'){T:C->Prop}(k:Fr T w' o)(u:∀ b,b<(w:C)->T b->S b):Fr S w o:=
 h.trans k zi u
theorem Fr.mono {T:C->Prop}(h:Fr S w w')(u:∀ b,b<(w:C)->S b->T b):Fr T w w':=
 ⟨h.os,h.tape,h.output,h.size,λb o v=>h.block b o (λy=>v (u b o y))⟩
theorem Fr.of_grown (h:w.grownBy w' row):Fr (λk=>row=G k) w w':=
 ⟨h.os,h.tape,h.output,h.size,λk o u=>h.block k o (λe=>u e.symm)⟩
theorem Fr.of_grown_some (h:w.grownBy w' (G b)):Fr (Is b) w w':=
 (Fr.of_grown h).mono (λ_ _ e=>(Option.some.inj e).symm)
theorem Fr.of_grown_none (h:w.grownBy w' E):Fr No w w':=
 (Fr.of_grown h).mono (λ_ _ e=>by cases e)
theorem Fr.of_below_size (h:Below (w:C) w w'):Fr No w w':=
 ⟨h.os,h.tape,h.output,h.size,λk o _=>h.block k o⟩
theorem Fr.below (h:Fr S w w')(y:o<=(w:C))(u:∀ b,b<o->¬ S b):Below o w w':=
 ⟨h.os,h.tape,h.output,h.size,λk v=>h.block k (by omega) (u k v)⟩
theorem Fr.grown (h:Fr S w w')(o:∀ b,S b->row=G b):w.grownBy w' row:=
 ⟨h.os,h.tape,h.output,h.size,λk u v=>h.block k u (λy=>v (o k y).symm)⟩
theorem Fr.alloc {a:c}(h:Fr S a w)(o:Obj):Fr S a (w.alloc o):=
 h.step (T:=No) ⟨rfl,rfl,rfl,by simp,λk u _=>bb _ _ _ u⟩ zn
theorem Fr.setCell {a:c}(h:Fr S a w)(o:p.block<(a:C)->S p.block)(u:a1):Fr S a (w.setCell p u):=
 h.step (T:=Is p.block) ⟨rfl,rfl,rfl,by simp[bs],λk _ v=>Below.heap_setCell _ _ _ _ v⟩ (λb y e=>by unfold Is at e;subst e;exact o y)
theorem Fr.drew {a:c}(h:Fr S a w):Fr S a w.drew:=⟨h.os,h.tape,h.output,h.size,h.block⟩
theorem Fr.drewN {a:c}(h:Fr S a w)(n:C):Fr S a (w.drewN n):=⟨h.os,h.tape,h.output,h.size,h.block⟩
theorem Fr.heap (h:Fr S w w'){o:Obj}(u:w.heap[b]?=G o)(v:¬ S b):w'.heap[b]?=G o:=
 (h.block b (Array.getElem?_eq_some_iff.1 u).1 v).trans u
theorem Fr.cell (h:Fr S w w'){v:a1}(u:w.cell? p=G v)(z:¬ S p.block):w'.cell? p=G v:=by
 have y:p.block<(w:C):=by
  unfold ba at u;cases hh:w.heap[p.block]? with
  | none=>simp[hh]at u
  | some o=>exact(Array.getElem?_eq_some_iff.1 hh).1
 rw[World.cell?_of_block (h.block _ y z)];exact u
theorem Fr.ownsMap {H:Type}{P:Program}{k:TypeId}{R:a1->ae (DataW H×q MemPlace)}{n:C}{D:DataW H}(h:Fr S w w')(u:w.ownsMap P k R b n D)(v:¬ S b):w'.ownsMap P k R b n D:=by
 have y:=u.lt;obtain⟨z,o,A,r⟩:=u;exact⟨z,o,h.heap A v,r⟩
theorem zB {o:C×C}(h:w.heap[b]?=G (af cs T o))(i:C):w.cell? ⟨b,i,E⟩=cs[i]?:=by
 simp[ba,h]
theorem zD (h:w.heap[b]?=G (af cs T (0,0)))(i:C):w.frozen? ⟨b,i,E⟩=false:=by
 simp[World.frozen?,h]
theorem zC {o:Obj}(h:w.heap[b]?=G o):b<(w:C):=(Array.getElem?_eq_some_iff.1 h).1
theorem zE {o:C×C}(h:w.heap[b]?=G (af cs T o))(i:C)(v:a1):
  (w.setCell ⟨b,i,E⟩ v).heap[b]?=G (af (cs.setIfInBounds i v) T o):=by
 simp[bs,Array.getElem?_modify,h]
theorem zF (w:c)(o:Obj):(w.alloc o).heap[(w:C)]?=G o:=by
 show (w.heap.push o)[(w:C)]?=_
 simp
theorem Fr.setNew {a:c}(h:Fr S a w)(v:(a:C)<=p.block)(u:a1):Fr S a (w.setCell p u):=
 h.setCell (λo=>absurd o (by omega)) u
theorem zO (w:c)(o h:Obj):((w.alloc o).alloc h).heap[(w:C)]?=G o:=by
 show ((w.heap.push o).push h)[(w:C)]?=_
 simp[Array.getElem?_push]
theorem zR (w:c)(o u:Obj):((w.alloc o).alloc u).heap[(w:C)+1]?=G u:=by
 have h:=zF (w.alloc o) u
 rwa [bt]at h
def upd (f:M->Bool)(x:M)(b:Bool):M->Bool:=λy=>if y=x then b else f y
theorem lawI: Keyed al 3:=int_keyed Tryz.underlying3
theorem zCb (x:M):WideAt.IsKeyLit (.int K x):=by
 simp[WideAt.IsKeyLit]
def zNY {α:Type}(N:C)(I:q α->(C->Prop)->c->Prop)(pre:q α)(V:C->Prop)(W:c):Exit->Act->c->Prop
 | .normal,_,W'=>∃ V',(∀ b,V' b->V b\/N<=b)/\I pre V' W'/\Fr V W W'
 | _,_,_=>False
theorem Fr.putObj (W:c)(r:C)(o:Obj)(h:S r):Fr S W (W.putObj r o):=
 ⟨rfl,rfl,rfl,by simp,λk _ u=>au (λe=>u (e▸h))⟩
def Gives {α:Type}(F:Fence)(n:C)(P:Program)(gf:C)(lb:ai a1)(encs:α->ai a1)(T V0:C->Prop)(xs:q α)(w:c):Prop:=
 ∀ (l:C) (J:q α->(C->Prop)->c->Prop) (W:c),Fr No w W->(w:C)<=l->l<(W:C)->
  (∀ s V A,J s V A->∀ b,V b->b<(A:C))->
  (∀ s V A B,J s V A->Fr T A B->(∀ b,V b->¬ T b)->J s V B)->
  (∀ pre V x A,J pre V A->pre++[x] <+: xs->YieldAt F (n-1) P l (encs x) A λe B=>e=.returned (.bool true)/\∃ V',(∀ b,V' b->V b\/(w:C)+2<=b)/\J (pre++[x]) V' B/\Fr (λb=>V b\/b=l) A B)->
  J [] V0 W->CallsIn F n P gf (#[.func (.yield l) #[] #[]]++lb) W λe W'=>(∃ v,e=.returned v)/\∃ V,J xs V W'
theorem zAm {α:Type}{F:Fence}{n:C}{P:Program}{g:Operand}{ps:ai Tmp}{assign body:Code}{Q:Exit->Act->c->Prop}{a:Act}{w:c}
  (b8:F.round=E) (h1:1<=n) {gf:C} {lb:ai a1} (hg:a.eval g=.func (.func gf) #[] lb) (b9:F.fn gf) (eg:∀ args w,(callFunc gf args).run P w=.ok (.enter gf args) w)
  {encs:α->ai a1} (d0:∀ x,(encs x).size=ps.size) {T V0:C->Prop} (hT:∀ b,T b->b<(w:C)) (a9:∀ b,V0 b->b<(w:C)) {xs:q α}
  (b0:Gives F (n-1) P gf lb encs T V0 xs w)
  (I:q α->(C->Prop)->c->Prop) (b1:∀ s V A,I s V A->∀ b,V b->b<(A:C))
  (hI:∀ s V A a8 S,I s V A->Fr S A a8->(∀ b,S b->¬ V b/\(T b\/(w:C)<=b))->I s V a8) (h0:I [] V0 w)
  (Ax:α->(C->Prop)->Act->c->Prop) (d1:∀ x V U A a8,Ax x V U A->Fr (Is ((w:C)+1)) A a8->Ax x V U a8)
  (D:∀ (l:C) (pre:q α) (V:C->Prop) (x:α) (W:c) (e5:Act->c->Prop),I pre V W->(w:C)+2<=(W:C)->(∀ U W',Fr No W W'->Ax x V U W'->e5 U W')->
   assign.wpIn (F.inRound l) (n-1-1) P (Exit.then e5 (λ_ _ _=>False)) { tmps:=(ps.zip (encs x)).foldl (λt (p,v)=>t.setIfInBounds p v) a.tmps,defers:=[] } W)
  (a2:∀ (l:C) (pre:q α) (V:C->Prop) (x:α) (U:Act) (W:c),I pre V W->Ax x V U W->pre++[x] <+: xs->(w:C)+2<=(W:C)->body.wpIn (F.inRound l) (n-1-1) P (zNY ((w:C)+2) I (pre++[x]) V W) U W)
  (a4:∀ (V:C->Prop) (W:c),I xs V W->W.heap[(w:C)]?=G (.deferred (G []))->¬ V (w:C)->Q .normal { a with defers:={ target:=.collected (w:C),args:=#[] }::a.defers } W):
  (Code.rangeFunc g ps assign body).wpIn F n P Q a w:=by
 refine wpIn_rangeFunc ?_;intro fn d2;rw[b8];obtain⟨u,o⟩:∃ u:LoopState->ae Code->Loop,u=λst pe=>{ state:=st,pending:=pe,fn,tmps:=a.tmps,params:=ps,assign,body,defers:=(w:C) }:=⟨_,rfl⟩
 obtain⟨J,N⟩:∃ J,(w.alloc (.deferred (G []))).alloc (.loop (u .ready E))=J:=⟨_,rfl⟩
 have e6:(J:C)=(w:C)+2:=by rw[<-N];simp
 have d3:J.heap[(w:C)+1]?=G (.loop (u .ready E)):=by
  rw[<-N];have:=bq (w.alloc (.deferred (G []))) (.loop (u .ready E));rwa [bt]at this
 have d4:J.heap[(w:C)]?=G (.deferred (G [])):=by
  rw[<-N];exact(bb _ _ _ (by simp)).trans (bq w _)
 have X:Fr No w J:=by rw[<-N];exact((Fr.refl _ _).alloc _).alloc _
 have d5:I [] V0 J:=hI _ _ _ _ _ h0 X (λ_ h=>h.elim);refine⟨(w:C)+1,[{ target:=.collected (w:C),args:=#[] }],J,{ target:=.fn (.func gf) lb,args:=#[.func (.yield ((w:C)+1)) #[] #[]] },J,gf,
  #[.func (.yield ((w:C)+1)) #[] #[]]++lb,J,?_,?_,?_,?_,λ_=>h1,?_⟩
 .rw[<-N,o];exact run_enterLoop_outer _ _ _ _ _
 .simp only[resolve,hg];simp[go_sem]
 .intro f' b2;simp[Target.leads]at b2;subst b2;exact b9
 .simp[invoke,go_sem,eg]
 .refine(b0 ((w:C)+1) (λpre V W=>I pre V W/\¬ V (w:C)/\¬ V ((w:C)+1)/\W.heap[(w:C)+1]?=G (.loop (u .ready E))/\W.heap[(w:C)]?=G (.deferred (G [])))
   J X (by omega) (by omega) (λs V A h=>b1 s V A h.1) ?_ ?_ ⟨d5,λh=>by have:=a9 _ h;omega,λh=>by have:=a9 _ h;omega,d3,d4⟩).mono ?_
  .rintro s V A a8 ⟨hi,z,y,hl,hk⟩ hf d6;refine⟨hI _ _ _ _ _ hi hf (λb O=>⟨λh=>d6 b h O,.inl O⟩),z,y,hf.heap hl (λh=>?_),hf.heap hk (λh=>?_)⟩
   .have:=hT _ h;omega
   .have:=hT _ h;omega
  .rintro pre V x W ⟨hi,z,y,hl,hk⟩ b3;have e7:(w:C)+1<(W:C):=(Array.getElem?_eq_some_iff.1 hl).1;have hy:=run_yield (P:=P) (args:=encs x) hl (by rw[o];exact d0 x);rw[o]at hy;refine⟨fn,_,assign,body,hy,roundIn_of_wpIn d2 (D _ pre V x W _ hi (by omega) ?_)⟩;clear hy;intro U Wa R d7;have b4:=R.heap hl id;have d8:=R.heap hk id;have d9:=hI _ _ _ _ _ hi R (λ_ h=>h.elim);have b5:(w:C)+1<(Wa:C):=(Array.getElem?_eq_some_iff.1 b4).1;have e8:=R.size;refine⟨_,run_beginRound b4 (by rw[o]),?_⟩;have e0:(Wa.putObj ((w:C)+1) (.loop { u .ready E with state:=.busy })).heap[(w:C)+1]?=G (.loop { u .ready E with state:=.busy }):=br b5;have e1:(Wa.putObj ((w:C)+1) (.loop { u .ready E with state:=.busy })).heap[(w:C)]?=G (.deferred (G [])):=(au (by omega)).trans d8;have a5:Fr (Is ((w:C)+1)) Wa (Wa.putObj ((w:C)+1) (.loop { u .ready E with state:=.busy })):=Fr.putObj _ _ _ rfl;have e2:=hI _ _ _ _ _ d9 a5 (λb O=>by unfold Is at O;subst O;exact⟨y,.inr (by omega)⟩);refine wpIn_mono (a2 _ pre V x U _ e2 (d1 _ _ _ _ _ d7 a5) b3 (by simp;omega)) ?_;rintro e a3 W3 hp;cases e with
   | normal=>
    obtain⟨V',a6,e3,a7⟩:=hp;have b6:=a7.heap e0 y;have e4:=a7.heap e1 z;have b7:¬ V' (w:C):=λh=>by rcases a6 _ h with h|h;exact z h;omega
    have Y:¬ V' ((w:C)+1):=λh=>by rcases a6 _ h with h|h;exact y h;omega
    have Z:=run_endRound (P:=P) E b6;rw[o]at Z;refine⟨_,_,Z,rfl,V',a6,⟨hI _ _ _ _ _ e3 (Fr.putObj (S:=Is ((w:C)+1)) _ _ _ rfl) (λb O=>by unfold Is at O;subst O;exact⟨Y,.inr (by omega)⟩),b7,Y,?_,?_⟩,?_⟩
    .rw[o];exact br (Array.getElem?_eq_some_iff.1 b6).1
    .exact(au (by omega)).trans e4
    .refine(((R.mono zn).step a5 ?_).step a7 ?_).step (Fr.putObj (S:=Is ((w:C)+1)) _ _ _ rfl) ?_
     .rintro b _ h;exact .inr h
     .rintro b _ h;exact .inl h
     .rintro b _ h;exact .inr h
   | ret=>exact hp.elim
   | exit id=>exact hp.elim
   | goto t=>exact hp.elim
   | panic ch=>exact hp.elim
   | outgrown=>exact hp.elim
  .rintro e W2 ⟨⟨v,rfl⟩,V,hi,z,y,hl,hk⟩;refine⟨E,_,by have:=run_endLoop (P:=P) hl (by rw[o];simp);rw[o]at this;exact this,a4 V _ (hI _ _ _ _ _ hi (Fr.putObj (S:=Is ((w:C)+1)) _ _ _ rfl) (λb O=>by unfold Is at O;subst O;exact⟨y,.inr (by omega)⟩)) ((au (by omega)).trans hk) z⟩
structure Ints (w:c)(a:ae Addr)(cap:C)(l:q M):Prop where
 len:l.length<=cap
 max:cap<=am
 wf:∀ x∈l,(ar K x).wf=true
 isNil:a=E->l=[]/\cap=0
 cell:∀ ad,a=G ad->l≠[]->ad.spot=E/\ad.block<(w:C)/\∀ i x,l[i]?=G x->w.cell? ⟨ad.block,ad.off+i,E⟩=G (.int K x)
theorem Ints.at (h:Ints w a v l)(u:k<l.length):
  ∃ b o x,a=G ⟨b,o,E⟩/\l[k]?=G x/\w.cell? ⟨b,o+k,E⟩=G (L K x):=by
 cases a with
 | none=>obtain⟨rfl,_⟩:=h.isNil rfl;simp at u
 | some z=>
  obtain⟨b,o,D⟩:=z;obtain⟨y,F,A⟩:=h.cell _ rfl (by intro e;subst e;simp at u);simp at y;subst y;exact⟨b,o,l[k],rfl,by simp[u],A k _ (by simp[u])⟩
theorem Ints.lenmax (h:Ints w a o l):l.length<=9223372036854775807:=by
 have v:=h.len;have u:=h.max;unfold am at u;omega
theorem Ints.fr (h:Ints w a o l)(y:Fr S w w')(z:∀ u,a=G u->l≠[]->¬ S u.block):Ints w' a o l:=
 ⟨h.len,h.max,h.wf,h.isNil,λu e v=>by
  obtain⟨A,D,F⟩:=h.cell u e v;exact⟨A,ax D y.size,λi x I=>y.cell (F i x I) (z u e v)⟩⟩
theorem Ints.no (h:Ints w a o l)(u:Fr S w w')(v:∀ k,¬ S k):Ints w' a o l:=h.fr u (λ_ _ _=>v _)
theorem Ints.nil (w:c):Ints w E 0 []:=⟨by simp,by simp,by simp,λ_=>⟨rfl,rfl⟩,λ_ e _=>by cases e⟩
theorem Ints.of_own {e:TypeId}{v:a1}(h:w.ownsRow u e 1 v l.length (l.map (bp K)))(J:∀ x∈l,(ar K x).wf=true):
  ∃ a o,v=.slice a l.length o/\Ints w a o l/\∀ y,a=G y->u<=y.block:=by
 obtain⟨_,⟨rfl,z⟩|⟨g,o,A,rfl,N,D,O,z,X,R⟩⟩:=h
 .have:l=[]:=List.eq_nil_of_length_eq_zero z;subst this;exact⟨E,0,rfl,Ints.nil w,λ_ e=>by cases e⟩
 .refine⟨G ⟨g,0,E⟩,o,rfl,⟨O,z,J,(λe=>by cases e),?_⟩,λy e=>by cases e;exact N⟩;intro y e U;cases e;refine⟨rfl,zC D,λi x F=>?_⟩;rw[zB D];simp only[Nat.zero_add];have V:i<l.length:=(List.getElem?_eq_some_iff.1 F).1;have I:(A.toList.take (l.length*1))[i]?=(l.map (bp K))[i]?:=by rw[R]
  rw[av (by omega)]at I;rw[<-Array.getElem?_toList,I];simp[F]
theorem zN {a b:Bool}(h:a=b):bc (.bool a)=.returned (.bool b):=by rw[h]
theorem zA7 {k:IntKind}{a b:M}(h:a=b):bc (L k a)=.returned (L k b):=by rw[h]
theorem Ints.of_isRow {w:c}{zs:q M}(h:(a=E/\u=0/\v=0/\zs=[])\/
  ∃ x,a=G x/\u<=v/\v<=am/\zs.length=v/\(∀ i,i<zs.length->w.cell? (x.add i)=G (.int K (zs.getD i 0)))/\∀ n∈zs,(ar K n).wf=true):
  ∃ l:q M,l.length=u/\Ints w a v l:=by
 rcases h with⟨rfl,rfl,rfl,rfl⟩|⟨x,rfl,Y,R,Z,O,U⟩
 .exact⟨[],rfl,Ints.nil w⟩
 .refine⟨zs.take u,by simp;omega,by simp;omega,R,λx V=>U x (List.mem_of_mem_take V),(λe=>by cases e),?_⟩;intro ad e I;cases e;have z:0<zs.length:=by
   cases zs with
   | nil=>simp at I
   | cons _ _=>simp
  have F:=O 0 z;have A:x.spot=none:=by simpa [Addr.add]using World.cell?_spot F
  obtain⟨b,X,sp⟩:=x;simp at A;subst A;refine⟨rfl,?_,λi y J=>?_⟩
  .unfold ba at F;simp only[Addr.add]at F;cases hh:w.heap[b]? with
   | none=>simp[hh]at F
   | some o=>exact(Array.getElem?_eq_some_iff.1 hh).1
  .have D:i<(zs.take u).length:=(List.getElem?_eq_some_iff.1 J).1;have N:=O i (by simp at D;omega);rw[av (by simp at D;omega)]at J;rw[List.getD_eq_getElem?_getD,J]at N;rw[Addr.add_lit]at N
   simpa using N
theorem zIJ (v n:M)(w:c)(z:1<=n)(A:n<=4294967296)(D:(ar K v).wf=true):
  Calls al 24 #[.int K v,.int K n] w λe w'=>∃ r,e=.returned (.int K r)/\0<=r/\r<n/\w=w':=by
 by_cases h:n<=1
 .go_enter ay,az
  go_wp2;go_ret;exact⟨_,rfl,by omega,by omega,rfl⟩
 .have u:-n<v.tmod n:=by have:=Int.lt_tmod_of_pos v (b:=n) (by omega);omega
  have y:v.tmod n<n:=Int.tmod_lt_of_pos v (by omega);by_cases o:v.tmod n<0
  .go_enter ay,az
   go_wp2;go_ret;exact⟨_,rfl,by omega,by omega,rfl⟩
  .go_enter ay,az
   go_wp2;go_ret;exact⟨_,rfl,by omega,by omega,rfl⟩
def Tape (w:c)(B tb k:C):Prop:=
 ∃ a cap l T,Ints w a cap l/\(∀ ad,a=G ad->l≠[]->ad.block<B)/\B<=tb/\w.heap[tb]?=G (af #[ab a l.length cap,L K (k:M)] T (0,0))
theorem Tape.lt (h:Tape w o tb k):tb<(w:C):=by
 obtain⟨a,u,l,T,_,_,_,v⟩:=h;exact zC v
theorem Tape.le (h:Tape w o tb k):o<=tb:=by
 obtain⟨a,u,l,T,_,_,h,_⟩:=h;exact h
theorem Tape.fr (h:Tape w o tb k)(y:Fr S w w')(A:∀ b,b<o->¬ S b)(D:¬ S tb):Tape w' o tb k:=by
 obtain⟨a,u,l,T,F,z,I,J⟩:=h;exact⟨a,u,l,T,F.fr y (λN e v=>A _ (z N e v)),z,I,y.heap J D⟩
theorem zAg (I tb k:C)(n:M)(w:c)(Y:Tape w I tb k)(hk:k<=1000000000000)(O:1<=n)(R:n<=4294967296):
  Calls al 9 #[.pointer (G ⟨tb,0,E⟩),L K n] w λe w'=>∃ r,e=.returned (L K r)/\0<=r/\r<n/\Tape w' I tb (k+1)/\Fr (Is tb) w w':=by
 obtain⟨a,z,l,T,D,U,Z,F⟩:=Y;have c0:w.cell? ⟨tb,0,E⟩=G (ab a l.length z):=by rw[zB F];rfl
 have c1:w.cell? ⟨tb,1,E⟩=G (L K (k:M)):=by rw[zB F];rfl
 have f1:w.frozen? ⟨tb,1,E⟩=false:=zD F 1;have hm:=D.lenmax;have o:∀ m:C,Tape ((w.setCell ⟨tb,1,E⟩ (L K ((k:M)+1))).drewN m) I tb (k+1)/\Fr (Is tb) w ((w.setCell ⟨tb,1,E⟩ (L K ((k:M)+1))).drewN m):=λm=>by
  have V:Fr (Is tb) w ((w.setCell ⟨tb,1,E⟩ (L K ((k:M)+1))).drewN m):=(Fr.setCell (S:=Is tb) (p:=⟨tb,1,E⟩) (Fr.refl _ _) (λ_=>rfl) _).drewN m;refine⟨⟨a,z,l,T,D.fr V (λad e J h=>by have:=U ad e J;omega),U,Z,?_⟩,V⟩;show (w.setCell ⟨tb,1,E⟩ (L K ((k:M)+1))).heap[tb]?=_
  rw[zE F];rfl
 have u:=zh o;clear o;by_cases N:k<l.length
 .obtain⟨b,a2,x,rfl,X,hc⟩:=D.at N;have Hx:=zh (D.wf x (aw X));have A:(k:M)<l.length:=by omega
  clear X
  go_enter bm,bn
  go_wp2_with fail
  go_quiet (fail)
  go_wp2_with fail
  go_quiet (fail)
  go_wp2_with fail
  refine(zIJ _ n _ O R Hx.out).mono ?_;rintro e w1 ⟨r,rfl,v,y,rfl⟩
  go_wp2_with fail
  go_ret;exact⟨r,rfl,v,y,u.out _⟩
 .have A:¬ (k:M)<l.length:=by omega
  go_enter bm,bn
  go_wp2_with fail
  go_quiet (fail)
  go_wp2_with fail
  refine(zIJ _ n _ O R (WalkArith.wf_i64 (by omega))).mono ?_;rintro e w1 ⟨r,rfl,v,y,rfl⟩
  go_wp2_with fail
  go_ret;exact⟨r,rfl,v,y,u.out _⟩
structure Dev where
 index:M
 parent:M
 name:ah
 orig:ah
 sub:ah
 drv:ah
 ali:ah
 kind:M
 num:M
 aa:ae Addr
 an:C
 ac:C
def Dev.cell (d:Dev):C->a1
 | 0=>L K d.index
 | 1=>L K d.parent
 | 2=>a0 d.name
 | 3=>a0 d.orig
 | 4=>a0 d.sub
 | 5=>a0 d.drv
 | 6=>a0 d.ali
 | 7=>L K d.kind
 | 8=>L K d.num
 | _=>ab d.aa d.an d.ac
def Dev.vals (d:Dev):ai a1:=#[L K d.index,L K d.parent,a0 d.name,a0 d.orig,a0 d.sub,a0 d.drv,a0 d.ali,L K d.kind,L K d.num,ab d.aa d.an d.ac]
def Dev.zero : Dev:=⟨0,0,ag,ag,ag,ag,ag,0,0,E,0,0⟩
structure Devs (w:c)(a:ae Addr)(cap:C)(ds:q Dev):Prop where
 len:ds.length<=cap
 max:cap<=am
 isNil:a=E->ds=[]/\cap=0
 cell:∀ ad,a=G ad->ds≠[]->ad.spot=E/\ad.block<(w:C)/\∀ i d,ds[i]?=G d->∀ j,j<10->w.cell? ⟨ad.block,ad.off+(i*10+j),E⟩=G (d.cell j)
theorem Devs.at {ds:q Dev}(h:Devs w a v ds)(u:k<ds.length):
  ∃ b o d,a=G ⟨b,o,E⟩/\ds[k]?=G d/\∀ j,j<10->w.cell? ⟨b,o+(k*10+j),E⟩=G (d.cell j):=by
 cases a with
 | none=>obtain⟨rfl,_⟩:=h.isNil rfl;simp at u
 | some z=>
  obtain⟨b,o,D⟩:=z;obtain⟨y,F,A⟩:=h.cell _ rfl (by intro e;subst e;simp at u);simp at y;subst y;exact⟨b,o,ds[k],rfl,bf u,A k _ (bf u)⟩
structure DevAt (w:c)(b o:C)(d:Dev):Prop where
 c0:w.cell? ⟨b,o,E⟩=G (L K d.index)
 c1:w.cell? ⟨b,o+1,E⟩=G (L K d.parent)
 c2:w.cell? ⟨b,o+2,E⟩=G (a0 d.name)
 c3:w.cell? ⟨b,o+3,E⟩=G (a0 d.orig)
 c4:w.cell? ⟨b,o+4,E⟩=G (a0 d.sub)
 c5:w.cell? ⟨b,o+5,E⟩=G (a0 d.drv)
 c6:w.cell? ⟨b,o+6,E⟩=G (a0 d.ali)
 c7:w.cell? ⟨b,o+7,E⟩=G (L K d.kind)
 c8:w.cell? ⟨b,o+8,E⟩=G (L K d.num)
 c9:w.cell? ⟨b,o+9,E⟩=G (ab d.aa d.an d.ac)
theorem Devs.dev {ds:q Dev}(h:Devs w a v ds)(y:k<ds.length):
  ∃ b u d,a=G ⟨b,u,E⟩/\ds[k]?=G d/\DevAt w b (u+k*10) d:=by
 obtain⟨b,u,d,z,A,o⟩:=h.at y;refine⟨b,u,d,z,A,?_⟩;exact⟨o 0 (by omega),o 1 (by omega),o 2 (by omega),o 3 (by omega),o 4 (by omega),o 5 (by omega),o 6 (by omega),o 7 (by omega),o 8 (by omega),o 9 (by omega)⟩
theorem Devs.lenmax {ds:q Dev}(h:Devs w a o ds):ds.length<=9223372036854775807:=by
 have v:=h.len;have u:=h.max;unfold am at u;omega
theorem Devs.fr {ds:q Dev}(h:Devs w a o ds)(y:Fr S w w')(z:∀ u,a=G u->ds≠[]->¬ S u.block):Devs w' a o ds:=
 ⟨h.len,h.max,h.isNil,λu e v=>by
  obtain⟨A,D,F⟩:=h.cell u e v;exact⟨A,ax D y.size,λi d I j J=>y.cell (F i d I j J) (z u e v)⟩⟩
theorem Devs.no {ds:q Dev}(h:Devs w a o ds)(u:Fr S w w')(v:∀ k,¬ S k):Devs w' a o ds:=h.fr u (λ_ _ _=>v _)
theorem Devs.nil (w:c):Devs w E 0 []:=⟨by simp,by simp,λ_=>⟨rfl,rfl⟩,λ_ e _=>by cases e⟩
def place : q Dev->M->M
 | [],_=>-1
 | d::t,n=>if d.index=n then 0 else if place t n<0 then -1 else place t n+1
theorem zHu : ∀ (ds:q Dev) (n:M),-1<=place ds n/\place ds n<ds.length
 | [],n=>by simp[place]
 | d::t,n=>by
  have:=zHu t n;unfold place;split
  .simp only[aj];omega
  .split<;>simp only[aj]<;>omega
theorem zCu : ∀ (ds:q Dev) (n:M) (k:C) (d:Dev),ds[k]?=G d->d.index=n->(∀ x∈ds.take k,x.index≠n)->place ds n=k
 | [],n,k,d,h,_,_=>by simp at h
 | x::t,n,0,d,h,e,_=>by simp at h;subst h;simp[place,e]
 | x::t,n,k+1,d,h,e,o=>by
  have u:x.index≠n:=o x (by simp);have v:=zCu t n k d (by simpa using h) e (λy z=>o y (by simp[z]));unfold place;rw[ak u,v];split<;>omega
theorem zCv : ∀ (ds:q Dev) (n:M),(∀ x∈ds,x.index≠n)->place ds n=-1
 | [],n,_=>rfl
 | x::t,n,h=>by
  unfold place;rw[ak (h x (by simp)),zCv t n (λy o=>h y (by simp[o]))];simp
theorem zJw (a:ae Addr)(v:C)(ds:q Dev)(n:M)(w:c)(A:Devs w a v ds):
  Calls al 219 #[ab a ds.length v,L K n] w λe w'=>e=.returned (L K (place ds n))/\w=w':=by
 have O:=A.lenmax
 go_enter Tryz.func219,Tryz.ntmps219
 go_wp2
 go_loop [5] (λi=>∃ k:C,k<=ds.length/\i=L K k/\Hid (∀ x∈ds.take k,x.index≠n)) (λi=>ds.length-(intOf i).toNat)
 case atStart=>exact⟨0,by omega,rfl,by unfold Hid;simp⟩
 case round=>
  obtain⟨k,R,rfl,u⟩:=hrel;by_cases z:k<ds.length
  .obtain⟨b,I,d,rfl,y,D⟩:=A.at z;have F:=zh y;have J:=D 0 (by omega);simp only[Dev.cell,Nat.add_zero]at J;clear y D;by_cases o:d.index=n
   .have N:(d.index==n)=true:=by simpa using o
    go_wp2;go_ret;exact⟨zA7 (zCu ds n k d F.out o u.out).symm,rfl⟩
   .have N:(d.index==n)=false:=by simpa using o
    go_wp2
    go_round
    case rel=>
     refine⟨k+1,by omega,by go_num,?_⟩;unfold Hid;intro x y;rw[List.take_add_one,F.out]at y;rcases List.mem_append.1 y with h|h
     .exact u.out x h
     .simp at h;subst h;exact o
    case measure=>simp[intOf];omega
  .obtain rfl:k=ds.length:=by omega
   have h:=u.out;rw[List.take_of_length_le (by omega)]at h;go_wp2;go_ret;exact⟨zA7 (zCv _ _ h).symm,rfl⟩
def devOf (ds:q Dev)(n:M):Dev:=if place ds n<0 then Dev.zero else (ds[(place ds n).toNat]?).getD Dev.zero
theorem zHr (a:ae Addr)(h:C)(ds:q Dev)(n:M)(w:c)(O:Devs w a h ds):
  Calls al 171 #[.agg #[ab a ds.length h],L K n] w λe w'=>e=.returned (.tuple #[.agg (devOf ds n).vals,.bool (decide (0<=place ds n))])/\Fr No w w':=by
 have R:Fr No w (w.alloc (af #[ab a ds.length h] 47)):=(Fr.refl _ _).alloc _;have U:Fr No w ((w.alloc (af #[ab a ds.length h] 47)).alloc (af #[L K 0,L K 0,a0 ag,a0 ag,a0 ag,a0 ag,a0 ag,L K 0,L K 0,ab E 0 0] 36)):=R.alloc _;have y:=O.no U (λ_=>id)
 go_enter Tryz.func171,Tryz.ntmps171
 go_wp2_with fail
 refine(zJw a h ds n _ y).mono ?_;rintro e Z ⟨rfl,rfl⟩;obtain⟨p,F⟩:∃ p,p=place ds n:=⟨_,rfl⟩
 have I:=zHu ds n;rw[<-F]at I;rw[<-F];have z:=zh F;clear F;by_cases o:p<0
 .have A:devOf ds n=Dev.zero:=by unfold devOf;rw[if_pos (by rw[<-z.out];exact o)]
  have J:=zh A;clear A;have N:Hid (decide (0<=place ds n)=false):=decide_eq_false (by rw[<-z.out];omega)
  go_wp2_with fail
  refine bodyPost_ret (v:=.tuple #[.agg Dev.zero.vals,.bool false]) (by simp[results,bo,go_sem,Dev.vals,Dev.zero];rfl) rfl ?_;refine(λ(u:Fr No w _)=>⟨by rw[J.out,N.out],u⟩) ?_
  repeat (first|exact Fr.refl _ _|refine Fr.alloc ?_ _|refine Fr.setNew ?_ (by simp) _)
 .obtain⟨k,rfl⟩:=Int.eq_ofNat_of_zero_le (by omega:0<=p);have V:k<ds.length:=by omega
  obtain⟨b,X,d,rfl,A,Y⟩:=y.dev V;have D:devOf ds n=d:=by
   unfold devOf;rw[ak (by rw[<-z.out];exact o),<-z.out,bd,A];rfl
  have J:=zh D;have N:Hid (decide (0<=place ds n)=true):=decide_eq_true (by rw[<-z.out];omega);clear D A;obtain⟨c0,c1,c2,c3,c4,c5,c6,c7,c8,c9⟩:=Y
  go_wp2_with fail
  refine bodyPost_ret (v:=.tuple #[.agg d.vals,.bool true]) (by simp[results,bo,go_sem,Dev.vals]) rfl ?_;refine(λ(u:Fr No w _)=>⟨by rw[J.out,N.out],u⟩) ?_
  repeat (first|exact Fr.refl _ _|refine Fr.alloc ?_ _|refine Fr.setNew ?_ (by simp) _)
theorem Fr.setAt {a:c}(h:Fr (Is b) a w)(v:a1):Fr (Is b) a (w.setCell ⟨b,i,E⟩ v):=h.setCell (p:=⟨b,i,E⟩) (λ_=>rfl) v
theorem zBA {W:c}(h:W.heap[b]?=G (af cs T))(u:cs.size=10)(p:Dev):
  ((((((((((W.setCell ⟨b,0,E⟩ (L K p.index)).setCell ⟨b,1,E⟩ (L K p.parent)).setCell ⟨b,2,E⟩ (a0 p.name)).setCell ⟨b,3,E⟩ (a0 p.orig)).setCell ⟨b,4,E⟩ (a0 p.sub)).setCell ⟨b,5,E⟩ (a0 p.drv)).setCell ⟨b,6,E⟩ (a0 p.ali)).setCell ⟨b,7,E⟩ (L K p.kind)).setCell ⟨b,8,E⟩ (L K p.num)).setCell ⟨b,9,E⟩ (ab p.aa p.an p.ac)).heap[b]?=G (af p.vals T)/\Fr (Is b) W ((((((((((W.setCell ⟨b,0,E⟩ (L K p.index)).setCell ⟨b,1,E⟩ (L K p.parent)).setCell ⟨b,2,E⟩ (a0 p.name)).setCell ⟨b,3,E⟩ (a0 p.orig)).setCell ⟨b,4,E⟩ (a0 p.sub)).setCell ⟨b,5,E⟩ (a0 p.drv)).setCell ⟨b,6,E⟩ (a0 p.ali)).setCell ⟨b,7,E⟩ (L K p.kind)).setCell ⟨b,8,E⟩ (L K p.num)).setCell ⟨b,9,E⟩ (ab p.aa p.an p.ac)):=by
 refine⟨?_,Fr.setAt (Fr.setAt (Fr.setAt (Fr.setAt (Fr.setAt (Fr.setAt (Fr.setAt (Fr.setAt (Fr.setAt (Fr.setAt (Fr.refl _ _) _) _) _) _) _) _) _) _) _) _⟩;obtain⟨l⟩:=cs
 match l,u with
 | [_,_,_,_,_,_,_,_,_,_],_=>
  have v:=zE h 0 (L K p.index);have y:=zE v 1 (L K p.parent);have z:=zE y 2 (a0 p.name);have A:=zE z 3 (a0 p.orig);have D:=zE A 4 (a0 p.sub);have F:=zE D 5 (a0 p.drv);have I:=zE F 6 (a0 p.ali);have J:=zE I 7 (L K p.kind);have N:=zE J 8 (L K p.num);have o:=zE N 9 (ab p.aa p.an p.ac);simp only[List.setIfInBounds_toArray,List.set_cons_zero,List.set_cons_succ]at o;exact o
def OkN (s:ah):Prop:=s.size<=32/\∀ b∈s.data.toList,b≠47
def look (ds:q Dev)(n:M):ae Dev:=ds.find? (λd=>decide (d.index=n))
theorem zo {ds:q Dev}:look ds n=E↔∀ d∈ds,d.index≠n:=by
 unfold look;rw[List.find?_eq_none];simp
theorem zAL {ds:q Dev}{d:Dev}(h:look ds n=G d):d∈ds/\d.index=n:=by
 unfold look at h;exact⟨List.mem_of_find?_eq_some h,by simpa using List.find?_some h⟩
theorem zAq : ∀ (ds:q Dev) (n:M),(look ds n=E/\place ds n=-1)\/∃ (k:C) (d:Dev),look ds n=G d/\place ds n=(k:M)/\ds[k]?=G d
 | [],n=>.inl ⟨rfl,rfl⟩
 | x::t,n=>by
  by_cases h:x.index=n
  .exact .inr ⟨0,x,by simp[look,h],by simp[place,h],rfl⟩
  .have v:look (x::t) n=look t n:=by simp[look,h]
   rw[v];rcases zAq t n with⟨o,u⟩|⟨k,d,o,u,y⟩
   .exact .inl ⟨o,by simp[place,h,u]⟩
   .refine .inr ⟨k+1,d,o,?_,by simpa using y⟩;have:¬ ((k:M)<0):=by omega
    simp[place,h,u,this]
theorem zDp {ds:q Dev}:place ds n<0↔look ds n=none:=by
 rcases zAq ds n with⟨o,u⟩|⟨k,d,o,u,v⟩
 .simp[o,u]
 .simp only[o,u];constructor
  .intro h;omega
  .intro h;cases h
theorem zJE {ds:q Dev}{d:Dev}(h:look ds n=G d):devOf ds n=d:=by
 rcases zAq ds n with⟨o,u⟩|⟨k,e,o,u,v⟩
 .rw[h]at o;cases o
 .rw[h]at o;cases o;unfold devOf;rw[u,ak (by omega),bd,v];rfl
theorem zJD {ds:q Dev}(h:look ds n=E):devOf ds n=Dev.zero:=by
 unfold devOf;rw[if_pos (zDp.2 h)]
def chainK (ds:q Dev):C->M->q Dev
 | 0,_=>[]
 | k+1,n=>match look ds n with
  | none=>[]
  | some d=>d::chainK ds k d.parent
def chain (ds:q Dev)(n:M):q Dev:=chainK ds ds.length n
def origin (ds:q Dev)(n:M):q ah:=((chain ds n).map Dev.orig).reverse
theorem zE3 (ds:q Dev):∀ (k:C) (n:M),(chainK ds k n).length<=k
 | 0,_=>by simp[chainK]
 | k+1,n=>by
  unfold chainK;cases look ds n with
  | none=>simp
  | some d=>have:=zE3 ds k d.parent;simp only[aj];omega
theorem zCh (ds:q Dev)(n:M):(chain ds n).length<=ds.length:=zE3 ds _ n
theorem zE1 (ds:q Dev):∀ (k:C) (n:M) (d:Dev),d∈chainK ds k n->d∈ds
 | 0,_,d,h=>by simp[chainK]at h
 | k+1,n,d,h=>by
  unfold chainK at h;cases e:look ds n with
  | none=>rw[e]at h;simp at h
  | some x=>
   rw[e]at h;rcases List.mem_cons.1 h with h|h
   .subst h;exact(zAL e).1
   .exact zE1 ds k _ d h
theorem zEH {ds:q Dev}{d:Dev}(h:d∈chain ds n):d∈ds:=zE1 ds _ n d h
theorem zAy {ds:q Dev}(h:look ds n=E)(k:C):chainK ds k n=[]:=by
 cases k<;>simp[chainK,h]
inductive Ch (ds:q Dev):M->q Dev->Prop
 | nil {n:M} (h:look ds n=E):Ch ds n []
 | cons {n:M} {d:Dev} {l:q Dev} (h:look ds n=G d) (t:Ch ds d.parent l):Ch ds n (d::l)
theorem Ch.fuel {ds:q Dev}{l:q Dev}(h:Ch ds n l):∀ k,l.length<=k->chainK ds k n=l:=by
 induction h with
 | nil h=>intro k _;exact zAy h k
 | cons h t u=>
  intro k o;cases k with
  | zero=>simp at o
  | succ k=>unfold chainK;rw[h];simp only[aj]at o;simp only[u k (by omega)]
theorem Ch.det {ds:q Dev}{l l':q Dev}(h:Ch ds n l)(o:Ch ds n l'):l=l':=by
 have u:=h.fuel (max l.length l'.length) (by omega);have v:=o.fuel (max l.length l'.length) (by omega);exact u.symm.trans v
structure TreeOk (ds:q Dev):Prop where
 nd:(ds.map Dev.index).Nodup
 ix:∀ d∈ds,1<=d.index/\d.index<=1073741824
 pa:∀ (k:C) (d:Dev),ds[k]?=G d->d.parent=0\/∃ (j:C) (e:Dev),j<k/\ds[j]?=G e/\e.index=d.parent
 nm:∀ d∈ds,OkN d.orig
theorem TreeOk.sz {ds:q Dev}(h:TreeOk ds):∀ d∈ds,d.orig.size<=32:=λd o=>(h.nm d o).1
theorem TreeOk.nil: TreeOk []:=⟨by simp,by simp,by simp,by simp⟩
section
variable {ds:q Dev}
theorem zu : ∀ {ds:q Dev},(ds.map Dev.index).Nodup->∀ {d:Dev},d∈ds->look ds d.index=G d
 | [],_,d,h=>by simp at h
 | x::t,o,d,h=>by
  simp only[ap,bi]at o;rcases List.mem_cons.1 h with h|h
  .subst h;simp[look]
  .have:x.index≠d.index:=by
    intro e;apply o.1;rw[e];exact List.mem_map_of_mem h
   have u:=zu o.2 h;unfold look at u ⊢;simp[this,u]
theorem TreeOk.lk (h:TreeOk ds){d:Dev}(o:d∈ds):look ds d.index=G d:=zu h.nd o
theorem TreeOk.zero (h:TreeOk ds):look ds 0=none:=zo.2 λd o e=>by have:=(h.ix d o).1;omega
theorem TreeOk.ch (h:TreeOk ds):∀ (k:C) (d:Dev),ds[k]?=G d->∃ l,Ch ds d.index l/\l.length<=k+1:=by
 intro k
 induction k using Nat.strongRecOn with
 | ind k y=>
  intro d o;have u:=aw o;rcases h.pa k d o with z|⟨j,e,A,D,F⟩
  .refine⟨[d],.cons (h.lk u) ?_,by simp⟩;rw[z];exact .nil h.zero
  .obtain⟨l,I,v⟩:=y j A e D;refine⟨d::l,.cons (h.lk u) (by rw[<-F];exact I),by simp only[aj];omega⟩
theorem TreeOk.chn (h:TreeOk ds){d:Dev}(v:look ds n=G d):Ch ds n (chain ds n):=by
 obtain⟨y,rfl⟩:=zAL v;obtain⟨k,o⟩:=bg y;obtain⟨l,u,A⟩:=h.ch k d o;have z:k<ds.length:=(List.getElem?_eq_some_iff.1 o).1;have e:chain ds d.index=l:=u.fuel ds.length (by omega);rw[e];exact u
theorem TreeOk.chn0 (h:TreeOk ds)(n:M):Ch ds n (chain ds n):=by
 cases e:look ds n with
 | none=>rw[show chain ds n=[]from zAy e _];exact .nil e
 | some d=>exact h.chn e
theorem TreeOk.chain_cons (h:TreeOk ds){d:Dev}(o:look ds n=G d):chain ds n=d::chain ds d.parent:=by
 exact(h.chn o).det (.cons o (h.chn0 _))
theorem TreeOk.chain_none (h:look ds n=E):chain ds n=[]:=zAy h _
theorem TreeOk.origin_cons (h:TreeOk ds){d:Dev}(o:look ds n=G d):origin ds n=origin ds d.parent++[d.orig]:=by
 unfold origin;rw[h.chain_cons o];simp
theorem TreeOk.origin_none (h:look ds n=E):origin ds n=[]:=by
 unfold origin;rw[TreeOk.chain_none h];rfl
end
def insAt (ds:q Dev)(k:C)(d:Dev):q Dev:=ds.take k++d::ds.drop k
theorem zX {ds:q Dev}{d e:Dev}:e∈insAt ds k d↔e=d\/e∈ds:=by
 unfold insAt;have h:e∈ds↔e∈ds.take k\/e∈ds.drop k:=by rw[<-bh,aq]
 rw[bh,List.mem_cons,h];constructor
 .rintro (h|h|h)
  .exact .inr (.inl h)
  .exact .inl h
  .exact .inr (.inr h)
 .rintro (h|h|h)
  .exact .inr (.inl h)
  .exact .inl h
  .exact .inr (.inr h)
theorem zCd {ds:q Dev}{d:Dev}:(insAt ds k d).length=ds.length+1:=by
 unfold insAt;have:=congrArg List.length (aq k ds);simp only[List.length_append,aj]at this ⊢;omega
theorem zDP {ds:q Dev}{d:Dev}(o:k<=ds.length)(h:i<k):(insAt ds k d)[i]?=ds[i]?:=by
 unfold insAt;rw[List.getElem?_append_left (by simp;omega),av h]
theorem zMC {ds:q Dev}{d:Dev}(h:k<=ds.length):(insAt ds k d)[k]?=G d:=by
 unfold insAt;rw[be (by simp;omega)];simp[bj h]
theorem zIE {ds:q Dev}{d:Dev}(h:k<=ds.length)(o:k<=i):(insAt ds k d)[i+1]?=ds[i]?:=by
 unfold insAt;rw[be (by simp;omega)];simp only[List.length_take,bj h];rw[show i+1-k=(i-k)+1 from by omega];simp only[List.getElem?_cons_succ,List.getElem?_drop];rw[show k+(i-k)=i from by omega]
theorem TreeOk.insert {ds:q Dev}(h:TreeOk ds){d:Dev}(v:k<=ds.length)(z:look ds d.index=E)(R:1<=d.index/\d.index<=1073741824)(U:OkN d.orig)
  (V:d.parent=0\/∃ (j:C) (e:Dev),j<k/\ds[j]?=G e/\e.index=d.parent):TreeOk (insAt ds k d):=by
 have I:=zo.1 z;refine⟨?_,?_,?_,?_⟩
 .unfold insAt;have X:=h.nd;rw[<-aq k ds,ao]at X;rw[ao,ap];have O:((d::(ds.take k++ds.drop k)).map Dev.index).Nodup:=by
   rw[ap,bi];refine⟨?_,by rwa [ao]⟩;rw[aq];intro Y;obtain⟨e,o,J⟩:=List.mem_map.1 Y;exact I e o J
  rw[ap,ao]at O;exact(List.perm_middle.nodup_iff).2 O
 .intro e o;rcases zX.1 o with rfl|o
  .exact R
  .exact h.ix e o
 .intro i e o;rcases Nat.lt_trichotomy i k with A|rfl|A
  .rw[zDP v A]at o;rcases h.pa i e o with D|⟨j,f,F,y,u⟩
   .exact .inl D
   .exact .inr ⟨j,f,F,by rw[zDP v (by omega)];exact y,u⟩
  .rw[zMC v]at o;cases o;rcases V with D|⟨j,f,F,y,u⟩
   .exact .inl D
   .exact .inr ⟨j,f,F,by rw[zDP v F];exact y,u⟩
  .obtain⟨i,rfl⟩:∃ m,i=m+1:=⟨i-1,by omega⟩
   rw[zIE v (by omega)]at o;rcases h.pa i e o with D|⟨j,f,F,y,u⟩
   .exact .inl D
   .by_cases N:j<k
    .exact .inr ⟨j,f,by omega,by rw[zDP v N];exact y,u⟩
    .exact .inr ⟨j+1,f,by omega,by rw[zIE v (by omega)];exact y,u⟩
 .intro e o;rcases zX.1 o with rfl|o
  .exact U
  .exact h.nm e o
theorem zFW {ds:q Dev}{d:Dev}(o:((insAt ds k d).map Dev.index).Nodup)(y:look ds d.index=E)(n:M):look (insAt ds k d) n=if n=d.index then G d else look ds n:=by
 split
 .rename_i e;subst e;exact zu o (zX.2 (.inl rfl))
 .rename_i v;cases hl:look ds n with
  | none=>
   rw[zo]at hl ⊢;intro e u;rcases zX.1 u with rfl|u
   .exact λh=>v h.symm
   .exact hl e u
  | some e=>
   obtain⟨u,rfl⟩:=zAL hl;exact zu o (zX.2 (.inr u))
theorem Ch.ins {ds:q Dev}{d:Dev}(z:TreeOk ds)(u:((insAt ds k d).map Dev.index).Nodup)(o:look ds d.index=E)(N:1<=d.index){l:q Dev}(h:Ch ds n l)(y:n≠d.index):Ch (insAt ds k d) n l:=by
 induction h with
 | nil h=>exact .nil (by rw[zFW u o,ak y];exact h)
 | @cons n e l h t A=>
  refine .cons (by rw[zFW u o,ak y];exact h) (A ?_);obtain⟨D,_⟩:=zAL h;obtain⟨j,F⟩:=bg D;rcases z.pa j e F with I|⟨O,f,_,J,v⟩
  .rw[I];omega
  .rw[<-v];exact zo.1 o f (aw J)
structure TreeWf (ds:q Dev):Prop where
 ok:TreeOk ds
 uo:∀ d∈ds,∀ e∈ds,origin ds d.index=origin ds e.index->d=e
 dp:∀ d∈ds,(origin ds d.index).length<=7
theorem TreeWf.nil: TreeWf []:=⟨TreeOk.nil,by simp,by simp⟩
theorem zCH {ds:q Dev}(o:TreeOk ds){l:q Dev}(h:Ch ds n l):chain ds n=l:=(o.chn0 n).det h
theorem TreeWf.insert {ds:q Dev}(h:TreeWf ds){d:Dev}(hk:k<=ds.length)(z:look ds d.index=E)(Y:1<=d.index/\d.index<=1073741824)(hs:OkN d.orig)(R:d.parent≠d.index)
  (hp:d.parent=0\/∃ (j:C) (e:Dev),j<k/\ds[j]?=G e/\e.index=d.parent) (Z:∀ e∈ds,origin ds e.index≠origin ds d.parent++[d.orig]) (hd:(origin ds d.parent).length<7):
  TreeWf (insAt ds k d)/\(∀ n,n≠d.index->chain (insAt ds k d) n=chain ds n)/\chain (insAt ds k d) d.index=d::chain ds d.parent:=by
 have N:=h.ok.insert hk z Y hs hp;have A:∀ n,n≠d.index->chain (insAt ds k d) n=chain ds n:=λn U=>zCH N ((h.ok.chn0 n).ins h.ok N.nd z Y.1 U)
 have D:chain (insAt ds k d) d.index=d::chain ds d.parent:=by
  rw[N.chain_cons (N.lk (zX.2 (.inl rfl))),A _ R]
 have o:∀ n,n≠d.index->origin (insAt ds k d) n=origin ds n:=λn U=>by unfold origin;rw[A n U]
 have u:origin (insAt ds k d) d.index=origin ds d.parent++[d.orig]:=by unfold origin;rw[D];simp
 have F:=zo.1 z;refine⟨⟨N,?_,?_⟩,A,D⟩
 .intro x V y hy J;rcases zX.1 V with O|v
  .rcases zX.1 hy with X|I
   .rw[O,X]
   .rw[O,u,o _ (F y I)]at J;exact absurd J.symm (Z y I)
  .rcases zX.1 hy with X|I
   .rw[X,u,o _ (F x v)]at J;exact absurd J (Z x v)
   .rw[o _ (F x v),o _ (F y I)]at J;exact h.uo x v y I J
 .intro x V;rcases zX.1 V with O|v
  .rw[O,u];simp;omega
  .rw[o _ (F x v)];exact h.dp x v
end Go.Proofs.YtckkocmhlhefpaaGreatDoor
