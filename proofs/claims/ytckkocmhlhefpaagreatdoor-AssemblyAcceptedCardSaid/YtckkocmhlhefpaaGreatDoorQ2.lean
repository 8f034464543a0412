import Derived.Test.YtckkocmhlhefpaaGreatDoorQ1
import Derived.OrdersHeld
import Derived.Maps.AppendAt
namespace Go.Proofs.YtckkocmhlhefpaaGreatDoor
open Go.RowKit Go.Maps
set_option linter.unusedVariables false
set_option maxRecDepth 100000
set_option maxHeartbeats 2000000
open Dev renaming vals->ax
open Fr renaming refl->ah
open Go renaming World->B,Act->a1,Oper->aa,Value->am,wpList->an,Addr->ao,execOp->ap,Program->au,wpAnyH->az,TypeId->b4,maxLen->b6,undef->b7,yielded->b8,wpAnyH_all->bf,wpAnyH_take->bg,wpList_append_own->cb
open Go.Code renaming region->br
open Go.Next renaming value->bz
open Go.Oper renaming quietAt->c4,wp_mono->c5
open Go.Proofs.Tryz renaming prog->bc
open Go.Region renaming ready->ay,wanted->b3,noSelect->bb,free->c6
open Go.Result renaming andThen_halt->c7,andThen_ok->c8
open Go.Sem renaming run_bind->bp
open Go.Value renaming string->ba
open Go.World renaming ownsRow_nil->c9,size_alloc->ca
open IntKind renaming i64->ag
open Obj renaming cells->b1
open Value renaming string->ab,slice->ae,int->af,agg->ar
open _root_ renaming Nat->E,List->H,Bool->ai,Option->ak,Array->al,ByteArray->b2,beq_iff_eq->b5,if_false->bd,if_true->be
open _root_.Array renaming getElem?_toList->bh,replicate->bq
open _root_.Bool renaming true->p,false->aq,and_eq_true->aw,false_eq_true->b9
open _root_.ByteArray renaming empty->aj
open _root_.List renaming eq_nil_of_length_eq_zero->bi,getElem?_eq_getElem->bj,getElem?_take_of_lt->bm,getElem?_toArray->bn,getElem?_append_left->bs,getElem?_append_right->bt,length_append->bu,mem_cons->bv,not_mem_nil->bw
open _root_.Nat renaming zero_add->bo,lt_of_lt_of_le->bx
open _root_.Option renaming some->G,none->a0
variable{o u n i j k b:E}{a:ak ao}{w W w':B}{P:au}{z:ak Tmp}{A F:H am}{y:ak (E×ai)}{l:H b2}{T e:b4}{v:am}{S:E->Prop}
def OnlyN (K:a1->B->Prop):Exit->a1->B->Prop
 | .normal,a,w=>K a w
 | _,_,_=>False
theorem OnlyN.mk {o:a1->B->Prop}{a:a1}(h:o a w):OnlyN o .normal a w:=h
def nth : H aa->E->ak aa
 | [],_=>a0
 | o::_,0=>G o
 | _::l,n+1=>nth l n
theorem zEn : ∀ (l:H aa) (i:E),nth l i=l[i]?
 | [],_=>by simp[nth]
 | _::_,0=>rfl
 | _::l,n+1=>by simp only[nth,List.getElem?_cons_succ];exact zEn l n
def zA6 : Op->ai
 | .move _ | .assign _ | .pick _ _ _ | .load _ _ | .nilCheck _ | .binOp _ _ _ _ _ | .unOp _ _ _ | .convert _ _ _ | .fieldAddr _ _ _ | .field _ _ _ | .indexAddr _ _ _ | .index _ _ _
 | .lookup _ _ _ _ | .extract _ _ | .build _ _ | .slice _ _ _ _ _ | .makeInterface _ _ | .makeFunc _ _ _=>p
 | .call c=>match c.callee with | .builtin .len=>p | .builtin .cap=>p|_=>aq
 | _=>aq
def zGm (P:au)(o:aa)(a:a1)(C:B->Prop)(v:am):Prop:=∀ W,C W->(ap a.eval o).run P W=.ok (.value v) W
theorem zHl {s:Sem am}{u:B}{n:Next}(h:(do pure (bz (← s)):Sem Next).run P W=.ok n u):∃ v,n=.value v:=by
 rw[bp]at h;cases hs:s.run P W with
 | ok x o=>rw[hs]at h;simp only[c8]at h;cases h;exact⟨x,rfl⟩
 | halt x o=>rw[hs]at h;simp only[c7]at h;cases h
theorem zDL {α:Type}{s:Sem α}{f:α->Sem Next}{u:B}{n:Next}(h:(s >>= f).run P W=.ok n u)(y:∀ x W,(f x).run P W=.ok n u->∃ v,n=.value v):∃ v,n=.value v:=by
 rw[bp]at h;cases hs:s.run P W with
 | ok x o=>rw[hs]at h;simp only[c8]at h;exact y x _ h
 | halt x o=>rw[hs]at h;simp only[c7]at h;cases h
theorem zBP {x:am}{o:B}{n:Next}(h:(pure (bz x):Sem Next).run P W=.ok n o):∃ v,n=.value v:=by
 cases h;exact⟨_,rfl⟩
theorem zCQ {o:B}{n:Next}(h:(runtimePanic .nilDeref:Sem Next).run P W=.ok n o):∃ v,n=.value v:=by
 unfold runtimePanic at h;simp[bp,goPanic,program,Sem.run]at h
theorem zBK (ρ:Operand->am)(o:aa)(z:zA6 o.op=p){I:B}{n:Next}(h:(ap ρ o).run P W=.ok n I):∃ v,n=.value v:=by
 obtain⟨J,N,F,O,A,D⟩:=o;cases N<;>simp only[zA6,b9]at z
 case nilCheck x=>
  unfold ap at h;dsimp only at h;split at h
  .exact zCQ h
  .exact zCQ h
  .exact zCQ h
  .split at h
   .exact zCQ h
   .refine zDL h λ_ _ h=>zDL h λ_ _ h=>?_
    split at h
    .exact zDL h λ_ _ h=>zBP h
    .exact zBP h
   .exact zBP h
  .exact zBP h
 case call c=>
  obtain⟨u,args,R⟩:=c;cases u with
  | value f=>simp at z
  | invoke r m=>simp at z
  | builtin b=>
   cases b<;>simp at z
   all_goals
    exact zHl h
 case move x=>unfold ap at h;exact zBP h
 case assign x=>unfold ap at h;exact zBP h
 case pick c x y=>
  unfold ap at h;dsimp only at h;refine zDL h λ_ _ h=>?_
  split at h<;>exact zBP h
 all_goals (unfold ap at h;exact zHl h)
structure Gr (T:E->Prop)(w:B) where
 W:B
 fr:Fr T w W
instance (T:E->Prop)(w:B):Inhabited (Gr T w):=⟨⟨w,ah _ _⟩⟩
def Cls (T:E->Prop)(w:B):B->Prop:=λW=>∃ g:Gr T w,W=g.W
def wpSig (P:au)(l:H aa)(Q:Exit->a1->B->Prop)(T:E->Prop):H (E×ai)->a1->B->Prop
 | [],a,w=>Q .normal a w
 | (i,mv)::σ,a,w=>match nth l i with
  | none=>False
  | some o=>
   if mv=p then an P l.toArray (OnlyN λa' w'=>Fr T w w'/\wpSig P l Q T σ a' w') [o] a w
   else zA6 o.op=p/\(if b3 o (b8 l.toArray a.tmps)=p then ∃ v,zGm P o a (Cls T w) v/\wpSig P l Q T σ (a.put o.dst v) w else wpSig P l Q T σ (a.put o.dst b7) w)
def schedB (ops:al aa):H (E×ai)->al ai->ai
 | [],listed=>(ay .any ops listed).isEmpty
 | (i,mv)::σ,listed=>(if mv then ay .any ops listed==[i]else (ay .any ops listed).contains i&&c6 .any ops listed i)&&schedB ops σ (listed.setIfInBounds i p)
section
variable {P:au}{ops:al aa}{Q:Exit->a1->B->Prop}{md:Region.Mode}{S S':B->Prop}
theorem zEP (h:∀ W,S W->S' W):∀ (fuel:E) (o:al ai) (a:a1) (w:B),az P md ops Q S fuel o a w->az P md ops Q S' fuel o a w
 | 0,_,_,_,u=>u
 | fuel+1,_,_,_,u=>⟨u.1,λi y=>wpOp_mono (λz w' v=>⟨h _ v.1,zEP h fuel _ z w' v.2⟩) (u.2 i y)⟩
theorem zGp {o:aa}{a:a1}{z A:a1->B->Prop}(u:o.wp P a w z (OnlyN A)):o.wp P a w z Q:=by
 unfold Oper.wp at *;generalize (ap a.eval o).run P w=r at *;cases r with
 | ok n w'=>
  cases n<;>simp only[Oper.upon]at u ⊢
  case value=>exact u
  case skip=>exact u
  case defer=>exact u
  case enter=>
   refine Calls.mono u (λe D y=>?_);cases e with
   | returned v=>exact y
   | panicked c=>exact y.elim
   | outgrown=>obtain⟨_,_,h⟩:=y;exact h.elim
  case row=>exact Rows.mono u (λ_ _ y=>y)
 | halt x w'=>
  cases x<;>simp only[Oper.upon]at u ⊢
  case panic=>exact u.elim
theorem zIV (T:E->Prop)(w:B):Cls T w w:=⟨⟨w,ah _ _⟩,rfl⟩
theorem zA1 {l:H aa}{T:E->Prop}(F:bb l.toArray=p):∀ (σ:H (E×ai)) (listed:al ai) (a:a1) (w:B),
  schedB l.toArray σ listed=p->wpSig P l Q T σ a w->az P .any l.toArray (OnlyN (Q .normal)) (Fr T w) σ.length listed a w
 | [],listed,a,w,J,h=>wpAnyH_done (P:=P) (S:=Fr T w) (Q:=OnlyN (Q .normal)) (md:=.any) (by simpa [schedB]using J) (show OnlyN (Q .normal) .normal a w from h) 0
 | (i,R)::σ,listed,a,w,J,h=>by
  simp only[schedB,aw]at J;obtain⟨u,z⟩:=J;simp only[wpSig]at h;cases hn:nth l i with
  | none=>rw[hn]at h;exact h.elim
  | some o=>
   rw[hn]at h;have N:l.toArray[i]?=G o:=by rw[bn,<-zEn];exact hn
   cases R with
   | true=>
    simp only[be,b5]at u h;refine bf (rs:=[i]) u (by simp) ?_;intro j U;obtain rfl:j=i:=by simpa using U
    have y:∀ D w',(Fr T w w'/\wpSig P l Q T σ D w')->Fr T w w'/\az P .any l.toArray (OnlyN (Q .normal)) (Fr T w) σ.length (listed.setIfInBounds j p) D w':=λD w' I=>
     ⟨I.1,zEP (λW O=>I.1.step O zi) _ _ _ _ (zA1 F σ _ D w' z I.2)⟩
    unfold wpOp;simp only[N];unfold an at h;split
    .rename_i A;rw[if_pos A]at h;rcases h with h|⟨_,h⟩
     .exact .inl (c5 (λD w' I=>y D w' I) (zGp h))
     .obtain⟨_,_,h⟩:=h;exact h.elim
    .rename_i A;rw[if_neg A]at h;exact y _ _ h
   | false=>
    simp only[b9,bd,aw]at u h;obtain⟨X,h⟩:=h;split at h
    .rename_i A;obtain⟨v,V,h⟩:=h;exact bg N F u.2 u.1 (λ_ _ _ h=>h.elim) (.inl ⟨A,λW O=>V W ⟨⟨W,O⟩,rfl⟩⟩) (ah _ _) (zA1 F σ _ _ w z h)
    .rename_i A;exact bg N F u.2 u.1 (λ_ _ _ h=>h.elim) (.inr ⟨by simpa using A,rfl⟩) (ah _ _) (zA1 F σ _ _ w z h)
end
section
variable {P:au}{Q:Exit->a1->B->Prop}{T:E->Prop}{l:H aa}{σ:H (E×ai)}{a:a1}{w:B}
theorem zQ {y:E}(T:E->Prop)(σ:H (E×ai))(z:P.follows .mixedOrders=p)
  (o:(bb l.toArray&&(σ.length==l.length)&&schedB l.toArray σ (bq l.toArray.size aq))=p)
  (h:∀ u,Fr No w u->wpSig P l Q T σ a u):(br y l.toArray p).wp P Q a w:=by
 simp only[aw,b5]at o;have v:=zA1 (Q:=Q) o.1.1 σ _ a w.drew o.2 (h _ ((ah No w).drew));have A:l.toArray.size=σ.length:=by simp[o.1.2]
 rw[<-A]at v;refine wp_mono (wp_region_held (S:=Fr T w.drew) z v) λe a w h=>?_
 cases e<;>first|exact h|exact h.elim
theorem zb (h:Q .normal a w):wpSig P l Q T [] a w:=h
theorem zT {o:aa}(F:nth l i=G o)(A:zA6 o.op=p)(I:b3 o (b8 l.toArray a.tmps)=p)
  (h:∀ D:a1->Prop,(∀ z,wpSig P l Q T σ z w->D z)->o.quiet P a (λW=>∃ g:Gr T w,W=g.W) D):wpSig P l Q T ((i,aq)::σ) a w:=by
 obtain⟨v,J,N⟩:=h (λz=>wpSig P l Q T σ z w) (λ_ h=>h);simp only[wpSig,F,b9,bd,I,be];refine⟨A,v,λW O=>?_,N⟩;have y:=J W O;unfold c4 at y;cases hr:(ap a.eval o).run P W with
 | halt x R=>rw[hr]at y;exact y.elim
 | ok n R=>
  obtain⟨u,rfl⟩:=zBK a.eval o A hr;rw[hr]at y;obtain⟨U,V⟩:=y;rw[U,V]
theorem zU {F:Op}{o:b4}{A:String}{u:al Edge}(J:nth l i=G ⟨z,F,o,A,u,y⟩)(N:zA6 F=p)
  (O:b3 ⟨z,F,o,A,u,y⟩ (b8 l.toArray a.tmps)=aq)
  (h:∀ I:a1->Prop,(∀ D,wpSig P l Q T σ D w->I D)->(⟨z,.assign (.const b7),o,A,#[],a0⟩:aa).quiet P a (λW=>∃ g:Gr T w,W=g.W) I):wpSig P l Q T ((i,aq)::σ) a w:=by
 obtain⟨v,R,U⟩:=h (λD=>wpSig P l Q T σ D w) (λ_ h=>h);simp only[wpSig,J,b9,bd,O];refine⟨N,?_⟩;have V:=R w (zIV T w);obtain⟨_,rfl⟩:=(V:w=w/\b7=v)
 exact U
theorem zt {o:aa}(u:nth l i=G o)(h:an P l.toArray (OnlyN λv w'=>Fr T w w'/\wpSig P l Q T σ v w') [o] a w):wpSig P l Q T ((i,p)::σ) a w:=by
 simp only[wpSig,u,be];exact h
end
inductive Sg where
 | fin:Sg
 | q (i:E) (n:Sg):Sg
 | m1 (i:E) (n:Sg):Sg
 | m2 (i:E) (n:Sg) (j:E) (n':Sg):Sg
 | m3 (i:E) (n:Sg) (j:E) (n':Sg) (k:E) (n'':Sg):Sg
def Sg.size : Sg->E
 | .fin=>0
 | .q _ n=>n.size+1
 | .m1 _ n=>n.size+1
 | .m2 _ n _ _=>n.size+1
 | .m3 _ n _ _ _ _=>n.size+1
def schedT (ops:al aa):Sg->al ai->ai
 | .fin,listed=>(ay .any ops listed).isEmpty
 | .q i n,listed=>(ay .any ops listed).contains i&&c6 .any ops listed i&&schedT ops n (listed.setIfInBounds i p)
 | .m1 i n,listed=>(ay .any ops listed==[i])&&schedT ops n (listed.setIfInBounds i p)
 | .m2 i n j n',listed=>(ay .any ops listed==[i,j])&&(n'.size==n.size)&&schedT ops n (listed.setIfInBounds i p)&&schedT ops n' (listed.setIfInBounds j p)
 | .m3 i n j n' k n'',listed=>(ay .any ops listed==[i,j,k])&&(n'.size==n.size)&&(n''.size==n.size)&&schedT ops n (listed.setIfInBounds i p)&&schedT ops n' (listed.setIfInBounds j p)&&schedT ops n'' (listed.setIfInBounds k p)
def wpMv (P:au)(l:H aa)(T:E->Prop)(i:E)(K:a1->B->Prop)(a:a1)(w:B):Prop:=
 match nth l i with
 | none=>False
 | some o=>an P l.toArray (OnlyN λa' w'=>Fr T w w'/\K a' w') [o] a w
def wpSg (P:au)(l:H aa)(M:a1->B->Prop)(T:E->Prop):Sg->a1->B->Prop
 | .fin,a,w=>M a w
 | .q i n,a,w=>match nth l i with
  | none=>False
  | some o=>zA6 o.op=p/\(if b3 o (b8 l.toArray a.tmps)=p then ∃ v,zGm P o a (Cls T w) v/\wpSg P l M T n (a.put o.dst v) w else wpSg P l M T n (a.put o.dst b7) w)
 | .m1 i n,a,w=>wpMv P l T i (wpSg P l M T n) a w
 | .m2 i n j n',a,w=>wpMv P l T i (wpSg P l M T n) a w/\wpMv P l T j (wpSg P l M T n') a w
 | .m3 i n j n' k n'',a,w=>wpMv P l T i (wpSg P l M T n) a w/\wpMv P l T j (wpSg P l M T n') a w/\wpMv P l T k (wpSg P l M T n'') a w
section
variable {P:au}{M:a1->B->Prop}
theorem zC1 {l:H aa}{T:E->Prop}{D:a1->B->Prop}{v:E}{u:al ai}{a:a1}(h:wpMv P l T i D a w)
  (I:∀ y w',D y w'->az P .any l.toArray (OnlyN M) (Fr T w') v (u.setIfInBounds i p) y w'):
  wpOp P l.toArray (OnlyN M) i (λy w'=>Fr T w w'/\az P .any l.toArray (OnlyN M) (Fr T w) v (u.setIfInBounds i p) y w') a w:=by
 unfold wpMv at h;cases ho':nth l i with
 | none=>rw[ho']at h;exact h.elim
 | some o=>
  rw[ho']at h;dsimp only at h;have J:l.toArray[i]?=G o:=by rw[bn,<-zEn];exact ho'
  have z:∀ y w',(Fr T w w'/\D y w')->Fr T w w'/\az P .any l.toArray (OnlyN M) (Fr T w) v (u.setIfInBounds i p) y w':=λy w' A=>
   ⟨A.1,zEP (λW N=>A.1.step N zi) _ _ _ _ (I y w' A.2)⟩
  unfold wpOp;simp only[J];unfold an at h;split
  .rename_i F;rw[if_pos F]at h;rcases h with h|⟨_,h⟩
   .exact .inl (c5 (λy w' A=>z y w' A) (zGp h))
   .obtain⟨_,_,h⟩:=h;exact h.elim
  .rename_i F;rw[if_neg F]at h;exact z _ _ h
theorem anyT {l:H aa}{T:E->Prop}(I:bb l.toArray=p):∀ (σ:Sg) (u:al ai) (a:a1) (w:B),
  schedT l.toArray σ u=p->wpSg P l M T σ a w->az P .any l.toArray (OnlyN M) (Fr T w) σ.size u a w
 | .fin,u,a,w,z,h=>wpAnyH_done (P:=P) (S:=Fr T w) (Q:=OnlyN M) (md:=.any) (by simpa [schedT]using z) (show OnlyN M .normal a w from h) 0
 | .q i n,u,a,w,z,h=>by
  simp only[schedT,aw]at z;obtain⟨y,A⟩:=z;simp only[wpSg]at h;cases hn:nth l i with
  | none=>rw[hn]at h;exact h.elim
  | some o=>
   rw[hn]at h;have Z:l.toArray[i]?=G o:=by rw[bn,<-zEn];exact hn
   obtain⟨hv,h⟩:=h;split at h
   .rename_i O;obtain⟨v,hy,h⟩:=h;exact bg Z I y.2 y.1 (λ_ _ _ h=>h.elim) (.inl ⟨O,λW hW=>hy W ⟨⟨W,hW⟩,rfl⟩⟩) (ah _ _) (anyT I n _ _ w A h)
   .rename_i O;exact bg Z I y.2 y.1 (λ_ _ _ h=>h.elim) (.inr ⟨by simpa using O,rfl⟩) (ah _ _) (anyT I n _ _ w A h)
 | .m1 i n,u,a,w,z,h=>by
  simp only[schedT,aw,b5]at z;refine bf (rs:=[i]) z.1 (by simp) ?_;intro j hj;obtain rfl:j=i:=by simpa using hj
  exact zC1 h (λD w' F=>anyT I n _ D w' z.2 F)
 | .m2 i n j R,u,a,w,z,h=>by
  simp only[schedT,aw,b5]at z;obtain⟨⟨⟨y,J⟩,A⟩,N⟩:=z;refine bf (rs:=[i,j]) y (by simp) ?_;intro x U;simp only[bv,bw,or_false]at U;by_cases e:x=i
  .subst e;exact zC1 h.1 (λD w' F=>anyT I n _ D w' A F)
  .obtain rfl:x=j:=by omega
   exact zC1 h.2 (λD w' F=>by have:=anyT I R _ D w' N F;rwa [J]at this)
 | .m3 i n j R k V,u,a,w,z,h=>by
  simp only[schedT,aw,b5]at z;obtain⟨⟨⟨⟨⟨y,J⟩,X⟩,A⟩,N⟩,Y⟩:=z;refine bf (rs:=[i,j,k]) y (by simp) ?_;intro x U;simp only[bv,bw,or_false]at U;by_cases e:x=i
  .subst e;exact zC1 h.1 (λD w' F=>anyT I n _ D w' A F)
  .by_cases e2:x=j
   .subst e2;exact zC1 h.2.1 (λD w' F=>by have:=anyT I R _ D w' N F;rwa [J]at this)
   .obtain rfl:x=k:=by omega
    exact zC1 h.2.2 (λD w' F=>by have:=anyT I V _ D w' Y F;rwa [X]at this)
end
section
variable {P:au}{M:a1->B->Prop}{T:E->Prop}{l:H aa}{σ σ' σ'':Sg}{a:a1}{w:B}
theorem zZ {z:E}{Q:Exit->a1->B->Prop}(T:E->Prop)(σ:Sg)(M:a1->B->Prop)(A:P.follows .mixedOrders=p)
  (o:(bb l.toArray&&(σ.size==l.length)&&schedT l.toArray σ (bq l.toArray.size aq))=p)
  (h:∀ u,Fr No w u->wpSg P l M T σ a u) (D:∀ v w',M v w'->Q .normal v w'):(br z l.toArray p).wp P Q a w:=by
 simp only[aw,b5]at o;have y:=anyT (M:=M) o.1.1 σ _ a w.drew o.2 (h _ ((ah No w).drew));have F:l.toArray.size=σ.size:=by simp[o.1.2]
 rw[<-F]at y;refine wp_mono (wp_region_held (S:=Fr T w.drew) A y) λe a w h=>?_
 cases e<;>first|exact D _ _ h|exact h.elim
theorem zV (h:M a w):wpSg P l M T .fin a w:=h
theorem zL {o:aa}(F:nth l i=G o)(A:zA6 o.op=p)(I:b3 o (b8 l.toArray a.tmps)=p)
  (h:∀ D:a1->Prop,(∀ z,wpSg P l M T σ z w->D z)->o.quiet P a (λW=>∃ g:Gr T w,W=g.W) D):wpSg P l M T (.q i σ) a w:=by
 obtain⟨v,J,N⟩:=h (λz=>wpSg P l M T σ z w) (λ_ h=>h);simp only[wpSg,F,I,be];refine⟨A,v,λW O=>?_,N⟩;have y:=J W O;unfold c4 at y;cases hr:(ap a.eval o).run P W with
 | halt x R=>rw[hr]at y;exact y.elim
 | ok n R=>
  obtain⟨u,rfl⟩:=zBK a.eval o A hr;rw[hr]at y;obtain⟨U,V⟩:=y;rw[U,V]
theorem zJ {F:Op}{o:b4}{A:String}{u:al Edge}(J:nth l i=G ⟨z,F,o,A,u,y⟩)(N:zA6 F=p)
  (O:b3 ⟨z,F,o,A,u,y⟩ (b8 l.toArray a.tmps)=aq)
  (h:∀ I:a1->Prop,(∀ D,wpSg P l M T σ D w->I D)->(⟨z,.assign (.const b7),o,A,#[],a0⟩:aa).quiet P a (λW=>∃ g:Gr T w,W=g.W) I):wpSg P l M T (.q i σ) a w:=by
 obtain⟨v,R,U⟩:=h (λD=>wpSg P l M T σ D w) (λ_ h=>h);simp only[wpSg,J,b9,bd,O];refine⟨N,?_⟩;have V:=R w (zIV T w);obtain⟨_,rfl⟩:=(V:w=w/\b7=v)
 exact U
theorem zI2 {o:aa}{u:a1->B->Prop}(v:nth l i=G o)(h:an P l.toArray (OnlyN λy w'=>Fr T w w'/\u y w') [o] a w):wpMv P l T i u a w:=by
 unfold wpMv;rw[v];exact h
theorem zH {o:aa}(u:nth l i=G o)(h:an P l.toArray (OnlyN λv w'=>Fr T w w'/\wpSg P l M T σ v w') [o] a w):wpSg P l M T (.m1 i σ) a w:=zI2 u h
theorem zAA {o y:aa}(z:nth l i=G o)(u:nth l j=G y)(h:an P l.toArray (OnlyN λv w'=>Fr T w w'/\wpSg P l M T σ v w') [o] a w)
  (A:an P l.toArray (OnlyN λv w'=>Fr T w w'/\wpSg P l M T σ' v w') [y] a w):wpSg P l M T (.m2 i σ j σ') a w:=⟨zI2 z h,zI2 u A⟩
theorem zNI {o D u:aa}(F:nth l i=G o)(z:nth l j=G D)(v:nth l k=G u)(h:an P l.toArray (OnlyN λy w'=>Fr T w w'/\wpSg P l M T σ y w') [o] a w)
  (I:an P l.toArray (OnlyN λy w'=>Fr T w w'/\wpSg P l M T σ' y w') [D] a w) (A:an P l.toArray (OnlyN λy w'=>Fr T w w'/\wpSg P l M T σ'' y w') [u] a w):wpSg P l M T (.m3 i σ j σ' k σ'') a w:=⟨zI2 F h,zI2 z I,zI2 v A⟩
end
theorem infoD: (Tryz.prog.info? 36).map (λi=>(i.zero,i.size,i.bytes))=G (G (ar #[af ag 0,af ag 0,ab aj,ab aj,ab aj,ab aj,ab aj,af ag 0,af ag 0,ae a0 0 0]),10,136):=by kernel_rfl
theorem infoS: (Tryz.prog.info? 9).map (λi=>(i.zero,i.size,i.bytes))=G (G (ab aj),1,16):=by kernel_rfl
theorem zP {z:H am}(h:w.ownsRow o e u v n z)(y:v.ownBlock=G b):From o b:=by
 obtain⟨_,⟨rfl,_⟩|⟨g,A,D,rfl,F,_⟩⟩:=h
 .cases y
 .cases y;exact F
theorem zI {y:H am}(h:w.ownsRow o e u v n y):∃ a c,v=ae a n c:=by
 obtain⟨_,⟨rfl,rfl⟩|⟨g,z,A,rfl,D,_⟩⟩:=h
 .exact⟨_,_,rfl⟩
 .exact⟨_,_,rfl⟩
theorem zAi {base':E}(h:w.ownsRow o e u v n A)(F:base'<=o):w.ownsRow base' e u v n A:=by
 obtain⟨D,h|⟨g,y,z,h,I,r⟩⟩:=h
 .exact⟨D,.inl h⟩
 .exact⟨D,.inr ⟨g,y,z,h,Nat.le_trans F I,r⟩⟩
theorem zY (h:w.ownsRow o e u v n A)(z:v.ownBlock=G b):b<(w:E):=by
 obtain⟨_,⟨rfl,_⟩|⟨g,D,F,rfl,I,y,_⟩⟩:=h
 .cases z
 .cases z;exact zC y
theorem zB5 {z:B}{y:E}(h:w.ownsRow u e y v n A){o:Obj}(D:(w.alloc o).grownBy z v.ownBlock):Fr (From u) w z:=
 ((ah _ _).alloc o).step (Fr.of_grown D) (λb _ e=>zP h e)
theorem zAS {D:B}(h:w.ownsRow o e u v n F)(N:Fr S w D)(O:∀ b,o<=b->¬ S b):D.ownsRow o e u v n F:=by
 obtain⟨I,⟨rfl,y⟩|⟨g,z,A,rfl,J,R,U,y,V,X⟩⟩:=h
 .exact⟨I,.inl ⟨rfl,y⟩⟩
 .exact⟨I,.inr ⟨g,z,A,rfl,J,N.heap R (O g J),U,y,V,X⟩⟩
theorem zg (w:B)(h:al am)(t:b4)(o:(w:E)=b):∀ j u,h.toList[j]?=G u->(w.alloc (b1 h t)).cell? ((⟨b,0,a0⟩:ao).add j)=G u:=by
 intro j u v;subst o;rw[Addr.add_lit,zB (zF w (b1 h t))]
 simpa using v
def flat (l:H Dev):H am:=l.flatMap (λd=>d.vals.toList)
theorem zCe (l:H Dev)(d:Dev):flat (l++[d])=flat l++d.vals.toList:=by simp[flat]
theorem zMJ (l:H Dev):(flat l).length=l.length*10:=by
 induction l with
 | nil=>rfl
 | cons d t h=>
  have:flat (d::t)=d.vals.toList++flat t:=by simp[flat]
  rw[this,bu,h];simp[ax];omega
theorem zNE (d:Dev)(j:E)(h:j<10):d.vals.toList[j]?=G (d.cell j):=by
 unfold ax
 match j,h with
 | 0,_=>rfl
 | 1,_=>rfl
 | 2,_=>rfl
 | 3,_=>rfl
 | 4,_=>rfl
 | 5,_=>rfl
 | 6,_=>rfl
 | 7,_=>rfl
 | 8,_=>rfl
 | 9,_=>rfl
theorem zHI : ∀ (l:H Dev) (i:E) (d:Dev),l[i]?=G d->∀ j,j<10->(flat l)[i*10+j]?=G (d.cell j)
 | [],i,d,h,j,o=>by simp at h
 | x::t,0,d,h,j,o=>by
  simp at h;subst h;have:flat (x::t)=x.vals.toList++flat t:=by simp[flat]
  rw[this,bs (by simp[ax];omega)]
  simpa using zNE x j o
 | x::t,i+1,d,h,j,o=>by
  have:flat (x::t)=x.vals.toList++flat t:=by simp[flat]
  rw[this,bt (by simp[ax];omega)];have u:=zHI t i d (by simpa using h) j o;rw[show (i+1)*10+j-x.vals.toList.length=i*10+j from by simp[ax];omega];exact u
theorem zAT (d:Dev):∀ u∈d.vals.toList,u.oneCell'=true:=by
 intro u h;simp[ax]at h;rcases h with rfl|rfl|rfl|rfl|rfl|rfl|rfl|rfl|rfl|rfl<;>rfl
theorem zMI (l:H Dev):∀ u∈flat l,u.oneCell'=true:=by
 intro u h;obtain⟨d,o,h⟩:=List.mem_flatMap.1 h;exact zAT d u h
theorem Devs.of_own {l:H Dev}(h:w.ownsRow u e 10 v l.length (flat l)):
  ∃ a o,v=ae a l.length o/\Devs w a o l/\∀ y,a=G y->u<=y.block:=by
 obtain⟨_,⟨rfl,z⟩|⟨g,o,A,rfl,J,D,N,z,X,O⟩⟩:=h
 .have:l=[]:=bi z;subst this;exact⟨a0,0,rfl,Devs.nil w,λ_ e=>by cases e⟩
 .refine⟨G ⟨g,0,a0⟩,o,rfl,⟨N,z,(λe=>by cases e),?_⟩,λy e=>by cases e;exact J⟩;intro y e R;cases e;refine⟨rfl,zC D,λi d F j U=>?_⟩;rw[zB D];simp only[bo];have V:i<l.length:=(List.getElem?_eq_some_iff.1 F).1;have I:(A.toList.take (l.length*10))[i*10+j]?=(flat l)[i*10+j]?:=by rw[O]
  rw[bm (by omega),zHI l i d F j U]at I;rw[<-bh,I]
structure Strs (w:B)(a:ak ao)(cap:E)(l:H b2):Prop where
 len:l.length<=cap
 max:cap<=b6
 isNil:a=a0->l=[]/\cap=0
 cell:∀ ad,a=G ad->l≠[]->ad.spot=a0/\ad.block<(w:E)/\∀ i x,l[i]?=G x->w.cell? ⟨ad.block,ad.off+i,a0⟩=G (ab x)
theorem Strs.at {v:E}(h:Strs w a v l)(u:k<l.length):
  ∃ b o x,a=G ⟨b,o,a0⟩/\l[k]?=G x/\w.cell? ⟨b,o+k,a0⟩=G (ab x):=by
 cases a with
 | none=>obtain⟨rfl,_⟩:=h.isNil rfl;simp at u
 | some z=>
  obtain⟨b,o,D⟩:=z;obtain⟨y,F,A⟩:=h.cell _ rfl (by intro e;subst e;simp at u);simp at y;subst y;exact⟨b,o,l[k],rfl,by simp[u],A k _ (by simp[u])⟩
theorem Strs.lenmax (h:Strs w a o l):l.length<=9223372036854775807:=by
 have v:=h.len;have u:=h.max;unfold b6 at u;omega
theorem Strs.fr (h:Strs w a o l)(y:Fr S w w')(z:∀ u,a=G u->l≠[]->¬ S u.block):Strs w' a o l:=
 ⟨h.len,h.max,h.isNil,λu e v=>by
  obtain⟨A,D,F⟩:=h.cell u e v;exact⟨A,bx D y.size,λi x I=>y.cell (F i x I) (z u e v)⟩⟩
theorem Strs.no (h:Strs w a o l)(u:Fr S w w')(v:∀ k,¬ S k):Strs w' a o l:=h.fr u (λ_ _ _=>v _)
theorem Strs.nil (w:B):Strs w a0 0 []:=⟨by simp,by simp,λ_=>⟨rfl,rfl⟩,λ_ e _=>by cases e⟩
theorem Strs.of_own (h:w.ownsRow u e 1 v l.length (l.map ba)):
  ∃ a o,v=ae a l.length o/\Strs w a o l/\∀ y,a=G y->u<=y.block:=by
 obtain⟨_,⟨rfl,z⟩|⟨g,o,A,rfl,J,D,N,z,V,O⟩⟩:=h
 .have:l=[]:=bi z;subst this;exact⟨a0,0,rfl,Strs.nil w,λ_ e=>by cases e⟩
 .refine⟨G ⟨g,0,a0⟩,o,rfl,⟨N,z,(λe=>by cases e),?_⟩,λy e=>by cases e;exact J⟩;intro y e R;cases e;refine⟨rfl,zC D,λi x F=>?_⟩;rw[zB D];simp only[bo];have U:i<l.length:=(List.getElem?_eq_some_iff.1 F).1;have I:(A.toList.take (l.length*1))[i]?=(l.map ba)[i]?:=by rw[O]
  rw[bm (by omega)]at I;rw[<-bh,I];simp[F]
theorem zFJ (a:ak ao)(h:E)(ds:H Dev)(n:Int)(w:B)(u:Devs w a h ds)(o:look ds n=a0):
  Calls bc 171 #[ar #[ae a ds.length h],af ag n] w λe w'=>e=.returned (.tuple #[ar Dev.zero.vals,.bool aq])/\Fr No w w':=
 (zHr a h ds n w u).mono λe w' ⟨v,y⟩=>⟨by rw[v,zJD o,decide_eq_false (by have:=zDp.2 o;omega)],y⟩
theorem zFI (a:ak ao)(o:E)(ds:H Dev)(n:Int)(d:Dev)(w:B)(v:Devs w a o ds)(u:look ds n=G d):
  Calls bc 171 #[ar #[ae a ds.length o],af ag n] w λe w'=>e=.returned (.tuple #[ar d.vals,.bool p])/\Fr No w w':=
 (zHr a o ds n w v).mono λe w' ⟨y,z⟩=>⟨by
  rw[y,zJE u,decide_eq_true (by
   have A:¬ place ds n<0:=λh=>by rw[zDp.1 h]at u;cases u
   omega)],z⟩
theorem zEI {ds:H Dev}{n:Int}{d:Dev}(h:look ds n=G d)(k:E):chainK ds (k+1) n=d::chainK ds k d.parent:=by
 rw[chainK,h]
theorem zJx (a:ak ao)(o:E)(ds:H Dev)(n:Int)(w:B)(R:Devs w a o ds)(hb:ds.length<=1000000):
  Calls bc 122 #[ar #[ae a ds.length o],af ag n] w λe w'=>(∃ v,e=.returned v/\w'.ownsRow (w:E) 36 10 v (chain ds n).length (flat (chain ds n)))/\Fr No w w':=by
 obtain⟨i0,hi,U,V,X⟩:=info_parts infoD;have Y:Fr No w (w.alloc (b1 #[ae a ds.length o] 47)):=(ah _ _).alloc _;have Z:=R.no Y (λ_=>id);have a2:=zF w (b1 #[ae a ds.length o] 47);have hm:=R.lenmax
 go_enter Tryz.func122,Tryz.ntmps122
 go_wp2;generalize J:w.alloc (b1 #[ae a ds.length o] 47)=W0 at *;have a7:(w:E)+1<=(W0:E):=by rw[<-J];simp
 clear J
 go_loopw [1,5] (λi v wr=>∃ (pre:H Dev) (m:Int) (av:ak ao) (cv:E),pre.length<=ds.length/\i=af ag m/\v=ae av pre.length cv/\Hid (chain ds n=pre++chainK ds (ds.length-pre.length) m)/\wr.ownsRow ((w:E)+1) 36 10 (ae av pre.length cv) pre.length (flat pre)/\Fr (From ((w:E)+1)) W0 wr) (λ_ v _=>match v with | .slice _ k _=>ds.length-k|_=>0)
 case atStart=>exact⟨[],n,a0,0,by simp,rfl,rfl,by unfold Hid chain;simp,c9 _ _ _ _,ah _ _⟩
 case round=>
  obtain⟨pre,m,av,cv,hk,rfl,rfl,HC,D,z⟩:=hrel;have a8:=z.size;have a3:=z.heap a2 (by omega);have c0:wr.cell? ⟨w,0,a0⟩=G (ae a ds.length o):=zB a3 0;have N:=Z.fr z (λad e a4 hS=>by have:=(R.cell ad e a4).2.1;omega);by_cases a9:pre.length<ds.length
  .cases hlk:look ds m with
   | none=>
    have F:=zh hlk;clear hlk
    go_wp2_with fail
    refine(zFJ a o ds m _ N F.out).mono ?_;rintro e O ⟨rfl,A⟩;unfold ax Dev.zero
    go_wp2_with fail
    go_ret;have e:chain ds n=pre:=by rw[HC.out,zAy F.out,List.append_nil]
    rw[e];exact⟨⟨_,rfl,zAi ((zAS D A (λ_ _=>id)).alloc _) (by omega)⟩,((Y.step z (λb hb h=>by omega)).step A zi).alloc _⟩
   | some d=>
    have F:=zh hlk;clear hlk
    go_wp2_with fail
    refine(zFI a o ds m d _ N F.out).mono ?_;rintro e O ⟨rfl,A⟩;unfold ax;have u:=zAS D A (λ_ _=>id)
    go_wp2_with (at_builtin;refine cb _ rfl _ _ 45 rfl ((w:E)+1) 36 i0 (ar #[af ag 0,af ag 0,ab aj,ab aj,ab aj,ab aj,ab aj,af ag 0,af ag 0,ae a0 0 0]) 10 136 Tryz.underlying45 hi U V X rfl (by decide) _ _ _ rfl ((u.alloc _).alloc _) ⟨(O:E)+1,0,a0⟩ 1 1 d.vals.toList rfl rfl (zg _ d.vals _ (ca _ _)) (zAT d) (by unfold b6;omega) (by omega) (by have:=A.size;simp;omega) ?_;intro v' w2 I y _;have c1:w2.cell? ⟨O,1,a0⟩=G (af ag d.parent):=(Fr.of_grown y).cell (zB (zO O _ _) 1) (λe=>Nat.lt_irrefl _ (zY u e));obtain⟨a5,a6,rfl⟩:=zI I)
    go_roundw
    case rel=>
     refine⟨pre++[d],d.parent,a5,a6,by simp;omega,rfl,by simp,?_,by rw[bu,zCe];exact I,(z.step A zn).step (((ah (From ((w:E)+1)) O).alloc _).step (zB5 (u.alloc _) y) zi) zi⟩;unfold Hid;rw[HC.out,show ds.length-pre.length=(ds.length-(pre++[d]).length)+1 from by simp;omega,zEI F.out];simp
    case measure=>simp;omega
  .have e:chain ds n=pre:=by rw[HC.out,show ds.length-pre.length=0 from by omega];simp[chainK]
   have He:=zh e;clear e
   go_wp2_with fail
   go_ret;rw[He.out];exact⟨⟨_,rfl,zAi D (by omega)⟩,Y.step z (λb hb h=>by omega)⟩
theorem zBN (l:H b2):∀ u∈l.map ba,u.oneCell'=true:=by
 intro u h;obtain⟨x,_,rfl⟩:=List.mem_map.1 h;rfl
theorem zIv (a:ak ao)(y:E)(ds:H Dev)(n:Int)(w:B)(hl:Devs w a y ds)(hb:ds.length<=1000000):
  Calls bc 66 #[ar #[ae a ds.length y],af ag n] w λe w'=>(∃ v,e=.returned v/\w'.ownsRow (w:E) 9 1 v (origin ds n).length ((origin ds n).map ba))/\Fr No w w':=by
 obtain⟨i0,hi,R,U,V⟩:=info_parts infoS;have X:Fr No w (w.alloc (b1 #[ae a ds.length y] 47)):=(ah _ _).alloc _;have D:=hl.no X (λ_=>id);have a6:(origin ds n).length<=1000000:=by unfold origin;simp;have:=zCh ds n;omega
 go_enter Tryz.func66,Tryz.ntmps66
 go_wp2_with fail
 refine(zJx a y ds n _ D hb).mono ?_;rintro e F ⟨⟨v,rfl,o⟩,I⟩;have a7:(chain ds n).length<=1000000:=by have:=zCh ds n;omega
 have a8:(w:E)+1<=(F:E):=by have:=I.size;rwa [ca]at this
 obtain⟨ac,cc,rfl,hD,O⟩:=Devs.of_own o;have J:Hid (origin ds n=((chain ds n).map Dev.orig).reverse):=rfl;have N:=X.step I zi;clear o X D;generalize chain ds n=c at *
 go_wp2_with fail
 go_loopw [5,7] (λv i wr=>∃ (k:E) (Y:ak ao) (Z:E),k<=c.length/\i=af ag ((k:Int)-1)/\v=ae Y (c.length-k) Z/\wr.ownsRow (F:E) 9 1 (ae Y (c.length-k) Z) (c.length-k) ((((c.drop k).map Dev.orig).reverse).map ba)/\Fr (From (F:E)) F wr) (λ_ i _=>(intOf i+1).toNat)
 case atStart=>exact⟨c.length,a0,0,by omega,rfl,by simp,by simpa using c9 _ _ _ _,ah _ _⟩
 case round=>
  obtain⟨k,Y,Z,hk,rfl,rfl,o,z⟩:=hrel;have a9:=z.size;cases k with
  | zero=>
   go_wp2_with fail
   go_ret;rw[J.out];simp only[List.drop_zero,Nat.sub_zero]at o;exact⟨⟨_,rfl,by rw[List.length_reverse,List.length_map];exact zAi o (by omega)⟩,N.step z (λb hb h=>by omega)⟩
  | succ j=>
   have a2:=hD.fr z (λad e a3 hS=>by have:=(hD.cell ad e a3).2.1;omega);obtain⟨b,b0,d,rfl,hd,hc⟩:=a2.dev (by omega:j<c.length);have c3:=hc.c3;have Hd:=zh hd;clear hd hc;rw[show ((j+1:E):Int)-1=(j:Int)from by omega]
   go_wp2_with (at_builtin;refine cb _ rfl _ _ 30 rfl (F:E) 9 i0 (ab aj) 1 16 Tryz.underlying30 hi R U V rfl (by decide) _ _ _ rfl (o.alloc _) ⟨wr,0,a0⟩ 1 1 [ab d.orig] rfl rfl (cell_one_new _ _ _) (zBN [d.orig]) (by unfold b6;omega) (by omega) (by simp;omega) ?_;intro v' w2 u A _;obtain⟨a4,a5,rfl⟩:=zI u)
   go_roundw
   case rel=>
    have e:c.length-(j+1)+1=c.length-j:=by omega
    rw[e]at u ⊢;refine⟨j,a4,a5,by omega,rfl,rfl,?_,z.step (zB5 o A) zi⟩;rw[List.drop_eq_getElem_cons (by omega:j<c.length)];have e2:c[j]=d:=by have:=Hd.out;rw[bj (by omega)]at this;exact Option.some.inj this
    rw[e2]
    simpa using u
   case measure=>simp[intOf]
theorem Strs.keep {X:B}(h:Strs X a o l)(v:Fr S X W)(y:∀ b,b<(X:E)->¬ S b):Strs W a o l:=
 h.fr v (λz e u=>y _ (h.cell z e u).2.1)
def BlkT (w:B)(a:ak ao)(T:b4):Prop:=∀ ad,a=G ad->∃ cs,w.heap[ad.block]?=G (b1 cs T (0,0))
theorem BlkT.none (w:B)(T:b4):BlkT w a0 T:=λ_ e=>by cases e
theorem zAG {m c:E}{z:H am}(h:w.ownsRow o e u (ae a n c) m z):BlkT w a e:=by
 obtain⟨_,⟨v,_⟩|⟨g,A,y,v,F,D,_⟩⟩:=h
 .cases v;exact BlkT.none _ _
 .cases v;exact λI e=>by cases e;exact⟨y,D⟩
theorem BlkT.fr (h:BlkT w a T)(u:Fr S w w')(v:∀ o,a=G o->¬ S o.block):BlkT w' a T:=λo e=>by
 obtain⟨cs,y⟩:=h o e;exact⟨cs,u.heap y (v o e)⟩
theorem BlkT.ne (I:w.ownsRow o e u v n F)(h:BlkT w a T)(A:T≠e):∀ z,a=G z->¬ v.ownBlock=G z.block:=by
 intro z J D;obtain⟨cs,N⟩:=h z J;obtain⟨_,⟨rfl,_⟩|⟨g,O,R,rfl,U,y,_⟩⟩:=I
 .cases D
 .cases D;rw[N]at y;cases y;exact A rfl
theorem zG {D:B}(h:w.ownsRow o e u v n F)(J:Fr S w D)(N:∀ b,v.ownBlock=G b->¬ S b):D.ownsRow o e u v n F:=by
 obtain⟨I,⟨rfl,y⟩|⟨g,z,A,rfl,O,R,U,y,V,X⟩⟩:=h
 .exact⟨I,.inl ⟨rfl,y⟩⟩
 .exact⟨I,.inr ⟨g,z,A,rfl,O,J.heap R (N g rfl),U,y,V,X⟩⟩
structure Vir where
 q:b2
 o:b2
 c:b2
 r:Int
def Vir.vals (v:Vir):al am:=#[ab v.q,ab v.o,ab v.c,af ag v.r]
structure Virs (w:B)(a:ak ao)(cap:E)(L:H Vir):Prop where
 len:L.length<=cap
 max:cap<=b6
 isNil:a=a0->L=[]/\cap=0
 cell:∀ ad,a=G ad->L≠[]->ad.spot=a0/\ad.block<(w:E)/\∀ i m,L[i]?=G m->∀ j,j<4->w.cell? ⟨ad.block,ad.off+(i*4+j),a0⟩=m.vals[j]?
structure VirAt (w:B)(b o:E)(m:Vir):Prop where
 c0:w.cell? ⟨b,o,a0⟩=G (ab m.q)
 c1:w.cell? ⟨b,o+1,a0⟩=G (ab m.o)
 c2:w.cell? ⟨b,o+2,a0⟩=G (ab m.c)
 c3:w.cell? ⟨b,o+3,a0⟩=G (af ag m.r)
theorem Virs.elem {y:E}{L:H Vir}(h:Virs w a y L)(u:k<L.length):
  ∃ b o m,a=G ⟨b,o,a0⟩/\L[k]?=G m/\VirAt w b (o+k*4) m/\b<(w:E):=by
 cases a with
 | none=>obtain⟨rfl,_⟩:=h.isNil rfl;simp at u
 | some A=>
  obtain⟨b,o,I⟩:=A;obtain⟨z,D,F⟩:=h.cell _ rfl (by intro e;subst e;simp at u);simp at z;subst z;have v:=F k _ (bj u);exact⟨b,o,L[k],rfl,bj u,⟨v 0 (by omega),v 1 (by omega),v 2 (by omega),v 3 (by omega)⟩,D⟩
theorem Virs.lenmax {L:H Vir}(h:Virs w a o L):L.length<=9223372036854775807:=by
 have v:=h.len;have u:=h.max;unfold b6 at u;omega
theorem Virs.fr {L:H Vir}(h:Virs w a o L)(y:Fr S w w')(A:∀ u,a=G u->L≠[]->¬ S u.block):Virs w' a o L:=
 ⟨h.len,h.max,h.isNil,λu e v=>by
  obtain⟨D,z,F⟩:=h.cell u e v;refine⟨D,bx z y.size,λi m I j J=>?_⟩;rw[<-F i m I j J];exact World.cell?_of_block (y.block _ z (A u e v))⟩
theorem Virs.no {L:H Vir}(h:Virs w a o L)(u:Fr S w w')(v:∀ k,¬ S k):Virs w' a o L:=h.fr u (λ_ _ _=>v _)
theorem Virs.nil (w:B):Virs w a0 0 []:=⟨by simp,by simp,λ_=>⟨rfl,rfl⟩,λ_ e _=>by cases e⟩
theorem infoV: (Tryz.prog.info? 97).map (λi=>(i.zero,i.size,i.bytes))=G (G (ar #[ab aj,ab aj,ab aj,af ag 0]),4,56):=by kernel_rfl
def vflat (L:H Vir):H am:=L.flatMap (λm=>m.vals.toList)
theorem zBs (L:H Vir)(m:Vir):vflat (L++[m])=vflat L++m.vals.toList:=by simp[vflat]
theorem zCN (m:Vir):∀ u∈m.vals.toList,u.oneCell'=true:=by
 intro u h;simp[Vir.vals]at h;rcases h with rfl|rfl|rfl|rfl<;>rfl
theorem zHZ : ∀ (L:H Vir) (i:E) (m:Vir),L[i]?=G m->∀ j,j<4->(vflat L)[i*4+j]?=m.vals[j]?
 | [],i,m,h,j,o=>by simp at h
 | x::t,0,m,h,j,o=>by
  simp at h;subst h;have:vflat (x::t)=x.vals.toList++vflat t:=by simp[vflat]
  rw[this,bs (by simp[Vir.vals];omega)];simp
 | x::t,i+1,m,h,j,o=>by
  have:vflat (x::t)=x.vals.toList++vflat t:=by simp[vflat]
  rw[this,bt (by simp[Vir.vals];omega),show (i+1)*4+j-x.vals.toList.length=i*4+j from by simp[Vir.vals];omega];exact zHZ t i m (by simpa using h) j o
theorem Virs.of_own {L:H Vir}(h:w.ownsRow u e 4 v L.length (vflat L)):
  ∃ a o,v=ae a L.length o/\Virs w a o L/\∀ y,a=G y->u<=y.block:=by
 obtain⟨_,⟨rfl,z⟩|⟨g,o,A,rfl,J,D,N,z,X,O⟩⟩:=h
 .have:L=[]:=bi z;subst this;exact⟨a0,0,rfl,Virs.nil w,λ_ e=>by cases e⟩
 .refine⟨G ⟨g,0,a0⟩,o,rfl,⟨N,z,(λe=>by cases e),?_⟩,λy e=>by cases e;exact J⟩;intro y e R;cases e;refine⟨rfl,zC D,λi m F j U=>?_⟩;rw[zB D];simp only[bo];have V:i<L.length:=(List.getElem?_eq_some_iff.1 F).1;have I:(A.toList.take (L.length*4))[i*4+j]?=(vflat L)[i*4+j]?:=by rw[O]
  rw[bm (by omega),zHZ L i m F j U]at I;rw[<-bh,I]
theorem zy (w:B)(o:Obj):∃ W,W=w.alloc o/\Fr No w W/\W.heap[(w:E)]?=G o:=⟨_,rfl,(ah _ _).alloc _,zF _ _⟩
theorem zw (w:B)(o h:Obj):∃ W,W=(w.alloc o).alloc h/\Fr No w W/\W.heap[(w:E)]?=G o/\W.heap[(w:E)+1]?=G h:=⟨_,rfl,((ah _ _).alloc _).alloc _,zO _ _ _,zR _ _ _⟩
section
variable {a b c d e f g:Prop}
theorem zg2 (h:a)(i:b):Hid (a/\b):=⟨h,i⟩
theorem zg3 (h:a)(i:b)(j:c):Hid (a/\b/\c):=⟨h,i,j⟩
theorem zg4 (h:a)(i:b)(j:c)(k:d):Hid (a/\b/\c/\d):=⟨h,i,j,k⟩
theorem zg5 (h:a)(i:b)(j:c)(k:d)(l:e):Hid (a/\b/\c/\d/\e):=⟨h,i,j,k,l⟩
theorem zg6 (h:a)(i:b)(j:c)(k:d)(l:e)(m:f):Hid (a/\b/\c/\d/\e/\f):=⟨h,i,j,k,l,m⟩
theorem zg7 (h:a)(i:b)(j:c)(k:d)(l:e)(m:f)(n:g):Hid (a/\b/\c/\d/\e/\f/\g):=⟨h,i,j,k,l,m,n⟩
end
end Go.Proofs.YtckkocmhlhefpaaGreatDoor
