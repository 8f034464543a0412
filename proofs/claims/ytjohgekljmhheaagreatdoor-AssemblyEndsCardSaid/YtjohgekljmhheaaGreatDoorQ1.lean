import Derived.Below
import Derived.Lib.Hide
import Derived.Test.YtjohgekljmhheaaGreatDoorProg
import Derived.WalkKit
import Derived.WalkSpells
import Derived.WalkLawsBesides
import Derived.Maps.OwnSet
import Derived.Deep.QuietTactic
import Derived.BigQuiet
import Derived.Deep.DeepFit
import Derived.Deep.DeepMust
import Derived.Test.YtjohgekljmhheaaGreatDoorStrs
import Derived.Lib.IndexAny
import Derived.Laws.Rows
import Derived.OrdersHeld
import Derived.Lib.ReplaceLaws
import Derived.Deep.DeepCutAuto
import Derived.Maps.AppendAt
import Derived.Maps.StringElems
import Derived.Laws.AppendOwnNone
namespace Go.Proofs.YtjohgekljmhheaaGreatDoor
open Go.RowKit Go.Maps
set_option linter.unusedVariables false
set_option maxRecDepth 100000
set_option maxHeartbeats 2000000
instance:Coe World Nat:=⟨λw=>w.heap.size⟩
instance:Coe Unit ByteArray:=⟨λ_=>⟨#[]⟩⟩
theorem ε{α:Sort _}(a:α):∃ x,x=a:=⟨a,rfl⟩
instance{α:Type}:CoeOut (List α) Nat:=⟨List.length⟩
instance:CoeFun World λ_=>Addr→Option Value:=⟨World.cell?⟩
instance:Coe ByteArray Value:=⟨.string⟩
instance:Coe Unit Value:=⟨λ_=>.string ⟨#[]⟩⟩
instance:Coe Int Value:=⟨.int .i64⟩
instance:Coe Bool Value:=⟨.bool⟩
open Go renaming World->a1,Oper->ak,Act->al,maxLen->ap,Value->ar,Calls->aw,wpList->az,Addr->b2,execOp->b3,Exit->b4,Program->b5,TypeId->b6,wpAnyH->bd,bodyPost_ret->bm,plainElem->bo,undef->bp,yielded->bq,Operand->bz,results->cr,wpAnyH_all->ct,wpAnyH_take->cu,wpList_append_own->dk,plainElem_string->es,plainElem_string_inv->et,results_cell_row->eu,wpList_store_row->ev
open Go.Addr renaming add_lit->dl
open Go.Code renaming region->dq
open Go.Ending renaming returned->bs
open Go.Lib renaming compareBytes->bt,replaceAll->cf,replaceK->cx,replaceNum->cy,hasPrefix->dw
open Go.Lit renaming int->bb
open Go.Maps renaming keyOf_int_mk->dj,atKey_put_other->er
open Go.Next renaming value->e7
open Go.Op renaming lookup->d5
open Go.Oper renaming quietAt->e8,wp_mono->e9
open Go.Proofs renaming intOf->b7
open Go.Proofs.Tryz renaming prog->ai,zeroCells135->b9,underlying3->ca,underlying9->co,func39->d7,func42->d8,func63->d9,ntmps39->da,ntmps42->db,ntmps63->dc,underlying135->dd,func177->ed,func18->ee,func230->ef,ntmps177->eg,ntmps18->eh,ntmps230->ei,results163->ej,results182->ek
open Go.Region renaming ready->bc,wanted->bi,noSelect->cn,free->ea
open Go.Result renaming andThen_halt->eb,andThen_ok->ec
open Go.RowKit renaming Hid->af
open Go.Sem renaming run_bind->d6
open Go.Value renaming string->cb,int->em
open Go.World renaming cell?->de,size_alloc->df,ownsMap_made->en,ownsRow_nil->eo,setCell->ep
open IntKind renaming i64->ae
open Obj renaming cells->aj
open Value renaming agg->au
open _root_ renaming Nat->E,List->a0,Int->ab,ByteArray->ah,Option->ao,Bool->aq,UInt8->ax,Array->b1,if_neg->ba,False->bg,beq_iff_eq->bj,if_pos->bn,congrArg->cd,if_false->cp,if_true->cq,decide_eq_false->dg,decide_eq_true->dh,decide_eq_true_eq->di
open _root_.Array renaming getElem?_toList->bf,getElem?_eq_getElem->ce,replicate->dm
open _root_.Bool renaming true->ag,false->am,and_eq_true->b8,false_eq_true->br,and_false->cw,not_true->dn
open _root_.ByteArray renaming empty->ay
open _root_.Int renaming lt_tmod_of_pos->dt,tmod_lt_of_pos->du,toNat_natCast->dv
open _root_.List renaming length_cons->be,take_append_drop->bh,getElem?_eq_getElem->bu,getElem?_take_of_lt->bv,mem_of_getElem?->bw,eq_nil_of_length_eq_zero->cg,length_append->ci,map_append->cj,map_cons->ck,take_of_length_le->cl,getElem?_append_right->cz,getElem?_toArray->d0,mem_append->d1,mem_cons->d2,take_add_one->d3,getElem?_append_left->dx,getElem?_cons_succ->dy,getElem?_of_mem->dz,length_take->e1,nodup_cons->e3,not_mem_nil->e4
open _root_.Nat renaming lt_of_lt_of_le->bx,le_refl->cm,zero_add->d4,le_trans->e5,min_eq_left->e6
open _root_.Option renaming some->G,none->L
open _root_.UInt8 renaming ofNat->el
variable{p:b2}{α:Type}{P:b5}{Q:b4->al->a1->Prop}{S:E->Prop}{T e:b6}{w w' W:a1}{o b k u tb i j N:E}{row:ao E}{a:ao b2}{v:ar}{n:ab}{cs:b1 ar}{l:a0 (ah×ah)}{s:ah}{K:al->a1->Prop}{z:ao Tmp}{y:ao (E×aq)}{I:Op}{A:a0 ar}{g:ab->ao ah}{h:a0 ak}{D:DataW Unit}
theorem zh {p:Prop}(h:p):af p:=h
theorem zi {P Q:α->Prop}:∀ b,P b->Q b->Q b:=λ_ _ h=>h
theorem zn {P Q:α->Prop}:∀ b,P b->bg->Q b:=λ_ _ h=>h.elim
theorem zj {β:Type}{Q:α->β->Prop}:∀ a b,Q a b->Q a b:=λ_ _ h=>h
structure Fr (S:E->Prop)(w w':a1):Prop where
 os:w'.os=w.os
 tape:w'.tape=w.tape
 output:w'.output=w.output
 size:(w:E)<=(w':E)
 block:∀ k,k<(w:E)->¬ S k->w'.heap[k]?=w.heap[k]?
def No : E->Prop:=λ_=>bg
abbrev Is (b:E):E->Prop:=λk=>k=b
abbrev From (b:E):E->Prop:=λk=>b<=k
theorem Fr.refl (S:E->Prop)(w:a1):Fr S w w:=⟨rfl,rfl,rfl,cm _,λ_ _ _=>rfl⟩
theorem Fr.trans {T U:E->Prop}{o:a1}(h:Fr S w w')(k:Fr T w' o)(y:∀ b,b<(w:E)->S b->U b)(z:∀ b,b<(w:E)->T b->U b):Fr U w o:=
 ⟨k.os.trans h.os,k.tape.trans h.tape,k.output.trans h.output,e5 h.size k.size,
  λb u v=>(k.block b (bx u h.size) (λA=>v (z b u A))).trans (h.block b u (λF=>v (y b u F)))⟩
theorem Fr.step {o:a1}(h:Fr S w w'){T:E->Prop}(k:Fr T w' o)(u:∀ b,b<(w:E)->T b->S b):Fr S w o:=
 h.trans k zi u
theorem Fr.mono {T:E->Prop}(h:Fr S w w')(u:∀ b,b<(w:E)->S b->T b):Fr T w w':=
 ⟨h.os,h.tape,h.output,h.size,λb o v=>h.block b o (λy=>v (u b o y))⟩
theorem Fr.of_grown (h:w.grownBy w' row):Fr (λk=>row=G k) w w':=
 ⟨h.os,h.tape,h.output,h.size,λk o u=>h.block k o (λe=>u e.symm)⟩
theorem Fr.of_grown_some (h:w.grownBy w' (G b)):Fr (Is b) w w':=
 (Fr.of_grown h).mono (λ_ _ e=>(Option.some.inj e).symm)
theorem Fr.of_grown_none (h:w.grownBy w' L):Fr No w w':=
 (Fr.of_grown h).mono (λ_ _ e=>by cases e)
theorem Fr.of_below_size (h:Below (w:E) w w'):Fr No w w':=
 ⟨h.os,h.tape,h.output,h.size,λk o _=>h.block k o⟩
theorem Fr.below (h:Fr S w w')(y:o<=(w:E))(u:∀ b,b<o->¬ S b):Below o w w':=
 ⟨h.os,h.tape,h.output,h.size,λk v=>h.block k (by omega) (u k v)⟩
theorem Fr.grown (h:Fr S w w')(o:∀ b,S b->row=G b):w.grownBy w' row:=
 ⟨h.os,h.tape,h.output,h.size,λk u v=>h.block k u (λy=>v (o k y).symm)⟩
theorem Fr.alloc {a:a1}(h:Fr S a w)(o:Obj):Fr S a (w.alloc o):=
 h.step (T:=No) ⟨rfl,rfl,rfl,by simp,λk u _=>Below.heap_alloc _ _ _ u⟩ zn
theorem Fr.setCell {a:a1}(h:Fr S a w)(o:p.block<(a:E)->S p.block)(u:ar):Fr S a (w.setCell p u):=
 h.step (T:=Is p.block) ⟨rfl,rfl,rfl,by simp[ep],λk _ v=>Below.heap_setCell _ _ _ _ v⟩ (λb y e=>by unfold Is at e;subst e;exact o y)
theorem Fr.drew {a:a1}(h:Fr S a w):Fr S a w.drew:=⟨h.os,h.tape,h.output,h.size,h.block⟩
theorem Fr.drewN {a:a1}(h:Fr S a w)(n:E):Fr S a (w.drewN n):=⟨h.os,h.tape,h.output,h.size,h.block⟩
theorem Fr.heap (h:Fr S w w'){o:Obj}(u:w.heap[b]?=G o)(v:¬ S b):w'.heap[b]?=G o:=
 (h.block b (Array.getElem?_eq_some_iff.1 u).1 v).trans u
theorem Fr.cell (h:Fr S w w')(u:w p=G v)(z:¬ S p.block):w' p=G v:=by
 have y:p.block<(w:E):=by
  unfold de at u;cases hh:w.heap[p.block]? with
  | none=>simp[hh]at u
  | some o=>exact(Array.getElem?_eq_some_iff.1 hh).1
 rw[World.cell?_of_block (h.block _ y z)];exact u
theorem Fr.ownsMap {H:Type}{k:b6}{R:ar->ao (DataW H×a0 MemPlace)}{n:E}{D:DataW H}(h:Fr S w w')(u:w.ownsMap P k R b n D)(v:¬ S b):w'.ownsMap P k R b n D:=by
 have y:=u.lt;obtain⟨z,o,A,r⟩:=u;exact⟨z,o,h.heap A v,r⟩
theorem zB {o:E×E}(h:w.heap[b]?=G (aj cs T o))(i:E):w ⟨b,i,L⟩=cs[i]?:=by
 simp[de,h]
theorem zD (h:w.heap[b]?=G (aj cs T (0,0)))(i:E):w.frozen? ⟨b,i,L⟩=false:=by
 simp[World.frozen?,h]
theorem zC {o:Obj}(h:w.heap[b]?=G o):b<(w:E):=(Array.getElem?_eq_some_iff.1 h).1
theorem zE {o:E×E}(h:w.heap[b]?=G (aj cs T o))(i:E)(v:ar):
  (w.setCell ⟨b,i,L⟩ v).heap[b]?=G (aj (cs.setIfInBounds i v) T o):=by
 simp[ep,Array.getElem?_modify,h]
theorem zF (w:a1)(o:Obj):(w.alloc o).heap[(w:E)]?=G o:=by
 show (w.heap.push o)[(w:E)]?=_
 simp
theorem Fr.setNew {a:a1}(h:Fr S a w)(v:(a:E)<=p.block)(u:ar):Fr S a (w.setCell p u):=
 h.setCell (λo=>absurd o (by omega)) u
theorem zP (w:a1)(o h:Obj):((w.alloc o).alloc h).heap[(w:E)]?=G o:=by
 show ((w.heap.push o).push h)[(w:E)]?=_
 simp[Array.getElem?_push]
theorem zS (w:a1)(o u:Obj):((w.alloc o).alloc u).heap[(w:E)+1]?=G u:=by
 have h:=zF (w.alloc o) u
 rwa [df]at h
def upd (f:ab->aq)(x:ab)(b:aq):ab->Bool:=λy=>if y=x then b else f y
theorem lawI: Keyed ai 3:=int_keyed ca
theorem zCo (x:ab):WideAt.IsKeyLit (.int ae x):=by
 simp[WideAt.IsKeyLit]
structure Ints (w:a1)(a:ao b2)(cap:E)(l:a0 ab):Prop where
 len:(l:E)<=cap
 max:cap<=ap
 wf:∀ x∈l,(bb ae x).wf=ag
 isNil:a=L->l=[]/\cap=0
 cell:∀ ad,a=G ad->l≠[]->ad.spot=L/\ad.block<(w:E)/\∀ i x,l[i]?=G x->w ⟨ad.block,ad.off+i,L⟩=G (.int ae x)
theorem Ints.at {v:E}{l:a0 ab}(h:Ints w a v l)(u:k<(l:E)):
  ∃ b o x,a=G ⟨b,o,L⟩/\l[k]?=G x/\w ⟨b,o+k,L⟩=G (.int ae x):=by
 cases a with
 | none=>obtain⟨rfl,_⟩:=h.isNil rfl;simp at u
 | some z=>
  obtain⟨b,o,F⟩:=z;obtain⟨y,I,A⟩:=h.cell _ rfl (by intro e;subst e;simp at u);simp at y;subst y;exact⟨b,o,l[k],rfl,by simp[u],A k _ (by simp[u])⟩
theorem Ints.lenmax {l:a0 ab}(h:Ints w a o l):(l:E)<=9223372036854775807:=by
 have v:=h.len;have u:=h.max;unfold ap at u;omega
theorem Ints.fr {l:a0 ab}(h:Ints w a o l)(y:Fr S w w')(z:∀ u,a=G u->l≠[]->¬ S u.block):Ints w' a o l:=
 ⟨h.len,h.max,h.wf,h.isNil,λu e v=>by
  obtain⟨A,F,I⟩:=h.cell u e v;exact⟨A,bx F y.size,λi x J=>y.cell (I i x J) (z u e v)⟩⟩
theorem Ints.no {l:a0 ab}(h:Ints w a o l)(u:Fr S w w')(v:∀ k,¬ S k):Ints w' a o l:=h.fr u (λ_ _ _=>v _)
theorem Ints.nil (w:a1):Ints w L 0 []:=⟨by simp,by simp,by simp,λ_=>⟨rfl,rfl⟩,λ_ e _=>by cases e⟩
theorem Ints.of_own {l:a0 ab}(h:w.ownsRow u e 1 v (l:E) (l.map (em ae)))(N:∀ x∈l,(bb ae x).wf=ag):
  ∃ a o,v=.slice a l o/\Ints w a o l/\∀ y,a=G y->u<=y.block:=by
 obtain⟨_,⟨rfl,z⟩|⟨g,o,A,rfl,O,F,U,z,Z,V⟩⟩:=h
 .have:l=[]:=cg z;subst this;exact⟨L,0,rfl,Ints.nil w,λ_ e=>by cases e⟩
 .refine⟨G ⟨g,0,L⟩,o,rfl,⟨U,z,N,(λe=>by cases e),?_⟩,λy e=>by cases e;exact O⟩;intro y e X;cases e;refine⟨rfl,zC F,λi x I=>?_⟩;rw[zB F];simp only[d4];have Y:i<(l:E):=(List.getElem?_eq_some_iff.1 I).1;have J:(A.toList.take ((l:E)*1))[i]?=(l.map (em ae))[i]?:=by rw[V]
  rw[bv (by omega)]at J;rw[<-bf,J];simp[I]
theorem zN {a b:aq}(h:a=b):bs a=.returned b:=by rw[h]
theorem zBE {k:IntKind}{a b:ab}(h:a=b):bs (.int k a)=.returned (.int k b):=by rw[h]
theorem Ints.of_isRow {w:a1}{v:E}{zs:a0 ab}(h:(a=L/\u=0/\v=0/\zs=[])\/
  ∃ x,a=G x/\u<=v/\v<=ap/\(zs:E)=v/\(∀ i,i<(zs:E)->w (x.add i)=G (.int ae (zs.getD i 0)))/\∀ n∈zs,(bb ae n).wf=ag):
  ∃ l:a0 ab,(l:E)=u/\Ints w a v l:=by
 rcases h with⟨rfl,rfl,rfl,rfl⟩|⟨x,rfl,h1,V,h3,U,X⟩
 .exact⟨[],rfl,Ints.nil w⟩
 .refine⟨zs.take u,by simp;omega,by simp;omega,V,λx Y=>X x (List.mem_of_mem_take Y),(λe=>by cases e),?_⟩;intro ad e J;cases e;have z:0<(zs:E):=by
   cases zs with
   | nil=>simp at J
   | cons _ _=>simp
  have I:=U 0 z;have A:x.spot=none:=by simpa [Addr.add]using World.cell?_spot I
  obtain⟨b,Z,sp⟩:=x;simp at A;subst A;refine⟨rfl,?_,λi y N=>?_⟩
  .unfold de at I;simp only[Addr.add]at I;cases hh:w.heap[b]? with
   | none=>simp[hh]at I
   | some o=>exact(Array.getElem?_eq_some_iff.1 hh).1
  .have F:i<(zs.take u).length:=(List.getElem?_eq_some_iff.1 N).1;have O:=U i (by simp at F;omega);rw[bv (by simp at F;omega)]at N;rw[List.getD_eq_getElem?_getD,N]at O;rw[dl]at O
   simpa using O
def foldV (v n:ab):ab:=if n<=1 then 0 else if v.tmod n<0 then v.tmod n+n else v.tmod n
theorem zI4 {v:ab}(u:1<=n):0<=foldV v n/\foldV v n<n:=by
 unfold foldV;have h:=dt v (b:=n) (by omega);have o:=du v (b:=n) (by omega);split;·omega
 .split<;>omega
theorem zPM (v n:ab)(w:a1)(z:1<=n)(A:n<=4294967296)(F:(bb ae v).wf=ag):
  aw ai 42 #[.int ae v,.int ae n] w λe w'=>e=.returned (.int ae (foldV v n))/\w=w':=by
 by_cases h:n<=1
 .go_enter d8,db;go_wp2;go_ret;exact⟨cd (λx=>bs (.int ae x)) (show (0:ab)=foldV v n by unfold foldV;(repeat' split)<;>omega),rfl⟩
 .have u:-n<v.tmod n:=by have:=dt v (b:=n) (by omega);omega
  have y:v.tmod n<n:=du v (by omega);by_cases o:v.tmod n<0
  .go_enter d8,db;go_wp2;go_ret;exact⟨cd (λx=>bs (.int ae x)) (show (v.tmod n+n:ab)=foldV v n by unfold foldV;(repeat' split)<;>omega),rfl⟩
  .go_enter d8,db;go_wp2;go_ret;exact⟨cd (λx=>bs (.int ae x)) (show (v.tmod n:ab)=foldV v n by unfold foldV;(repeat' split)<;>omega),rfl⟩
theorem zI3 (v n:ab)(w:a1)(o:1<=n)(u:n<=4294967296)(y:(bb ae v).wf=ag):
  aw ai 42 #[.int ae v,.int ae n] w λe w'=>∃ r,e=.returned (.int ae r)/\0<=r/\r<n/\w=w':=
 (zPM v n w o u y).mono λe w' h=>⟨_,h.1,(zI4 o).1,(zI4 o).2,h.2⟩
def Tape (w:a1)(B tb k:E):Prop:=
 ∃ a cap l T,Ints w a cap l/\(∀ ad,a=G ad->l≠[]->ad.block<B)/\B<=tb/\w.heap[tb]?=G (aj #[.slice a l.length cap,.int ae (k:ab)] T (0,0))
theorem Tape.lt (h:Tape w o tb k):tb<(w:E):=by
 obtain⟨a,u,l,T,_,_,_,v⟩:=h;exact zC v
theorem Tape.fr (h:Tape w o tb k)(y:Fr S w w')(A:∀ b,b<o->¬ S b)(F:¬ S tb):Tape w' o tb k:=by
 obtain⟨a,u,l,T,I,z,J,N⟩:=h;exact⟨a,u,l,T,I.fr y (λO e v=>A _ (z O e v)),z,J,y.heap N F⟩
theorem zCd (J tb k:E)(n:ab)(w:a1)(ht:Tape w J tb k)(hk:k<=1000000000000)(U:1<=n)(V:n<=4294967296):
  aw ai 18 #[.pointer (G ⟨tb,0,L⟩),n] w λe w'=>∃ r,e=.returned (.int ae r)/\0<=r/\r<n/\Tape w' J tb (k+1)/\Fr (Is tb) w w':=by
 obtain⟨a,z,l,T,F,X,hB,I⟩:=ht;have c0:w ⟨tb,0,L⟩=G (.slice a l z):=by rw[zB I];rfl
 have c1:w ⟨tb,1,L⟩=G (.int ae (k:ab)):=by rw[zB I];rfl
 have f1:w.frozen? ⟨tb,1,L⟩=false:=zD I 1;have hm:=F.lenmax;have o:∀ m:E,Tape ((w.setCell ⟨tb,1,L⟩ (.int ae ((k:ab)+1))).drewN m) J tb (k+1)/\Fr (Is tb) w ((w.setCell ⟨tb,1,L⟩ (.int ae ((k:ab)+1))).drewN m):=λm=>by
  have Y:Fr (Is tb) w ((w.setCell ⟨tb,1,L⟩ (.int ae ((k:ab)+1))).drewN m):=(Fr.setCell (S:=Is tb) (p:=⟨tb,1,L⟩) (Fr.refl _ _) (λ_=>rfl) _).drewN m;refine⟨⟨a,z,l,T,F.fr Y (λad e N h=>by have:=X ad e N;omega),X,hB,?_⟩,Y⟩;show (w.setCell ⟨tb,1,L⟩ (.int ae ((k:ab)+1))).heap[tb]?=_
  rw[zE I];rfl
 have u:=zh o;clear o;by_cases O:k<(l:E)
 .obtain⟨b,a2,x,rfl,Z,hc⟩:=F.at O;have Hx:=zh (F.wf x (bw Z));have A:(k:ab)<(l:E):=by omega
  clear Z;go_enter ee,eh;go_wp2_with fail
  go_quiet (fail)
  go_wp2_with fail
  go_quiet (fail)
  go_wp2_with fail;apply (zI3 _ n _ U V Hx).mono;rintro e w1 ⟨r,rfl,v,y,rfl⟩;go_wp2;go_ret;exact⟨r,rfl,v,y,u _⟩
 .have A:¬ (k:ab)<(l:E):=by omega
  go_enter ee,eh;go_wp2_with fail
  go_quiet (fail)
  go_wp2_with fail;apply (zI3 _ n _ U V (WalkArith.wf_i64 (by omega))).mono;rintro e w1 ⟨r,rfl,v,y,rfl⟩;go_wp2;go_ret;exact⟨r,rfl,v,y,u _⟩
structure Dev where
 index:ab
 parent:ab
 name:ah
 orig:ah
 sub:ah
 drv:ah
 ali:ah
 kind:ab
 num:ab
 aa:ao b2
 an:E
 ac:E
def Dev.cell (d:Dev):E->ar
 | 0=>.int ae d.index
 | 1=>.int ae d.parent
 | 2=>.string d.name
 | 3=>.string d.orig
 | 4=>.string d.sub
 | 5=>.string d.drv
 | 6=>.string d.ali
 | 7=>.int ae d.kind
 | 8=>.int ae d.num
 | _=>.slice d.aa d.an d.ac
def Dev.vals (d:Dev):b1 ar:=#[.int ae d.index,.int ae d.parent,.string d.name,.string d.orig,.string d.sub,.string d.drv,.string d.ali,.int ae d.kind,.int ae d.num,.slice d.aa d.an d.ac]
def Dev.zero : Dev:=⟨0,0,ay,ay,ay,ay,ay,0,0,L,0,0⟩
structure Devs (w:a1)(a:ao b2)(cap:E)(ds:a0 Dev):Prop where
 len:(ds:E)<=cap
 max:cap<=ap
 isNil:a=L->ds=[]/\cap=0
 cell:∀ ad,a=G ad->ds≠[]->ad.spot=L/\ad.block<(w:E)/\∀ i d,ds[i]?=G d->∀ j,j<10->w ⟨ad.block,ad.off+(i*10+j),L⟩=G (d.cell j)
theorem Devs.at {v:E}{ds:a0 Dev}(h:Devs w a v ds)(u:k<(ds:E)):
  ∃ b o d,a=G ⟨b,o,L⟩/\ds[k]?=G d/\∀ j,j<10->w ⟨b,o+(k*10+j),L⟩=G (d.cell j):=by
 cases a with
 | none=>obtain⟨rfl,_⟩:=h.isNil rfl;simp at u
 | some z=>
  obtain⟨b,o,F⟩:=z;obtain⟨y,I,A⟩:=h.cell _ rfl (by intro e;subst e;simp at u);simp at y;subst y;exact⟨b,o,ds[k],rfl,bu u,A k _ (bu u)⟩
structure DevAt (w:a1)(b o:E)(d:Dev):Prop where
 c0:w ⟨b,o,L⟩=G (.int ae d.index)
 c1:w ⟨b,o+1,L⟩=G (.int ae d.parent)
 c2:w ⟨b,o+2,L⟩=G (.string d.name)
 c3:w ⟨b,o+3,L⟩=G (.string d.orig)
 c4:w ⟨b,o+4,L⟩=G (.string d.sub)
 c5:w ⟨b,o+5,L⟩=G (.string d.drv)
 c6:w ⟨b,o+6,L⟩=G (.string d.ali)
 c7:w ⟨b,o+7,L⟩=G (.int ae d.kind)
 c8:w ⟨b,o+8,L⟩=G (.int ae d.num)
 c9:w ⟨b,o+9,L⟩=G (.slice d.aa d.an d.ac)
theorem Devs.dev {v:E}{ds:a0 Dev}(h:Devs w a v ds)(y:k<(ds:E)):
  ∃ b u d,a=G ⟨b,u,L⟩/\ds[k]?=G d/\DevAt w b (u+k*10) d:=by
 obtain⟨b,u,d,z,A,o⟩:=h.at y;refine⟨b,u,d,z,A,?_⟩;exact⟨o 0 (by omega),o 1 (by omega),o 2 (by omega),o 3 (by omega),o 4 (by omega),o 5 (by omega),o 6 (by omega),o 7 (by omega),o 8 (by omega),o 9 (by omega)⟩
theorem Devs.lenmax {ds:a0 Dev}(h:Devs w a o ds):(ds:E)<=9223372036854775807:=by
 have v:=h.len;have u:=h.max;unfold ap at u;omega
theorem Devs.fr {ds:a0 Dev}(h:Devs w a o ds)(y:Fr S w w')(z:∀ u,a=G u->ds≠[]->¬ S u.block):Devs w' a o ds:=
 ⟨h.len,h.max,h.isNil,λu e v=>by
  obtain⟨A,F,I⟩:=h.cell u e v;exact⟨A,bx F y.size,λi d J j N=>y.cell (I i d J j N) (z u e v)⟩⟩
theorem Devs.no {ds:a0 Dev}(h:Devs w a o ds)(u:Fr S w w')(v:∀ k,¬ S k):Devs w' a o ds:=h.fr u (λ_ _ _=>v _)
theorem Devs.nil (w:a1):Devs w L 0 []:=⟨by simp,by simp,λ_=>⟨rfl,rfl⟩,λ_ e _=>by cases e⟩
def place : a0 Dev->ab->ab
 | [],_=>-1
 | d::t,n=>if d.index=n then 0 else if place t n<0 then -1 else place t n+1
theorem zIe : ∀ (ds:a0 Dev) (n:ab),-1<=place ds n/\place ds n<(ds:E)
 | [],n=>by simp[place]
 | d::t,n=>by
  have:=zIe t n;unfold place;split;·simp only[be];omega
  .split<;>simp only[be]<;>omega
theorem zDB : ∀ (ds:a0 Dev) (n:ab) (k:E) (d:Dev),ds[k]?=G d->d.index=n->(∀ x∈ds.take k,x.index≠n)->place ds n=k
 | [],n,k,d,h,_,_=>by simp at h
 | x::t,n,0,d,h,e,_=>by simp at h;subst h;simp[place,e]
 | x::t,n,k+1,d,h,e,o=>by
  have u:x.index≠n:=o x (by simp);have v:=zDB t n k d (by simpa using h) e (λy z=>o y (by simp[z]));unfold place;rw[ba u,v];split<;>omega
theorem zDC : ∀ (ds:a0 Dev) (n:ab),(∀ x∈ds,x.index≠n)->place ds n=-1
 | [],n,_=>rfl
 | x::t,n,h=>by
  unfold place;rw[ba (h x (by simp)),zDC t n (λy o=>h y (by simp[o]))];simp
theorem zKs (a:ao b2)(v:E)(ds:a0 Dev)(n:ab)(w:a1)(A:Devs w a v ds):
  aw ai 213 #[.slice a ds v,n] w λe w'=>e=.returned (.int ae (place ds n))/\w=w':=by
 have U:=A.lenmax;go_enter Tryz.func213,Tryz.ntmps213;go_wp2
 go_loop [5] (λi=>∃ k:E,k<=(ds:E)/\i=.int ae k/\af (∀ x∈ds.take k,x.index≠n)) (λi=>(ds:E)-(b7 i).toNat)
 case atStart=>exact⟨0,by omega,rfl,by unfold af;simp⟩
 case round=>
  obtain⟨k,V,rfl,u⟩:=hrel;by_cases z:k<(ds:E)
  .obtain⟨b,J,d,rfl,y,F⟩:=A.at z;have I:=zh y;have N:=F 0 (by omega);simp only[Dev.cell,Nat.add_zero]at N;clear y F;by_cases o:d.index=n
   .have O:(d.index==n)=true:=(by simpa using o);go_wp2;go_ret;exact⟨zBE (zDB ds n k d I o u).symm,rfl⟩
   .have O:(d.index==n)=false:=(by simpa using o);go_wp2
    go_round
    case rel=>
     refine⟨k+1,by omega,by go_num,?_⟩;unfold af;intro x y;rw[d3,I]at y;rcases List.mem_append.1 y with h|h
     .exact u x h
     .simp at h;subst h;exact o
    case measure=>simp[b7];omega
  .obtain rfl:k=(ds:E):=by omega
   have h:=u.out;rw[cl (by omega)]at h;go_wp2;go_ret;exact⟨zBE (zDC _ _ h).symm,rfl⟩
def devOf (ds:a0 Dev)(n:ab):Dev:=if place ds n<0 then Dev.zero else (ds[(place ds n).toNat]?).getD Dev.zero
theorem zIb (a:ao b2)(h:E)(ds:a0 Dev)(n:ab)(w:a1)(U:Devs w a h ds):
  aw ai 163 #[au #[.slice a ds h],n] w λe w'=>e=.returned (.tuple #[au (devOf ds n).vals,.bool (decide (0<=place ds n))])/\Fr No w w':=by
 have V:Fr No w (w.alloc (aj #[.slice a ds h] 39)):=(Fr.refl _ _).alloc _;have X:Fr No w ((w.alloc (aj #[.slice a ds h] 39)).alloc (aj #[.int ae 0,.int ae 0,ay,ay,ay,ay,ay,.int ae 0,.int ae 0,.slice L 0 0] 48)):=V.alloc _;have y:=U.no X (λ_=>id);go_enter Tryz.func163,Tryz.ntmps163;go_wp2_with fail;apply (zKs a h ds n _ y).mono;rintro e w1 ⟨rfl,rfl⟩;obtain⟨p,I⟩:=ε (place ds n)
 have J:=zIe ds n;rw[<-I]at J;rw[<-I];have z:=zh I;clear I;by_cases o:p<0
 .have A:devOf ds n=Dev.zero:=by unfold devOf;rw[bn (by rw[<-z];exact o)]
  have N:=zh A;clear A;have O:af (decide (0<=place ds n)=am):=dg (by rw[<-z];omega);go_wp2_with fail;refine bm (v:=.tuple #[au Dev.zero.vals,.bool am]) (by simp[cr,ej,go_sem,Dev.vals,Dev.zero];rfl) rfl ?_;refine(λ(u:Fr No w _)=>⟨by rw[N,O],u⟩) ?_;(repeat first|exact Fr.refl _ _|refine Fr.alloc ?_ _|refine Fr.setNew ?_ (by simp) _)
 .obtain⟨k,rfl⟩:=Int.eq_ofNat_of_zero_le (by omega:0<=p);have Y:k<(ds:E):=by omega
  obtain⟨b,Z,d,rfl,A,hc⟩:=y.dev Y;have F:devOf ds n=d:=by
   unfold devOf;rw[ba (by rw[<-z];exact o),<-z,dv,A];rfl
  have N:=zh F;have O:af (decide (0<=place ds n)=ag):=dh (by rw[<-z];omega);clear F A;obtain⟨c0,c1,c2,c3,c4,c5,c6,c7,c8,c9⟩:=hc;go_wp2_with fail;refine bm (v:=.tuple #[au d.vals,.bool ag]) (by simp[cr,ej,go_sem,Dev.vals]) rfl ?_;refine(λ(u:Fr No w _)=>⟨by rw[N,O],u⟩) ?_;(repeat first|exact Fr.refl _ _|refine Fr.alloc ?_ _|refine Fr.setNew ?_ (by simp) _)
theorem Fr.setAt {a:a1}(h:Fr (Is b) a w)(v:ar):Fr (Is b) a (w.setCell ⟨b,i,L⟩ v):=h.setCell (p:=⟨b,i,L⟩) (λ_=>rfl) v
theorem zA6 (h:W.heap[b]?=G (aj cs T))(u:cs.size=10)(p:Dev):
  ((((((((((W.setCell ⟨b,0,L⟩ (.int ae p.index)).setCell ⟨b,1,L⟩ (.int ae p.parent)).setCell ⟨b,2,L⟩ (.string p.name)).setCell ⟨b,3,L⟩ (.string p.orig)).setCell ⟨b,4,L⟩ (.string p.sub)).setCell ⟨b,5,L⟩ (.string p.drv)).setCell ⟨b,6,L⟩ (.string p.ali)).setCell ⟨b,7,L⟩ (.int ae p.kind)).setCell ⟨b,8,L⟩ (.int ae p.num)).setCell ⟨b,9,L⟩ (.slice p.aa p.an p.ac)).heap[b]?=G (aj p.vals T)/\Fr (Is b) W ((((((((((W.setCell ⟨b,0,L⟩ (.int ae p.index)).setCell ⟨b,1,L⟩ (.int ae p.parent)).setCell ⟨b,2,L⟩ (.string p.name)).setCell ⟨b,3,L⟩ (.string p.orig)).setCell ⟨b,4,L⟩ (.string p.sub)).setCell ⟨b,5,L⟩ (.string p.drv)).setCell ⟨b,6,L⟩ (.string p.ali)).setCell ⟨b,7,L⟩ (.int ae p.kind)).setCell ⟨b,8,L⟩ (.int ae p.num)).setCell ⟨b,9,L⟩ (.slice p.aa p.an p.ac)):=by
 refine⟨?_,Fr.setAt (Fr.setAt (Fr.setAt (Fr.setAt (Fr.setAt (Fr.setAt (Fr.setAt (Fr.setAt (Fr.setAt (Fr.setAt (Fr.refl _ _) _) _) _) _) _) _) _) _) _) _⟩;obtain⟨l⟩:=cs
 match l,u with
 | [_,_,_,_,_,_,_,_,_,_],_=>
  have v:=zE h 0 (.int ae p.index);have y:=zE v 1 (.int ae p.parent);have z:=zE y 2 (.string p.name);have A:=zE z 3 (.string p.orig);have F:=zE A 4 (.string p.sub);have I:=zE F 5 (.string p.drv);have J:=zE I 6 (.string p.ali);have N:=zE J 7 (.int ae p.kind);have O:=zE N 8 (.int ae p.num);have o:=zE O 9 (.slice p.aa p.an p.ac);simp only[List.setIfInBounds_toArray,List.set_cons_zero,List.set_cons_succ]at o;exact o
def OkN (s:ah):Prop:=s.size<=32/\∀ b∈s.data.toList,b≠47
def RetB (e:Ending):Prop:=∃ b,e=.returned (.bool b)
theorem RetB.mk (b:aq):RetB (.returned b):=⟨b,rfl⟩
def inSet (s set:ah):Bool:=s.data.toList.all set.data.toList.contains
def nameBA : ah:=⟨#[65,66,67,68,69,70,71,72,73,74,75,76,77,78,79,80,81,82,83,84,85,86,87,88,89,90,97,98,99,100,101,102,103,104,105,106,107,108,109,110,111,112,113,114,115,116,117,118,119,120,121,122,48,49,50,51,52,53,54,55,56,57,95,46,58,43,45,33]⟩
def isName (s:ah):Bool:=!decide (s.toList=[])&&decide (s.size<=32)&&inSet s nameBA&&!decide (s.toList=[46])&&!decide (s.toList=[46,46])
theorem zC5 (p:ax->aq)(l:a0 ax)(k:E)(x:ax)(h:l[k]?=G x)(o:(l.take k).all p=ag)(u:p x=ag):(l.take (k+1)).all p=true:=by
 rw[d3,h,List.all_append,o];simp[u]
theorem zMH (p:ax->aq)(l:a0 ax)(k:E)(x:ax)(h:l[k]?=G x)(o:p x=am):l.all p=false:=by
 rw[List.all_eq_false];exact⟨x,bw h,by simp[o]⟩
theorem zAh (h:isName s=ag):OkN s:=by
 unfold isName at h;simp only[b8,di]at h;obtain⟨⟨⟨⟨_,u⟩,o⟩,_⟩,_⟩:=h;refine⟨u,λb v e=>?_⟩;unfold inSet at o;rw[List.all_eq_true]at o;have:=o b v;subst e;revert this;decide
theorem zy (w:a1)(o:Obj):∃ W,W=w.alloc o/\Fr No w W/\W.heap[(w:E)]?=G o:=⟨_,rfl,(Fr.refl _ _).alloc _,zF _ _⟩
theorem zw (w:a1)(o q:Obj):∃ W,W=(w.alloc o).alloc q/\Fr No w W/\W.heap[(w:E)]?=G o/\W.heap[(w:E)+1]?=G q:=⟨_,rfl,((Fr.refl _ _).alloc _).alloc _,zP _ _ _,zS _ _ _⟩
section
variable {a b c d e f g:Prop}
theorem zg2 (h:a)(i:b):af (a/\b):=⟨h,i⟩
theorem zg3 (h:a)(i:b)(j:c):af (a/\b/\c):=⟨h,i,j⟩
theorem zg4 (h:a)(i:b)(j:c)(k:d):af (a/\b/\c/\d):=⟨h,i,j,k⟩
theorem zg5 (h:a)(i:b)(j:c)(k:d)(l:e):af (a/\b/\c/\d/\e):=⟨h,i,j,k,l⟩
theorem zg6 (h:a)(i:b)(j:c)(k:d)(l:e)(m:f):af (a/\b/\c/\d/\e/\f):=⟨h,i,j,k,l,m⟩
theorem zg7 (h:a)(i:b)(j:c)(k:d)(l:e)(m:f)(n:g):af (a/\b/\c/\d/\e/\f/\g):=⟨h,i,j,k,l,m,n⟩
end
def bits (f:ax->aq):b1 ar:=Array.ofFn (n:=256) λi=>.bool (f (el i.val))
def allB (f:ax->aq)(s:ah):Bool:=s.data.toList.all f
theorem zAE (f:ax->aq):(bits f).size=256:=by simp[bits]
theorem zDp (g:ax->aq):(bits g).all (·.oneCell')=true:=by
 rw[Array.all_eq_true_iff_forall_mem];intro v h;obtain⟨i,rfl⟩:=(Array.mem_ofFn).1 h;rfl
theorem zL7 (f:ax->aq)(c:ax):(bits f)[c.toNat]?=G (.bool (f c)):=by
 have:c.toNat<256:=c.toNat_lt;rw[ce (by rw[zAE];exact this)];simp[bits]
theorem zNj (f:ax->aq)(c:ax):(bits f).setIfInBounds c.toNat (.bool ag)=bits (λx=>f x||x==c):=by
 have:c.toNat<256:=c.toNat_lt;apply Array.ext;·simp[zAE]
 .intro i u o;rw[zAE]at o;rw[Array.getElem_setIfInBounds (by rw[zAE];exact o)];simp only[bits,Array.getElem_ofFn];by_cases e:c.toNat=i;·subst e;simp
  .rw[ba e];have:(el i==c)=false:=by
    rw[beq_eq_false_iff_ne];intro h;subst h;apply e;simp;omega
   rw[this,Bool.or_false]
theorem zIj (f:ax->aq)(s:ah)(w:a1)(I:s.size<=ap):
  aw ai 66 #[au (bits f),s] w λe w'=>e=.returned (.bool (allB f s))/\Fr No w w':=by
 have O:s.size<=9223372036854775807:=by unfold ap at I;omega
 have z:Fr No w (w.alloc (aj (bits f) 135)):=(Fr.refl _ _).alloc _;have J:=zF w (aj (bits f) 135);have u:∀ c:ax,(w.alloc (aj (bits f) 135)) ⟨w,c.toNat,L⟩=G (.bool (f c)):=λc=>(zB J _).trans (zL7 f c)
 go_enter Tryz.func66,Tryz.ntmps66;go_wp2;generalize w.alloc (aj (bits f) 135)=W0 at *
 go_loop [8] (λi=>∃ k:E,k<=s.size/\i=.int ae k/\af ((s.data.toList.take k).all f=ag)) (λi=>s.size-(b7 i).toNat)
 case atStart=>exact⟨0,by omega,rfl,by unfold af;simp⟩
 case round=>
  obtain⟨k,U,rfl,o⟩:=hrel;by_cases v:k<s.size
  .have h:s.data.toList[k]?=G s[k]:=by
    rw[bf];exact ce (by simpa using v)
   have A:=zh h;have N:((s[k].toNat:E):ab)<256:=(by have:=s[k].toNat_lt;omega);have F:=u s[k];rcases hq:f s[k]with _|_
   .rw[hq]at F;have y:=zh hq;clear hq h u;go_wp2;go_ret;exact⟨zN (zMH _ _ _ _ A y).symm,z⟩
   .rw[hq]at F;have y:=zh hq;clear hq h u;go_wp2
    go_round
    case rel=>exact⟨k+1,by omega,by go_num,zC5 _ _ _ _ A o y⟩
    case measure=>simp[b7];omega
  .go_wp2;go_ret;refine⟨zN ?_,z⟩;have:=o.out;rw[cl (by simp;omega)]at this;unfold allB;rw[this]
theorem zBK (f:ax->aq)(s:ah)(w:a1)(hs:s.size<=ap):
  aw ai 65 #[au (bits f),s] w λe w'=>e=.returned (au (bits λc=>f c||s.data.toList.contains c))/\Fr No w w':=by
 have hm:s.size<=9223372036854775807:=by unfold ap at hs;omega
 have U:Fr No w (w.alloc (aj (bits f) 135)):=(Fr.refl _ _).alloc _;have I:=zF w (aj (bits f) 135);have J:(Tryz.prog.info? 135).map (·.size)=G 256:=by kernel_rfl
 have hz:Tryz.zeroCells135.size=256:=by kernel_rfl
 have V:=zP w (aj (bits f) 135) (aj b9 135);have X:=zS w (aj (bits f) 135) (aj b9 135);have Y:Fr No w ((w.alloc (aj (bits f) 135)).alloc (aj b9 135)):=U.alloc _;clear U I;go_enter Tryz.func65,Tryz.ntmps65;go_wp2;generalize (w.alloc (aj (bits f) 135)).alloc (aj b9 135)=W0 at *;go_loopw [8] (λi wr=>∃ k:E,k<=s.size/\i=.int ae k/\af (wr.heap[(w:E)]?=G (aj (bits λc=>f c||(s.data.toList.take k).contains c) 135))/\af (wr.heap[(w:E)+1]?=G (aj b9 135))/\Fr No w wr) (λi _=>s.size-(b7 i).toNat);case atStart=>exact⟨0,by omega,rfl,by unfold af;simpa using V,X,Y⟩
 case round=>
  obtain⟨k,hk,rfl,o,y,A⟩:=hrel;clear V X Y;by_cases N:k<s.size
  .have F:s.data.toList[k]?=G s[k]:=by
    rw[bf];exact ce (by simpa using N)
   have Hx:=zh F;have a2:((s[k].toNat:E):ab)<256:=(by have:=s[k].toNat_lt;omega);have c0:=(zB o s[k].toNat).trans (zL7 _ _);have f0:=zD o s[k].toNat;have u:Fr No w (wr.setCell ⟨w,s[k].toNat,L⟩ (.bool ag)):=A.setCell (by simp) _;have z:=zE o s[k].toNat (.bool ag);rw[zNj]at z;have Z:=(Fr.setAt (Fr.refl (Is (w:E)) wr) (i:=s[k].toNat) (.bool ag)).heap y (λe=>by omega);have Q:=zg3 z Z u;clear z Z u F;go_wp2;go_roundw;case rel=>
    refine⟨k+1,by omega,by go_num,?_,Q.2.1,Q.2.2⟩;unfold af;rw[Q.1,d3,Hx]
    congr 3
    funext c
    have e:(c==s[k])=decide (c=s[k]):=by by_cases h:c=s[k]<;>simp[h]
    simp[Bool.or_assoc,e]
   case measure=>simp[b7];omega
  .obtain rfl:k=s.size:=by omega
   have z:=o.out;rw[cl (by simp)]at z;have O:=zh z;clear o z;go_wp2_with (first
    | (refine wpList_load_row rfl 135 _ rfl (w:E) rfl 135 _ (0,0) _ O dd rfl (by rw[zAE];exact J) ?_)
    | (refine ev rfl 135 _ _ rfl ((w:E)+1) _ rfl rfl 135 _ y (by rw[zAE];exact J) (by rw[zAE];exact hz) (zDp _) ?_))
   have hg:=setRow_heap wr ((w:E)+1) _ (bits λc=>f c||s.data.toList.contains c) 135 (0,0) y;refine bm (v:=au (bits λc=>f c||s.data.toList.contains c)) (eu rfl _ _ ((w:E)+1) 135 _ (0,0) _ rfl hg dd rfl (by rw[zAE];exact J)) rfl ?_;refine⟨rfl,A.step (T:=Is ((w:E)+1)) ⟨rfl,rfl,rfl,by simp,λb _ I=>setRow_other _ _ _ _ (λe=>I e)⟩ (λb I e=>by omega)⟩
def zA1 : ax->Bool:=λc=>((((am||[65,66,67,68,69,70,71,72,73,74,75,76,77,78,79,80,81,82,83,84,85,86,87,88,89,90].contains c)||[97,98,99,100,101,102,103,104,105,106,107,108,109,110,111,112,113,114,115,116,117,118,119,120,121,122].contains c)||[48,49,50,51,52,53,54,55,56,57].contains c)||[95,46,58,43,45].contains c)
theorem zKF: b9=bits (λ_=>am):=by kernel_rfl
theorem zJq (s:ah)(w:a1)(h:s.size<=ap):
  aw ai 65 #[au b9,s] w λe w'=>e=.returned (au (bits λc=>am||s.data.toList.contains c))/\Fr No w w':=by
 rw[zKF];exact zBK _ s w h
def zKN : ah:=⟨#[65,66,67,68,69,70,71,72,73,74,75,76,77,78,79,80,81,82,83,84,85,86,87,88,89,90]⟩
theorem zHm (w:a1):
  aw ai 122 #[.string ⟨#[65,66,67,68,69,70,71,72,73,74,75,76,77,78,79,80,81,82,83,84,85,86,87,88,89,90]⟩] w λe w'=>e=.returned (.string ⟨#[97,98,99,100,101,102,103,104,105,106,107,108,109,110,111,112,113,114,115,116,117,118,119,120,121,122]⟩)/\Fr No w w':=by
 have h:∀ b∈zKN.data.toList,b.toNat<128:=by decide
 apply (Tryz.strings_ToLower_ascii zKN w (by decide) (λj b o=>h b (bw o))).mono;rintro e w' ⟨rfl,o⟩;exact⟨by congr 2,Fr.of_below_size o⟩
theorem zEK (w:a1):
  aw ai 64 #[] w λe w'=>e=.returned (au (bits zA1))/\Fr No w w':=by
 have I:(Tryz.prog.info? 135).map (·.size)=G 256:=by kernel_rfl
 have X:Tryz.zeroCells135.size=256:=by kernel_rfl
 have J:Fr No w (w.alloc (aj b9 135)):=(Fr.refl _ _).alloc _;have N:=zF w (aj b9 135);have O:=zg2 N J;clear N J;go_enter Tryz.func64,Tryz.ntmps64;go_wp2_with fail;apply (zJq _ _ (by decide)).mono;rintro e w1 ⟨rfl,h⟩;go_wp2_with fail;apply (zHm _).mono;rintro e w2 ⟨rfl,o⟩;go_wp2_with fail;apply (zBK _ _ _ (by decide)).mono;rintro e w3 ⟨rfl,u⟩;go_wp2_with fail;apply (zBK _ _ _ (by decide)).mono;rintro e w4 ⟨rfl,y⟩;go_wp2_with fail;apply (zBK _ _ _ (by decide)).mono;rintro e Y ⟨rfl,z⟩;have A:=((((O.2.step h zi).step o zi).step u zi).step y zi).step z zi;have U:=z.heap (y.heap (u.heap (o.heap (h.heap O.1 id) id) id) id) id;obtain⟨F,hF⟩:=ε zA1
 go_wp2_with (refine ev rfl 135 _ _ rfl (w:E) (bits zA1) rfl rfl 135 _ U (by rw[zAE];exact I) (by rw[zAE];exact X) (zDp _) ?_)
 have Z:=setRow_heap Y (w:E) _ (bits zA1) 135 (0,0) U;refine bm (v:=au (bits zA1)) (eu rfl _ _ (w:E) 135 _ (0,0) _ rfl Z dd rfl (by rw[zAE];exact I)) rfl ?_;exact⟨rfl,A.step (T:=Is (w:E)) ⟨rfl,rfl,rfl,by simp,λb _ V=>setRow_other _ _ _ _ (λe=>V e)⟩ (λb V e=>by omega)⟩
theorem zGp (s:ah)(w:a1):
  aw ai 63 #[s] w λe w'=>e=.returned (.bool (decide (s.toList=[46])||decide (s.toList=[46,46])))/\w=w':=by
 by_cases h:s.toList=[46]
 .have H:af ((decide (s.toList=[46])||decide (s.toList=[46,46]))=ag):=by unfold af;simp[h]
  go_enter d9,dc;go_wp2_with fail
  all_goals (go_ret;exact⟨zN H.symm,rfl⟩)
 .by_cases o:s.toList=[46,46]
  .have H:af ((decide (s.toList=[46])||decide (s.toList=[46,46]))=ag):=by unfold af;simp[o]
   go_enter d9,dc;go_wp2_with fail
   all_goals (go_ret;exact⟨zN H.symm,rfl⟩)
  .have H:af ((decide (s.toList=[46])||decide (s.toList=[46,46]))=am):=by unfold af;simp[h,o]
   have u:(s.toList==[46])=false:=(by simp[h]);have v:(s.toList==[46,46])=false:=(by simp[o]);clear h o;go_enter d9,dc;go_wp2_with fail
   all_goals (go_ret;exact⟨zN H.symm,rfl⟩)
theorem zH4 (s:ah):s.data.toList.all (λc=>zA1 c||[33].contains c)=inSet s nameBA:=by
 unfold inSet
 congr 1
 funext c
 have:nameBA.data.toList=(((([65,66,67,68,69,70,71,72,73,74,75,76,77,78,79,80,81,82,83,84,85,86,87,88,89,90]++[97,98,99,100,101,102,103,104,105,106,107,108,109,110,111,112,113,114,115,116,117,118,119,120,121,122])++[48,49,50,51,52,53,54,55,56,57])++[95,46,58,43,45])++[33]):=rfl;rw[this];unfold zA1;simp only[List.contains_eq_mem,d1,Bool.false_or,Bool.decide_or]
theorem zAU (s:ah)(w:a1)(F:s.size<=ap):
  aw ai 39 #[s] w λe w'=>e=.returned (.bool (isName s))/\Fr No w w':=by
 have V:s.size<=9223372036854775807:=by unfold ap at F;omega
 by_cases u:s.toList=[]
 .have H:af (isName s=am):=by unfold af isName;simp[u]
  go_enter d7,da;go_wp2_with fail
  all_goals (go_ret;exact⟨zN H.symm,Fr.refl _ _⟩)
 .by_cases I:s.size<=32
  .go_enter d7,da;go_wp2_with fail;apply (zGp s _).mono;rintro e X ⟨rfl,rfl⟩;rcases hd:(decide (s.toList=[46])||decide (s.toList=[46,46]))with _|_
   .have o:s.toList≠[46]/\s.toList≠[46,46]:=(by simpa using hd);have H:af (isName s=inSet s nameBA):=(by unfold af isName;simp[u,I,o.1,o.2]);clear hd o;go_wp2_with fail;apply (zEK _).mono;rintro e Y ⟨rfl,v⟩;go_wp2_with fail;apply (zBK zA1 _ _ (by decide)).mono;rintro e Z ⟨rfl,y⟩;go_wp2_with fail;apply (zIj _ s _ F).mono;rintro e w4 ⟨rfl,z⟩;have A:=(v.step y zi).step z zi;have J:allB (λc=>zA1 c||decide (c=33)) s=isName s:=by
     rw[H,<-zH4];unfold allB
     congr 1
     funext c
     simp
    have e0:s.toList.isEmpty=false:=(by simp[u]);clear u;have N:=zh J;clear J H;generalize O:allB _ s=q;have U:af (q=isName s):=O.symm.trans N;clear O N;cases q
    all_goals
     go_wp2_with fail
     all_goals (go_ret;exact⟨zN U,A⟩)
   .have H:af (isName s=am):=by
     unfold af isName;rw[Bool.or_eq_true,di,di]at hd;rcases hd with h|h<;>simp[h]
    clear hd;go_wp2_with fail
    all_goals (go_ret;exact⟨zN H.symm,Fr.refl _ _⟩)
  .have H:af (isName s=am):=by unfold af isName;simp[I]
   go_enter d7,da;go_wp2_with fail
   all_goals (go_ret;exact⟨zN H.symm,Fr.refl _ _⟩)
def OnlyN (K:al->a1->Prop):b4->al->a1->Prop
 | .normal,a,w=>K a w
 | _,_,_=>bg
theorem OnlyN.mk {a:al}(h:K a w):OnlyN K .normal a w:=h
def nth : a0 ak->E->ao ak
 | [],_=>L
 | o::_,0=>G o
 | _::l,n+1=>nth l n
theorem zFD : ∀ (l:a0 ak) (i:E),nth l i=l[i]?
 | [],_=>by simp[nth]
 | _::_,0=>rfl
 | _::l,n+1=>by simp only[nth,dy];exact zFD l n
def zBD : Op->aq
 | .move _ | .assign _ | .pick _ _ _ | .load _ _ | .nilCheck _ | .binOp _ _ _ _ _ | .unOp _ _ _ | .convert _ _ _ | .fieldAddr _ _ _ | .field _ _ _ | .indexAddr _ _ _ | .index _ _ _
 | .lookup _ _ _ _ | .extract _ _ | .build _ _ | .slice _ _ _ _ _ | .makeInterface _ _ | .makeFunc _ _ _=>ag
 | .call c=>match c.callee with | .builtin .len=>ag | .builtin .cap=>ag|_=>am
 | _=>am
def zHJ (P:b5)(o:ak)(a:al)(C:a1->Prop)(v:ar):Prop:=∀ W,C W->(b3 a.eval o).run P W=.ok (.value v) W
theorem zIV {s:Sem ar}{u:a1}{n:Next}(h:(do pure (e7 (← s)):Sem Next).run P W=.ok n u):∃ v,n=.value v:=by
 rw[d6]at h;cases hs:s.run P W with
 | ok x o=>rw[hs]at h;simp only[ec]at h;cases h;exact⟨x,rfl⟩
 | halt x o=>rw[hs]at h;simp only[eb]at h;cases h
theorem zDf {s:Sem α}{f:α->Sem Next}{u:a1}{n:Next}(h:(s >>= f).run P W=.ok n u)(y:∀ x W,(f x).run P W=.ok n u->∃ v,n=.value v):∃ v,n=.value v:=by
 rw[d6]at h;cases hs:s.run P W with
 | ok x o=>rw[hs]at h;simp only[ec]at h;exact y x _ h
 | halt x o=>rw[hs]at h;simp only[eb]at h;cases h
theorem zBZ {x:ar}{o:a1}{n:Next}(h:(pure (e7 x):Sem Next).run P W=.ok n o):∃ v,n=.value v:=by
 cases h;exact⟨_,rfl⟩
theorem zCf {o:a1}{n:Next}(h:(runtimePanic .nilDeref:Sem Next).run P W=.ok n o):∃ v,n=.value v:=by
 unfold runtimePanic at h;simp[d6,goPanic,program,Sem.run]at h
theorem zBU (ρ:bz->ar)(o:ak)(z:zBD o.op=ag){J:a1}{n:Next}(h:(b3 ρ o).run P W=.ok n J):∃ v,n=.value v:=by
 obtain⟨N,O,I,U,A,F⟩:=o;cases O<;>simp only[zBD,br]at z
 case nilCheck x=>
  unfold b3 at h;dsimp only at h;split at h;·exact zCf h
  .exact zCf h
  .exact zCf h
  .split at h;·exact zCf h
   .refine zDf h λ_ _ h=>zDf h λ_ _ h=>?_
    split at h;·exact zDf h λ_ _ h=>zBZ h
    .exact zBZ h
   .exact zBZ h
  .exact zBZ h
 case call c=>
  obtain⟨u,args,V⟩:=c;cases u with
  | value f=>simp at z
  | invoke r m=>simp at z
  | builtin b=>
   cases b<;>simp at z
   all_goals
    exact zIV h
 case move x=>unfold b3 at h;exact zBZ h
 case assign x=>unfold b3 at h;exact zBZ h
 case pick c x y=>
  unfold b3 at h;dsimp only at h;refine zDf h λ_ _ h=>?_
  split at h<;>exact zBZ h
 all_goals (unfold b3 at h;exact zIV h)
structure Gr (T:E->Prop)(w:a1) where
 W:a1
 fr:Fr T w W
instance (T:E->Prop)(w:a1):Inhabited (Gr T w):=⟨⟨w,Fr.refl _ _⟩⟩
def Cls (T:E->Prop)(w:a1):a1->Prop:=λW=>∃ g:Gr T w,W=g.W
def wpSig (P:b5)(l:a0 ak)(Q:b4->al->a1->Prop)(T:E->Prop):a0 (E×aq)->al->a1->Prop
 | [],a,w=>Q .normal a w
 | (i,mv)::σ,a,w=>match nth l i with
  | none=>bg
  | some o=>
   if mv=ag then az P l.toArray (OnlyN λa' w'=>Fr T w w'/\wpSig P l Q T σ a' w') [o] a w
   else zBD o.op=ag/\(if bi o (bq l.toArray a.tmps)=ag then ∃ v,zHJ P o a (Cls T w) v/\wpSig P l Q T σ (a.put o.dst v) w else wpSig P l Q T σ (a.put o.dst bp) w)
def schedB (ops:b1 ak):a0 (E×aq)->b1 aq->aq
 | [],listed=>(bc .any ops listed).isEmpty
 | (i,mv)::σ,listed=>(if mv then bc .any ops listed==[i]else (bc .any ops listed).contains i&&ea .any ops listed i)&&schedB ops σ (listed.setIfInBounds i ag)
section
variable {P:b5}{ops:b1 ak}{Q:b4->al->a1->Prop}{md:Region.Mode}{S S':a1->Prop}
theorem zEr (h:∀ W,S W->S' W):∀ (fuel:E) (o:b1 aq) (a:al) (w:a1),bd P md ops Q S fuel o a w->bd P md ops Q S' fuel o a w
 | 0,_,_,_,u=>u
 | fuel+1,_,_,_,u=>⟨u.1,λi y=>wpOp_mono (λz w' v=>⟨h _ v.1,zEr h fuel _ z w' v.2⟩) (u.2 i y)⟩
theorem zHM {o:ak}{a:al}{z:al->a1->Prop}(u:o.wp P a w K (OnlyN z)):o.wp P a w K Q:=by
 unfold Oper.wp at *;generalize (b3 a.eval o).run P w=r at *;cases r with
 | ok n w'=>
  cases n<;>simp only[Oper.upon]at u ⊢;case value=>exact u
  case skip=>exact u
  case defer=>exact u
  case enter=>
   refine Calls.mono u (λe A y=>?_);cases e with
   | returned v=>exact y
   | panicked c=>exact y.elim
   | outgrown=>obtain⟨_,_,h⟩:=y;exact h.elim
  case row=>exact Rows.mono u (λ_ _ y=>y)
 | halt x w'=>
  cases x<;>simp only[Oper.upon]at u ⊢;case panic=>exact u.elim
theorem zJJ (T:E->Prop)(w:a1):Cls T w w:=⟨⟨w,Fr.refl _ _⟩,rfl⟩
theorem zA5 {l:a0 ak}{T:E->Prop}(I:cn l.toArray=ag):∀ (σ:a0 (E×aq)) (listed:b1 aq) (a:al) (w:a1),
  schedB l.toArray σ listed=ag->wpSig P l Q T σ a w->bd P .any l.toArray (OnlyN (Q .normal)) (Fr T w) σ.length listed a w
 | [],listed,a,w,N,h=>wpAnyH_done (P:=P) (S:=Fr T w) (Q:=OnlyN (Q .normal)) (md:=.any) (by simpa [schedB]using N) (show OnlyN (Q .normal) .normal a w from h) 0
 | (i,V)::σ,listed,a,w,N,h=>by
  simp only[schedB,b8]at N;obtain⟨u,z⟩:=N;simp only[wpSig]at h;cases hn:nth l i with
  | none=>rw[hn]at h;exact h.elim
  | some o=>
   rw[hn]at h;have O:l.toArray[i]?=G o:=(by rw[d0,<-zFD];exact hn);cases V with
   | true=>
    simp only[cq,bj]at u h;refine ct (rs:=[i]) u (by simp) ?_;intro j X;obtain rfl:j=i:=by simpa using X
    have y:∀ F w',(Fr T w w'/\wpSig P l Q T σ F w')->Fr T w w'/\bd P .any l.toArray (OnlyN (Q .normal)) (Fr T w) σ.length (listed.setIfInBounds j ag) F w':=λF w' J=>
     ⟨J.1,zEr (λW U=>J.1.step U zi) _ _ _ _ (zA5 I σ _ F w' z J.2)⟩
    unfold wpOp;simp only[O];unfold az at h;split
    .rename_i A;rw[bn A]at h;rcases h with h|⟨_,h⟩
     .exact .inl (e9 (λF w' J=>y F w' J) (zHM h))
     .obtain⟨_,_,h⟩:=h;exact h.elim
    .rename_i A;rw[ba A]at h;exact y _ _ h
   | false=>
    simp only[br,cp,b8]at u h;obtain⟨Z,h⟩:=h;split at h
    .rename_i A;obtain⟨v,Y,h⟩:=h;exact cu O I u.2 u.1 (λ_ _ _ h=>h.elim) (.inl ⟨A,λW U=>Y W ⟨⟨W,U⟩,rfl⟩⟩) (Fr.refl _ _) (zA5 I σ _ _ w z h)
    .rename_i A;exact cu O I u.2 u.1 (λ_ _ _ h=>h.elim) (.inr ⟨by simpa using A,rfl⟩) (Fr.refl _ _) (zA5 I σ _ _ w z h)
end
section
variable {P:b5}{Q:b4->al->a1->Prop}{T:E->Prop}{l:a0 ak}{σ:a0 (E×aq)}{a:al}{w:a1}
theorem zO {y:E}(T:E->Prop)(σ:a0 (E×aq))
  (h:∀ u,Fr No w u->wpSig P l Q T σ a u) (z:P.follows .mixedOrders=true:=by kernel_rfl) (o:(cn l.toArray&&(σ.length==(l:E))&&schedB l.toArray σ (dm l.toArray.size am))=true:=by kernel_rfl):(dq y l.toArray ag).wp P Q a w:=by
 simp only[b8,bj]at o;have v:=zA5 (Q:=Q) o.1.1 σ _ a w.drew o.2 (h _ ((Fr.refl No w).drew));have A:l.toArray.size=σ.length:=by simp[o.1.2]
 rw[<-A]at v;refine wp_mono (wp_region_held (S:=Fr T w.drew) z v) λe a w h=>?_
 cases e<;>first|exact h|exact h.elim
theorem zb (h:Q .normal a w):wpSig P l Q T [] a w:=h
theorem zR {o:ak}(F:nth l i=G o)(A:zBD o.op=ag)(I:bi o (bq l.toArray a.tmps)=ag)
  (h:∀ K:al->Prop,(∀ z,wpSig P l Q T σ z w->K z)->o.quiet P a (λW=>∃ g:Gr T w,W=g.W) K):wpSig P l Q T ((i,am)::σ) a w:=by
 obtain⟨v,J,N⟩:=h (λz=>wpSig P l Q T σ z w) (λ_ h=>h);simp only[wpSig,F,br,cp,I,cq];refine⟨A,v,λW O=>?_,N⟩;have y:=J W O;unfold e8 at y;cases hr:(b3 a.eval o).run P W with
 | halt x U=>rw[hr]at y;exact y.elim
 | ok n U=>
  obtain⟨u,rfl⟩:=zBU a.eval o A hr;rw[hr]at y;obtain⟨V,X⟩:=y;rw[V,X]
theorem zT {o:b6}{A:String}{u:b1 Edge}(J:nth l i=G ⟨z,I,o,A,u,y⟩)(N:zBD I=ag)
  (O:bi ⟨z,I,o,A,u,y⟩ (bq l.toArray a.tmps)=am)
  (h:∀ K:al->Prop,(∀ F,wpSig P l Q T σ F w->K F)->(⟨z,.assign (.const bp),o,A,#[],L⟩:ak).quiet P a (λW=>∃ g:Gr T w,W=g.W) K):wpSig P l Q T ((i,am)::σ) a w:=by
 obtain⟨v,U,V⟩:=h (λF=>wpSig P l Q T σ F w) (λ_ h=>h);simp only[wpSig,J,br,cp,O];refine⟨N,?_⟩;have X:=U w (zJJ T w);obtain⟨_,rfl⟩:=(X:w=w/\bp=v)
 exact V
theorem zu {o:ak}(u:nth l i=G o)(h:az P l.toArray (OnlyN λv w'=>Fr T w w'/\wpSig P l Q T σ v w') [o] a w):wpSig P l Q T ((i,ag)::σ) a w:=by
 simp only[wpSig,u,cq];exact h
end
inductive Sg where
 | fin:Sg
 | q (i:E) (n:Sg):Sg
 | m1 (i:E) (n:Sg):Sg
 | m2 (i:E) (n:Sg) (j:E) (n':Sg):Sg
 | m3 (i:E) (n:Sg) (j:E) (n':Sg) (k:E) (n'':Sg):Sg
def Sg.size : Sg->E
 | .fin=>0
 | .q _ n=>n.size+1
 | .m1 _ n=>n.size+1
 | .m2 _ n _ _=>n.size+1
 | .m3 _ n _ _ _ _=>n.size+1
def schedT (ops:b1 ak):Sg->b1 aq->aq
 | .fin,listed=>(bc .any ops listed).isEmpty
 | .q i n,listed=>(bc .any ops listed).contains i&&ea .any ops listed i&&schedT ops n (listed.setIfInBounds i ag)
 | .m1 i n,listed=>(bc .any ops listed==[i])&&schedT ops n (listed.setIfInBounds i ag)
 | .m2 i n j n',listed=>(bc .any ops listed==[i,j])&&(n'.size==n.size)&&schedT ops n (listed.setIfInBounds i ag)&&schedT ops n' (listed.setIfInBounds j ag)
 | .m3 i n j n' k n'',listed=>(bc .any ops listed==[i,j,k])&&(n'.size==n.size)&&(n''.size==n.size)&&schedT ops n (listed.setIfInBounds i ag)&&schedT ops n' (listed.setIfInBounds j ag)&&schedT ops n'' (listed.setIfInBounds k ag)
def wpMv (P:b5)(l:a0 ak)(T:E->Prop)(i:E)(K:al->a1->Prop)(a:al)(w:a1):Prop:=
 match nth l i with
 | none=>bg
 | some o=>az P l.toArray (OnlyN λa' w'=>Fr T w w'/\K a' w') [o] a w
def wpSg (P:b5)(l:a0 ak)(M:al->a1->Prop)(T:E->Prop):Sg->al->a1->Prop
 | .fin,a,w=>M a w
 | .q i n,a,w=>match nth l i with
  | none=>bg
  | some o=>zBD o.op=ag/\(if bi o (bq l.toArray a.tmps)=ag then ∃ v,zHJ P o a (Cls T w) v/\wpSg P l M T n (a.put o.dst v) w else wpSg P l M T n (a.put o.dst bp) w)
 | .m1 i n,a,w=>wpMv P l T i (wpSg P l M T n) a w
 | .m2 i n j n',a,w=>wpMv P l T i (wpSg P l M T n) a w/\wpMv P l T j (wpSg P l M T n') a w
 | .m3 i n j n' k n'',a,w=>wpMv P l T i (wpSg P l M T n) a w/\wpMv P l T j (wpSg P l M T n') a w/\wpMv P l T k (wpSg P l M T n'') a w
section
variable {P:b5}{M:al->a1->Prop}
theorem zDI {l:a0 ak}{T:E->Prop}{v:E}{u:b1 aq}{a:al}(h:wpMv P l T i K a w)
  (I:∀ y w',K y w'->bd P .any l.toArray (OnlyN M) (Fr T w') v (u.setIfInBounds i ag) y w'):
  wpOp P l.toArray (OnlyN M) i (λy w'=>Fr T w w'/\bd P .any l.toArray (OnlyN M) (Fr T w) v (u.setIfInBounds i ag) y w') a w:=by
 unfold wpMv at h;cases ho':nth l i with
 | none=>rw[ho']at h;exact h.elim
 | some o=>
  rw[ho']at h;dsimp only at h;have J:l.toArray[i]?=G o:=by rw[d0,<-zFD];exact ho'
  have z:∀ y w',(Fr T w w'/\K y w')->Fr T w w'/\bd P .any l.toArray (OnlyN M) (Fr T w) v (u.setIfInBounds i ag) y w':=λy w' A=>
   ⟨A.1,zEr (λW N=>A.1.step N zi) _ _ _ _ (I y w' A.2)⟩
  unfold wpOp;simp only[J];unfold az at h;split
  .rename_i F;rw[bn F]at h;rcases h with h|⟨_,h⟩
   .exact .inl (e9 (λy w' A=>z y w' A) (zHM h))
   .obtain⟨_,_,h⟩:=h;exact h.elim
  .rename_i F;rw[ba F]at h;exact z _ _ h
theorem anyT {l:a0 ak}{T:E->Prop}(J:cn l.toArray=ag):∀ (σ:Sg) (u:b1 aq) (a:al) (w:a1),
  schedT l.toArray σ u=ag->wpSg P l M T σ a w->bd P .any l.toArray (OnlyN M) (Fr T w) σ.size u a w
 | .fin,u,a,w,z,h=>wpAnyH_done (P:=P) (S:=Fr T w) (Q:=OnlyN M) (md:=.any) (by simpa [schedT]using z) (show OnlyN M .normal a w from h) 0
 | .q i n,u,a,w,z,h=>by
  simp only[schedT,b8]at z;obtain⟨y,A⟩:=z;simp only[wpSg]at h;cases hn:nth l i with
  | none=>rw[hn]at h;exact h.elim
  | some o=>
   rw[hn]at h;have ho:l.toArray[i]?=G o:=(by rw[d0,<-zFD];exact hn);obtain⟨hv,h⟩:=h;split at h
   .rename_i U;obtain⟨v,hy,h⟩:=h;exact cu ho J y.2 y.1 (λ_ _ _ h=>h.elim) (.inl ⟨U,λW hW=>hy W ⟨⟨W,hW⟩,rfl⟩⟩) (Fr.refl _ _) (anyT J n _ _ w A h)
   .rename_i U;exact cu ho J y.2 y.1 (λ_ _ _ h=>h.elim) (.inr ⟨by simpa using U,rfl⟩) (Fr.refl _ _) (anyT J n _ _ w A h)
 | .m1 i n,u,a,w,z,h=>by
  simp only[schedT,b8,bj]at z;refine ct (rs:=[i]) z.1 (by simp) ?_;intro j hj;obtain rfl:j=i:=by simpa using hj
  exact zDI h (λF w' I=>anyT J n _ F w' z.2 I)
 | .m2 i n j V,u,a,w,z,h=>by
  simp only[schedT,b8,bj]at z;obtain⟨⟨⟨y,N⟩,A⟩,O⟩:=z;refine ct (rs:=[i,j]) y (by simp) ?_;intro x X;simp only[d2,e4,or_false]at X;by_cases e:x=i;·subst e;exact zDI h.1 (λF w' I=>anyT J n _ F w' A I)
  .obtain rfl:x=j:=by omega
   exact zDI h.2 (λF w' I=>by have:=anyT J V _ F w' O I;rwa [N]at this)
 | .m3 i n j V k Y,u,a,w,z,h=>by
  simp only[schedT,b8,bj]at z;obtain⟨⟨⟨⟨⟨y,N⟩,Z⟩,A⟩,O⟩,a2⟩:=z;refine ct (rs:=[i,j,k]) y (by simp) ?_;intro x X;simp only[d2,e4,or_false]at X;by_cases e:x=i;·subst e;exact zDI h.1 (λF w' I=>anyT J n _ F w' A I)
  .by_cases e2:x=j;·subst e2;exact zDI h.2.1 (λF w' I=>by have:=anyT J V _ F w' O I;rwa [N]at this)
   .obtain rfl:x=k:=by omega
    exact zDI h.2.2 (λF w' I=>by have:=anyT J Y _ F w' a2 I;rwa [Z]at this)
end
section
variable {P:b5}{M:al->a1->Prop}{T:E->Prop}{l:a0 ak}{σ σ' σ'':Sg}{a:al}{w:a1}
theorem zZ {z:E}{Q:b4->al->a1->Prop}(T:E->Prop)(σ:Sg)(M:al->a1->Prop)
  (h:∀ u,Fr No w u->wpSg P l M T σ a u) (A:∀ v w',M v w'->Q .normal v w') (F:P.follows .mixedOrders=true:=by kernel_rfl) (o:(cn l.toArray&&(σ.size==(l:E))&&schedT l.toArray σ (dm l.toArray.size am))=true:=by kernel_rfl):(dq z l.toArray ag).wp P Q a w:=by
 simp only[b8,bj]at o;have y:=anyT (M:=M) o.1.1 σ _ a w.drew o.2 (h _ ((Fr.refl No w).drew));have I:l.toArray.size=σ.size:=by simp[o.1.2]
 rw[<-I]at y;refine wp_mono (wp_region_held (S:=Fr T w.drew) F y) λe a w h=>?_
 cases e<;>first|exact A _ _ h|exact h.elim
theorem zW (h:M a w):wpSg P l M T .fin a w:=h
theorem zL {o:ak}(F:nth l i=G o)(A:zBD o.op=ag)(I:bi o (bq l.toArray a.tmps)=ag)
  (h:∀ K:al->Prop,(∀ z,wpSg P l M T σ z w->K z)->o.quiet P a (λW=>∃ g:Gr T w,W=g.W) K):wpSg P l M T (.q i σ) a w:=by
 obtain⟨v,J,N⟩:=h (λz=>wpSg P l M T σ z w) (λ_ h=>h);simp only[wpSg,F,I,cq];refine⟨A,v,λW O=>?_,N⟩;have y:=J W O;unfold e8 at y;cases hr:(b3 a.eval o).run P W with
 | halt x U=>rw[hr]at y;exact y.elim
 | ok n U=>
  obtain⟨u,rfl⟩:=zBU a.eval o A hr;rw[hr]at y;obtain⟨V,X⟩:=y;rw[V,X]
theorem zJ {o:b6}{A:String}{u:b1 Edge}(J:nth l i=G ⟨z,I,o,A,u,y⟩)(N:zBD I=ag)
  (O:bi ⟨z,I,o,A,u,y⟩ (bq l.toArray a.tmps)=am)
  (h:∀ K:al->Prop,(∀ F,wpSg P l M T σ F w->K F)->(⟨z,.assign (.const bp),o,A,#[],L⟩:ak).quiet P a (λW=>∃ g:Gr T w,W=g.W) K):wpSg P l M T (.q i σ) a w:=by
 obtain⟨v,U,V⟩:=h (λF=>wpSg P l M T σ F w) (λ_ h=>h);simp only[wpSg,J,br,cp,O];refine⟨N,?_⟩;have X:=U w (zJJ T w);obtain⟨_,rfl⟩:=(X:w=w/\bp=v)
 exact V
theorem zJr {o:ak}(u:nth l i=G o)(h:az P l.toArray (OnlyN λv w'=>Fr T w w'/\K v w') [o] a w):wpMv P l T i K a w:=by
 unfold wpMv;rw[u];exact h
theorem zH {o:ak}(u:nth l i=G o)(h:az P l.toArray (OnlyN λv w'=>Fr T w w'/\wpSg P l M T σ v w') [o] a w):wpSg P l M T (.m1 i σ) a w:=zJr u h
theorem zAB {o y:ak}(z:nth l i=G o)(u:nth l j=G y)(h:az P l.toArray (OnlyN λv w'=>Fr T w w'/\wpSg P l M T σ v w') [o] a w)
  (A:az P l.toArray (OnlyN λv w'=>Fr T w w'/\wpSg P l M T σ' v w') [y] a w):wpSg P l M T (.m2 i σ j σ') a w:=⟨zJr z h,zJr u A⟩
theorem zOZ {o F u:ak}(I:nth l i=G o)(z:nth l j=G F)(v:nth l k=G u)(h:az P l.toArray (OnlyN λy w'=>Fr T w w'/\wpSg P l M T σ y w') [o] a w)
  (J:az P l.toArray (OnlyN λy w'=>Fr T w w'/\wpSg P l M T σ' y w') [F] a w) (A:az P l.toArray (OnlyN λy w'=>Fr T w w'/\wpSg P l M T σ'' y w') [u] a w):wpSg P l M T (.m3 i σ j σ' k σ'') a w:=⟨zJr I h,zJr z J,zJr v A⟩
end
structure Atts (w:a1)(a:ao b2)(cap:E)(l:a0 (ah×ah)):Prop where
 len:(l:E)<=cap
 max:cap<=ap
 isNil:a=L->l=[]/\cap=0
 wf:∀ x∈l,x.1.size<=ap/\x.2.size<=ap
 cell:∀ ad,a=G ad->l≠[]->ad.spot=L/\ad.block<(w:E)/\∀ i x,l[i]?=G x->w ⟨ad.block,ad.off+i*2,L⟩=G (.string x.1)/\w ⟨ad.block,ad.off+i*2+1,L⟩=G (.string x.2)
theorem Atts.at {v:E}(h:Atts w a v l)(u:k<(l:E)):
  ∃ b o x y,a=G ⟨b,o,L⟩/\l[k]?=G (x,y)/\x.size<=ap/\y.size<=ap/\w ⟨b,o+k*2,L⟩=G (.string x)/\w ⟨b,o+k*2+1,L⟩=G (.string y):=by
 cases a with
 | none=>obtain⟨rfl,_⟩:=h.isNil rfl;simp at u
 | some I=>
  obtain⟨b,o,N⟩:=I;obtain⟨z,O,J⟩:=h.cell _ rfl (by intro e;subst e;simp at u);simp at z;subst z;have A:=J k _ (bu u);have F:=h.wf l[k] (List.getElem_mem u);exact⟨b,o,l[k].1,l[k].2,rfl,bu u,F.1,F.2,A.1,A.2⟩
theorem Atts.lenmax (h:Atts w a o l):(l:E)<=9223372036854775807:=by
 have v:=h.len;have u:=h.max;unfold ap at u;omega
theorem Atts.fr {v:E}(h:Atts w a v l)(y:Fr S w w')(z:∀ u,a=G u->l≠[]->¬ S u.block):Atts w' a v l:=
 ⟨h.len,h.max,h.isNil,h.wf,λu e o=>by
  obtain⟨I,J,A⟩:=h.cell u e o;exact⟨I,bx J y.size,λi x F=>⟨y.cell (A i x F).1 (z u e o),y.cell (A i x F).2 (z u e o)⟩⟩⟩
theorem Atts.no (h:Atts w a o l)(u:Fr S w w')(v:∀ k,¬ S k):Atts w' a o l:=h.fr u (λ_ _ _=>v _)
theorem Atts.nil (w:a1):Atts w L 0 []:=⟨by simp,by simp,λ_=>⟨rfl,rfl⟩,by simp,λ_ e _=>by cases e⟩
theorem zDW (u o:a0 ax):∀ (k:E) (s:a0 ax),(cx u o k s).length<=(s:E)+k*(o:E)
 | 0,s=>by simp[cx]
 | k+1,s=>by
  unfold cx;split;·omega
  .have h:=zDW u o k (s.drop ((Lib.index s u).toNat+(u:E)));simp only[ci,e1,List.length_drop]at h ⊢;have e:(k+1)*(o:E)=k*(o:E)+(o:E):=Nat.succ_mul _ _;omega
theorem zEu (s o u:a0 ax):(cf s o u).length<=(s:E)+((s:E)+1)*(u:E):=by
 unfold cf Lib.replace;split;·omega
 .have h:=zDW o u (cy s o (-1)) s;have v:cy s o (-1)<=(s:E)+1:=by
   unfold cy;rw[bn (.inl (by omega))];exact Lib.count_le s o
  have y:=Nat.mul_le_mul_right (u:E) v;omega
structure Sized (d:Dev):Prop where
 name:d.name.size<=ap
 orig:d.orig.size<=ap
 sub:d.sub.size<=ap
 drv:d.drv.size<=ap
 ali:d.ali.size<=ap
def look (ds:a0 Dev)(n:ab):ao Dev:=ds.find? (λd=>decide (d.index=n))
theorem zv {ds:a0 Dev}:look ds n=L↔∀ d∈ds,d.index≠n:=by
 unfold look;rw[List.find?_eq_none];simp
theorem zAR {ds:a0 Dev}{d:Dev}(h:look ds n=G d):d∈ds/\d.index=n:=by
 unfold look at h;exact⟨List.mem_of_find?_eq_some h,by simpa using List.find?_some h⟩
theorem zAw : ∀ (ds:a0 Dev) (n:ab),(look ds n=L/\place ds n=-1)\/∃ (k:E) (d:Dev),look ds n=G d/\place ds n=(k:ab)/\ds[k]?=G d
 | [],n=>.inl ⟨rfl,rfl⟩
 | x::t,n=>by
  by_cases h:x.index=n;·exact .inr ⟨0,x,by simp[look,h],by simp[place,h],rfl⟩
  .have v:look (x::t) n=look t n:=by simp[look,h]
   rw[v];rcases zAw t n with⟨o,u⟩|⟨k,d,o,u,y⟩
   .exact .inl ⟨o,by simp[place,h,u]⟩
   .refine .inr ⟨k+1,d,o,?_,by simpa using y⟩;have:¬ ((k:ab)<0):=(by omega);simp[place,h,u,this]
theorem zEE {ds:a0 Dev}:place ds n<0↔look ds n=none:=by
 rcases zAw ds n with⟨o,u⟩|⟨k,d,o,u,v⟩
 .simp[o,u]
 .simp only[o,u];constructor;·intro h;omega
  .intro h;cases h
theorem zJ3 {ds:a0 Dev}{d:Dev}(h:look ds n=G d):devOf ds n=d:=by
 rcases zAw ds n with⟨o,u⟩|⟨k,e,o,u,v⟩
 .rw[h]at o;cases o
 .rw[h]at o;cases o;unfold devOf;rw[u,ba (by omega),dv,v];rfl
theorem zJ2 {ds:a0 Dev}(h:look ds n=L):devOf ds n=Dev.zero:=by
 unfold devOf;rw[bn (zEE.2 h)]
def chainK (ds:a0 Dev):E->ab->a0 Dev
 | 0,_=>[]
 | k+1,n=>match look ds n with
  | none=>[]
  | some d=>d::chainK ds k d.parent
def chain (ds:a0 Dev)(n:ab):a0 Dev:=chainK ds (ds:E) n
def origin (ds:a0 Dev)(n:ab):a0 ah:=((chain ds n).map Dev.orig).reverse
theorem zFU (ds:a0 Dev):∀ (k:E) (n:ab),(chainK ds k n).length<=k
 | 0,_=>by simp[chainK]
 | k+1,n=>by
  unfold chainK;cases look ds n with
  | none=>simp
  | some d=>have:=zFU ds k d.parent;simp only[be];omega
theorem zCw (ds:a0 Dev)(n:ab):(chain ds n).length<=(ds:E):=zFU ds _ n
theorem zFS (ds:a0 Dev):∀ (k:E) (n:ab) (d:Dev),d∈chainK ds k n->d∈ds
 | 0,_,d,h=>by simp[chainK]at h
 | k+1,n,d,h=>by
  unfold chainK at h;cases e:look ds n with
  | none=>rw[e]at h;simp at h
  | some x=>
   rw[e]at h;rcases List.mem_cons.1 h with h|h
   .subst h;exact(zAR e).1
   .exact zFS ds k _ d h
theorem zEi {ds:a0 Dev}{d:Dev}(h:d∈chain ds n):d∈ds:=zFS ds _ n d h
theorem zA2 {ds:a0 Dev}(h:look ds n=L)(k:E):chainK ds k n=[]:=by
 cases k<;>simp[chainK,h]
inductive Ch (ds:a0 Dev):ab->a0 Dev->Prop
 | nil {n:ab} (h:look ds n=L):Ch ds n []
 | cons {n:ab} {d:Dev} {l:a0 Dev} (h:look ds n=G d) (t:Ch ds d.parent l):Ch ds n (d::l)
theorem Ch.fuel {ds:a0 Dev}{l:a0 Dev}(h:Ch ds n l):∀ k,(l:E)<=k->chainK ds k n=l:=by
 induction h with
 | nil h=>intro k _;exact zA2 h k
 | cons h t u=>
  intro k o;cases k with
  | zero=>simp at o
  | succ k=>unfold chainK;rw[h];simp only[be]at o;simp only[u k (by omega)]
theorem Ch.det {ds:a0 Dev}{l l':a0 Dev}(h:Ch ds n l)(o:Ch ds n l'):l=l':=by
 have u:=h.fuel (max (l:E) (l':E)) (by omega);have v:=o.fuel (max (l:E) (l':E)) (by omega);exact u.symm.trans v
structure TreeOk (ds:a0 Dev):Prop where
 nd:(ds.map Dev.index).Nodup
 ix:∀ d∈ds,1<=d.index/\d.index<=1073741824
 pa:∀ (k:E) (d:Dev),ds[k]?=G d->d.parent=0\/∃ (j:E) (e:Dev),j<k/\ds[j]?=G e/\e.index=d.parent
 nm:∀ d∈ds,OkN d.orig
theorem TreeOk.sz {ds:a0 Dev}(h:TreeOk ds):∀ d∈ds,d.orig.size<=32:=λd o=>(h.nm d o).1
theorem TreeOk.nil: TreeOk []:=⟨by simp,by simp,by simp,by simp⟩
section
variable {ds:a0 Dev}
theorem zx : ∀ {ds:a0 Dev},(ds.map Dev.index).Nodup->∀ {d:Dev},d∈ds->look ds d.index=G d
 | [],_,d,h=>by simp at h
 | x::t,o,d,h=>by
  simp only[ck,e3]at o;rcases List.mem_cons.1 h with h|h
  .subst h;simp[look]
  .have:x.index≠d.index:=by
    intro e;apply o.1;rw[e];exact List.mem_map_of_mem h
   have u:=zx o.2 h;unfold look at u ⊢;simp[this,u]
theorem TreeOk.lk (h:TreeOk ds){d:Dev}(o:d∈ds):look ds d.index=G d:=zx h.nd o
theorem TreeOk.zero (h:TreeOk ds):look ds 0=none:=zv.2 λd o e=>by have:=(h.ix d o).1;omega
theorem TreeOk.ch (h:TreeOk ds):∀ (k:E) (d:Dev),ds[k]?=G d->∃ l,Ch ds d.index l/\l.length<=k+1:=by
 intro k
 induction k using Nat.strongRecOn with
 | ind k y=>
  intro d o;have u:=bw o;rcases h.pa k d o with z|⟨j,e,A,F,I⟩
  .refine⟨[d],.cons (h.lk u) ?_,by simp⟩;rw[z];exact .nil h.zero
  .obtain⟨l,J,v⟩:=y j A e F;refine⟨d::l,.cons (h.lk u) (by rw[<-I];exact J),by simp only[be];omega⟩
theorem TreeOk.chn (h:TreeOk ds){d:Dev}(v:look ds n=G d):Ch ds n (chain ds n):=by
 obtain⟨y,rfl⟩:=zAR v;obtain⟨k,o⟩:=dz y;obtain⟨l,u,A⟩:=h.ch k d o;have z:k<(ds:E):=(List.getElem?_eq_some_iff.1 o).1;have e:chain ds d.index=l:=u.fuel (ds:E) (by omega);rw[e];exact u
theorem TreeOk.chn0 (h:TreeOk ds)(n:ab):Ch ds n (chain ds n):=by
 cases e:look ds n with
 | none=>rw[show chain ds n=[]from zA2 e _];exact .nil e
 | some d=>exact h.chn e
theorem TreeOk.chain_cons (h:TreeOk ds){d:Dev}(o:look ds n=G d):chain ds n=d::chain ds d.parent:=by
 exact(h.chn o).det (.cons o (h.chn0 _))
theorem TreeOk.chain_none (h:look ds n=L):chain ds n=[]:=zA2 h _
theorem TreeOk.origin_cons (h:TreeOk ds){d:Dev}(o:look ds n=G d):origin ds n=origin ds d.parent++[d.orig]:=by
 unfold origin;rw[h.chain_cons o];simp
theorem TreeOk.origin_none (h:look ds n=L):origin ds n=[]:=by
 unfold origin;rw[TreeOk.chain_none h];rfl
end
def insAt (ds:a0 Dev)(k:E)(d:Dev):a0 Dev:=ds.take k++d::ds.drop k
theorem zV {ds:a0 Dev}{d e:Dev}:e∈insAt ds k d↔e=d\/e∈ds:=by
 unfold insAt;have h:e∈ds↔e∈ds.take k\/e∈ds.drop k:=by rw[<-d1,bh]
 rw[d1,d2,h];constructor
 .rintro (h|h|h);·exact .inr (.inl h)
  .exact .inl h
  .exact .inr (.inr h)
 .rintro (h|h|h);·exact .inr (.inl h)
  .exact .inl h
  .exact .inr (.inr h)
theorem zCq {ds:a0 Dev}{d:Dev}:(insAt ds k d).length=(ds:E)+1:=by
 unfold insAt;have:=cd List.length (bh k ds);simp only[ci,be]at this ⊢;omega
theorem zDl {ds:a0 Dev}{d:Dev}(o:k<=(ds:E))(h:i<k):(insAt ds k d)[i]?=ds[i]?:=by
 unfold insAt;rw[dx (by simp;omega),bv h]
theorem zNI {ds:a0 Dev}{d:Dev}(h:k<=(ds:E)):(insAt ds k d)[k]?=G d:=by
 unfold insAt;rw[cz (by simp;omega)];simp[e6 h]
theorem zIx {ds:a0 Dev}{d:Dev}(h:k<=(ds:E))(o:k<=i):(insAt ds k d)[i+1]?=ds[i]?:=by
 unfold insAt;rw[cz (by simp;omega)];simp only[e1,e6 h];rw[show i+1-k=(i-k)+1 from by omega];simp only[dy,List.getElem?_drop];rw[show k+(i-k)=i from by omega]
theorem TreeOk.insert {ds:a0 Dev}(h:TreeOk ds){d:Dev}(v:k<=(ds:E))(z:look ds d.index=L)(V:1<=d.index/\d.index<=1073741824)(X:OkN d.orig)
  (Y:d.parent=0\/∃ (j:E) (e:Dev),j<k/\ds[j]?=G e/\e.index=d.parent):TreeOk (insAt ds k d):=by
 have J:=zv.1 z;refine⟨?_,?_,?_,?_⟩
 .unfold insAt;have Z:=h.nd;rw[<-bh k ds,cj]at Z;rw[cj,ck];have U:((d::(ds.take k++ds.drop k)).map Dev.index).Nodup:=by
   rw[ck,e3];refine⟨?_,by rwa [cj]⟩;rw[bh];intro hm;obtain⟨e,o,N⟩:=List.mem_map.1 hm;exact J e o N
  rw[ck,cj]at U;exact(List.perm_middle.nodup_iff).2 U
 .intro e o;rcases zV.1 o with rfl|o
  .exact V
  .exact h.ix e o
 .intro i e o;rcases Nat.lt_trichotomy i k with A|rfl|A
  .rw[zDl v A]at o;rcases h.pa i e o with F|⟨j,f,I,y,u⟩
   .exact .inl F
   .exact .inr ⟨j,f,I,by rw[zDl v (by omega)];exact y,u⟩
  .rw[zNI v]at o;cases o;rcases Y with F|⟨j,f,I,y,u⟩
   .exact .inl F
   .exact .inr ⟨j,f,I,by rw[zDl v I];exact y,u⟩
  .obtain⟨i,rfl⟩:∃ m,i=m+1:=⟨i-1,by omega⟩
   rw[zIx v (by omega)]at o;rcases h.pa i e o with F|⟨j,f,I,y,u⟩
   .exact .inl F
   .by_cases O:j<k;·exact .inr ⟨j,f,by omega,by rw[zDl v O];exact y,u⟩
    .exact .inr ⟨j+1,f,by omega,by rw[zIx v (by omega)];exact y,u⟩
 .intro e o;rcases zV.1 o with rfl|o
  .exact X
  .exact h.nm e o
theorem zF0 {ds:a0 Dev}{d:Dev}(o:((insAt ds k d).map Dev.index).Nodup)(y:look ds d.index=L)(n:ab):look (insAt ds k d) n=if n=d.index then G d else look ds n:=by
 split
 .rename_i e;subst e;exact zx o (zV.2 (.inl rfl))
 .rename_i v;cases hl:look ds n with
  | none=>
   rw[zv]at hl ⊢;intro e u;rcases zV.1 u with rfl|u
   .exact λh=>v h.symm
   .exact hl e u
  | some e=>
   obtain⟨u,rfl⟩:=zAR hl;exact zx o (zV.2 (.inr u))
theorem Ch.ins {ds:a0 Dev}{d:Dev}(z:TreeOk ds)(u:((insAt ds k d).map Dev.index).Nodup)(o:look ds d.index=L)(O:1<=d.index){l:a0 Dev}(h:Ch ds n l)(y:n≠d.index):Ch (insAt ds k d) n l:=by
 induction h with
 | nil h=>exact .nil (by rw[zF0 u o,ba y];exact h)
 | @cons n e l h t A=>
  refine .cons (by rw[zF0 u o,ba y];exact h) (A ?_);obtain⟨F,_⟩:=zAR h;obtain⟨j,I⟩:=dz F;rcases z.pa j e I with J|⟨U,f,_,N,v⟩
  .rw[J];omega
  .rw[<-v];exact zv.1 o f (bw N)
structure TreeWf (ds:a0 Dev):Prop where
 ok:TreeOk ds
 uo:∀ d∈ds,∀ e∈ds,origin ds d.index=origin ds e.index->d=e
 dp:∀ d∈ds,(origin ds d.index).length<=7
theorem TreeWf.nil: TreeWf []:=⟨TreeOk.nil,by simp,by simp⟩
theorem zCV {ds:a0 Dev}(o:TreeOk ds){l:a0 Dev}(h:Ch ds n l):chain ds n=l:=(o.chn0 n).det h
theorem TreeWf.insert {ds:a0 Dev}(h:TreeWf ds){d:Dev}(hk:k<=(ds:E))(z:look ds d.index=L)(hi:1<=d.index/\d.index<=1073741824)(hs:OkN d.orig)(V:d.parent≠d.index)
  (hp:d.parent=0\/∃ (j:E) (e:Dev),j<k/\ds[j]?=G e/\e.index=d.parent) (ho:∀ e∈ds,origin ds e.index≠origin ds d.parent++[d.orig]) (hd:(origin ds d.parent).length<7):
  TreeWf (insAt ds k d)/\(∀ n,n≠d.index->chain (insAt ds k d) n=chain ds n)/\chain (insAt ds k d) d.index=d::chain ds d.parent:=by
 have O:=h.ok.insert hk z hi hs hp;have A:∀ n,n≠d.index->chain (insAt ds k d) n=chain ds n:=λn X=>zCV O ((h.ok.chn0 n).ins h.ok O.nd z hi.1 X)
 have F:chain (insAt ds k d) d.index=d::chain ds d.parent:=by
  rw[O.chain_cons (O.lk (zV.2 (.inl rfl))),A _ V]
 have o:∀ n,n≠d.index->origin (insAt ds k d) n=origin ds n:=λn X=>by unfold origin;rw[A n X]
 have u:origin (insAt ds k d) d.index=origin ds d.parent++[d.orig]:=by unfold origin;rw[F];simp
 have I:=zv.1 z;refine⟨⟨O,?_,?_⟩,A,F⟩
 .intro x Y y hy N;rcases zV.1 Y with U|v
  .rcases zV.1 hy with Z|J
   .rw[U,Z]
   .rw[U,u,o _ (I y J)]at N;exact absurd N.symm (ho y J)
  .rcases zV.1 hy with Z|J
   .rw[Z,u,o _ (I x v)]at N;exact absurd N (ho x v)
   .rw[o _ (I x v),o _ (I y J)]at N;exact h.uo x v y J N
 .intro x Y;rcases zV.1 Y with U|v
  .rw[U,u];simp;omega
  .rw[o _ (I x v)];exact h.dp x v
theorem infoD: (Tryz.prog.info? 48).map (λi=>(i.zero,i.size,i.bytes))=G (G (au #[.int ae 0,.int ae 0,ay,ay,ay,ay,ay,.int ae 0,.int ae 0,.slice L 0 0]),10,136):=by kernel_rfl
theorem infoS: (Tryz.prog.info? 9).map (λi=>(i.zero,i.size,i.bytes))=G (G (.string ay),1,16):=by kernel_rfl
theorem zQ {n:E}{z:a0 ar}(h:w.ownsRow o e u v n z)(y:v.ownBlock=G b):From o b:=by
 obtain⟨_,⟨rfl,_⟩|⟨g,A,F,rfl,I,_⟩⟩:=h;·cases y
 .cases y;exact I
theorem zI {n:E}{y:a0 ar}(h:w.ownsRow o e u v n y):∃ a c,v=.slice a n c:=by
 obtain⟨_,⟨rfl,rfl⟩|⟨g,z,A,rfl,F,_⟩⟩:=h;·exact⟨_,_,rfl⟩
 .exact⟨_,_,rfl⟩
theorem zAp {base':E}{n:E}(h:w.ownsRow o e u v n A)(I:base'<=o):w.ownsRow base' e u v n A:=by
 obtain⟨F,h|⟨g,y,z,h,J,r⟩⟩:=h;·exact⟨F,.inl h⟩
 .exact⟨F,.inr ⟨g,y,z,h,e5 I J,r⟩⟩
theorem ze {n:E}(h:w.ownsRow o e u v n A)(z:v.ownBlock=G b):b<(w:E):=by
 obtain⟨_,⟨rfl,_⟩|⟨g,F,I,rfl,J,y,_⟩⟩:=h;·cases z
 .cases z;exact zC y
theorem zCG {z:a1}{y:E}{n:E}(h:w.ownsRow u e y v n A){o:Obj}(F:(w.alloc o).grownBy z v.ownBlock):Fr (From u) w z:=
 ((Fr.refl _ _).alloc o).step (Fr.of_grown F) (λb _ e=>zQ h e)
theorem zAc {F:a1}{n:E}{I:a0 ar}(h:w.ownsRow o e u v n I)(O:Fr S w F)(U:∀ b,o<=b->¬ S b):F.ownsRow o e u v n I:=by
 obtain⟨J,⟨rfl,y⟩|⟨g,z,A,rfl,N,V,X,y,Y,Z⟩⟩:=h;·exact⟨J,.inl ⟨rfl,y⟩⟩
 .exact⟨J,.inr ⟨g,z,A,rfl,N,O.heap V (U g N),X,y,Y,Z⟩⟩
theorem zl (w:a1)(h:b1 ar)(t:b6)(o:(w:E)=b):∀ j u,h.toList[j]?=G u->(w.alloc (aj h t)) ((⟨b,0,L⟩:b2).add j)=G u:=by
 intro j u v;subst o;rw[dl,zB (zF w (aj h t))]
 simpa using v
def flat (l:a0 Dev):a0 ar:=l.flatMap (λd=>d.vals.toList)
theorem zCt (l:a0 Dev)(d:Dev):flat (l++[d])=flat l++d.vals.toList:=by simp[flat]
theorem zNQ (l:a0 Dev):(flat l).length=(l:E)*10:=by
 induction l with
 | nil=>rfl
 | cons d t h=>
  have:flat (d::t)=d.vals.toList++flat t:=by simp[flat]
  rw[this,ci,h];simp[Dev.vals];omega
theorem zOV (d:Dev)(j:E)(h:j<10):d.vals.toList[j]?=G (d.cell j):=by
 unfold Dev.vals
 match j,h with
 | 0,_=>rfl
 | 1,_=>rfl
 | 2,_=>rfl
 | 3,_=>rfl
 | 4,_=>rfl
 | 5,_=>rfl
 | 6,_=>rfl
 | 7,_=>rfl
 | 8,_=>rfl
 | 9,_=>rfl
theorem zHx : ∀ (l:a0 Dev) (i:E) (d:Dev),l[i]?=G d->∀ j,j<10->(flat l)[i*10+j]?=G (d.cell j)
 | [],i,d,h,j,o=>by simp at h
 | x::t,0,d,h,j,o=>by
  simp at h;subst h;have:flat (x::t)=x.vals.toList++flat t:=by simp[flat]
  rw[this,dx (by simp[Dev.vals];omega)]
  simpa using zOV x j o
 | x::t,i+1,d,h,j,o=>by
  have:flat (x::t)=x.vals.toList++flat t:=by simp[flat]
  rw[this,cz (by simp[Dev.vals];omega)];have u:=zHx t i d (by simpa using h) j o;rw[show (i+1)*10+j-x.vals.toList.length=i*10+j from by simp[Dev.vals];omega];exact u
theorem zAd (d:Dev):∀ u∈d.vals.toList,u.oneCell'=true:=by
 intro u h;simp[Dev.vals]at h;rcases h with rfl|rfl|rfl|rfl|rfl|rfl|rfl|rfl|rfl|rfl<;>rfl
theorem zNP (l:a0 Dev):∀ u∈flat l,u.oneCell'=true:=by
 intro u h;obtain⟨d,o,h⟩:=List.mem_flatMap.1 h;exact zAd d u h
theorem Devs.of_own {l:a0 Dev}(h:w.ownsRow u e 10 v (l:E) (flat l)):
  ∃ a o,v=.slice a l o/\Devs w a o l/\∀ y,a=G y->u<=y.block:=by
 obtain⟨_,⟨rfl,z⟩|⟨g,o,A,rfl,N,F,O,z,Z,U⟩⟩:=h
 .have:l=[]:=cg z;subst this;exact⟨L,0,rfl,Devs.nil w,λ_ e=>by cases e⟩
 .refine⟨G ⟨g,0,L⟩,o,rfl,⟨O,z,(λe=>by cases e),?_⟩,λy e=>by cases e;exact N⟩;intro y e V;cases e;refine⟨rfl,zC F,λi d I j X=>?_⟩;rw[zB F];simp only[d4];have Y:i<(l:E):=(List.getElem?_eq_some_iff.1 I).1;have J:(A.toList.take ((l:E)*10))[i*10+j]?=(flat l)[i*10+j]?:=by rw[U]
  rw[bv (by omega),zHx l i d I j X]at J;rw[<-bf,J]
structure Strs (w:a1)(a:ao b2)(cap:E)(l:a0 ah):Prop where
 len:(l:E)<=cap
 max:cap<=ap
 isNil:a=L->l=[]/\cap=0
 cell:∀ ad,a=G ad->l≠[]->ad.spot=L/\ad.block<(w:E)/\∀ i x,l[i]?=G x->w ⟨ad.block,ad.off+i,L⟩=G (.string x)
theorem Strs.at {v:E}{l:a0 ah}(h:Strs w a v l)(u:k<(l:E)):
  ∃ b o x,a=G ⟨b,o,L⟩/\l[k]?=G x/\w ⟨b,o+k,L⟩=G (.string x):=by
 cases a with
 | none=>obtain⟨rfl,_⟩:=h.isNil rfl;simp at u
 | some z=>
  obtain⟨b,o,F⟩:=z;obtain⟨y,I,A⟩:=h.cell _ rfl (by intro e;subst e;simp at u);simp at y;subst y;exact⟨b,o,l[k],rfl,by simp[u],A k _ (by simp[u])⟩
theorem Strs.lenmax {l:a0 ah}(h:Strs w a o l):(l:E)<=9223372036854775807:=by
 have v:=h.len;have u:=h.max;unfold ap at u;omega
theorem Strs.fr {l:a0 ah}(h:Strs w a o l)(y:Fr S w w')(z:∀ u,a=G u->l≠[]->¬ S u.block):Strs w' a o l:=
 ⟨h.len,h.max,h.isNil,λu e v=>by
  obtain⟨A,F,I⟩:=h.cell u e v;exact⟨A,bx F y.size,λi x J=>y.cell (I i x J) (z u e v)⟩⟩
theorem Strs.no {l:a0 ah}(h:Strs w a o l)(u:Fr S w w')(v:∀ k,¬ S k):Strs w' a o l:=h.fr u (λ_ _ _=>v _)
theorem Strs.nil (w:a1):Strs w L 0 []:=⟨by simp,by simp,λ_=>⟨rfl,rfl⟩,λ_ e _=>by cases e⟩
theorem Strs.of_own {l:a0 ah}(h:w.ownsRow u e 1 v (l:E) (l.map cb)):
  ∃ a o,v=.slice a l o/\Strs w a o l/\∀ y,a=G y->u<=y.block:=by
 obtain⟨_,⟨rfl,z⟩|⟨g,o,A,rfl,N,F,O,z,Y,U⟩⟩:=h
 .have:l=[]:=cg z;subst this;exact⟨L,0,rfl,Strs.nil w,λ_ e=>by cases e⟩
 .refine⟨G ⟨g,0,L⟩,o,rfl,⟨O,z,(λe=>by cases e),?_⟩,λy e=>by cases e;exact N⟩;intro y e V;cases e;refine⟨rfl,zC F,λi x I=>?_⟩;rw[zB F];simp only[d4];have X:i<(l:E):=(List.getElem?_eq_some_iff.1 I).1;have J:(A.toList.take ((l:E)*1))[i]?=(l.map cb)[i]?:=by rw[U]
  rw[bv (by omega)]at J;rw[<-bf,J];simp[I]
theorem zFn (a:ao b2)(h:E)(ds:a0 Dev)(n:ab)(w:a1)(u:Devs w a h ds)(o:look ds n=L):
  aw ai 163 #[au #[.slice a ds h],n] w λe w'=>e=.returned (.tuple #[au Dev.zero.vals,.bool am])/\Fr No w w':=
 (zIb a h ds n w u).mono λe w' ⟨v,y⟩=>⟨by rw[v,zJ2 o,dg (by have:=zEE.2 o;omega)],y⟩
theorem zFm (a:ao b2)(o:E)(ds:a0 Dev)(n:ab)(d:Dev)(w:a1)(v:Devs w a o ds)(u:look ds n=G d):
  aw ai 163 #[au #[.slice a ds o],n] w λe w'=>e=.returned (.tuple #[au d.vals,.bool ag])/\Fr No w w':=
 (zIb a o ds n w v).mono λe w' ⟨y,z⟩=>⟨by
  rw[y,zJ3 u,dh (by
   have A:¬ place ds n<0:=λh=>by rw[zEE.1 h]at u;cases u
   omega)],z⟩
theorem zEj {ds:a0 Dev}{d:Dev}(h:look ds n=G d)(k:E):chainK ds (k+1) n=d::chainK ds k d.parent:=by
 rw[chainK,h]
theorem zKt (a:ao b2)(o:E)(ds:a0 Dev)(n:ab)(w:a1)(V:Devs w a o ds)(hb:(ds:E)<=1000000):
  aw ai 113 #[au #[.slice a ds o],n] w λe w'=>(∃ v,e=.returned v/\w'.ownsRow (w:E) 48 10 v (chain ds n).length (flat (chain ds n)))/\Fr No w w':=by
 obtain⟨i0,hi,X,Y,Z⟩:=info_parts infoD;have hx:Fr No w (w.alloc (aj #[.slice a ds o] 39)):=(Fr.refl _ _).alloc _;have a2:=V.no hx (λ_=>id);have a3:=zF w (aj #[.slice a ds o] 39);have hm:=V.lenmax;go_enter Tryz.func113,Tryz.ntmps113;go_wp2;generalize N:w.alloc (aj #[.slice a ds o] 39)=W0 at *;have a8:(w:E)+1<=(W0:E):=by rw[<-N];simp
 clear N;go_loopw [1,5] (λi v wr=>∃ (pre:a0 Dev) (m:ab) (av:ao b2) (cv:E),(pre:E)<=(ds:E)/\i=.int ae m/\v=.slice av pre cv/\af (chain ds n=pre++chainK ds ((ds:E)-(pre:E)) m)/\wr.ownsRow ((w:E)+1) 48 10 (.slice av pre cv) (pre:E) (flat pre)/\Fr (From ((w:E)+1)) W0 wr) (λ_ v _=>match v with | .slice _ k _=>(ds:E)-k|_=>0);case atStart=>exact⟨[],n,L,0,by simp,rfl,rfl,by unfold af chain;simp,eo _ _ _ _,Fr.refl _ _⟩
 case round=>
  obtain⟨pre,m,av,cv,hk,rfl,rfl,HC,F,z⟩:=hrel;have a9:=z.size;have a4:=z.heap a3 (by omega);have c0:wr ⟨w,0,L⟩=G (.slice a ds o):=zB a4 0;have O:=a2.fr z (λad e a5 hS=>by have:=(V.cell ad e a5).2.1;omega);by_cases b0:(pre:E)<(ds:E)
  .cases hlk:look ds m with
   | none=>
    have I:=zh hlk;clear hlk;go_wp2_with fail;apply (zFn a o ds m _ O I).mono;rintro e U ⟨rfl,A⟩;unfold Dev.vals Dev.zero;go_wp2;go_ret;have e:chain ds n=pre:=(by rw[HC,zA2 I,List.append_nil]);rw[e];exact⟨⟨_,rfl,zAp ((zAc F A (λ_ _=>id)).alloc _) (by omega)⟩,((hx.step z (λb hb h=>by omega)).step A zi).alloc _⟩
   | some d=>
    have I:=zh hlk;clear hlk;go_wp2_with fail;apply (zFm a o ds m d _ O I).mono;rintro e U ⟨rfl,A⟩;unfold Dev.vals;have u:=zAc F A (λ_ _=>id);go_wp2_with (at_builtin;refine dk _ rfl _ _ 37 rfl ((w:E)+1) 48 i0 (au #[.int ae 0,.int ae 0,ay,ay,ay,ay,ay,.int ae 0,.int ae 0,.slice L 0 0]) 10 136 Tryz.underlying37 hi X Y Z rfl (by decide) _ _ _ rfl ((u.alloc _).alloc _) ⟨(U:E)+1,0,L⟩ 1 1 d.vals.toList rfl rfl (zl _ d.vals _ (df _ _)) (zAd d) (by unfold ap;omega) (by omega) (by have:=A.size;simp;omega) ?_;intro v' w2 J y _;have c1:w2 ⟨U,1,L⟩=G (.int ae d.parent):=(Fr.of_grown y).cell (zB (zP U _ _) 1) (λe=>Nat.lt_irrefl _ (ze u e));obtain⟨a6,a7,rfl⟩:=zI J)
    go_roundw;case rel=>
     refine⟨pre++[d],d.parent,a6,a7,by simp;omega,rfl,by simp,?_,by rw[ci,zCt];exact J,(z.step A zn).step (((Fr.refl (From ((w:E)+1)) U).alloc _).step (zCG (u.alloc _) y) zi) zi⟩;unfold af;rw[HC.out,show (ds:E)-(pre:E)=((ds:E)-(pre++[d]).length)+1 from by simp;omega,zEj I.out];simp
    case measure=>simp;omega
  .have e:chain ds n=pre:=by rw[HC.out,show (ds:E)-(pre:E)=0 from by omega];simp[chainK]
   have He:=zh e;clear e;go_wp2;go_ret;rw[He];exact⟨⟨_,rfl,zAp F (by omega)⟩,hx.step z (λb hb h=>by omega)⟩
theorem zBX (l:a0 ah):∀ u∈l.map cb,u.oneCell'=true:=by
 intro u h;obtain⟨x,_,rfl⟩:=List.mem_map.1 h;rfl
theorem zJk (a:ao b2)(y:E)(ds:a0 Dev)(n:ab)(w:a1)(hl:Devs w a y ds)(hb:(ds:E)<=1000000):
  aw ai 55 #[au #[.slice a ds y],n] w λe w'=>(∃ v,e=.returned v/\w'.ownsRow (w:E) 9 1 v (origin ds n).length ((origin ds n).map cb))/\Fr No w w':=by
 obtain⟨i0,hi,V,X,Y⟩:=info_parts infoS;have Z:Fr No w (w.alloc (aj #[.slice a ds y] 39)):=(Fr.refl _ _).alloc _;have F:=hl.no Z (λ_=>id);have a6:(origin ds n).length<=1000000:=by unfold origin;simp;have:=zCw ds n;omega
 go_enter Tryz.func55,Tryz.ntmps55;go_wp2_with fail;apply (zKt a y ds n _ F hb).mono;rintro e I ⟨⟨v,rfl,o⟩,J⟩;have a7:(chain ds n).length<=1000000:=by have:=zCw ds n;omega
 have a8:(w:E)+1<=(I:E):=by have:=J.size;rwa [df]at this
 obtain⟨ac,cc,rfl,hD,U⟩:=Devs.of_own o;have N:af (origin ds n=((chain ds n).map Dev.orig).reverse):=rfl;have O:=Z.step J zi;clear o Z F;generalize chain ds n=c at *;go_wp2_with fail;go_loopw [5,7] (λv i wr=>∃ (k:E) (av:ao b2) (cv:E),k<=(c:E)/\i=.int ae ((k:ab)-1)/\v=.slice av ((c:E)-k) cv/\wr.ownsRow (I:E) 9 1 (.slice av ((c:E)-k) cv) ((c:E)-k) ((((c.drop k).map Dev.orig).reverse).map cb)/\Fr (From (I:E)) I wr) (λ_ i _=>(b7 i+1).toNat);case atStart=>exact⟨(c:E),L,0,by omega,rfl,by simp,by simpa using eo _ _ _ _,Fr.refl _ _⟩
 case round=>
  obtain⟨k,av,cv,hk,rfl,rfl,o,z⟩:=hrel;have a9:=z.size;cases k with
  | zero=>
   go_wp2;go_ret;rw[N];simp only[List.drop_zero,Nat.sub_zero]at o;exact⟨⟨_,rfl,by rw[List.length_reverse,List.length_map];exact zAp o (by omega)⟩,O.step z (λb hb h=>by omega)⟩
  | succ j=>
   have a2:=hD.fr z (λad e a3 hS=>by have:=(hD.cell ad e a3).2.1;omega);obtain⟨b,b0,d,rfl,hd,hc⟩:=a2.dev (by omega:j<(c:E));have c3:=hc.c3;have Hd:=zh hd;clear hd hc;rw[show ((j+1:E):ab)-1=(j:ab)from by omega];go_wp2_with (at_builtin;refine dk _ rfl _ _ 30 rfl (I:E) 9 i0 (.string ay) 1 16 Tryz.underlying30 hi V X Y rfl (by decide) _ _ _ rfl (o.alloc _) ⟨wr,0,L⟩ 1 1 [.string d.orig] rfl rfl (cell_one_new _ _ _) (zBX [d.orig]) (by unfold ap;omega) (by omega) (by simp;omega) ?_;intro v' w2 u A _;obtain⟨a4,a5,rfl⟩:=zI u)
   go_roundw;case rel=>
    have e:(c:E)-(j+1)+1=(c:E)-j:=(by omega);rw[e]at u ⊢;refine⟨j,a4,a5,by omega,rfl,rfl,?_,z.step (zCG o A) zi⟩;rw[List.drop_eq_getElem_cons (by omega:j<(c:E))];have e2:c[j]=d:=(by have:=Hd.out;rw[bu (by omega)]at this;exact Option.some.inj this);rw[e2]
    simpa using u
   case measure=>simp[b7]
theorem strEq (x y:ah):(x.toList==y.toList)=decide (x=y):=by
 rw[ByteArray.toList_eq,ByteArray.toList_eq,Bool.eq_iff_iff,decide_eq_true_iff];constructor
 .intro h;cases x;cases y;have:=eq_of_beq h;simp only at this
  congr 1
  exact Array.toList_inj.1 this
 .rintro rfl;simp
theorem zAV : ∀ (a b:a0 ax),bt a b=0->a=b
 | [],[],_=>rfl
 | [],_::_,h=>by simp[bt]at h
 | _::_,[],h=>by simp[bt]at h
 | a::s,b::t,h=>by
  unfold bt at h;split at h;·simp at h
  .rename_i o;split at h;·simp at h
   .rename_i u;have:a=b:=by
     have v:=UInt8.not_lt.1 o;have y:=UInt8.not_lt.1 u;exact UInt8.le_antisymm y v
    rw[this,zAV s t h]
def cmpN : a0 ah->a0 ah->ab
 | [],[]=>0
 | [],_::_=>-1
 | _::_,[]=>1
 | a::s,b::t=>if a=b then cmpN s t else bt a.data.toList b.data.toList
theorem zHD : ∀ (a b:a0 ah),cmpN a b=0->a=b
 | [],[],_=>rfl
 | [],_::_,h=>by simp[cmpN]at h
 | _::_,[],h=>by simp[cmpN]at h
 | a::s,b::t,h=>by
  unfold cmpN at h;split at h;·rename_i e;rw[e,zHD s t h]
  .rename_i e;exfalso;apply e;have o:=zAV _ _ h;cases a;cases b;simp only at o
   congr 1
   exact Array.toList_inj.1 o
theorem zJI : ∀ (p a b:a0 ah),cmpN (p++a) (p++b)=cmpN a b
 | [],_,_=>rfl
 | x::p,a,b=>by
  show cmpN (x::(p++a)) (x::(p++b))=_
  rw[cmpN,bn rfl];exact zJI p a b
theorem zLw {a b:a0 ah}(h:a.take k=b.take k):cmpN a b=cmpN (a.drop k) (b.drop k):=by
 have o:=zJI (a.take k) (a.drop k) (b.drop k);rw[bh,h,bh]at o;exact o
structure DevB (W:a1)(b:E)(d:Dev):Prop where
 c0:W ⟨b,0,L⟩=G (.int ae d.index)
 c1:W ⟨b,1,L⟩=G (.int ae d.parent)
 c2:W ⟨b,2,L⟩=G (.string d.name)
 c3:W ⟨b,3,L⟩=G (.string d.orig)
 c4:W ⟨b,4,L⟩=G (.string d.sub)
 c5:W ⟨b,5,L⟩=G (.string d.drv)
 c6:W ⟨b,6,L⟩=G (.string d.ali)
 c7:W ⟨b,7,L⟩=G (.int ae d.kind)
 c8:W ⟨b,8,L⟩=G (.int ae d.num)
 c9:W ⟨b,9,L⟩=G (.slice d.aa d.an d.ac)
theorem DevB.of {d:Dev}{o:E×E}(h:W.heap[b]?=G (aj d.vals T o)):DevB W b d:=
 ⟨zB h 0,zB h 1,zB h 2,zB h 3,zB h 4,zB h 5,zB h 6,zB h 7,zB h 8,zB h 9⟩
structure DevF (W:a1)(b:E):Prop where
 f0:W.frozen? ⟨b,0,L⟩=am
 f1:W.frozen? ⟨b,1,L⟩=am
 f2:W.frozen? ⟨b,2,L⟩=am
 f3:W.frozen? ⟨b,3,L⟩=am
 f4:W.frozen? ⟨b,4,L⟩=am
 f5:W.frozen? ⟨b,5,L⟩=am
 f6:W.frozen? ⟨b,6,L⟩=am
 f7:W.frozen? ⟨b,7,L⟩=am
 f8:W.frozen? ⟨b,8,L⟩=am
 f9:W.frozen? ⟨b,9,L⟩=am
theorem DevF.of (h:W.heap[b]?=G (aj cs T)):DevF W b:=
 ⟨zD h 0,zD h 1,zD h 2,zD h 3,zD h 4,zD h 5,zD h 6,zD h 7,zD h 8,zD h 9⟩
theorem zGD (x h u:ab)(w:a1):
  aw ai 177 #[x,h,u] w λe w'=>e=.returned (.bool (decide (h<=x)&&decide (x<=u)))/\w=w':=by
 by_cases v:h<=x
 .have o:=zh v;go_enter ed,eg;go_wp2_with fail
  all_goals (go_ret;exact⟨zN (by rw[dh o.out];rfl),rfl⟩)
 .have o:=zh v;go_enter ed,eg;go_wp2_with fail
  all_goals (go_ret;exact⟨zN (by rw[dg (by have:=o.out;omega)];rfl),rfl⟩)
def numK (k:ab):Bool:=k==2||k==3
theorem zFP (k:ab)(w:a1):
  aw ai 230 #[k] w λe w'=>e=.returned (.bool (numK k))/\w=w':=by
 rcases h1:(k==2)with _|_
 .have H:af (numK k=(k==3)):=by unfold af numK;rw[h1];rfl
  go_enter ef,ei;go_wp2_with fail
  all_goals (go_ret;exact⟨zN H.symm,rfl⟩)
 .have H:af (numK k=ag):=by unfold af numK;rw[h1];rfl
  go_enter ef,ei;go_wp2_with fail
  all_goals (go_ret;exact⟨zN H.symm,rfl⟩)
def nodeOf (s:ah):ah:=⟨(cf s.data.toList [33] [47]).toArray⟩
theorem zEM (s:ah)(u:s.size<=1000000):(nodeOf s).size<=3000000:=by
 have h:=zEu s.data.toList [33] [47];have o:s.data.toList.length=s.size:=Array.length_toList;rw[o]at h;simp only[be,List.length_nil]at h;show (Array.size (List.toArray _))<=_
 rw[List.size_toArray];omega
def nodeR (d:Dev):ah:=if numK d.kind=ag then nodeOf d.orig else ()
theorem zFE (d:Dev)(h:d.orig.size<=1000000):(nodeR d).size<=3000000:=by
 unfold nodeR;split;·exact zEM _ h
 .show (0:E)<=_;omega
theorem zLr (d:Dev)(m:ab)(w:a1)(V:d.orig.size<=1000000)(N:w ⟨0,0,L⟩=G (.int ae m))(X:0<(w:E)):
  aw ai 182 #[au d.vals] w λe w'=>e=.returned (.tuple #[.string (nodeR d),.bool (numK d.kind)])/\Fr No w w':=by
 have A:Fr No w (w.alloc (aj d.vals 48)):=(Fr.refl _ _).alloc _;have F:=A.cell N id;have o:=Lib.countB_le ⟨#[33]⟩ (by decide) _ d.orig (cm _);have h:d.orig.size+Lib.countB d.orig ⟨#[33]⟩*(⟨#[47]⟩:ah).size<=140737488355328:=by
  show d.orig.size+Lib.countB d.orig ⟨#[33]⟩*1<=_
  omega
 have u:=zh h;clear o h;obtain⟨rs,y⟩:=ε (nodeR d)
 rw[<-y];have z:af (rs=if numK d.kind=ag then nodeOf d.orig else ()):=y;clear y;unfold Dev.vals at *;go_enter Tryz.func182,Tryz.ntmps182;go_wp2_with fail;apply (zFP _ _).mono;rintro e O ⟨rfl,rfl⟩;rcases hk:numK d.kind with _|_
 .have I:af (rs=()):=by unfold af;rw[z,hk];rfl
  have J:=zh hk;clear hk;go_wp2_with fail;refine bm (v:=.tuple #[(),.bool am]) (by simp[cr,ek,go_sem]) rfl ?_;exact⟨by rw[I,J],A⟩
 .have I:af (rs=nodeOf d.orig):=by unfold af;rw[z,hk];rfl
  have J:=zh hk;clear hk;go_wp2_with fail;apply (Tryz.strings_ReplaceAll d.orig ⟨#[33]⟩ ⟨#[47]⟩ m _ (by omega) F (by decide) u).mono;rintro e O ⟨rfl,U⟩;go_wp2_with fail;refine bm (v:=.tuple #[.string ⟨(cf d.orig.data.toList [33] [47]).toArray⟩,.bool ag]) (by simp[cr,ek,go_sem]) rfl ?_;exact⟨by rw[I,J];rfl,A.step (Fr.of_below_size U) zi⟩
def textF : ax->Bool:=λc=>!(decide ((c.toNat:ab)<32))&&!(decide (126<(c.toNat:ab)))
def zBF (s:ah):Bool:=s.data.toList.all textF&&decide (s.size<=256)
theorem zGo (s:ah)(w:a1)(U:s.size<=ap):
  aw ai 120 #[s] w λe w'=>e=.returned (.bool (zBF s))/\w=w':=by
 have X:s.size<=9223372036854775807:=by unfold ap at U;omega
 go_enter Tryz.func120,Tryz.ntmps120;go_wp2
 go_loop [6] (λi=>∃ k:E,k<=s.size/\i=.int ae k/\af ((s.data.toList.take k).all textF=ag)) (λi=>s.size-(b7 i).toNat)
 case atStart=>exact⟨0,by omega,rfl,by unfold af;simp⟩
 case round=>
  obtain⟨k,Y,rfl,y⟩:=hrel;by_cases F:k<s.size
  .have z:s.data.toList[k]?=G s[k]:=by
    rw[bf];exact ce (by simpa using F)
   have I:=zh z;clear z;obtain⟨q,o⟩:=ε (s[k])
   have H:af (textF q=(!(decide ((q.toNat:ab)<32))&&!(decide (126<(q.toNat:ab))))):=(by unfold af;rfl);have J:=zh o;by_cases u:((q.toNat:E):ab)<32
   .have N:((s[k].toNat:E):ab)<32:=(by rw[<-o];exact u);have A:af (textF q=am):=(by unfold af;rw[H.out];simp only[u,decide_true,dn,Bool.false_and]);clear o u;go_wp2;go_ret;exact⟨zN (by unfold zBF;rw[zMH _ _ _ _ I (by rw[<-J];exact A)];rfl),rfl⟩
   .have N:¬ ((s[k].toNat:E):ab)<32:=(by rw[<-o];exact u);by_cases v:126<((q.toNat:E):ab)
    .have O:126<((s[k].toNat:E):ab):=(by rw[<-o];exact v);have A:af (textF q=am):=(by unfold af;rw[H.out];simp only[v,decide_true,dn,cw]);clear o u v;go_wp2;go_ret;exact⟨zN (by unfold zBF;rw[zMH _ _ _ _ I (by rw[<-J];exact A)];rfl),rfl⟩
    .have O:¬ 126<((s[k].toNat:E):ab):=(by rw[<-o];exact v);have A:af (textF q=ag):=(by unfold af;rw[H.out];simp only[u,v,decide_false,Bool.not_false,Bool.and_self]);clear o u v;go_wp2
     go_round
     case rel=>exact⟨k+1,by omega,by go_num,zC5 _ _ _ _ I y (by rw[<-J];exact A)⟩
     case measure=>simp[b7];omega
  .have h:=y.out;rw[cl (by simp;omega)]at h;have V:=zh h;clear h;go_wp2;go_ret;exact⟨zN (by unfold zBF;rw[V.out];simp;omega),rfl⟩
def benB (s t:ah):Bool:=dw t.data.toList (s++⟨#[47]⟩).data.toList
theorem zGq (s u:ah)(w:a1)(o:s.size<=3000000)(v:u.size<=3000000):
  aw ai 239 #[s,u] w λe w'=>e=.returned (.bool (benB s u))/\w=w':=by
 have h:af (benB s u=dw u.data.toList (s++⟨#[47]⟩).data.toList):=rfl;go_enter Tryz.func239,Tryz.ntmps239;go_wp2_with fail;apply (Tryz.strings_HasPrefix u _ _).mono;rintro e y ⟨rfl,rfl⟩;go_wp2;go_ret;exact⟨zN h.symm,rfl⟩
def namedB (d:Dev):Bool:=isName d.name&&isName d.orig&&isName d.sub&&zBF d.ali
theorem zPT (d:Dev)(w:a1)(hs:Sized d)(hd:d.drv=()):
  aw ai 178 #[au d.vals] w λe w'=>e=.returned (.bool (namedB d))/\Fr No w w':=by
 obtain⟨ix,pa,nm,u,v,dr,y,kd,nu,aa,an,ac⟩:=d;dsimp only at hd;subst hd;obtain⟨s1,s2,s3,-,s5⟩:=hs;have hx:Fr No w (w.alloc (aj (Dev.vals ⟨ix,pa,nm,u,v,(),y,kd,nu,aa,an,ac⟩) 48)):=(Fr.refl _ _).alloc _;have q0:=zF w (aj (Dev.vals ⟨ix,pa,nm,u,v,(),y,kd,nu,aa,an,ac⟩) 48);obtain⟨W0,h⟩:=ε (w.alloc (aj (Dev.vals ⟨ix,pa,nm,u,v,(),y,kd,nu,aa,an,ac⟩) 48))
 rw[<-h]at hx q0;unfold Dev.vals at h ⊢;dsimp only at h;obtain⟨z,A⟩:=ε (namedB ⟨ix,pa,nm,u,v,(),y,kd,nu,aa,an,ac⟩)
 rw[<-A];have o:af (z=(isName nm&&isName u&&isName v&&zBF y)):=A;clear A;obtain⟨I,c1,J,N,O,U,V,X,Y,Z⟩:=DevB.of q0;go_enter Tryz.func178,Tryz.ntmps178;go_upto_region 1 with(fail)
 rw[<-h];clear h;go_wp2_with fail;apply (zAU nm _ s1).mono;rintro e w1 ⟨rfl,a2⟩;have q1:=a2.heap q0 id;have a3:=hx.step a2 zi;clear I c1 J N O U V X Y Z q0;obtain⟨I,c1,J,N,O,U,V,X,Y,Z⟩:=DevB.of q1;rcases hb1:isName nm with _|_
 .have F:af (z=am):=by unfold af;rw[o,hb1];rfl
  clear hb1;go_wp2;go_ret;exact⟨zN F.symm,a3⟩
 have H1:=zh hb1;clear hb1;go_wp2_with fail;apply (zAU u _ s2).mono;rintro e w2 ⟨rfl,a4⟩;have q2:=a4.heap q1 id;have a5:=a3.step a4 zi;clear I c1 J N O U V X Y Z q1;obtain⟨I,c1,J,N,O,U,V,X,Y,Z⟩:=DevB.of q2;rcases hb1:isName u with _|_
 .have F:af (z=am):=by unfold af;rw[o,hb1,cw];rfl
  clear hb1;go_wp2;go_ret;exact⟨zN F.symm,a5⟩
 have H2:=zh hb1;clear hb1;go_wp2_with fail;apply (zAU v _ s3).mono;rintro e w3 ⟨rfl,a6⟩;have q3:=a6.heap q2 id;have a7:=a5.step a6 zi;clear I c1 J N O U V X Y Z q2;obtain⟨I,c1,J,N,O,U,V,X,Y,Z⟩:=DevB.of q3;rcases hb1:isName v with _|_
 .have F:af (z=am):=by unfold af;rw[o,hb1,cw];rfl
  clear hb1;go_wp2;go_ret;exact⟨zN F.symm,a7⟩
 have H3:=zh hb1;clear hb1;go_wp2_with fail;apply (zGo y _ s5).mono;rintro e w4 ⟨rfl,rfl⟩;have F:af (z=zBF y):=by unfold af;rw[o,H1,H2,H3];rfl
 go_wp2;go_ret;exact⟨zN F.symm,a7⟩
theorem zPU (d:Dev)(w:a1)(h:d.kind=2):
  aw ai 179 #[au d.vals] w λe w'=>e=.returned (.bool (d.name.toList==d.orig.toList))/\Fr No w w':=by
 obtain⟨u,v,nm,y,z,A,F,U,I,J,N,O⟩:=d;dsimp only at h;subst h;have o:Fr No w (w.alloc (aj (Dev.vals ⟨u,v,nm,y,z,A,F,2,I,J,N,O⟩) 48)):=(Fr.refl _ _).alloc _;unfold Dev.vals at *;dsimp only at o ⊢;go_enter Tryz.func179,Tryz.ntmps179;go_wp2;go_ret;exact⟨rfl,o⟩
theorem zLq (d:Dev)(w:a1)(h:d.kind=2):
  aw ai 180 #[au d.vals] w λe w'=>e=.returned (.bool (decide (1<=d.num)&&decide (d.num<=1073741824)))/\Fr No w w':=by
 obtain⟨u,v,nm,y,z,A,F,V,I,J,N,O⟩:=d;dsimp only at h;subst h;have o:Fr No w (w.alloc (aj (Dev.vals ⟨u,v,nm,y,z,A,F,2,I,J,N,O⟩) 48)):=(Fr.refl _ _).alloc _;unfold Dev.vals at *;dsimp only at o ⊢;have H:af (numK 2=ag):=rfl;go_enter Tryz.func180,Tryz.ntmps180;go_wp2_with fail;apply (zFP _ _).mono;rintro e U ⟨rfl,rfl⟩;rw[H];go_wp2_with fail;apply (zGD _ _ _ _).mono;rintro e U ⟨rfl,rfl⟩;go_wp2;go_ret;exact⟨rfl,o⟩
def SMap (w:a1)(mb:E)(g:ab->ao ah)(N:E):Prop:=
 ∃ (D:DataW Unit) (n:E),n<=N/\w.ownsMap ai 3 (bo ai 9) mb n D/\(∀ x,has D (.int ae x)=(g x).isSome)/\∀ x,D.atKey (.int ae x) (.lit (.string []))=.lit (.string ((g x).getD ⟨#[]⟩).data.toList)
def IMap (w:a1)(mb:E)(g:ab->ao ab)(N:E):Prop:=
 ∃ (D:DataW Unit) (n:E),n<=N/\w.ownsMap ai 3 (bo ai 3) mb n D/\(∀ x,has D (.int ae x)=(g x).isSome)/\∀ x,D.atKey (.int ae x) (.lit (.int ae 0))=.lit (.int ae ((g x).getD 0))
theorem SMap.lt (h:SMap w o g N):o<(w:E):=by obtain⟨D,n,_,u,_⟩:=h;exact u.lt
theorem IMap.lt {g:ab->ao ab}(h:IMap w o g N):o<(w:E):=by obtain⟨D,n,_,u,_⟩:=h;exact u.lt
theorem SMap.fr (h:SMap w o g N)(u:Fr S w w')(v:¬ S o):SMap w' o g N:=by
 obtain⟨D,n,y,z,r⟩:=h;exact⟨D,n,y,u.ownsMap z v,r⟩
theorem IMap.fr {g:ab->ao ab}(h:IMap w o g N)(u:Fr S w w')(v:¬ S o):IMap w' o g N:=by
 obtain⟨D,n,y,z,r⟩:=h;exact⟨D,n,y,u.ownsMap z v,r⟩
theorem SMap.made (w:a1):SMap (w.alloc (.map #[] 0)) (w:E) (λ_=>L) 0:=⟨.map [],0,cm _,en _ _ _ _,λ_=>rfl,λ_=>rfl⟩
theorem IMap.made (w:a1):IMap (w.alloc (.map #[] 0)) (w:E) (λ_=>L) 0:=⟨.map [],0,cm _,en _ _ _ _,λ_=>rfl,λ_=>rfl⟩
theorem zeroS (w:a1):(zeroValue 9).run ai w=.ok (.string ()) w:=by kernel_rfl
theorem zeroI (w:a1):(zeroValue 3).run ai w=.ok (.int ae 0) w:=by kernel_rfl
theorem zDn {t:ah}(h:s.data.toList=t.data.toList):s=t:=by
 cases s;cases t;simp only at h
 congr 1
 exact Array.toList_inj.1 h
theorem zHL {w:a1}{u:b1 ak}{h:a0 ak}{o:ak}{a:al}{Q:b4->al->a1->Prop}(O:o.guard=L)(m x:bz)(t:b6)(A:o.op=d5 t m x am)(U:Tryz.prog.underlying t=G (.map 3 9))
  (I:E) (g:ab->ao ah) (N:E) (k:ab) (V:(bb ae k).wf=ag) (X:a.eval m=.map (G I)) (y:SMap w I g N) (Y:a.eval x=.int ae k)
  (Z:az ai u Q h (a.put o.dst (.string ((g k).getD ⟨#[]⟩))) w):az ai u Q (o::h) a w:=by
 obtain⟨D,n,_,ho,_,h2⟩:=y;refine wpList_plain O λK' F=>?_
 obtain⟨v,ps,z,hv⟩:=ho.lookup lawI U (zeroS w) (es co (by unfold ap;show 0<=_;omega)) (dj ca V);obtain⟨s,rfl,J,_⟩:=et co hv;simp only[Prod.mk.injEq]at J;have e:=(h2 k).symm.trans J.1;obtain rfl:s=(g k).getD ⟨#[]⟩:=zDn (by simpa using e.symm);unfold Oper.wp;simp[b3,A,X,Y,z,Result.andThen];exact F _ _ Z
theorem zEz {w:a1}{u:b1 ak}{h:a0 ak}{o:ak}{a:al}{Q:b4->al->a1->Prop}(I:o.guard=L)(m x:bz)(t:b6)(z:o.op=d5 t m x ag)(J:Tryz.prog.underlying t=G (.map 3 9))
  (A:E) (g:ab->ao ah) (N:E) (k:ab) (O:(bb ae k).wf=ag) (U:a.eval m=.map (G A)) (y:SMap w A g N) (V:a.eval x=.int ae k)
  (X:az ai u Q h (a.put o.dst (.tuple #[.string ((g k).getD ⟨#[]⟩),.bool (g k).isSome])) w):az ai u Q (o::h) a w:=by
 obtain⟨D,n,_,Y,Z,h2⟩:=y;refine wpList_lookup_own_ok w I m x t z 3 9 lawI J _ (zeroS w) (.lit (.string [])) [] (es co (by unfold ap;show 0<=_;omega)) A n D U Y _ _ V (dj ca O) (λv ps hv=>?_);obtain⟨s,rfl,F,_⟩:=et co hv;simp only[Prod.mk.injEq]at F;have e:=(h2 k).symm.trans F.1;obtain rfl:s=(g k).getD ⟨#[]⟩:=zDn (by simpa using e.symm);rw[Z];exact X
theorem zE1 {w:a1}{u:b1 ak}{h:a0 ak}{o:ak}{a:al}{Q:b4->al->a1->Prop}(A:o.guard=L)(m x:bz)(t:b6)(y:o.op=d5 t m x ag)(F:Tryz.prog.underlying t=G (.map 3 3))
  (z:E) (g:ab->ao ab) (N:E) (k:ab) (I:(bb ae k).wf=ag) (J:a.eval m=.map (G z)) (v:IMap w z g N) (O:a.eval x=.int ae k)
  (U:az ai u Q h (a.put o.dst (.tuple #[.int ae ((g k).getD 0),.bool (g k).isSome])) w):az ai u Q (o::h) a w:=by
 obtain⟨D,n,_,V,X,Y⟩:=v;refine wpList_lookup_own_ok_int w A m x t y 3 3 ae lawI F ca (zeroI w) z n D J V _ _ O (dj ca I) (λc Z _=>?_);have e:=(Y k).symm.trans Z;obtain rfl:c=(g k).getD 0:=by simpa using e.symm
 rw[X];exact U
def updO {α:Type}(g:ab->ao α)(x:ab)(v:α):ab->ao α:=λy=>if y=x then G v else g y
theorem SMap.put {v:a1}{h:E}{n:E}(I:n<=N)(z:w.ownsMap ai 3 (bo ai 9) h n D)(A:∀ x,has D (.int ae x)=(g x).isSome)(F:∀ x,D.atKey (.int ae x) (.lit (.string []))=.lit (.string ((g x).getD ⟨#[]⟩).data.toList))
  (x:ab) (s:ah) (o:v.ownsMap ai 3 (bo ai 9) h (n+1) (D.put (.int ae x) (.lit (.string s.data.toList)))):SMap v h (updO g x s) (N+1):=by
 refine⟨_,n+1,by omega,o,λy=>?_,λy=>?_⟩
 .unfold updO;split;·rename_i e;subst e;rw[has_put_same z.isMap (zCo _) _];rfl
  .rename_i e;rw[has_put_other (by intro u;exact e (by simpa using u))];exact A y
 .unfold updO;split;·rename_i e;subst e;rw[atKey_put_same z.isMap (zCo _) _ _];rfl
  .rename_i e;rw[er (by intro u;exact e (by simpa using u))];exact F y
theorem IMap.put {z:a1}{h:E}{n:E}{g:ab->ao ab}(J:n<=N)(A:w.ownsMap ai 3 (bo ai 3) h n D)(F:∀ x,has D (.int ae x)=(g x).isSome)(I:∀ x,D.atKey (.int ae x) (.lit (.int ae 0))=.lit (.int ae ((g x).getD 0)))
  (x v:ab) (o:z.ownsMap ai 3 (bo ai 3) h (n+1) (D.put (.int ae x) (.lit (.int ae v)))):IMap z h (updO g x v) (N+1):=by
 refine⟨_,n+1,by omega,o,λy=>?_,λy=>?_⟩
 .unfold updO;split;·rename_i e;subst e;rw[has_put_same A.isMap (zCo _) _];rfl
  .rename_i e;rw[has_put_other (by intro u;exact e (by simpa using u))];exact F y
 .unfold updO;split;·rename_i e;subst e;rw[atKey_put_same A.isMap (zCo _) _ _];rfl
  .rename_i e;rw[er (by intro u;exact e (by simpa using u))];exact I y

theorem zAC {P:b5}{w:a1}{Z:b1 ak}{U:a0 ak}{o:ak}{a:al}{Q:b4->al->a1->Prop}(a2:o.guard=L)(s x:bz)(t:b6)
  (ho:o.op=.call { callee:=.builtin .append,args:=#[s,x],argTypes:=#[t,t] })
  (I:E) (e:b6) (i:TypeInfo) (z:ar) (y J:E) (ht:P.underlying t=G (.slice e)) (hi:P.info? e=G i) (hz:i.zero=G z)
  (V:i.size=y) (a3:i.bytes=J) (a4:z.cells.size=y) (a5:0<y)
  (v:ar) (n:E) (xs:a0 ar) (hs:a.eval s=v) (N:w.ownsRow I e y v n xs)
  (A:ao b2) (m c:E) (F:a0 ar) (hx:a.eval x=.slice A m c) (hA:A=L->m=0/\c=0) (hl:(F:E)=m*y)
  (X:∀ ad,A=G ad->∀ j u,F[j]?=G u->w (ad.add j)=G u) (h1:∀ u∈F,u.oneCell'=ag)
  (a6:n+m<=ap) (O:(n+m)*J<=140737488355328) (Y:I<=(w:E))
  (h:∀ v' w',w'.ownsRow I e y v' (n+m) (xs++F)->w.grownBy w' v.ownBlock->az P Z Q U (a.put o.dst v') w'):az P Z Q (o::U) a w:=by
 cases A with
 | none=>
  obtain⟨rfl,rfl⟩:=hA rfl;have hn:F=[]:=cg (by simpa using hl);subst hn;exact wpList_append_own_none a2 s x t ho I e i y ht hi v n xs hs N hx (h v w (by simpa using N) (World.grownBy.refl w _))
 | some ad=>
  exact dk w a2 s x t ho I e i z y J ht hi hz V a3 a4 a5 v n xs hs N ad m c F hx hl (X ad rfl) h1 a6 O Y (λv' w' h2 h3 _=>h v' w' h2 h3)
theorem zFB {y:a1}{n:E}{z:a0 ar}(h:W.ownsRow o e u v n z)(A:W.grownBy y v.ownBlock):Fr (From o) W y:=
 (Fr.of_grown A).mono (λb _ e=>zQ h e)
section
variable {w W W':a1}{a:ao b2}{n cap:E}{d:Dev}
end
end Go.Proofs.YtjohgekljmhheaaGreatDoor
