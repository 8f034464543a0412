import Derived.Below
import Derived.Lib.Hide
import Derived.Test.YtifphhgcelkflaaGreatDoorProg
import Derived.WalkKit
import Derived.WalkSpells
import Derived.WalkLawsBesides
import Derived.Maps.OwnSet
import Derived.Deep.QuietTactic
import Derived.BigQuiet
import Derived.Deep.DeepFit
import Derived.Deep.DeepMust
import Derived.Test.YtifphhgcelkflaaGreatDoorStrs
import Derived.Lib.IndexAny
import Derived.Laws.Rows
import Derived.OrdersHeld
import Derived.Lib.ReplaceLaws
import Derived.Deep.DeepCutAuto
import Derived.Maps.AppendAt
import Derived.Maps.StringElems
namespace Go.Proofs.YtifphhgcelkflaaGreatDoor
open Go.RowKit Go.Maps
set_option linter.unusedVariables false
set_option maxRecDepth 100000
set_option maxHeartbeats 2000000
instance:Coe World Nat:=⟨λw=>w.heap.size⟩
instance:Coe Unit ByteArray:=⟨λ_=>⟨#[]⟩⟩
open Go renaming World->ab,Act->ak,Oper->am,maxLen->ap,Calls->au,Value->ay,wpList->b1,Addr->b2,execOp->b3,Exit->b6,Program->b7,TypeId->bc,wpAnyH->bd,bodyPost_ret->bm,plainElem->bo,undef->bp,yielded->bq,Operand->cl,results->cq,wpAnyH_all->cr,wpAnyH_take->ct,plainElem_string->er,plainElem_string_inv->es,results_cell_row->et,wpList_append_own->eu,wpList_store_row->ev
open Go.Addr renaming add_lit->dk
open Go.Code renaming region->dn
open Go.Ending renaming returned->bs
open Go.Lib renaming compareBytes->bt,replaceAll->ce,replaceK->cw,replaceNum->cx,hasPrefix->dv
open Go.Lit renaming int->ba
open Go.Maps renaming keyOf_int_mk->dj,atKey_put_other->ep
open Go.Next renaming value->e6
open Go.Op renaming lookup->d5
open Go.Oper renaming quietAt->e7,wp_mono->e8
open Go.Proofs renaming intOf->b4
open Go.Proofs.Tryz renaming prog->ai,zeroCells147->b8,underlying3->bz,underlying9->cn,func12->d7,func39->d8,func78->d9,ntmps12->da,ntmps39->db,ntmps78->dc,underlying147->dd,func130->ec,func187->ed,func7->ee,ntmps130->ef,ntmps187->eg,ntmps7->eh,results135->ei,results70->ej
open Go.Region renaming ready->bb,wanted->bi,noSelect->cm,free->e9
open Go.Result renaming andThen_halt->ea,andThen_ok->eb
open Go.RowKit renaming Hid->ag
open Go.Sem renaming run_bind->d6
open Go.Value renaming string->ca,int->el
open Go.World renaming cell?->de,size_alloc->df,ownsMap_made->em,ownsRow_nil->en,setCell->eo
open IntKind renaming i64->a1
open Obj renaming cells->aj
open Value renaming agg->ar
open _root_ renaming Nat->E,List->a0,Int->ae,ByteArray->ah,Option->ao,Bool->aq,UInt8->aw,Array->az,if_neg->b9,False->bg,beq_iff_eq->bj,if_pos->bn,congrArg->cb,if_false->co,if_true->cp,decide_eq_false->dg,decide_eq_true->dh,decide_eq_true_eq->di
open _root_.Array renaming getElem?_toList->bf,getElem?_eq_getElem->cd,replicate->dl
open _root_.Bool renaming true->af,false->al,and_eq_true->b5,false_eq_true->br,and_false->cu,not_true->dm
open _root_.ByteArray renaming empty->ax
open _root_.Int renaming lt_tmod_of_pos->dq,tmod_lt_of_pos->dt,toNat_natCast->du
open _root_.List renaming length_cons->be,take_append_drop->bh,getElem?_eq_getElem->bu,getElem?_take_of_lt->bv,mem_of_getElem?->bw,length_append->cf,map_append->cg,map_cons->ci,take_of_length_le->cj,eq_nil_of_length_eq_zero->cy,getElem?_append_right->cz,getElem?_toArray->d0,mem_append->d1,mem_cons->d2,take_add_one->d3,getElem?_append_left->dw,getElem?_cons_succ->dx,getElem?_of_mem->dy,length_take->dz,nodup_cons->e1,not_mem_nil->e3
open _root_.Nat renaming lt_of_lt_of_le->bx,le_refl->ck,zero_add->d4,le_trans->e4,min_eq_left->e5
open _root_.Option renaming some->G,none->L
open _root_.UInt8 renaming ofNat->ek
variable{p:b2}{α:Type}{P:b7}{Q:b6->ak->ab->Prop}{S:E->Prop}{T e:bc}{w w' W:ab}{o b k u i j N:E}{row:ao E}{a:ao b2}{v:ay}{n:ae}{cs:az ay}{l:a0 (ah×ah)}{s:ah}{z:ao Tmp}{A:a0 ay}{y:ao (E×aq)}{I:Op}{g:ae->ao ah}{h:a0 am}{D:DataW Unit}
theorem zh {p:Prop}(h:p):ag p:=h
theorem zi {P Q:α->Prop}:∀ b,P b->Q b->Q b:=λ_ _ h=>h
theorem zn {P Q:α->Prop}:∀ b,P b->bg->Q b:=λ_ _ h=>h.elim
theorem zj {β:Type}{Q:α->β->Prop}:∀ a b,Q a b->Q a b:=λ_ _ h=>h
structure Fr (S:E->Prop)(w w':ab):Prop where
 os:w'.os=w.os
 tape:w'.tape=w.tape
 output:w'.output=w.output
 size:(w:E)<=(w':E)
 block:∀ k,k<(w:E)->¬ S k->w'.heap[k]?=w.heap[k]?
def No : E->Prop:=λ_=>bg
abbrev Is (b:E):E->Prop:=λk=>k=b
abbrev From (b:E):E->Prop:=λk=>b<=k
theorem Fr.refl (S:E->Prop)(w:ab):Fr S w w:=⟨rfl,rfl,rfl,ck _,λ_ _ _=>rfl⟩
theorem Fr.trans {T U:E->Prop}{o:ab}(h:Fr S w w')(k:Fr T w' o)(y:∀ b,b<(w:E)->S b->U b)(z:∀ b,b<(w:E)->T b->U b):Fr U w o:=
 ⟨k.os.trans h.os,k.tape.trans h.tape,k.output.trans h.output,e4 h.size k.size,
  λb u v=>(k.block b (bx u h.size) (λA=>v (z b u A))).trans (h.block b u (λF=>v (y b u F)))⟩
theorem Fr.step {o:ab}(h:Fr S w w'){T:E->Prop}(k:Fr T w' o)(u:∀ b,b<(w:E)->T b->S b):Fr S w o:=
 h.trans k zi u
theorem Fr.mono {T:E->Prop}(h:Fr S w w')(u:∀ b,b<(w:E)->S b->T b):Fr T w w':=
 ⟨h.os,h.tape,h.output,h.size,λb o v=>h.block b o (λy=>v (u b o y))⟩
theorem Fr.of_grown (h:w.grownBy w' row):Fr (λk=>row=G k) w w':=
 ⟨h.os,h.tape,h.output,h.size,λk o u=>h.block k o (λe=>u e.symm)⟩
theorem Fr.of_grown_some (h:w.grownBy w' (G b)):Fr (Is b) w w':=
 (Fr.of_grown h).mono (λ_ _ e=>(Option.some.inj e).symm)
theorem Fr.of_grown_none (h:w.grownBy w' L):Fr No w w':=
 (Fr.of_grown h).mono (λ_ _ e=>by cases e)
theorem Fr.of_below_size (h:Below (w:E) w w'):Fr No w w':=
 ⟨h.os,h.tape,h.output,h.size,λk o _=>h.block k o⟩
theorem Fr.below (h:Fr S w w')(y:o<=(w:E))(u:∀ b,b<o->¬ S b):Below o w w':=
 ⟨h.os,h.tape,h.output,h.size,λk v=>h.block k (by omega) (u k v)⟩
theorem Fr.grown (h:Fr S w w')(o:∀ b,S b->row=G b):w.grownBy w' row:=
 ⟨h.os,h.tape,h.output,h.size,λk u v=>h.block k u (λy=>v (o k y).symm)⟩
theorem Fr.alloc {a:ab}(h:Fr S a w)(o:Obj):Fr S a (w.alloc o):=
 h.step (T:=No) ⟨rfl,rfl,rfl,by simp,λk u _=>Below.heap_alloc _ _ _ u⟩ zn
theorem Fr.setCell {a:ab}(h:Fr S a w)(o:p.block<(a:E)->S p.block)(u:ay):Fr S a (w.setCell p u):=
 h.step (T:=Is p.block) ⟨rfl,rfl,rfl,by simp[eo],λk _ v=>Below.heap_setCell _ _ _ _ v⟩ (λb y e=>by unfold Is at e;subst e;exact o y)
theorem Fr.drew {a:ab}(h:Fr S a w):Fr S a w.drew:=⟨h.os,h.tape,h.output,h.size,h.block⟩
theorem Fr.drewN {a:ab}(h:Fr S a w)(n:E):Fr S a (w.drewN n):=⟨h.os,h.tape,h.output,h.size,h.block⟩
theorem Fr.heap (h:Fr S w w'){o:Obj}(u:w.heap[b]?=G o)(v:¬ S b):w'.heap[b]?=G o:=
 (h.block b (Array.getElem?_eq_some_iff.1 u).1 v).trans u
theorem Fr.cell (h:Fr S w w')(u:w.cell? p=G v)(z:¬ S p.block):w'.cell? p=G v:=by
 have y:p.block<(w:E):=by
  unfold de at u;cases hh:w.heap[p.block]? with
  | none=>simp[hh]at u
  | some o=>exact(Array.getElem?_eq_some_iff.1 hh).1
 rw[World.cell?_of_block (h.block _ y z)];exact u
theorem Fr.ownsMap {H:Type}{k:bc}{R:ay->ao (DataW H×a0 MemPlace)}{n:E}{D:DataW H}(h:Fr S w w')(u:w.ownsMap P k R b n D)(v:¬ S b):w'.ownsMap P k R b n D:=by
 have y:=u.lt;obtain⟨z,o,A,r⟩:=u;exact⟨z,o,h.heap A v,r⟩
theorem zB {o:E×E}(h:w.heap[b]?=G (aj cs T o))(i:E):w.cell? ⟨b,i,L⟩=cs[i]?:=by
 simp[de,h]
theorem zD (h:w.heap[b]?=G (aj cs T (0,0)))(i:E):w.frozen? ⟨b,i,L⟩=false:=by
 simp[World.frozen?,h]
theorem zC {o:Obj}(h:w.heap[b]?=G o):b<(w:E):=(Array.getElem?_eq_some_iff.1 h).1
theorem zE {o:E×E}(h:w.heap[b]?=G (aj cs T o))(i:E)(v:ay):
  (w.setCell ⟨b,i,L⟩ v).heap[b]?=G (aj (cs.setIfInBounds i v) T o):=by
 simp[eo,Array.getElem?_modify,h]
theorem zF (w:ab)(o:Obj):(w.alloc o).heap[(w:E)]?=G o:=by
 show (w.heap.push o)[(w:E)]?=_
 simp
theorem Fr.setNew {a:ab}(h:Fr S a w)(v:(a:E)<=p.block)(u:ay):Fr S a (w.setCell p u):=
 h.setCell (λo=>absurd o (by omega)) u
theorem zP (w:ab)(o h:Obj):((w.alloc o).alloc h).heap[(w:E)]?=G o:=by
 show ((w.heap.push o).push h)[(w:E)]?=_
 simp[Array.getElem?_push]
theorem zS (w:ab)(o u:Obj):((w.alloc o).alloc u).heap[(w:E)+1]?=G u:=by
 have h:=zF (w.alloc o) u
 rwa [df]at h
def upd (f:ae->aq)(x:ae)(b:aq):ae->Bool:=λy=>if y=x then b else f y
theorem lawI: Keyed ai 3:=int_keyed bz
theorem zCk (x:ae):WideAt.IsKeyLit (.int a1 x):=by
 simp[WideAt.IsKeyLit]
structure Ints (w:ab)(a:ao b2)(cap:E)(l:a0 ae):Prop where
 len:l.length<=cap
 max:cap<=ap
 wf:∀ x∈l,(ba a1 x).wf=af
 isNil:a=L->l=[]/\cap=0
 cell:∀ ad,a=G ad->l≠[]->ad.spot=L/\ad.block<(w:E)/\∀ i x,l[i]?=G x->w.cell? ⟨ad.block,ad.off+i,L⟩=G (.int a1 x)
theorem Ints.at {v:E}{l:a0 ae}(h:Ints w a v l)(u:k<l.length):
  ∃ b o x,a=G ⟨b,o,L⟩/\l[k]?=G x/\w.cell? ⟨b,o+k,L⟩=G (.int a1 x):=by
 cases a with
 | none=>obtain⟨rfl,_⟩:=h.isNil rfl;simp at u
 | some z=>
  obtain⟨b,o,F⟩:=z;obtain⟨y,I,A⟩:=h.cell _ rfl (by intro e;subst e;simp at u);simp at y;subst y;exact⟨b,o,l[k],rfl,by simp[u],A k _ (by simp[u])⟩
theorem Ints.lenmax {l:a0 ae}(h:Ints w a o l):l.length<=9223372036854775807:=by
 have v:=h.len;have u:=h.max;unfold ap at u;omega
theorem Ints.fr {l:a0 ae}(h:Ints w a o l)(y:Fr S w w')(z:∀ u,a=G u->l≠[]->¬ S u.block):Ints w' a o l:=
 ⟨h.len,h.max,h.wf,h.isNil,λu e v=>by
  obtain⟨A,F,I⟩:=h.cell u e v;exact⟨A,bx F y.size,λi x J=>y.cell (I i x J) (z u e v)⟩⟩
theorem Ints.no {l:a0 ae}(h:Ints w a o l)(u:Fr S w w')(v:∀ k,¬ S k):Ints w' a o l:=h.fr u (λ_ _ _=>v _)
theorem Ints.nil (w:ab):Ints w L 0 []:=⟨by simp,by simp,by simp,λ_=>⟨rfl,rfl⟩,λ_ e _=>by cases e⟩
theorem Ints.of_own {l:a0 ae}(h:w.ownsRow u e 1 v l.length (l.map (el a1)))(N:∀ x∈l,(ba a1 x).wf=af):
  ∃ a o,v=.slice a l.length o/\Ints w a o l/\∀ y,a=G y->u<=y.block:=by
 obtain⟨_,⟨rfl,z⟩|⟨g,o,A,rfl,O,F,U,z,Z,V⟩⟩:=h
 .have:l=[]:=cy z;subst this;exact⟨L,0,rfl,Ints.nil w,λ_ e=>by cases e⟩
 .refine⟨G ⟨g,0,L⟩,o,rfl,⟨U,z,N,(λe=>by cases e),?_⟩,λy e=>by cases e;exact O⟩;intro y e X;cases e;refine⟨rfl,zC F,λi x I=>?_⟩;rw[zB F];simp only[d4];have Y:i<l.length:=(List.getElem?_eq_some_iff.1 I).1;have J:(A.toList.take (l.length*1))[i]?=(l.map (el a1))[i]?:=by rw[V]
  rw[bv (by omega)]at J;rw[<-bf,J];simp[I]
theorem zL {a b:aq}(h:a=b):bs (.bool a)=.returned (.bool b):=by rw[h]
theorem zBC {k:IntKind}{a b:ae}(h:a=b):bs (.int k a)=.returned (.int k b):=by rw[h]
theorem Ints.of_isRow {w:ab}{v:E}{zs:a0 ae}(h:(a=L/\u=0/\v=0/\zs=[])\/
  ∃ x,a=G x/\u<=v/\v<=ap/\zs.length=v/\(∀ i,i<zs.length->w.cell? (x.add i)=G (.int a1 (zs.getD i 0)))/\∀ n∈zs,(ba a1 n).wf=af):
  ∃ l:a0 ae,l.length=u/\Ints w a v l:=by
 rcases h with⟨rfl,rfl,rfl,rfl⟩|⟨x,rfl,h1,V,h3,U,X⟩
 .exact⟨[],rfl,Ints.nil w⟩
 .refine⟨zs.take u,by simp;omega,by simp;omega,V,λx Y=>X x (List.mem_of_mem_take Y),(λe=>by cases e),?_⟩;intro ad e J;cases e;have z:0<zs.length:=by
   cases zs with
   | nil=>simp at J
   | cons _ _=>simp
  have I:=U 0 z;have A:x.spot=none:=by simpa [Addr.add]using World.cell?_spot I
  obtain⟨b,Z,sp⟩:=x;simp at A;subst A;refine⟨rfl,?_,λi y N=>?_⟩
  .unfold de at I;simp only[Addr.add]at I;cases hh:w.heap[b]? with
   | none=>simp[hh]at I
   | some o=>exact(Array.getElem?_eq_some_iff.1 hh).1
  .have F:i<(zs.take u).length:=(List.getElem?_eq_some_iff.1 N).1;have O:=U i (by simp at F;omega);rw[bv (by simp at F;omega)]at N;rw[List.getD_eq_getElem?_getD,N]at O;rw[dk]at O
   simpa using O
def foldV (v n:ae):ae:=if n<=1 then 0 else if v.tmod n<0 then v.tmod n+n else v.tmod n
theorem zDd {v:ae}(u:1<=n):0<=foldV v n/\foldV v n<n:=by
 unfold foldV;have h:=dq v (b:=n) (by omega);have o:=dt v (b:=n) (by omega);split;·omega
 .split<;>omega
theorem zLN (v n:ae)(w:ab)(z:1<=n)(A:n<=4294967296)(F:(ba a1 v).wf=af):
  au ai 12 #[.int a1 v,.int a1 n] w λe w'=>e=.returned (.int a1 (foldV v n))/\w=w':=by
 by_cases h:n<=1
 .go_enter d7,da;go_wp2;go_ret;exact⟨cb (λx=>bs (.int a1 x)) (show (0:ae)=foldV v n by unfold foldV;(repeat' split)<;>omega),rfl⟩
 .have u:-n<v.tmod n:=by have:=dq v (b:=n) (by omega);omega
  have y:v.tmod n<n:=dt v (by omega);by_cases o:v.tmod n<0
  .go_enter d7,da;go_wp2;go_ret;exact⟨cb (λx=>bs (.int a1 x)) (show (v.tmod n+n:ae)=foldV v n by unfold foldV;(repeat' split)<;>omega),rfl⟩
  .go_enter d7,da;go_wp2;go_ret;exact⟨cb (λx=>bs (.int a1 x)) (show (v.tmod n:ae)=foldV v n by unfold foldV;(repeat' split)<;>omega),rfl⟩
theorem zIo (v n:ae)(w:ab)(o:1<=n)(u:n<=4294967296)(y:(ba a1 v).wf=af):
  au ai 12 #[.int a1 v,.int a1 n] w λe w'=>∃ r,e=.returned (.int a1 r)/\0<=r/\r<n/\w=w':=
 (zLN v n w o u y).mono λe w' h=>⟨_,h.1,(zDd o).1,(zDd o).2,h.2⟩
def Tape (w:ab)(B tb k:E):Prop:=
 ∃ a cap l T,Ints w a cap l/\(∀ ad,a=G ad->l≠[]->ad.block<B)/\B<=tb/\w.heap[tb]?=G (aj #[.slice a l.length cap,.int a1 (k:ae)] T (0,0))
theorem Tape.fr {tb:E}(h:Tape w o tb k)(y:Fr S w w')(A:∀ b,b<o->¬ S b)(F:¬ S tb):Tape w' o tb k:=by
 obtain⟨a,u,l,T,I,z,J,N⟩:=h;exact⟨a,u,l,T,I.fr y (λO e v=>A _ (z O e v)),z,J,y.heap N F⟩
theorem zBF (J tb k:E)(n:ae)(w:ab)(ht:Tape w J tb k)(hk:k<=1000000000000)(U:1<=n)(V:n<=4294967296):
  au ai 7 #[.pointer (G ⟨tb,0,L⟩),.int a1 n] w λe w'=>∃ r,e=.returned (.int a1 r)/\0<=r/\r<n/\Tape w' J tb (k+1)/\Fr (Is tb) w w':=by
 obtain⟨a,z,l,T,F,X,hB,I⟩:=ht;have c0:w.cell? ⟨tb,0,L⟩=G (.slice a l.length z):=by rw[zB I];rfl
 have c1:w.cell? ⟨tb,1,L⟩=G (.int a1 (k:ae)):=by rw[zB I];rfl
 have f1:w.frozen? ⟨tb,1,L⟩=false:=zD I 1;have hm:=F.lenmax;have o:∀ m:E,Tape ((w.setCell ⟨tb,1,L⟩ (.int a1 ((k:ae)+1))).drewN m) J tb (k+1)/\Fr (Is tb) w ((w.setCell ⟨tb,1,L⟩ (.int a1 ((k:ae)+1))).drewN m):=λm=>by
  have Y:Fr (Is tb) w ((w.setCell ⟨tb,1,L⟩ (.int a1 ((k:ae)+1))).drewN m):=(Fr.setCell (S:=Is tb) (p:=⟨tb,1,L⟩) (Fr.refl _ _) (λ_=>rfl) _).drewN m;refine⟨⟨a,z,l,T,F.fr Y (λad e N h=>by have:=X ad e N;omega),X,hB,?_⟩,Y⟩;show (w.setCell ⟨tb,1,L⟩ (.int a1 ((k:ae)+1))).heap[tb]?=_
  rw[zE I];rfl
 have u:=zh o;clear o;by_cases O:k<l.length
 .obtain⟨b,a2,x,rfl,Z,hc⟩:=F.at O;have Hx:=zh (F.wf x (bw Z));have A:(k:ae)<l.length:=by omega
  clear Z;go_enter ee,eh;go_wp2_with fail
  go_quiet (fail)
  go_wp2_with fail
  go_quiet (fail)
  go_wp2_with fail;apply (zIo _ n _ U V Hx).mono;rintro e w1 ⟨r,rfl,v,y,rfl⟩;go_wp2;go_ret;exact⟨r,rfl,v,y,u _⟩
 .have A:¬ (k:ae)<l.length:=by omega
  go_enter ee,eh;go_wp2_with fail
  go_quiet (fail)
  go_wp2_with fail;apply (zIo _ n _ U V (WalkArith.wf_i64 (by omega))).mono;rintro e w1 ⟨r,rfl,v,y,rfl⟩;go_wp2;go_ret;exact⟨r,rfl,v,y,u _⟩
structure Dev where
 index:ae
 parent:ae
 name:ah
 orig:ah
 sub:ah
 drv:ah
 ali:ah
 kind:ae
 num:ae
 aa:ao b2
 an:E
 ac:E
def Dev.cell (d:Dev):E->ay
 | 0=>.int a1 d.index
 | 1=>.int a1 d.parent
 | 2=>.string d.name
 | 3=>.string d.orig
 | 4=>.string d.sub
 | 5=>.string d.drv
 | 6=>.string d.ali
 | 7=>.int a1 d.kind
 | 8=>.int a1 d.num
 | _=>.slice d.aa d.an d.ac
def Dev.vals (d:Dev):az ay:=#[.int a1 d.index,.int a1 d.parent,.string d.name,.string d.orig,.string d.sub,.string d.drv,.string d.ali,.int a1 d.kind,.int a1 d.num,.slice d.aa d.an d.ac]
def Dev.zero : Dev:=⟨0,0,ax,ax,ax,ax,ax,0,0,L,0,0⟩
structure Devs (w:ab)(a:ao b2)(cap:E)(ds:a0 Dev):Prop where
 len:ds.length<=cap
 max:cap<=ap
 isNil:a=L->ds=[]/\cap=0
 cell:∀ ad,a=G ad->ds≠[]->ad.spot=L/\ad.block<(w:E)/\∀ i d,ds[i]?=G d->∀ j,j<10->w.cell? ⟨ad.block,ad.off+(i*10+j),L⟩=G (d.cell j)
theorem Devs.at {v:E}{ds:a0 Dev}(h:Devs w a v ds)(u:k<ds.length):
  ∃ b o d,a=G ⟨b,o,L⟩/\ds[k]?=G d/\∀ j,j<10->w.cell? ⟨b,o+(k*10+j),L⟩=G (d.cell j):=by
 cases a with
 | none=>obtain⟨rfl,_⟩:=h.isNil rfl;simp at u
 | some z=>
  obtain⟨b,o,F⟩:=z;obtain⟨y,I,A⟩:=h.cell _ rfl (by intro e;subst e;simp at u);simp at y;subst y;exact⟨b,o,ds[k],rfl,bu u,A k _ (bu u)⟩
structure DevAt (w:ab)(b o:E)(d:Dev):Prop where
 c0:w.cell? ⟨b,o,L⟩=G (.int a1 d.index)
 c1:w.cell? ⟨b,o+1,L⟩=G (.int a1 d.parent)
 c2:w.cell? ⟨b,o+2,L⟩=G (.string d.name)
 c3:w.cell? ⟨b,o+3,L⟩=G (.string d.orig)
 c4:w.cell? ⟨b,o+4,L⟩=G (.string d.sub)
 c5:w.cell? ⟨b,o+5,L⟩=G (.string d.drv)
 c6:w.cell? ⟨b,o+6,L⟩=G (.string d.ali)
 c7:w.cell? ⟨b,o+7,L⟩=G (.int a1 d.kind)
 c8:w.cell? ⟨b,o+8,L⟩=G (.int a1 d.num)
 c9:w.cell? ⟨b,o+9,L⟩=G (.slice d.aa d.an d.ac)
theorem Devs.dev {v:E}{ds:a0 Dev}(h:Devs w a v ds)(y:k<ds.length):
  ∃ b u d,a=G ⟨b,u,L⟩/\ds[k]?=G d/\DevAt w b (u+k*10) d:=by
 obtain⟨b,u,d,z,A,o⟩:=h.at y;refine⟨b,u,d,z,A,?_⟩;exact⟨o 0 (by omega),o 1 (by omega),o 2 (by omega),o 3 (by omega),o 4 (by omega),o 5 (by omega),o 6 (by omega),o 7 (by omega),o 8 (by omega),o 9 (by omega)⟩
theorem Devs.lenmax {ds:a0 Dev}(h:Devs w a o ds):ds.length<=9223372036854775807:=by
 have v:=h.len;have u:=h.max;unfold ap at u;omega
theorem Devs.fr {ds:a0 Dev}(h:Devs w a o ds)(y:Fr S w w')(z:∀ u,a=G u->ds≠[]->¬ S u.block):Devs w' a o ds:=
 ⟨h.len,h.max,h.isNil,λu e v=>by
  obtain⟨A,F,I⟩:=h.cell u e v;exact⟨A,bx F y.size,λi d J j N=>y.cell (I i d J j N) (z u e v)⟩⟩
theorem Devs.no {ds:a0 Dev}(h:Devs w a o ds)(u:Fr S w w')(v:∀ k,¬ S k):Devs w' a o ds:=h.fr u (λ_ _ _=>v _)
theorem Devs.nil (w:ab):Devs w L 0 []:=⟨by simp,by simp,λ_=>⟨rfl,rfl⟩,λ_ e _=>by cases e⟩
def place : a0 Dev->ae->ae
 | [],_=>-1
 | d::t,n=>if d.index=n then 0 else if place t n<0 then -1 else place t n+1
theorem zIO : ∀ (ds:a0 Dev) (n:ae),-1<=place ds n/\place ds n<ds.length
 | [],n=>by simp[place]
 | d::t,n=>by
  have:=zIO t n;unfold place;split;·simp only[be];omega
  .split<;>simp only[be]<;>omega
theorem zC5 : ∀ (ds:a0 Dev) (n:ae) (k:E) (d:Dev),ds[k]?=G d->d.index=n->(∀ x∈ds.take k,x.index≠n)->place ds n=k
 | [],n,k,d,h,_,_=>by simp at h
 | x::t,n,0,d,h,e,_=>by simp at h;subst h;simp[place,e]
 | x::t,n,k+1,d,h,e,o=>by
  have u:x.index≠n:=o x (by simp);have v:=zC5 t n k d (by simpa using h) e (λy z=>o y (by simp[z]));unfold place;rw[b9 u,v];split<;>omega
theorem zC6 : ∀ (ds:a0 Dev) (n:ae),(∀ x∈ds,x.index≠n)->place ds n=-1
 | [],n,_=>rfl
 | x::t,n,h=>by
  unfold place;rw[b9 (h x (by simp)),zC6 t n (λy o=>h y (by simp[o]))];simp
theorem zKf (a:ao b2)(v:E)(ds:a0 Dev)(n:ae)(w:ab)(A:Devs w a v ds):
  au ai 116 #[.slice a ds.length v,.int a1 n] w λe w'=>e=.returned (.int a1 (place ds n))/\w=w':=by
 have U:=A.lenmax;go_enter Tryz.func116,Tryz.ntmps116;go_wp2
 go_loop [5] (λi=>∃ k:E,k<=ds.length/\i=.int a1 k/\ag (∀ x∈ds.take k,x.index≠n)) (λi=>ds.length-(b4 i).toNat)
 case atStart=>exact⟨0,by omega,rfl,by unfold ag;simp⟩
 case round=>
  obtain⟨k,V,rfl,u⟩:=hrel;by_cases z:k<ds.length
  .obtain⟨b,J,d,rfl,y,F⟩:=A.at z;have I:=zh y;have N:=F 0 (by omega);simp only[Dev.cell,Nat.add_zero]at N;clear y F;by_cases o:d.index=n
   .have O:(d.index==n)=true:=(by simpa using o);go_wp2;go_ret;exact⟨zBC (zC5 ds n k d I o u).symm,rfl⟩
   .have O:(d.index==n)=false:=(by simpa using o);go_wp2
    go_round
    case rel=>
     refine⟨k+1,by omega,by go_num,?_⟩;unfold ag;intro x y;rw[d3,I]at y;rcases List.mem_append.1 y with h|h
     .exact u x h
     .simp at h;subst h;exact o
    case measure=>simp[b4];omega
  .obtain rfl:k=ds.length:=by omega
   have h:=u.out;rw[cj (by omega)]at h;go_wp2;go_ret;exact⟨zBC (zC6 _ _ h).symm,rfl⟩
def devOf (ds:a0 Dev)(n:ae):Dev:=if place ds n<0 then Dev.zero else (ds[(place ds n).toNat]?).getD Dev.zero
theorem zIM (a:ao b2)(h:E)(ds:a0 Dev)(n:ae)(w:ab)(U:Devs w a h ds):
  au ai 70 #[ar #[.slice a ds.length h],.int a1 n] w λe w'=>e=.returned (.tuple #[ar (devOf ds n).vals,.bool (decide (0<=place ds n))])/\Fr No w w':=by
 have V:Fr No w (w.alloc (aj #[.slice a ds.length h] 53)):=(Fr.refl _ _).alloc _;have X:Fr No w ((w.alloc (aj #[.slice a ds.length h] 53)).alloc (aj #[.int a1 0,.int a1 0,.string ax,.string ax,.string ax,.string ax,.string ax,.int a1 0,.int a1 0,.slice L 0 0] 40)):=V.alloc _;have y:=U.no X (λ_=>id);go_enter Tryz.func70,Tryz.ntmps70;go_wp2_with fail;apply (zKf a h ds n _ y).mono;rintro e w1 ⟨rfl,rfl⟩;obtain⟨p,I⟩:∃ p,p=place ds n:=⟨_,rfl⟩
 have J:=zIO ds n;rw[<-I]at J;rw[<-I];have z:=zh I;clear I;by_cases o:p<0
 .have A:devOf ds n=Dev.zero:=by unfold devOf;rw[bn (by rw[<-z];exact o)]
  have N:=zh A;clear A;have O:ag (decide (0<=place ds n)=al):=dg (by rw[<-z];omega);go_wp2_with fail;refine bm (v:=.tuple #[ar Dev.zero.vals,.bool al]) (by simp[cq,ej,go_sem,Dev.vals,Dev.zero];rfl) rfl ?_;refine(λ(u:Fr No w _)=>⟨by rw[N,O],u⟩) ?_;(repeat first|exact Fr.refl _ _|refine Fr.alloc ?_ _|refine Fr.setNew ?_ (by simp) _)
 .obtain⟨k,rfl⟩:=Int.eq_ofNat_of_zero_le (by omega:0<=p);have Y:k<ds.length:=by omega
  obtain⟨b,Z,d,rfl,A,hc⟩:=y.dev Y;have F:devOf ds n=d:=by
   unfold devOf;rw[b9 (by rw[<-z];exact o),<-z,du,A];rfl
  have N:=zh F;have O:ag (decide (0<=place ds n)=af):=dh (by rw[<-z];omega);clear F A;obtain⟨c0,c1,c2,c3,c4,c5,c6,c7,c8,c9⟩:=hc;go_wp2_with fail;refine bm (v:=.tuple #[ar d.vals,.bool af]) (by simp[cq,ej,go_sem,Dev.vals]) rfl ?_;refine(λ(u:Fr No w _)=>⟨by rw[N,O],u⟩) ?_;(repeat first|exact Fr.refl _ _|refine Fr.alloc ?_ _|refine Fr.setNew ?_ (by simp) _)
theorem Fr.setAt {a:ab}(h:Fr (Is b) a w)(v:ay):Fr (Is b) a (w.setCell ⟨b,i,L⟩ v):=h.setCell (p:=⟨b,i,L⟩) (λ_=>rfl) v
theorem zBG (h:W.heap[b]?=G (aj cs T))(u:cs.size=10)(p:Dev):
  ((((((((((W.setCell ⟨b,0,L⟩ (.int a1 p.index)).setCell ⟨b,1,L⟩ (.int a1 p.parent)).setCell ⟨b,2,L⟩ (.string p.name)).setCell ⟨b,3,L⟩ (.string p.orig)).setCell ⟨b,4,L⟩ (.string p.sub)).setCell ⟨b,5,L⟩ (.string p.drv)).setCell ⟨b,6,L⟩ (.string p.ali)).setCell ⟨b,7,L⟩ (.int a1 p.kind)).setCell ⟨b,8,L⟩ (.int a1 p.num)).setCell ⟨b,9,L⟩ (.slice p.aa p.an p.ac)).heap[b]?=G (aj p.vals T)/\Fr (Is b) W ((((((((((W.setCell ⟨b,0,L⟩ (.int a1 p.index)).setCell ⟨b,1,L⟩ (.int a1 p.parent)).setCell ⟨b,2,L⟩ (.string p.name)).setCell ⟨b,3,L⟩ (.string p.orig)).setCell ⟨b,4,L⟩ (.string p.sub)).setCell ⟨b,5,L⟩ (.string p.drv)).setCell ⟨b,6,L⟩ (.string p.ali)).setCell ⟨b,7,L⟩ (.int a1 p.kind)).setCell ⟨b,8,L⟩ (.int a1 p.num)).setCell ⟨b,9,L⟩ (.slice p.aa p.an p.ac)):=by
 refine⟨?_,Fr.setAt (Fr.setAt (Fr.setAt (Fr.setAt (Fr.setAt (Fr.setAt (Fr.setAt (Fr.setAt (Fr.setAt (Fr.setAt (Fr.refl _ _) _) _) _) _) _) _) _) _) _) _⟩;obtain⟨l⟩:=cs
 match l,u with
 | [_,_,_,_,_,_,_,_,_,_],_=>
  have v:=zE h 0 (.int a1 p.index);have y:=zE v 1 (.int a1 p.parent);have z:=zE y 2 (.string p.name);have A:=zE z 3 (.string p.orig);have F:=zE A 4 (.string p.sub);have I:=zE F 5 (.string p.drv);have J:=zE I 6 (.string p.ali);have N:=zE J 7 (.int a1 p.kind);have O:=zE N 8 (.int a1 p.num);have o:=zE O 9 (.slice p.aa p.an p.ac);simp only[List.setIfInBounds_toArray,List.set_cons_zero,List.set_cons_succ]at o;exact o
def OkN (s:ah):Prop:=s.size<=32/\∀ b∈s.data.toList,b≠47
def RetB (e:Ending):Prop:=∃ b,e=.returned (.bool b)
theorem RetB.mk (b:aq):RetB (.returned (.bool b)):=⟨b,rfl⟩
def inSet (s set:ah):Bool:=s.data.toList.all set.data.toList.contains
def nameBA : ah:=⟨#[65,66,67,68,69,70,71,72,73,74,75,76,77,78,79,80,81,82,83,84,85,86,87,88,89,90,97,98,99,100,101,102,103,104,105,106,107,108,109,110,111,112,113,114,115,116,117,118,119,120,121,122,48,49,50,51,52,53,54,55,56,57,95,46,58,43,45,33]⟩
def isName (s:ah):Bool:=!decide (s.toList=[])&&decide (s.size<=32)&&inSet s nameBA&&!decide (s.toList=[46])&&!decide (s.toList=[46,46])
theorem zC2 (p:aw->aq)(l:a0 aw)(k:E)(x:aw)(h:l[k]?=G x)(o:(l.take k).all p=af)(u:p x=af):(l.take (k+1)).all p=true:=by
 rw[d3,h,List.all_append,o];simp[u]
theorem zLz (p:aw->aq)(l:a0 aw)(k:E)(x:aw)(h:l[k]?=G x)(o:p x=al):l.all p=false:=by
 rw[List.all_eq_false];exact⟨x,bw h,by simp[o]⟩
theorem zAg (h:isName s=af):OkN s:=by
 unfold isName at h;simp only[b5,di]at h;obtain⟨⟨⟨⟨_,u⟩,o⟩,_⟩,_⟩:=h;refine⟨u,λb v e=>?_⟩;unfold inSet at o;rw[List.all_eq_true]at o;have:=o b v;subst e;revert this;decide
theorem zy (w:ab)(o:Obj):∃ W,W=w.alloc o/\Fr No w W/\W.heap[(w:E)]?=G o:=⟨_,rfl,(Fr.refl _ _).alloc _,zF _ _⟩
theorem zw (w:ab)(o q:Obj):∃ W,W=(w.alloc o).alloc q/\Fr No w W/\W.heap[(w:E)]?=G o/\W.heap[(w:E)+1]?=G q:=⟨_,rfl,((Fr.refl _ _).alloc _).alloc _,zP _ _ _,zS _ _ _⟩
section
variable {a b c d e f g:Prop}
theorem zg2 (h:a)(i:b):ag (a/\b):=⟨h,i⟩
theorem zg3 (h:a)(i:b)(j:c):ag (a/\b/\c):=⟨h,i,j⟩
theorem zg4 (h:a)(i:b)(j:c)(k:d):ag (a/\b/\c/\d):=⟨h,i,j,k⟩
theorem zg5 (h:a)(i:b)(j:c)(k:d)(l:e):ag (a/\b/\c/\d/\e):=⟨h,i,j,k,l⟩
theorem zg6 (h:a)(i:b)(j:c)(k:d)(l:e)(m:f):ag (a/\b/\c/\d/\e/\f):=⟨h,i,j,k,l,m⟩
theorem zg7 (h:a)(i:b)(j:c)(k:d)(l:e)(m:f)(n:g):ag (a/\b/\c/\d/\e/\f/\g):=⟨h,i,j,k,l,m,n⟩
end
def bits (f:aw->aq):az ay:=Array.ofFn (n:=256) λi=>.bool (f (ek i.val))
def allB (f:aw->aq)(s:ah):Bool:=s.data.toList.all f
theorem zAC (f:aw->aq):(bits f).size=256:=by simp[bits]
theorem zDg (g:aw->aq):(bits g).all (·.oneCell')=true:=by
 rw[Array.all_eq_true_iff_forall_mem];intro v h;obtain⟨i,rfl⟩:=(Array.mem_ofFn).1 h;rfl
theorem zLp (f:aw->aq)(c:aw):(bits f)[c.toNat]?=G (.bool (f c)):=by
 have:c.toNat<256:=c.toNat_lt;rw[cd (by rw[zAC];exact this)];simp[bits]
theorem zNR (f:aw->aq)(c:aw):(bits f).setIfInBounds c.toNat (.bool af)=bits (λx=>f x||x==c):=by
 have:c.toNat<256:=c.toNat_lt;apply Array.ext;·simp[zAC]
 .intro i u o;rw[zAC]at o;rw[Array.getElem_setIfInBounds (by rw[zAC];exact o)];simp only[bits,Array.getElem_ofFn];by_cases e:c.toNat=i;·subst e;simp
  .rw[b9 e];have:(ek i==c)=false:=by
    rw[beq_eq_false_iff_ne];intro h;subst h;apply e;simp;omega
   rw[this,Bool.or_false]
theorem zIU (f:aw->aq)(s:ah)(w:ab)(I:s.size<=ap):
  au ai 81 #[ar (bits f),.string s] w λe w'=>e=.returned (.bool (allB f s))/\Fr No w w':=by
 have O:s.size<=9223372036854775807:=by unfold ap at I;omega
 have z:Fr No w (w.alloc (aj (bits f) 147)):=(Fr.refl _ _).alloc _;have J:=zF w (aj (bits f) 147);have u:∀ c:aw,(w.alloc (aj (bits f) 147)).cell? ⟨w,c.toNat,L⟩=G (.bool (f c)):=λc=>(zB J _).trans (zLp f c)
 go_enter Tryz.func81,Tryz.ntmps81;go_wp2;generalize w.alloc (aj (bits f) 147)=W0 at *
 go_loop [8] (λi=>∃ k:E,k<=s.size/\i=.int a1 k/\ag ((s.data.toList.take k).all f=af)) (λi=>s.size-(b4 i).toNat)
 case atStart=>exact⟨0,by omega,rfl,by unfold ag;simp⟩
 case round=>
  obtain⟨k,U,rfl,o⟩:=hrel;by_cases v:k<s.size
  .have h:s.data.toList[k]?=G s[k]:=by
    rw[bf];exact cd (by simpa using v)
   have A:=zh h;have N:((s[k].toNat:E):ae)<256:=(by have:=s[k].toNat_lt;omega);have F:=u s[k];rcases hq:f s[k]with _|_
   .rw[hq]at F;have y:=zh hq;clear hq h u;go_wp2;go_ret;exact⟨zL (zLz _ _ _ _ A y).symm,z⟩
   .rw[hq]at F;have y:=zh hq;clear hq h u;go_wp2
    go_round
    case rel=>exact⟨k+1,by omega,by go_num,zC2 _ _ _ _ A o y⟩
    case measure=>simp[b4];omega
  .go_wp2;go_ret;refine⟨zL ?_,z⟩;have:=o.out;rw[cj (by simp;omega)]at this;unfold allB;rw[this]
theorem zBL (f:aw->aq)(s:ah)(w:ab)(hs:s.size<=ap):
  au ai 80 #[ar (bits f),.string s] w λe w'=>e=.returned (ar (bits λc=>f c||s.data.toList.contains c))/\Fr No w w':=by
 have hm:s.size<=9223372036854775807:=by unfold ap at hs;omega
 have U:Fr No w (w.alloc (aj (bits f) 147)):=(Fr.refl _ _).alloc _;have I:=zF w (aj (bits f) 147);have J:(Tryz.prog.info? 147).map (·.size)=G 256:=by kernel_rfl
 have hz:Tryz.zeroCells147.size=256:=by kernel_rfl
 have V:=zP w (aj (bits f) 147) (aj b8 147);have X:=zS w (aj (bits f) 147) (aj b8 147);have Y:Fr No w ((w.alloc (aj (bits f) 147)).alloc (aj b8 147)):=U.alloc _;clear U I;go_enter Tryz.func80,Tryz.ntmps80;go_wp2;generalize (w.alloc (aj (bits f) 147)).alloc (aj b8 147)=W0 at *;go_loopw [8] (λi wr=>∃ k:E,k<=s.size/\i=.int a1 k/\ag (wr.heap[(w:E)]?=G (aj (bits λc=>f c||(s.data.toList.take k).contains c) 147))/\ag (wr.heap[(w:E)+1]?=G (aj b8 147))/\Fr No w wr) (λi _=>s.size-(b4 i).toNat);case atStart=>exact⟨0,by omega,rfl,by unfold ag;simpa using V,X,Y⟩
 case round=>
  obtain⟨k,hk,rfl,o,y,A⟩:=hrel;clear V X Y;by_cases N:k<s.size
  .have F:s.data.toList[k]?=G s[k]:=by
    rw[bf];exact cd (by simpa using N)
   have Hx:=zh F;have a2:((s[k].toNat:E):ae)<256:=(by have:=s[k].toNat_lt;omega);have c0:=(zB o s[k].toNat).trans (zLp _ _);have f0:=zD o s[k].toNat;have u:Fr No w (wr.setCell ⟨w,s[k].toNat,L⟩ (.bool af)):=A.setCell (by simp) _;have z:=zE o s[k].toNat (.bool af);rw[zNR]at z;have Z:=(Fr.setAt (Fr.refl (Is (w:E)) wr) (i:=s[k].toNat) (.bool af)).heap y (λe=>by omega);have Q:=zg3 z Z u;clear z Z u F;go_wp2;go_roundw;case rel=>
    refine⟨k+1,by omega,by go_num,?_,Q.2.1,Q.2.2⟩;unfold ag;rw[Q.1,d3,Hx]
    congr 3
    funext c
    have e:(c==s[k])=decide (c=s[k]):=by by_cases h:c=s[k]<;>simp[h]
    simp[Bool.or_assoc,e]
   case measure=>simp[b4];omega
  .obtain rfl:k=s.size:=by omega
   have z:=o.out;rw[cj (by simp)]at z;have O:=zh z;clear o z;go_wp2_with (first
    | (refine wpList_load_row rfl 147 _ rfl (w:E) rfl 147 _ (0,0) _ O dd rfl (by rw[zAC];exact J) ?_)
    | (refine ev rfl 147 _ _ rfl ((w:E)+1) _ rfl rfl 147 _ y (by rw[zAC];exact J) (by rw[zAC];exact hz) (zDg _) ?_))
   have hg:=setRow_heap wr ((w:E)+1) _ (bits λc=>f c||s.data.toList.contains c) 147 (0,0) y;refine bm (v:=ar (bits λc=>f c||s.data.toList.contains c)) (et rfl _ _ ((w:E)+1) 147 _ (0,0) _ rfl hg dd rfl (by rw[zAC];exact J)) rfl ?_;refine⟨rfl,A.step (T:=Is ((w:E)+1)) ⟨rfl,rfl,rfl,by simp,λb _ I=>setRow_other _ _ _ _ (λe=>I e)⟩ (λb I e=>by omega)⟩
def zA0 : aw->Bool:=λc=>((((al||[65,66,67,68,69,70,71,72,73,74,75,76,77,78,79,80,81,82,83,84,85,86,87,88,89,90].contains c)||[97,98,99,100,101,102,103,104,105,106,107,108,109,110,111,112,113,114,115,116,117,118,119,120,121,122].contains c)||[48,49,50,51,52,53,54,55,56,57].contains c)||[95,46,58,43,45].contains c)
theorem zJ2: b8=bits (λ_=>al):=by kernel_rfl
theorem zJc (s:ah)(w:ab)(h:s.size<=ap):
  au ai 80 #[ar b8,.string s] w λe w'=>e=.returned (ar (bits λc=>al||s.data.toList.contains c))/\Fr No w w':=by
 rw[zJ2];exact zBL _ s w h
def zKD : ah:=⟨#[65,66,67,68,69,70,71,72,73,74,75,76,77,78,79,80,81,82,83,84,85,86,87,88,89,90]⟩
theorem zHb (w:ab):
  au ai 123 #[.string ⟨#[65,66,67,68,69,70,71,72,73,74,75,76,77,78,79,80,81,82,83,84,85,86,87,88,89,90]⟩] w λe w'=>e=.returned (.string ⟨#[97,98,99,100,101,102,103,104,105,106,107,108,109,110,111,112,113,114,115,116,117,118,119,120,121,122]⟩)/\Fr No w w':=by
 have h:∀ b∈zKD.data.toList,b.toNat<128:=by decide
 apply (Tryz.strings_ToLower_ascii zKD w (by decide) (λj b o=>h b (bw o))).mono;rintro e w' ⟨rfl,o⟩;exact⟨by congr 2,Fr.of_below_size o⟩
theorem zEC (w:ab):
  au ai 79 #[] w λe w'=>e=.returned (ar (bits zA0))/\Fr No w w':=by
 have I:(Tryz.prog.info? 147).map (·.size)=G 256:=by kernel_rfl
 have X:Tryz.zeroCells147.size=256:=by kernel_rfl
 have J:Fr No w (w.alloc (aj b8 147)):=(Fr.refl _ _).alloc _;have N:=zF w (aj b8 147);have O:=zg2 N J;clear N J;go_enter Tryz.func79,Tryz.ntmps79;go_wp2_with fail;apply (zJc _ _ (by decide)).mono;rintro e w1 ⟨rfl,h⟩;go_wp2_with fail;apply (zHb _).mono;rintro e w2 ⟨rfl,o⟩;go_wp2_with fail;apply (zBL _ _ _ (by decide)).mono;rintro e w3 ⟨rfl,u⟩;go_wp2_with fail;apply (zBL _ _ _ (by decide)).mono;rintro e w4 ⟨rfl,y⟩;go_wp2_with fail;apply (zBL _ _ _ (by decide)).mono;rintro e Y ⟨rfl,z⟩;have A:=((((O.2.step h zi).step o zi).step u zi).step y zi).step z zi;have U:=z.heap (y.heap (u.heap (o.heap (h.heap O.1 id) id) id) id) id;obtain⟨F,hF⟩:∃ F,F=zA0:=⟨_,rfl⟩
 go_wp2_with (refine ev rfl 147 _ _ rfl (w:E) (bits zA0) rfl rfl 147 _ U (by rw[zAC];exact I) (by rw[zAC];exact X) (zDg _) ?_)
 have Z:=setRow_heap Y (w:E) _ (bits zA0) 147 (0,0) U;refine bm (v:=ar (bits zA0)) (et rfl _ _ (w:E) 147 _ (0,0) _ rfl Z dd rfl (by rw[zAC];exact I)) rfl ?_;exact⟨rfl,A.step (T:=Is (w:E)) ⟨rfl,rfl,rfl,by simp,λb _ V=>setRow_other _ _ _ _ (λe=>V e)⟩ (λb V e=>by omega)⟩
theorem zGg (s:ah)(w:ab):
  au ai 78 #[.string s] w λe w'=>e=.returned (.bool (decide (s.toList=[46])||decide (s.toList=[46,46])))/\w=w':=by
 by_cases h:s.toList=[46]
 .have H:ag ((decide (s.toList=[46])||decide (s.toList=[46,46]))=af):=by unfold ag;simp[h]
  go_enter d9,dc;go_wp2_with fail
  all_goals (go_ret;exact⟨zL H.symm,rfl⟩)
 .by_cases o:s.toList=[46,46]
  .have H:ag ((decide (s.toList=[46])||decide (s.toList=[46,46]))=af):=by unfold ag;simp[o]
   go_enter d9,dc;go_wp2_with fail
   all_goals (go_ret;exact⟨zL H.symm,rfl⟩)
  .have H:ag ((decide (s.toList=[46])||decide (s.toList=[46,46]))=al):=by unfold ag;simp[h,o]
   have u:(s.toList==[46])=false:=(by simp[h]);have v:(s.toList==[46,46])=false:=(by simp[o]);clear h o;go_enter d9,dc;go_wp2_with fail
   all_goals (go_ret;exact⟨zL H.symm,rfl⟩)
theorem zHq (s:ah):s.data.toList.all (λc=>zA0 c||[33].contains c)=inSet s nameBA:=by
 unfold inSet
 congr 1
 funext c
 have:nameBA.data.toList=(((([65,66,67,68,69,70,71,72,73,74,75,76,77,78,79,80,81,82,83,84,85,86,87,88,89,90]++[97,98,99,100,101,102,103,104,105,106,107,108,109,110,111,112,113,114,115,116,117,118,119,120,121,122])++[48,49,50,51,52,53,54,55,56,57])++[95,46,58,43,45])++[33]):=rfl;rw[this];unfold zA0;simp only[List.contains_eq_mem,d1,Bool.false_or,Bool.decide_or]
theorem zAS (s:ah)(w:ab)(F:s.size<=ap):
  au ai 39 #[.string s] w λe w'=>e=.returned (.bool (isName s))/\Fr No w w':=by
 have V:s.size<=9223372036854775807:=by unfold ap at F;omega
 by_cases u:s.toList=[]
 .have H:ag (isName s=al):=by unfold ag isName;simp[u]
  go_enter d8,db;go_wp2_with fail
  all_goals (go_ret;exact⟨zL H.symm,Fr.refl _ _⟩)
 .by_cases I:s.size<=32
  .go_enter d8,db;go_wp2_with fail;apply (zGg s _).mono;rintro e X ⟨rfl,rfl⟩;rcases hd:(decide (s.toList=[46])||decide (s.toList=[46,46]))with _|_
   .have o:s.toList≠[46]/\s.toList≠[46,46]:=(by simpa using hd);have H:ag (isName s=inSet s nameBA):=(by unfold ag isName;simp[u,I,o.1,o.2]);clear hd o;go_wp2_with fail;apply (zEC _).mono;rintro e Y ⟨rfl,v⟩;go_wp2_with fail;apply (zBL zA0 _ _ (by decide)).mono;rintro e Z ⟨rfl,y⟩;go_wp2_with fail;apply (zIU _ s _ F).mono;rintro e w4 ⟨rfl,z⟩;have A:=(v.step y zi).step z zi;have J:allB (λc=>zA0 c||decide (c=33)) s=isName s:=by
     rw[H,<-zHq];unfold allB
     congr 1
     funext c
     simp
    have e0:s.toList.isEmpty=false:=(by simp[u]);clear u;have N:=zh J;clear J H;generalize O:allB _ s=q;have U:ag (q=isName s):=O.symm.trans N;clear O N;cases q
    all_goals
     go_wp2_with fail
     all_goals (go_ret;exact⟨zL U,A⟩)
   .have H:ag (isName s=al):=by
     unfold ag isName;rw[Bool.or_eq_true,di,di]at hd;rcases hd with h|h<;>simp[h]
    clear hd;go_wp2_with fail
    all_goals (go_ret;exact⟨zL H.symm,Fr.refl _ _⟩)
  .have H:ag (isName s=al):=by unfold ag isName;simp[I]
   go_enter d8,db;go_wp2_with fail
   all_goals (go_ret;exact⟨zL H.symm,Fr.refl _ _⟩)
def OnlyN (K:ak->ab->Prop):b6->ak->ab->Prop
 | .normal,a,w=>K a w
 | _,_,_=>bg
theorem OnlyN.mk {o:ak->ab->Prop}{a:ak}(h:o a w):OnlyN o .normal a w:=h
def nth : a0 am->E->ao am
 | [],_=>L
 | o::_,0=>G o
 | _::l,n+1=>nth l n
theorem zE5 : ∀ (l:a0 am) (i:E),nth l i=l[i]?
 | [],_=>by simp[nth]
 | _::_,0=>rfl
 | _::l,n+1=>by simp only[nth,dx];exact zE5 l n
def zBB : Op->aq
 | .move _ | .assign _ | .pick _ _ _ | .load _ _ | .nilCheck _ | .binOp _ _ _ _ _ | .unOp _ _ _ | .convert _ _ _ | .fieldAddr _ _ _ | .field _ _ _ | .indexAddr _ _ _ | .index _ _ _
 | .lookup _ _ _ _ | .extract _ _ | .build _ _ | .slice _ _ _ _ _ | .makeInterface _ _ | .makeFunc _ _ _=>af
 | .call c=>match c.callee with | .builtin .len=>af | .builtin .cap=>af|_=>al
 | _=>al
def zG9 (P:b7)(o:am)(a:ak)(C:ab->Prop)(v:ay):Prop:=∀ W,C W->(b3 a.eval o).run P W=.ok (.value v) W
theorem zIG {s:Sem ay}{u:ab}{n:Next}(h:(do pure (e6 (← s)):Sem Next).run P W=.ok n u):∃ v,n=.value v:=by
 rw[d6]at h;cases hs:s.run P W with
 | ok x o=>rw[hs]at h;simp only[eb]at h;cases h;exact⟨x,rfl⟩
 | halt x o=>rw[hs]at h;simp only[ea]at h;cases h
theorem zDW {s:Sem α}{f:α->Sem Next}{u:ab}{n:Next}(h:(s >>= f).run P W=.ok n u)(y:∀ x W,(f x).run P W=.ok n u->∃ v,n=.value v):∃ v,n=.value v:=by
 rw[d6]at h;cases hs:s.run P W with
 | ok x o=>rw[hs]at h;simp only[eb]at h;exact y x _ h
 | halt x o=>rw[hs]at h;simp only[ea]at h;cases h
theorem zBX {x:ay}{o:ab}{n:Next}(h:(pure (e6 x):Sem Next).run P W=.ok n o):∃ v,n=.value v:=by
 cases h;exact⟨_,rfl⟩
theorem zCa {o:ab}{n:Next}(h:(runtimePanic .nilDeref:Sem Next).run P W=.ok n o):∃ v,n=.value v:=by
 unfold runtimePanic at h;simp[d6,goPanic,program,Sem.run]at h
theorem zBT (ρ:cl->ay)(o:am)(z:zBB o.op=af){J:ab}{n:Next}(h:(b3 ρ o).run P W=.ok n J):∃ v,n=.value v:=by
 obtain⟨N,O,I,U,A,F⟩:=o;cases O<;>simp only[zBB,br]at z
 case nilCheck x=>
  unfold b3 at h;dsimp only at h;split at h;·exact zCa h
  .exact zCa h
  .exact zCa h
  .split at h;·exact zCa h
   .refine zDW h λ_ _ h=>zDW h λ_ _ h=>?_
    split at h;·exact zDW h λ_ _ h=>zBX h
    .exact zBX h
   .exact zBX h
  .exact zBX h
 case call c=>
  obtain⟨u,args,V⟩:=c;cases u with
  | value f=>simp at z
  | invoke r m=>simp at z
  | builtin b=>
   cases b<;>simp at z
   all_goals
    exact zIG h
 case move x=>unfold b3 at h;exact zBX h
 case assign x=>unfold b3 at h;exact zBX h
 case pick c x y=>
  unfold b3 at h;dsimp only at h;refine zDW h λ_ _ h=>?_
  split at h<;>exact zBX h
 all_goals (unfold b3 at h;exact zIG h)
structure Gr (T:E->Prop)(w:ab) where
 W:ab
 fr:Fr T w W
instance (T:E->Prop)(w:ab):Inhabited (Gr T w):=⟨⟨w,Fr.refl _ _⟩⟩
def Cls (T:E->Prop)(w:ab):ab->Prop:=λW=>∃ g:Gr T w,W=g.W
def wpSig (P:b7)(l:a0 am)(Q:b6->ak->ab->Prop)(T:E->Prop):a0 (E×aq)->ak->ab->Prop
 | [],a,w=>Q .normal a w
 | (i,mv)::σ,a,w=>match nth l i with
  | none=>bg
  | some o=>
   if mv=af then b1 P l.toArray (OnlyN λa' w'=>Fr T w w'/\wpSig P l Q T σ a' w') [o] a w
   else zBB o.op=af/\(if bi o (bq l.toArray a.tmps)=af then ∃ v,zG9 P o a (Cls T w) v/\wpSig P l Q T σ (a.put o.dst v) w else wpSig P l Q T σ (a.put o.dst bp) w)
def schedB (ops:az am):a0 (E×aq)->az aq->aq
 | [],listed=>(bb .any ops listed).isEmpty
 | (i,mv)::σ,listed=>(if mv then bb .any ops listed==[i]else (bb .any ops listed).contains i&&e9 .any ops listed i)&&schedB ops σ (listed.setIfInBounds i af)
section
variable {P:b7}{ops:az am}{Q:b6->ak->ab->Prop}{md:Region.Mode}{S S':ab->Prop}
theorem zEf (h:∀ W,S W->S' W):∀ (fuel:E) (o:az aq) (a:ak) (w:ab),bd P md ops Q S fuel o a w->bd P md ops Q S' fuel o a w
 | 0,_,_,_,u=>u
 | fuel+1,_,_,_,u=>⟨u.1,λi y=>wpOp_mono (λz w' v=>⟨h _ v.1,zEf h fuel _ z w' v.2⟩) (u.2 i y)⟩
theorem zHC {o:am}{a:ak}{z A:ak->ab->Prop}(u:o.wp P a w z (OnlyN A)):o.wp P a w z Q:=by
 unfold Oper.wp at *;generalize (b3 a.eval o).run P w=r at *;cases r with
 | ok n w'=>
  cases n<;>simp only[Oper.upon]at u ⊢;case value=>exact u
  case skip=>exact u
  case defer=>exact u
  case enter=>
   refine Calls.mono u (λe F y=>?_);cases e with
   | returned v=>exact y
   | panicked c=>exact y.elim
   | outgrown=>obtain⟨_,_,h⟩:=y;exact h.elim
  case row=>exact Rows.mono u (λ_ _ y=>y)
 | halt x w'=>
  cases x<;>simp only[Oper.upon]at u ⊢;case panic=>exact u.elim
theorem zI3 (T:E->Prop)(w:ab):Cls T w w:=⟨⟨w,Fr.refl _ _⟩,rfl⟩
theorem zA4 {l:a0 am}{T:E->Prop}(I:cm l.toArray=af):∀ (σ:a0 (E×aq)) (listed:az aq) (a:ak) (w:ab),
  schedB l.toArray σ listed=af->wpSig P l Q T σ a w->bd P .any l.toArray (OnlyN (Q .normal)) (Fr T w) σ.length listed a w
 | [],listed,a,w,N,h=>wpAnyH_done (P:=P) (S:=Fr T w) (Q:=OnlyN (Q .normal)) (md:=.any) (by simpa [schedB]using N) (show OnlyN (Q .normal) .normal a w from h) 0
 | (i,V)::σ,listed,a,w,N,h=>by
  simp only[schedB,b5]at N;obtain⟨u,z⟩:=N;simp only[wpSig]at h;cases hn:nth l i with
  | none=>rw[hn]at h;exact h.elim
  | some o=>
   rw[hn]at h;have O:l.toArray[i]?=G o:=(by rw[d0,<-zE5];exact hn);cases V with
   | true=>
    simp only[cp,bj]at u h;refine cr (rs:=[i]) u (by simp) ?_;intro j X;obtain rfl:j=i:=by simpa using X
    have y:∀ F w',(Fr T w w'/\wpSig P l Q T σ F w')->Fr T w w'/\bd P .any l.toArray (OnlyN (Q .normal)) (Fr T w) σ.length (listed.setIfInBounds j af) F w':=λF w' J=>
     ⟨J.1,zEf (λW U=>J.1.step U zi) _ _ _ _ (zA4 I σ _ F w' z J.2)⟩
    unfold wpOp;simp only[O];unfold b1 at h;split
    .rename_i A;rw[bn A]at h;rcases h with h|⟨_,h⟩
     .exact .inl (e8 (λF w' J=>y F w' J) (zHC h))
     .obtain⟨_,_,h⟩:=h;exact h.elim
    .rename_i A;rw[b9 A]at h;exact y _ _ h
   | false=>
    simp only[br,co,b5]at u h;obtain⟨Z,h⟩:=h;split at h
    .rename_i A;obtain⟨v,Y,h⟩:=h;exact ct O I u.2 u.1 (λ_ _ _ h=>h.elim) (.inl ⟨A,λW U=>Y W ⟨⟨W,U⟩,rfl⟩⟩) (Fr.refl _ _) (zA4 I σ _ _ w z h)
    .rename_i A;exact ct O I u.2 u.1 (λ_ _ _ h=>h.elim) (.inr ⟨by simpa using A,rfl⟩) (Fr.refl _ _) (zA4 I σ _ _ w z h)
end
section
variable {P:b7}{Q:b6->ak->ab->Prop}{T:E->Prop}{l:a0 am}{σ:a0 (E×aq)}{a:ak}{w:ab}
theorem zO {y:E}(T:E->Prop)(σ:a0 (E×aq))(z:P.follows .mixedOrders=af)
  (o:(cm l.toArray&&(σ.length==l.length)&&schedB l.toArray σ (dl l.toArray.size al))=af)
  (h:∀ u,Fr No w u->wpSig P l Q T σ a u):(dn y l.toArray af).wp P Q a w:=by
 simp only[b5,bj]at o;have v:=zA4 (Q:=Q) o.1.1 σ _ a w.drew o.2 (h _ ((Fr.refl No w).drew));have A:l.toArray.size=σ.length:=by simp[o.1.2]
 rw[<-A]at v;refine wp_mono (wp_region_held (S:=Fr T w.drew) z v) λe a w h=>?_
 cases e<;>first|exact h|exact h.elim
theorem zb (h:Q .normal a w):wpSig P l Q T [] a w:=h
theorem zR {o:am}(I:nth l i=G o)(A:zBB o.op=af)(J:bi o (bq l.toArray a.tmps)=af)
  (h:∀ F:ak->Prop,(∀ z,wpSig P l Q T σ z w->F z)->o.quiet P a (λW=>∃ g:Gr T w,W=g.W) F):wpSig P l Q T ((i,al)::σ) a w:=by
 obtain⟨v,N,O⟩:=h (λz=>wpSig P l Q T σ z w) (λ_ h=>h);simp only[wpSig,I,br,co,J,cp];refine⟨A,v,λW U=>?_,O⟩;have y:=N W U;unfold e7 at y;cases hr:(b3 a.eval o).run P W with
 | halt x V=>rw[hr]at y;exact y.elim
 | ok n V=>
  obtain⟨u,rfl⟩:=zBT a.eval o A hr;rw[hr]at y;obtain⟨X,Y⟩:=y;rw[X,Y]
theorem zT {o:bc}{A:String}{u:az Edge}(N:nth l i=G ⟨z,I,o,A,u,y⟩)(O:zBB I=af)
  (U:bi ⟨z,I,o,A,u,y⟩ (bq l.toArray a.tmps)=al)
  (h:∀ J:ak->Prop,(∀ F,wpSig P l Q T σ F w->J F)->(⟨z,.assign (.const bp),o,A,#[],L⟩:am).quiet P a (λW=>∃ g:Gr T w,W=g.W) J):wpSig P l Q T ((i,al)::σ) a w:=by
 obtain⟨v,V,X⟩:=h (λF=>wpSig P l Q T σ F w) (λ_ h=>h);simp only[wpSig,N,br,co,U];refine⟨O,?_⟩;have Y:=V w (zI3 T w);obtain⟨_,rfl⟩:=(Y:w=w/\bp=v)
 exact X
theorem zt {o:am}(u:nth l i=G o)(h:b1 P l.toArray (OnlyN λv w'=>Fr T w w'/\wpSig P l Q T σ v w') [o] a w):wpSig P l Q T ((i,af)::σ) a w:=by
 simp only[wpSig,u,cp];exact h
end
inductive Sg where
 | fin:Sg
 | q (i:E) (n:Sg):Sg
 | m1 (i:E) (n:Sg):Sg
 | m2 (i:E) (n:Sg) (j:E) (n':Sg):Sg
 | m3 (i:E) (n:Sg) (j:E) (n':Sg) (k:E) (n'':Sg):Sg
def Sg.size : Sg->E
 | .fin=>0
 | .q _ n=>n.size+1
 | .m1 _ n=>n.size+1
 | .m2 _ n _ _=>n.size+1
 | .m3 _ n _ _ _ _=>n.size+1
def schedT (ops:az am):Sg->az aq->aq
 | .fin,listed=>(bb .any ops listed).isEmpty
 | .q i n,listed=>(bb .any ops listed).contains i&&e9 .any ops listed i&&schedT ops n (listed.setIfInBounds i af)
 | .m1 i n,listed=>(bb .any ops listed==[i])&&schedT ops n (listed.setIfInBounds i af)
 | .m2 i n j n',listed=>(bb .any ops listed==[i,j])&&(n'.size==n.size)&&schedT ops n (listed.setIfInBounds i af)&&schedT ops n' (listed.setIfInBounds j af)
 | .m3 i n j n' k n'',listed=>(bb .any ops listed==[i,j,k])&&(n'.size==n.size)&&(n''.size==n.size)&&schedT ops n (listed.setIfInBounds i af)&&schedT ops n' (listed.setIfInBounds j af)&&schedT ops n'' (listed.setIfInBounds k af)
def wpMv (P:b7)(l:a0 am)(T:E->Prop)(i:E)(K:ak->ab->Prop)(a:ak)(w:ab):Prop:=
 match nth l i with
 | none=>bg
 | some o=>b1 P l.toArray (OnlyN λa' w'=>Fr T w w'/\K a' w') [o] a w
def wpSg (P:b7)(l:a0 am)(M:ak->ab->Prop)(T:E->Prop):Sg->ak->ab->Prop
 | .fin,a,w=>M a w
 | .q i n,a,w=>match nth l i with
  | none=>bg
  | some o=>zBB o.op=af/\(if bi o (bq l.toArray a.tmps)=af then ∃ v,zG9 P o a (Cls T w) v/\wpSg P l M T n (a.put o.dst v) w else wpSg P l M T n (a.put o.dst bp) w)
 | .m1 i n,a,w=>wpMv P l T i (wpSg P l M T n) a w
 | .m2 i n j n',a,w=>wpMv P l T i (wpSg P l M T n) a w/\wpMv P l T j (wpSg P l M T n') a w
 | .m3 i n j n' k n'',a,w=>wpMv P l T i (wpSg P l M T n) a w/\wpMv P l T j (wpSg P l M T n') a w/\wpMv P l T k (wpSg P l M T n'') a w
section
variable {P:b7}{M:ak->ab->Prop}
theorem zDA {l:a0 am}{T:E->Prop}{F:ak->ab->Prop}{v:E}{u:az aq}{a:ak}(h:wpMv P l T i F a w)
  (J:∀ y w',F y w'->bd P .any l.toArray (OnlyN M) (Fr T w') v (u.setIfInBounds i af) y w'):
  wpOp P l.toArray (OnlyN M) i (λy w'=>Fr T w w'/\bd P .any l.toArray (OnlyN M) (Fr T w) v (u.setIfInBounds i af) y w') a w:=by
 unfold wpMv at h;cases ho':nth l i with
 | none=>rw[ho']at h;exact h.elim
 | some o=>
  rw[ho']at h;dsimp only at h;have N:l.toArray[i]?=G o:=by rw[d0,<-zE5];exact ho'
  have z:∀ y w',(Fr T w w'/\F y w')->Fr T w w'/\bd P .any l.toArray (OnlyN M) (Fr T w) v (u.setIfInBounds i af) y w':=λy w' A=>
   ⟨A.1,zEf (λW O=>A.1.step O zi) _ _ _ _ (J y w' A.2)⟩
  unfold wpOp;simp only[N];unfold b1 at h;split
  .rename_i I;rw[bn I]at h;rcases h with h|⟨_,h⟩
   .exact .inl (e8 (λy w' A=>z y w' A) (zHC h))
   .obtain⟨_,_,h⟩:=h;exact h.elim
  .rename_i I;rw[b9 I]at h;exact z _ _ h
theorem anyT {l:a0 am}{T:E->Prop}(J:cm l.toArray=af):∀ (σ:Sg) (u:az aq) (a:ak) (w:ab),
  schedT l.toArray σ u=af->wpSg P l M T σ a w->bd P .any l.toArray (OnlyN M) (Fr T w) σ.size u a w
 | .fin,u,a,w,z,h=>wpAnyH_done (P:=P) (S:=Fr T w) (Q:=OnlyN M) (md:=.any) (by simpa [schedT]using z) (show OnlyN M .normal a w from h) 0
 | .q i n,u,a,w,z,h=>by
  simp only[schedT,b5]at z;obtain⟨y,A⟩:=z;simp only[wpSg]at h;cases hn:nth l i with
  | none=>rw[hn]at h;exact h.elim
  | some o=>
   rw[hn]at h;have ho:l.toArray[i]?=G o:=(by rw[d0,<-zE5];exact hn);obtain⟨hv,h⟩:=h;split at h
   .rename_i U;obtain⟨v,hy,h⟩:=h;exact ct ho J y.2 y.1 (λ_ _ _ h=>h.elim) (.inl ⟨U,λW hW=>hy W ⟨⟨W,hW⟩,rfl⟩⟩) (Fr.refl _ _) (anyT J n _ _ w A h)
   .rename_i U;exact ct ho J y.2 y.1 (λ_ _ _ h=>h.elim) (.inr ⟨by simpa using U,rfl⟩) (Fr.refl _ _) (anyT J n _ _ w A h)
 | .m1 i n,u,a,w,z,h=>by
  simp only[schedT,b5,bj]at z;refine cr (rs:=[i]) z.1 (by simp) ?_;intro j hj;obtain rfl:j=i:=by simpa using hj
  exact zDA h (λF w' I=>anyT J n _ F w' z.2 I)
 | .m2 i n j V,u,a,w,z,h=>by
  simp only[schedT,b5,bj]at z;obtain⟨⟨⟨y,N⟩,A⟩,O⟩:=z;refine cr (rs:=[i,j]) y (by simp) ?_;intro x X;simp only[d2,e3,or_false]at X;by_cases e:x=i;·subst e;exact zDA h.1 (λF w' I=>anyT J n _ F w' A I)
  .obtain rfl:x=j:=by omega
   exact zDA h.2 (λF w' I=>by have:=anyT J V _ F w' O I;rwa [N]at this)
 | .m3 i n j V k Y,u,a,w,z,h=>by
  simp only[schedT,b5,bj]at z;obtain⟨⟨⟨⟨⟨y,N⟩,Z⟩,A⟩,O⟩,a2⟩:=z;refine cr (rs:=[i,j,k]) y (by simp) ?_;intro x X;simp only[d2,e3,or_false]at X;by_cases e:x=i;·subst e;exact zDA h.1 (λF w' I=>anyT J n _ F w' A I)
  .by_cases e2:x=j;·subst e2;exact zDA h.2.1 (λF w' I=>by have:=anyT J V _ F w' O I;rwa [N]at this)
   .obtain rfl:x=k:=by omega
    exact zDA h.2.2 (λF w' I=>by have:=anyT J Y _ F w' a2 I;rwa [Z]at this)
end
section
variable {P:b7}{M:ak->ab->Prop}{T:E->Prop}{l:a0 am}{σ σ' σ'':Sg}{a:ak}{w:ab}
theorem zY {z:E}{Q:b6->ak->ab->Prop}(T:E->Prop)(σ:Sg)(M:ak->ab->Prop)(A:P.follows .mixedOrders=af)
  (o:(cm l.toArray&&(σ.size==l.length)&&schedT l.toArray σ (dl l.toArray.size al))=af)
  (h:∀ u,Fr No w u->wpSg P l M T σ a u) (F:∀ v w',M v w'->Q .normal v w'):(dn z l.toArray af).wp P Q a w:=by
 simp only[b5,bj]at o;have y:=anyT (M:=M) o.1.1 σ _ a w.drew o.2 (h _ ((Fr.refl No w).drew));have I:l.toArray.size=σ.size:=by simp[o.1.2]
 rw[<-I]at y;refine wp_mono (wp_region_held (S:=Fr T w.drew) A y) λe a w h=>?_
 cases e<;>first|exact F _ _ h|exact h.elim
theorem zW (h:M a w):wpSg P l M T .fin a w:=h
theorem zN {o:am}(I:nth l i=G o)(A:zBB o.op=af)(J:bi o (bq l.toArray a.tmps)=af)
  (h:∀ F:ak->Prop,(∀ z,wpSg P l M T σ z w->F z)->o.quiet P a (λW=>∃ g:Gr T w,W=g.W) F):wpSg P l M T (.q i σ) a w:=by
 obtain⟨v,N,O⟩:=h (λz=>wpSg P l M T σ z w) (λ_ h=>h);simp only[wpSg,I,J,cp];refine⟨A,v,λW U=>?_,O⟩;have y:=N W U;unfold e7 at y;cases hr:(b3 a.eval o).run P W with
 | halt x V=>rw[hr]at y;exact y.elim
 | ok n V=>
  obtain⟨u,rfl⟩:=zBT a.eval o A hr;rw[hr]at y;obtain⟨X,Y⟩:=y;rw[X,Y]
theorem zK {o:bc}{A:String}{u:az Edge}(N:nth l i=G ⟨z,I,o,A,u,y⟩)(O:zBB I=af)
  (U:bi ⟨z,I,o,A,u,y⟩ (bq l.toArray a.tmps)=al)
  (h:∀ J:ak->Prop,(∀ F,wpSg P l M T σ F w->J F)->(⟨z,.assign (.const bp),o,A,#[],L⟩:am).quiet P a (λW=>∃ g:Gr T w,W=g.W) J):wpSg P l M T (.q i σ) a w:=by
 obtain⟨v,V,X⟩:=h (λF=>wpSg P l M T σ F w) (λ_ h=>h);simp only[wpSg,N,br,co,U];refine⟨O,?_⟩;have Y:=V w (zI3 T w);obtain⟨_,rfl⟩:=(Y:w=w/\bp=v)
 exact X
theorem zJd {o:am}{u:ak->ab->Prop}(v:nth l i=G o)(h:b1 P l.toArray (OnlyN λy w'=>Fr T w w'/\u y w') [o] a w):wpMv P l T i u a w:=by
 unfold wpMv;rw[v];exact h
theorem zH {o:am}(u:nth l i=G o)(h:b1 P l.toArray (OnlyN λv w'=>Fr T w w'/\wpSg P l M T σ v w') [o] a w):wpSg P l M T (.m1 i σ) a w:=zJd u h
theorem zAA {o y:am}(z:nth l i=G o)(u:nth l j=G y)(h:b1 P l.toArray (OnlyN λv w'=>Fr T w w'/\wpSg P l M T σ v w') [o] a w)
  (A:b1 P l.toArray (OnlyN λv w'=>Fr T w w'/\wpSg P l M T σ' v w') [y] a w):wpSg P l M T (.m2 i σ j σ') a w:=⟨zJd z h,zJd u A⟩
theorem zOI {o F u:am}(I:nth l i=G o)(z:nth l j=G F)(v:nth l k=G u)(h:b1 P l.toArray (OnlyN λy w'=>Fr T w w'/\wpSg P l M T σ y w') [o] a w)
  (J:b1 P l.toArray (OnlyN λy w'=>Fr T w w'/\wpSg P l M T σ' y w') [F] a w) (A:b1 P l.toArray (OnlyN λy w'=>Fr T w w'/\wpSg P l M T σ'' y w') [u] a w):wpSg P l M T (.m3 i σ j σ' k σ'') a w:=⟨zJd I h,zJd z J,zJd v A⟩
end
structure Atts (w:ab)(a:ao b2)(cap:E)(l:a0 (ah×ah)):Prop where
 len:l.length<=cap
 max:cap<=ap
 isNil:a=L->l=[]/\cap=0
 wf:∀ x∈l,x.1.size<=ap/\x.2.size<=ap
 cell:∀ ad,a=G ad->l≠[]->ad.spot=L/\ad.block<(w:E)/\∀ i x,l[i]?=G x->w.cell? ⟨ad.block,ad.off+i*2,L⟩=G (.string x.1)/\w.cell? ⟨ad.block,ad.off+i*2+1,L⟩=G (.string x.2)
theorem Atts.at {v:E}(h:Atts w a v l)(u:k<l.length):
  ∃ b o x y,a=G ⟨b,o,L⟩/\l[k]?=G (x,y)/\x.size<=ap/\y.size<=ap/\w.cell? ⟨b,o+k*2,L⟩=G (.string x)/\w.cell? ⟨b,o+k*2+1,L⟩=G (.string y):=by
 cases a with
 | none=>obtain⟨rfl,_⟩:=h.isNil rfl;simp at u
 | some I=>
  obtain⟨b,o,N⟩:=I;obtain⟨z,O,J⟩:=h.cell _ rfl (by intro e;subst e;simp at u);simp at z;subst z;have A:=J k _ (bu u);have F:=h.wf l[k] (List.getElem_mem u);exact⟨b,o,l[k].1,l[k].2,rfl,bu u,F.1,F.2,A.1,A.2⟩
theorem Atts.lenmax (h:Atts w a o l):l.length<=9223372036854775807:=by
 have v:=h.len;have u:=h.max;unfold ap at u;omega
theorem Atts.fr {v:E}(h:Atts w a v l)(y:Fr S w w')(z:∀ u,a=G u->l≠[]->¬ S u.block):Atts w' a v l:=
 ⟨h.len,h.max,h.isNil,h.wf,λu e o=>by
  obtain⟨I,J,A⟩:=h.cell u e o;exact⟨I,bx J y.size,λi x F=>⟨y.cell (A i x F).1 (z u e o),y.cell (A i x F).2 (z u e o)⟩⟩⟩
theorem Atts.no (h:Atts w a o l)(u:Fr S w w')(v:∀ k,¬ S k):Atts w' a o l:=h.fr u (λ_ _ _=>v _)
theorem Atts.nil (w:ab):Atts w L 0 []:=⟨by simp,by simp,λ_=>⟨rfl,rfl⟩,by simp,λ_ e _=>by cases e⟩
theorem zDN (u o:a0 aw):∀ (k:E) (s:a0 aw),(cw u o k s).length<=s.length+k*o.length
 | 0,s=>by simp[cw]
 | k+1,s=>by
  unfold cw;split;·omega
  .have h:=zDN u o k (s.drop ((Lib.index s u).toNat+u.length));simp only[cf,dz,List.length_drop]at h ⊢;have e:(k+1)*o.length=k*o.length+o.length:=Nat.succ_mul _ _;omega
theorem zEj (s o u:a0 aw):(ce s o u).length<=s.length+(s.length+1)*u.length:=by
 unfold ce Lib.replace;split;·omega
 .have h:=zDN o u (cx s o (-1)) s;have v:cx s o (-1)<=s.length+1:=by
   unfold cx;rw[bn (.inl (by omega))];exact Lib.count_le s o
  have y:=Nat.mul_le_mul_right u.length v;omega
structure Sized (d:Dev):Prop where
 name:d.name.size<=ap
 orig:d.orig.size<=ap
 sub:d.sub.size<=ap
 drv:d.drv.size<=ap
 ali:d.ali.size<=ap
def look (ds:a0 Dev)(n:ae):ao Dev:=ds.find? (λd=>decide (d.index=n))
theorem zu {ds:a0 Dev}:look ds n=L↔∀ d∈ds,d.index≠n:=by
 unfold look;rw[List.find?_eq_none];simp
theorem zAJ {ds:a0 Dev}{d:Dev}(h:look ds n=G d):d∈ds/\d.index=n:=by
 unfold look at h;exact⟨List.mem_of_find?_eq_some h,by simpa using List.find?_some h⟩
theorem zAv : ∀ (ds:a0 Dev) (n:ae),(look ds n=L/\place ds n=-1)\/∃ (k:E) (d:Dev),look ds n=G d/\place ds n=(k:ae)/\ds[k]?=G d
 | [],n=>.inl ⟨rfl,rfl⟩
 | x::t,n=>by
  by_cases h:x.index=n;·exact .inr ⟨0,x,by simp[look,h],by simp[place,h],rfl⟩
  .have v:look (x::t) n=look t n:=by simp[look,h]
   rw[v];rcases zAv t n with⟨o,u⟩|⟨k,d,o,u,y⟩
   .exact .inl ⟨o,by simp[place,h,u]⟩
   .refine .inr ⟨k+1,d,o,?_,by simpa using y⟩;have:¬ ((k:ae)<0):=(by omega);simp[place,h,u,this]
theorem zD4 {ds:a0 Dev}:place ds n<0↔look ds n=none:=by
 rcases zAv ds n with⟨o,u⟩|⟨k,d,o,u,v⟩
 .simp[o,u]
 .simp only[o,u];constructor;·intro h;omega
  .intro h;cases h
theorem zJq {ds:a0 Dev}{d:Dev}(h:look ds n=G d):devOf ds n=d:=by
 rcases zAv ds n with⟨o,u⟩|⟨k,e,o,u,v⟩
 .rw[h]at o;cases o
 .rw[h]at o;cases o;unfold devOf;rw[u,b9 (by omega),du,v];rfl
theorem zJp {ds:a0 Dev}(h:look ds n=L):devOf ds n=Dev.zero:=by
 unfold devOf;rw[bn (zD4.2 h)]
def chainK (ds:a0 Dev):E->ae->a0 Dev
 | 0,_=>[]
 | k+1,n=>match look ds n with
  | none=>[]
  | some d=>d::chainK ds k d.parent
def chain (ds:a0 Dev)(n:ae):a0 Dev:=chainK ds ds.length n
def origin (ds:a0 Dev)(n:ae):a0 ah:=((chain ds n).map Dev.orig).reverse
theorem zFL (ds:a0 Dev):∀ (k:E) (n:ae),(chainK ds k n).length<=k
 | 0,_=>by simp[chainK]
 | k+1,n=>by
  unfold chainK;cases look ds n with
  | none=>simp
  | some d=>have:=zFL ds k d.parent;simp only[be];omega
theorem zCs (ds:a0 Dev)(n:ae):(chain ds n).length<=ds.length:=zFL ds _ n
theorem zFJ (ds:a0 Dev):∀ (k:E) (n:ae) (d:Dev),d∈chainK ds k n->d∈ds
 | 0,_,d,h=>by simp[chainK]at h
 | k+1,n,d,h=>by
  unfold chainK at h;cases e:look ds n with
  | none=>rw[e]at h;simp at h
  | some x=>
   rw[e]at h;rcases List.mem_cons.1 h with h|h
   .subst h;exact(zAJ e).1
   .exact zFJ ds k _ d h
theorem zEW {ds:a0 Dev}{d:Dev}(h:d∈chain ds n):d∈ds:=zFJ ds _ n d h
theorem zA1 {ds:a0 Dev}(h:look ds n=L)(k:E):chainK ds k n=[]:=by
 cases k<;>simp[chainK,h]
inductive Ch (ds:a0 Dev):ae->a0 Dev->Prop
 | nil {n:ae} (h:look ds n=L):Ch ds n []
 | cons {n:ae} {d:Dev} {l:a0 Dev} (h:look ds n=G d) (t:Ch ds d.parent l):Ch ds n (d::l)
theorem Ch.fuel {ds:a0 Dev}{l:a0 Dev}(h:Ch ds n l):∀ k,l.length<=k->chainK ds k n=l:=by
 induction h with
 | nil h=>intro k _;exact zA1 h k
 | cons h t u=>
  intro k o;cases k with
  | zero=>simp at o
  | succ k=>unfold chainK;rw[h];simp only[be]at o;simp only[u k (by omega)]
theorem Ch.det {ds:a0 Dev}{l l':a0 Dev}(h:Ch ds n l)(o:Ch ds n l'):l=l':=by
 have u:=h.fuel (max l.length l'.length) (by omega);have v:=o.fuel (max l.length l'.length) (by omega);exact u.symm.trans v
structure TreeOk (ds:a0 Dev):Prop where
 nd:(ds.map Dev.index).Nodup
 ix:∀ d∈ds,1<=d.index/\d.index<=1073741824
 pa:∀ (k:E) (d:Dev),ds[k]?=G d->d.parent=0\/∃ (j:E) (e:Dev),j<k/\ds[j]?=G e/\e.index=d.parent
 nm:∀ d∈ds,OkN d.orig
theorem TreeOk.sz {ds:a0 Dev}(h:TreeOk ds):∀ d∈ds,d.orig.size<=32:=λd o=>(h.nm d o).1
theorem TreeOk.nil: TreeOk []:=⟨by simp,by simp,by simp,by simp⟩
section
variable {ds:a0 Dev}
theorem zv : ∀ {ds:a0 Dev},(ds.map Dev.index).Nodup->∀ {d:Dev},d∈ds->look ds d.index=G d
 | [],_,d,h=>by simp at h
 | x::t,o,d,h=>by
  simp only[ci,e1]at o;rcases List.mem_cons.1 h with h|h
  .subst h;simp[look]
  .have:x.index≠d.index:=by
    intro e;apply o.1;rw[e];exact List.mem_map_of_mem h
   have u:=zv o.2 h;unfold look at u ⊢;simp[this,u]
theorem TreeOk.lk (h:TreeOk ds){d:Dev}(o:d∈ds):look ds d.index=G d:=zv h.nd o
theorem TreeOk.zero (h:TreeOk ds):look ds 0=none:=zu.2 λd o e=>by have:=(h.ix d o).1;omega
theorem TreeOk.ch (h:TreeOk ds):∀ (k:E) (d:Dev),ds[k]?=G d->∃ l,Ch ds d.index l/\l.length<=k+1:=by
 intro k
 induction k using Nat.strongRecOn with
 | ind k y=>
  intro d o;have u:=bw o;rcases h.pa k d o with z|⟨j,e,A,F,I⟩
  .refine⟨[d],.cons (h.lk u) ?_,by simp⟩;rw[z];exact .nil h.zero
  .obtain⟨l,J,v⟩:=y j A e F;refine⟨d::l,.cons (h.lk u) (by rw[<-I];exact J),by simp only[be];omega⟩
theorem TreeOk.chn (h:TreeOk ds){d:Dev}(v:look ds n=G d):Ch ds n (chain ds n):=by
 obtain⟨y,rfl⟩:=zAJ v;obtain⟨k,o⟩:=dy y;obtain⟨l,u,A⟩:=h.ch k d o;have z:k<ds.length:=(List.getElem?_eq_some_iff.1 o).1;have e:chain ds d.index=l:=u.fuel ds.length (by omega);rw[e];exact u
theorem TreeOk.chn0 (h:TreeOk ds)(n:ae):Ch ds n (chain ds n):=by
 cases e:look ds n with
 | none=>rw[show chain ds n=[]from zA1 e _];exact .nil e
 | some d=>exact h.chn e
theorem TreeOk.chain_cons (h:TreeOk ds){d:Dev}(o:look ds n=G d):chain ds n=d::chain ds d.parent:=by
 exact(h.chn o).det (.cons o (h.chn0 _))
theorem TreeOk.chain_none (h:look ds n=L):chain ds n=[]:=zA1 h _
theorem TreeOk.origin_cons (h:TreeOk ds){d:Dev}(o:look ds n=G d):origin ds n=origin ds d.parent++[d.orig]:=by
 unfold origin;rw[h.chain_cons o];simp
theorem TreeOk.origin_none (h:look ds n=L):origin ds n=[]:=by
 unfold origin;rw[TreeOk.chain_none h];rfl
end
def insAt (ds:a0 Dev)(k:E)(d:Dev):a0 Dev:=ds.take k++d::ds.drop k
theorem zV {ds:a0 Dev}{d e:Dev}:e∈insAt ds k d↔e=d\/e∈ds:=by
 unfold insAt;have h:e∈ds↔e∈ds.take k\/e∈ds.drop k:=by rw[<-d1,bh]
 rw[d1,d2,h];constructor
 .rintro (h|h|h);·exact .inr (.inl h)
  .exact .inl h
  .exact .inr (.inr h)
 .rintro (h|h|h);·exact .inr (.inl h)
  .exact .inl h
  .exact .inr (.inr h)
theorem zCm {ds:a0 Dev}{d:Dev}:(insAt ds k d).length=ds.length+1:=by
 unfold insAt;have:=cb List.length (bh k ds);simp only[cf,be]at this ⊢;omega
theorem zDc {ds:a0 Dev}{d:Dev}(o:k<=ds.length)(h:i<k):(insAt ds k d)[i]?=ds[i]?:=by
 unfold insAt;rw[dw (by simp;omega),bv h]
theorem zM4 {ds:a0 Dev}{d:Dev}(h:k<=ds.length):(insAt ds k d)[k]?=G d:=by
 unfold insAt;rw[cz (by simp;omega)];simp[e5 h]
theorem zIi {ds:a0 Dev}{d:Dev}(h:k<=ds.length)(o:k<=i):(insAt ds k d)[i+1]?=ds[i]?:=by
 unfold insAt;rw[cz (by simp;omega)];simp only[dz,e5 h];rw[show i+1-k=(i-k)+1 from by omega];simp only[dx,List.getElem?_drop];rw[show k+(i-k)=i from by omega]
theorem TreeOk.insert {ds:a0 Dev}(h:TreeOk ds){d:Dev}(v:k<=ds.length)(z:look ds d.index=L)(V:1<=d.index/\d.index<=1073741824)(X:OkN d.orig)
  (Y:d.parent=0\/∃ (j:E) (e:Dev),j<k/\ds[j]?=G e/\e.index=d.parent):TreeOk (insAt ds k d):=by
 have J:=zu.1 z;refine⟨?_,?_,?_,?_⟩
 .unfold insAt;have Z:=h.nd;rw[<-bh k ds,cg]at Z;rw[cg,ci];have U:((d::(ds.take k++ds.drop k)).map Dev.index).Nodup:=by
   rw[ci,e1];refine⟨?_,by rwa [cg]⟩;rw[bh];intro hm;obtain⟨e,o,N⟩:=List.mem_map.1 hm;exact J e o N
  rw[ci,cg]at U;exact(List.perm_middle.nodup_iff).2 U
 .intro e o;rcases zV.1 o with rfl|o
  .exact V
  .exact h.ix e o
 .intro i e o;rcases Nat.lt_trichotomy i k with A|rfl|A
  .rw[zDc v A]at o;rcases h.pa i e o with F|⟨j,f,I,y,u⟩
   .exact .inl F
   .exact .inr ⟨j,f,I,by rw[zDc v (by omega)];exact y,u⟩
  .rw[zM4 v]at o;cases o;rcases Y with F|⟨j,f,I,y,u⟩
   .exact .inl F
   .exact .inr ⟨j,f,I,by rw[zDc v I];exact y,u⟩
  .obtain⟨i,rfl⟩:∃ m,i=m+1:=⟨i-1,by omega⟩
   rw[zIi v (by omega)]at o;rcases h.pa i e o with F|⟨j,f,I,y,u⟩
   .exact .inl F
   .by_cases O:j<k;·exact .inr ⟨j,f,by omega,by rw[zDc v O];exact y,u⟩
    .exact .inr ⟨j+1,f,by omega,by rw[zIi v (by omega)];exact y,u⟩
 .intro e o;rcases zV.1 o with rfl|o
  .exact X
  .exact h.nm e o
theorem zFm {ds:a0 Dev}{d:Dev}(o:((insAt ds k d).map Dev.index).Nodup)(y:look ds d.index=L)(n:ae):look (insAt ds k d) n=if n=d.index then G d else look ds n:=by
 split
 .rename_i e;subst e;exact zv o (zV.2 (.inl rfl))
 .rename_i v;cases hl:look ds n with
  | none=>
   rw[zu]at hl ⊢;intro e u;rcases zV.1 u with rfl|u
   .exact λh=>v h.symm
   .exact hl e u
  | some e=>
   obtain⟨u,rfl⟩:=zAJ hl;exact zv o (zV.2 (.inr u))
theorem Ch.ins {ds:a0 Dev}{d:Dev}(z:TreeOk ds)(u:((insAt ds k d).map Dev.index).Nodup)(o:look ds d.index=L)(O:1<=d.index){l:a0 Dev}(h:Ch ds n l)(y:n≠d.index):Ch (insAt ds k d) n l:=by
 induction h with
 | nil h=>exact .nil (by rw[zFm u o,b9 y];exact h)
 | @cons n e l h t A=>
  refine .cons (by rw[zFm u o,b9 y];exact h) (A ?_);obtain⟨F,_⟩:=zAJ h;obtain⟨j,I⟩:=dy F;rcases z.pa j e I with J|⟨U,f,_,N,v⟩
  .rw[J];omega
  .rw[<-v];exact zu.1 o f (bw N)
structure TreeWf (ds:a0 Dev):Prop where
 ok:TreeOk ds
 uo:∀ d∈ds,∀ e∈ds,origin ds d.index=origin ds e.index->d=e
 dp:∀ d∈ds,(origin ds d.index).length<=7
theorem TreeWf.nil: TreeWf []:=⟨TreeOk.nil,by simp,by simp⟩
theorem zCR {ds:a0 Dev}(o:TreeOk ds){l:a0 Dev}(h:Ch ds n l):chain ds n=l:=(o.chn0 n).det h
theorem TreeWf.insert {ds:a0 Dev}(h:TreeWf ds){d:Dev}(hk:k<=ds.length)(z:look ds d.index=L)(hi:1<=d.index/\d.index<=1073741824)(hs:OkN d.orig)(V:d.parent≠d.index)
  (hp:d.parent=0\/∃ (j:E) (e:Dev),j<k/\ds[j]?=G e/\e.index=d.parent) (ho:∀ e∈ds,origin ds e.index≠origin ds d.parent++[d.orig]) (hd:(origin ds d.parent).length<7):
  TreeWf (insAt ds k d)/\(∀ n,n≠d.index->chain (insAt ds k d) n=chain ds n)/\chain (insAt ds k d) d.index=d::chain ds d.parent:=by
 have O:=h.ok.insert hk z hi hs hp;have A:∀ n,n≠d.index->chain (insAt ds k d) n=chain ds n:=λn X=>zCR O ((h.ok.chn0 n).ins h.ok O.nd z hi.1 X)
 have F:chain (insAt ds k d) d.index=d::chain ds d.parent:=by
  rw[O.chain_cons (O.lk (zV.2 (.inl rfl))),A _ V]
 have o:∀ n,n≠d.index->origin (insAt ds k d) n=origin ds n:=λn X=>by unfold origin;rw[A n X]
 have u:origin (insAt ds k d) d.index=origin ds d.parent++[d.orig]:=by unfold origin;rw[F];simp
 have I:=zu.1 z;refine⟨⟨O,?_,?_⟩,A,F⟩
 .intro x Y y hy N;rcases zV.1 Y with U|v
  .rcases zV.1 hy with Z|J
   .rw[U,Z]
   .rw[U,u,o _ (I y J)]at N;exact absurd N.symm (ho y J)
  .rcases zV.1 hy with Z|J
   .rw[Z,u,o _ (I x v)]at N;exact absurd N (ho x v)
   .rw[o _ (I x v),o _ (I y J)]at N;exact h.uo x v y J N
 .intro x Y;rcases zV.1 Y with U|v
  .rw[U,u];simp;omega
  .rw[o _ (I x v)];exact h.dp x v
theorem infoD: (Tryz.prog.info? 40).map (λi=>(i.zero,i.size,i.bytes))=G (G (ar #[.int a1 0,.int a1 0,.string ax,.string ax,.string ax,.string ax,.string ax,.int a1 0,.int a1 0,.slice L 0 0]),10,136):=by kernel_rfl
theorem infoS: (Tryz.prog.info? 9).map (λi=>(i.zero,i.size,i.bytes))=G (G (.string ax),1,16):=by kernel_rfl
theorem zQ {n:E}{z:a0 ay}(h:w.ownsRow o e u v n z)(y:v.ownBlock=G b):From o b:=by
 obtain⟨_,⟨rfl,_⟩|⟨g,A,F,rfl,I,_⟩⟩:=h;·cases y
 .cases y;exact I
theorem zJ {n:E}{y:a0 ay}(h:w.ownsRow o e u v n y):∃ a c,v=.slice a n c:=by
 obtain⟨_,⟨rfl,rfl⟩|⟨g,z,A,rfl,F,_⟩⟩:=h;·exact⟨_,_,rfl⟩
 .exact⟨_,_,rfl⟩
theorem zAo {base':E}{n:E}(h:w.ownsRow o e u v n A)(I:base'<=o):w.ownsRow base' e u v n A:=by
 obtain⟨F,h|⟨g,y,z,h,J,r⟩⟩:=h;·exact⟨F,.inl h⟩
 .exact⟨F,.inr ⟨g,y,z,h,e4 I J,r⟩⟩
theorem zZ {n:E}(h:w.ownsRow o e u v n A)(z:v.ownBlock=G b):b<(w:E):=by
 obtain⟨_,⟨rfl,_⟩|⟨g,F,I,rfl,J,y,_⟩⟩:=h;·cases z
 .cases z;exact zC y
theorem zCF {z:ab}{y:E}{n:E}(h:w.ownsRow u e y v n A){o:Obj}(F:(w.alloc o).grownBy z v.ownBlock):Fr (From u) w z:=
 ((Fr.refl _ _).alloc o).step (Fr.of_grown F) (λb _ e=>zQ h e)
theorem zAZ {F:ab}{n:E}{I:a0 ay}(h:w.ownsRow o e u v n I)(O:Fr S w F)(U:∀ b,o<=b->¬ S b):F.ownsRow o e u v n I:=by
 obtain⟨J,⟨rfl,y⟩|⟨g,z,A,rfl,N,V,X,y,Y,Z⟩⟩:=h;·exact⟨J,.inl ⟨rfl,y⟩⟩
 .exact⟨J,.inr ⟨g,z,A,rfl,N,O.heap V (U g N),X,y,Y,Z⟩⟩
theorem ze (w:ab)(h:az ay)(t:bc)(o:(w:E)=b):∀ j u,h.toList[j]?=G u->(w.alloc (aj h t)).cell? ((⟨b,0,L⟩:b2).add j)=G u:=by
 intro j u v;subst o;rw[dk,zB (zF w (aj h t))]
 simpa using v
def flat (l:a0 Dev):a0 ay:=l.flatMap (λd=>d.vals.toList)
theorem zCp (l:a0 Dev)(d:Dev):flat (l++[d])=flat l++d.vals.toList:=by simp[flat]
theorem zNB (l:a0 Dev):(flat l).length=l.length*10:=by
 induction l with
 | nil=>rfl
 | cons d t h=>
  have:flat (d::t)=d.vals.toList++flat t:=by simp[flat]
  rw[this,cf,h];simp[Dev.vals];omega
theorem zOD (d:Dev)(j:E)(h:j<10):d.vals.toList[j]?=G (d.cell j):=by
 unfold Dev.vals
 match j,h with
 | 0,_=>rfl
 | 1,_=>rfl
 | 2,_=>rfl
 | 3,_=>rfl
 | 4,_=>rfl
 | 5,_=>rfl
 | 6,_=>rfl
 | 7,_=>rfl
 | 8,_=>rfl
 | 9,_=>rfl
theorem zHk : ∀ (l:a0 Dev) (i:E) (d:Dev),l[i]?=G d->∀ j,j<10->(flat l)[i*10+j]?=G (d.cell j)
 | [],i,d,h,j,o=>by simp at h
 | x::t,0,d,h,j,o=>by
  simp at h;subst h;have:flat (x::t)=x.vals.toList++flat t:=by simp[flat]
  rw[this,dw (by simp[Dev.vals];omega)]
  simpa using zOD x j o
 | x::t,i+1,d,h,j,o=>by
  have:flat (x::t)=x.vals.toList++flat t:=by simp[flat]
  rw[this,cz (by simp[Dev.vals];omega)];have u:=zHk t i d (by simpa using h) j o;rw[show (i+1)*10+j-x.vals.toList.length=i*10+j from by simp[Dev.vals];omega];exact u
theorem zAb (d:Dev):∀ u∈d.vals.toList,u.oneCell'=true:=by
 intro u h;simp[Dev.vals]at h;rcases h with rfl|rfl|rfl|rfl|rfl|rfl|rfl|rfl|rfl|rfl<;>rfl
theorem zNA (l:a0 Dev):∀ u∈flat l,u.oneCell'=true:=by
 intro u h;obtain⟨d,o,h⟩:=List.mem_flatMap.1 h;exact zAb d u h
theorem Devs.of_own {l:a0 Dev}(h:w.ownsRow u e 10 v l.length (flat l)):
  ∃ a o,v=.slice a l.length o/\Devs w a o l/\∀ y,a=G y->u<=y.block:=by
 obtain⟨_,⟨rfl,z⟩|⟨g,o,A,rfl,N,F,O,z,Z,U⟩⟩:=h
 .have:l=[]:=cy z;subst this;exact⟨L,0,rfl,Devs.nil w,λ_ e=>by cases e⟩
 .refine⟨G ⟨g,0,L⟩,o,rfl,⟨O,z,(λe=>by cases e),?_⟩,λy e=>by cases e;exact N⟩;intro y e V;cases e;refine⟨rfl,zC F,λi d I j X=>?_⟩;rw[zB F];simp only[d4];have Y:i<l.length:=(List.getElem?_eq_some_iff.1 I).1;have J:(A.toList.take (l.length*10))[i*10+j]?=(flat l)[i*10+j]?:=by rw[U]
  rw[bv (by omega),zHk l i d I j X]at J;rw[<-bf,J]
structure Strs (w:ab)(a:ao b2)(cap:E)(l:a0 ah):Prop where
 len:l.length<=cap
 max:cap<=ap
 isNil:a=L->l=[]/\cap=0
 cell:∀ ad,a=G ad->l≠[]->ad.spot=L/\ad.block<(w:E)/\∀ i x,l[i]?=G x->w.cell? ⟨ad.block,ad.off+i,L⟩=G (.string x)
theorem Strs.at {v:E}{l:a0 ah}(h:Strs w a v l)(u:k<l.length):
  ∃ b o x,a=G ⟨b,o,L⟩/\l[k]?=G x/\w.cell? ⟨b,o+k,L⟩=G (.string x):=by
 cases a with
 | none=>obtain⟨rfl,_⟩:=h.isNil rfl;simp at u
 | some z=>
  obtain⟨b,o,F⟩:=z;obtain⟨y,I,A⟩:=h.cell _ rfl (by intro e;subst e;simp at u);simp at y;subst y;exact⟨b,o,l[k],rfl,by simp[u],A k _ (by simp[u])⟩
theorem Strs.lenmax {l:a0 ah}(h:Strs w a o l):l.length<=9223372036854775807:=by
 have v:=h.len;have u:=h.max;unfold ap at u;omega
theorem Strs.fr {l:a0 ah}(h:Strs w a o l)(y:Fr S w w')(z:∀ u,a=G u->l≠[]->¬ S u.block):Strs w' a o l:=
 ⟨h.len,h.max,h.isNil,λu e v=>by
  obtain⟨A,F,I⟩:=h.cell u e v;exact⟨A,bx F y.size,λi x J=>y.cell (I i x J) (z u e v)⟩⟩
theorem Strs.no {l:a0 ah}(h:Strs w a o l)(u:Fr S w w')(v:∀ k,¬ S k):Strs w' a o l:=h.fr u (λ_ _ _=>v _)
theorem Strs.nil (w:ab):Strs w L 0 []:=⟨by simp,by simp,λ_=>⟨rfl,rfl⟩,λ_ e _=>by cases e⟩
theorem Strs.of_own {l:a0 ah}(h:w.ownsRow u e 1 v l.length (l.map ca)):
  ∃ a o,v=.slice a l.length o/\Strs w a o l/\∀ y,a=G y->u<=y.block:=by
 obtain⟨_,⟨rfl,z⟩|⟨g,o,A,rfl,N,F,O,z,Y,U⟩⟩:=h
 .have:l=[]:=cy z;subst this;exact⟨L,0,rfl,Strs.nil w,λ_ e=>by cases e⟩
 .refine⟨G ⟨g,0,L⟩,o,rfl,⟨O,z,(λe=>by cases e),?_⟩,λy e=>by cases e;exact N⟩;intro y e V;cases e;refine⟨rfl,zC F,λi x I=>?_⟩;rw[zB F];simp only[d4];have X:i<l.length:=(List.getElem?_eq_some_iff.1 I).1;have J:(A.toList.take (l.length*1))[i]?=(l.map ca)[i]?:=by rw[U]
  rw[bv (by omega)]at J;rw[<-bf,J];simp[I]
theorem zAe (a:ao b2)(h:E)(ds:a0 Dev)(n:ae)(w:ab)(u:Devs w a h ds)(o:look ds n=L):
  au ai 70 #[ar #[.slice a ds.length h],.int a1 n] w λe w'=>e=.returned (.tuple #[ar Dev.zero.vals,.bool al])/\Fr No w w':=
 (zIM a h ds n w u).mono λe w' ⟨v,y⟩=>⟨by rw[v,zJp o,dg (by have:=zD4.2 o;omega)],y⟩
theorem zAt (a:ao b2)(o:E)(ds:a0 Dev)(n:ae)(d:Dev)(w:ab)(v:Devs w a o ds)(u:look ds n=G d):
  au ai 70 #[ar #[.slice a ds.length o],.int a1 n] w λe w'=>e=.returned (.tuple #[ar d.vals,.bool af])/\Fr No w w':=
 (zIM a o ds n w v).mono λe w' ⟨y,z⟩=>⟨by
  rw[y,zJq u,dh (by
   have A:¬ place ds n<0:=λh=>by rw[zD4.1 h]at u;cases u
   omega)],z⟩
theorem zEX {ds:a0 Dev}{d:Dev}(h:look ds n=G d)(k:E):chainK ds (k+1) n=d::chainK ds k d.parent:=by
 rw[chainK,h]
theorem zKg (a:ao b2)(o:E)(ds:a0 Dev)(n:ae)(w:ab)(V:Devs w a o ds)(hb:ds.length<=1000000):
  au ai 119 #[ar #[.slice a ds.length o],.int a1 n] w λe w'=>(∃ v,e=.returned v/\w'.ownsRow (w:E) 40 10 v (chain ds n).length (flat (chain ds n)))/\Fr No w w':=by
 obtain⟨i0,hi,X,Y,Z⟩:=info_parts infoD;have hx:Fr No w (w.alloc (aj #[.slice a ds.length o] 53)):=(Fr.refl _ _).alloc _;have a2:=V.no hx (λ_=>id);have a3:=zF w (aj #[.slice a ds.length o] 53);have hm:=V.lenmax;go_enter Tryz.func119,Tryz.ntmps119;go_wp2;generalize N:w.alloc (aj #[.slice a ds.length o] 53)=W0 at *;have a8:(w:E)+1<=(W0:E):=by rw[<-N];simp
 clear N;go_loopw [1,5] (λi v wr=>∃ (pre:a0 Dev) (m:ae) (av:ao b2) (cv:E),pre.length<=ds.length/\i=.int a1 m/\v=.slice av pre.length cv/\ag (chain ds n=pre++chainK ds (ds.length-pre.length) m)/\wr.ownsRow ((w:E)+1) 40 10 (.slice av pre.length cv) pre.length (flat pre)/\Fr (From ((w:E)+1)) W0 wr) (λ_ v _=>match v with | .slice _ k _=>ds.length-k|_=>0);case atStart=>exact⟨[],n,L,0,by simp,rfl,rfl,by unfold ag chain;simp,en _ _ _ _,Fr.refl _ _⟩
 case round=>
  obtain⟨pre,m,av,cv,hk,rfl,rfl,HC,F,z⟩:=hrel;have a9:=z.size;have a4:=z.heap a3 (by omega);have c0:wr.cell? ⟨w,0,L⟩=G (.slice a ds.length o):=zB a4 0;have O:=a2.fr z (λad e a5 hS=>by have:=(V.cell ad e a5).2.1;omega);by_cases b0:pre.length<ds.length
  .cases hlk:look ds m with
   | none=>
    have I:=zh hlk;clear hlk;go_wp2_with fail;apply (zAe a o ds m _ O I).mono;rintro e U ⟨rfl,A⟩;unfold Dev.vals Dev.zero;go_wp2;go_ret;have e:chain ds n=pre:=(by rw[HC,zA1 I,List.append_nil]);rw[e];exact⟨⟨_,rfl,zAo ((zAZ F A (λ_ _=>id)).alloc _) (by omega)⟩,((hx.step z (λb hb h=>by omega)).step A zi).alloc _⟩
   | some d=>
    have I:=zh hlk;clear hlk;go_wp2_with fail;apply (zAt a o ds m d _ O I).mono;rintro e U ⟨rfl,A⟩;unfold Dev.vals;have u:=zAZ F A (λ_ _=>id);go_wp2_with (at_builtin;refine eu _ rfl _ _ 51 rfl ((w:E)+1) 40 i0 (ar #[.int a1 0,.int a1 0,.string ax,.string ax,.string ax,.string ax,.string ax,.int a1 0,.int a1 0,.slice L 0 0]) 10 136 Tryz.underlying51 hi X Y Z rfl (by decide) _ _ _ rfl ((u.alloc _).alloc _) ⟨(U:E)+1,0,L⟩ 1 1 d.vals.toList rfl rfl (ze _ d.vals _ (df _ _)) (zAb d) (by unfold ap;omega) (by omega) (by have:=A.size;simp;omega) ?_;intro v' w2 J y _;have c1:w2.cell? ⟨U,1,L⟩=G (.int a1 d.parent):=(Fr.of_grown y).cell (zB (zP U _ _) 1) (λe=>Nat.lt_irrefl _ (zZ u e));obtain⟨a6,a7,rfl⟩:=zJ J)
    go_roundw;case rel=>
     refine⟨pre++[d],d.parent,a6,a7,by simp;omega,rfl,by simp,?_,by rw[cf,zCp];exact J,(z.step A zn).step (((Fr.refl (From ((w:E)+1)) U).alloc _).step (zCF (u.alloc _) y) zi) zi⟩;unfold ag;rw[HC.out,show ds.length-pre.length=(ds.length-(pre++[d]).length)+1 from by simp;omega,zEX I.out];simp
    case measure=>simp;omega
  .have e:chain ds n=pre:=by rw[HC.out,show ds.length-pre.length=0 from by omega];simp[chainK]
   have He:=zh e;clear e;go_wp2;go_ret;rw[He];exact⟨⟨_,rfl,zAo F (by omega)⟩,hx.step z (λb hb h=>by omega)⟩
theorem zCZ (l:a0 ah):∀ u∈l.map ca,u.oneCell'=true:=by
 intro u h;obtain⟨x,_,rfl⟩:=List.mem_map.1 h;rfl
theorem zJV (a:ao b2)(y:E)(ds:a0 Dev)(n:ae)(w:ab)(hl:Devs w a y ds)(hb:ds.length<=1000000):
  au ai 73 #[ar #[.slice a ds.length y],.int a1 n] w λe w'=>(∃ v,e=.returned v/\w'.ownsRow (w:E) 9 1 v (origin ds n).length ((origin ds n).map ca))/\Fr No w w':=by
 obtain⟨i0,hi,V,X,Y⟩:=info_parts infoS;have Z:Fr No w (w.alloc (aj #[.slice a ds.length y] 53)):=(Fr.refl _ _).alloc _;have F:=hl.no Z (λ_=>id);have a6:(origin ds n).length<=1000000:=by unfold origin;simp;have:=zCs ds n;omega
 go_enter Tryz.func73,Tryz.ntmps73;go_wp2_with fail;apply (zKg a y ds n _ F hb).mono;rintro e I ⟨⟨v,rfl,o⟩,J⟩;have a7:(chain ds n).length<=1000000:=by have:=zCs ds n;omega
 have a8:(w:E)+1<=(I:E):=by have:=J.size;rwa [df]at this
 obtain⟨ac,cc,rfl,hD,U⟩:=Devs.of_own o;have N:ag (origin ds n=((chain ds n).map Dev.orig).reverse):=rfl;have O:=Z.step J zi;clear o Z F;generalize chain ds n=c at *;go_wp2_with fail;go_loopw [5,7] (λv i wr=>∃ (k:E) (av:ao b2) (cv:E),k<=c.length/\i=.int a1 ((k:ae)-1)/\v=.slice av (c.length-k) cv/\wr.ownsRow (I:E) 9 1 (.slice av (c.length-k) cv) (c.length-k) ((((c.drop k).map Dev.orig).reverse).map ca)/\Fr (From (I:E)) I wr) (λ_ i _=>(b4 i+1).toNat);case atStart=>exact⟨c.length,L,0,by omega,rfl,by simp,by simpa using en _ _ _ _,Fr.refl _ _⟩
 case round=>
  obtain⟨k,av,cv,hk,rfl,rfl,o,z⟩:=hrel;have a9:=z.size;cases k with
  | zero=>
   go_wp2;go_ret;rw[N];simp only[List.drop_zero,Nat.sub_zero]at o;exact⟨⟨_,rfl,by rw[List.length_reverse,List.length_map];exact zAo o (by omega)⟩,O.step z (λb hb h=>by omega)⟩
  | succ j=>
   have a2:=hD.fr z (λad e a3 hS=>by have:=(hD.cell ad e a3).2.1;omega);obtain⟨b,b0,d,rfl,hd,hc⟩:=a2.dev (by omega:j<c.length);have c3:=hc.c3;have Hd:=zh hd;clear hd hc;rw[show ((j+1:E):ae)-1=(j:ae)from by omega];go_wp2_with (at_builtin;refine eu _ rfl _ _ 30 rfl (I:E) 9 i0 (.string ax) 1 16 Tryz.underlying30 hi V X Y rfl (by decide) _ _ _ rfl (o.alloc _) ⟨wr,0,L⟩ 1 1 [.string d.orig] rfl rfl (cell_one_new _ _ _) (zCZ [d.orig]) (by unfold ap;omega) (by omega) (by simp;omega) ?_;intro v' w2 u A _;obtain⟨a4,a5,rfl⟩:=zJ u)
   go_roundw;case rel=>
    have e:c.length-(j+1)+1=c.length-j:=(by omega);rw[e]at u ⊢;refine⟨j,a4,a5,by omega,rfl,rfl,?_,z.step (zCF o A) zi⟩;rw[List.drop_eq_getElem_cons (by omega:j<c.length)];have e2:c[j]=d:=(by have:=Hd.out;rw[bu (by omega)]at this;exact Option.some.inj this);rw[e2]
    simpa using u
   case measure=>simp[b4]
theorem strEq (x y:ah):(x.toList==y.toList)=decide (x=y):=by
 rw[ByteArray.toList_eq,ByteArray.toList_eq,Bool.eq_iff_iff,decide_eq_true_iff];constructor
 .intro h;cases x;cases y;have:=eq_of_beq h;simp only at this
  congr 1
  exact Array.toList_inj.1 this
 .rintro rfl;simp
theorem zAT : ∀ (a b:a0 aw),bt a b=0->a=b
 | [],[],_=>rfl
 | [],_::_,h=>by simp[bt]at h
 | _::_,[],h=>by simp[bt]at h
 | a::s,b::t,h=>by
  unfold bt at h;split at h;·simp at h
  .rename_i o;split at h;·simp at h
   .rename_i u;have:a=b:=by
     have v:=UInt8.not_lt.1 o;have y:=UInt8.not_lt.1 u;exact UInt8.le_antisymm y v
    rw[this,zAT s t h]
def cmpN : a0 ah->a0 ah->ae
 | [],[]=>0
 | [],_::_=>-1
 | _::_,[]=>1
 | a::s,b::t=>if a=b then cmpN s t else bt a.data.toList b.data.toList
theorem zG2 : ∀ (a b:a0 ah),cmpN a b=0->a=b
 | [],[],_=>rfl
 | [],_::_,h=>by simp[cmpN]at h
 | _::_,[],h=>by simp[cmpN]at h
 | a::s,b::t,h=>by
  unfold cmpN at h;split at h;·rename_i e;rw[e,zG2 s t h]
  .rename_i e;exfalso;apply e;have o:=zAT _ _ h;cases a;cases b;simp only at o
   congr 1
   exact Array.toList_inj.1 o
theorem zI2 : ∀ (p a b:a0 ah),cmpN (p++a) (p++b)=cmpN a b
 | [],_,_=>rfl
 | x::p,a,b=>by
  show cmpN (x::(p++a)) (x::(p++b))=_
  rw[cmpN,bn rfl];exact zI2 p a b
theorem zLe {a b:a0 ah}(h:a.take k=b.take k):cmpN a b=cmpN (a.drop k) (b.drop k):=by
 have o:=zI2 (a.take k) (a.drop k) (b.drop k);rw[bh,h,bh]at o;exact o
structure DevB (W:ab)(b:E)(d:Dev):Prop where
 c0:W.cell? ⟨b,0,L⟩=G (.int a1 d.index)
 c1:W.cell? ⟨b,1,L⟩=G (.int a1 d.parent)
 c2:W.cell? ⟨b,2,L⟩=G (.string d.name)
 c3:W.cell? ⟨b,3,L⟩=G (.string d.orig)
 c4:W.cell? ⟨b,4,L⟩=G (.string d.sub)
 c5:W.cell? ⟨b,5,L⟩=G (.string d.drv)
 c6:W.cell? ⟨b,6,L⟩=G (.string d.ali)
 c7:W.cell? ⟨b,7,L⟩=G (.int a1 d.kind)
 c8:W.cell? ⟨b,8,L⟩=G (.int a1 d.num)
 c9:W.cell? ⟨b,9,L⟩=G (.slice d.aa d.an d.ac)
theorem DevB.of {d:Dev}{o:E×E}(h:W.heap[b]?=G (aj d.vals T o)):DevB W b d:=
 ⟨zB h 0,zB h 1,zB h 2,zB h 3,zB h 4,zB h 5,zB h 6,zB h 7,zB h 8,zB h 9⟩
structure DevF (W:ab)(b:E):Prop where
 f0:W.frozen? ⟨b,0,L⟩=al
 f1:W.frozen? ⟨b,1,L⟩=al
 f2:W.frozen? ⟨b,2,L⟩=al
 f3:W.frozen? ⟨b,3,L⟩=al
 f4:W.frozen? ⟨b,4,L⟩=al
 f5:W.frozen? ⟨b,5,L⟩=al
 f6:W.frozen? ⟨b,6,L⟩=al
 f7:W.frozen? ⟨b,7,L⟩=al
 f8:W.frozen? ⟨b,8,L⟩=al
 f9:W.frozen? ⟨b,9,L⟩=al
theorem DevF.of (h:W.heap[b]?=G (aj cs T)):DevF W b:=
 ⟨zD h 0,zD h 1,zD h 2,zD h 3,zD h 4,zD h 5,zD h 6,zD h 7,zD h 8,zD h 9⟩
theorem zFz (x h u:ae)(w:ab):
  au ai 130 #[.int a1 x,.int a1 h,.int a1 u] w λe w'=>e=.returned (.bool (decide (h<=x)&&decide (x<=u)))/\w=w':=by
 by_cases v:h<=x
 .have o:=zh v;go_enter ec,ef;go_wp2_with fail
  all_goals (go_ret;exact⟨zL (by rw[dh o.out];rfl),rfl⟩)
 .have o:=zh v;go_enter ec,ef;go_wp2_with fail
  all_goals (go_ret;exact⟨zL (by rw[dg (by have:=o.out;omega)];rfl),rfl⟩)
def numK (k:ae):Bool:=k==2||k==3
theorem zFG (k:ae)(w:ab):
  au ai 187 #[.int a1 k] w λe w'=>e=.returned (.bool (numK k))/\w=w':=by
 rcases h1:(k==2)with _|_
 .have H:ag (numK k=(k==3)):=by unfold ag numK;rw[h1];rfl
  go_enter ed,eg;go_wp2_with fail
  all_goals (go_ret;exact⟨zL H.symm,rfl⟩)
 .have H:ag (numK k=af):=by unfold ag numK;rw[h1];rfl
  go_enter ed,eg;go_wp2_with fail
  all_goals (go_ret;exact⟨zL H.symm,rfl⟩)
def nodeOf (s:ah):ah:=⟨(ce s.data.toList [33] [47]).toArray⟩
theorem zEE (s:ah)(u:s.size<=1000000):(nodeOf s).size<=3000000:=by
 have h:=zEj s.data.toList [33] [47];have o:s.data.toList.length=s.size:=Array.length_toList;rw[o]at h;simp only[be,List.length_nil]at h;show (Array.size (List.toArray _))<=_
 rw[List.size_toArray];omega
def nodeR (d:Dev):ah:=if numK d.kind=af then nodeOf d.orig else ()
theorem zE6 (d:Dev)(h:d.orig.size<=1000000):(nodeR d).size<=3000000:=by
 unfold nodeR;split;·exact zEE _ h
 .show (0:E)<=_;omega
theorem zLY (d:Dev)(m:ae)(w:ab)(V:d.orig.size<=1000000)(N:w.cell? ⟨3,0,L⟩=G (.int a1 m))(X:3<(w:E)):
  au ai 135 #[ar d.vals] w λe w'=>e=.returned (.tuple #[.string (nodeR d),.bool (numK d.kind)])/\Fr No w w':=by
 have A:Fr No w (w.alloc (aj d.vals 40)):=(Fr.refl _ _).alloc _;have F:=A.cell N id;have o:=Lib.countB_le ⟨#[33]⟩ (by decide) _ d.orig (ck _);have h:d.orig.size+Lib.countB d.orig ⟨#[33]⟩*(⟨#[47]⟩:ah).size<=140737488355328:=by
  show d.orig.size+Lib.countB d.orig ⟨#[33]⟩*1<=_
  omega
 have u:=zh h;clear o h;obtain⟨rs,y⟩:∃ rs,rs=nodeR d:=⟨_,rfl⟩
 rw[<-y];have z:ag (rs=if numK d.kind=af then nodeOf d.orig else ()):=y;clear y;unfold Dev.vals at *;go_enter Tryz.func135,Tryz.ntmps135;go_wp2_with fail;apply (zFG _ _).mono;rintro e O ⟨rfl,rfl⟩;rcases hk:numK d.kind with _|_
 .have I:ag (rs=()):=by unfold ag;rw[z,hk];rfl
  have J:=zh hk;clear hk;go_wp2_with fail;refine bm (v:=.tuple #[.string (),.bool al]) (by simp[cq,ei,go_sem]) rfl ?_;exact⟨by rw[I,J],A⟩
 .have I:ag (rs=nodeOf d.orig):=by unfold ag;rw[z,hk];rfl
  have J:=zh hk;clear hk;go_wp2_with fail;apply (Tryz.strings_ReplaceAll d.orig ⟨#[33]⟩ ⟨#[47]⟩ m _ (by omega) F (by decide) u).mono;rintro e O ⟨rfl,U⟩;go_wp2_with fail;refine bm (v:=.tuple #[.string ⟨(ce d.orig.data.toList [33] [47]).toArray⟩,.bool af]) (by simp[cq,ei,go_sem]) rfl ?_;exact⟨by rw[I,J];rfl,A.step (Fr.of_below_size U) zi⟩
def textF : aw->Bool:=λc=>!(decide ((c.toNat:ae)<32))&&!(decide (126<(c.toNat:ae)))
def zBD (s:ah):Bool:=s.data.toList.all textF&&decide (s.size<=256)
theorem zGf (s:ah)(w:ab)(U:s.size<=ap):
  au ai 121 #[.string s] w λe w'=>e=.returned (.bool (zBD s))/\w=w':=by
 have X:s.size<=9223372036854775807:=by unfold ap at U;omega
 go_enter Tryz.func121,Tryz.ntmps121;go_wp2
 go_loop [6] (λi=>∃ k:E,k<=s.size/\i=.int a1 k/\ag ((s.data.toList.take k).all textF=af)) (λi=>s.size-(b4 i).toNat)
 case atStart=>exact⟨0,by omega,rfl,by unfold ag;simp⟩
 case round=>
  obtain⟨k,Y,rfl,y⟩:=hrel;by_cases F:k<s.size
  .have z:s.data.toList[k]?=G s[k]:=by
    rw[bf];exact cd (by simpa using F)
   have I:=zh z;clear z;obtain⟨q,o⟩:∃ q,q=s[k]:=⟨_,rfl⟩
   have H:ag (textF q=(!(decide ((q.toNat:ae)<32))&&!(decide (126<(q.toNat:ae))))):=(by unfold ag;rfl);have J:=zh o;by_cases u:((q.toNat:E):ae)<32
   .have N:((s[k].toNat:E):ae)<32:=(by rw[<-o];exact u);have A:ag (textF q=al):=(by unfold ag;rw[H.out];simp only[u,decide_true,dm,Bool.false_and]);clear o u;go_wp2;go_ret;exact⟨zL (by unfold zBD;rw[zLz _ _ _ _ I (by rw[<-J];exact A)];rfl),rfl⟩
   .have N:¬ ((s[k].toNat:E):ae)<32:=(by rw[<-o];exact u);by_cases v:126<((q.toNat:E):ae)
    .have O:126<((s[k].toNat:E):ae):=(by rw[<-o];exact v);have A:ag (textF q=al):=(by unfold ag;rw[H.out];simp only[v,decide_true,dm,cu]);clear o u v;go_wp2;go_ret;exact⟨zL (by unfold zBD;rw[zLz _ _ _ _ I (by rw[<-J];exact A)];rfl),rfl⟩
    .have O:¬ 126<((s[k].toNat:E):ae):=(by rw[<-o];exact v);have A:ag (textF q=af):=(by unfold ag;rw[H.out];simp only[u,v,decide_false,Bool.not_false,Bool.and_self]);clear o u v;go_wp2
     go_round
     case rel=>exact⟨k+1,by omega,by go_num,zC2 _ _ _ _ I y (by rw[<-J];exact A)⟩
     case measure=>simp[b4];omega
  .have h:=y.out;rw[cj (by simp;omega)]at h;have V:=zh h;clear h;go_wp2;go_ret;exact⟨zL (by unfold zBD;rw[V.out];simp;omega),rfl⟩
def benB (s t:ah):Bool:=dv t.data.toList (s++⟨#[47]⟩).data.toList
theorem zGh (s u:ah)(w:ab)(o:s.size<=3000000)(v:u.size<=3000000):
  au ai 197 #[.string s,.string u] w λe w'=>e=.returned (.bool (benB s u))/\w=w':=by
 have h:ag (benB s u=dv u.data.toList (s++⟨#[47]⟩).data.toList):=rfl;go_enter Tryz.func197,Tryz.ntmps197;go_wp2_with fail;apply (Tryz.strings_HasPrefix u _ _).mono;rintro e y ⟨rfl,rfl⟩;go_wp2;go_ret;exact⟨zL h.symm,rfl⟩
def namedB (d:Dev):Bool:=isName d.name&&isName d.orig&&isName d.sub&&zBD d.ali
theorem zPG (d:Dev)(w:ab)(hs:Sized d)(hd:d.drv=()):
  au ai 131 #[ar d.vals] w λe w'=>e=.returned (.bool (namedB d))/\Fr No w w':=by
 obtain⟨ix,pa,nm,u,v,dr,y,kd,nu,aa,an,ac⟩:=d;dsimp only at hd;subst hd;obtain⟨s1,s2,s3,-,s5⟩:=hs;have hx:Fr No w (w.alloc (aj (Dev.vals ⟨ix,pa,nm,u,v,(),y,kd,nu,aa,an,ac⟩) 40)):=(Fr.refl _ _).alloc _;have q0:=zF w (aj (Dev.vals ⟨ix,pa,nm,u,v,(),y,kd,nu,aa,an,ac⟩) 40);obtain⟨W0,h⟩:∃ W0,W0=w.alloc (aj (Dev.vals ⟨ix,pa,nm,u,v,(),y,kd,nu,aa,an,ac⟩) 40):=⟨_,rfl⟩
 rw[<-h]at hx q0;unfold Dev.vals at h ⊢;dsimp only at h;obtain⟨z,A⟩:∃ z,z=namedB ⟨ix,pa,nm,u,v,(),y,kd,nu,aa,an,ac⟩:=⟨_,rfl⟩
 rw[<-A];have o:ag (z=(isName nm&&isName u&&isName v&&zBD y)):=A;clear A;obtain⟨I,c1,J,N,O,U,V,X,Y,Z⟩:=DevB.of q0;go_enter Tryz.func131,Tryz.ntmps131;go_upto_region 1 with(fail)
 rw[<-h];clear h;go_wp2_with fail;apply (zAS nm _ s1).mono;rintro e w1 ⟨rfl,a2⟩;have q1:=a2.heap q0 id;have a3:=hx.step a2 zi;clear I c1 J N O U V X Y Z q0;obtain⟨I,c1,J,N,O,U,V,X,Y,Z⟩:=DevB.of q1;rcases hb1:isName nm with _|_
 .have F:ag (z=al):=by unfold ag;rw[o,hb1];rfl
  clear hb1;go_wp2;go_ret;exact⟨zL F.symm,a3⟩
 have H1:=zh hb1;clear hb1;go_wp2_with fail;apply (zAS u _ s2).mono;rintro e w2 ⟨rfl,a4⟩;have q2:=a4.heap q1 id;have a5:=a3.step a4 zi;clear I c1 J N O U V X Y Z q1;obtain⟨I,c1,J,N,O,U,V,X,Y,Z⟩:=DevB.of q2;rcases hb1:isName u with _|_
 .have F:ag (z=al):=by unfold ag;rw[o,hb1,cu];rfl
  clear hb1;go_wp2;go_ret;exact⟨zL F.symm,a5⟩
 have H2:=zh hb1;clear hb1;go_wp2_with fail;apply (zAS v _ s3).mono;rintro e w3 ⟨rfl,a6⟩;have q3:=a6.heap q2 id;have a7:=a5.step a6 zi;clear I c1 J N O U V X Y Z q2;obtain⟨I,c1,J,N,O,U,V,X,Y,Z⟩:=DevB.of q3;rcases hb1:isName v with _|_
 .have F:ag (z=al):=by unfold ag;rw[o,hb1,cu];rfl
  clear hb1;go_wp2;go_ret;exact⟨zL F.symm,a7⟩
 have H3:=zh hb1;clear hb1;go_wp2_with fail;apply (zGf y _ s5).mono;rintro e w4 ⟨rfl,rfl⟩;have F:ag (z=zBD y):=by unfold ag;rw[o,H1,H2,H3];rfl
 go_wp2;go_ret;exact⟨zL F.symm,a7⟩
theorem zPH (d:Dev)(w:ab)(h:d.kind=2):
  au ai 132 #[ar d.vals] w λe w'=>e=.returned (.bool (d.name.toList==d.orig.toList))/\Fr No w w':=by
 obtain⟨u,v,nm,y,z,A,F,U,I,J,N,O⟩:=d;dsimp only at h;subst h;have o:Fr No w (w.alloc (aj (Dev.vals ⟨u,v,nm,y,z,A,F,2,I,J,N,O⟩) 40)):=(Fr.refl _ _).alloc _;unfold Dev.vals at *;dsimp only at o ⊢;go_enter Tryz.func132,Tryz.ntmps132;go_wp2;go_ret;exact⟨rfl,o⟩
theorem zLX (d:Dev)(w:ab)(h:d.kind=2):
  au ai 133 #[ar d.vals] w λe w'=>e=.returned (.bool (decide (1<=d.num)&&decide (d.num<=1073741824)))/\Fr No w w':=by
 obtain⟨u,v,nm,y,z,A,F,V,I,J,N,O⟩:=d;dsimp only at h;subst h;have o:Fr No w (w.alloc (aj (Dev.vals ⟨u,v,nm,y,z,A,F,2,I,J,N,O⟩) 40)):=(Fr.refl _ _).alloc _;unfold Dev.vals at *;dsimp only at o ⊢;have H:ag (numK 2=af):=rfl;go_enter Tryz.func133,Tryz.ntmps133;go_wp2_with fail;apply (zFG _ _).mono;rintro e U ⟨rfl,rfl⟩;rw[H];go_wp2_with fail;apply (zFz _ _ _ _).mono;rintro e U ⟨rfl,rfl⟩;go_wp2;go_ret;exact⟨rfl,o⟩
def SMap (w:ab)(mb:E)(g:ae->ao ah)(N:E):Prop:=
 ∃ (D:DataW Unit) (n:E),n<=N/\w.ownsMap ai 3 (bo ai 9) mb n D/\(∀ x,has D (.int a1 x)=(g x).isSome)/\∀ x,D.atKey (.int a1 x) (.lit (.string []))=.lit (.string ((g x).getD ⟨#[]⟩).data.toList)
def IMap (w:ab)(mb:E)(g:ae->ao ae)(N:E):Prop:=
 ∃ (D:DataW Unit) (n:E),n<=N/\w.ownsMap ai 3 (bo ai 3) mb n D/\(∀ x,has D (.int a1 x)=(g x).isSome)/\∀ x,D.atKey (.int a1 x) (.lit (.int a1 0))=.lit (.int a1 ((g x).getD 0))
theorem SMap.lt (h:SMap w o g N):o<(w:E):=by obtain⟨D,n,_,u,_⟩:=h;exact u.lt
theorem IMap.lt {g:ae->ao ae}(h:IMap w o g N):o<(w:E):=by obtain⟨D,n,_,u,_⟩:=h;exact u.lt
theorem SMap.fr (h:SMap w o g N)(u:Fr S w w')(v:¬ S o):SMap w' o g N:=by
 obtain⟨D,n,y,z,r⟩:=h;exact⟨D,n,y,u.ownsMap z v,r⟩
theorem IMap.fr {g:ae->ao ae}(h:IMap w o g N)(u:Fr S w w')(v:¬ S o):IMap w' o g N:=by
 obtain⟨D,n,y,z,r⟩:=h;exact⟨D,n,y,u.ownsMap z v,r⟩
theorem SMap.made (w:ab):SMap (w.alloc (.map #[] 0)) (w:E) (λ_=>L) 0:=⟨.map [],0,ck _,em _ _ _ _,λ_=>rfl,λ_=>rfl⟩
theorem IMap.made (w:ab):IMap (w.alloc (.map #[] 0)) (w:E) (λ_=>L) 0:=⟨.map [],0,ck _,em _ _ _ _,λ_=>rfl,λ_=>rfl⟩
theorem zeroS (w:ab):(zeroValue 9).run ai w=.ok (.string ()) w:=by kernel_rfl
theorem zeroI (w:ab):(zeroValue 3).run ai w=.ok (.int a1 0) w:=by kernel_rfl
theorem zDe {t:ah}(h:s.data.toList=t.data.toList):s=t:=by
 cases s;cases t;simp only at h
 congr 1
 exact Array.toList_inj.1 h
theorem zHB {w:ab}{u:az am}{h:a0 am}{o:am}{a:ak}{Q:b6->ak->ab->Prop}(O:o.guard=L)(m x:cl)(t:bc)(A:o.op=d5 t m x al)(U:Tryz.prog.underlying t=G (.map 3 9))
  (I:E) (g:ae->ao ah) (N:E) (k:ae) (V:(ba a1 k).wf=af) (X:a.eval m=.map (G I)) (y:SMap w I g N) (Y:a.eval x=.int a1 k)
  (Z:b1 ai u Q h (a.put o.dst (.string ((g k).getD ⟨#[]⟩))) w):b1 ai u Q (o::h) a w:=by
 obtain⟨D,n,_,ho,_,h2⟩:=y;refine wpList_plain O λK' F=>?_
 obtain⟨v,ps,z,hv⟩:=ho.lookup lawI U (zeroS w) (er cn (by unfold ap;show 0<=_;omega)) (dj bz V);obtain⟨s,rfl,J,_⟩:=es cn hv;simp only[Prod.mk.injEq]at J;have e:=(h2 k).symm.trans J.1;obtain rfl:s=(g k).getD ⟨#[]⟩:=zDe (by simpa using e.symm);unfold Oper.wp;simp[b3,A,X,Y,z,Result.andThen];exact F _ _ Z
theorem zEp {w:ab}{u:az am}{h:a0 am}{o:am}{a:ak}{Q:b6->ak->ab->Prop}(I:o.guard=L)(m x:cl)(t:bc)(z:o.op=d5 t m x af)(J:Tryz.prog.underlying t=G (.map 3 9))
  (A:E) (g:ae->ao ah) (N:E) (k:ae) (O:(ba a1 k).wf=af) (U:a.eval m=.map (G A)) (y:SMap w A g N) (V:a.eval x=.int a1 k)
  (X:b1 ai u Q h (a.put o.dst (.tuple #[.string ((g k).getD ⟨#[]⟩),.bool (g k).isSome])) w):b1 ai u Q (o::h) a w:=by
 obtain⟨D,n,_,Y,Z,h2⟩:=y;refine wpList_lookup_own_ok w I m x t z 3 9 lawI J _ (zeroS w) (.lit (.string [])) [] (er cn (by unfold ap;show 0<=_;omega)) A n D U Y _ _ V (dj bz O) (λv ps hv=>?_);obtain⟨s,rfl,F,_⟩:=es cn hv;simp only[Prod.mk.injEq]at F;have e:=(h2 k).symm.trans F.1;obtain rfl:s=(g k).getD ⟨#[]⟩:=zDe (by simpa using e.symm);rw[Z];exact X
theorem zEr {w:ab}{u:az am}{h:a0 am}{o:am}{a:ak}{Q:b6->ak->ab->Prop}(A:o.guard=L)(m x:cl)(t:bc)(y:o.op=d5 t m x af)(F:Tryz.prog.underlying t=G (.map 3 3))
  (z:E) (g:ae->ao ae) (N:E) (k:ae) (I:(ba a1 k).wf=af) (J:a.eval m=.map (G z)) (v:IMap w z g N) (O:a.eval x=.int a1 k)
  (U:b1 ai u Q h (a.put o.dst (.tuple #[.int a1 ((g k).getD 0),.bool (g k).isSome])) w):b1 ai u Q (o::h) a w:=by
 obtain⟨D,n,_,V,X,Y⟩:=v;refine wpList_lookup_own_ok_int w A m x t y 3 3 a1 lawI F bz (zeroI w) z n D J V _ _ O (dj bz I) (λc Z _=>?_);have e:=(Y k).symm.trans Z;obtain rfl:c=(g k).getD 0:=by simpa using e.symm
 rw[X];exact U
def updO {α:Type}(g:ae->ao α)(x:ae)(v:α):ae->ao α:=λy=>if y=x then G v else g y
theorem SMap.put {v:ab}{h:E}{n:E}(I:n<=N)(z:w.ownsMap ai 3 (bo ai 9) h n D)(A:∀ x,has D (.int a1 x)=(g x).isSome)(F:∀ x,D.atKey (.int a1 x) (.lit (.string []))=.lit (.string ((g x).getD ⟨#[]⟩).data.toList))
  (x:ae) (s:ah) (o:v.ownsMap ai 3 (bo ai 9) h (n+1) (D.put (.int a1 x) (.lit (.string s.data.toList)))):SMap v h (updO g x s) (N+1):=by
 refine⟨_,n+1,by omega,o,λy=>?_,λy=>?_⟩
 .unfold updO;split;·rename_i e;subst e;rw[has_put_same z.isMap (zCk _) _];rfl
  .rename_i e;rw[has_put_other (by intro u;exact e (by simpa using u))];exact A y
 .unfold updO;split;·rename_i e;subst e;rw[atKey_put_same z.isMap (zCk _) _ _];rfl
  .rename_i e;rw[ep (by intro u;exact e (by simpa using u))];exact F y
theorem IMap.put {z:ab}{h:E}{n:E}{g:ae->ao ae}(J:n<=N)(A:w.ownsMap ai 3 (bo ai 3) h n D)(F:∀ x,has D (.int a1 x)=(g x).isSome)(I:∀ x,D.atKey (.int a1 x) (.lit (.int a1 0))=.lit (.int a1 ((g x).getD 0)))
  (x v:ae) (o:z.ownsMap ai 3 (bo ai 3) h (n+1) (D.put (.int a1 x) (.lit (.int a1 v)))):IMap z h (updO g x v) (N+1):=by
 refine⟨_,n+1,by omega,o,λy=>?_,λy=>?_⟩
 .unfold updO;split;·rename_i e;subst e;rw[has_put_same A.isMap (zCk _) _];rfl
  .rename_i e;rw[has_put_other (by intro u;exact e (by simpa using u))];exact F y
 .unfold updO;split;·rename_i e;subst e;rw[atKey_put_same A.isMap (zCk _) _ _];rfl
  .rename_i e;rw[ep (by intro u;exact e (by simpa using u))];exact I y
end Go.Proofs.YtifphhgcelkflaaGreatDoor
