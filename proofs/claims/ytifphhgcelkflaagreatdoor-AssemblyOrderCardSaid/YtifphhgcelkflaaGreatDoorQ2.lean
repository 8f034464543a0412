import Derived.Test.YtifphhgcelkflaaGreatDoorQ1
import Derived.Laws.AppendOwnNone
import Derived.Lib.SliceRun
import Derived.Test.YtifphhgcelkflaaGreatDoorStrs2
namespace Go.Proofs.YtifphhgcelkflaaGreatDoor
open Go.RowKit Go.Maps
set_option linter.unusedVariables false
set_option maxRecDepth 100000
set_option maxHeartbeats 2000000
open And renaming intro->bz
open Atts renaming nil->ch
open Dev renaming vals->ap,zero->ax,index->ci
open Fr renaming refl->ai,setAt->ay,of_grown_some->bu,of_below_size->cd
open Go renaming World->ag,Calls->al,Addr->am,Value->ar,bodyPost_ret->av,results->aw,maxLen->bd,Ending->bn,TypeId->bx,wpList_mapUpdate_own->dy
open Go.Lib renaming hasPrefix->az,joinTail->bi,atoiAll->bo,decDigits->br,join->bv,trimPrefix->cj,join_cons->ct
open Go.Lit renaming int->cf
open Go.Proofs renaming intOf->au
open Go.Proofs.Tryz renaming prog->aj,results61->cg,func206->cn,ntmps206->co,func33->di,func61->dj,func87->dk,ntmps33->dl,ntmps61->dm,ntmps87->dn,results156->dp,results200->dq,results25->dr,results47->dt,results75->du,underlying3->dw,underlying38->dx
open Go.RowKit renaming Hid->ab
open Go.WalkArith renaming wf_i64->cp
open Go.World renaming cell?->bs,size_alloc->bt
open IntKind renaming i64->M
open Obj renaming cells->D
open Value renaming string->G,int->L,slice->R,agg->ah,pointer->aq
open _root_ renaming Nat->K,ByteArray->a1,List->ae,Int->af,Option->ak,Bool->ba,if_neg->bm,Array->bp,absurd->bq
open _root_.Array renaming getElem?_toList->cq
open _root_.Bool renaming false->a0,true->ao
open _root_.ByteArray renaming empty->ca,size->cr
open _root_.List renaming take_of_length_le->bc,getElem?_eq_getElem->be,mem_of_getElem?->bf,take_add_one->bg,toArray->bj,eq_nil_of_length_eq_zero->bw,getElem_map->ce,find?->ck,getElem_mem->cl,length_append->cm,find?_cons->cv,find?_eq_none->cw,flatten_cons->cx,foldl_append->cy,getElem?_take_of_lt->cz,length_cons->da,length_nil->db,map_cons->dc,size_toArray->dd,take_sublist->de
open _root_.List.Sublist renaming map->cu
open _root_.Nat renaming le_refl->bh,zero_add->df
open _root_.Option renaming none->C,some->E,getD_some->dh
variable{w W w':ag}{o y u v z A F I J N:ar}{a:ak am}{e T:bx}{b k:K}{l:ae (a1×a1)}{S:K->Prop}{d p:Dev}{ds:ae Dev}{t:ae ar}{cs:bp ar}

theorem zx {P:Program}{w:ag}{Z:bp Oper}{U:ae Oper}{o:Oper}{a:Act}{Q:Exit->Act->ag->Prop}(a2:o.guard=C)(s x:Operand)(t:bx)
  (ho:o.op=.call { callee:=.builtin .append,args:=#[s,x],argTypes:=#[t,t] })
  (I:K) (e:bx) (i:TypeInfo) (z:ar) (y J:K) (ht:P.underlying t=E (.slice e)) (hi:P.info? e=E i) (hz:i.zero=E z)
  (V:i.size=y) (a3:i.bytes=J) (a4:z.cells.size=y) (a5:0<y)
  (v:ar) (n:K) (xs:ae ar) (hs:a.eval s=v) (N:w.ownsRow I e y v n xs)
  (A:ak am) (m c:K) (F:ae ar) (hx:a.eval x=R A m c) (hA:A=C->m=0/\c=0) (hl:F.length=m*y)
  (X:∀ ad,A=E ad->∀ j u,F[j]?=E u->w.cell? (ad.add j)=E u) (h1:∀ u∈F,u.oneCell'=ao)
  (a6:n+m<=bd) (O:(n+m)*J<=140737488355328) (Y:I<=(w:K))
  (h:∀ v' w',w'.ownsRow I e y v' (n+m) (xs++F)->w.grownBy w' v.ownBlock->wpList P Z Q U (a.put o.dst v') w'):wpList P Z Q (o::U) a w:=by
 cases A with
 | none=>
  obtain⟨rfl,rfl⟩:=hA rfl;have hn:F=[]:=bw (by simpa using hl);subst hn;exact wpList_append_own_none a2 s x t ho I e i y ht hi v n xs hs N hx (h v w (by simpa using N) (World.grownBy.refl w _))
 | some ad=>
  exact wpList_append_own w a2 s x t ho I e i z y J ht hi hz V a3 a4 a5 v n xs hs N ad m c F hx hl (X ad rfl) h1 a6 O Y (λv' w' h2 h3 _=>h v' w' h2 h3)
theorem zE3 {y:ag}{o:K}{u:K}{n:K}{z:ae ar}(h:W.ownsRow o e u v n z)(A:W.grownBy y v.ownBlock):Fr (From o) W y:=
 (Fr.of_grown A).mono (λb _ e=>zQ h e)
section
variable {w W W':ag}{a:ak am}{n cap:K}{d:Dev}
end
def zAD : ae a1:=[
 (),
 ⟨#[102,115,58,102,58]⟩,
 ⟨#[102,115,58,103,58,76]⟩,
 ⟨#[114,97,105,100,58,114,58,49,47,50,47,49,40,102,115,58,102,58,41]⟩,
 ⟨#[114,97,105,100,58,114,58,50,47,50,47,49,40,102,115,58,102,58,41]⟩,
 ⟨#[99,114,121,112,116,58,99,40,102,115,58,103,58,41]⟩,
 ⟨#[112,118,58,118,58,49,47,49,40,102,115,58,102,58,44,99,114,121,112,116,58,99,40,102,115,58,104,58,41,41]⟩,
 ⟨#[116,97,98,108,101,58,116,40,102,115,58,102,58,44,99,114,121,112,116,58,99,40,114,97,105,100,58,114,58,49,47,50,47,49,40,102,115,58,120,58,41,41,41]⟩,
 ⟨#[116,97,98,108,101,58,116,40,114,97,105,100,58,114,58,49,47,50,47,49,40,116,97,98,108,101,58,117,40,102,115,58,102,58,41,41,44,114,97,105,100,58,114,58,50,47,50,47,49,40,116,97,98,108,101,58,117,40,102,115,58,102,58,41,41,41]⟩,
 ⟨#[114,97,105,100,58,114,58,49,47,49,47,49,40,114,97,105,100,58,114,58,49,47,49,47,49,40,102,115,58,102,58,41,41]⟩,
 ⟨#[112,118,58,118,58,49,47,50,40,102,115,58,102,58,41]⟩,
 ⟨#[112,118,58,118,58,50,47,50,40,102,115,58,102,58,41]⟩,
 ⟨#[99,114,121,112,116,58,100,40,112,118,58,118,58,49,47,49,40,114,97,105,100,58,115,58,49,47,51,47,50,40,102,115,58,121,58,41,41,41]⟩,
 ⟨#[114,97,105,100,58,115,58,50,47,51,47,50,40,102,115,58,121,58,41]⟩,
 ⟨#[114,97,105,100,58,115,58,51,47,51,47,50,40,102,115,58,121,58,41]⟩,
 ⟨#[110,111,110,115,101,110,115,101]⟩]
theorem zA9: zAD.length=16:=rfl
theorem Strs.of_block {l:ae a1}{o:K×K}(h:w.heap[b]?=E (D (l.map Value.string).toArray T o))(u:l.length<=bd):Strs w (E ⟨b,0,C⟩) l.length l:=by
 refine⟨bh _,u,(λe=>by cases e),λz e v=>?_⟩;cases e;refine⟨rfl,zC h,λi x y=>?_⟩;rw[zB h];simp[y]
section
variable {w W W':ag}{B tb:K}{a:ak am}{n cap Bd:K}{i:af}{k:K}{d:Dev}{l:ae (a1×a1)}
end
theorem Fr.swap {T:K->Prop}(w:ag)(o v:Obj)(h:T (w:K)):Fr T (w.alloc o) (w.alloc v):=by
 have y:Fr No w (w.alloc o):=(ai _ _).alloc _;have z:Fr No w (w.alloc v):=(ai _ _).alloc _;refine⟨rfl,rfl,rfl,by simp,λk A F=>?_⟩;have u:k<(w:K):=by
  rw[bt]at A;by_cases e:k=(w:K);·subst e;exact bq h F
  .omega
 exact(z.block k u id).trans (y.block k u id).symm
structure ElOk (W:ag)(base:K)(d:Dev):Prop where
 sz:Sized d
 drv:d.drv=()
 att:∃ l,Atts W d.aa d.ac l/\d.an=l.length/\l.length<=24
 fresh:∀ ad,d.aa=E ad->base<=ad.block
structure Tr (W:ag)(base:K)(a:ak am)(cap:K)(ds:ae Dev):Prop where
 dv:Devs W a cap ds
 wf:TreeWf ds
 fresh:∀ ad,a=E ad->base<=ad.block
 el:∀ d∈ds,ElOk W base d
theorem ElOk.fr {u:ag}{o:K}(h:ElOk W o d)(v:Fr S W u)(y:∀ b,o<=b->¬ S b):ElOk u o d:=by
 obtain⟨l,z,A⟩:=h.att;exact⟨h.sz,h.drv,⟨l,z.fr v (λF e _=>y _ (h.fresh F e)),A⟩,h.fresh⟩
theorem Tr.fr {v:ag}{o:K}{u:K}(h:Tr W o a u ds)(y:Fr S W v)(z:∀ b,o<=b->¬ S b):Tr v o a u ds:=
 ⟨h.dv.fr y (λA e _=>z _ (h.fresh A e)),h.wf,h.fresh,λd F=>(h.el d F).fr y z⟩
theorem Tr.no {v:ag}{o:K}{u:K}(h:Tr W o a u ds)(y:Fr No W v):Tr v o a u ds:=h.fr y (λ_ _=>id)
theorem Tr.nil (W:ag)(o:K):Tr W o C 0 []:=⟨Devs.nil W,TreeWf.nil,(λ_ e=>by cases e),(λd h=>by simp at h)⟩
section
variable {w W W':ag}{B tb k:K}{a:ak am}{cap:K}{ds:ae Dev}
end
theorem Tr.keep {X:ag}{o:K}{v:K}(h:Tr X o a v ds)(A:Fr S X W)(F:∀ b,b<(X:K)->o<=b->¬ S b):Tr W o a v ds:=by
 refine⟨h.dv.fr A (λy e u=>F _ (h.dv.cell y e u).2.1 (h.fresh y e)),h.wf,h.fresh,λd J=>?_⟩;have z:=h.el d J;obtain⟨l,I,N⟩:=z.att;exact⟨z.sz,z.drv,⟨l,I.fr A (λy e u=>F _ (I.cell y e u).2.1 (z.fresh y e)),N⟩,z.fresh⟩
theorem Tape.make {o:K}{l:ae af}(h:Ints w a o l)(T:bx):
  Tape (w.alloc (D #[R a l.length o,L M 0] T)) (w:K) (w:K) 0:=
 ⟨a,o,l,T,h.fr ((ai No _).alloc _) (λ_ _ _ h=>h),λv e u=>(h.cell v e u).2.1,bh _,zF _ _⟩
theorem cl2 {v:K×K}(h:W.heap[b]?=E (D (bj (o::u::t)) T v)):W.cell? ⟨b,0,C⟩=E o/\W.cell? ⟨b,1,C⟩=E u:=⟨zB h 0,zB h 1⟩
theorem fl2 (h:W.heap[b]?=E (D cs T)):W.frozen? ⟨b,0,C⟩=a0/\W.frozen? ⟨b,1,C⟩=false:=⟨zD h 0,zD h 1⟩
theorem cl3 {y:K×K}(h:W.heap[b]?=E (D (bj (o::u::v::t)) T y)):W.cell? ⟨b,0,C⟩=E o/\W.cell? ⟨b,1,C⟩=E u/\W.cell? ⟨b,2,C⟩=E v:=⟨zB h 0,zB h 1,zB h 2⟩
theorem fl3 (h:W.heap[b]?=E (D cs T)):W.frozen? ⟨b,0,C⟩=a0/\W.frozen? ⟨b,1,C⟩=a0/\W.frozen? ⟨b,2,C⟩=false:=⟨zD h 0,zD h 1,zD h 2⟩
theorem cl4 {z:K×K}(h:W.heap[b]?=E (D (bj (o::u::v::y::t)) T z)):W.cell? ⟨b,0,C⟩=E o/\W.cell? ⟨b,1,C⟩=E u/\W.cell? ⟨b,2,C⟩=E v/\W.cell? ⟨b,3,C⟩=E y:=⟨zB h 0,zB h 1,zB h 2,zB h 3⟩
theorem fl4 (h:W.heap[b]?=E (D cs T)):W.frozen? ⟨b,0,C⟩=a0/\W.frozen? ⟨b,1,C⟩=a0/\W.frozen? ⟨b,2,C⟩=a0/\W.frozen? ⟨b,3,C⟩=false:=⟨zD h 0,zD h 1,zD h 2,zD h 3⟩
theorem cl5 {A:K×K}(h:W.heap[b]?=E (D (bj (o::u::v::y::z::t)) T A)):W.cell? ⟨b,0,C⟩=E o/\W.cell? ⟨b,1,C⟩=E u/\W.cell? ⟨b,2,C⟩=E v/\W.cell? ⟨b,3,C⟩=E y/\W.cell? ⟨b,4,C⟩=E z:=⟨zB h 0,zB h 1,zB h 2,zB h 3,zB h 4⟩
theorem fl5 (h:W.heap[b]?=E (D cs T)):W.frozen? ⟨b,0,C⟩=a0/\W.frozen? ⟨b,1,C⟩=a0/\W.frozen? ⟨b,2,C⟩=a0/\W.frozen? ⟨b,3,C⟩=a0/\W.frozen? ⟨b,4,C⟩=false:=⟨zD h 0,zD h 1,zD h 2,zD h 3,zD h 4⟩
theorem cl6 {F:K×K}(h:W.heap[b]?=E (D (bj (o::u::v::y::z::A::t)) T F)):W.cell? ⟨b,0,C⟩=E o/\W.cell? ⟨b,1,C⟩=E u/\W.cell? ⟨b,2,C⟩=E v/\W.cell? ⟨b,3,C⟩=E y/\W.cell? ⟨b,4,C⟩=E z/\W.cell? ⟨b,5,C⟩=E A:=⟨zB h 0,zB h 1,zB h 2,zB h 3,zB h 4,zB h 5⟩
theorem fl6 (h:W.heap[b]?=E (D cs T)):W.frozen? ⟨b,0,C⟩=a0/\W.frozen? ⟨b,1,C⟩=a0/\W.frozen? ⟨b,2,C⟩=a0/\W.frozen? ⟨b,3,C⟩=a0/\W.frozen? ⟨b,4,C⟩=a0/\W.frozen? ⟨b,5,C⟩=false:=⟨zD h 0,zD h 1,zD h 2,zD h 3,zD h 4,zD h 5⟩
theorem cl7 {I:K×K}(h:W.heap[b]?=E (D (bj (o::u::v::y::z::A::F::t)) T I)):W.cell? ⟨b,0,C⟩=E o/\W.cell? ⟨b,1,C⟩=E u/\W.cell? ⟨b,2,C⟩=E v/\W.cell? ⟨b,3,C⟩=E y/\W.cell? ⟨b,4,C⟩=E z/\W.cell? ⟨b,5,C⟩=E A/\W.cell? ⟨b,6,C⟩=E F:=⟨zB h 0,zB h 1,zB h 2,zB h 3,zB h 4,zB h 5,zB h 6⟩
theorem fl7 (h:W.heap[b]?=E (D cs T)):W.frozen? ⟨b,0,C⟩=a0/\W.frozen? ⟨b,1,C⟩=a0/\W.frozen? ⟨b,2,C⟩=a0/\W.frozen? ⟨b,3,C⟩=a0/\W.frozen? ⟨b,4,C⟩=a0/\W.frozen? ⟨b,5,C⟩=a0/\W.frozen? ⟨b,6,C⟩=false:=⟨zD h 0,zD h 1,zD h 2,zD h 3,zD h 4,zD h 5,zD h 6⟩
theorem cl8 {J:K×K}(h:W.heap[b]?=E (D (bj (o::u::v::y::z::A::F::I::t)) T J)):W.cell? ⟨b,0,C⟩=E o/\W.cell? ⟨b,1,C⟩=E u/\W.cell? ⟨b,2,C⟩=E v/\W.cell? ⟨b,3,C⟩=E y/\W.cell? ⟨b,4,C⟩=E z/\W.cell? ⟨b,5,C⟩=E A/\W.cell? ⟨b,6,C⟩=E F/\W.cell? ⟨b,7,C⟩=E I:=⟨zB h 0,zB h 1,zB h 2,zB h 3,zB h 4,zB h 5,zB h 6,zB h 7⟩
theorem cl10 {O:K×K}(h:W.heap[b]?=E (D (bj (o::u::v::y::z::A::F::I::J::N::t)) T O)):W.cell? ⟨b,0,C⟩=E o/\W.cell? ⟨b,1,C⟩=E u/\W.cell? ⟨b,2,C⟩=E v/\W.cell? ⟨b,3,C⟩=E y/\W.cell? ⟨b,4,C⟩=E z/\W.cell? ⟨b,5,C⟩=E A/\W.cell? ⟨b,6,C⟩=E F/\W.cell? ⟨b,7,C⟩=E I/\W.cell? ⟨b,8,C⟩=E J/\W.cell? ⟨b,9,C⟩=E N:=⟨zB h 0,zB h 1,zB h 2,zB h 3,zB h 4,zB h 5,zB h 6,zB h 7,zB h 8,zB h 9⟩
theorem fl10 (h:W.heap[b]?=E (D cs T)):W.frozen? ⟨b,0,C⟩=a0/\W.frozen? ⟨b,1,C⟩=a0/\W.frozen? ⟨b,2,C⟩=a0/\W.frozen? ⟨b,3,C⟩=a0/\W.frozen? ⟨b,4,C⟩=a0/\W.frozen? ⟨b,5,C⟩=a0/\W.frozen? ⟨b,6,C⟩=a0/\W.frozen? ⟨b,7,C⟩=a0/\W.frozen? ⟨b,8,C⟩=a0/\W.frozen? ⟨b,9,C⟩=false:=⟨zD h 0,zD h 1,zD h 2,zD h 3,zD h 4,zD h 5,zD h 6,zD h 7,zD h 8,zD h 9⟩
theorem cl12 {O U:ar}{V:K×K}(h:W.heap[b]?=E (D (bj (v::y::z::A::F::I::J::N::O::U::o::u::t)) T V)):W.cell? ⟨b,0,C⟩=E v/\W.cell? ⟨b,1,C⟩=E y/\W.cell? ⟨b,2,C⟩=E z/\W.cell? ⟨b,3,C⟩=E A/\W.cell? ⟨b,4,C⟩=E F/\W.cell? ⟨b,5,C⟩=E I/\W.cell? ⟨b,6,C⟩=E J/\W.cell? ⟨b,7,C⟩=E N/\W.cell? ⟨b,8,C⟩=E O/\W.cell? ⟨b,9,C⟩=E U/\W.cell? ⟨b,10,C⟩=E o/\W.cell? ⟨b,11,C⟩=E u:=⟨zB h 0,zB h 1,zB h 2,zB h 3,zB h 4,zB h 5,zB h 6,zB h 7,zB h 8,zB h 9,zB h 10,zB h 11⟩
theorem fl12 (h:W.heap[b]?=E (D cs T)):W.frozen? ⟨b,0,C⟩=a0/\W.frozen? ⟨b,1,C⟩=a0/\W.frozen? ⟨b,2,C⟩=a0/\W.frozen? ⟨b,3,C⟩=a0/\W.frozen? ⟨b,4,C⟩=a0/\W.frozen? ⟨b,5,C⟩=a0/\W.frozen? ⟨b,6,C⟩=a0/\W.frozen? ⟨b,7,C⟩=a0/\W.frozen? ⟨b,8,C⟩=a0/\W.frozen? ⟨b,9,C⟩=a0/\W.frozen? ⟨b,10,C⟩=a0/\W.frozen? ⟨b,11,C⟩=false:=⟨zD h 0,zD h 1,zD h 2,zD h 3,zD h 4,zD h 5,zD h 6,zD h 7,zD h 8,zD h 9,zD h 10,zD h 11⟩
def stepO (g:af->ak a1)(d:Dev):af->ak a1:=updO g d.index ((g d.parent).getD ⟨#[]⟩++⟨#[47]⟩++d.orig)
def ogs (l:ae Dev):af->ak a1:=l.foldl stepO (λ_=>C)
def pathOf (l:ae a1):a1:=l.foldl (λs x=>s++⟨#[47]⟩++x) ()
def plcs (ds:ae Dev)(k:K):af->ak af:=λn=>(look (ds.take k) n).map λ_=>place ds n
theorem zFg (l:ae Dev)(d:Dev):ogs (l++[d])=stepO (ogs l) d:=by unfold ogs;rw[cy];rfl
theorem zCA {ds:ae Dev}(h:∀ d∈ds,d.orig.size<=32):∀ (k:K) (n:af),((ogs (ds.take k) n).getD ⟨#[]⟩).size<=33*k
 | 0,n=>by show (ByteArray.mk #[]).size<=_;exact Nat.zero_le _
 | k+1,n=>by
  by_cases o:k<ds.length
  .have e:ds.take (k+1)=ds.take k++[ds[k]]:=by rw[bg,be o];rfl
   have v:=zCA h k ds[k].parent;have u:=zCA h k n;have y:=h ds[k] (cl o);rw[e,zFg];unfold stepO updO;split
   .simp only[dh,ByteArray.size_append];have:(⟨#[47]⟩:a1).size=1:=rfl;omega
   .omega
  .have u:=zCA h k n;rw[bc (by omega)]at u ⊢;omega
theorem zGk (y:(ds.map ci).Nodup)(z:ds[k]?=E d)(n:af):look (ds.take (k+1)) n=if n=d.index then E d else look (ds.take k) n:=by
 have e:ds.take (k+1)=ds.take k++[d]:=by rw[bg,z];rfl
 have o:((ds.take k++[d]).map ci).Nodup:=by rw[<-e];exact(cu _ (de _ _)).nodup y
 rw[e];unfold look;rw[List.find?_append];by_cases u:n=d.index
 .rw[if_pos u];have:(ds.take k).find? (λx=>decide (x.index=n))=none:=by
   rw[cw];intro x A v;simp only[decide_eq_true_eq]at v;rw[List.map_append,List.nodup_append]at o;exact o.2.2 x.index (List.mem_map_of_mem A) d.index (by simp) (by rw[v,u])
  rw[this];simp[u]
 .rw[bm u];have:([d].find? (λx=>decide (x.index=n)))=none:=by simp;exact λh=>u h.symm
  rw[this];simp
theorem zKj (y:TreeOk ds)(o:ds[k]?=E d):plcs ds (k+1)=updO (plcs ds k) d.index (k:af):=by
 funext n
 unfold plcs updO;rw[zGk y.nd o];split
 .rename_i e;subst e;rcases zAv ds d.index with⟨u,I⟩|⟨j,x,u,I,z⟩
  .rw[y.lk (bf o)]at u;cases u
  .rw[y.lk (bf o)]at u;cases u;rw[I];have A:j<ds.length:=(List.getElem?_eq_some_iff.1 z).1;have F:k<ds.length:=(List.getElem?_eq_some_iff.1 o).1;have J:=List.pairwise_iff_getElem.1 y.nd;have N:ds[j].index=ds[k].index:=by
    rw[be A]at z;rw[be F]at o;rw[Option.some.inj z,Option.some.inj o]
   rcases Nat.lt_trichotomy j k with h|rfl|h
   .have v:=J j k (by simpa using A) (by simpa using F) h;rw[ce,ce]at v;exact bq N v
   .rfl
   .have v:=J k j (by simpa using F) (by simpa using A) h;rw[ce,ce]at v;exact bq N.symm v
 .rfl
theorem zIS {ds:ae Dev}(h:TreeOk ds):∀ (k:K),k<=ds.length->∀ n,ogs (ds.take k) n=(look (ds.take k) n).map λ_=>pathOf (origin ds n)
 | 0,_,n=>by simp[ogs,look]
 | k+1,Y,n=>by
  have o:k<ds.length:=by omega
  have u:ds[k]?=E ds[k]:=be o;have e:ds.take (k+1)=ds.take k++[ds[k]]:=by rw[bg,u];rfl
  have z:=zIS h k (by omega);rw[zGk h.nd u,e,zFg];unfold stepO updO;split
  .rename_i F;have I:pathOf (origin ds n)=pathOf (origin ds ds[k].parent)++⟨#[47]⟩++ds[k].orig:=by
    rw[F,h.origin_cons (h.lk (cl o))];unfold pathOf;rw[cy];rfl
   have J:(ogs (ds.take k) ds[k].parent).getD ⟨#[]⟩=pathOf (origin ds ds[k].parent):=by
    rw[z];rcases h.pa k _ u with A|⟨j,f,N,O,v⟩
    .have U:look (ds.take k) ds[k].parent=none:=by
      rw[A,zu];intro x V e;have:=(h.ix x (List.mem_of_mem_take V)).1;omega
     rw[U,A,TreeOk.origin_none h.zero];rfl
    .have X:f∈ds.take k:=by
      have:(ds.take k)[j]?=E f:=(by rw[cz N];exact O);exact bf this
     have y:((ds.take k).map ci).Nodup:=(cu _ (de _ _)).nodup h.nd;have:=zv y X;rw[v]at this;rw[this];rfl
   rw[J,I];rfl
  .exact z n
theorem TreeOk.pwf (h:TreeOk ds)(o:d∈ds):(cf M d.parent).wf=true:=by
 obtain⟨k,u⟩:=List.getElem?_of_mem o;rcases h.pa k d u with v|⟨j,e,_,y,z⟩
 .rw[v];decide
 .rw[<-z];have:=h.ix e (bf y);exact cp (by omega)
theorem TreeOk.iwf (h:TreeOk ds)(o:d∈ds):(cf M d.index).wf=true:=by
 have:=h.ix d o;exact cp (by omega)
def ViewAt (w w':ag)(a:ak am)(cap:K)(ds:ae Dev)(e:bn):Prop:=
 ∃ m1 m2,e=.returned (ah #[R a ds.length cap,.map (E m1),.map (E m2)])/\(w:K)<=m1/\(w:K)<=m2/\m1≠m2/\IMap w' m1 (plcs ds ds.length) ds.length/\SMap w' m2 (ogs ds) ds.length
def Two2 (x y:K):K->Prop:=λb=>b=x\/b=y
theorem zCX (a:ak am)(o:K)(ds:ae Dev)(w:ag)(hl:Devs w a o ds)(hT:TreeOk ds)(hn:ds.length<=1000):
  al aj 60 #[ah #[.slice a ds.length o]] w λe w'=>ViewAt w w' a o ds e/\Fr No w w':=by
 have e8:=@run_makeMap aj;have hm:=hl.lenmax;go_enter Tryz.func60,Tryz.ntmps60;go_wp2_with fail;have y:=zh hT;have Hn:=zh hn;clear hT hn;go_loopw [15] (λi wr=>∃ k:K,k<=ds.length/\i=.int M k/\IMap wr ((w:K)+1+1) (plcs ds k) k/\SMap wr ((w:K)+1+1+1) (ogs (ds.take k)) k/\
  wr.heap[(w:K)+1+1+1+1]?=E (D #[.slice a ds.length o,.map (E ((w:K)+1+1)),.map (E ((w:K)+1+1+1))] 112)/\
  wr.heap[(w:K)+1]?=E (D #[.slice C 0 0,.map C,.map C] 112)/\Fr No w wr) (λi _=>ds.length-(au i).toNat)
 case atStart=>
  have s1:(w.alloc (D #[.slice a ds.length o] 53)).heap.size=(w:K)+1:=by simp
  have s2:((w.alloc (D #[.slice a ds.length o] 53)).alloc (D #[.slice C 0 0,.map C,.map C] 112)).heap.size=(w:K)+1+1:=by simp
  have s3:(((w.alloc (D #[.slice a ds.length o] 53)).alloc (D #[.slice C 0 0,.map C,.map C] 112)).alloc (.map #[] 0)).heap.size=(w:K)+1+1+1:=by simp
  have s4:((((w.alloc (D #[.slice a ds.length o] 53)).alloc (D #[.slice C 0 0,.map C,.map C] 112)).alloc (.map #[] 0)).alloc (.map #[] 0)).heap.size=(w:K)+1+1+1+1:=by simp
  refine⟨0,by omega,rfl,?_,?_,?_,?_,?_⟩
  .have h:=IMap.made ((w.alloc (D #[.slice a ds.length o] 53)).alloc (D #[.slice C 0 0,.map C,.map C] 112));rw[s2]at h;exact(h.fr ((ai No _).alloc (.map #[] 0)) id).fr ((ai No _).alloc (D #[.slice a ds.length o,.map (E ((w:K)+1+1)),.map (E ((w:K)+1+1+1))] 112)) id
  .have h:=SMap.made (((w.alloc (D #[.slice a ds.length o] 53)).alloc (D #[.slice C 0 0,.map C,.map C] 112)).alloc (.map #[] 0));rw[s3]at h;exact h.fr ((ai No _).alloc (D #[.slice a ds.length o,.map (E ((w:K)+1+1)),.map (E ((w:K)+1+1+1))] 112)) id
  .have h:=zF ((((w.alloc (D #[.slice a ds.length o] 53)).alloc (D #[.slice C 0 0,.map C,.map C] 112)).alloc (.map #[] 0)).alloc (.map #[] 0)) (D #[.slice a ds.length o,.map (E ((w:K)+1+1)),.map (E ((w:K)+1+1+1))] 112);rw[s4]at h;exact h
  .have h:=zF (w.alloc (D #[.slice a ds.length o] 53)) (D #[.slice C 0 0,.map C,.map C] 112);rw[s1]at h;exact((((ai No _).alloc (.map #[] 0)).alloc (.map #[] 0)).alloc (D #[.slice a ds.length o,.map (E ((w:K)+1+1)),.map (E ((w:K)+1+1+1))] 112)).heap h id
  .repeat (first|exact ai _ _|refine Fr.alloc ?_ _)
 case round=>
  obtain⟨k,hk,rfl,hI,Z,X,Y,z⟩:=hrel;have v0:wr.cell? ⟨(w:K)+1+1+1+1,0,C⟩=E (.slice a ds.length o):=by simp[bs,X]
  have v1:wr.cell? ⟨(w:K)+1+1+1+1,1,C⟩=E (.map (E ((w:K)+1+1))):=by simp[bs,X]
  have v2:wr.cell? ⟨(w:K)+1+1+1+1,2,C⟩=E (.map (E ((w:K)+1+1+1))):=by simp[bs,X]
  have r0:wr.cell? ⟨(w:K)+1,0,C⟩=E (.slice C 0 0):=by simp[bs,Y]
  have r1:wr.cell? ⟨(w:K)+1,1,C⟩=E (.map C):=by simp[bs,Y]
  have r2:wr.cell? ⟨(w:K)+1,2,C⟩=E (.map C):=by simp[bs,Y]
  obtain⟨q0,q1,q2⟩:=fl3 Y;by_cases a2:k<ds.length
  .have e6:(k:af)<ds.length:=by omega
   obtain⟨bb,e9,d,rfl,hd,c0,c1,c2,c3,c4,c5,c6,c7,c8,c9⟩:=(hl.no z (λ_=>id)).dev a2;have Hd:=zh hd;have b3:=y.pwf (bf hd);have b4:=y.iwf (bf hd);have g0:=zCA y.sz k d.parent;have g1:=y.sz d (bf hd);have g2:=Hn.out;clear hd;have I:=Z.fr ((ai No _).alloc (D #[.int M d.index,.int M d.parent,.string d.name,.string d.orig,.string d.sub,.string d.drv,.string d.ali,.int M d.kind,.int M d.num,.slice d.aa d.an d.ac] 40)) id;have J:Fr No wr (wr.alloc (D #[.int M d.index,.int M d.parent,.string d.name,.string d.orig,.string d.sub,.string d.drv,.string d.ali,.int M d.kind,.int M d.num,.slice d.aa d.an d.ac] 40)):=(ai No _).alloc _;have a3:=J.cell v1 id;have a4:=J.cell v2 id;have b5:=zh (z.step J zi);have b6:=zh (J.heap X id);have b7:=zh (J.heap Y id);have a5:=hI.fr J id;have b8:(Tryz.prog.info? 40).isSome=true:=(by kernel_rfl);clear J b8;go_wp2_with (at_lookup;refine zHB rfl _ _ 110 rfl rfl ((w:K)+1+1+1) _ k d.parent b3 rfl I rfl ?_)
   refine zO (Two2 ((w:K)+1+1) ((w:K)+1+1+1)) [(0,a0),(1,a0),(2,a0),(3,a0),(4,a0),(5,a0),(6,a0),(7,a0),(8,a0),(9,a0),(10,ao),(11,ao)] (by kernel_rfl) (by kernel_rfl) (λw0 u=>?_);have b9:=a5.fr u id;have d0:=I.fr u id;have A:=b5.step u zi;have e7:(w:K)+1+1+1+1<(wr:K):=zC X;have d1:∀ g:Gr (Two2 ((w:K)+1+1) ((w:K)+1+1+1)) w0,g.W.cell? ⟨(w:K)+1+1+1+1,1,C⟩=E (.map (E ((w:K)+1+1))):=λg=>g.fr.cell (u.cell a3 id) (λh=>by unfold Two2 at h;dsimp only at h;omega)
   have d2:∀ g:Gr (Two2 ((w:K)+1+1) ((w:K)+1+1+1)) w0,g.W.cell? ⟨(w:K)+1+1+1+1,2,C⟩=E (.map (E ((w:K)+1+1+1))):=λg=>g.fr.cell (u.cell a4 id) (λh=>by unfold Two2 at h;dsimp only at h;omega)
   have d5:∀ g:Gr (Two2 ((w:K)+1+1) ((w:K)+1+1+1)) w0,g.W.cell? ⟨wr,0,C⟩=E (.int M d.index):=λg=>g.fr.cell (u.cell (by rw[zB (zF _ _)];rfl) id) (λh=>by unfold Two2 at h;dsimp only at h;omega)
   have d3:=zh (u.heap b6 id);have d4:=zh (u.heap b7 id);obtain⟨DI,nI,d6,a6,a7,a8⟩:=b9;obtain⟨DS,nS,d7,a9,b0,b1⟩:=d0;have d8:=zh a7;have d9:=zh a8;have e0:=zh b0;have e1:=zh b1;have F:=keyOf_int_mk dw b4;have b2:=zh A;clear a7 a8 b0 b1 v0 v1 v2 r0 r1 r2 q0 q1 q2 X Y a3 a4 a5 I hI Z z A c0 c1 c2 c3 c4 c5 c6 c7 c8 c9;(repeat apply zR rfl rfl rfl;intro g3 hK;go_big_quiet_op;go_big_quiet_on);apply zt rfl;go_wp2_with (at_mapUpdate;refine dy _ rfl _ _ _ 109 rfl 3 3 lawI Tryz.underlying109 _ ((w:K)+1+1) nI DI rfl a6 (by unfold bd;omega) _ _ _ rfl rfl F _ [] (plainElem_int dw (cp (by omega))) ?_;intro w1 e2 N)
   refine OnlyN.mk ⟨(bu N).mono (λ_ _ h=>.inl h),?_⟩;apply zt rfl;go_wp2_with (at_mapUpdate;refine dy _ rfl _ _ _ 110 rfl 3 9 lawI Tryz.underlying110 _ ((w:K)+1+1+1) nS DS rfl (a9.kept N (λe=>by have:=Option.some.inj e;omega)) (by unfold bd;omega) _ _ _ rfl rfl F _ [] (plainElem_string Tryz.underlying9 (by simp only[ByteArray.size_append];unfold bd;have:(⟨#[47]⟩:a1).size=1:=rfl;omega)) ?_;intro w2 e3 O)
   refine OnlyN.mk ⟨(bu O).mono (λ_ _ h=>.inr h),?_⟩;apply zb;have e4:=(IMap.put d6 a6 d8 d9 d.index k e2).fr (bu O) (λh=>by omega);have e5:=SMap.put d7 a9 e0 e1 d.index _ e3;have U:=zh (bu N);have V:=zh (bu O);go_wp2;go_roundw;case rel=>
    refine⟨k+1,by omega,by go_num,?_,?_,V.heap (U.heap d3 (by omega)) (by omega),V.heap (U.heap d4 (by omega)) (by omega),
     (b2.step U (λb hb h=>by omega)).step V (λb hb h=>by omega)⟩
    .rw[zKj y Hd];exact e4
    .have e:ds.take (k+1)=ds.take k++[d]:=(by rw[bg,Hd];rfl);rw[e,zFg];exact e5
   case measure=>simp[au];omega
  .obtain rfl:k=ds.length:=by omega
   clear a2;rw[bc (bh _)]at Z;have HI:=zh hI;have HS:=zh Z;clear hI Z;go_wp2_with fail;refine av (v:=ah #[.slice a ds.length o,.map (E ((w:K)+1+1)),.map (E ((w:K)+1+1+1))]) (by simp[aw,Tryz.results60,go_sem,r0,r1,r2]) rfl ?_;have hF:Fr (Is ((w:K)+1)) wr (((wr.setCell ⟨(w:K)+1,0,C⟩ (.slice a ds.length o)).setCell ⟨(w:K)+1,1,C⟩ (.map (E ((w:K)+1+1)))).setCell ⟨(w:K)+1,2,C⟩ (.map (E ((w:K)+1+1+1)))):=(((ai _ _).setAt _).setAt _).setAt _;exact⟨⟨_,_,rfl,by omega,by omega,by omega,HI.fr hF (by omega),HS.fr hF (by omega)⟩,z.step hF (λb hb h=>by omega)⟩
theorem zAy (a:ak am)(h:K)(ds:ae Dev)(n:af)(w:ag)(J:Devs w a h ds)(y:TreeOk ds)(N:ds.length<=1000)(O:(cf M n).wf=ao):
  al aj 110 #[ah #[.slice a ds.length h],.int M n] w λe w'=>e=.returned (.tuple #[.string (((look ds n).map λ_=>pathOf (origin ds n)).getD ⟨#[]⟩),.bool (look ds n).isSome])/\Fr No w w':=by
 have z:Fr No w (w.alloc (D #[.slice a ds.length h] 53)):=(ai _ _).alloc _;have A:ogs ds n=(look ds n).map λ_=>pathOf (origin ds n):=by
  have:=zIS y ds.length (bh _) n;rw[bc (bh _)]at this;exact this
 have U:∀ (F o:K) (W:ag),(Instr.field 112 (ah #[.slice a ds.length h,.map (E F),.map (E o)]) 2).run aj W=.ok (.map (E o)) W:=λ_ _ _=>by kernel_rfl
 have V:=zh A;have I:=zh z;clear A z;go_enter Tryz.func110,Tryz.ntmps110;go_wp2_with fail;apply (zCX a h ds _ (J.no I (λ_=>id)) y N).mono;rintro e Y ⟨⟨F,o,rfl,_,_,_,_,X⟩,u⟩;go_wp2_with (at_lookup;refine zEp rfl _ _ 110 rfl rfl o _ _ n O rfl X rfl ?_)
 refine av (v:=.tuple #[.string ((ogs ds n).getD ⟨#[]⟩),.bool (ogs ds n).isSome]) (by simp[aw,Tryz.results110,go_sem]) rfl ?_;refine⟨?_,I.step u zi⟩;rw[V];cases look ds n<;>rfl
def VAt (w:ag)(m1 m2:K)(ds:ae Dev):Prop:=IMap w m1 (plcs ds ds.length) ds.length/\SMap w m2 (ogs ds) ds.length
theorem VAt.fr {o u:K}(h:VAt w o u ds)(v:Fr S w w')(y:¬ S o)(z:¬ S u):VAt w' o u ds:=⟨h.1.fr v y,h.2.fr v z⟩
theorem zMd (ds:ae Dev)(n:af):plcs ds ds.length n=(look ds n).map λ_=>place ds n:=by unfold plcs;rw[bc (bh _)]
def FindIs (ds:ae Dev)(n:af)(e:bn):Prop:=(look ds n=C/\e=.returned (.tuple #[ah Dev.zero.vals,.bool a0]))\/∃ d,look ds n=E d/\e=.returned (.tuple #[ah d.vals,.bool ao])
theorem zGH (a:ak am)(h:K)(ds:ae Dev)(z F:K)(n:af)(w:ag)(O:Devs w a h ds)(X:VAt w z F ds)(hx:(cf M n).wf=ao):
  al aj 200 #[ah #[.slice a ds.length h,.map (E z),.map (E F)],.int M n] w λe w'=>
   FindIs ds n e/\Fr No w w':=by
 have hm:=O.lenmax;have I:Fr No w ((w.alloc (D #[.slice a ds.length h,.map (E z),.map (E F)] 112)).alloc (D #[.int M 0,.int M 0,.string (),.string (),.string (),.string (),.string (),.int M 0,.int M 0,.slice C 0 0] 40)):=((ai _ _).alloc _).alloc _;have Y:=zP w (D #[.slice a ds.length h,.map (E z),.map (E F)] 112) (D #[.int M 0,.int M 0,.string (),.string (),.string (),.string (),.string (),.int M 0,.int M 0,.slice C 0 0] 40);have J:=zS w (D #[.slice a ds.length h,.map (E z),.map (E F)] 112) (D #[.int M 0,.int M 0,.string (),.string (),.string (),.string (),.string (),.int M 0,.int M 0,.slice C 0 0] 40);go_enter Tryz.func200,Tryz.ntmps200;go_upto_region 1 with(fail)
 generalize (w.alloc (D #[.slice a ds.length h,.map (E z),.map (E F)] 112)).alloc (D #[.int M 0,.int M 0,.string (),.string (),.string (),.string (),.string (),.int M 0,.int M 0,.slice C 0 0] 40)=w2 at *;obtain⟨t0,t1⟩:=cl2 Y;obtain⟨z0,z1,z2,z3,z4,z5,z6,z7,z8,z9⟩:=cl10 J;obtain⟨y0,y1,y2,y3,y4,y5,y6,y7,y8,y9⟩:=fl10 J;have hI:=X.1.fr I id;have A:=O.no I (λ_=>id);have U:=zMd ds n;rcases zAv ds n with⟨y,V⟩|⟨k,d,y,V,Z⟩
 .have g0:plcs ds ds.length n=none:=by rw[U,y];rfl
  have o:=zBG J rfl ax;have u:=zg2 y (I.step o.2 (λb hb e=>by omega));have N:look ds n=none:=y;clear o J Y U V I y X O A;have H1:=zh N;clear N;go_wp2_with (at_lookup;refine zEr rfl _ _ 109 rfl rfl z _ _ n hx rfl hI rfl ?_;rw[g0];simp only[Option.getD_none,Option.isSome_none])
  refine av (v:=.tuple #[ah Dev.zero.vals,.bool a0]) (by simp[aw,dq,go_sem,ap,ax,z0,z1,z2,z3,z4,z5,z6,z7,z8,z9];try rfl) rfl ?_;exact⟨.inl ⟨H1,rfl⟩,u.2⟩
 .have g0:plcs ds ds.length n=E (k:af):=by rw[U,y,V];rfl
  have a2:k<ds.length:=(List.getElem?_eq_some_iff.1 Z).1;have a3:(k:af)<ds.length:=by omega
  obtain⟨bb,a4,d',rfl,hd,c0,c1,c2,c3,c4,c5,c6,c7,c8,c9⟩:=A.dev a2;rw[Z]at hd;cases hd;have o:=zBG J rfl d;have u:=zg2 y (I.step o.2 (λb hb e=>by omega));have H1:=zh y;clear o J Y U V Z I y X O A;go_wp2_with (at_lookup;refine zEr rfl _ _ 109 rfl rfl z _ _ n hx rfl hI rfl ?_;rw[g0];simp only[dh,Option.isSome_some])
  refine av (v:=.tuple #[ah d.vals,.bool ao]) (by simp[aw,dq,go_sem,ap,z0,z1,z2,z3,z4,z5,z6,z7,z8,z9]) rfl ?_;exact⟨.inr ⟨d,H1,rfl⟩,u.2⟩
theorem zOC (u v x:ar)(n:af)(w:ag):
  al aj 143 #[ah #[u,v,x],L M n] w λe w'=>e=.returned (.func (.func 199) #[] #[aq (E ⟨w,0,C⟩),aq (E ⟨(w:K)+1,0,C⟩)])/\w'=(w.alloc (D #[u,v,x] 112)).alloc (D #[L M n] 3):=by
 go_enter Tryz.func143,Tryz.ntmps143;go_wp2;go_ret;exact⟨rfl,rfl⟩
theorem zFD : ∀ (l:ae a1) (s:a1),(l.foldl (λs x=>s++⟨#[47]⟩++x) s).data.toList=s.data.toList++bi [47] (l.map (·.data.toList))
 | [],s=>by simp[bi]
 | x::t,s=>by
  rw[List.foldl_cons,zFD t];simp[bi]
theorem zB4 (l:ae a1):(pathOf l).data.toList=bi [47] (l.map (·.data.toList)):=by
 unfold pathOf;rw[zFD];rfl
theorem zKk {l:ae a1}(h:l≠[]):(⟨#[47]⟩:a1)++⟨(bv (l.map (·.data.toList)) [47]).toArray⟩=pathOf l:=by
 apply zDe;rw[zB4];cases l with
 | nil=>exact bq rfl h
 | cons x t=>simp[ct,bi]
theorem zKJ : ∀ (l:ae a1),(∀ x∈l,x.size<=32)->(bi [47] (l.map (·.data.toList))).length<=33*l.length
 | [],_=>by simp[bi]
 | x::t,h=>by
  have o:=zKJ t (λy u=>h y (List.mem_cons_of_mem _ u));have v:=h x (List.mem_cons_self ..);have z:x.data.toList.length=x.size:=by simp
  simp only[bi,dc,cx,cm,da,db,List.map_map]at o ⊢;omega
theorem zO3 {l:ae a1}(h:∀ x∈l,x.size<=32):(bv (l.map (·.data.toList)) [47]).length<=33*l.length:=by
 cases l with
 | nil=>simp[bv,List.intercalate]
 | cons x t=>
  have:=zKJ (x::t) h;simp only[dc,ct,bi,cx,cm,da,db]at this ⊢;omega
theorem zMW (a:ak am)(o:K)(l:ae a1)(w:ag)(y:Strs w a o l)(u:l≠[])(I:∀ x∈l,x.size<=32)(Y:l.length<=1000000):
  al aj 74 #[R a l.length o] w λe w'=>e=.returned (G (pathOf l))/\Fr No w w':=by
 have Z:l.length≠0:=λh=>u (bw h)
 obtain⟨b,z,x,rfl,_,_⟩:=y.at (k:=0) (by omega);obtain⟨_,J,N⟩:=y.cell _ rfl u;have hj:=zO3 I;have v:=y.len;have O:=zh (zKk u);go_enter Tryz.func74,Tryz.ntmps74;go_wp2_with fail;refine(Tryz.strings_Join b z o l ⟨#[47]⟩ _ (λj x U=>N j x U) J (by omega) v (by show (bv _ [47]).length<=_;omega)).mono ?_;rintro e w1 ⟨rfl,V⟩;have A:=cd V;have X:(bv (l.map (·.data.toList)) [47]).length<=33000000:=by omega
 have F:(⟨#[47]⟩:a1).data.toList=[47]:=rfl;rw[F];go_wp2;go_ret;refine⟨?_,A⟩;rw[<-O];rfl
theorem zKu (o:TreeOk ds)(n:af):∀ x∈origin ds n,x.size<=32:=by
 intro x h;unfold origin at h;rw[List.mem_reverse]at h;obtain⟨d,u,rfl⟩:=List.mem_map.1 h;exact o.sz d (zEW u)
theorem zD2 (a:ak am)(o:K)(ds:ae Dev)(n:af)(w:ag)(U:Devs w a o ds)(X:TreeOk ds)(Y:ds.length<=1000000):
  al aj 31 #[ah #[R a ds.length o],L M n] w λe w'=>e=.returned (G (pathOf (origin ds n)))/\Fr No w w':=by
 have J:Fr No w (w.alloc (D #[R a ds.length o] 53)):=(ai _ _).alloc _;have A:=U.no J (λ_=>id);have F:(origin ds n).length<=1000000:=by unfold origin;simp;have:=zCs ds n;omega
 have Z:=zh (zKu X n);go_enter Tryz.func31,Tryz.ntmps31;go_wp2_with fail;apply (zJV a o ds n _ A Y).mono;rintro e w1 ⟨⟨v,rfl,u⟩,N⟩;obtain⟨ac,cc,rfl,V,I⟩:=Strs.of_own u;have y:=J.step N zi;clear u J A U;by_cases h:origin ds n=[]
 .have z:=zh h;have h0:(origin ds n).length=0:=by rw[h];rfl
  clear h F V;go_wp2;go_ret;refine⟨?_,y⟩;rw[z];rfl
 .have h0:0<(origin ds n).length:=List.length_pos_iff.2 h;have a2:(0:af)<(origin ds n).length:=by omega
  have z:=zh h;clear h;go_wp2_with fail;apply (zMW ac cc (origin ds n) _ V z Z F).mono;rintro e w2 ⟨rfl,O⟩;go_wp2;go_ret;exact⟨rfl,y.step O zi⟩
theorem zPC (d:Dev)(b:K)(n:af)(w:ag)(h:w.cell? ⟨b,0,C⟩=E (L M n)):
  al aj 99 #[ah d.vals,aq (E ⟨b,0,C⟩)] w λe w'=>e=.returned (.bool (d.index==n))/\Fr No w w':=by
 have o:Fr No w (w.alloc (D d.vals 40)):=(ai _ _).alloc _;have u:=o.cell h id;clear h;unfold ap at *;go_enter Tryz.func99,Tryz.ntmps99;go_wp2;go_ret;exact⟨rfl,o⟩
theorem zJn (a:ak am)(A:K)(ds:ae Dev)(b:K)(n:af)(w:ag)(N:Devs w a A ds)(Y:w.cell? ⟨b,0,C⟩=E (L M n)):
  al aj 87 #[R a ds.length A,.func (.func 99) #[] #[aq (E ⟨b,0,C⟩)]] w λe w'=>e=.returned (L M (place ds n))/\Fr No w w':=by
 have hm:=N.lenmax;go_enter dk,dn;go_wp2_with fail;go_loopw [8] (λi wr=>∃ k:K,k<=ds.length/\i=L M k/\ab (∀ x∈ds.take k,x.index≠n)/\Fr No w wr) (λi _=>ds.length-(au i).toNat);case atStart=>exact⟨0,by omega,rfl,by unfold ab;simp,ai _ _⟩
 case round=>
  obtain⟨k,hk,rfl,y,u⟩:=hrel;by_cases F:k<ds.length
  .have O:(k:af)<ds.length:=by omega
   obtain⟨bb,Z,d,rfl,U,c0,c1,c2,c3,c4,c5,c6,c7,c8,c9⟩:=(N.no u (λ_=>id)).dev F;have V:=zh U;clear U;go_wp2_with fail;apply (zPC d b n _ (u.cell Y id)).mono;rintro e w1 ⟨rfl,I⟩;have v:=u.step I zi;clear c0 c1 c2 c3 c4 c5 c6 c7 c8 c9;by_cases o:d.index=n
   .have J:(d.index==n)=true:=(by simpa using o);have z:=zh o;clear o;go_wp2;go_ret;exact⟨zBC (zC5 ds n k d V z y).symm,v⟩
   .have J:(d.index==n)=false:=(by simpa using o);have z:=zh o;clear o;go_wp2;go_roundw;case rel=>
     refine⟨k+1,by omega,by go_num,?_,v⟩;unfold ab;intro x X;rw[bg,V]at X;rcases List.mem_append.1 X with h|h
     .exact y x h
     .simp at h;subst h;exact z.out
    case measure=>simp[au];omega
  .obtain rfl:k=ds.length:=by omega
   have h:=y.out;rw[bc (by omega)]at h;have Hp:ab (place ds n=-1):=zC6 _ _ h;clear h;go_wp2;go_ret;exact⟨zBC Hp.symm,u⟩
theorem zFx (W:ag)(a:ak am)(n c:K):(binOp .eql 38 (R a n c) (R C 0 0)).run aj W=.ok (.bool a.isNone) W:=Lib.run_eql_slice_nil W 38 68 a n c 0 0 dx
theorem infoA: (Tryz.prog.info? 68).map (λi=>(i.zero,i.size,i.bytes))=E (E (ah #[G ca,G ca]),2,32):=by kernel_rfl
def aflat (l:ae (a1×a1)):ae ar:=l.flatMap (λx=>[G x.1,G x.2])
theorem zBu (l:ae (a1×a1)):(aflat l).length=l.length*2:=by
 induction l with
 | nil=>rfl
 | cons d t h=>
  have:aflat (d::t)=[G d.1,G d.2]++aflat t:=by simp[aflat]
  rw[this,cm,h];simp;omega
theorem zGA : ∀ (l:ae (a1×a1)) (i:K) (x:a1×a1),l[i]?=E x->(aflat l)[i*2]?=E (G x.1)/\(aflat l)[i*2+1]?=E (G x.2)
 | [],i,d,h=>by simp at h
 | y::t,0,x,h=>by
  simp at h;subst h;exact⟨rfl,rfl⟩
 | y::t,i+1,x,h=>by
  have e:aflat (y::t)=G y.1::G y.2::aflat t:=by simp[aflat]
  have o:=zGA t i x (by simpa using h);rw[e,show (i+1)*2=i*2+1+1 from by omega];exact o
theorem zL3 (l:ae (a1×a1))(j:K)(u:ar)(h:(aflat l)[j]?=E u):∃ i x,l[i]?=E x/\((j=i*2/\u=G x.1)\/(j=i*2+1/\u=G x.2)):=by
 have o:j<(aflat l).length:=(List.getElem?_eq_some_iff.1 h).1;rw[zBu]at o;have v:j / 2<l.length:=by omega
 have y:=zGA l (j / 2) l[j / 2] (be v);refine⟨j / 2,l[j / 2],be v,?_⟩;rcases(by omega:j=j / 2*2\/j=j / 2*2+1)with e|e
 .left;refine⟨e,?_⟩;rw[e,y.1]at h;exact(Option.some.inj h).symm
 .right;refine⟨e,?_⟩;rw[e,y.2]at h;exact(Option.some.inj h).symm
theorem zBt (l:ae (a1×a1)):∀ u∈aflat l,u.oneCell'=true:=by
 intro u h;obtain⟨x,_,h⟩:=List.mem_flatMap.1 h;simp at h;rcases h with rfl|rfl<;>rfl
theorem Atts.src {y:K}(h:Atts W a y l):∀ v,a=E v->∀ j u,(aflat l)[j]?=E u->W.cell? (v.add j)=E u:=by
 intro v e j u I;obtain⟨i,x,z,J⟩:=zL3 _ _ _ I;obtain⟨A,_,N⟩:=h.cell v e (by intro e;subst e;simp at z);obtain⟨b,o,O⟩:=v;simp only at A;subst A;have F:=N i x z;rw[Addr.add_lit];rcases J with⟨rfl,rfl⟩|⟨rfl,rfl⟩
 .exact F.1
 .exact F.2
theorem Atts.of_own {u:K}(h:w.ownsRow u e 2 v l.length (aflat l))(N:∀ x∈l,x.1.size<=bd/\x.2.size<=bd):
  ∃ a o,v=R a l.length o/\Atts w a o l/\∀ y,a=E y->u<=y.block:=by
 obtain⟨_,⟨rfl,z⟩|⟨g,o,A,rfl,O,F,U,z,h3,V⟩⟩:=h
 .have:l=[]:=bw z;subst this;exact⟨C,0,rfl,ch w,λ_ e=>by cases e⟩
 .refine⟨E ⟨g,0,C⟩,o,rfl,⟨U,z,(λe=>by cases e),N,?_⟩,λy e=>by cases e;exact O⟩;intro y e X;cases e;refine⟨rfl,zC F,λi x I=>?_⟩;have Y:i<l.length:=(List.getElem?_eq_some_iff.1 I).1;have Z:=zGA l i x I;rw[zB F,zB F];simp only[df];rw[<-cq,<-cq];have J:∀ j,j<l.length*2->A.toList[j]?=(aflat l)[j]?:=λj hj=>by
   rw[<-V,cz hj]
  rw[J _ (by omega),J _ (by omega)];exact Z
theorem zHt (a:ak am)(v:K)(l:ae (a1×a1))(w:ag)(F:Atts w a v l)(X:l.length<=1000000):
  al aj 33 #[R a l.length v] w λe w'=>(∃ y z,e=.returned (R y l.length z)/\Atts w' y z l/\∀ A,y=E A->(w:K)<=A.block)/\Fr No w w':=by
 obtain⟨Y,Z,I,J,N⟩:=info_parts infoA;cases a with
 | none=>
  obtain⟨rfl,rfl⟩:=F.isNil rfl;have hq:=zFx;go_enter di,dl;go_wp2;go_ret;exact⟨⟨C,0,rfl,ch _,λ_ e=>by cases e⟩,ai _ _⟩
 | some A=>
  have hx:Fr No w (w.alloc (D #[] 68)):=(ai _ _).alloc _;have O:=F.no hx (λ_=>id);have hq:=zFx;go_enter di,dl;have o:(w.alloc (D #[] 68)).ownsRow (w:K) 68 2 (R (E ⟨w,0,C⟩) 0 0) 0 []:=
   ⟨rfl,.inr ⟨(w:K),0,#[],rfl,bh _,zF _ _,bh _,by unfold bd;omega,rfl,rfl⟩⟩
  go_wp2_with (at_builtin;refine zx rfl _ _ 38 rfl (w:K) 68 Y (ah #[G ca,G ca]) 2 32 dx Z I J N rfl (by decide) _ 0 [] rfl o (E A) l.length _ (aflat l) rfl (λe=>by cases e) (zBu l) (λU e=>O.src U e) (zBt l) (by unfold bd;omega) (by omega) (by simp) ?_;intro v' w1 u V)
  go_ret;simp only[df,List.nil_append]at u;obtain⟨y,z,hv,h1,h2⟩:=Atts.of_own u F.wf;exact⟨⟨y,z,by rw[<-hv];rfl,h1,h2⟩,((ai No w).alloc _).step (zE3 o V) (λb X h=>by omega)⟩
theorem zFF (d:Dev)(l:ae (a1×a1))(w:ag)(hl:Atts w d.aa d.ac l)(a3:d.an=l.length)(hb:l.length<=1000000):
  al aj 95 #[ah d.vals] w λe w'=>(∃ u y,e=.returned (ah ({ d with aa:=u,ac:=y }:Dev).vals)/\Atts w' u y l/\∀ A,u=E A->(w:K)<=A.block)/\Fr No w w':=by
 obtain⟨F,I,nm,J,N,O,U,V,X,aa,an,ac⟩:=d;dsimp only at a3 hl;subst a3;have hx:Fr No w ((w.alloc (D #[L M F,L M I,G nm,G J,G N,G O,G U,L M V,L M X,R aa l.length ac] 40)).alloc (D #[L M 0,L M 0,G (),G (),G (),G (),G (),L M 0,L M 0,R C 0 0] 40)):=((ai _ _).alloc _).alloc _;have q0:=zP w (D #[L M F,L M I,G nm,G J,G N,G O,G U,L M V,L M X,R aa l.length ac] 40) (D #[L M 0,L M 0,G (),G (),G (),G (),G (),L M 0,L M 0,R C 0 0] 40);have q1:=zS w (D #[L M F,L M I,G nm,G J,G N,G O,G U,L M V,L M X,R aa l.length ac] 40) (D #[L M 0,L M 0,G (),G (),G (),G (),G (),L M 0,L M 0,R C 0 0] 40);show al aj 95 #[ah #[L M F,L M I,G nm,G J,G N,G O,G U,L M V,L M X,R aa l.length ac]] w _
 go_enter Tryz.func95,Tryz.ntmps95;go_upto_region 1 with(fail)
 have a5:(w:K)+2<=((w.alloc (D #[L M F,L M I,G nm,G J,G N,G O,G U,L M V,L M X,R aa l.length ac] 40)).alloc (D #[L M 0,L M 0,G (),G (),G (),G (),G (),L M 0,L M 0,R C 0 0] 40)).heap.size:=by simp
 generalize (w.alloc (D #[L M F,L M I,G nm,G J,G N,G O,G U,L M V,L M X,R aa l.length ac] 40)).alloc (D #[L M 0,L M 0,G (),G (),G (),G (),G (),L M 0,L M 0,R C 0 0] 40)=W0 at *;have c9:W0.cell? ⟨w,9,C⟩=E (R aa l.length ac):=zB q0 9;have a6:(w:K)<=(W0:K):=hx.size;go_wp2_with fail;apply (zHt aa ac l _ (hl.no hx (λ_=>id)) hb).mono;rintro e w1 ⟨⟨u,y,rfl,hA,o⟩,Z⟩;have p0:=Z.heap q0 id;have p1:=Z.heap q1 id;clear c9 q0 q1;have c9:w1.cell? ⟨w,9,C⟩=E (R aa l.length ac):=zB p0 9;have f9:w1.frozen? ⟨w,9,C⟩=false:=zD p0 9;go_upto_region 2 with(fail)
 have z:Fr (Is (w:K)) w1 (w1.setCell ⟨w,9,C⟩ (R u l.length y)):=ay (ai _ _) _;have r0:=zE p0 9 (R u l.length y);have r1:=z.heap p1 (λe=>by omega);have a4:=hA.fr z (λA e _ h=>by have:=o A e;omega);clear p0 p1 c9 f9;generalize w1.setCell ⟨w,9,C⟩ (R u l.length y)=W1 at *;obtain⟨c0,c1,c2,c3,c4,c5,c6,c7,c8,c9⟩:=cl10 r0;obtain⟨z0,z1,z2,z3,z4,z5,z6,z7,z8,z9⟩:=cl10 r1;obtain⟨y0,y1,y2,y3,y4,y5,y6,y7,y8,y9⟩:=fl10 r1;have a2:=zBG r1 rfl ⟨F,I,nm,J,N,O,U,V,X,u,l.length,y⟩;have Y:ab _:=bz (a4.fr a2.2 (λA e _ h=>by have:=o A e;omega)) ((((hx.step Z zi).step z (λb hb e=>by omega)).step a2.2 (λb hb e=>by omega)));clear a2 a4 hA r0 r1 z;go_wp2_with fail;refine av (v:=ah #[L M F,L M I,G nm,G J,G N,G O,G U,L M V,L M X,R u l.length y]) (by simp[aw,Tryz.results95,go_sem,z0,z1,z2,z3,z4,z5,z6,z7,z8,z9]) rfl ?_;exact⟨⟨u,y,rfl,Y.1,λA e=>by have:=o A e;omega⟩,Y.2⟩
def FoundD (w w':ag)(ds:ae Dev)(n:af)(e:bn):Prop:=
 (look ds n=C/\e=.returned (.tuple #[ah Dev.zero.vals,.bool a0]))\/
 ∃ d a' c' l,look ds n=E d/\e=.returned (.tuple #[ah ({ d with aa:=a',ac:=c' }:Dev).vals,.bool ao])/\Atts w' a' c' l/\d.an=l.length/\l.length<=24/\∀ ad,a'=E ad->(w:K)<=ad.block
theorem zJJ (a:ak am)(o:K)(ds:ae Dev)(b Y:K)(n:af)(w:ag)(hl:Tr w Y a o ds)(hb:w.cell? ⟨b,0,C⟩=E (L M n)):
  al aj 61 #[ah #[R a ds.length o],.func (.func 99) #[] #[aq (E ⟨b,0,C⟩)]] w λe w'=>FoundD w w' ds n e/\Fr No w w':=by
 have hx:Fr No w ((w.alloc (D #[R a ds.length o] 53)).alloc (D #[L M 0,L M 0,G (),G (),G (),G (),G (),L M 0,L M 0,R C 0 0] 40)):=((ai _ _).alloc _).alloc _;have q0:=zP w (D #[R a ds.length o] 53) (D #[L M 0,L M 0,G (),G (),G (),G (),G (),L M 0,L M 0,R C 0 0] 40);have q1:=zS w (D #[R a ds.length o] 53) (D #[L M 0,L M 0,G (),G (),G (),G (),G (),L M 0,L M 0,R C 0 0] 40);have a8:(w:K)+2<=((w.alloc (D #[R a ds.length o] 53)).alloc (D #[L M 0,L M 0,G (),G (),G (),G (),G (),L M 0,L M 0,R C 0 0] 40)).heap.size:=by simp
 have hm:=hl.dv.lenmax;go_enter dj,dm;go_upto_region 1 with(fail)
 generalize (w.alloc (D #[R a ds.length o] 53)).alloc (D #[L M 0,L M 0,G (),G (),G (),G (),G (),L M 0,L M 0,R C 0 0] 40)=W0 at *;have t0:W0.cell? ⟨w,0,C⟩=E (R a ds.length o):=zB q0 0;go_wp2_with fail;apply (zJn a o ds b n _ (hl.dv.no hx (λ_=>id)) (hx.cell hb id)).mono;rintro e w1 ⟨rfl,N⟩;have p0:=N.heap q0 id;have O:=N.heap q1 id;have I:=hx.step N zi;have Z:=hl.no I;have a9:(w:K)+1<(w1:K):=zC O;clear t0 q0 q1;rcases zAv ds n with⟨A,F⟩|⟨k,d,A,F,J⟩
 .rw[F];have U:=zh A;clear A F;obtain⟨z0,z1,z2,z3,z4,z5,z6,z7,z8,z9⟩:=cl10 O;obtain⟨y0,y1,y2,y3,y4,y5,y6,y7,y8,y9⟩:=fl10 O;have z:=zBG O rfl ⟨0,0,(),(),(),(),(),0,0,C,0,0⟩;have u:=zh (I.step z.2 (λb hb e=>by omega));clear z O I p0;go_wp2_with fail;refine av (v:=.tuple #[ah Dev.zero.vals,.bool a0]) (by simp[aw,cg,go_sem,ap,ax,z0,z1,z2,z3,z4,z5,z6,z7,z8,z9];rfl) rfl ?_;exact⟨.inl ⟨U,rfl⟩,u⟩
 .rw[F];have U:=zh A;have hk:k<ds.length:=(List.getElem?_eq_some_iff.1 J).1;obtain⟨l,hA,V,a5⟩:=(Z.el d (bf J)).att;obtain⟨bb,a6,d',rfl,hd,c0,c1,c2,c3,c4,c5,c6,c7,c8,c9⟩:=Z.dv.dev hk;obtain rfl:d=d':=by rw[J]at hd;exact Option.some.inj hd
  have X:=zh (zFF d l w1 hA V (by omega));have t0:w1.cell? ⟨w,0,C⟩=E (R (E ⟨bb,a6,C⟩) ds.length o):=zB p0 0;have a7:=zh V;clear A F J hd V;go_wp2_with fail;apply X.mono;rintro e w2 ⟨⟨a',c',rfl,a2,y⟩,a3⟩;have p2:=a3.heap O id;have a4:=I.step a3 zi;clear p0 O c0 c1 c2 c3 c4 c5 c6 c7 c8 c9 t0;have b0:(w:K)+1<(w2:K):=zC p2;obtain⟨z0,z1,z2,z3,z4,z5,z6,z7,z8,z9⟩:=cl10 p2;obtain⟨y0,y1,y2,y3,y4,y5,y6,y7,y8,y9⟩:=fl10 p2;have z:=zBG p2 rfl { d with aa:=a',ac:=c' };have u:ab _:=bz (a2.fr z.2 (λad e _ h=>by have:=y ad e;omega)) (a4.step z.2 (λb hb e=>by omega));clear z a2 p2 a4;unfold ap;go_wp2_with fail;refine av (v:=.tuple #[ah ({ d with aa:=a',ac:=c' }:Dev).vals,.bool ao]) (by simp[aw,cg,go_sem,ap,z0,z1,z2,z3,z4,z5,z6,z7,z8,z9]) rfl ?_;exact⟨.inr ⟨d,a',c',l,U,rfl,u.1,a7,a5,λad e=>by have:=y ad e;omega⟩,u.2⟩
theorem zBl (a:ak am)(o:K)(ds:ae Dev)(F:K)(n:af)(w:ag)(hl:Tr w F a o ds):
  al aj 47 #[ah #[R a ds.length o],L M n] w λe w'=>FoundD w w' ds n e/\Fr No w w':=by
 have V:Fr No w (((w.alloc (D #[R a ds.length o] 53)).alloc (D #[L M n] 3)).alloc (D #[L M 0,L M 0,G (),G (),G (),G (),G (),L M 0,L M 0,R C 0 0] 40)):=(((ai _ _).alloc _).alloc _).alloc _;have X:Fr No ((w.alloc (D #[R a ds.length o] 53)).alloc (D #[L M n] 3)) (((w.alloc (D #[R a ds.length o] 53)).alloc (D #[L M n] 3)).alloc (D #[L M 0,L M 0,G (),G (),G (),G (),G (),L M 0,L M 0,R C 0 0] 40)):=(ai _ _).alloc _;have q0:=X.heap (zP w (D #[R a ds.length o] 53) (D #[L M n] 3)) id;have q1:=X.heap (zS w (D #[R a ds.length o] 53) (D #[L M n] 3)) id;have U:=zF ((w.alloc (D #[R a ds.length o] 53)).alloc (D #[L M n] 3)) (D #[L M 0,L M 0,G (),G (),G (),G (),G (),L M 0,L M 0,R C 0 0] 40);rw[bt,bt]at U;clear X;go_enter Tryz.func47,Tryz.ntmps47;go_upto_region 1 with(fail)
 generalize ((w.alloc (D #[R a ds.length o] 53)).alloc (D #[L M n] 3)).alloc (D #[L M 0,L M 0,G (),G (),G (),G (),G (),L M 0,L M 0,R C 0 0] 40)=W0 at *;have t0:W0.cell? ⟨w,0,C⟩=E (R a ds.length o):=zB q0 0;have t1:W0.cell? ⟨(w:K)+1,0,C⟩=E (L M n):=zB q1 0;have a3:=V.size;have a4:=zC U;go_wp2_with fail;apply (zJJ a o ds ((w:K)+1) F n _ (hl.no V) t1).mono;rintro e w2 ⟨hF,J⟩;have I:=J.heap U id;have A:=V.step J zi;have a5:(w:K)+2<(w2:K):=zC I;clear t0 t1 q0 q1 U;obtain⟨z0,z1,z2,z3,z4,z5,z6,z7,z8,z9⟩:=cl10 I;obtain⟨y0,y1,y2,y3,y4,y5,y6,y7,y8,y9⟩:=fl10 I;rcases hF with⟨z,rfl⟩|⟨d,Y,Z,l,z,rfl,hA,N,a2,O⟩
 .have y:=zBG I rfl ax;have u:=zg2 z (A.step y.2 (λb hb e=>by omega));clear y I A z;unfold ap ax;go_wp2_with fail;refine av (v:=.tuple #[ah Dev.zero.vals,.bool a0]) (by simp[aw,dt,go_sem,ap,ax,z0,z1,z2,z3,z4,z5,z6,z7,z8,z9]) rfl ?_;exact⟨.inl ⟨u.1,rfl⟩,u.2⟩
 .have y:=zBG I rfl { d with aa:=Y,ac:=Z };have u:=zg4 z N (hA.fr y.2 (λad e _ h=>by have:=O ad e;omega)) (A.step y.2 (λb hb e=>by omega));clear y I A z N hA;unfold ap;go_wp2_with fail;refine av (v:=.tuple #[ah ({ d with aa:=Y,ac:=Z }:Dev).vals,.bool ao]) (by simp[aw,dt,go_sem,ap,z0,z1,z2,z3,z4,z5,z6,z7,z8,z9]) rfl ?_;exact⟨.inr ⟨d,Y,Z,l,u.1,rfl,u.2.2.1,u.2.1,a2,λad e=>by have:=O ad e;omega⟩,u.2.2.2⟩
def fidx {α:Type}(p:α->ba):ae α->af
 | []=>-1
 | x::t=>if p x then 0 else if fidx p t<0 then -1 else fidx p t+1
theorem zHn {α:Type}(p:α->ba):∀ (l:ae α) (k:K) (x:α),l[k]?=E x->p x=ao->(∀ y∈l.take k,p y=a0)->fidx p l=k
 | [],k,x,h,_,_=>by simp at h
 | y::t,0,x,h,e,_=>by simp at h;subst h;simp[fidx,e]
 | y::t,k+1,x,h,e,o=>by
  have u:p y=false:=o y (by simp);have v:=zHn p t k x (by simpa using h) e (λz A=>o z (by simp[A]));unfold fidx;rw[u,v];simp;omega
theorem zGs {α:Type}(p:α->ba):∀ l:ae α,(∀ y∈l,p y=a0)->fidx p l=-1
 | [],_=>rfl
 | y::t,h=>by
  unfold fidx;rw[h y (by simp),zGs p t (λz o=>h z (by simp[o]))];simp
theorem zAp {α:Type}(p:α->ba):∀ l:ae α,(fidx p l=-1/\l.find? p=C/\l.any p=a0)\/∃ (k:K) (x:α),fidx p l=(k:af)/\l[k]?=E x/\l.find? p=E x/\p x=ao/\l.any p=ao
 | []=>.inl ⟨rfl,rfl,rfl⟩
 | x::t=>by
  cases hp:p x
  .rcases zAp p t with⟨h,o,u⟩|⟨k,y,h,o,u,v,z⟩
   .exact .inl ⟨by simp[fidx,hp,h],by simp[ck,hp,o],by simp[hp,u]⟩
   .refine .inr ⟨k+1,y,?_,by simpa using o,by simp[ck,hp,u],v,by simp[hp,z]⟩;have:¬ ((k:af)<0):=(by omega);simp[fidx,hp,h,this]
  .exact .inr ⟨0,x,by simp[fidx,hp],rfl,by simp[ck,hp],hp,by simp[hp]⟩
def Tells (g:K)(cb:bp ar)(p:Dev->ba)(ds:ae Dev)(w:ag):Prop:=
 ∀ d∈ds,∀ W,Fr No w W->al aj g (#[ah d.vals]++cb) W λe w'=>e=.returned (.bool (p d))/\Fr No W w'
theorem zBr (g:K)(N:bp ar)(eg:∀ args w,(callFunc g args).run aj w=.ok (.enter g args) w)(p:Dev->ba)(a:ak am)(A:K)(ds:ae Dev)(w:ag)(O:Devs w a A ds)(U:Tells g N p ds w):
  al aj 87 #[R a ds.length A,.func (.func g) #[] N] w λe w'=>e=.returned (L M (fidx p ds))/\Fr No w w':=by
 have hm:=O.lenmax;have Z:=zh U;clear U;go_enter dk,dn;go_wp2_with fail;go_loopw [5,8] (λj i wr=>∃ k:K,k<=ds.length/\i=L M k/\ab (∀ x∈ds.take k,p x=a0)/\Fr No w wr) (λ_ i _=>ds.length-(au i).toNat);case atStart=>exact⟨0,by omega,rfl,by unfold ab;simp,ai _ _⟩
 case round=>
  obtain⟨k,hk,rfl,y,u⟩:=hrel;by_cases F:k<ds.length
  .have V:(k:af)<ds.length:=by omega
   obtain⟨bb,a2,d,rfl,I,c0,c1,c2,c3,c4,c5,c6,c7,c8,c9⟩:=(O.no u (λ_=>id)).dev F;have o:=Z.out d (bf I) wr u;have X:=zh I;clear I;cases hq:p d with
   | true=>
    rw[hq]at o;have J:=zh hq;clear hq;go_wp2_with (go_at_fn g;refine o.mono ?_;rintro e w1 ⟨rfl,z⟩)
    have v:=u.step z zi;go_ret;exact⟨zBC (zHn p ds k d X J y).symm,v⟩
   | false=>
    rw[hq]at o;have J:=zh hq;clear hq;go_wp2_with (go_at_fn g;refine o.mono ?_;rintro e w1 ⟨rfl,z⟩)
    have v:=u.step z zi;go_roundw;case rel=>
     refine⟨k+1,by omega,by go_num,?_,v⟩;unfold ab;intro x Y;rw[bg,X]at Y;rcases List.mem_append.1 Y with h|h
     .exact y x h
     .simp at h;subst h;exact J.out
    case measure=>simp[au];omega
  .obtain rfl:k=ds.length:=by omega
   have h:=y.out;rw[bc (by omega)]at h;have H:=zh (zGs p ds h);clear h;go_wp2;go_ret;exact⟨zBC H.symm,u⟩
theorem zPD (g:K)(u:bp ar)(F:∀ args w,(callFunc g args).run aj w=.ok (.enter g args) w)(p:Dev->ba)(a:ak am)(o:K)(ds:ae Dev)(w:ag)(I:Devs w a o ds)(J:Tells g u p ds w):
  al aj 138 #[R a ds.length o,.func (.func g) #[] u] w λe w'=>e=.returned (.bool (ds.any p))/\Fr No w w':=by
 have h:=zBr g u F p a o ds w I J;have A:decide (0<=fidx p ds)=ds.any p:=by
  rcases zAp p ds with⟨v,_,y⟩|⟨k,x,v,_,_,_,y⟩
  .rw[v,y];rfl
  .rw[v,y];simp
 have N:=zh A;clear A;go_enter Tryz.func138,Tryz.ntmps138;go_wp2_with fail;apply h.mono;rintro e O ⟨rfl,z⟩;go_wp2;go_ret;exact⟨zL N,z⟩
def FoundP (w w':ag)(ds:ae Dev)(p:Dev->ba)(e:bn):Prop:=
 (ds.find? p=C/\e=.returned (.tuple #[ah Dev.zero.vals,.bool a0]))\/
 ∃ d a' c' l,ds.find? p=E d/\e=.returned (.tuple #[ah ({ d with aa:=a',ac:=c' }:Dev).vals,.bool ao])/\Atts w' a' c' l/\Atts w d.aa d.ac l/\d.an=l.length/\l.length<=24/\∀ ad,a'=E ad->(w:K)<=ad.block
theorem Atts.det {c J:K}{l':ae (a1×a1)}(h:Atts w a c l)(N:Atts w a J l')(u:l.length=l'.length):l=l':=by
 by_cases o:l=[]
 .subst o;exact(bw u.symm).symm
 .have v:l'≠[]:=λe=>by subst e;exact o (bw u)
  cases a with
  | none=>exact bq (h.isNil rfl).1 o
  | some y=>
   obtain⟨_,_,O⟩:=h.cell y rfl o;obtain⟨_,_,U⟩:=N.cell y rfl v;refine List.ext_getElem u λi V X=>?_
   have z:=O i l[i] (be V);have A:=U i l'[i] (be X);have F:=z.1.symm.trans A.1;have I:=z.2.symm.trans A.2;simp only[Option.some.injEq,Value.string.injEq]at F I;exact Prod.ext F I
theorem zGJ (g:K)(cb:bp ar)(eg:∀ args w,(callFunc g args).run aj w=.ok (.enter g args) w)(p:Dev->ba)(a:ak am)(y:K)(ds:ae Dev)(a2:K)(w:ag)(hl:Tr w a2 a y ds)(hp:Tells g cb p ds w):
  al aj 61 #[ah #[R a ds.length y],.func (.func g) #[] cb] w λe w'=>FoundP w w' ds p e/\Fr No w w':=by
 obtain⟨W0,a3,hx,q0,q1⟩:=zw w (D #[R a ds.length y] 53) (D #[L M 0,L M 0,G (),G (),G (),G (),G (),L M 0,L M 0,R C 0 0] 40);have hm:=hl.dv.lenmax;have N:=zBr g cb eg p a y ds W0 (hl.dv.no hx (λ_=>id)) (λd hd W hf=>hp d hd W (hx.step hf zi));clear hp;go_enter dj,dm;go_upto_region 1 with(fail)
 rw[<-a3];clear a3;have t0:W0.cell? ⟨w,0,C⟩=E (R a ds.length y):=zB q0 0;go_wp2_with fail;apply N.mono;rintro e w1 ⟨rfl,O⟩;clear N;have p0:=O.heap q0 id;have U:=O.heap q1 id;have A:=hx.step O zi;have a7:=hl.no A;have b2:(w:K)+1<(w1:K):=zC U;clear t0 q0 q1;rcases zAp p ds with⟨F,I,-⟩|⟨k,d,F,J,I,-,-⟩
 .rw[F];have V:=zh I;clear I F;obtain⟨z0,z1,z2,z3,z4,z5,z6,z7,z8,z9⟩:=DevB.of (d:=⟨0,0,(),(),(),(),(),0,0,C,0,0⟩) U;obtain⟨y0,y1,y2,y3,y4,y5,y6,y7,y8,y9⟩:=DevF.of U;have z:=zBG U rfl ⟨0,0,(),(),(),(),(),0,0,C,0,0⟩;have o:=zh (A.step z.2 (λb hb e=>by omega));clear z U A p0;go_wp2_with fail;refine av (v:=.tuple #[ah Dev.zero.vals,.bool a0]) (by simp[aw,cg,go_sem,ap,ax,z0,z1,z2,z3,z4,z5,z6,z7,z8,z9];rfl) rfl ?_;exact⟨.inl ⟨V,rfl⟩,o⟩
 .rw[F];have V:=zh I;have hk:k<ds.length:=(List.getElem?_eq_some_iff.1 J).1;obtain⟨l,X,Y,a8⟩:=(hl.el d (bf J)).att;have hA:=X.no A (λ_=>id);have a9:=zh X;clear X;obtain⟨bb,b0,d',rfl,hd,c0,c1,c2,c3,c4,c5,c6,c7,c8,c9⟩:=a7.dv.dev hk;obtain rfl:d=d':=by rw[J]at hd;exact Option.some.inj hd
  have Z:=zh (zFF d l w1 hA Y (by omega));have t0:w1.cell? ⟨w,0,C⟩=E (R (E ⟨bb,b0,C⟩) ds.length y):=zB p0 0;have b1:=zh Y;clear I F J hd Y;go_wp2_with fail;apply Z.mono;rintro e w2 ⟨⟨a',c',rfl,a4,u⟩,a5⟩;have p2:=a5.heap U id;have a6:=A.step a5 zi;clear p0 U c0 c1 c2 c3 c4 c5 c6 c7 c8 c9 t0;have b3:(w:K)+1<(w2:K):=zC p2;obtain⟨z0,z1,z2,z3,z4,z5,z6,z7,z8,z9⟩:=DevB.of (d:=⟨0,0,(),(),(),(),(),0,0,C,0,0⟩) p2;obtain⟨y0,y1,y2,y3,y4,y5,y6,y7,y8,y9⟩:=DevF.of p2;have z:=zBG p2 rfl { d with aa:=a',ac:=c' };have o:ab _:=bz (a4.fr z.2 (λad e _ h=>by have:=u ad e;omega)) (a6.step z.2 (λb hb e=>by omega));clear z a4 p2 a6;unfold ap;go_wp2_with fail;refine av (v:=.tuple #[ah ({ d with aa:=a',ac:=c' }:Dev).vals,.bool ao]) (by simp[aw,cg,go_sem,ap,z0,z1,z2,z3,z4,z5,z6,z7,z8,z9]) rfl ?_;exact⟨.inr ⟨d,a',c',l,V,rfl,o.1,a9,b1,a8,λad e=>by have:=u ad e;omega⟩,o.2⟩
def plc (ds:ae Dev)(n:af):a1:=((look ds n).map λ_=>pathOf (origin ds n)).getD ⟨#[]⟩
def atP (ds:ae Dev)(s:a1)(d:Dev):Bool:=(plc ds d.index).toList==s.toList
theorem zC9 (h:TreeOk ds)(n:af):(ogs ds n).getD ⟨#[]⟩=plc ds n:=by
 have:=zIS h ds.length (bh _) n;rw[bc (bh _)]at this;rw[this];rfl
theorem zQe (d:Dev)(ds:ae Dev)(a:ak am)(u U v A F:K)(s:a1)(w:ag)(I:TreeOk ds)(V:d∈ds)(J:w.heap[A]?=E (D #[R a ds.length u,.map (E U),.map (E v)] 112))(N:SMap w v (ogs ds) ds.length)(O:w.cell? ⟨F,0,C⟩=E (G s)):
  al aj 62 #[ah d.vals,aq (E ⟨A,0,C⟩),aq (E ⟨F,0,C⟩)] w λe w'=>e=.returned (.bool (atP ds s d))/\Fr No w w':=by
 have o:Fr No w (w.alloc (D d.vals 40)):=(ai _ _).alloc _;have X:=o.cell O id;have h:=o.heap J id;have Z:=zB h 2;have y:=N.fr o id;have z:=I.iwf V;have Y:=zh (zC9 I d.index);clear O J N h;unfold ap at *;go_enter Tryz.func62,Tryz.ntmps62;go_wp2_with (at_lookup;refine zHB rfl _ _ 110 rfl rfl v _ _ d.index z rfl y rfl ?_)
 go_ret;exact⟨by unfold atP;rw[<-Y];rfl,o⟩
theorem zDq (a:ak am)(o:K)(ds:ae Dev)(V:K)(s:a1)(w:ag)(hl:Tr w V a o ds)(hn:ds.length<=1000):
  al aj 25 #[ah #[R a ds.length o],G s] w λe w'=>FoundP w w' ds (atP ds s) e/\Fr No w w':=by
 have hT:=hl.wf.ok;obtain⟨X,I⟩:∃ X,X=((w.alloc (D #[R a ds.length o] 53)).alloc (D #[G s] 9)).alloc (D #[L M 0,L M 0,G (),G (),G (),G (),G (),L M 0,L M 0,R C 0 0] 40):=⟨_,rfl⟩
 have fx:Fr No ((w.alloc (D #[R a ds.length o] 53)).alloc (D #[G s] 9)) X:=by rw[I];exact(ai _ _).alloc _
 have hx:Fr No w X:=by rw[I];exact(((ai _ _).alloc _).alloc _).alloc _
 have q0:=fx.heap (zP w (D #[R a ds.length o] 53) (D #[G s] 9)) id;have q1:=fx.heap (zS w (D #[R a ds.length o] 53) (D #[G s] 9)) id;have q2:X.heap[(w:K)+1+1]?=E (D #[L M 0,L M 0,G (),G (),G (),G (),G (),L M 0,L M 0,R C 0 0] 40):=by
  have:=zF ((w.alloc (D #[R a ds.length o] 53)).alloc (D #[G s] 9)) (D #[L M 0,L M 0,G (),G (),G (),G (),G (),L M 0,L M 0,R C 0 0] 40);rw[bt,bt]at this;rw[I];exact this
 clear fx;have t0:X.cell? ⟨w,0,C⟩=E (R a ds.length o):=zB q0 0;have J:=zCX a o ds X (hl.dv.no hx (λ_=>id)) hT hn;have b0:=zC q2;go_enter Tryz.func25,Tryz.ntmps25;go_upto_region 1 with(fail)
 rw[<-I];clear I;go_wp2_with fail;apply J.mono;rintro e w1 ⟨⟨m1,m2,rfl,b2,b3,b4,hI,hS⟩,N⟩;clear J hI;have a7:=hx.step N zi;obtain⟨W1,Z,z,b1⟩:=zy w1 (D #[R a ds.length o,.map (E m1),.map (E m2)] 112);have p0:=z.heap (N.heap q0 id) id;have p1:=z.heap (N.heap q1 id) id;have p2:=z.heap (N.heap q2 id) id;have a8:=hS.fr z id;have O:=a7.step z zi;have b5:=N.size;clear q0 q1 q2 t0;have t0:W1.cell? ⟨w,0,C⟩=E (R a ds.length o):=zB p0 0;have t1:W1.cell? ⟨(w:K)+1,0,C⟩=E (G s):=zB p1 0;have y:=zGJ 62 #[aq (E ⟨w1,0,C⟩),aq (E ⟨(w:K)+1,0,C⟩)] (λ_ _=>rfl) (atP ds s) a o ds V W1 (hl.no O) (λd hd W hf=>zQe d ds a o m1 m2 _ _ s W hT hd (hf.heap b1 id) (a8.fr hf id) (hf.cell t1 id));go_upto_region 2 with(fail)
 rw[<-Z];clear Z;go_wp2_with fail;apply y.mono;rintro e w2 ⟨hF,a2⟩;clear y;have Y:=a2.heap p2 id;have U:=O.step a2 zi;have b6:(w:K)+1+1<(w2:K):=zC Y;clear t0 t1 p0 p1 p2;obtain⟨z0,z1,z2,z3,z4,z5,z6,z7,z8,z9⟩:=DevB.of (d:=⟨0,0,(),(),(),(),(),0,0,C,0,0⟩) Y;obtain⟨y0,y1,y2,y3,y4,y5,y6,y7,y8,y9⟩:=DevF.of Y;have b7:=O.size;have b8:=z.size;rcases hF with⟨A,rfl⟩|⟨d,a',c',l,A,rfl,hA,a3,a4,a9,a5⟩
 .have F:=zBG Y rfl ax;have u:=zg2 A (U.step F.2 (λb hb e=>by omega));clear F Y U A;unfold ap ax;go_wp2_with fail;refine av (v:=.tuple #[ah Dev.zero.vals,.bool a0]) (by simp[aw,dr,go_sem,ap,ax,z0,z1,z2,z3,z4,z5,z6,z7,z8,z9]) rfl ?_;exact⟨.inl ⟨u.1,rfl⟩,u.2⟩
 .have F:=zBG Y rfl { d with aa:=a',ac:=c' };have a6:Atts w d.aa d.ac l:=by
   obtain⟨l0,g1,g2,_⟩:=(hl.el d (List.mem_of_find?_eq_some A)).att;have e:l0=l:=(g1.no O (λ_=>id)).det a3 (by omega);rw[<-e];exact g1
  have u:=zg4 A a4 (bz (hA.fr F.2 (λad e _ h=>by have:=a5 ad e;omega)) a6) (U.step F.2 (λb hb e=>by omega));clear F Y U A a4 hA a3 a6;unfold ap;go_wp2_with fail;refine av (v:=.tuple #[ah ({ d with aa:=a',ac:=c' }:Dev).vals,.bool ao]) (by simp[aw,dr,go_sem,ap,z0,z1,z2,z3,z4,z5,z6,z7,z8,z9]) rfl ?_;exact⟨.inr ⟨d,a',c',l,u.1,rfl,u.2.2.1.1,u.2.2.1.2,u.2.1,a9,λad e=>by have:=a5 ad e;omega⟩,u.2.2.2⟩
structure Rec where
 path:a1
 index:af
 props:ae (a1×a1)
 tags:ae a1
 pa:ak am
 pc:K
 ta:ak am
 tc:K
 la:ak am
 ln:K
 lc:K
 ra:ak am
 rn:K
 rc:K
 oa:ak am
 on:K
 oc:K
 name:a1
 prio:af
 owner:a1
 group:a1
 mode:af
def Rec.cell (r:Rec):K->ar
 | 0=>G r.path
 | 1=>L M r.index
 | 2=>R r.pa r.props.length r.pc
 | 3=>R r.ta r.tags.length r.tc
 | 4=>R r.la r.ln r.lc
 | 5=>R r.ra r.rn r.rc
 | 6=>R r.oa r.on r.oc
 | 7=>G r.name
 | 8=>L M r.prio
 | 9=>G r.owner
 | 10=>G r.group
 | _=>L M r.mode
def Rec.vals (r:Rec):bp ar:=#[G r.path,L M r.index,R r.pa r.props.length r.pc,R r.ta r.tags.length r.tc,R r.la r.ln r.lc,R r.ra r.rn r.rc,R r.oa r.on r.oc,G r.name,L M r.prio,G r.owner,G r.group,L M r.mode]
def Rec.zero : Rec:=⟨(),0,[],[],C,0,C,0,C,0,0,C,0,0,C,0,0,(),0,(),(),0⟩
structure RecOk (w:ag)(r:Rec):Prop where
 props:Atts w r.pa r.pc r.props
 tags:Strs w r.ta r.tc r.tags
theorem RecOk.no {r:Rec}(h:RecOk w r)(o:Fr S w w')(u:∀ k,¬ S k):RecOk w' r:=⟨h.props.no o u,h.tags.no o u⟩
theorem RecOk.zero (w:ag):RecOk w Rec.zero:=⟨ch w,Strs.nil w⟩
structure Recs (w:ag)(a:ak am)(cap:K)(l:ae Rec):Prop where
 len:l.length<=cap
 max:cap<=bd
 isNil:a=C->l=[]/\cap=0
 ok:∀ r∈l,RecOk w r
 cell:∀ ad,a=E ad->l≠[]->ad.spot=C/\ad.block<(w:K)/\∀ i r,l[i]?=E r->∀ j,j<12->w.cell? ⟨ad.block,ad.off+(i*12+j),C⟩=E (r.cell j)
structure RecAt (w:ag)(b o:K)(r:Rec):Prop where
 c0:w.cell? ⟨b,o,C⟩=E (G r.path)
 c1:w.cell? ⟨b,o+1,C⟩=E (L M r.index)
 c2:w.cell? ⟨b,o+2,C⟩=E (R r.pa r.props.length r.pc)
 c3:w.cell? ⟨b,o+3,C⟩=E (R r.ta r.tags.length r.tc)
 c4:w.cell? ⟨b,o+4,C⟩=E (R r.la r.ln r.lc)
 c5:w.cell? ⟨b,o+5,C⟩=E (R r.ra r.rn r.rc)
 c6:w.cell? ⟨b,o+6,C⟩=E (R r.oa r.on r.oc)
 c7:w.cell? ⟨b,o+7,C⟩=E (G r.name)
 c8:w.cell? ⟨b,o+8,C⟩=E (L M r.prio)
 c9:w.cell? ⟨b,o+9,C⟩=E (G r.owner)
 c10:w.cell? ⟨b,o+10,C⟩=E (G r.group)
 c11:w.cell? ⟨b,o+11,C⟩=E (L M r.mode)
theorem Recs.elem {y:K}{l:ae Rec}(h:Recs w a y l)(v:k<l.length):
  ∃ b u r,a=E ⟨b,u,C⟩/\l[k]?=E r/\RecOk w r/\RecAt w b (u+k*12) r:=by
 cases a with
 | none=>obtain⟨rfl,_⟩:=h.isNil rfl;simp at v
 | some A=>
  obtain⟨b,u,I⟩:=A;obtain⟨z,J,F⟩:=h.cell _ rfl (by intro e;subst e;simp at v);simp at z;subst z;have o:=F k _ (be v);exact⟨b,u,l[k],rfl,be v,h.ok _ (cl v),⟨o 0 (by omega),o 1 (by omega),o 2 (by omega),o 3 (by omega),o 4 (by omega),o 5 (by omega),o 6 (by omega),o 7 (by omega),o 8 (by omega),o 9 (by omega),o 10 (by omega),o 11 (by omega)⟩⟩
theorem Recs.lenmax {o:K}{l:ae Rec}(h:Recs w a o l):l.length<=9223372036854775807:=by
 have v:=h.len;have u:=h.max;unfold bd at u;omega
theorem Recs.no {o:K}{l:ae Rec}(h:Recs w a o l)(u:Fr S w w')(y:∀ k,¬ S k):Recs w' a o l:=
 ⟨h.len,h.max,h.isNil,λr z=>(h.ok r z).no u y,λA e v=>by
  obtain⟨F,I,J⟩:=h.cell A e v;exact⟨F,Nat.lt_of_lt_of_le I u.size,λi r N j O=>u.cell (J i r N j O) (y _)⟩⟩
theorem Recs.nil (w:ag):Recs w C 0 []:=⟨by simp,by simp,λ_=>⟨rfl,rfl⟩,by simp,λ_ e _=>by cases e⟩
def Rec.is (n:af)(p:a1)(r:Rec):Bool:=decide (r.index=n)&&(r.path.toList==p.toList)
def rplace : ae Rec->af->a1->af
 | [],_,_=>-1
 | r::t,n,p=>if r.is n p then 0 else if rplace t n p<0 then -1 else rplace t n p+1
theorem zDz : ∀ (l:ae Rec) (n:af) (p:a1),(l.find? (Rec.is n p)=C/\rplace l n p=-1)\/∃ (k:K) (r:Rec),l.find? (Rec.is n p)=E r/\rplace l n p=(k:af)/\l[k]?=E r
 | [],n,p=>.inl ⟨rfl,rfl⟩
 | r::t,n,p=>by
  unfold rplace;rw[cv];cases hr:r.is n p with
  | true=>exact .inr ⟨0,r,rfl,rfl,rfl⟩
  | false=>
   rcases zDz t n p with⟨h,o⟩|⟨k,x,h,o,u⟩
   .left;refine⟨h,?_⟩;simp[o]
   .right;refine⟨k+1,x,h,?_,by simpa using u⟩;rw[o,bm (by simp),bm (by omega)];rfl
theorem zDx : ∀ (l:ae Rec) (n:af) (p:a1) (k:K) (r:Rec),l[k]?=E r->r.is n p=ao->(∀ x∈l.take k,x.is n p=a0)->rplace l n p=k
 | [],n,p,k,r,h,_,_=>by simp at h
 | x::t,n,p,0,r,h,e,_=>by simp at h;subst h;simp[rplace,e]
 | x::t,n,p,k+1,r,h,e,o=>by
  have u:x.is n p=false:=o x (by simp);have v:=zDx t n p k r (by simpa using h) e (λy z=>o y (by simp[z]));unfold rplace;rw[u,v];simp;omega
theorem zDy : ∀ (l:ae Rec) (n:af) (p:a1),(∀ x∈l,x.is n p=a0)->rplace l n p=-1
 | [],n,p,_=>rfl
 | x::t,n,p,h=>by
  unfold rplace;rw[h x (by simp),zDy t n p (λy o=>h y (by simp[o]))];simp
theorem zOY (h:W.heap[b]?=E (D cs T))(v:cs.size=12)(r:Rec):
  ((((((((((((W.setCell ⟨b,0,C⟩ (G r.path)).setCell ⟨b,1,C⟩ (L M r.index)).setCell ⟨b,2,C⟩ (R r.pa r.props.length r.pc)).setCell ⟨b,3,C⟩ (R r.ta r.tags.length r.tc)).setCell ⟨b,4,C⟩ (R r.la r.ln r.lc)).setCell ⟨b,5,C⟩ (R r.ra r.rn r.rc)).setCell ⟨b,6,C⟩ (R r.oa r.on r.oc)).setCell ⟨b,7,C⟩ (G r.name)).setCell ⟨b,8,C⟩ (L M r.prio)).setCell ⟨b,9,C⟩ (G r.owner)).setCell ⟨b,10,C⟩ (G r.group)).setCell ⟨b,11,C⟩ (L M r.mode)).heap[b]?=E (D r.vals T)/\Fr (Is b) W ((((((((((((W.setCell ⟨b,0,C⟩ (G r.path)).setCell ⟨b,1,C⟩ (L M r.index)).setCell ⟨b,2,C⟩ (R r.pa r.props.length r.pc)).setCell ⟨b,3,C⟩ (R r.ta r.tags.length r.tc)).setCell ⟨b,4,C⟩ (R r.la r.ln r.lc)).setCell ⟨b,5,C⟩ (R r.ra r.rn r.rc)).setCell ⟨b,6,C⟩ (R r.oa r.on r.oc)).setCell ⟨b,7,C⟩ (G r.name)).setCell ⟨b,8,C⟩ (L M r.prio)).setCell ⟨b,9,C⟩ (G r.owner)).setCell ⟨b,10,C⟩ (G r.group)).setCell ⟨b,11,C⟩ (L M r.mode)):=by
 refine⟨?_,ay (ay (ay (ay (ay (ay (ay (ay (ay (ay (ay (ay (ai _ _) _) _) _) _) _) _) _) _) _) _) _) _⟩;obtain⟨l⟩:=cs
 match l,v with
 | [_,_,_,_,_,_,_,_,_,_,_,_],_=>
  have y:=zE h 0 (G r.path);have z:=zE y 1 (L M r.index);have A:=zE z 2 (R r.pa r.props.length r.pc);have F:=zE A 3 (R r.ta r.tags.length r.tc);have I:=zE F 4 (R r.la r.ln r.lc);have J:=zE I 5 (R r.ra r.rn r.rc);have N:=zE J 6 (R r.oa r.on r.oc);have O:=zE N 7 (G r.name);have U:=zE O 8 (L M r.prio);have V:=zE U 9 (G r.owner);have u:=zE V 10 (G r.group);have o:=zE u 11 (L M r.mode);simp only[List.setIfInBounds_toArray,List.set_cons_zero,List.set_cons_succ]at o;exact o
theorem zPt (r:Rec)(o u:K)(n:af)(p:a1)(w:ag)(v:w.cell? ⟨o,0,C⟩=E (L M n))(y:w.cell? ⟨u,0,C⟩=E (G p)):
  al aj 206 #[ah r.vals,aq (E ⟨o,0,C⟩),aq (E ⟨u,0,C⟩)] w λe w'=>e=.returned (.bool (r.is n p))/\Fr No w w':=by
 have h:Fr No w (w.alloc (D r.vals 81)):=(ai _ _).alloc _;have z:=h.cell v id;have A:=h.cell y id;clear v y;unfold Rec.vals at *;rcases h1:(r.index==n)with _|_
 .have H:ab (r.is n p=a0):=by unfold ab Rec.is;simp at h1;simp[h1]
  go_enter cn,co;go_wp2_with fail
  all_goals (go_ret;exact⟨zL H.symm,h⟩)
 .rcases h2:(r.path.toList==p.toList)with _|_
  .have H:ab (r.is n p=a0):=by unfold ab Rec.is;rw[h2,Bool.and_false]
   go_enter cn,co;go_wp2_with fail
   all_goals (go_ret;exact⟨zL H.symm,h⟩)
  .have H:ab (r.is n p=ao):=by unfold ab Rec.is;simp at h1;rw[h2,Bool.and_true];simp[h1]
   go_enter cn,co;go_wp2_with fail
   all_goals (go_ret;exact⟨zL H.symm,h⟩)
theorem zKs (a:ak am)(z:K)(l:ae Rec)(A F:K)(n:af)(p:a1)(w:ag)(U:Recs w a z l)(h4:w.cell? ⟨A,0,C⟩=E (L M n))(h5:w.cell? ⟨F,0,C⟩=E (G p)):
  al aj 205 #[R a l.length z,.func (.func 206) #[] #[aq (E ⟨A,0,C⟩),aq (E ⟨F,0,C⟩)]] w λe w'=>e=.returned (L M (rplace l n p))/\Fr No w w':=by
 have hm:=U.lenmax;go_enter Tryz.func205,Tryz.ntmps205;go_wp2_with fail;go_loopw [8] (λi wr=>∃ k:K,k<=l.length/\i=L M k/\ab (∀ x∈l.take k,x.is n p=a0)/\Fr No w wr) (λi _=>l.length-(au i).toNat);case atStart=>exact⟨0,by omega,rfl,by unfold ab;simp,ai _ _⟩
 case round=>
  obtain⟨k,hk,rfl,v,o⟩:=hrel;by_cases I:k<l.length
  .have V:(k:af)<l.length:=by omega
   obtain⟨bb,a2,r,rfl,X,_,c0,c1,c2,c3,c4,c5,c6,c7,c8,c9,J,N⟩:=(U.no o (λ_=>id)).elem I;have Y:=zh X;clear X;go_wp2_with fail;apply (zPt r A F n p _ (o.cell h4 id) (o.cell h5 id)).mono;rintro e w1 ⟨rfl,O⟩;have u:=o.step O zi;clear c0 c1 c2 c3 c4 c5 c6 c7 c8 c9 J N;rcases hxn:r.is n p with _|_
   .have y:=zh hxn;clear hxn;go_wp2;go_roundw;case rel=>
     refine⟨k+1,by omega,by go_num,?_,u⟩;unfold ab;intro x Z;rw[bg,Y]at Z;rcases List.mem_append.1 Z with h|h
     .exact v x h
     .simp at h;subst h;exact y.out
    case measure=>simp[au];omega
   .have y:=zh hxn;clear hxn;go_wp2;go_ret;exact⟨zBC (zDx l n p k r Y y v).symm,u⟩
  .obtain rfl:k=l.length:=by omega
   have h:=v.out;rw[bc (by omega)]at h;have Hp:ab (rplace l n p=-1):=zDy _ _ _ h;clear h;go_wp2;go_ret;exact⟨zBC Hp.symm,o⟩
def FoundR (o:ak Rec)(e:bn):Prop:=match o with
 | none=>e=.returned (.tuple #[ah Rec.zero.vals,.bool a0])
 | some r=>e=.returned (.tuple #[ah r.vals,.bool ao])
theorem zMj (a:ak am)(y:K)(l:ae Rec)(n:af)(p:a1)(w:ag)(U:Recs w a y l):
  al aj 156 #[R a l.length y,L M n,G p] w λe w'=>FoundR (l.find? (Rec.is n p)) e/\Fr No w w':=by
 have hm:=U.lenmax;have V:Fr No w (((w.alloc (D #[L M n] 3)).alloc (D #[G p] 9)).alloc (D #[G (),L M 0,R C 0 0,R C 0 0,R C 0 0,R C 0 0,R C 0 0,G (),L M 0,G (),G (),L M 0] 81)):=(((ai _ _).alloc _).alloc _).alloc _;have q4:=(((ai No _).alloc (D #[G p] 9)).alloc (D #[G (),L M 0,R C 0 0,R C 0 0,R C 0 0,R C 0 0,R C 0 0,G (),L M 0,G (),G (),L M 0] 81)).heap (zF w (D #[L M n] 3)) id;have q5:=((ai No _).alloc (D #[G (),L M 0,R C 0 0,R C 0 0,R C 0 0,R C 0 0,R C 0 0,G (),L M 0,G (),G (),L M 0] 81)).heap (zS w (D #[L M n] 3) (D #[G p] 9)) id;have X:=zS (w.alloc (D #[L M n] 3)) (D #[G p] 9) (D #[G (),L M 0,R C 0 0,R C 0 0,R C 0 0,R C 0 0,R C 0 0,G (),L M 0,G (),G (),L M 0] 81);rw[bt]at X;have a4:(((w.alloc (D #[L M n] 3)).alloc (D #[G p] 9)).alloc (D #[G (),L M 0,R C 0 0,R C 0 0,R C 0 0,R C 0 0,R C 0 0,G (),L M 0,G (),G (),L M 0] 81)).heap.size=(w:K)+3:=by simp
 go_enter Tryz.func156,Tryz.ntmps156;go_upto_region 1 with(fail)
 generalize ((w.alloc (D #[L M n] 3)).alloc (D #[G p] 9)).alloc (D #[G (),L M 0,R C 0 0,R C 0 0,R C 0 0,R C 0 0,R C 0 0,G (),L M 0,G (),G (),L M 0] 81)=W0 at *;go_wp2_with fail;apply (zKs a y l _ _ n p _ (U.no V (λ_=>id)) (zB q4 0) (zB q5 0)).mono;rintro e w1 ⟨rfl,h⟩;have z:=(U.no V (λ_=>id)).no h (λ_=>id);have F:=V.step h zi;have A:=h.heap X id;have a5:=h.size;clear q4 q5 X V h U;obtain⟨z0,z1,z2,z3,z4,z5,z6,z7,z8,z9,I,J⟩:=cl12 A;obtain⟨y0,y1,y2,y3,y4,y5,y6,y7,y8,y9,a6,a7⟩:=fl12 A;rcases zDz l n p with⟨N,O⟩|⟨k,r,N,O,Y⟩
 .rw[O];have Z:=zh N;have o:=zOY A rfl Rec.zero;have u:=zh (F.step o.2 (λb hb e=>by omega));clear o A z N O;go_wp2_with fail;refine av (v:=.tuple #[ah Rec.zero.vals,.bool a0]) (by simp[aw,dp,go_sem,Rec.vals,Rec.zero,z0,z1,z2,z3,z4,z5,z6,z7,z8,z9,I,J];try rfl) rfl ?_;exact⟨by rw[Z];rfl,u⟩
 .rw[O];have Z:=zh N;have a2:k<l.length:=(List.getElem?_eq_some_iff.1 Y).1;have a3:(k:af)<l.length:=by omega
  obtain⟨bb,a8,r',rfl,hr,_,c0,c1,c2,c3,c4,c5,c6,c7,c8,c9,a9,b0⟩:=z.elem a2;rw[Y]at hr;cases hr;have o:=zOY A rfl r;have u:=zh (F.step o.2 (λb hb e=>by omega));clear o A z N O Y;go_wp2_with fail;refine av (v:=.tuple #[ah r.vals,.bool ao]) (by simp[aw,dp,go_sem,Rec.vals,z0,z1,z2,z3,z4,z5,z6,z7,z8,z9,I,J]) rfl ?_;exact⟨by rw[Z];rfl,u⟩
def isKey (key:a1)(x:a1×a1):Bool:=x.1.toList==key.toList
def getP (l:ae (a1×a1))(key:a1):a1:=((l.find? (isKey key)).map (·.2)).getD ⟨#[]⟩
theorem zCq {α:Type}(p:α->ba):∀ (l:ae α) (k:K) (x:α),l[k]?=E x->p x=ao->(∀ y∈l.take k,p y=a0)->l.find? p=E x
 | [],k,x,h,_,_=>by simp at h
 | y::t,0,x,h,e,_=>by simp at h;subst h;simp[e]
 | y::t,k+1,x,h,e,o=>by
  have u:p y=false:=o y (by simp);rw[cv,u];exact zCq p t k x (by simpa using h) e (λz v=>o z (by simp[v]))
theorem zHm {α:Type}(p:α->ba)(l:ae α)(h:∀ y∈l,p y=a0):l.find? p=none:=by
 rw[cw];intro y o;simp[h y o]
theorem zJW (r:Rec)(o:a1)(w:ag)(O:RecOk w r):
  al aj 157 #[ah r.vals,G o] w λe w'=>e=.returned (G (getP r.props o))/\Fr No w w':=by
 have I:Fr No w (w.alloc (D r.vals 81)):=(ai _ _).alloc _;have U:=O.props.no I (λ_=>id);have Z:=U.lenmax;unfold Rec.vals at *;clear O;go_enter Tryz.func157,Tryz.ntmps157;go_wp2_with fail;generalize w.alloc (D _ 81)=W0 at *;go_loopw [10] (λi wr=>∃ k:K,k<=r.props.length/\i=L M k/\ab (∀ x∈r.props.take k,isKey o x=a0)/\Fr No W0 wr) (λi _=>r.props.length-(au i).toNat);case atStart=>exact⟨0,by omega,rfl,by unfold ab;simp,ai _ _⟩
 case round=>
  obtain⟨k,hk,rfl,v,u⟩:=hrel;by_cases J:k<r.props.length
  .have V:(k:af)<r.props.length:=by omega
   obtain⟨bb,Y,x,y,ha,A,-,-,c0,c1⟩:=(U.no u (λ_=>id)).at J;have F:=zh A;clear A;rcases he:(x.toList==o.toList)with _|_
   .go_wp2;go_roundw;case rel=>
     refine⟨k+1,by omega,by go_num,?_,u.alloc _⟩;unfold ab;intro z X;rw[bg,F]at X;rcases List.mem_append.1 X with h|h
     .exact v z h
     .simp at h;subst h;exact he
    case measure=>simp[au];omega
   .have N:ab (getP r.props o=y):=(by unfold ab getP;rw[zCq (isKey o) _ _ _ F he v];rfl);go_wp2;go_ret;exact⟨by rw[N];rfl,(I.step u zi).alloc _⟩
  .obtain rfl:k=r.props.length:=by omega
   have h:=v.out;rw[bc (by omega)]at h;have N:ab (getP r.props o=()):=(by unfold ab getP;rw[zHm _ _ h];rfl);go_wp2;go_ret;exact⟨by rw[N];rfl,I.step u zi⟩
def GotS (s:a1)(e:bn):Prop:=∃ b,e=.returned (.tuple #[G s,.bool b])
theorem zMX (a:ak am)(A:K)(l:ae (a1×a1))(o:a1)(w:ag)(O:Atts w a A l):
  al aj 75 #[R a l.length A,G o] w λe w'=>GotS (getP l o) e/\Fr No w w':=by
 have Y:=O.lenmax;go_enter Tryz.func75,Tryz.ntmps75;go_wp2_with fail
 go_loop [6] (λi=>∃ k:K,k<=l.length/\i=L M k/\ab (∀ x∈l.take k,isKey o x=a0)) (λi=>l.length-(au i).toNat)
 case atStart=>exact⟨0,by omega,rfl,by unfold ab;simp⟩
 case round=>
  obtain⟨k,Z,rfl,u⟩:=hrel;by_cases J:k<l.length
  .have U:(k:af)<l.length:=by omega
   obtain⟨bb,X,x,y,rfl,F,-,-,c0,c1⟩:=O.at J;have I:=zh F;clear F;rcases he:(x.toList==o.toList)with _|_
   .go_wp2_with fail
    go_round
    case rel=>
     refine⟨k+1,by omega,by go_num,?_⟩;unfold ab;intro z V;rw[bg,I]at V;rcases List.mem_append.1 V with h|h
     .exact u z h
     .simp at h;subst h;exact he
    case measure=>simp[au];omega
   .have N:ab (getP l o=y):=(by unfold ab getP;rw[zCq (isKey o) _ _ _ I he u];rfl);go_wp2_with fail;refine av (v:=.tuple #[G y,.bool ao]) (by simp[aw,du,go_sem]) rfl ?_;exact⟨⟨ao,by rw[N]⟩,ai _ _⟩
  .obtain rfl:k=l.length:=by omega
   have h:=u.out;rw[bc (by omega)]at h;have N:ab (getP l o=()):=(by unfold ab getP;rw[zHm _ _ h];rfl);go_wp2_with fail;refine av (v:=.tuple #[G (),.bool a0]) (by simp[aw,du,go_sem]) rfl ?_;exact⟨⟨a0,by rw[N]⟩,ai _ _⟩
structure ErrV (w:ag):Prop where
 s:∃ ev,w.cell? ⟨7,0,C⟩=E ev/\(ev=.nilIface\/∃ te pe,ev=.iface te pe)
 r:∃ ev,w.cell? ⟨8,0,C⟩=E ev/\(ev=.nilIface\/∃ te pe,ev=.iface te pe)
theorem ErrV.fr (h:ErrV w)(o:Fr S w w')(u:¬ S 7)(v:¬ S 8):ErrV w':=by
 obtain⟨y,z,A⟩:=h.s;obtain⟨F,I,J⟩:=h.r;exact⟨⟨y,o.cell z u,A⟩,⟨F,o.cell I v,J⟩⟩
theorem ErrV.no (h:ErrV w)(o:Fr No w w'):ErrV w':=h.fr o id id
def zAQ (p d:Dev):a1:=⟨(cj d.orig.data.toList (p.orig++⟨#[112]⟩).data.toList).toArray⟩
def partB (p d:Dev):ak af:=match bo (zAQ p d).data.toList with
 | .ok v=>if az d.orig.data.toList (p.orig++⟨#[112]⟩).data.toList=ao/\1<=v/\v<=16/\(br v.toNat)=(zAQ p d).data.toList/\d.kind=2/\p.kind=2 then E v else C
 | _=>C
def zAW (o:ak af)(e:bn):Prop:=e=.returned (.tuple #[L M (o.getD 0),.bool o.isSome])
theorem zHo (h:d.orig.size<=32):(zAQ p d).size<=32:=by
 unfold zAQ cj;have o:d.orig.data.toList.length<=32:=by rw[<-Lib.size_eq];exact h
 split;·simp only[cr,dd,List.length_drop];omega
 .simp only[cr,dd];exact o
def cutB (p d:Dev):Bool:=az d.orig.data.toList (p.orig++⟨#[112]⟩).data.toList
theorem zPK (s q:a1)(w:ag):al aj 196 #[G s,G q] w λe w'=>e=.returned (.tuple #[G ⟨(cj s.data.toList q.data.toList).toArray⟩,.bool (az s.data.toList q.data.toList)])/\w=w':=
 (Tryz.strings_CutPrefix s q w).mono λe w' h=>⟨h.1,h.2.symm⟩
theorem zJr (p d:Dev)(w:ag):al aj 196 #[G d.orig,G (p.orig++⟨#[112]⟩)] w λe w'=>e=.returned (.tuple #[G (zAQ p d),.bool (cutB p d)])/\w=w':=by
 unfold zAQ cutB;exact zPK _ _ w
def AtoiR (s:a1)(e:bn):Prop:=
 (∃ v,bo s.data.toList=.ok v/\e=.returned (.tuple #[L M v,.nilIface]))\/((∀ v,bo s.data.toList≠.ok v)/\∃ (k:af) (te:bx) (N:K),e=.returned (.tuple #[L M k,.iface te (aq (E ⟨N,0,C⟩))]))
theorem zI7 (s:a1)(w:ag)(U:s.size<=1000)(u:ErrV w):al aj 239 #[G s] w λe w'=>AtoiR s e/\Fr No w w':=by
 obtain⟨y,z,A⟩:=u.s;obtain⟨F,I,J⟩:=u.r;rcases h:bo s.data.toList with v|_|_
 .apply (Tryz.strconv_Atoi_ok s (by omega) v h w).mono;rintro e w' ⟨rfl,O⟩;refine⟨.inl ⟨v,h,rfl⟩,?_⟩;rcases O with rfl|⟨t,rfl⟩
  .exact ai _ _
  .exact cd (Lib.bytesWorld_below _ _ _)
 .apply (Any.strconv_Atoi_syntax Tryz.laysC172 s (by omega) h y w z A).mono;rintro e w' ⟨N,rfl,_,_,o⟩;exact⟨.inr ⟨λv e=>(by rw[h]at e;cases e),0,_,N,rfl⟩,cd o⟩
 .apply (Tryz.strconv_Atoi_range s (by omega) h F w I J).mono;rintro e w' ⟨N,rfl,_,_,o⟩;exact⟨.inr ⟨λv e=>(by rw[h]at e;cases e),_,_,N,rfl⟩,cd o⟩
theorem zKl (h:cutB p d=a0):partB p d=none:=by
 unfold cutB at h;unfold partB;split;·rw[bm (by rw[h];simp)]
 .rfl
theorem zD6 (h:∀ v,bo (zAQ p d).data.toList≠.ok v):partB p d=none:=by
 unfold partB;split;·rename_i v e;exact bq e (h v)
 .rfl
theorem zFe {v:af}(h:bo (zAQ p d).data.toList=.ok v):partB p d=if cutB p d=ao/\1<=v/\v<=16/\(br v.toNat)=(zAQ p d).data.toList/\d.kind=2/\p.kind=2 then E v else none:=by
 unfold partB cutB;rw[h]
theorem zHP (p d:Dev)(w:ag)(hE:ErrV w)(hd:d.orig.size<=32)(hp:p.orig.size<=32):
  al aj 204 #[ah p.vals,ah d.vals] w λe w'=>zAW (partB p d) e/\Fr No w w':=by
 have hx:Fr No w ((w.alloc (D p.vals 40)).alloc (D d.vals 40)):=((ai _ _).alloc _).alloc _;have q2:=zP w (D p.vals 40) (D d.vals 40);have q3:=zS w (D p.vals 40) (D d.vals 40);have a9:=zHo (p:=p) hd;unfold ap at *;go_enter Tryz.func204,Tryz.ntmps204;go_upto_region 1 with(fail)
 generalize (w.alloc (D _ 40)).alloc (D _ 40)=W0 at *;have a3:W0.cell? ⟨w,3,C⟩=E (G p.orig):=zB q2 3;have a4:W0.cell? ⟨(w:K)+1,3,C⟩=E (G d.orig):=zB q3 3;have b0:(p.orig++(⟨#[112]⟩:a1)).size<=9223372036854775807:=by rw[ByteArray.size_append];show p.orig.size+1<=_;omega
 go_wp2_with fail;apply (zJr p d _).mono;rintro e w1 ⟨rfl,rfl⟩;have O:ab (cutB p d=a0->partB p d=C):=λh=>zKl h
 have U:ab ((∀ v,bo (zAQ p d).data.toList≠.ok v)->partB p d=C):=λh=>zD6 h
 have a5:ab (∀ v,bo (zAQ p d).data.toList=.ok v->partB p d=if cutB p d=ao/\1<=v/\v<=16/\(br v.toNat)=(zAQ p d).data.toList/\d.kind=2/\p.kind=2 then E v else C):=λv h=>zFe h
 generalize zAQ p d=dg at *;generalize cutB p d=cb at *;go_wp2_with fail;apply (zI7 dg _ (by omega) (hE.no hx)).mono;rintro e w2 ⟨hR,y⟩;have a6:=y.heap q2 id;have a7:=y.heap q3 id;have z:=zh (hx.step y zi);clear a3 a4 q2 q3 hx y;have b1:w2.cell? ⟨(w:K)+1,7,C⟩=E (L M d.kind):=zB a7 7;have b2:w2.cell? ⟨w,7,C⟩=E (L M p.kind):=zB a6 7;cases cb with
 | false=>
  have u:ab (partB p d=C):=O.out rfl;rcases hR with⟨v,I,rfl⟩|⟨I,k,te,N,rfl⟩
  .go_wp2;go_ret2;exact⟨by unfold zAW;rw[u];rfl,z⟩
  .go_wp2;go_ret2;exact⟨by unfold zAW;rw[u];rfl,z⟩
 | true=>
  rcases hR with⟨v,I,rfl⟩|⟨I,k,te,N,rfl⟩
  .have o:=zh (a5 v I);clear I;by_cases h1:v<1
   .have u:ab (partB p d=C):=(by unfold ab;rw[o,bm (by omega)]);go_wp2;go_ret2;exact⟨by unfold zAW;rw[u];rfl,z⟩
   by_cases b3:16<v
   .have u:ab (partB p d=C):=(by unfold ab;rw[o,bm (by omega)]);go_wp2;go_ret2;exact⟨by unfold zAW;rw[u];rfl,z⟩
   obtain⟨i,rfl⟩:=Int.eq_ofNat_of_zero_le (show 0<=v by omega);go_wp2_with fail;apply (Tryz.strconv_Itoa_small i (by omega) _).mono;rintro e w3 ⟨rfl,rfl⟩;obtain⟨it,J⟩:∃ it,it=(⟨(br i).toArray⟩:a1):=⟨_,rfl⟩
   rw[<-J];have V:ab ((it.toList==dg.toList)=decide (br i=dg.data.toList)):=by
    unfold ab;rw[J,Bool.eq_iff_iff,beq_iff_eq,decide_eq_true_iff,ByteArray.toList_eq,ByteArray.toList_eq]
   have X:((i:af).toNat)=i:=(by simp);have Y:=zh X;clear J X;rcases hie:(it.toList==dg.toList)with _|_
   .have u:ab (partB p d=C):=by
     unfold ab;rw[o,bm];rintro ⟨_,_,_,h,_⟩;rw[Y]at h;have:=V.out;rw[hie,decide_eq_true h]at this;cases this
    go_wp2;go_ret2;exact⟨by unfold zAW;rw[u];rfl,z⟩
   have a8:ab (br i=dg.data.toList):=by
    unfold ab;have:=V.out;rw[hie]at this;exact of_decide_eq_true this.symm
   by_cases A:d.kind=2
   .have Z:(d.kind != 2)=false:=(by simpa using A);by_cases F:p.kind=2
    .have a2:(p.kind != 2)=false:=(by simpa using F);have u:ab (partB p d=E (i:af)):=(by unfold ab;rw[o,if_pos ⟨by trivial,by omega,by omega,by rw[Y];exact a8,A,F⟩]);go_wp2;go_ret2;exact⟨by unfold zAW;rw[u];rfl,z⟩
    .have a2:(p.kind != 2)=true:=(by simpa using F);have u:ab (partB p d=C):=(by unfold ab;rw[o,bm (λh=>F h.2.2.2.2.2)]);go_wp2;go_ret2;exact⟨by unfold zAW;rw[u];rfl,z⟩
   .have Z:(d.kind != 2)=true:=(by simpa using A);have u:ab (partB p d=C):=(by unfold ab;rw[o,bm (λh=>A h.2.2.2.2.1)]);go_wp2;go_ret2;exact⟨by unfold zAW;rw[u];rfl,z⟩
  .have u:ab (partB p d=C):=U.out I;clear I;go_wp2;go_ret2;exact⟨by unfold zAW;rw[u];rfl,z⟩
def partOf (ds:ae Dev)(n:af):ak af:=match look ds n with
 | none=>C
 | some d=>match look ds d.parent with
  | none=>C
  | some p=>partB p d
theorem zPm (a:ak am)(o:K)(ds:ae Dev)(y:K)(n:af)(w:ag)(hl:Tr w y a o ds)(hE:ErrV w):
  al aj 153 #[ah #[R a ds.length o],L M n] w λe w'=>zAW (partOf ds n) e/\Fr No w w':=by
 have hT:=hl.wf.1;have hx:Fr No w (w.alloc (D #[R a ds.length o] 53)):=(ai _ _).alloc _;have q2:=zF w (D #[R a ds.length o] 53);go_enter Tryz.func153,Tryz.ntmps153;go_wp2_with fail;apply (zBl a o ds y n _ (hl.no hx)).mono;rintro e J ⟨X,N⟩;have Y:=N.heap q2 id;have F:=hx.step N zi;clear q2 hx N;rcases X with⟨h,rfl⟩|⟨d,z,A,la,h,rfl,-⟩
 .have Z:ab (partOf ds n=C):=by unfold ab partOf;rw[h]
  have I:Fr No J (J.alloc (D Dev.zero.vals 40)):=(ai _ _).alloc _;have O:=I.heap Y id;have u:=F.step I zi;have c2:(J.alloc (D Dev.zero.vals 40)).cell? ⟨w,0,C⟩=E (R a ds.length o):=zB O 0;unfold ap ax at *;clear h;go_wp2_with fail;apply (zBl a o ds y 0 _ (hl.no u)).mono;rintro e w2 ⟨X,v⟩;rcases X with⟨h,rfl⟩|⟨d,z,A,la,h,rfl,-⟩
  .have Hf:=zh ((u.step v zi).alloc (D Dev.zero.vals 40));unfold ap ax at *;clear v u I h;go_wp2;go_ret2;exact⟨by unfold zAW;rw[Z];rfl,Hf⟩
  .rw[hT.zero]at h;cases h
 .have hd:=zAJ h;have I:Fr No J (J.alloc (D ({ d with aa:=z,ac:=A }:Dev).vals 40)):=(ai _ _).alloc _;have O:=I.heap Y id;have q6:=zF J (D ({ d with aa:=z,ac:=A }:Dev).vals 40);have u:=F.step I zi;have c2:(J.alloc (D ({ d with aa:=z,ac:=A }:Dev).vals 40)).cell? ⟨w,0,C⟩=E (R a ds.length o):=zB O 0;have a2:=zh h;have Hd:=zh hd.1;unfold ap at *;clear h hd;go_wp2_with fail;apply (zBl a o ds y d.parent _ (hl.no u)).mono;rintro e w2 ⟨X,v⟩;rcases X with⟨h,rfl⟩|⟨p,U,V,lp,h,rfl,-⟩
  .have Z:ab (partOf ds n=C):=by unfold ab partOf;rw[a2.out];simp only;rw[h]
   have Hf:=zh ((u.step v zi).alloc (D Dev.zero.vals 40));unfold ap ax at *;clear v u I h;go_wp2;go_ret2;exact⟨by unfold zAW;rw[Z];rfl,Hf⟩
  .have Z:ab (partOf ds n=partB p d):=by unfold ab partOf;rw[a2.out];simp only;rw[h]
   have a6:=(zAJ h).1;have hz:Fr No w2 (w2.alloc (D ({ p with aa:=U,ac:=V }:Dev).vals 40)):=(ai _ _).alloc _;have a3:=hz.heap (v.heap q6 id) id;have a4:=(u.step v zi).step hz zi;obtain⟨d0,d1,d2,d3,d4,d5,d6,d7,d8,d9⟩:=cl10 a3;have hP:=zHP ({ p with aa:=U,ac:=V }:Dev) ({ d with aa:=z,ac:=A }:Dev) _ (hE.no a4) (hT.sz d Hd) (hT.sz p a6);have e:partB ({ p with aa:=U,ac:=V }:Dev) ({ d with aa:=z,ac:=A }:Dev)=partB p d:=rfl;rw[e]at hP;have HP:=zh hP;have a7:=zh a4;unfold ap at *;clear hP e v u I hz h a3 q6 F;generalize partB p d=res at *;go_wp2_with fail;apply HP.mono;rintro e w3 ⟨he,a5⟩;unfold zAW at he;subst he;have Hf:=zh (a7.step a5 zi);clear a5;go_wp2;go_ret2;exact⟨by unfold zAW;rw[Z];rfl,Hf⟩
def zAM : a1:=⟨#[99,111,110,116,101,110,116]⟩
theorem zPI (a:ak am)(A:K)(l:ae (a1×a1))(o:a1)(w:ag)(O:Atts w a A l):
  al aj 105 #[R a l.length A,G o] w λe w'=>GotS (getP l o) e/\Fr No w w':=by
 have Y:=O.lenmax;go_enter Tryz.func105,Tryz.ntmps105;go_wp2_with fail;go_loopw [10] (λi wr=>∃ k:K,k<=l.length/\i=L M k/\ab (∀ x∈l.take k,isKey o x=a0)/\Fr No w wr) (λi _=>l.length-(au i).toNat);case atStart=>exact⟨0,by omega,rfl,by unfold ab;simp,ai _ _⟩
 case round=>
  obtain⟨k,Z,rfl,v,u⟩:=hrel;by_cases J:k<l.length
  .have U:(k:af)<l.length:=by omega
   obtain⟨bb,X,x,y,ha,F,-,-,c0,c1⟩:=(O.no u (λ_=>id)).at J;have I:=zh F;clear F;rcases he:(x.toList==o.toList)with _|_
   .go_wp2;go_roundw;case rel=>
     refine⟨k+1,by omega,by go_num,?_,u.alloc _⟩;unfold ab;intro z V;rw[bg,I]at V;rcases List.mem_append.1 V with h|h
     .exact v z h
     .simp at h;subst h;exact he
    case measure=>simp[au];omega
   .have N:ab (getP l o=y):=(by unfold ab getP;rw[zCq (isKey o) _ _ _ I he v];rfl);go_wp2;go_ret2;exact⟨⟨ao,by rw[N];rfl⟩,u.alloc _⟩
  .obtain rfl:k=l.length:=by omega
   have h:=v.out;rw[bc (by omega)]at h;have N:ab (getP l o=()):=(by unfold ab getP;rw[zHm _ _ h];rfl);go_wp2;go_ret2;exact⟨⟨a0,by rw[N];rfl⟩,u⟩
theorem zL6 (d:Dev)(l:ae (a1×a1))(w:ag)(y:Atts w d.aa d.ac l)(o:d.an=l.length):
  al aj 111 #[ah d.vals] w λe w'=>e=.returned (G (getP l zAM))/\Fr No w w':=by
 obtain⟨F,h,z,A⟩:=zy w (D d.vals 40);have u:=zPI d.aa d.ac l zAM F (y.no z (λ_=>id));rw[<-o]at u;have J:=(DevB.of A).c9;unfold ap at h ⊢;unfold zAM at u;clear A o y;have I:ab (getP l zAM=getP l ⟨#[99,111,110,116,101,110,116]⟩):=rfl;rw[I];generalize getP l ⟨#[99,111,110,116,101,110,116]⟩=g at *;go_enter Tryz.func111,Tryz.ntmps111;go_upto_region 1 with(fail)
 rw[<-h];clear h;go_wp2_with fail;apply u.mono;rintro e N ⟨⟨b,rfl⟩,v⟩;clear u;go_wp2;go_ret;exact⟨rfl,z.step v zi⟩
def preB (s:a1):Bool:=az s.data.toList [109,100,45]||Lib.hasPrefix s.data.toList [111,112,101,110,45]||Lib.hasPrefix s.data.toList [108,118,45]
def virB (ds:ae Dev)(n:af):Bool:=match look ds n with
 | none=>a0
 | some d=>(partOf ds n).isSome||(d.parent==0&&preB d.orig)
theorem zHE (h:K)(d:Dev)(s:a1)(w:ag)(o:w.heap[h]?=E (D d.vals 40)):
  al aj 154 #[G s,aq (E ⟨h,0,C⟩)] w λe w'=>e=.returned (.bool (az d.orig.data.toList s.data.toList))/\w=w':=by
 have u:=(DevB.of o).c3;clear o;go_enter Tryz.func154,Tryz.ntmps154;go_wp2_with fail;apply (Tryz.strings_HasPrefix d.orig s _).mono;rintro e v ⟨rfl,rfl⟩;go_wp2;go_ret;exact⟨rfl,rfl⟩
theorem zOB (o b:K)(d:Dev)(w:ag)(I:w.heap[o]?=E (D d.vals 40))(X:w.heap[b]?=E (D #[G ⟨#[109,100,45]⟩,G ⟨#[111,112,101,110,45]⟩,G ⟨#[108,118,45]⟩] 9)):
  al aj 36 #[R (E ⟨b,0,C⟩) 3 3,.func (.func 154) #[] #[aq (E ⟨o,0,C⟩)]] w λe w'=>e=.returned (.bool (preB d.orig))/\Fr No w w':=by
 obtain⟨e0,e1,e2⟩:=cl3 X;have Y:=zh (zHE o d ⟨#[109,100,45]⟩ w I);have Z:=zh (zHE o d ⟨#[111,112,101,110,45]⟩ w I);have H2:=zh (zHE o d ⟨#[108,118,45]⟩ w I);have J:ab (preB d.orig=(az d.orig.data.toList [109,100,45]||Lib.hasPrefix d.orig.data.toList [111,112,101,110,45]||Lib.hasPrefix d.orig.data.toList [108,118,45])):=rfl;generalize preB d.orig=pb at *;have N:ab (al aj 154 #[G ⟨#[109,100,45]⟩,aq (E ⟨o,0,C⟩)] w λe w'=>e=.returned (.bool (az d.orig.data.toList [109,100,45]))/\w=w'):=Y.out;have O:ab (al aj 154 #[G ⟨#[111,112,101,110,45]⟩,aq (E ⟨o,0,C⟩)] w λe w'=>e=.returned (.bool (az d.orig.data.toList [111,112,101,110,45]))/\w=w'):=Z.out;have U:ab (al aj 154 #[G ⟨#[108,118,45]⟩,aq (E ⟨o,0,C⟩)] w λe w'=>e=.returned (.bool (az d.orig.data.toList [108,118,45]))/\w=w'):=H2.out;clear Y Z H2 I X;generalize az d.orig.data.toList [109,100,45]=p0 at *;generalize az d.orig.data.toList [111,112,101,110,45]=p1 at *;generalize az d.orig.data.toList [108,118,45]=p2 at *;refine(show al aj 36 _ _ (λe w'=>e=.returned (.bool pb)/\w'=w)from ?_).mono (λe w' h=>⟨h.1,by rw[h.2];exact ai _ _⟩);have v:al aj 76 #[R (E ⟨b,0,C⟩) 3 3,.func (.func 154) #[] #[aq (E ⟨o,0,C⟩)]] w λe w'=>(∃ r:af,e=.returned (L M r)/\decide (0<=r)=pb)/\w'=w:=by
  go_enter Tryz.func76,Tryz.ntmps76;go_wp2_with fail;go_loopw [8] (λi wr=>wr=w/\((i=L M 0)\/(i=L M 1/\p0=a0)\/(i=L M 2/\p0=a0/\p1=a0)\/(i=L M 3/\p0=a0/\p1=a0/\p2=a0))) (λi _=>3-(au i).toNat);case atStart=>exact⟨rfl,.inl rfl⟩
  case round=>
   obtain⟨rfl,h⟩:=hrel;rcases h with rfl|⟨rfl,y⟩|⟨rfl,y,A⟩|⟨rfl,y,A,h2⟩
   .go_wp2_with fail;apply N.mono;rintro e V ⟨rfl,rfl⟩;cases hq:p0 with
    | true=>
     have z:ab (pb=ao):=(by unfold ab;rw[J,hq];rfl);clear hq;go_wp2;go_ret;exact⟨⟨0,rfl,by rw[z];rfl⟩,rfl⟩
    | false=>
     have F:=zh hq;clear hq;go_wp2;go_roundw;case rel=>exact⟨trivial,.inr (.inl ⟨rfl,F⟩)⟩
     case measure=>simp[au]
   .have u:=zh y;clear y;go_wp2_with fail;apply O.mono;rintro e V ⟨rfl,rfl⟩;cases hq:p1 with
    | true=>
     have z:ab (pb=ao):=(by unfold ab;rw[J.out,hq];simp);clear hq;go_wp2;go_ret;exact⟨⟨1,rfl,by rw[z];rfl⟩,rfl⟩
    | false=>
     have F:=zh hq;clear hq;go_wp2;go_roundw;case rel=>exact⟨trivial,.inr (.inr (.inl ⟨rfl,u,F⟩))⟩
     case measure=>simp[au]
   .have u:=zg2 y A;clear y A;go_wp2_with fail;apply U.mono;rintro e V ⟨rfl,rfl⟩;cases hq:p2 with
    | true=>
     have z:ab (pb=ao):=(by unfold ab;rw[J.out,hq];simp);clear hq;go_wp2;go_ret;exact⟨⟨2,rfl,by rw[z];rfl⟩,rfl⟩
    | false=>
     have F:=zh hq;clear hq;go_wp2;go_roundw;case rel=>exact⟨trivial,.inr (.inr (.inr ⟨rfl,u.1,u.2,F⟩))⟩
     case measure=>simp[au]
   .have z:ab (pb=a0):=(by unfold ab;rw[J,y,A,h2];rfl);clear y A h2;go_wp2;go_ret;exact⟨⟨-1,rfl,by rw[z];rfl⟩,rfl⟩
 clear e0 e1 e2;go_enter Tryz.func36,Tryz.ntmps36;go_wp2_with fail;apply v.mono;rintro e V ⟨⟨r,rfl,hr⟩,rfl⟩;have Hr:=zh hr;clear hr v;go_wp2;go_ret;exact⟨zL Hr,rfl⟩
end Go.Proofs.YtifphhgcelkflaaGreatDoor
