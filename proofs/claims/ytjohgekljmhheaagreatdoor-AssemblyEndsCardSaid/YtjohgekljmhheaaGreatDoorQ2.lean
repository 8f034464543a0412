import Derived.Test.YtjohgekljmhheaaGreatDoorQ1
import Derived.Lib.SliceRun
import Derived.Test.YtjohgekljmhheaaGreatDoorStrs2
namespace Go.Proofs.YtjohgekljmhheaaGreatDoor
open Go.RowKit Go.Maps
set_option linter.unusedVariables false
set_option maxRecDepth 100000
set_option maxHeartbeats 2000000
open And renaming intro->bu
open Atts renaming nil->ce
open Dev renaming vals->am,zero->av,index->cf
open Fr renaming refl->ag,setAt->aw,of_grown_some->bs,of_below_size->bw
open Go renaming World->ab,Calls->aj,Addr->ak,bodyPost_ret->aq,results->ar,Value->au,maxLen->ba,Ending->bi,wpList_mapUpdate_own->dw
open Go.Lib renaming hasPrefix->ax,joinTail->bg,atoiAll->bj,decDigits->bp,join->bt,trimPrefix->cg,join_cons->cq
open Go.Lit renaming int->ca
open Go.Proofs renaming intOf->ap
open Go.Proofs.Tryz renaming prog->ah,results57->cd,func147->ck,ntmps147->cl,func115->df,func24->dh,func57->di,ntmps115->dj,ntmps24->dk,ntmps57->dl,results242->dm,results29->dn,results34->dp,results47->dq,results94->dr,underlying3->dt,underlying46->du
open Go.RowKit renaming Hid->m
open Go.Value renaming string->cm
open Go.WalkArith renaming wf_i64->cn
open Go.World renaming cell?->bq,size_alloc->br
open IntKind renaming i64->G
open Obj renaming cells->P
open Value renaming slice->M,int->L,string->ae,agg->af,pointer->ao
open _root_ renaming Nat->E,ByteArray->R,List->a0,Int->a1,Option->ai,Bool->ay,if_neg->bh,Array->bn,absurd->bo
open _root_.Array renaming getElem?_toList->co
open _root_.Bool renaming false->D,true->al
open _root_.ByteArray renaming empty->bv,size->cp
open _root_.List renaming take_of_length_le->az,getElem?_eq_getElem->bc,mem_of_getElem?->bd,take_add_one->be,toArray->bm,eq_nil_of_length_eq_zero->bx,getElem_map->bz,find?->ch,getElem_mem->ci,length_append->cj,find?_cons->ct,find?_eq_none->cu,flatten_cons->cv,foldl_append->cw,getElem?_take_of_lt->cx,length_cons->cy,length_nil->cz,map_cons->da,size_toArray->db,take_sublist->dc
open _root_.List.Sublist renaming map->cr
open _root_.Nat renaming le_refl->bf,zero_add->dd
open _root_.Option renaming none->C,some->Q,getD_some->de
variable{w W w':ab}{b k:E}{l:a0 (R×R)}{T:TypeId}{o u v y z A F I J N:au}{S:E->Prop}{d p:Dev}{a:ai ak}{ds:a0 Dev}{t:a0 au}{cs:bn au}
def zAJ : a0 R:=[
 (),
 ⟨#[102,115,58,102,58]⟩,
 ⟨#[102,115,58,103,58,76]⟩,
 ⟨#[114,97,105,100,58,114,58,49,47,50,47,49,40,102,115,58,102,58,41]⟩,
 ⟨#[114,97,105,100,58,114,58,50,47,50,47,49,40,102,115,58,102,58,41]⟩,
 ⟨#[99,114,121,112,116,58,99,40,102,115,58,103,58,41]⟩,
 ⟨#[112,118,58,118,58,49,47,49,40,102,115,58,102,58,44,99,114,121,112,116,58,99,40,102,115,58,104,58,41,41]⟩,
 ⟨#[116,97,98,108,101,58,116,40,102,115,58,102,58,44,99,114,121,112,116,58,99,40,114,97,105,100,58,114,58,49,47,50,47,49,40,102,115,58,120,58,41,41,41]⟩,
 ⟨#[116,97,98,108,101,58,116,40,114,97,105,100,58,114,58,49,47,50,47,49,40,116,97,98,108,101,58,117,40,102,115,58,102,58,41,41,44,114,97,105,100,58,114,58,50,47,50,47,49,40,116,97,98,108,101,58,117,40,102,115,58,102,58,41,41,41]⟩,
 ⟨#[114,97,105,100,58,114,58,49,47,49,47,49,40,114,97,105,100,58,114,58,49,47,49,47,49,40,102,115,58,102,58,41,41]⟩,
 ⟨#[112,118,58,118,58,49,47,50,40,102,115,58,102,58,41]⟩,
 ⟨#[112,118,58,118,58,50,47,50,40,102,115,58,102,58,41]⟩,
 ⟨#[99,114,121,112,116,58,100,40,112,118,58,118,58,49,47,49,40,114,97,105,100,58,115,58,49,47,51,47,50,40,102,115,58,121,58,41,41,41]⟩,
 ⟨#[114,97,105,100,58,115,58,50,47,51,47,50,40,102,115,58,121,58,41]⟩,
 ⟨#[114,97,105,100,58,115,58,51,47,51,47,50,40,102,115,58,121,58,41]⟩,
 ⟨#[110,111,110,115,101,110,115,101]⟩]
theorem zBu: (zAJ:E)=16:=rfl
theorem Strs.of_block {l:a0 R}{o:E×E}(h:w.heap[b]?=Q (P (l.map cm).toArray T o))(u:(l:E)<=ba):Strs w (Q ⟨b,0,C⟩) (l:E) l:=by
 refine⟨bf _,u,(λe=>by cases e),λz e v=>?_⟩;cases e;refine⟨rfl,zC h,λi x y=>?_⟩;rw[zB h];simp[y]
theorem zFz (w:ab):
  aj ah 19 #[] w λe w'=>e=.returned (M (Q ⟨w,0,C⟩) 16 16)/\Strs w' (Q ⟨w,0,C⟩) 16 zAJ/\Fr No w w':=by
 have o:=zF w (P (zAJ.map cm).toArray 9);have h:=Strs.of_block o (by rw[zBu];unfold ba;omega);rw[zBu]at h;have u:Fr No w (w.alloc (P (zAJ.map cm).toArray 9)):=(ag _ _).alloc _;have H:=zg2 h u;clear o h u;go_enter Tryz.func19,Tryz.ntmps19;go_wp2;go_ret;exact⟨rfl,H⟩
section
variable {w W W':ab}{B tb:E}{a:ai ak}{n cap Bd:E}{i:a1}{k:E}{d:Dev}{l:a0 (R×R)}
end
abbrev TB (tb B0:E):E->Prop:=λx=>x=tb\/B0<=x
theorem Fr.swap {T:E->Prop}(w:ab)(o v:Obj)(h:T (w:E)):Fr T (w.alloc o) (w.alloc v):=by
 have y:Fr No w (w.alloc o):=(ag _ _).alloc _;have z:Fr No w (w.alloc v):=(ag _ _).alloc _;refine⟨rfl,rfl,rfl,by simp,λk A F=>?_⟩;have u:k<(w:E):=by
  rw[br]at A;by_cases e:k=(w:E);·subst e;exact bo h F
  .omega
 exact(z.block k u id).trans (y.block k u id).symm
structure ElOk (W:ab)(base:E)(d:Dev):Prop where
 sz:Sized d
 drv:d.drv=()
 att:∃ l,Atts W d.aa d.ac l/\d.an=l.length/\l.length<=24
 fresh:∀ ad,d.aa=Q ad->base<=ad.block
structure Tr (W:ab)(base:E)(a:ai ak)(cap:E)(ds:a0 Dev):Prop where
 dv:Devs W a cap ds
 wf:TreeWf ds
 fresh:∀ ad,a=Q ad->base<=ad.block
 el:∀ d∈ds,ElOk W base d
theorem ElOk.fr {u:ab}{o:E}(h:ElOk W o d)(v:Fr S W u)(y:∀ b,o<=b->¬ S b):ElOk u o d:=by
 obtain⟨l,z,A⟩:=h.att;exact⟨h.sz,h.drv,⟨l,z.fr v (λF e _=>y _ (h.fresh F e)),A⟩,h.fresh⟩
theorem Tr.fr {v:ab}{o:E}{u:E}(h:Tr W o a u ds)(y:Fr S W v)(z:∀ b,o<=b->¬ S b):Tr v o a u ds:=
 ⟨h.dv.fr y (λA e _=>z _ (h.fresh A e)),h.wf,h.fresh,λd F=>(h.el d F).fr y z⟩
theorem Tr.no {v:ab}{o:E}{u:E}(h:Tr W o a u ds)(y:Fr No W v):Tr v o a u ds:=h.fr y (λ_ _=>id)
theorem Tr.nil (W:ab)(o:E):Tr W o C 0 []:=⟨Devs.nil W,TreeWf.nil,(λ_ e=>by cases e),(λd h=>by simp at h)⟩
section
variable {w W W':ab}{B tb k:E}{a:ai ak}{cap:E}{ds:a0 Dev}
end
theorem Tr.keep {X:ab}{o:E}{v:E}(h:Tr X o a v ds)(A:Fr S X W)(F:∀ b,b<(X:E)->o<=b->¬ S b):Tr W o a v ds:=by
 refine⟨h.dv.fr A (λy e u=>F _ (h.dv.cell y e u).2.1 (h.fresh y e)),h.wf,h.fresh,λd J=>?_⟩;have z:=h.el d J;obtain⟨l,I,N⟩:=z.att;exact⟨z.sz,z.drv,⟨l,I.fr A (λy e u=>F _ (I.cell y e u).2.1 (z.fresh y e)),N⟩,z.fresh⟩
theorem Tape.make {o:E}{l:a0 a1}(h:Ints w a o l)(T:TypeId):
  Tape (w.alloc (P #[M a l o,L G 0] T)) (w:E) (w:E) 0:=
 ⟨a,o,l,T,h.fr ((ag No _).alloc _) (λ_ _ _ h=>h),λv e u=>(h.cell v e u).2.1,bf _,zF _ _⟩
theorem cl2 {v:E×E}(h:W.heap[b]?=Q (P (bm (o::u::t)) T v)):W ⟨b,0,C⟩=Q o/\W ⟨b,1,C⟩=Q u:=⟨zB h 0,zB h 1⟩
theorem fl2 (h:W.heap[b]?=Q (P cs T)):W.frozen? ⟨b,0,C⟩=D/\W.frozen? ⟨b,1,C⟩=false:=⟨zD h 0,zD h 1⟩
theorem cl3 {y:E×E}(h:W.heap[b]?=Q (P (bm (o::u::v::t)) T y)):W ⟨b,0,C⟩=Q o/\W ⟨b,1,C⟩=Q u/\W ⟨b,2,C⟩=Q v:=⟨zB h 0,zB h 1,zB h 2⟩
theorem fl3 (h:W.heap[b]?=Q (P cs T)):W.frozen? ⟨b,0,C⟩=D/\W.frozen? ⟨b,1,C⟩=D/\W.frozen? ⟨b,2,C⟩=false:=⟨zD h 0,zD h 1,zD h 2⟩
theorem cl4 {z:E×E}(h:W.heap[b]?=Q (P (bm (o::u::v::y::t)) T z)):W ⟨b,0,C⟩=Q o/\W ⟨b,1,C⟩=Q u/\W ⟨b,2,C⟩=Q v/\W ⟨b,3,C⟩=Q y:=⟨zB h 0,zB h 1,zB h 2,zB h 3⟩
theorem fl4 (h:W.heap[b]?=Q (P cs T)):W.frozen? ⟨b,0,C⟩=D/\W.frozen? ⟨b,1,C⟩=D/\W.frozen? ⟨b,2,C⟩=D/\W.frozen? ⟨b,3,C⟩=false:=⟨zD h 0,zD h 1,zD h 2,zD h 3⟩
theorem cl5 {A:E×E}(h:W.heap[b]?=Q (P (bm (o::u::v::y::z::t)) T A)):W ⟨b,0,C⟩=Q o/\W ⟨b,1,C⟩=Q u/\W ⟨b,2,C⟩=Q v/\W ⟨b,3,C⟩=Q y/\W ⟨b,4,C⟩=Q z:=⟨zB h 0,zB h 1,zB h 2,zB h 3,zB h 4⟩
theorem fl5 (h:W.heap[b]?=Q (P cs T)):W.frozen? ⟨b,0,C⟩=D/\W.frozen? ⟨b,1,C⟩=D/\W.frozen? ⟨b,2,C⟩=D/\W.frozen? ⟨b,3,C⟩=D/\W.frozen? ⟨b,4,C⟩=false:=⟨zD h 0,zD h 1,zD h 2,zD h 3,zD h 4⟩
theorem cl6 {F:E×E}(h:W.heap[b]?=Q (P (bm (o::u::v::y::z::A::t)) T F)):W ⟨b,0,C⟩=Q o/\W ⟨b,1,C⟩=Q u/\W ⟨b,2,C⟩=Q v/\W ⟨b,3,C⟩=Q y/\W ⟨b,4,C⟩=Q z/\W ⟨b,5,C⟩=Q A:=⟨zB h 0,zB h 1,zB h 2,zB h 3,zB h 4,zB h 5⟩
theorem fl6 (h:W.heap[b]?=Q (P cs T)):W.frozen? ⟨b,0,C⟩=D/\W.frozen? ⟨b,1,C⟩=D/\W.frozen? ⟨b,2,C⟩=D/\W.frozen? ⟨b,3,C⟩=D/\W.frozen? ⟨b,4,C⟩=D/\W.frozen? ⟨b,5,C⟩=false:=⟨zD h 0,zD h 1,zD h 2,zD h 3,zD h 4,zD h 5⟩
theorem cl7 {I:E×E}(h:W.heap[b]?=Q (P (bm (o::u::v::y::z::A::F::t)) T I)):W ⟨b,0,C⟩=Q o/\W ⟨b,1,C⟩=Q u/\W ⟨b,2,C⟩=Q v/\W ⟨b,3,C⟩=Q y/\W ⟨b,4,C⟩=Q z/\W ⟨b,5,C⟩=Q A/\W ⟨b,6,C⟩=Q F:=⟨zB h 0,zB h 1,zB h 2,zB h 3,zB h 4,zB h 5,zB h 6⟩
theorem fl7 (h:W.heap[b]?=Q (P cs T)):W.frozen? ⟨b,0,C⟩=D/\W.frozen? ⟨b,1,C⟩=D/\W.frozen? ⟨b,2,C⟩=D/\W.frozen? ⟨b,3,C⟩=D/\W.frozen? ⟨b,4,C⟩=D/\W.frozen? ⟨b,5,C⟩=D/\W.frozen? ⟨b,6,C⟩=false:=⟨zD h 0,zD h 1,zD h 2,zD h 3,zD h 4,zD h 5,zD h 6⟩
theorem cl10 {O:E×E}(h:W.heap[b]?=Q (P (bm (o::u::v::y::z::A::F::I::J::N::t)) T O)):W ⟨b,0,C⟩=Q o/\W ⟨b,1,C⟩=Q u/\W ⟨b,2,C⟩=Q v/\W ⟨b,3,C⟩=Q y/\W ⟨b,4,C⟩=Q z/\W ⟨b,5,C⟩=Q A/\W ⟨b,6,C⟩=Q F/\W ⟨b,7,C⟩=Q I/\W ⟨b,8,C⟩=Q J/\W ⟨b,9,C⟩=Q N:=⟨zB h 0,zB h 1,zB h 2,zB h 3,zB h 4,zB h 5,zB h 6,zB h 7,zB h 8,zB h 9⟩
theorem fl10 (h:W.heap[b]?=Q (P cs T)):W.frozen? ⟨b,0,C⟩=D/\W.frozen? ⟨b,1,C⟩=D/\W.frozen? ⟨b,2,C⟩=D/\W.frozen? ⟨b,3,C⟩=D/\W.frozen? ⟨b,4,C⟩=D/\W.frozen? ⟨b,5,C⟩=D/\W.frozen? ⟨b,6,C⟩=D/\W.frozen? ⟨b,7,C⟩=D/\W.frozen? ⟨b,8,C⟩=D/\W.frozen? ⟨b,9,C⟩=false:=⟨zD h 0,zD h 1,zD h 2,zD h 3,zD h 4,zD h 5,zD h 6,zD h 7,zD h 8,zD h 9⟩
theorem cl12 {O U:au}{V:E×E}(h:W.heap[b]?=Q (P (bm (v::y::z::A::F::I::J::N::O::U::o::u::t)) T V)):W ⟨b,0,C⟩=Q v/\W ⟨b,1,C⟩=Q y/\W ⟨b,2,C⟩=Q z/\W ⟨b,3,C⟩=Q A/\W ⟨b,4,C⟩=Q F/\W ⟨b,5,C⟩=Q I/\W ⟨b,6,C⟩=Q J/\W ⟨b,7,C⟩=Q N/\W ⟨b,8,C⟩=Q O/\W ⟨b,9,C⟩=Q U/\W ⟨b,10,C⟩=Q o/\W ⟨b,11,C⟩=Q u:=⟨zB h 0,zB h 1,zB h 2,zB h 3,zB h 4,zB h 5,zB h 6,zB h 7,zB h 8,zB h 9,zB h 10,zB h 11⟩
theorem fl12 (h:W.heap[b]?=Q (P cs T)):W.frozen? ⟨b,0,C⟩=D/\W.frozen? ⟨b,1,C⟩=D/\W.frozen? ⟨b,2,C⟩=D/\W.frozen? ⟨b,3,C⟩=D/\W.frozen? ⟨b,4,C⟩=D/\W.frozen? ⟨b,5,C⟩=D/\W.frozen? ⟨b,6,C⟩=D/\W.frozen? ⟨b,7,C⟩=D/\W.frozen? ⟨b,8,C⟩=D/\W.frozen? ⟨b,9,C⟩=D/\W.frozen? ⟨b,10,C⟩=D/\W.frozen? ⟨b,11,C⟩=false:=⟨zD h 0,zD h 1,zD h 2,zD h 3,zD h 4,zD h 5,zD h 6,zD h 7,zD h 8,zD h 9,zD h 10,zD h 11⟩
def stepO (g:a1->ai R)(d:Dev):a1->ai R:=updO g d.index ((g d.parent).getD ⟨#[]⟩++⟨#[47]⟩++d.orig)
def ogs (l:a0 Dev):a1->ai R:=l.foldl stepO (λ_=>C)
def pathOf (l:a0 R):R:=l.foldl (λs x=>s++⟨#[47]⟩++x) ()
def plcs (ds:a0 Dev)(k:E):a1->ai a1:=λn=>(look (ds.take k) n).map λ_=>place ds n
theorem zFu (l:a0 Dev)(d:Dev):ogs (l++[d])=stepO (ogs l) d:=by unfold ogs;rw[cw];rfl
theorem zCB {ds:a0 Dev}(h:∀ d∈ds,d.orig.size<=32):∀ (k:E) (n:a1),((ogs (ds.take k) n).getD ⟨#[]⟩).size<=33*k
 | 0,n=>by show (ByteArray.mk #[]).size<=_;exact Nat.zero_le _
 | k+1,n=>by
  by_cases o:k<(ds:E)
  .have e:ds.take (k+1)=ds.take k++[ds[k]]:=by rw[be,bc o];rfl
   have v:=zCB h k ds[k].parent;have u:=zCB h k n;have y:=h ds[k] (ci o);rw[e,zFu];unfold stepO updO;split
   .simp only[de,ByteArray.size_append];have:(⟨#[47]⟩:R).size=1:=rfl;omega
   .omega
  .have u:=zCB h k n;rw[az (by omega)]at u ⊢;omega
theorem zGt (y:(ds.map cf).Nodup)(z:ds[k]?=Q d)(n:a1):look (ds.take (k+1)) n=if n=d.index then Q d else look (ds.take k) n:=by
 have e:ds.take (k+1)=ds.take k++[d]:=by rw[be,z];rfl
 have o:((ds.take k++[d]).map cf).Nodup:=by rw[<-e];exact(cr _ (dc _ _)).nodup y
 rw[e];unfold look;rw[List.find?_append];by_cases u:n=d.index
 .rw[if_pos u];have:(ds.take k).find? (λx=>decide (x.index=n))=none:=by
   rw[cu];intro x A v;simp only[decide_eq_true_eq]at v;rw[List.map_append,List.nodup_append]at o;exact o.2.2 x.index (List.mem_map_of_mem A) d.index (by simp) (by rw[v,u])
  rw[this];simp[u]
 .rw[bh u];have:([d].find? (λx=>decide (x.index=n)))=none:=by simp;exact λh=>u h.symm
  rw[this];simp
theorem zKx (y:TreeOk ds)(o:ds[k]?=Q d):plcs ds (k+1)=updO (plcs ds k) d.index (k:a1):=by
 funext n
 unfold plcs updO;rw[zGt y.nd o];split
 .rename_i e;subst e;rcases zAw ds d.index with⟨u,I⟩|⟨j,x,u,I,z⟩
  .rw[y.lk (bd o)]at u;cases u
  .rw[y.lk (bd o)]at u;cases u;rw[I];have A:j<(ds:E):=(List.getElem?_eq_some_iff.1 z).1;have F:k<(ds:E):=(List.getElem?_eq_some_iff.1 o).1;have J:=List.pairwise_iff_getElem.1 y.nd;have N:ds[j].index=ds[k].index:=by
    rw[bc A]at z;rw[bc F]at o;rw[Option.some.inj z,Option.some.inj o]
   rcases Nat.lt_trichotomy j k with h|rfl|h
   .have v:=J j k (by simpa using A) (by simpa using F) h;rw[bz,bz]at v;exact bo N v
   .rfl
   .have v:=J k j (by simpa using F) (by simpa using A) h;rw[bz,bz]at v;exact bo N.symm v
 .rfl
theorem zIh {ds:a0 Dev}(h:TreeOk ds):∀ (k:E),k<=(ds:E)->∀ n,ogs (ds.take k) n=(look (ds.take k) n).map λ_=>pathOf (origin ds n)
 | 0,_,n=>by simp[ogs,look]
 | k+1,Y,n=>by
  have o:k<(ds:E):=by omega
  have u:ds[k]?=Q ds[k]:=bc o;have e:ds.take (k+1)=ds.take k++[ds[k]]:=by rw[be,u];rfl
  have z:=zIh h k (by omega);rw[zGt h.nd u,e,zFu];unfold stepO updO;split
  .rename_i F;have I:pathOf (origin ds n)=pathOf (origin ds ds[k].parent)++⟨#[47]⟩++ds[k].orig:=by
    rw[F,h.origin_cons (h.lk (ci o))];unfold pathOf;rw[cw];rfl
   have J:(ogs (ds.take k) ds[k].parent).getD ⟨#[]⟩=pathOf (origin ds ds[k].parent):=by
    rw[z];rcases h.pa k _ u with A|⟨j,f,N,O,v⟩
    .have U:look (ds.take k) ds[k].parent=none:=by
      rw[A,zv];intro x V e;have:=(h.ix x (List.mem_of_mem_take V)).1;omega
     rw[U,A,TreeOk.origin_none h.zero];rfl
    .have X:f∈ds.take k:=by
      have:(ds.take k)[j]?=Q f:=(by rw[cx N];exact O);exact bd this
     have y:((ds.take k).map cf).Nodup:=(cr _ (dc _ _)).nodup h.nd;have:=zx y X;rw[v]at this;rw[this];rfl
   rw[J,I];rfl
  .exact z n
theorem TreeOk.pwf (h:TreeOk ds)(o:d∈ds):(ca G d.parent).wf=true:=by
 obtain⟨k,u⟩:=List.getElem?_of_mem o;rcases h.pa k d u with v|⟨j,e,_,y,z⟩
 .rw[v];decide
 .rw[<-z];have:=h.ix e (bd y);exact cn (by omega)
theorem TreeOk.iwf (h:TreeOk ds)(o:d∈ds):(ca G d.index).wf=true:=by
 have:=h.ix d o;exact cn (by omega)
def ViewAt (w w':ab)(a:ai ak)(cap:E)(ds:a0 Dev)(e:bi):Prop:=
 ∃ m1 m2,e=.returned (af #[M a ds cap,.map (Q m1),.map (Q m2)])/\(w:E)<=m1/\(w:E)<=m2/\m1≠m2/\IMap w' m1 (plcs ds (ds:E)) (ds:E)/\SMap w' m2 (ogs ds) (ds:E)
def Two2 (x y:E):E->Prop:=λb=>b=x\/b=y
theorem zCc (a:ai ak)(o:E)(ds:a0 Dev)(w:ab)(hl:Devs w a o ds)(hT:TreeOk ds)(hn:(ds:E)<=1000):
  aj ah 84 #[af #[.slice a ds o]] w λe w'=>ViewAt w w' a o ds e/\Fr No w w':=by
 have e8:=@run_makeMap ah;have hm:=hl.lenmax;go_enter Tryz.func84,Tryz.ntmps84;go_wp2_with fail;have y:=zh hT;have Hn:=zh hn;clear hT hn;go_loopw [15] (λi wr=>∃ k:E,k<=(ds:E)/\i=.int G k/\IMap wr ((w:E)+1+1) (plcs ds k) k/\SMap wr ((w:E)+1+1+1) (ogs (ds.take k)) k/\
  wr.heap[(w:E)+1+1+1+1]?=Q (P #[.slice a ds o,.map (Q ((w:E)+1+1)),.map (Q ((w:E)+1+1+1))] 153)/\
  wr.heap[(w:E)+1]?=Q (P #[.slice C 0 0,.map C,.map C] 153)/\Fr No w wr) (λi _=>(ds:E)-(ap i).toNat)
 case atStart=>
  have s1:(w.alloc (P #[.slice a ds o] 39)).heap.size=(w:E)+1:=by simp
  have s2:((w.alloc (P #[.slice a ds o] 39)).alloc (P #[.slice C 0 0,.map C,.map C] 153)).heap.size=(w:E)+1+1:=by simp
  have s3:(((w.alloc (P #[.slice a ds o] 39)).alloc (P #[.slice C 0 0,.map C,.map C] 153)).alloc (.map #[] 0)).heap.size=(w:E)+1+1+1:=by simp
  have s4:((((w.alloc (P #[.slice a ds o] 39)).alloc (P #[.slice C 0 0,.map C,.map C] 153)).alloc (.map #[] 0)).alloc (.map #[] 0)).heap.size=(w:E)+1+1+1+1:=by simp
  refine⟨0,by omega,rfl,?_,?_,?_,?_,?_⟩
  .have h:=IMap.made ((w.alloc (P #[.slice a ds o] 39)).alloc (P #[.slice C 0 0,.map C,.map C] 153));rw[s2]at h;exact(h.fr ((ag No _).alloc (.map #[] 0)) id).fr ((ag No _).alloc (P #[.slice a ds o,.map (Q ((w:E)+1+1)),.map (Q ((w:E)+1+1+1))] 153)) id
  .have h:=SMap.made (((w.alloc (P #[.slice a ds o] 39)).alloc (P #[.slice C 0 0,.map C,.map C] 153)).alloc (.map #[] 0));rw[s3]at h;exact h.fr ((ag No _).alloc (P #[.slice a ds o,.map (Q ((w:E)+1+1)),.map (Q ((w:E)+1+1+1))] 153)) id
  .have h:=zF ((((w.alloc (P #[.slice a ds o] 39)).alloc (P #[.slice C 0 0,.map C,.map C] 153)).alloc (.map #[] 0)).alloc (.map #[] 0)) (P #[.slice a ds o,.map (Q ((w:E)+1+1)),.map (Q ((w:E)+1+1+1))] 153);rw[s4]at h;exact h
  .have h:=zF (w.alloc (P #[.slice a ds o] 39)) (P #[.slice C 0 0,.map C,.map C] 153);rw[s1]at h;exact((((ag No _).alloc (.map #[] 0)).alloc (.map #[] 0)).alloc (P #[.slice a ds o,.map (Q ((w:E)+1+1)),.map (Q ((w:E)+1+1+1))] 153)).heap h id
  .repeat (first|exact ag _ _|refine Fr.alloc ?_ _)
 case round=>
  obtain⟨k,hk,rfl,hI,Z,X,Y,z⟩:=hrel;have v0:wr ⟨(w:E)+1+1+1+1,0,C⟩=Q (.slice a ds o):=by simp[bq,X]
  have v1:wr ⟨(w:E)+1+1+1+1,1,C⟩=Q (.map (Q ((w:E)+1+1))):=by simp[bq,X]
  have v2:wr ⟨(w:E)+1+1+1+1,2,C⟩=Q (.map (Q ((w:E)+1+1+1))):=by simp[bq,X]
  have r0:wr ⟨(w:E)+1,0,C⟩=Q (.slice C 0 0):=by simp[bq,Y]
  have r1:wr ⟨(w:E)+1,1,C⟩=Q (.map C):=by simp[bq,Y]
  have r2:wr ⟨(w:E)+1,2,C⟩=Q (.map C):=by simp[bq,Y]
  obtain⟨q0,q1,q2⟩:=fl3 Y;by_cases a2:k<(ds:E)
  .have e6:(k:a1)<(ds:E):=by omega
   obtain⟨bb,e9,d,rfl,hd,c0,c1,c2,c3,c4,c5,c6,c7,c8,c9⟩:=(hl.no z (λ_=>id)).dev a2;have Hd:=zh hd;have b3:=y.pwf (bd hd);have b4:=y.iwf (bd hd);have g0:=zCB y.sz k d.parent;have g1:=y.sz d (bd hd);have g2:=Hn.out;clear hd;have I:=Z.fr ((ag No _).alloc (P #[.int G d.index,.int G d.parent,.string d.name,.string d.orig,.string d.sub,.string d.drv,.string d.ali,.int G d.kind,.int G d.num,.slice d.aa d.an d.ac] 48)) id;have J:Fr No wr (wr.alloc (P #[.int G d.index,.int G d.parent,.string d.name,.string d.orig,.string d.sub,.string d.drv,.string d.ali,.int G d.kind,.int G d.num,.slice d.aa d.an d.ac] 48)):=(ag No _).alloc _;have a3:=J.cell v1 id;have a4:=J.cell v2 id;have b5:=zh (z.step J zi);have b6:=zh (J.heap X id);have b7:=zh (J.heap Y id);have a5:=hI.fr J id;have b8:(Tryz.prog.info? 48).isSome=true:=(by kernel_rfl);clear J b8;go_wp2_with (at_lookup;refine zHL rfl _ _ 151 rfl rfl ((w:E)+1+1+1) _ k d.parent b3 rfl I rfl ?_)
   refine zO (Two2 ((w:E)+1+1) ((w:E)+1+1+1)) [(0,D),(1,D),(2,D),(3,D),(4,D),(5,D),(6,D),(7,D),(8,D),(9,D),(10,al),(11,al)] (λw0 u=>?_);have b9:=a5.fr u id;have d0:=I.fr u id;have A:=b5.step u zi;have e7:(w:E)+1+1+1+1<(wr:E):=zC X;have d1:∀ g:Gr (Two2 ((w:E)+1+1) ((w:E)+1+1+1)) w0,g.W ⟨(w:E)+1+1+1+1,1,C⟩=Q (.map (Q ((w:E)+1+1))):=λg=>g.fr.cell (u.cell a3 id) (λh=>by unfold Two2 at h;dsimp only at h;omega)
   have d2:∀ g:Gr (Two2 ((w:E)+1+1) ((w:E)+1+1+1)) w0,g.W ⟨(w:E)+1+1+1+1,2,C⟩=Q (.map (Q ((w:E)+1+1+1))):=λg=>g.fr.cell (u.cell a4 id) (λh=>by unfold Two2 at h;dsimp only at h;omega)
   have d5:∀ g:Gr (Two2 ((w:E)+1+1) ((w:E)+1+1+1)) w0,g.W ⟨wr,0,C⟩=Q (.int G d.index):=λg=>g.fr.cell (u.cell (by rw[zB (zF _ _)];rfl) id) (λh=>by unfold Two2 at h;dsimp only at h;omega)
   have d3:=zh (u.heap b6 id);have d4:=zh (u.heap b7 id);obtain⟨DI,nI,d6,a6,a7,a8⟩:=b9;obtain⟨DS,nS,d7,a9,b0,b1⟩:=d0;have d8:=zh a7;have d9:=zh a8;have e0:=zh b0;have e1:=zh b1;have F:=keyOf_int_mk dt b4;have b2:=zh A;clear a7 a8 b0 b1 v0 v1 v2 r0 r1 r2 q0 q1 q2 X Y a3 a4 a5 I hI Z z A c0 c1 c2 c3 c4 c5 c6 c7 c8 c9;(repeat apply zR rfl rfl rfl;intro K hK;go_big_quiet_op;go_big_quiet_on);apply zu rfl;go_wp2_with (at_mapUpdate;refine dw _ rfl _ _ _ 150 rfl 3 3 lawI Tryz.underlying150 _ ((w:E)+1+1) nI DI rfl a6 (by unfold ba;omega) _ _ _ rfl rfl F _ [] (plainElem_int dt (cn (by omega))) ?_;intro w1 e2 N)
   refine OnlyN.mk ⟨(bs N).mono (λ_ _ h=>.inl h),?_⟩;apply zu rfl;go_wp2_with (at_mapUpdate;refine dw _ rfl _ _ _ 151 rfl 3 9 lawI Tryz.underlying151 _ ((w:E)+1+1+1) nS DS rfl (a9.kept N (λe=>by have:=Option.some.inj e;omega)) (by unfold ba;omega) _ _ _ rfl rfl F _ [] (plainElem_string Tryz.underlying9 (by simp only[ByteArray.size_append];unfold ba;have:(⟨#[47]⟩:R).size=1:=rfl;omega)) ?_;intro w2 e3 O)
   refine OnlyN.mk ⟨(bs O).mono (λ_ _ h=>.inr h),?_⟩;apply zb;have e4:=(IMap.put d6 a6 d8 d9 d.index k e2).fr (bs O) (λh=>by omega);have e5:=SMap.put d7 a9 e0 e1 d.index _ e3;have U:=zh (bs N);have V:=zh (bs O);go_wp2;go_roundw;case rel=>
    refine⟨k+1,by omega,by go_num,?_,?_,V.heap (U.heap d3 (by omega)) (by omega),V.heap (U.heap d4 (by omega)) (by omega),
     (b2.step U (λb hb h=>by omega)).step V (λb hb h=>by omega)⟩
    .rw[zKx y Hd];exact e4
    .have e:ds.take (k+1)=ds.take k++[d]:=(by rw[be,Hd];rfl);rw[e,zFu];exact e5
   case measure=>simp[ap];omega
  .obtain rfl:k=(ds:E):=by omega
   clear a2;rw[az (bf _)]at Z;have HI:=zh hI;have HS:=zh Z;clear hI Z;go_wp2_with fail;refine aq (v:=af #[.slice a ds o,.map (Q ((w:E)+1+1)),.map (Q ((w:E)+1+1+1))]) (by simp[ar,Tryz.results84,go_sem,r0,r1,r2]) rfl ?_;have hF:Fr (Is ((w:E)+1)) wr (((wr.setCell ⟨(w:E)+1,0,C⟩ (.slice a ds o)).setCell ⟨(w:E)+1,1,C⟩ (.map (Q ((w:E)+1+1)))).setCell ⟨(w:E)+1,2,C⟩ (.map (Q ((w:E)+1+1+1)))):=(((ag _ _).setAt _).setAt _).setAt _;exact⟨⟨_,_,rfl,by omega,by omega,by omega,HI.fr hF (by omega),HS.fr hF (by omega)⟩,z.step hF (λb hb h=>by omega)⟩
theorem zAz (a:ai ak)(h:E)(ds:a0 Dev)(n:a1)(w:ab)(J:Devs w a h ds)(y:TreeOk ds)(N:(ds:E)<=1000)(O:(ca G n).wf=al):
  aj ah 52 #[af #[.slice a ds h],.int G n] w λe w'=>e=.returned (.tuple #[.string (((look ds n).map λ_=>pathOf (origin ds n)).getD ⟨#[]⟩),.bool (look ds n).isSome])/\Fr No w w':=by
 have z:Fr No w (w.alloc (P #[.slice a ds h] 39)):=(ag _ _).alloc _;have A:ogs ds n=(look ds n).map λ_=>pathOf (origin ds n):=by
  have:=zIh y (ds:E) (bf _) n;rw[az (bf _)]at this;exact this
 have U:∀ (F o:E) (W:ab),(Instr.field 153 (af #[.slice a ds h,.map (Q F),.map (Q o)]) 2).run ah W=.ok (.map (Q o)) W:=λ_ _ _=>by kernel_rfl
 have V:=zh A;have I:=zh z;clear A z;go_enter Tryz.func52,Tryz.ntmps52;go_wp2_with fail;apply (zCc a h ds _ (J.no I (λ_=>id)) y N).mono;rintro e Y ⟨⟨F,o,rfl,_,_,_,_,X⟩,u⟩;go_wp2_with (at_lookup;refine zEz rfl _ _ 151 rfl rfl o _ _ n O rfl X rfl ?_)
 refine aq (v:=.tuple #[.string ((ogs ds n).getD ⟨#[]⟩),.bool (ogs ds n).isSome]) (by simp[ar,Tryz.results52,go_sem]) rfl ?_;refine⟨?_,I.step u zi⟩;rw[V];cases look ds n<;>rfl
def VAt (w:ab)(m1 m2:E)(ds:a0 Dev):Prop:=IMap w m1 (plcs ds (ds:E)) (ds:E)/\SMap w m2 (ogs ds) (ds:E)
theorem VAt.fr {o u:E}(h:VAt w o u ds)(v:Fr S w w')(y:¬ S o)(z:¬ S u):VAt w' o u ds:=⟨h.1.fr v y,h.2.fr v z⟩
theorem zMs (ds:a0 Dev)(n:a1):plcs ds (ds:E) n=(look ds n).map λ_=>place ds n:=by unfold plcs;rw[az (bf _)]
def FindIs (ds:a0 Dev)(n:a1)(e:bi):Prop:=(look ds n=C/\e=.returned (.tuple #[af Dev.zero.vals,.bool D]))\/∃ d,look ds n=Q d/\e=.returned (.tuple #[af d.vals,.bool al])
theorem zGT (a:ai ak)(h:E)(ds:a0 Dev)(z F:E)(n:a1)(w:ab)(O:Devs w a h ds)(X:VAt w z F ds)(hx:(ca G n).wf=al):
  aj ah 242 #[af #[.slice a ds h,.map (Q z),.map (Q F)],.int G n] w λe w'=>
   FindIs ds n e/\Fr No w w':=by
 have hm:=O.lenmax;have I:Fr No w ((w.alloc (P #[.slice a ds h,.map (Q z),.map (Q F)] 153)).alloc (P #[.int G 0,.int G 0,.string (),.string (),.string (),.string (),.string (),.int G 0,.int G 0,.slice C 0 0] 48)):=((ag _ _).alloc _).alloc _;have Y:=zP w (P #[.slice a ds h,.map (Q z),.map (Q F)] 153) (P #[.int G 0,.int G 0,.string (),.string (),.string (),.string (),.string (),.int G 0,.int G 0,.slice C 0 0] 48);have J:=zS w (P #[.slice a ds h,.map (Q z),.map (Q F)] 153) (P #[.int G 0,.int G 0,.string (),.string (),.string (),.string (),.string (),.int G 0,.int G 0,.slice C 0 0] 48);go_enter Tryz.func242,Tryz.ntmps242;go_upto_region 1 with(fail)
 generalize (w.alloc (P #[.slice a ds h,.map (Q z),.map (Q F)] 153)).alloc (P #[.int G 0,.int G 0,.string (),.string (),.string (),.string (),.string (),.int G 0,.int G 0,.slice C 0 0] 48)=w2 at *;obtain⟨t0,t1⟩:=cl2 Y;obtain⟨z0,z1,z2,z3,z4,z5,z6,z7,z8,z9⟩:=cl10 J;obtain⟨y0,y1,y2,y3,y4,y5,y6,y7,y8,y9⟩:=fl10 J;have hI:=X.1.fr I id;have A:=O.no I (λ_=>id);have U:=zMs ds n;rcases zAw ds n with⟨y,V⟩|⟨k,d,y,V,Z⟩
 .have g0:plcs ds (ds:E) n=none:=by rw[U,y];rfl
  have o:=zA6 J rfl av;have u:=zg2 y (I.step o.2 (λb hb e=>by omega));have N:look ds n=none:=y;clear o J Y U V I y X O A;have H1:=zh N;clear N;go_wp2_with (at_lookup;refine zE1 rfl _ _ 150 rfl rfl z _ _ n hx rfl hI rfl ?_;rw[g0];simp only[Option.getD_none,Option.isSome_none])
  refine aq (v:=.tuple #[af Dev.zero.vals,.bool D]) (by simp[ar,dm,go_sem,am,av,z0,z1,z2,z3,z4,z5,z6,z7,z8,z9];try rfl) rfl ?_;exact⟨.inl ⟨H1,rfl⟩,u.2⟩
 .have g0:plcs ds (ds:E) n=Q (k:a1):=by rw[U,y,V];rfl
  have a2:k<(ds:E):=(List.getElem?_eq_some_iff.1 Z).1;have a3:(k:a1)<(ds:E):=by omega
  obtain⟨bb,a4,d',rfl,hd,c0,c1,c2,c3,c4,c5,c6,c7,c8,c9⟩:=A.dev a2;rw[Z]at hd;cases hd;have o:=zA6 J rfl d;have u:=zg2 y (I.step o.2 (λb hb e=>by omega));have H1:=zh y;clear o J Y U V Z I y X O A;go_wp2_with (at_lookup;refine zE1 rfl _ _ 150 rfl rfl z _ _ n hx rfl hI rfl ?_;rw[g0];simp only[de,Option.isSome_some])
  refine aq (v:=.tuple #[af d.vals,.bool al]) (by simp[ar,dm,go_sem,am,z0,z1,z2,z3,z4,z5,z6,z7,z8,z9]) rfl ?_;exact⟨.inr ⟨d,H1,rfl⟩,u.2⟩
theorem zOU (u v x:au)(n:a1)(w:ab):
  aj ah 190 #[af #[u,v,x],n] w λe w'=>e=.returned (.func (.func 241) #[] #[ao (Q ⟨w,0,C⟩),ao (Q ⟨(w:E)+1,0,C⟩)])/\w'=(w.alloc (P #[u,v,x] 153)).alloc (P #[n] 3):=by
 go_enter Tryz.func190,Tryz.ntmps190;go_wp2;go_ret;exact⟨rfl,rfl⟩
theorem zFL : ∀ (l:a0 R) (s:R),(l.foldl (λs x=>s++⟨#[47]⟩++x) s).data.toList=s.data.toList++bg [47] (l.map (·.data.toList))
 | [],s=>by simp[bg]
 | x::t,s=>by
  rw[List.foldl_cons,zFL t];simp[bg]
theorem zB7 (l:a0 R):(pathOf l).data.toList=bg [47] (l.map (·.data.toList)):=by
 unfold pathOf;rw[zFL];rfl
theorem zKy {l:a0 R}(h:l≠[]):(⟨#[47]⟩:R)++⟨(bt (l.map (·.data.toList)) [47]).toArray⟩=pathOf l:=by
 apply zDn;rw[zB7];cases l with
 | nil=>exact bo rfl h
 | cons x t=>simp[cq,bg]
theorem zKU : ∀ (l:a0 R),(∀ x∈l,x.size<=32)->(bg [47] (l.map (·.data.toList))).length<=33*(l:E)
 | [],_=>by simp[bg]
 | x::t,h=>by
  have o:=zKU t (λy u=>h y (List.mem_cons_of_mem _ u));have v:=h x (List.mem_cons_self ..);have z:x.data.toList.length=x.size:=by simp
  simp only[bg,da,cv,cj,cy,cz,List.map_map]at o ⊢;omega
theorem zPE {l:a0 R}(h:∀ x∈l,x.size<=32):(bt (l.map (·.data.toList)) [47]).length<=33*(l:E):=by
 cases l with
 | nil=>simp[bt,List.intercalate]
 | cons x t=>
  have:=zKU (x::t) h;simp only[da,cq,bg,cv,cj,cy,cz]at this ⊢;omega
theorem zMm (a:ai ak)(o:E)(l:a0 R)(w:ab)(y:Strs w a o l)(u:l≠[])(I:∀ x∈l,x.size<=32)(Y:(l:E)<=1000000):
  aj ah 56 #[M a l o] w λe w'=>e=.returned (ae (pathOf l))/\Fr No w w':=by
 have Z:(l:E)≠0:=λh=>u (bx h)
 obtain⟨b,z,x,rfl,_,_⟩:=y.at (k:=0) (by omega);obtain⟨_,J,N⟩:=y.cell _ rfl u;have hj:=zPE I;have v:=y.len;have O:=zh (zKy u);go_enter Tryz.func56,Tryz.ntmps56;go_wp2_with fail;refine(Tryz.strings_Join b z o l ⟨#[47]⟩ _ (λj x U=>N j x U) J (by omega) v (by show (bt _ [47]).length<=_;omega)).mono ?_;rintro e w1 ⟨rfl,V⟩;have A:=bw V;have X:(bt (l.map (·.data.toList)) [47]).length<=33000000:=by omega
 have F:(⟨#[47]⟩:R).data.toList=[47]:=rfl;rw[F];go_wp2;go_ret;refine⟨?_,A⟩;rw[<-O];rfl
theorem zK9 (o:TreeOk ds)(n:a1):∀ x∈origin ds n,x.size<=32:=by
 intro x h;unfold origin at h;rw[List.mem_reverse]at h;obtain⟨d,u,rfl⟩:=List.mem_map.1 h;exact o.sz d (zEi u)
theorem zEC (a:ai ak)(o:E)(ds:a0 Dev)(n:a1)(w:ab)(U:Devs w a o ds)(X:TreeOk ds)(Y:(ds:E)<=1000000):
  aj ah 27 #[af #[M a ds o],n] w λe w'=>e=.returned (ae (pathOf (origin ds n)))/\Fr No w w':=by
 have J:Fr No w (w.alloc (P #[M a ds o] 39)):=(ag _ _).alloc _;have A:=U.no J (λ_=>id);have F:(origin ds n).length<=1000000:=by unfold origin;simp;have:=zCw ds n;omega
 have Z:=zh (zK9 X n);go_enter Tryz.func27,Tryz.ntmps27;go_wp2_with fail;apply (zJk a o ds n _ A Y).mono;rintro e w1 ⟨⟨v,rfl,u⟩,N⟩;obtain⟨ac,cc,rfl,V,I⟩:=Strs.of_own u;have y:=J.step N zi;clear u J A U;by_cases h:origin ds n=[]
 .have z:=zh h;have h0:(origin ds n).length=0:=by rw[h];rfl
  clear h F V;go_wp2;go_ret;refine⟨?_,y⟩;rw[z];rfl
 .have h0:0<(origin ds n).length:=List.length_pos_iff.2 h;have a2:(0:a1)<(origin ds n).length:=by omega
  have z:=zh h;clear h;go_wp2_with fail;apply (zMm ac cc (origin ds n) _ V z Z F).mono;rintro e w2 ⟨rfl,O⟩;go_wp2;go_ret;exact⟨rfl,y.step O zi⟩
theorem zPO (d:Dev)(b:E)(n:a1)(w:ab)(h:w ⟨b,0,C⟩=Q (L G n)):
  aj ah 58 #[af d.vals,ao (Q ⟨b,0,C⟩)] w λe w'=>e=.returned (.bool (d.index==n))/\Fr No w w':=by
 have o:Fr No w (w.alloc (P d.vals 48)):=(ag _ _).alloc _;have u:=o.cell h id;clear h;unfold am at *;go_enter Tryz.func58,Tryz.ntmps58;go_wp2;go_ret;exact⟨rfl,o⟩
theorem zJz (a:ai ak)(A:E)(ds:a0 Dev)(b:E)(n:a1)(w:ab)(N:Devs w a A ds)(Y:w ⟨b,0,C⟩=Q (L G n)):
  aj ah 115 #[M a ds A,.func (.func 58) #[] #[ao (Q ⟨b,0,C⟩)]] w λe w'=>e=.returned (L G (place ds n))/\Fr No w w':=by
 have hm:=N.lenmax;go_enter df,dj;go_wp2_with fail;go_loopw [8] (λi wr=>∃ k:E,k<=(ds:E)/\i=L G k/\m (∀ x∈ds.take k,x.index≠n)/\Fr No w wr) (λi _=>(ds:E)-(ap i).toNat);case atStart=>exact⟨0,by omega,rfl,by unfold m;simp,ag _ _⟩
 case round=>
  obtain⟨k,hk,rfl,y,u⟩:=hrel;by_cases F:k<(ds:E)
  .have O:(k:a1)<(ds:E):=by omega
   obtain⟨bb,Z,d,rfl,U,c0,c1,c2,c3,c4,c5,c6,c7,c8,c9⟩:=(N.no u (λ_=>id)).dev F;have V:=zh U;clear U;go_wp2_with fail;apply (zPO d b n _ (u.cell Y id)).mono;rintro e w1 ⟨rfl,I⟩;have v:=u.step I zi;clear c0 c1 c2 c3 c4 c5 c6 c7 c8 c9;by_cases o:d.index=n
   .have J:(d.index==n)=true:=(by simpa using o);have z:=zh o;clear o;go_wp2;go_ret;exact⟨zBE (zDB ds n k d V z y).symm,v⟩
   .have J:(d.index==n)=false:=(by simpa using o);have z:=zh o;clear o;go_wp2;go_roundw;case rel=>
     refine⟨k+1,by omega,by go_num,?_,v⟩;unfold m;intro x X;rw[be,V]at X;rcases List.mem_append.1 X with h|h
     .exact y x h
     .simp at h;subst h;exact z.out
    case measure=>simp[ap];omega
  .obtain rfl:k=(ds:E):=by omega
   have h:=y.out;rw[az (by omega)]at h;have Hp:m (place ds n=-1):=zDC _ _ h;clear h;go_wp2;go_ret;exact⟨zBE Hp.symm,u⟩
theorem zGB (W:ab)(a:ai ak)(n c:E):(binOp .eql 46 (M a n c) (M C 0 0)).run ah W=.ok (.bool a.isNone) W:=Lib.run_eql_slice_nil W 46 78 a n c 0 0 du
theorem infoA: (Tryz.prog.info? 78).map (λi=>(i.zero,i.size,i.bytes))=Q (Q (af #[bv,bv]),2,32):=by kernel_rfl
def aflat (l:a0 (R×R)):a0 au:=l.flatMap (λx=>[ae x.1,ae x.2])
theorem zBx (l:a0 (R×R)):(aflat l).length=(l:E)*2:=by
 induction l with
 | nil=>rfl
 | cons d t h=>
  have:aflat (d::t)=[ae d.1,ae d.2]++aflat t:=by simp[aflat]
  rw[this,cj,h];simp;omega
theorem zGN : ∀ (l:a0 (R×R)) (i:E) (x:R×R),l[i]?=Q x->(aflat l)[i*2]?=Q (ae x.1)/\(aflat l)[i*2+1]?=Q (ae x.2)
 | [],i,d,h=>by simp at h
 | y::t,0,x,h=>by
  simp at h;subst h;exact⟨rfl,rfl⟩
 | y::t,i+1,x,h=>by
  have e:aflat (y::t)=ae y.1::ae y.2::aflat t:=by simp[aflat]
  have o:=zGN t i x (by simpa using h);rw[e,show (i+1)*2=i*2+1+1 from by omega];exact o
theorem zML (l:a0 (R×R))(j:E)(u:au)(h:(aflat l)[j]?=Q u):∃ i x,l[i]?=Q x/\((j=i*2/\u=ae x.1)\/(j=i*2+1/\u=ae x.2)):=by
 have o:j<(aflat l).length:=(List.getElem?_eq_some_iff.1 h).1;rw[zBx]at o;have v:j / 2<(l:E):=by omega
 have y:=zGN l (j / 2) l[j / 2] (bc v);refine⟨j / 2,l[j / 2],bc v,?_⟩;rcases(by omega:j=j / 2*2\/j=j / 2*2+1)with e|e
 .left;refine⟨e,?_⟩;rw[e,y.1]at h;exact(Option.some.inj h).symm
 .right;refine⟨e,?_⟩;rw[e,y.2]at h;exact(Option.some.inj h).symm
theorem zBw (l:a0 (R×R)):∀ u∈aflat l,u.oneCell'=true:=by
 intro u h;obtain⟨x,_,h⟩:=List.mem_flatMap.1 h;simp at h;rcases h with rfl|rfl<;>rfl
theorem Atts.src {y:E}(h:Atts W a y l):∀ v,a=Q v->∀ j u,(aflat l)[j]?=Q u->W (v.add j)=Q u:=by
 intro v e j u I;obtain⟨i,x,z,J⟩:=zML _ _ _ I;obtain⟨A,_,N⟩:=h.cell v e (by intro e;subst e;simp at z);obtain⟨b,o,O⟩:=v;simp only at A;subst A;have F:=N i x z;rw[Addr.add_lit];rcases J with⟨rfl,rfl⟩|⟨rfl,rfl⟩
 .exact F.1
 .exact F.2
theorem Atts.of_own {u:E}{e:TypeId}(h:w.ownsRow u e 2 v (l:E) (aflat l))(N:∀ x∈l,x.1.size<=ba/\x.2.size<=ba):
  ∃ a o,v=M a l o/\Atts w a o l/\∀ y,a=Q y->u<=y.block:=by
 obtain⟨_,⟨rfl,z⟩|⟨g,o,A,rfl,O,F,U,z,h3,V⟩⟩:=h
 .have:l=[]:=bx z;subst this;exact⟨C,0,rfl,ce w,λ_ e=>by cases e⟩
 .refine⟨Q ⟨g,0,C⟩,o,rfl,⟨U,z,(λe=>by cases e),N,?_⟩,λy e=>by cases e;exact O⟩;intro y e X;cases e;refine⟨rfl,zC F,λi x I=>?_⟩;have Y:i<(l:E):=(List.getElem?_eq_some_iff.1 I).1;have Z:=zGN l i x I;rw[zB F,zB F];simp only[dd];rw[<-co,<-co];have J:∀ j,j<(l:E)*2->A.toList[j]?=(aflat l)[j]?:=λj hj=>by
   rw[<-V,cx hj]
  rw[J _ (by omega),J _ (by omega)];exact Z
theorem zH7 (a:ai ak)(v:E)(l:a0 (R×R))(w:ab)(F:Atts w a v l)(X:(l:E)<=1000000):
  aj ah 24 #[M a l v] w λe w'=>(∃ y z,e=.returned (M y l z)/\Atts w' y z l/\∀ A,y=Q A->(w:E)<=A.block)/\Fr No w w':=by
 obtain⟨Y,Z,I,J,N⟩:=info_parts infoA;cases a with
 | none=>
  obtain⟨rfl,rfl⟩:=F.isNil rfl;have hq:=zGB;go_enter dh,dk;go_wp2;go_ret;exact⟨⟨C,0,rfl,ce _,λ_ e=>by cases e⟩,ag _ _⟩
 | some A=>
  have hx:Fr No w (w.alloc (P #[] 78)):=(ag _ _).alloc _;have O:=F.no hx (λ_=>id);have hq:=zGB;go_enter dh,dk;have o:(w.alloc (P #[] 78)).ownsRow (w:E) 78 2 (M (Q ⟨w,0,C⟩) 0 0) 0 []:=
   ⟨rfl,.inr ⟨(w:E),0,#[],rfl,bf _,zF _ _,bf _,by unfold ba;omega,rfl,rfl⟩⟩
  go_wp2_with (at_builtin;refine zAC rfl _ _ 46 rfl (w:E) 78 Y (af #[bv,bv]) 2 32 du Z I J N rfl (by decide) _ 0 [] rfl o (Q A) (l:E) _ (aflat l) rfl (λe=>by cases e) (zBx l) (λU e=>O.src U e) (zBw l) (by unfold ba;omega) (by omega) (by simp) ?_;intro v' w1 u V)
  go_ret;simp only[dd,List.nil_append]at u;obtain⟨y,z,hv,h1,h2⟩:=Atts.of_own u F.wf;exact⟨⟨y,z,by rw[<-hv];rfl,h1,h2⟩,((ag No w).alloc _).step (zFB o V) (λb X h=>by omega)⟩
theorem zFO (d:Dev)(l:a0 (R×R))(w:ab)(hl:Atts w d.aa d.ac l)(a3:d.an=(l:E))(hb:(l:E)<=1000000):
  aj ah 116 #[af d.vals] w λe w'=>(∃ u y,e=.returned (af ({ d with aa:=u,ac:=y }:Dev).vals)/\Atts w' u y l/\∀ A,u=Q A->(w:E)<=A.block)/\Fr No w w':=by
 obtain⟨F,I,nm,J,N,O,U,V,X,aa,an,ac⟩:=d;dsimp only at a3 hl;subst a3;have hx:Fr No w ((w.alloc (P #[F,I,nm,J,N,O,U,V,X,M aa l ac] 48)).alloc (P #[L G 0,L G 0,(),(),(),(),(),L G 0,L G 0,M C 0 0] 48)):=((ag _ _).alloc _).alloc _;have q0:=zP w (P #[F,I,nm,J,N,O,U,V,X,M aa l ac] 48) (P #[L G 0,L G 0,(),(),(),(),(),L G 0,L G 0,M C 0 0] 48);have q1:=zS w (P #[F,I,nm,J,N,O,U,V,X,M aa l ac] 48) (P #[L G 0,L G 0,(),(),(),(),(),L G 0,L G 0,M C 0 0] 48);show aj ah 116 #[af #[F,I,nm,J,N,O,U,V,X,M aa l ac]] w _
 go_enter Tryz.func116,Tryz.ntmps116;go_upto_region 1 with(fail)
 have a5:(w:E)+2<=((w.alloc (P #[F,I,nm,J,N,O,U,V,X,M aa l ac] 48)).alloc (P #[L G 0,L G 0,(),(),(),(),(),L G 0,L G 0,M C 0 0] 48)).heap.size:=by simp
 generalize (w.alloc (P #[F,I,nm,J,N,O,U,V,X,M aa l ac] 48)).alloc (P #[L G 0,L G 0,(),(),(),(),(),L G 0,L G 0,M C 0 0] 48)=W0 at *;have c9:W0 ⟨w,9,C⟩=Q (M aa l ac):=zB q0 9;have a6:(w:E)<=(W0:E):=hx.size;go_wp2_with fail;apply (zH7 aa ac l _ (hl.no hx (λ_=>id)) hb).mono;rintro e w1 ⟨⟨u,y,rfl,hA,o⟩,Z⟩;have p0:=Z.heap q0 id;have p1:=Z.heap q1 id;clear c9 q0 q1;have c9:w1 ⟨w,9,C⟩=Q (M aa l ac):=zB p0 9;have f9:w1.frozen? ⟨w,9,C⟩=false:=zD p0 9;go_upto_region 2 with(fail)
 have z:Fr (Is (w:E)) w1 (w1.setCell ⟨w,9,C⟩ (M u l y)):=aw (ag _ _) _;have r0:=zE p0 9 (M u l y);have r1:=z.heap p1 (λe=>by omega);have a4:=hA.fr z (λA e _ h=>by have:=o A e;omega);clear p0 p1 c9 f9;generalize w1.setCell ⟨w,9,C⟩ (M u l y)=W1 at *;obtain⟨c0,c1,c2,c3,c4,c5,c6,c7,c8,c9⟩:=cl10 r0;obtain⟨z0,z1,z2,z3,z4,z5,z6,z7,z8,z9⟩:=cl10 r1;obtain⟨y0,y1,y2,y3,y4,y5,y6,y7,y8,y9⟩:=fl10 r1;have a2:=zA6 r1 rfl ⟨F,I,nm,J,N,O,U,V,X,u,(l:E),y⟩;have Y:m _:=bu (a4.fr a2.2 (λA e _ h=>by have:=o A e;omega)) ((((hx.step Z zi).step z (λb hb e=>by omega)).step a2.2 (λb hb e=>by omega)));clear a2 a4 hA r0 r1 z;go_wp2_with fail;refine aq (v:=af #[F,I,nm,J,N,O,U,V,X,M u l y]) (by simp[ar,Tryz.results116,go_sem,z0,z1,z2,z3,z4,z5,z6,z7,z8,z9]) rfl ?_;exact⟨⟨u,y,rfl,Y.1,λA e=>by have:=o A e;omega⟩,Y.2⟩
def FoundD (w w':ab)(ds:a0 Dev)(n:a1)(e:bi):Prop:=
 (look ds n=C/\e=.returned (.tuple #[af Dev.zero.vals,.bool D]))\/
 ∃ d a' c' l,look ds n=Q d/\e=.returned (.tuple #[af ({ d with aa:=a',ac:=c' }:Dev).vals,.bool al])/\Atts w' a' c' l/\d.an=l.length/\l.length<=24/\∀ ad,a'=Q ad->(w:E)<=ad.block
theorem zJY (a:ai ak)(o:E)(ds:a0 Dev)(b Y:E)(n:a1)(w:ab)(hl:Tr w Y a o ds)(hb:w ⟨b,0,C⟩=Q (L G n)):
  aj ah 57 #[af #[M a ds o],.func (.func 58) #[] #[ao (Q ⟨b,0,C⟩)]] w λe w'=>FoundD w w' ds n e/\Fr No w w':=by
 have hx:Fr No w ((w.alloc (P #[M a ds o] 39)).alloc (P #[L G 0,L G 0,(),(),(),(),(),L G 0,L G 0,M C 0 0] 48)):=((ag _ _).alloc _).alloc _;have q0:=zP w (P #[M a ds o] 39) (P #[L G 0,L G 0,(),(),(),(),(),L G 0,L G 0,M C 0 0] 48);have q1:=zS w (P #[M a ds o] 39) (P #[L G 0,L G 0,(),(),(),(),(),L G 0,L G 0,M C 0 0] 48);have a8:(w:E)+2<=((w.alloc (P #[M a ds o] 39)).alloc (P #[L G 0,L G 0,(),(),(),(),(),L G 0,L G 0,M C 0 0] 48)).heap.size:=by simp
 have hm:=hl.dv.lenmax;go_enter di,dl;go_upto_region 1 with(fail)
 generalize (w.alloc (P #[M a ds o] 39)).alloc (P #[L G 0,L G 0,(),(),(),(),(),L G 0,L G 0,M C 0 0] 48)=W0 at *;have t0:W0 ⟨w,0,C⟩=Q (M a ds o):=zB q0 0;go_wp2_with fail;apply (zJz a o ds b n _ (hl.dv.no hx (λ_=>id)) (hx.cell hb id)).mono;rintro e w1 ⟨rfl,N⟩;have p0:=N.heap q0 id;have O:=N.heap q1 id;have I:=hx.step N zi;have Z:=hl.no I;have a9:(w:E)+1<(w1:E):=zC O;clear t0 q0 q1;rcases zAw ds n with⟨A,F⟩|⟨k,d,A,F,J⟩
 .rw[F];have U:=zh A;clear A F;obtain⟨z0,z1,z2,z3,z4,z5,z6,z7,z8,z9⟩:=cl10 O;obtain⟨y0,y1,y2,y3,y4,y5,y6,y7,y8,y9⟩:=fl10 O;have z:=zA6 O rfl ⟨0,0,(),(),(),(),(),0,0,C,0,0⟩;have u:=zh (I.step z.2 (λb hb e=>by omega));clear z O I p0;go_wp2_with fail;refine aq (v:=.tuple #[af Dev.zero.vals,.bool D]) (by simp[ar,cd,go_sem,am,av,z0,z1,z2,z3,z4,z5,z6,z7,z8,z9];rfl) rfl ?_;exact⟨.inl ⟨U,rfl⟩,u⟩
 .rw[F];have U:=zh A;have hk:k<(ds:E):=(List.getElem?_eq_some_iff.1 J).1;obtain⟨l,hA,V,a5⟩:=(Z.el d (bd J)).att;obtain⟨bb,a6,d',rfl,hd,c0,c1,c2,c3,c4,c5,c6,c7,c8,c9⟩:=Z.dv.dev hk;obtain rfl:d=d':=by rw[J]at hd;exact Option.some.inj hd
  have X:=zh (zFO d l w1 hA V (by omega));have t0:w1 ⟨w,0,C⟩=Q (M (Q ⟨bb,a6,C⟩) ds o):=zB p0 0;have a7:=zh V;clear A F J hd V;go_wp2_with fail;apply X.mono;rintro e w2 ⟨⟨a',c',rfl,a2,y⟩,a3⟩;have p2:=a3.heap O id;have a4:=I.step a3 zi;clear p0 O c0 c1 c2 c3 c4 c5 c6 c7 c8 c9 t0;have b0:(w:E)+1<(w2:E):=zC p2;obtain⟨z0,z1,z2,z3,z4,z5,z6,z7,z8,z9⟩:=cl10 p2;obtain⟨y0,y1,y2,y3,y4,y5,y6,y7,y8,y9⟩:=fl10 p2;have z:=zA6 p2 rfl { d with aa:=a',ac:=c' };have u:m _:=bu (a2.fr z.2 (λad e _ h=>by have:=y ad e;omega)) (a4.step z.2 (λb hb e=>by omega));clear z a2 p2 a4;unfold am;go_wp2_with fail;refine aq (v:=.tuple #[af ({ d with aa:=a',ac:=c' }:Dev).vals,.bool al]) (by simp[ar,cd,go_sem,am,z0,z1,z2,z3,z4,z5,z6,z7,z8,z9]) rfl ?_;exact⟨.inr ⟨d,a',c',l,U,rfl,u.1,a7,a5,λad e=>by have:=y ad e;omega⟩,u.2⟩
theorem zBm (a:ai ak)(o:E)(ds:a0 Dev)(F:E)(n:a1)(w:ab)(hl:Tr w F a o ds):
  aj ah 29 #[af #[M a ds o],n] w λe w'=>FoundD w w' ds n e/\Fr No w w':=by
 have V:Fr No w (((w.alloc (P #[M a ds o] 39)).alloc (P #[n] 3)).alloc (P #[L G 0,L G 0,(),(),(),(),(),L G 0,L G 0,M C 0 0] 48)):=(((ag _ _).alloc _).alloc _).alloc _;have X:Fr No ((w.alloc (P #[M a ds o] 39)).alloc (P #[n] 3)) (((w.alloc (P #[M a ds o] 39)).alloc (P #[n] 3)).alloc (P #[L G 0,L G 0,(),(),(),(),(),L G 0,L G 0,M C 0 0] 48)):=(ag _ _).alloc _;have q0:=X.heap (zP w (P #[M a ds o] 39) (P #[n] 3)) id;have q1:=X.heap (zS w (P #[M a ds o] 39) (P #[n] 3)) id;have U:=zF ((w.alloc (P #[M a ds o] 39)).alloc (P #[n] 3)) (P #[L G 0,L G 0,(),(),(),(),(),L G 0,L G 0,M C 0 0] 48);rw[br,br]at U;clear X;go_enter Tryz.func29,Tryz.ntmps29;go_upto_region 1 with(fail)
 generalize ((w.alloc (P #[M a ds o] 39)).alloc (P #[n] 3)).alloc (P #[L G 0,L G 0,(),(),(),(),(),L G 0,L G 0,M C 0 0] 48)=W0 at *;have t0:W0 ⟨w,0,C⟩=Q (M a ds o):=zB q0 0;have t1:W0 ⟨(w:E)+1,0,C⟩=Q (L G n):=zB q1 0;have a3:=V.size;have a4:=zC U;go_wp2_with fail;apply (zJY a o ds ((w:E)+1) F n _ (hl.no V) t1).mono;rintro e w2 ⟨hF,J⟩;have I:=J.heap U id;have A:=V.step J zi;have a5:(w:E)+2<(w2:E):=zC I;clear t0 t1 q0 q1 U;obtain⟨z0,z1,z2,z3,z4,z5,z6,z7,z8,z9⟩:=cl10 I;obtain⟨y0,y1,y2,y3,y4,y5,y6,y7,y8,y9⟩:=fl10 I;rcases hF with⟨z,rfl⟩|⟨d,Y,Z,l,z,rfl,hA,N,a2,O⟩
 .have y:=zA6 I rfl av;have u:=zg2 z (A.step y.2 (λb hb e=>by omega));clear y I A z;unfold am av;go_wp2_with fail;refine aq (v:=.tuple #[af Dev.zero.vals,.bool D]) (by simp[ar,dn,go_sem,am,av,z0,z1,z2,z3,z4,z5,z6,z7,z8,z9]) rfl ?_;exact⟨.inl ⟨u.1,rfl⟩,u.2⟩
 .have y:=zA6 I rfl { d with aa:=Y,ac:=Z };have u:=zg4 z N (hA.fr y.2 (λad e _ h=>by have:=O ad e;omega)) (A.step y.2 (λb hb e=>by omega));clear y I A z N hA;unfold am;go_wp2_with fail;refine aq (v:=.tuple #[af ({ d with aa:=Y,ac:=Z }:Dev).vals,.bool al]) (by simp[ar,dn,go_sem,am,z0,z1,z2,z3,z4,z5,z6,z7,z8,z9]) rfl ?_;exact⟨.inr ⟨d,Y,Z,l,u.1,rfl,u.2.2.1,u.2.1,a2,λad e=>by have:=O ad e;omega⟩,u.2.2.2⟩
def fidx {α:Type}(p:α->ay):a0 α->a1
 | []=>-1
 | x::t=>if p x then 0 else if fidx p t<0 then -1 else fidx p t+1
theorem zH1 {α:Type}(p:α->ay):∀ (l:a0 α) (k:E) (x:α),l[k]?=Q x->p x=al->(∀ y∈l.take k,p y=D)->fidx p l=k
 | [],k,x,h,_,_=>by simp at h
 | y::t,0,x,h,e,_=>by simp at h;subst h;simp[fidx,e]
 | y::t,k+1,x,h,e,o=>by
  have u:p y=false:=o y (by simp);have v:=zH1 p t k x (by simpa using h) e (λz A=>o z (by simp[A]));unfold fidx;rw[u,v];simp;omega
theorem zG2 {α:Type}(p:α->ay):∀ l:a0 α,(∀ y∈l,p y=D)->fidx p l=-1
 | [],_=>rfl
 | y::t,h=>by
  unfold fidx;rw[h y (by simp),zG2 p t (λz o=>h z (by simp[o]))];simp
theorem zAq {α:Type}(p:α->ay):∀ l:a0 α,(fidx p l=-1/\l.find? p=C/\l.any p=D)\/∃ (k:E) (x:α),fidx p l=(k:a1)/\l[k]?=Q x/\l.find? p=Q x/\p x=al/\l.any p=al
 | []=>.inl ⟨rfl,rfl,rfl⟩
 | x::t=>by
  cases hp:p x
  .rcases zAq p t with⟨h,o,u⟩|⟨k,y,h,o,u,v,z⟩
   .exact .inl ⟨by simp[fidx,hp,h],by simp[ch,hp,o],by simp[hp,u]⟩
   .refine .inr ⟨k+1,y,?_,by simpa using o,by simp[ch,hp,u],v,by simp[hp,z]⟩;have:¬ ((k:a1)<0):=(by omega);simp[fidx,hp,h,this]
  .exact .inr ⟨0,x,by simp[fidx,hp],rfl,by simp[ch,hp],hp,by simp[hp]⟩
def Tells (g:E)(cb:bn au)(p:Dev->ay)(ds:a0 Dev)(w:ab):Prop:=
 ∀ d∈ds,∀ W,Fr No w W->aj ah g (#[af d.vals]++cb) W λe w'=>e=.returned (.bool (p d))/\Fr No W w'
theorem zBt (g:E)(N:bn au)(eg:∀ args w,(callFunc g args).run ah w=.ok (.enter g args) w)(p:Dev->ay)(a:ai ak)(A:E)(ds:a0 Dev)(w:ab)(O:Devs w a A ds)(U:Tells g N p ds w):
  aj ah 115 #[M a ds A,.func (.func g) #[] N] w λe w'=>e=.returned (L G (fidx p ds))/\Fr No w w':=by
 have hm:=O.lenmax;have Z:=zh U;clear U;go_enter df,dj;go_wp2_with fail;go_loopw [5,8] (λj i wr=>∃ k:E,k<=(ds:E)/\i=L G k/\m (∀ x∈ds.take k,p x=D)/\Fr No w wr) (λ_ i _=>(ds:E)-(ap i).toNat);case atStart=>exact⟨0,by omega,rfl,by unfold m;simp,ag _ _⟩
 case round=>
  obtain⟨k,hk,rfl,y,u⟩:=hrel;by_cases F:k<(ds:E)
  .have V:(k:a1)<(ds:E):=by omega
   obtain⟨bb,a2,d,rfl,I,c0,c1,c2,c3,c4,c5,c6,c7,c8,c9⟩:=(O.no u (λ_=>id)).dev F;have o:=Z.out d (bd I) wr u;have X:=zh I;clear I;cases hq:p d with
   | true=>
    rw[hq]at o;have J:=zh hq;clear hq;go_wp2_with (go_at_fn g;refine o.mono ?_;rintro e w1 ⟨rfl,z⟩)
    have v:=u.step z zi;go_ret;exact⟨zBE (zH1 p ds k d X J y).symm,v⟩
   | false=>
    rw[hq]at o;have J:=zh hq;clear hq;go_wp2_with (go_at_fn g;refine o.mono ?_;rintro e w1 ⟨rfl,z⟩)
    have v:=u.step z zi;go_roundw;case rel=>
     refine⟨k+1,by omega,by go_num,?_,v⟩;unfold m;intro x Y;rw[be,X]at Y;rcases List.mem_append.1 Y with h|h
     .exact y x h
     .simp at h;subst h;exact J.out
    case measure=>simp[ap];omega
  .obtain rfl:k=(ds:E):=by omega
   have h:=y.out;rw[az (by omega)]at h;have H:=zh (zG2 p ds h);clear h;go_wp2;go_ret;exact⟨zBE H.symm,u⟩
theorem zPR (g:E)(u:bn au)(F:∀ args w,(callFunc g args).run ah w=.ok (.enter g args) w)(p:Dev->ay)(a:ai ak)(o:E)(ds:a0 Dev)(w:ab)(I:Devs w a o ds)(J:Tells g u p ds w):
  aj ah 185 #[M a ds o,.func (.func g) #[] u] w λe w'=>e=.returned (.bool (ds.any p))/\Fr No w w':=by
 have h:=zBt g u F p a o ds w I J;have A:decide (0<=fidx p ds)=ds.any p:=by
  rcases zAq p ds with⟨v,_,y⟩|⟨k,x,v,_,_,_,y⟩
  .rw[v,y];rfl
  .rw[v,y];simp
 have N:=zh A;clear A;go_enter Tryz.func185,Tryz.ntmps185;go_wp2_with fail;apply h.mono;rintro e O ⟨rfl,z⟩;go_wp2;go_ret;exact⟨zN N,z⟩
def FoundP (w w':ab)(ds:a0 Dev)(p:Dev->ay)(e:bi):Prop:=
 (ds.find? p=C/\e=.returned (.tuple #[af Dev.zero.vals,.bool D]))\/
 ∃ d a' c' l,ds.find? p=Q d/\e=.returned (.tuple #[af ({ d with aa:=a',ac:=c' }:Dev).vals,.bool al])/\Atts w' a' c' l/\Atts w d.aa d.ac l/\d.an=l.length/\l.length<=24/\∀ ad,a'=Q ad->(w:E)<=ad.block
theorem Atts.det {c J:E}{l':a0 (R×R)}(h:Atts w a c l)(N:Atts w a J l')(u:(l:E)=(l':E)):l=l':=by
 by_cases o:l=[]
 .subst o;exact(bx u.symm).symm
 .have v:l'≠[]:=λe=>by subst e;exact o (bx u)
  cases a with
  | none=>exact bo (h.isNil rfl).1 o
  | some y=>
   obtain⟨_,_,O⟩:=h.cell y rfl o;obtain⟨_,_,U⟩:=N.cell y rfl v;refine List.ext_getElem u λi V X=>?_
   have z:=O i l[i] (bc V);have A:=U i l'[i] (bc X);have F:=z.1.symm.trans A.1;have I:=z.2.symm.trans A.2;simp only[Option.some.injEq,Value.string.injEq]at F I;exact Prod.ext F I
theorem zGV (g:E)(cb:bn au)(eg:∀ args w,(callFunc g args).run ah w=.ok (.enter g args) w)(p:Dev->ay)(a:ai ak)(y:E)(ds:a0 Dev)(a2:E)(w:ab)(hl:Tr w a2 a y ds)(hp:Tells g cb p ds w):
  aj ah 57 #[af #[M a ds y],.func (.func g) #[] cb] w λe w'=>FoundP w w' ds p e/\Fr No w w':=by
 obtain⟨W0,a3,hx,q0,q1⟩:=zw w (P #[M a ds y] 39) (P #[L G 0,L G 0,(),(),(),(),(),L G 0,L G 0,M C 0 0] 48);have hm:=hl.dv.lenmax;have N:=zBt g cb eg p a y ds W0 (hl.dv.no hx (λ_=>id)) (λd hd W hf=>hp d hd W (hx.step hf zi));clear hp;go_enter di,dl;go_upto_region 1 with(fail)
 rw[<-a3];clear a3;have t0:W0 ⟨w,0,C⟩=Q (M a ds y):=zB q0 0;go_wp2_with fail;apply N.mono;rintro e w1 ⟨rfl,O⟩;clear N;have p0:=O.heap q0 id;have U:=O.heap q1 id;have A:=hx.step O zi;have a7:=hl.no A;have b2:(w:E)+1<(w1:E):=zC U;clear t0 q0 q1;rcases zAq p ds with⟨F,I,-⟩|⟨k,d,F,J,I,-,-⟩
 .rw[F];have V:=zh I;clear I F;obtain⟨z0,z1,z2,z3,z4,z5,z6,z7,z8,z9⟩:=DevB.of (d:=⟨0,0,(),(),(),(),(),0,0,C,0,0⟩) U;obtain⟨y0,y1,y2,y3,y4,y5,y6,y7,y8,y9⟩:=DevF.of U;have z:=zA6 U rfl ⟨0,0,(),(),(),(),(),0,0,C,0,0⟩;have o:=zh (A.step z.2 (λb hb e=>by omega));clear z U A p0;go_wp2_with fail;refine aq (v:=.tuple #[af Dev.zero.vals,.bool D]) (by simp[ar,cd,go_sem,am,av,z0,z1,z2,z3,z4,z5,z6,z7,z8,z9];rfl) rfl ?_;exact⟨.inl ⟨V,rfl⟩,o⟩
 .rw[F];have V:=zh I;have hk:k<(ds:E):=(List.getElem?_eq_some_iff.1 J).1;obtain⟨l,X,Y,a8⟩:=(hl.el d (bd J)).att;have hA:=X.no A (λ_=>id);have a9:=zh X;clear X;obtain⟨bb,b0,d',rfl,hd,c0,c1,c2,c3,c4,c5,c6,c7,c8,c9⟩:=a7.dv.dev hk;obtain rfl:d=d':=by rw[J]at hd;exact Option.some.inj hd
  have Z:=zh (zFO d l w1 hA Y (by omega));have t0:w1 ⟨w,0,C⟩=Q (M (Q ⟨bb,b0,C⟩) ds y):=zB p0 0;have b1:=zh Y;clear I F J hd Y;go_wp2_with fail;apply Z.mono;rintro e w2 ⟨⟨a',c',rfl,a4,u⟩,a5⟩;have p2:=a5.heap U id;have a6:=A.step a5 zi;clear p0 U c0 c1 c2 c3 c4 c5 c6 c7 c8 c9 t0;have b3:(w:E)+1<(w2:E):=zC p2;obtain⟨z0,z1,z2,z3,z4,z5,z6,z7,z8,z9⟩:=DevB.of (d:=⟨0,0,(),(),(),(),(),0,0,C,0,0⟩) p2;obtain⟨y0,y1,y2,y3,y4,y5,y6,y7,y8,y9⟩:=DevF.of p2;have z:=zA6 p2 rfl { d with aa:=a',ac:=c' };have o:m _:=bu (a4.fr z.2 (λad e _ h=>by have:=u ad e;omega)) (a6.step z.2 (λb hb e=>by omega));clear z a4 p2 a6;unfold am;go_wp2_with fail;refine aq (v:=.tuple #[af ({ d with aa:=a',ac:=c' }:Dev).vals,.bool al]) (by simp[ar,cd,go_sem,am,z0,z1,z2,z3,z4,z5,z6,z7,z8,z9]) rfl ?_;exact⟨.inr ⟨d,a',c',l,V,rfl,o.1,a9,b1,a8,λad e=>by have:=u ad e;omega⟩,o.2⟩
def plc (ds:a0 Dev)(n:a1):R:=((look ds n).map λ_=>pathOf (origin ds n)).getD ⟨#[]⟩
def atP (ds:a0 Dev)(s:R)(d:Dev):Bool:=(plc ds d.index).toList==s.toList
theorem zDH (h:TreeOk ds)(n:a1):(ogs ds n).getD ⟨#[]⟩=plc ds n:=by
 have:=zIh h (ds:E) (bf _) n;rw[az (bf _)]at this;rw[this];rfl
theorem zQz (d:Dev)(ds:a0 Dev)(a:ai ak)(u U v A F:E)(s:R)(w:ab)(I:TreeOk ds)(V:d∈ds)(J:w.heap[A]?=Q (P #[M a ds u,.map (Q U),.map (Q v)] 153))(N:SMap w v (ogs ds) (ds:E))(O:w ⟨F,0,C⟩=Q (ae s)):
  aj ah 85 #[af d.vals,ao (Q ⟨A,0,C⟩),ao (Q ⟨F,0,C⟩)] w λe w'=>e=.returned (.bool (atP ds s d))/\Fr No w w':=by
 have o:Fr No w (w.alloc (P d.vals 48)):=(ag _ _).alloc _;have X:=o.cell O id;have h:=o.heap J id;have Z:=zB h 2;have y:=N.fr o id;have z:=I.iwf V;have Y:=zh (zDH I d.index);clear O J N h;unfold am at *;go_enter Tryz.func85,Tryz.ntmps85;go_wp2_with (at_lookup;refine zHL rfl _ _ 151 rfl rfl v _ _ d.index z rfl y rfl ?_)
 go_ret;exact⟨by unfold atP;rw[<-Y];rfl,o⟩
theorem zD1 (a:ai ak)(o:E)(ds:a0 Dev)(V:E)(s:R)(w:ab)(hl:Tr w V a o ds)(hn:(ds:E)<=1000):
  aj ah 47 #[af #[M a ds o],s] w λe w'=>FoundP w w' ds (atP ds s) e/\Fr No w w':=by
 have hT:=hl.wf.ok;obtain⟨X,I⟩:=ε (((w.alloc (P #[M a ds o] 39)).alloc (P #[s] 9)).alloc (P #[L G 0,L G 0,(),(),(),(),(),L G 0,L G 0,M C 0 0] 48))
 have fx:Fr No ((w.alloc (P #[M a ds o] 39)).alloc (P #[s] 9)) X:=by rw[I];exact(ag _ _).alloc _
 have hx:Fr No w X:=by rw[I];exact(((ag _ _).alloc _).alloc _).alloc _
 have q0:=fx.heap (zP w (P #[M a ds o] 39) (P #[s] 9)) id;have q1:=fx.heap (zS w (P #[M a ds o] 39) (P #[s] 9)) id;have q2:X.heap[(w:E)+1+1]?=Q (P #[L G 0,L G 0,(),(),(),(),(),L G 0,L G 0,M C 0 0] 48):=by
  have:=zF ((w.alloc (P #[M a ds o] 39)).alloc (P #[s] 9)) (P #[L G 0,L G 0,(),(),(),(),(),L G 0,L G 0,M C 0 0] 48);rw[br,br]at this;rw[I];exact this
 clear fx;have t0:X ⟨w,0,C⟩=Q (M a ds o):=zB q0 0;have J:=zCc a o ds X (hl.dv.no hx (λ_=>id)) hT hn;have b0:=zC q2;go_enter Tryz.func47,Tryz.ntmps47;go_upto_region 1 with(fail)
 rw[<-I];clear I;go_wp2_with fail;apply J.mono;rintro e w1 ⟨⟨m1,m2,rfl,b2,b3,b4,hI,hS⟩,N⟩;clear J hI;have a7:=hx.step N zi;obtain⟨W1,Z,z,b1⟩:=zy w1 (P #[M a ds o,.map (Q m1),.map (Q m2)] 153);have p0:=z.heap (N.heap q0 id) id;have p1:=z.heap (N.heap q1 id) id;have p2:=z.heap (N.heap q2 id) id;have a8:=hS.fr z id;have O:=a7.step z zi;have b5:=N.size;clear q0 q1 q2 t0;have t0:W1 ⟨w,0,C⟩=Q (M a ds o):=zB p0 0;have t1:W1 ⟨(w:E)+1,0,C⟩=Q (ae s):=zB p1 0;have y:=zGV 85 #[ao (Q ⟨w1,0,C⟩),ao (Q ⟨(w:E)+1,0,C⟩)] (λ_ _=>rfl) (atP ds s) a o ds V W1 (hl.no O) (λd hd W hf=>zQz d ds a o m1 m2 _ _ s W hT hd (hf.heap b1 id) (a8.fr hf id) (hf.cell t1 id));go_upto_region 2 with(fail)
 rw[<-Z];clear Z;go_wp2_with fail;apply y.mono;rintro e w2 ⟨hF,a2⟩;clear y;have Y:=a2.heap p2 id;have U:=O.step a2 zi;have b6:(w:E)+1+1<(w2:E):=zC Y;clear t0 t1 p0 p1 p2;obtain⟨z0,z1,z2,z3,z4,z5,z6,z7,z8,z9⟩:=DevB.of (d:=⟨0,0,(),(),(),(),(),0,0,C,0,0⟩) Y;obtain⟨y0,y1,y2,y3,y4,y5,y6,y7,y8,y9⟩:=DevF.of Y;have b7:=O.size;have b8:=z.size;rcases hF with⟨A,rfl⟩|⟨d,a',c',l,A,rfl,hA,a3,a4,a9,a5⟩
 .have F:=zA6 Y rfl av;have u:=zg2 A (U.step F.2 (λb hb e=>by omega));clear F Y U A;unfold am av;go_wp2_with fail;refine aq (v:=.tuple #[af Dev.zero.vals,.bool D]) (by simp[ar,dq,go_sem,am,av,z0,z1,z2,z3,z4,z5,z6,z7,z8,z9]) rfl ?_;exact⟨.inl ⟨u.1,rfl⟩,u.2⟩
 .have F:=zA6 Y rfl { d with aa:=a',ac:=c' };have a6:Atts w d.aa d.ac l:=by
   obtain⟨l0,g1,g2,_⟩:=(hl.el d (List.mem_of_find?_eq_some A)).att;have e:l0=l:=(g1.no O (λ_=>id)).det a3 (by omega);rw[<-e];exact g1
  have u:=zg4 A a4 (bu (hA.fr F.2 (λad e _ h=>by have:=a5 ad e;omega)) a6) (U.step F.2 (λb hb e=>by omega));clear F Y U A a4 hA a3 a6;unfold am;go_wp2_with fail;refine aq (v:=.tuple #[af ({ d with aa:=a',ac:=c' }:Dev).vals,.bool al]) (by simp[ar,dq,go_sem,am,z0,z1,z2,z3,z4,z5,z6,z7,z8,z9]) rfl ?_;exact⟨.inr ⟨d,a',c',l,u.1,rfl,u.2.2.1.1,u.2.2.1.2,u.2.1,a9,λad e=>by have:=a5 ad e;omega⟩,u.2.2.2⟩
structure Rec where
 path:R
 index:a1
 props:a0 (R×R)
 tags:a0 R
 pa:ai ak
 pc:E
 ta:ai ak
 tc:E
 la:ai ak
 ln:E
 lc:E
 ra:ai ak
 rn:E
 rc:E
 oa:ai ak
 on:E
 oc:E
 name:R
 prio:a1
 owner:R
 group:R
 mode:a1
def Rec.cell (r:Rec):E->au
 | 0=>ae r.path
 | 1=>L G r.index
 | 2=>M r.pa r.props r.pc
 | 3=>M r.ta r.tags r.tc
 | 4=>M r.la r.ln r.lc
 | 5=>M r.ra r.rn r.rc
 | 6=>M r.oa r.on r.oc
 | 7=>ae r.name
 | 8=>L G r.prio
 | 9=>ae r.owner
 | 10=>ae r.group
 | _=>L G r.mode
def Rec.vals (r:Rec):bn au:=#[ae r.path,L G r.index,M r.pa r.props r.pc,M r.ta r.tags r.tc,M r.la r.ln r.lc,M r.ra r.rn r.rc,M r.oa r.on r.oc,ae r.name,L G r.prio,ae r.owner,ae r.group,L G r.mode]
def Rec.zero : Rec:=⟨(),0,[],[],C,0,C,0,C,0,0,C,0,0,C,0,0,(),0,(),(),0⟩
structure RecOk (w:ab)(r:Rec):Prop where
 props:Atts w r.pa r.pc r.props
 tags:Strs w r.ta r.tc r.tags
theorem RecOk.no {r:Rec}(h:RecOk w r)(o:Fr S w w')(u:∀ k,¬ S k):RecOk w' r:=⟨h.props.no o u,h.tags.no o u⟩
theorem RecOk.zero (w:ab):RecOk w Rec.zero:=⟨ce w,Strs.nil w⟩
structure Recs (w:ab)(a:ai ak)(cap:E)(l:a0 Rec):Prop where
 len:(l:E)<=cap
 max:cap<=ba
 isNil:a=C->l=[]/\cap=0
 ok:∀ r∈l,RecOk w r
 cell:∀ ad,a=Q ad->l≠[]->ad.spot=C/\ad.block<(w:E)/\∀ i r,l[i]?=Q r->∀ j,j<12->w ⟨ad.block,ad.off+(i*12+j),C⟩=Q (r.cell j)
structure RecAt (w:ab)(b o:E)(r:Rec):Prop where
 c0:w ⟨b,o,C⟩=Q (ae r.path)
 c1:w ⟨b,o+1,C⟩=Q (L G r.index)
 c2:w ⟨b,o+2,C⟩=Q (M r.pa r.props r.pc)
 c3:w ⟨b,o+3,C⟩=Q (M r.ta r.tags r.tc)
 c4:w ⟨b,o+4,C⟩=Q (M r.la r.ln r.lc)
 c5:w ⟨b,o+5,C⟩=Q (M r.ra r.rn r.rc)
 c6:w ⟨b,o+6,C⟩=Q (M r.oa r.on r.oc)
 c7:w ⟨b,o+7,C⟩=Q (ae r.name)
 c8:w ⟨b,o+8,C⟩=Q (L G r.prio)
 c9:w ⟨b,o+9,C⟩=Q (ae r.owner)
 c10:w ⟨b,o+10,C⟩=Q (ae r.group)
 c11:w ⟨b,o+11,C⟩=Q (L G r.mode)
theorem Recs.elem {y:E}{l:a0 Rec}(h:Recs w a y l)(v:k<(l:E)):
  ∃ b u r,a=Q ⟨b,u,C⟩/\l[k]?=Q r/\RecOk w r/\RecAt w b (u+k*12) r:=by
 cases a with
 | none=>obtain⟨rfl,_⟩:=h.isNil rfl;simp at v
 | some A=>
  obtain⟨b,u,I⟩:=A;obtain⟨z,J,F⟩:=h.cell _ rfl (by intro e;subst e;simp at v);simp at z;subst z;have o:=F k _ (bc v);exact⟨b,u,l[k],rfl,bc v,h.ok _ (ci v),⟨o 0 (by omega),o 1 (by omega),o 2 (by omega),o 3 (by omega),o 4 (by omega),o 5 (by omega),o 6 (by omega),o 7 (by omega),o 8 (by omega),o 9 (by omega),o 10 (by omega),o 11 (by omega)⟩⟩
theorem Recs.lenmax {o:E}{l:a0 Rec}(h:Recs w a o l):(l:E)<=9223372036854775807:=by
 have v:=h.len;have u:=h.max;unfold ba at u;omega
theorem Recs.no {o:E}{l:a0 Rec}(h:Recs w a o l)(u:Fr S w w')(y:∀ k,¬ S k):Recs w' a o l:=
 ⟨h.len,h.max,h.isNil,λr z=>(h.ok r z).no u y,λA e v=>by
  obtain⟨F,I,J⟩:=h.cell A e v;exact⟨F,Nat.lt_of_lt_of_le I u.size,λi r N j O=>u.cell (J i r N j O) (y _)⟩⟩
theorem Recs.nil (w:ab):Recs w C 0 []:=⟨by simp,by simp,λ_=>⟨rfl,rfl⟩,by simp,λ_ e _=>by cases e⟩
def Rec.is (n:a1)(p:R)(r:Rec):Bool:=decide (r.index=n)&&(r.path.toList==p.toList)
def rplace : a0 Rec->a1->R->a1
 | [],_,_=>-1
 | r::t,n,p=>if r.is n p then 0 else if rplace t n p<0 then -1 else rplace t n p+1
theorem zEA : ∀ (l:a0 Rec) (n:a1) (p:R),(l.find? (Rec.is n p)=C/\rplace l n p=-1)\/∃ (k:E) (r:Rec),l.find? (Rec.is n p)=Q r/\rplace l n p=(k:a1)/\l[k]?=Q r
 | [],n,p=>.inl ⟨rfl,rfl⟩
 | r::t,n,p=>by
  unfold rplace;rw[ct];cases hr:r.is n p with
  | true=>exact .inr ⟨0,r,rfl,rfl,rfl⟩
  | false=>
   rcases zEA t n p with⟨h,o⟩|⟨k,x,h,o,u⟩
   .left;refine⟨h,?_⟩;simp[o]
   .right;refine⟨k+1,x,h,?_,by simpa using u⟩;rw[o,bh (by simp),bh (by omega)];rfl
theorem zD8 : ∀ (l:a0 Rec) (n:a1) (p:R) (k:E) (r:Rec),l[k]?=Q r->r.is n p=al->(∀ x∈l.take k,x.is n p=D)->rplace l n p=k
 | [],n,p,k,r,h,_,_=>by simp at h
 | x::t,n,p,0,r,h,e,_=>by simp at h;subst h;simp[rplace,e]
 | x::t,n,p,k+1,r,h,e,o=>by
  have u:x.is n p=false:=o x (by simp);have v:=zD8 t n p k r (by simpa using h) e (λy z=>o y (by simp[z]));unfold rplace;rw[u,v];simp;omega
theorem zD9 : ∀ (l:a0 Rec) (n:a1) (p:R),(∀ x∈l,x.is n p=D)->rplace l n p=-1
 | [],n,p,_=>rfl
 | x::t,n,p,h=>by
  unfold rplace;rw[h x (by simp),zD9 t n p (λy o=>h y (by simp[o]))];simp
theorem zOp (h:W.heap[b]?=Q (P cs T))(v:cs.size=12)(r:Rec):
  ((((((((((((W.setCell ⟨b,0,C⟩ (ae r.path)).setCell ⟨b,1,C⟩ (L G r.index)).setCell ⟨b,2,C⟩ (M r.pa r.props r.pc)).setCell ⟨b,3,C⟩ (M r.ta r.tags r.tc)).setCell ⟨b,4,C⟩ (M r.la r.ln r.lc)).setCell ⟨b,5,C⟩ (M r.ra r.rn r.rc)).setCell ⟨b,6,C⟩ (M r.oa r.on r.oc)).setCell ⟨b,7,C⟩ (ae r.name)).setCell ⟨b,8,C⟩ (L G r.prio)).setCell ⟨b,9,C⟩ (ae r.owner)).setCell ⟨b,10,C⟩ (ae r.group)).setCell ⟨b,11,C⟩ (L G r.mode)).heap[b]?=Q (P r.vals T)/\Fr (Is b) W ((((((((((((W.setCell ⟨b,0,C⟩ (ae r.path)).setCell ⟨b,1,C⟩ (L G r.index)).setCell ⟨b,2,C⟩ (M r.pa r.props r.pc)).setCell ⟨b,3,C⟩ (M r.ta r.tags r.tc)).setCell ⟨b,4,C⟩ (M r.la r.ln r.lc)).setCell ⟨b,5,C⟩ (M r.ra r.rn r.rc)).setCell ⟨b,6,C⟩ (M r.oa r.on r.oc)).setCell ⟨b,7,C⟩ (ae r.name)).setCell ⟨b,8,C⟩ (L G r.prio)).setCell ⟨b,9,C⟩ (ae r.owner)).setCell ⟨b,10,C⟩ (ae r.group)).setCell ⟨b,11,C⟩ (L G r.mode)):=by
 refine⟨?_,aw (aw (aw (aw (aw (aw (aw (aw (aw (aw (aw (aw (ag _ _) _) _) _) _) _) _) _) _) _) _) _) _⟩;obtain⟨l⟩:=cs
 match l,v with
 | [_,_,_,_,_,_,_,_,_,_,_,_],_=>
  have y:=zE h 0 (ae r.path);have z:=zE y 1 (L G r.index);have A:=zE z 2 (M r.pa r.props r.pc);have F:=zE A 3 (M r.ta r.tags r.tc);have I:=zE F 4 (M r.la r.ln r.lc);have J:=zE I 5 (M r.ra r.rn r.rc);have N:=zE J 6 (M r.oa r.on r.oc);have O:=zE N 7 (ae r.name);have U:=zE O 8 (L G r.prio);have V:=zE U 9 (ae r.owner);have u:=zE V 10 (ae r.group);have o:=zE u 11 (L G r.mode);simp only[List.setIfInBounds_toArray,List.set_cons_zero,List.set_cons_succ]at o;exact o
theorem zP4 (r:Rec)(o u:E)(n:a1)(p:R)(w:ab)(v:w ⟨o,0,C⟩=Q (L G n))(y:w ⟨u,0,C⟩=Q (ae p)):
  aj ah 147 #[af r.vals,ao (Q ⟨o,0,C⟩),ao (Q ⟨u,0,C⟩)] w λe w'=>e=.returned (.bool (r.is n p))/\Fr No w w':=by
 have h:Fr No w (w.alloc (P r.vals 76)):=(ag _ _).alloc _;have z:=h.cell v id;have A:=h.cell y id;clear v y;unfold Rec.vals at *;rcases h1:(r.index==n)with _|_
 .have H:m (r.is n p=D):=by unfold m Rec.is;simp at h1;simp[h1]
  go_enter ck,cl;go_wp2_with fail
  all_goals (go_ret;exact⟨zN H.symm,h⟩)
 .rcases h2:(r.path.toList==p.toList)with _|_
  .have H:m (r.is n p=D):=by unfold m Rec.is;rw[h2,Bool.and_false]
   go_enter ck,cl;go_wp2_with fail
   all_goals (go_ret;exact⟨zN H.symm,h⟩)
  .have H:m (r.is n p=al):=by unfold m Rec.is;simp at h1;rw[h2,Bool.and_true];simp[h1]
   go_enter ck,cl;go_wp2_with fail
   all_goals (go_ret;exact⟨zN H.symm,h⟩)
theorem zK7 (a:ai ak)(z:E)(l:a0 Rec)(A F:E)(n:a1)(p:R)(w:ab)(U:Recs w a z l)(h4:w ⟨A,0,C⟩=Q (L G n))(h5:w ⟨F,0,C⟩=Q (ae p)):
  aj ah 146 #[M a l z,.func (.func 147) #[] #[ao (Q ⟨A,0,C⟩),ao (Q ⟨F,0,C⟩)]] w λe w'=>e=.returned (L G (rplace l n p))/\Fr No w w':=by
 have hm:=U.lenmax;go_enter Tryz.func146,Tryz.ntmps146;go_wp2_with fail;go_loopw [8] (λi wr=>∃ k:E,k<=(l:E)/\i=L G k/\m (∀ x∈l.take k,x.is n p=D)/\Fr No w wr) (λi _=>(l:E)-(ap i).toNat);case atStart=>exact⟨0,by omega,rfl,by unfold m;simp,ag _ _⟩
 case round=>
  obtain⟨k,hk,rfl,v,o⟩:=hrel;by_cases I:k<(l:E)
  .have V:(k:a1)<(l:E):=by omega
   obtain⟨bb,a2,r,rfl,X,_,c0,c1,c2,c3,c4,c5,c6,c7,c8,c9,J,N⟩:=(U.no o (λ_=>id)).elem I;have Y:=zh X;clear X;go_wp2_with fail;apply (zP4 r A F n p _ (o.cell h4 id) (o.cell h5 id)).mono;rintro e w1 ⟨rfl,O⟩;have u:=o.step O zi;clear c0 c1 c2 c3 c4 c5 c6 c7 c8 c9 J N;rcases hxn:r.is n p with _|_
   .have y:=zh hxn;clear hxn;go_wp2;go_roundw;case rel=>
     refine⟨k+1,by omega,by go_num,?_,u⟩;unfold m;intro x Z;rw[be,Y]at Z;rcases List.mem_append.1 Z with h|h
     .exact v x h
     .simp at h;subst h;exact y.out
    case measure=>simp[ap];omega
   .have y:=zh hxn;clear hxn;go_wp2;go_ret;exact⟨zBE (zD8 l n p k r Y y v).symm,u⟩
  .obtain rfl:k=(l:E):=by omega
   have h:=v.out;rw[az (by omega)]at h;have Hp:m (rplace l n p=-1):=zD9 _ _ _ h;clear h;go_wp2;go_ret;exact⟨zBE Hp.symm,o⟩
def FoundR (o:ai Rec)(e:bi):Prop:=match o with
 | none=>e=.returned (.tuple #[af Rec.zero.vals,.bool D])
 | some r=>e=.returned (.tuple #[af r.vals,.bool al])
theorem zMy (a:ai ak)(y:E)(l:a0 Rec)(n:a1)(p:R)(w:ab)(U:Recs w a y l):
  aj ah 94 #[M a l y,n,p] w λe w'=>FoundR (l.find? (Rec.is n p)) e/\Fr No w w':=by
 have hm:=U.lenmax;have V:Fr No w (((w.alloc (P #[n] 3)).alloc (P #[p] 9)).alloc (P #[(),L G 0,M C 0 0,M C 0 0,M C 0 0,M C 0 0,M C 0 0,(),L G 0,(),(),L G 0] 76)):=(((ag _ _).alloc _).alloc _).alloc _;have q4:=(((ag No _).alloc (P #[p] 9)).alloc (P #[(),L G 0,M C 0 0,M C 0 0,M C 0 0,M C 0 0,M C 0 0,(),L G 0,(),(),L G 0] 76)).heap (zF w (P #[n] 3)) id;have q5:=((ag No _).alloc (P #[(),L G 0,M C 0 0,M C 0 0,M C 0 0,M C 0 0,M C 0 0,(),L G 0,(),(),L G 0] 76)).heap (zS w (P #[n] 3) (P #[p] 9)) id;have X:=zS (w.alloc (P #[n] 3)) (P #[p] 9) (P #[(),L G 0,M C 0 0,M C 0 0,M C 0 0,M C 0 0,M C 0 0,(),L G 0,(),(),L G 0] 76);rw[br]at X;have a4:(((w.alloc (P #[n] 3)).alloc (P #[p] 9)).alloc (P #[(),L G 0,M C 0 0,M C 0 0,M C 0 0,M C 0 0,M C 0 0,(),L G 0,(),(),L G 0] 76)).heap.size=(w:E)+3:=by simp
 go_enter Tryz.func94,Tryz.ntmps94;go_upto_region 1 with(fail)
 generalize ((w.alloc (P #[n] 3)).alloc (P #[p] 9)).alloc (P #[(),L G 0,M C 0 0,M C 0 0,M C 0 0,M C 0 0,M C 0 0,(),L G 0,(),(),L G 0] 76)=W0 at *;go_wp2_with fail;apply (zK7 a y l _ _ n p _ (U.no V (λ_=>id)) (zB q4 0) (zB q5 0)).mono;rintro e w1 ⟨rfl,h⟩;have z:=(U.no V (λ_=>id)).no h (λ_=>id);have F:=V.step h zi;have A:=h.heap X id;have a5:=h.size;clear q4 q5 X V h U;obtain⟨z0,z1,z2,z3,z4,z5,z6,z7,z8,z9,I,J⟩:=cl12 A;obtain⟨y0,y1,y2,y3,y4,y5,y6,y7,y8,y9,a6,a7⟩:=fl12 A;rcases zEA l n p with⟨N,O⟩|⟨k,r,N,O,Y⟩
 .rw[O];have Z:=zh N;have o:=zOp A rfl Rec.zero;have u:=zh (F.step o.2 (λb hb e=>by omega));clear o A z N O;go_wp2_with fail;refine aq (v:=.tuple #[af Rec.zero.vals,.bool D]) (by simp[ar,dr,go_sem,Rec.vals,Rec.zero,z0,z1,z2,z3,z4,z5,z6,z7,z8,z9,I,J];try rfl) rfl ?_;exact⟨by rw[Z];rfl,u⟩
 .rw[O];have Z:=zh N;have a2:k<(l:E):=(List.getElem?_eq_some_iff.1 Y).1;have a3:(k:a1)<(l:E):=by omega
  obtain⟨bb,a8,r',rfl,hr,_,c0,c1,c2,c3,c4,c5,c6,c7,c8,c9,a9,b0⟩:=z.elem a2;rw[Y]at hr;cases hr;have o:=zOp A rfl r;have u:=zh (F.step o.2 (λb hb e=>by omega));clear o A z N O Y;go_wp2_with fail;refine aq (v:=.tuple #[af r.vals,.bool al]) (by simp[ar,dr,go_sem,Rec.vals,z0,z1,z2,z3,z4,z5,z6,z7,z8,z9,I,J]) rfl ?_;exact⟨by rw[Z];rfl,u⟩
def isKey (key:R)(x:R×R):Bool:=x.1.toList==key.toList
def getP (l:a0 (R×R))(key:R):R:=((l.find? (isKey key)).map (·.2)).getD ⟨#[]⟩
theorem zCu {α:Type}(p:α->ay):∀ (l:a0 α) (k:E) (x:α),l[k]?=Q x->p x=al->(∀ y∈l.take k,p y=D)->l.find? p=Q x
 | [],k,x,h,_,_=>by simp at h
 | y::t,0,x,h,e,_=>by simp at h;subst h;simp[e]
 | y::t,k+1,x,h,e,o=>by
  have u:p y=false:=o y (by simp);rw[ct,u];exact zCu p t k x (by simpa using h) e (λz v=>o z (by simp[v]))
theorem zH0 {α:Type}(p:α->ay)(l:a0 α)(h:∀ y∈l,p y=D):l.find? p=none:=by
 rw[cu];intro y o;simp[h y o]
theorem zJl (r:Rec)(o:R)(w:ab)(O:RecOk w r):
  aj ah 95 #[af r.vals,o] w λe w'=>e=.returned (ae (getP r.props o))/\Fr No w w':=by
 have I:Fr No w (w.alloc (P r.vals 76)):=(ag _ _).alloc _;have U:=O.props.no I (λ_=>id);have Z:=U.lenmax;unfold Rec.vals at *;clear O;go_enter Tryz.func95,Tryz.ntmps95;go_wp2_with fail;generalize w.alloc (P _ 76)=W0 at *;go_loopw [10] (λi wr=>∃ k:E,k<=(r.props:E)/\i=L G k/\m (∀ x∈r.props.take k,isKey o x=D)/\Fr No W0 wr) (λi _=>(r.props:E)-(ap i).toNat);case atStart=>exact⟨0,by omega,rfl,by unfold m;simp,ag _ _⟩
 case round=>
  obtain⟨k,hk,rfl,v,u⟩:=hrel;by_cases J:k<(r.props:E)
  .have V:(k:a1)<(r.props:E):=by omega
   obtain⟨bb,Y,x,y,ha,A,-,-,c0,c1⟩:=(U.no u (λ_=>id)).at J;have F:=zh A;clear A;rcases he:(x.toList==o.toList)with _|_
   .go_wp2;go_roundw;case rel=>
     refine⟨k+1,by omega,by go_num,?_,u.alloc _⟩;unfold m;intro z X;rw[be,F]at X;rcases List.mem_append.1 X with h|h
     .exact v z h
     .simp at h;subst h;exact he
    case measure=>simp[ap];omega
   .have N:m (getP r.props o=y):=(by unfold m getP;rw[zCu (isKey o) _ _ _ F he v];rfl);go_wp2;go_ret;exact⟨by rw[N];rfl,(I.step u zi).alloc _⟩
  .obtain rfl:k=(r.props:E):=by omega
   have h:=v.out;rw[az (by omega)]at h;have N:m (getP r.props o=()):=(by unfold m getP;rw[zH0 _ _ h];rfl);go_wp2;go_ret;exact⟨by rw[N];rfl,I.step u zi⟩
def GotS (s:R)(e:bi):Prop:=∃ b,e=.returned (.tuple #[s,.bool b])
theorem zMn (a:ai ak)(A:E)(l:a0 (R×R))(o:R)(w:ab)(O:Atts w a A l):
  aj ah 34 #[M a l A,o] w λe w'=>GotS (getP l o) e/\Fr No w w':=by
 have Y:=O.lenmax;go_enter Tryz.func34,Tryz.ntmps34;go_wp2_with fail
 go_loop [6] (λi=>∃ k:E,k<=(l:E)/\i=L G k/\m (∀ x∈l.take k,isKey o x=D)) (λi=>(l:E)-(ap i).toNat)
 case atStart=>exact⟨0,by omega,rfl,by unfold m;simp⟩
 case round=>
  obtain⟨k,Z,rfl,u⟩:=hrel;by_cases J:k<(l:E)
  .have U:(k:a1)<(l:E):=by omega
   obtain⟨bb,X,x,y,rfl,F,-,-,c0,c1⟩:=O.at J;have I:=zh F;clear F;rcases he:(x.toList==o.toList)with _|_
   .go_wp2_with fail
    go_round
    case rel=>
     refine⟨k+1,by omega,by go_num,?_⟩;unfold m;intro z V;rw[be,I]at V;rcases List.mem_append.1 V with h|h
     .exact u z h
     .simp at h;subst h;exact he
    case measure=>simp[ap];omega
   .have N:m (getP l o=y):=(by unfold m getP;rw[zCu (isKey o) _ _ _ I he u];rfl);go_wp2_with fail;refine aq (v:=.tuple #[y,.bool al]) (by simp[ar,dp,go_sem]) rfl ?_;exact⟨⟨al,by rw[N]⟩,ag _ _⟩
  .obtain rfl:k=(l:E):=by omega
   have h:=u.out;rw[az (by omega)]at h;have N:m (getP l o=()):=(by unfold m getP;rw[zH0 _ _ h];rfl);go_wp2_with fail;refine aq (v:=.tuple #[(),.bool D]) (by simp[ar,dp,go_sem]) rfl ?_;exact⟨⟨D,by rw[N]⟩,ag _ _⟩
structure ErrV (w:ab):Prop where
 s:∃ ev,w ⟨1,0,C⟩=Q ev/\(ev=.nilIface\/∃ te pe,ev=.iface te pe)
 r:∃ ev,w ⟨2,0,C⟩=Q ev/\(ev=.nilIface\/∃ te pe,ev=.iface te pe)
theorem ErrV.fr (h:ErrV w)(o:Fr S w w')(u:¬ S 1)(v:¬ S 2):ErrV w':=by
 obtain⟨y,z,A⟩:=h.s;obtain⟨F,I,J⟩:=h.r;exact⟨⟨y,o.cell z u,A⟩,⟨F,o.cell I v,J⟩⟩
theorem ErrV.no (h:ErrV w)(o:Fr No w w'):ErrV w':=h.fr o id id
def zAk (p d:Dev):R:=⟨(cg d.orig.data.toList (p.orig++⟨#[112]⟩).data.toList).toArray⟩
def partB (p d:Dev):ai a1:=match bj (zAk p d).data.toList with
 | .ok v=>if ax d.orig.data.toList (p.orig++⟨#[112]⟩).data.toList=al/\1<=v/\v<=16/\(bp v.toNat)=(zAk p d).data.toList/\d.kind=2/\p.kind=2 then Q v else C
 | _=>C
def zAY (o:ai a1)(e:bi):Prop:=e=.returned (.tuple #[L G (o.getD 0),o.isSome])
theorem zH2 (h:d.orig.size<=32):(zAk p d).size<=32:=by
 unfold zAk cg;have o:d.orig.data.toList.length<=32:=by rw[<-Lib.size_eq];exact h
 split;·simp only[cp,db,List.length_drop];omega
 .simp only[cp,db];exact o
def cutB (p d:Dev):Bool:=ax d.orig.data.toList (p.orig++⟨#[112]⟩).data.toList
theorem zPX (s q:R)(w:ab):aj ah 117 #[s,q] w λe w'=>e=.returned (.tuple #[ae ⟨(cg s.data.toList q.data.toList).toArray⟩,.bool (ax s.data.toList q.data.toList)])/\w=w':=
 (Tryz.strings_CutPrefix s q w).mono λe w' h=>⟨h.1,h.2.symm⟩
theorem zJ4 (p d:Dev)(w:ab):aj ah 117 #[d.orig,ae (p.orig++⟨#[112]⟩)] w λe w'=>e=.returned (.tuple #[ae (zAk p d),.bool (cutB p d)])/\w=w':=by
 unfold zAk cutB;exact zPX _ _ w
def AtoiR (s:R)(e:bi):Prop:=
 (∃ v,bj s.data.toList=.ok v/\e=.returned (.tuple #[L G v,.nilIface]))\/((∀ v,bj s.data.toList≠.ok v)/\∃ (k:a1) (te:TypeId) (N:E),e=.returned (.tuple #[k,.iface te (ao (Q ⟨N,0,C⟩))]))
theorem zJN (s:R)(w:ab)(U:s.size<=1000)(u:ErrV w):aj ah 118 #[s] w λe w'=>AtoiR s e/\Fr No w w':=by
 obtain⟨y,z,A⟩:=u.s;obtain⟨F,I,J⟩:=u.r;rcases h:bj s.data.toList with v|_|_
 .apply (Tryz.strconv_Atoi_ok s (by omega) v h w).mono;rintro e w' ⟨rfl,O⟩;refine⟨.inl ⟨v,h,rfl⟩,?_⟩;rcases O with rfl|⟨t,rfl⟩
  .exact ag _ _
  .exact bw (Lib.bytesWorld_below _ _ _)
 .apply (Any.strconv_Atoi_syntax Tryz.laysC172 s (by omega) h y w z A).mono;rintro e w' ⟨N,rfl,_,_,o⟩;exact⟨.inr ⟨λv e=>(by rw[h]at e;cases e),0,_,N,rfl⟩,bw o⟩
 .apply (Tryz.strconv_Atoi_range s (by omega) h F w I J).mono;rintro e w' ⟨N,rfl,_,_,o⟩;exact⟨.inr ⟨λv e=>(by rw[h]at e;cases e),_,_,N,rfl⟩,bw o⟩
theorem zK0 (h:cutB p d=D):partB p d=none:=by
 unfold cutB at h;unfold partB;split;·rw[bh (by rw[h];simp)]
 .rfl
theorem zKz (h:∀ v,bj (zAk p d).data.toList≠.ok v):partB p d=none:=by
 unfold partB;split;·rename_i v e;exact bo e (h v)
 .rfl
theorem zMv {v:a1}(h:bj (zAk p d).data.toList=.ok v):partB p d=if cutB p d=al/\1<=v/\v<=16/\(bp v.toNat)=(zAk p d).data.toList/\d.kind=2/\p.kind=2 then Q v else none:=by
 unfold partB cutB;rw[h]
theorem zHZ (p d:Dev)(w:ab)(hE:ErrV w)(hd:d.orig.size<=32)(hp:p.orig.size<=32):
  aj ah 59 #[af p.vals,af d.vals] w λe w'=>zAY (partB p d) e/\Fr No w w':=by
 have hx:Fr No w ((w.alloc (P p.vals 48)).alloc (P d.vals 48)):=((ag _ _).alloc _).alloc _;have q2:=zP w (P p.vals 48) (P d.vals 48);have q3:=zS w (P p.vals 48) (P d.vals 48);have a9:=zH2 (p:=p) hd;unfold am at *;go_enter Tryz.func59,Tryz.ntmps59;go_upto_region 1 with(fail)
 generalize (w.alloc (P _ 48)).alloc (P _ 48)=W0 at *;have a3:W0 ⟨w,3,C⟩=Q (ae p.orig):=zB q2 3;have a4:W0 ⟨(w:E)+1,3,C⟩=Q (ae d.orig):=zB q3 3;have b0:(p.orig++(⟨#[112]⟩:R)).size<=9223372036854775807:=by rw[ByteArray.size_append];show p.orig.size+1<=_;omega
 go_wp2_with fail;apply (zJ4 p d _).mono;rintro e w1 ⟨rfl,rfl⟩;have O:m (cutB p d=D->partB p d=C):=λh=>zK0 h
 have U:m ((∀ v,bj (zAk p d).data.toList≠.ok v)->partB p d=C):=λh=>zKz h
 have a5:m (∀ v,bj (zAk p d).data.toList=.ok v->partB p d=if cutB p d=al/\1<=v/\v<=16/\(bp v.toNat)=(zAk p d).data.toList/\d.kind=2/\p.kind=2 then Q v else C):=λv h=>zMv h
 generalize zAk p d=dg at *;generalize cutB p d=cb at *;go_wp2_with fail;apply (zJN dg _ (by omega) (hE.no hx)).mono;rintro e w2 ⟨hR,y⟩;have a6:=y.heap q2 id;have a7:=y.heap q3 id;have z:=zh (hx.step y zi);clear a3 a4 q2 q3 hx y;have b1:w2 ⟨(w:E)+1,7,C⟩=Q (L G d.kind):=zB a7 7;have b2:w2 ⟨w,7,C⟩=Q (L G p.kind):=zB a6 7;cases cb with
 | false=>
  have u:m (partB p d=C):=O.out rfl;rcases hR with⟨v,I,rfl⟩|⟨I,k,te,N,rfl⟩
  .go_wp2;go_ret2;exact⟨by unfold zAY;rw[u];rfl,z⟩
  .go_wp2;go_ret2;exact⟨by unfold zAY;rw[u];rfl,z⟩
 | true=>
  rcases hR with⟨v,I,rfl⟩|⟨I,k,te,N,rfl⟩
  .have o:=zh (a5 v I);clear I;by_cases h1:v<1
   .have u:m (partB p d=C):=(by unfold m;rw[o,bh (by omega)]);go_wp2;go_ret2;exact⟨by unfold zAY;rw[u];rfl,z⟩
   by_cases b3:16<v
   .have u:m (partB p d=C):=(by unfold m;rw[o,bh (by omega)]);go_wp2;go_ret2;exact⟨by unfold zAY;rw[u];rfl,z⟩
   obtain⟨i,rfl⟩:=Int.eq_ofNat_of_zero_le (show 0<=v by omega);go_wp2_with fail;apply (Tryz.strconv_Itoa_small i (by omega) _).mono;rintro e w3 ⟨rfl,rfl⟩;obtain⟨it,J⟩:=ε (⟨(bp i).toArray⟩:R)
   rw[<-J];have V:m ((it.toList==dg.toList)=decide (bp i=dg.data.toList)):=by
    unfold m;rw[J,Bool.eq_iff_iff,beq_iff_eq,decide_eq_true_iff,ByteArray.toList_eq,ByteArray.toList_eq]
   have X:((i:a1).toNat)=i:=(by simp);have Y:=zh X;clear J X;rcases hie:(it.toList==dg.toList)with _|_
   .have u:m (partB p d=C):=by
     unfold m;rw[o,bh];rintro ⟨_,_,_,h,_⟩;rw[Y]at h;have:=V.out;rw[hie,decide_eq_true h]at this;cases this
    go_wp2;go_ret2;exact⟨by unfold zAY;rw[u];rfl,z⟩
   have a8:m (bp i=dg.data.toList):=by
    unfold m;have:=V.out;rw[hie]at this;exact of_decide_eq_true this.symm
   by_cases A:d.kind=2
   .have Z:(d.kind != 2)=false:=(by simpa using A);by_cases F:p.kind=2
    .have a2:(p.kind != 2)=false:=(by simpa using F);have u:m (partB p d=Q (i:a1)):=(by unfold m;rw[o,if_pos ⟨by trivial,by omega,by omega,by rw[Y];exact a8,A,F⟩]);go_wp2;go_ret2;exact⟨by unfold zAY;rw[u];rfl,z⟩
    .have a2:(p.kind != 2)=true:=(by simpa using F);have u:m (partB p d=C):=(by unfold m;rw[o,bh (λh=>F h.2.2.2.2.2)]);go_wp2;go_ret2;exact⟨by unfold zAY;rw[u];rfl,z⟩
   .have Z:(d.kind != 2)=true:=(by simpa using A);have u:m (partB p d=C):=(by unfold m;rw[o,bh (λh=>A h.2.2.2.2.1)]);go_wp2;go_ret2;exact⟨by unfold zAY;rw[u];rfl,z⟩
  .have u:m (partB p d=C):=U.out I;clear I;go_wp2;go_ret2;exact⟨by unfold zAY;rw[u];rfl,z⟩
def partOf (ds:a0 Dev)(n:a1):ai a1:=match look ds n with
 | none=>C
 | some d=>match look ds d.parent with
  | none=>C
  | some p=>partB p d
theorem zPx (a:ai ak)(o:E)(ds:a0 Dev)(y:E)(n:a1)(w:ab)(hl:Tr w y a o ds)(hE:ErrV w):
  aj ah 30 #[af #[M a ds o],n] w λe w'=>zAY (partOf ds n) e/\Fr No w w':=by
 have hT:=hl.wf.1;have hx:Fr No w (w.alloc (P #[M a ds o] 39)):=(ag _ _).alloc _;have q2:=zF w (P #[M a ds o] 39);go_enter Tryz.func30,Tryz.ntmps30;go_wp2_with fail;apply (zBm a o ds y n _ (hl.no hx)).mono;rintro e J ⟨X,N⟩;have Y:=N.heap q2 id;have F:=hx.step N zi;clear q2 hx N;rcases X with⟨h,rfl⟩|⟨d,z,A,la,h,rfl,-⟩
 .have Z:m (partOf ds n=C):=by unfold m partOf;rw[h]
  have I:Fr No J (J.alloc (P Dev.zero.vals 48)):=(ag _ _).alloc _;have O:=I.heap Y id;have u:=F.step I zi;have c2:(J.alloc (P Dev.zero.vals 48)) ⟨w,0,C⟩=Q (M a ds o):=zB O 0;unfold am av at *;clear h;go_wp2_with fail;apply (zBm a o ds y 0 _ (hl.no u)).mono;rintro e w2 ⟨X,v⟩;rcases X with⟨h,rfl⟩|⟨d,z,A,la,h,rfl,-⟩
  .have Hf:=zh ((u.step v zi).alloc (P Dev.zero.vals 48));unfold am av at *;clear v u I h;go_wp2;go_ret2;exact⟨by unfold zAY;rw[Z];rfl,Hf⟩
  .rw[hT.zero]at h;cases h
 .have hd:=zAR h;have I:Fr No J (J.alloc (P ({ d with aa:=z,ac:=A }:Dev).vals 48)):=(ag _ _).alloc _;have O:=I.heap Y id;have q6:=zF J (P ({ d with aa:=z,ac:=A }:Dev).vals 48);have u:=F.step I zi;have c2:(J.alloc (P ({ d with aa:=z,ac:=A }:Dev).vals 48)) ⟨w,0,C⟩=Q (M a ds o):=zB O 0;have a2:=zh h;have Hd:=zh hd.1;unfold am at *;clear h hd;go_wp2_with fail;apply (zBm a o ds y d.parent _ (hl.no u)).mono;rintro e w2 ⟨X,v⟩;rcases X with⟨h,rfl⟩|⟨p,U,V,lp,h,rfl,-⟩
  .have Z:m (partOf ds n=C):=by unfold m partOf;rw[a2.out];simp only;rw[h]
   have Hf:=zh ((u.step v zi).alloc (P Dev.zero.vals 48));unfold am av at *;clear v u I h;go_wp2;go_ret2;exact⟨by unfold zAY;rw[Z];rfl,Hf⟩
  .have Z:m (partOf ds n=partB p d):=by unfold m partOf;rw[a2.out];simp only;rw[h]
   have a6:=(zAR h).1;have hz:Fr No w2 (w2.alloc (P ({ p with aa:=U,ac:=V }:Dev).vals 48)):=(ag _ _).alloc _;have a3:=hz.heap (v.heap q6 id) id;have a4:=(u.step v zi).step hz zi;obtain⟨d0,d1,d2,d3,d4,d5,d6,d7,d8,d9⟩:=cl10 a3;have hP:=zHZ ({ p with aa:=U,ac:=V }:Dev) ({ d with aa:=z,ac:=A }:Dev) _ (hE.no a4) (hT.sz d Hd) (hT.sz p a6);have e:partB ({ p with aa:=U,ac:=V }:Dev) ({ d with aa:=z,ac:=A }:Dev)=partB p d:=rfl;rw[e]at hP;have HP:=zh hP;have a7:=zh a4;unfold am at *;clear hP e v u I hz h a3 q6 F;generalize partB p d=res at *;go_wp2_with fail;apply HP.mono;rintro e w3 ⟨he,a5⟩;unfold zAY at he;subst he;have Hf:=zh (a7.step a5 zi);clear a5;go_wp2;go_ret2;exact⟨by unfold zAY;rw[Z];rfl,Hf⟩
def zAQ : R:=⟨#[99,111,110,116,101,110,116]⟩
theorem zPV (a:ai ak)(A:E)(l:a0 (R×R))(o:R)(w:ab)(O:Atts w a A l):
  aj ah 136 #[M a l A,o] w λe w'=>GotS (getP l o) e/\Fr No w w':=by
 have Y:=O.lenmax;go_enter Tryz.func136,Tryz.ntmps136;go_wp2_with fail;go_loopw [10] (λi wr=>∃ k:E,k<=(l:E)/\i=L G k/\m (∀ x∈l.take k,isKey o x=D)/\Fr No w wr) (λi _=>(l:E)-(ap i).toNat);case atStart=>exact⟨0,by omega,rfl,by unfold m;simp,ag _ _⟩
 case round=>
  obtain⟨k,Z,rfl,v,u⟩:=hrel;by_cases J:k<(l:E)
  .have U:(k:a1)<(l:E):=by omega
   obtain⟨bb,X,x,y,ha,F,-,-,c0,c1⟩:=(O.no u (λ_=>id)).at J;have I:=zh F;clear F;rcases he:(x.toList==o.toList)with _|_
   .go_wp2;go_roundw;case rel=>
     refine⟨k+1,by omega,by go_num,?_,u.alloc _⟩;unfold m;intro z V;rw[be,I]at V;rcases List.mem_append.1 V with h|h
     .exact v z h
     .simp at h;subst h;exact he
    case measure=>simp[ap];omega
   .have N:m (getP l o=y):=(by unfold m getP;rw[zCu (isKey o) _ _ _ I he v];rfl);go_wp2;go_ret2;exact⟨⟨al,by rw[N];rfl⟩,u.alloc _⟩
  .obtain rfl:k=(l:E):=by omega
   have h:=v.out;rw[az (by omega)]at h;have N:m (getP l o=()):=(by unfold m getP;rw[zH0 _ _ h];rfl);go_wp2;go_ret2;exact⟨⟨D,by rw[N];rfl⟩,u⟩
theorem zMO (d:Dev)(l:a0 (R×R))(w:ab)(y:Atts w d.aa d.ac l)(o:d.an=(l:E)):
  aj ah 90 #[af d.vals] w λe w'=>e=.returned (ae (getP l zAQ))/\Fr No w w':=by
 obtain⟨F,h,z,A⟩:=zy w (P d.vals 48);have u:=zPV d.aa d.ac l zAQ F (y.no z (λ_=>id));rw[<-o]at u;have J:=(DevB.of A).c9;unfold am at h ⊢;unfold zAQ at u;clear A o y;have I:m (getP l zAQ=getP l ⟨#[99,111,110,116,101,110,116]⟩):=rfl;rw[I];generalize getP l ⟨#[99,111,110,116,101,110,116]⟩=g at *;go_enter Tryz.func90,Tryz.ntmps90;go_upto_region 1 with(fail)
 rw[<-h];clear h;go_wp2_with fail;apply u.mono;rintro e N ⟨⟨b,rfl⟩,v⟩;clear u;go_wp2;go_ret;exact⟨rfl,z.step v zi⟩
def preB (s:R):Bool:=ax s.data.toList [109,100,45]||Lib.hasPrefix s.data.toList [111,112,101,110,45]||Lib.hasPrefix s.data.toList [108,118,45]
def virB (ds:a0 Dev)(n:a1):Bool:=match look ds n with
 | none=>D
 | some d=>(partOf ds n).isSome||(d.parent==0&&preB d.orig)
theorem zHO (h:E)(d:Dev)(s:R)(w:ab)(o:w.heap[h]?=Q (P d.vals 48)):
  aj ah 32 #[s,ao (Q ⟨h,0,C⟩)] w λe w'=>e=.returned (.bool (ax d.orig.data.toList s.data.toList))/\w=w':=by
 have u:=(DevB.of o).c3;clear o;go_enter Tryz.func32,Tryz.ntmps32;go_wp2_with fail;apply (Tryz.strings_HasPrefix d.orig s _).mono;rintro e v ⟨rfl,rfl⟩;go_wp2;go_ret;exact⟨rfl,rfl⟩
theorem zOT (o b:E)(d:Dev)(w:ab)(I:w.heap[o]?=Q (P d.vals 48))(X:w.heap[b]?=Q (P #[ae ⟨#[109,100,45]⟩,ae ⟨#[111,112,101,110,45]⟩,ae ⟨#[108,118,45]⟩] 9)):
  aj ah 31 #[M (Q ⟨b,0,C⟩) 3 3,.func (.func 32) #[] #[ao (Q ⟨o,0,C⟩)]] w λe w'=>e=.returned (.bool (preB d.orig))/\Fr No w w':=by
 obtain⟨e0,e1,e2⟩:=cl3 X;have Y:=zh (zHO o d ⟨#[109,100,45]⟩ w I);have Z:=zh (zHO o d ⟨#[111,112,101,110,45]⟩ w I);have H2:=zh (zHO o d ⟨#[108,118,45]⟩ w I);have J:m (preB d.orig=(ax d.orig.data.toList [109,100,45]||Lib.hasPrefix d.orig.data.toList [111,112,101,110,45]||Lib.hasPrefix d.orig.data.toList [108,118,45])):=rfl;generalize preB d.orig=pb at *;have N:m (aj ah 32 #[ae ⟨#[109,100,45]⟩,ao (Q ⟨o,0,C⟩)] w λe w'=>e=.returned (.bool (ax d.orig.data.toList [109,100,45]))/\w=w'):=Y.out;have O:m (aj ah 32 #[ae ⟨#[111,112,101,110,45]⟩,ao (Q ⟨o,0,C⟩)] w λe w'=>e=.returned (.bool (ax d.orig.data.toList [111,112,101,110,45]))/\w=w'):=Z.out;have U:m (aj ah 32 #[ae ⟨#[108,118,45]⟩,ao (Q ⟨o,0,C⟩)] w λe w'=>e=.returned (.bool (ax d.orig.data.toList [108,118,45]))/\w=w'):=H2.out;clear Y Z H2 I X;generalize ax d.orig.data.toList [109,100,45]=p0 at *;generalize ax d.orig.data.toList [111,112,101,110,45]=p1 at *;generalize ax d.orig.data.toList [108,118,45]=p2 at *;refine(show aj ah 31 _ _ (λe w'=>e=.returned pb/\w'=w)from ?_).mono (λe w' h=>⟨h.1,by rw[h.2];exact ag _ _⟩);have v:aj ah 60 #[M (Q ⟨b,0,C⟩) 3 3,.func (.func 32) #[] #[ao (Q ⟨o,0,C⟩)]] w λe w'=>(∃ r:a1,e=.returned r/\decide (0<=r)=pb)/\w'=w:=by
  go_enter Tryz.func60,Tryz.ntmps60;go_wp2_with fail;go_loopw [8] (λi wr=>wr=w/\((i=L G 0)\/(i=L G 1/\p0=D)\/(i=L G 2/\p0=D/\p1=D)\/(i=L G 3/\p0=D/\p1=D/\p2=D))) (λi _=>3-(ap i).toNat);case atStart=>exact⟨rfl,.inl rfl⟩
  case round=>
   obtain⟨rfl,h⟩:=hrel;rcases h with rfl|⟨rfl,y⟩|⟨rfl,y,A⟩|⟨rfl,y,A,h2⟩
   .go_wp2_with fail;apply N.mono;rintro e V ⟨rfl,rfl⟩;cases hq:p0 with
    | true=>
     have z:m (pb=al):=(by unfold m;rw[J,hq];rfl);clear hq;go_wp2;go_ret;exact⟨⟨0,rfl,by rw[z];rfl⟩,rfl⟩
    | false=>
     have F:=zh hq;clear hq;go_wp2;go_roundw;case rel=>exact⟨trivial,.inr (.inl ⟨rfl,F⟩)⟩
     case measure=>simp[ap]
   .have u:=zh y;clear y;go_wp2_with fail;apply O.mono;rintro e V ⟨rfl,rfl⟩;cases hq:p1 with
    | true=>
     have z:m (pb=al):=(by unfold m;rw[J.out,hq];simp);clear hq;go_wp2;go_ret;exact⟨⟨1,rfl,by rw[z];rfl⟩,rfl⟩
    | false=>
     have F:=zh hq;clear hq;go_wp2;go_roundw;case rel=>exact⟨trivial,.inr (.inr (.inl ⟨rfl,u,F⟩))⟩
     case measure=>simp[ap]
   .have u:=zg2 y A;clear y A;go_wp2_with fail;apply U.mono;rintro e V ⟨rfl,rfl⟩;cases hq:p2 with
    | true=>
     have z:m (pb=al):=(by unfold m;rw[J.out,hq];simp);clear hq;go_wp2;go_ret;exact⟨⟨2,rfl,by rw[z];rfl⟩,rfl⟩
    | false=>
     have F:=zh hq;clear hq;go_wp2;go_roundw;case rel=>exact⟨trivial,.inr (.inr (.inr ⟨rfl,u.1,u.2,F⟩))⟩
     case measure=>simp[ap]
   .have z:m (pb=D):=(by unfold m;rw[J,y,A,h2];rfl);clear y A h2;go_wp2;go_ret;exact⟨⟨-1,rfl,by rw[z];rfl⟩,rfl⟩
 clear e0 e1 e2;go_enter Tryz.func31,Tryz.ntmps31;go_wp2_with fail;apply v.mono;rintro e V ⟨⟨r,rfl,hr⟩,rfl⟩;have Hr:=zh hr;clear hr v;go_wp2;go_ret;exact⟨zN Hr,rfl⟩
end Go.Proofs.YtjohgekljmhheaaGreatDoor
