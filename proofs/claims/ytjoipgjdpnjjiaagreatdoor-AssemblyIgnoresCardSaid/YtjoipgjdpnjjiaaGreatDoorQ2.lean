import Derived.Test.YtjoipgjdpnjjiaaGreatDoorQ1
import Derived.Lib.SliceRun
import Derived.Test.YtjoipgjdpnjjiaaGreatDoorStrs2
namespace Go.Proofs.YtjoipgjdpnjjiaaGreatDoor
open Go.RowKit Go.Maps
set_option linter.unusedVariables false
set_option maxRecDepth 100000
set_option maxHeartbeats 2000000
open And renaming intro->bt
open Atts renaming nil->cd
open Dev renaming vals->al,zero->au,index->ce
open Fr renaming refl->af,setAt->av,of_grown_some->br,of_below_size->bv
open Go renaming World->a1,Calls->ah,Addr->aj,bodyPost_ret->ap,results->aq,Value->ar,maxLen->az,Ending->bi,wpList_mapUpdate_own->du
open Go.Lib renaming hasPrefix->aw,joinTail->bf,atoiAll->bj,decDigits->bo,join->bs,trimPrefix->cf,join_cons->cp
open Go.Lit renaming int->bz
open Go.Proofs renaming intOf->ao
open Go.Proofs.Tryz renaming prog->ag,results61->ca,func195->cj,ntmps195->ck,func27->de,func61->df,func82->dh,ntmps27->di,ntmps61->dj,ntmps82->dk,results146->dl,results189->dm,results25->dn,results28->dp,results47->dq,underlying3->dr,underlying39->dt
open Go.RowKit renaming Hid->R
open Go.Value renaming string->cl
open Go.WalkArith renaming wf_i64->cm
open Go.World renaming cell?->bp,size_alloc->bq
open IntKind renaming i64->G
open Obj renaming cells->P
open Value renaming slice->K,int->M,string->ab,agg->ae,pointer->am
open _root_ renaming Nat->E,ByteArray->D,List->m,Int->a0,Option->ai,Bool->ax,if_neg->bh,Array->bm,absurd->bn
open _root_.Array renaming getElem?_toList->cn
open _root_.Bool renaming false->L,true->ak
open _root_.ByteArray renaming empty->bu,size->co
open _root_.List renaming take_of_length_le->ay,getElem?_eq_getElem->ba,mem_of_getElem?->bc,take_add_one->bd,toArray->bg,eq_nil_of_length_eq_zero->bw,getElem_map->bx,find?->cg,getElem_mem->ch,length_append->ci,find?_cons->cr,find?_eq_none->ct,flatten_cons->cu,foldl_append->cv,getElem?_take_of_lt->cw,length_cons->cx,length_nil->cy,map_cons->cz,size_toArray->da,take_sublist->db
open _root_.List.Sublist renaming map->cq
open _root_.Nat renaming le_refl->be,zero_add->dc
open _root_.Option renaming none->C,some->Q,getD_some->dd
variable{w W w':a1}{b k:E}{l:m (D×D)}{T:TypeId}{o u v y z A F I J N:ar}{S:E->Prop}{d p:Dev}{a:ai aj}{ds:m Dev}{t:m ar}{cs:bm ar}
def zAA : m D:=[
 (),
 ⟨#[102,115,58,102,58]⟩,
 ⟨#[102,115,58,103,58,76]⟩,
 ⟨#[114,97,105,100,58,114,58,49,47,50,47,49,40,102,115,58,102,58,41]⟩,
 ⟨#[114,97,105,100,58,114,58,50,47,50,47,49,40,102,115,58,102,58,41]⟩,
 ⟨#[99,114,121,112,116,58,99,40,102,115,58,103,58,41]⟩,
 ⟨#[112,118,58,118,58,49,47,49,40,102,115,58,102,58,44,99,114,121,112,116,58,99,40,102,115,58,104,58,41,41]⟩,
 ⟨#[116,97,98,108,101,58,116,40,102,115,58,102,58,44,99,114,121,112,116,58,99,40,114,97,105,100,58,114,58,49,47,50,47,49,40,102,115,58,120,58,41,41,41]⟩,
 ⟨#[116,97,98,108,101,58,116,40,114,97,105,100,58,114,58,49,47,50,47,49,40,116,97,98,108,101,58,117,40,102,115,58,102,58,41,41,44,114,97,105,100,58,114,58,50,47,50,47,49,40,116,97,98,108,101,58,117,40,102,115,58,102,58,41,41,41]⟩,
 ⟨#[114,97,105,100,58,114,58,49,47,49,47,49,40,114,97,105,100,58,114,58,49,47,49,47,49,40,102,115,58,102,58,41,41]⟩,
 ⟨#[112,118,58,118,58,49,47,50,40,102,115,58,102,58,41]⟩,
 ⟨#[112,118,58,118,58,50,47,50,40,102,115,58,102,58,41]⟩,
 ⟨#[99,114,121,112,116,58,100,40,112,118,58,118,58,49,47,49,40,114,97,105,100,58,115,58,49,47,51,47,50,40,102,115,58,121,58,41,41,41]⟩,
 ⟨#[114,97,105,100,58,115,58,50,47,51,47,50,40,102,115,58,121,58,41]⟩,
 ⟨#[114,97,105,100,58,115,58,51,47,51,47,50,40,102,115,58,121,58,41]⟩,
 ⟨#[110,111,110,115,101,110,115,101]⟩]
theorem zAb: (zAA:E)=16:=rfl
theorem Strs.of_block {l:m D}{o:E×E}(h:w.heap[b]?=Q (P (l.map cl).toArray T o))(u:(l:E)<=az):Strs w (Q ⟨b,0,C⟩) (l:E) l:=by
 refine⟨be _,u,(λe=>by cases e),λz e v=>?_⟩;cases e;refine⟨rfl,zC h,λi x y=>?_⟩;rw[zB h];simp[y]
theorem zFr (w:a1):
  ah ag 7 #[] w λe w'=>e=.returned (K (Q ⟨w,0,C⟩) 16 16)/\Strs w' (Q ⟨w,0,C⟩) 16 zAA/\Fr No w w':=by
 have o:=zF w (P (zAA.map cl).toArray 9);have h:=Strs.of_block o (by rw[zAb];unfold az;omega);rw[zAb]at h;have u:Fr No w (w.alloc (P (zAA.map cl).toArray 9)):=(af _ _).alloc _;have H:=zg2 h u;clear o h u;go_enter Tryz.func7,Tryz.ntmps7;go_wp2;go_ret;exact⟨rfl,H⟩
section
variable {w W W':a1}{B tb:E}{a:ai aj}{n cap Bd:E}{i:a0}{k:E}{d:Dev}{l:m (D×D)}
end
theorem Fr.swap {T:E->Prop}(w:a1)(o v:Obj)(h:T (w:E)):Fr T (w.alloc o) (w.alloc v):=by
 have y:Fr No w (w.alloc o):=(af _ _).alloc _;have z:Fr No w (w.alloc v):=(af _ _).alloc _;refine⟨rfl,rfl,rfl,by simp,λk A F=>?_⟩;have u:k<(w:E):=by
  rw[bq]at A;by_cases e:k=(w:E);·subst e;exact bn h F
  .omega
 exact(z.block k u id).trans (y.block k u id).symm
structure ElOk (W:a1)(base:E)(d:Dev):Prop where
 sz:Sized d
 drv:d.drv=()
 att:∃ l,Atts W d.aa d.ac l/\d.an=l.length/\l.length<=24
 fresh:∀ ad,d.aa=Q ad->base<=ad.block
structure Tr (W:a1)(base:E)(a:ai aj)(cap:E)(ds:m Dev):Prop where
 dv:Devs W a cap ds
 wf:TreeWf ds
 fresh:∀ ad,a=Q ad->base<=ad.block
 el:∀ d∈ds,ElOk W base d
theorem ElOk.fr {u:a1}{o:E}(h:ElOk W o d)(v:Fr S W u)(y:∀ b,o<=b->¬ S b):ElOk u o d:=by
 obtain⟨l,z,A⟩:=h.att;exact⟨h.sz,h.drv,⟨l,z.fr v (λF e _=>y _ (h.fresh F e)),A⟩,h.fresh⟩
theorem Tr.fr {v:a1}{o:E}{u:E}(h:Tr W o a u ds)(y:Fr S W v)(z:∀ b,o<=b->¬ S b):Tr v o a u ds:=
 ⟨h.dv.fr y (λA e _=>z _ (h.fresh A e)),h.wf,h.fresh,λd F=>(h.el d F).fr y z⟩
theorem Tr.no {v:a1}{o:E}{u:E}(h:Tr W o a u ds)(y:Fr No W v):Tr v o a u ds:=h.fr y (λ_ _=>id)
theorem Tr.nil (W:a1)(o:E):Tr W o C 0 []:=⟨Devs.nil W,TreeWf.nil,(λ_ e=>by cases e),(λd h=>by simp at h)⟩
section
variable {w W W':a1}{B tb k:E}{a:ai aj}{cap:E}{ds:m Dev}
end
theorem Tr.keep {X:a1}{o:E}{v:E}(h:Tr X o a v ds)(A:Fr S X W)(F:∀ b,b<(X:E)->o<=b->¬ S b):Tr W o a v ds:=by
 refine⟨h.dv.fr A (λy e u=>F _ (h.dv.cell y e u).2.1 (h.fresh y e)),h.wf,h.fresh,λd J=>?_⟩;have z:=h.el d J;obtain⟨l,I,N⟩:=z.att;exact⟨z.sz,z.drv,⟨l,I.fr A (λy e u=>F _ (I.cell y e u).2.1 (z.fresh y e)),N⟩,z.fresh⟩
theorem Tape.make {o:E}{l:m a0}(h:Ints w a o l)(T:TypeId):
  Tape (w.alloc (P #[K a l o,M G 0] T)) (w:E) (w:E) 0:=
 ⟨a,o,l,T,h.fr ((af No _).alloc _) (λ_ _ _ h=>h),λv e u=>(h.cell v e u).2.1,be _,zF _ _⟩
theorem cl2 {v:E×E}(h:W.heap[b]?=Q (P (bg (o::u::t)) T v)):W ⟨b,0,C⟩=Q o/\W ⟨b,1,C⟩=Q u:=⟨zB h 0,zB h 1⟩
theorem fl2 (h:W.heap[b]?=Q (P cs T)):W.frozen? ⟨b,0,C⟩=L/\W.frozen? ⟨b,1,C⟩=false:=⟨zD h 0,zD h 1⟩
theorem cl3 {y:E×E}(h:W.heap[b]?=Q (P (bg (o::u::v::t)) T y)):W ⟨b,0,C⟩=Q o/\W ⟨b,1,C⟩=Q u/\W ⟨b,2,C⟩=Q v:=⟨zB h 0,zB h 1,zB h 2⟩
theorem fl3 (h:W.heap[b]?=Q (P cs T)):W.frozen? ⟨b,0,C⟩=L/\W.frozen? ⟨b,1,C⟩=L/\W.frozen? ⟨b,2,C⟩=false:=⟨zD h 0,zD h 1,zD h 2⟩
theorem cl4 {z:E×E}(h:W.heap[b]?=Q (P (bg (o::u::v::y::t)) T z)):W ⟨b,0,C⟩=Q o/\W ⟨b,1,C⟩=Q u/\W ⟨b,2,C⟩=Q v/\W ⟨b,3,C⟩=Q y:=⟨zB h 0,zB h 1,zB h 2,zB h 3⟩
theorem fl4 (h:W.heap[b]?=Q (P cs T)):W.frozen? ⟨b,0,C⟩=L/\W.frozen? ⟨b,1,C⟩=L/\W.frozen? ⟨b,2,C⟩=L/\W.frozen? ⟨b,3,C⟩=false:=⟨zD h 0,zD h 1,zD h 2,zD h 3⟩
theorem cl5 {A:E×E}(h:W.heap[b]?=Q (P (bg (o::u::v::y::z::t)) T A)):W ⟨b,0,C⟩=Q o/\W ⟨b,1,C⟩=Q u/\W ⟨b,2,C⟩=Q v/\W ⟨b,3,C⟩=Q y/\W ⟨b,4,C⟩=Q z:=⟨zB h 0,zB h 1,zB h 2,zB h 3,zB h 4⟩
theorem fl5 (h:W.heap[b]?=Q (P cs T)):W.frozen? ⟨b,0,C⟩=L/\W.frozen? ⟨b,1,C⟩=L/\W.frozen? ⟨b,2,C⟩=L/\W.frozen? ⟨b,3,C⟩=L/\W.frozen? ⟨b,4,C⟩=false:=⟨zD h 0,zD h 1,zD h 2,zD h 3,zD h 4⟩
theorem cl6 {F:E×E}(h:W.heap[b]?=Q (P (bg (o::u::v::y::z::A::t)) T F)):W ⟨b,0,C⟩=Q o/\W ⟨b,1,C⟩=Q u/\W ⟨b,2,C⟩=Q v/\W ⟨b,3,C⟩=Q y/\W ⟨b,4,C⟩=Q z/\W ⟨b,5,C⟩=Q A:=⟨zB h 0,zB h 1,zB h 2,zB h 3,zB h 4,zB h 5⟩
theorem fl6 (h:W.heap[b]?=Q (P cs T)):W.frozen? ⟨b,0,C⟩=L/\W.frozen? ⟨b,1,C⟩=L/\W.frozen? ⟨b,2,C⟩=L/\W.frozen? ⟨b,3,C⟩=L/\W.frozen? ⟨b,4,C⟩=L/\W.frozen? ⟨b,5,C⟩=false:=⟨zD h 0,zD h 1,zD h 2,zD h 3,zD h 4,zD h 5⟩
theorem cl7 {I:E×E}(h:W.heap[b]?=Q (P (bg (o::u::v::y::z::A::F::t)) T I)):W ⟨b,0,C⟩=Q o/\W ⟨b,1,C⟩=Q u/\W ⟨b,2,C⟩=Q v/\W ⟨b,3,C⟩=Q y/\W ⟨b,4,C⟩=Q z/\W ⟨b,5,C⟩=Q A/\W ⟨b,6,C⟩=Q F:=⟨zB h 0,zB h 1,zB h 2,zB h 3,zB h 4,zB h 5,zB h 6⟩
theorem fl7 (h:W.heap[b]?=Q (P cs T)):W.frozen? ⟨b,0,C⟩=L/\W.frozen? ⟨b,1,C⟩=L/\W.frozen? ⟨b,2,C⟩=L/\W.frozen? ⟨b,3,C⟩=L/\W.frozen? ⟨b,4,C⟩=L/\W.frozen? ⟨b,5,C⟩=L/\W.frozen? ⟨b,6,C⟩=false:=⟨zD h 0,zD h 1,zD h 2,zD h 3,zD h 4,zD h 5,zD h 6⟩
theorem cl8 {J:E×E}(h:W.heap[b]?=Q (P (bg (o::u::v::y::z::A::F::I::t)) T J)):W ⟨b,0,C⟩=Q o/\W ⟨b,1,C⟩=Q u/\W ⟨b,2,C⟩=Q v/\W ⟨b,3,C⟩=Q y/\W ⟨b,4,C⟩=Q z/\W ⟨b,5,C⟩=Q A/\W ⟨b,6,C⟩=Q F/\W ⟨b,7,C⟩=Q I:=⟨zB h 0,zB h 1,zB h 2,zB h 3,zB h 4,zB h 5,zB h 6,zB h 7⟩
theorem cl10 {O:E×E}(h:W.heap[b]?=Q (P (bg (o::u::v::y::z::A::F::I::J::N::t)) T O)):W ⟨b,0,C⟩=Q o/\W ⟨b,1,C⟩=Q u/\W ⟨b,2,C⟩=Q v/\W ⟨b,3,C⟩=Q y/\W ⟨b,4,C⟩=Q z/\W ⟨b,5,C⟩=Q A/\W ⟨b,6,C⟩=Q F/\W ⟨b,7,C⟩=Q I/\W ⟨b,8,C⟩=Q J/\W ⟨b,9,C⟩=Q N:=⟨zB h 0,zB h 1,zB h 2,zB h 3,zB h 4,zB h 5,zB h 6,zB h 7,zB h 8,zB h 9⟩
theorem fl10 (h:W.heap[b]?=Q (P cs T)):W.frozen? ⟨b,0,C⟩=L/\W.frozen? ⟨b,1,C⟩=L/\W.frozen? ⟨b,2,C⟩=L/\W.frozen? ⟨b,3,C⟩=L/\W.frozen? ⟨b,4,C⟩=L/\W.frozen? ⟨b,5,C⟩=L/\W.frozen? ⟨b,6,C⟩=L/\W.frozen? ⟨b,7,C⟩=L/\W.frozen? ⟨b,8,C⟩=L/\W.frozen? ⟨b,9,C⟩=false:=⟨zD h 0,zD h 1,zD h 2,zD h 3,zD h 4,zD h 5,zD h 6,zD h 7,zD h 8,zD h 9⟩
theorem cl12 {O U:ar}{V:E×E}(h:W.heap[b]?=Q (P (bg (v::y::z::A::F::I::J::N::O::U::o::u::t)) T V)):W ⟨b,0,C⟩=Q v/\W ⟨b,1,C⟩=Q y/\W ⟨b,2,C⟩=Q z/\W ⟨b,3,C⟩=Q A/\W ⟨b,4,C⟩=Q F/\W ⟨b,5,C⟩=Q I/\W ⟨b,6,C⟩=Q J/\W ⟨b,7,C⟩=Q N/\W ⟨b,8,C⟩=Q O/\W ⟨b,9,C⟩=Q U/\W ⟨b,10,C⟩=Q o/\W ⟨b,11,C⟩=Q u:=⟨zB h 0,zB h 1,zB h 2,zB h 3,zB h 4,zB h 5,zB h 6,zB h 7,zB h 8,zB h 9,zB h 10,zB h 11⟩
theorem fl12 (h:W.heap[b]?=Q (P cs T)):W.frozen? ⟨b,0,C⟩=L/\W.frozen? ⟨b,1,C⟩=L/\W.frozen? ⟨b,2,C⟩=L/\W.frozen? ⟨b,3,C⟩=L/\W.frozen? ⟨b,4,C⟩=L/\W.frozen? ⟨b,5,C⟩=L/\W.frozen? ⟨b,6,C⟩=L/\W.frozen? ⟨b,7,C⟩=L/\W.frozen? ⟨b,8,C⟩=L/\W.frozen? ⟨b,9,C⟩=L/\W.frozen? ⟨b,10,C⟩=L/\W.frozen? ⟨b,11,C⟩=false:=⟨zD h 0,zD h 1,zD h 2,zD h 3,zD h 4,zD h 5,zD h 6,zD h 7,zD h 8,zD h 9,zD h 10,zD h 11⟩
def stepO (g:a0->ai D)(d:Dev):a0->ai D:=updO g d.index ((g d.parent).getD ⟨#[]⟩++⟨#[47]⟩++d.orig)
def ogs (l:m Dev):a0->ai D:=l.foldl stepO (λ_=>C)
def pathOf (l:m D):D:=l.foldl (λs x=>s++⟨#[47]⟩++x) ()
def plcs (ds:m Dev)(k:E):a0->ai a0:=λn=>(look (ds.take k) n).map λ_=>place ds n
theorem zFl (l:m Dev)(d:Dev):ogs (l++[d])=stepO (ogs l) d:=by unfold ogs;rw[cv];rfl
theorem zCB {ds:m Dev}(h:∀ d∈ds,d.orig.size<=32):∀ (k:E) (n:a0),((ogs (ds.take k) n).getD ⟨#[]⟩).size<=33*k
 | 0,n=>by show (ByteArray.mk #[]).size<=_;exact Nat.zero_le _
 | k+1,n=>by
  by_cases o:k<(ds:E)
  .have e:ds.take (k+1)=ds.take k++[ds[k]]:=by rw[bd,ba o];rfl
   have v:=zCB h k ds[k].parent;have u:=zCB h k n;have y:=h ds[k] (ch o);rw[e,zFl];unfold stepO updO;split
   .simp only[dd,ByteArray.size_append];have:(⟨#[47]⟩:D).size=1:=rfl;omega
   .omega
  .have u:=zCB h k n;rw[ay (by omega)]at u ⊢;omega
theorem zGr (y:(ds.map ce).Nodup)(z:ds[k]?=Q d)(n:a0):look (ds.take (k+1)) n=if n=d.index then Q d else look (ds.take k) n:=by
 have e:ds.take (k+1)=ds.take k++[d]:=by rw[bd,z];rfl
 have o:((ds.take k++[d]).map ce).Nodup:=by rw[<-e];exact(cq _ (db _ _)).nodup y
 rw[e];unfold look;rw[List.find?_append];by_cases u:n=d.index
 .rw[if_pos u];have:(ds.take k).find? (λx=>decide (x.index=n))=none:=by
   rw[ct];intro x A v;simp only[decide_eq_true_eq]at v;rw[List.map_append,List.nodup_append]at o;exact o.2.2 x.index (List.mem_map_of_mem A) d.index (by simp) (by rw[v,u])
  rw[this];simp[u]
 .rw[bh u];have:([d].find? (λx=>decide (x.index=n)))=none:=by simp;exact λh=>u h.symm
  rw[this];simp
theorem zKs (y:TreeOk ds)(o:ds[k]?=Q d):plcs ds (k+1)=updO (plcs ds k) d.index (k:a0):=by
 funext n
 unfold plcs updO;rw[zGr y.nd o];split
 .rename_i e;subst e;rcases zAy ds d.index with⟨u,I⟩|⟨j,x,u,I,z⟩
  .rw[y.lk (bc o)]at u;cases u
  .rw[y.lk (bc o)]at u;cases u;rw[I];have A:j<(ds:E):=(List.getElem?_eq_some_iff.1 z).1;have F:k<(ds:E):=(List.getElem?_eq_some_iff.1 o).1;have J:=List.pairwise_iff_getElem.1 y.nd;have N:ds[j].index=ds[k].index:=by
    rw[ba A]at z;rw[ba F]at o;rw[Option.some.inj z,Option.some.inj o]
   rcases Nat.lt_trichotomy j k with h|rfl|h
   .have v:=J j k (by simpa using A) (by simpa using F) h;rw[bx,bx]at v;exact bn N v
   .rfl
   .have v:=J k j (by simpa using F) (by simpa using A) h;rw[bx,bx]at v;exact bn N.symm v
 .rfl
theorem zIW {ds:m Dev}(h:TreeOk ds):∀ (k:E),k<=(ds:E)->∀ n,ogs (ds.take k) n=(look (ds.take k) n).map λ_=>pathOf (origin ds n)
 | 0,_,n=>by simp[ogs,look]
 | k+1,Y,n=>by
  have o:k<(ds:E):=by omega
  have u:ds[k]?=Q ds[k]:=ba o;have e:ds.take (k+1)=ds.take k++[ds[k]]:=by rw[bd,u];rfl
  have z:=zIW h k (by omega);rw[zGr h.nd u,e,zFl];unfold stepO updO;split
  .rename_i F;have I:pathOf (origin ds n)=pathOf (origin ds ds[k].parent)++⟨#[47]⟩++ds[k].orig:=by
    rw[F,h.origin_cons (h.lk (ch o))];unfold pathOf;rw[cv];rfl
   have J:(ogs (ds.take k) ds[k].parent).getD ⟨#[]⟩=pathOf (origin ds ds[k].parent):=by
    rw[z];rcases h.pa k _ u with A|⟨j,f,N,O,v⟩
    .have U:look (ds.take k) ds[k].parent=none:=by
      rw[A,zx];intro x V e;have:=(h.ix x (List.mem_of_mem_take V)).1;omega
     rw[U,A,TreeOk.origin_none h.zero];rfl
    .have X:f∈ds.take k:=by
      have:(ds.take k)[j]?=Q f:=(by rw[cw N];exact O);exact bc this
     have y:((ds.take k).map ce).Nodup:=(cq _ (db _ _)).nodup h.nd;have:=zo y X;rw[v]at this;rw[this];rfl
   rw[J,I];rfl
  .exact z n
theorem TreeOk.pwf (h:TreeOk ds)(o:d∈ds):(bz G d.parent).wf=true:=by
 obtain⟨k,u⟩:=List.getElem?_of_mem o;rcases h.pa k d u with v|⟨j,e,_,y,z⟩
 .rw[v];decide
 .rw[<-z];have:=h.ix e (bc y);exact cm (by omega)
theorem TreeOk.iwf (h:TreeOk ds)(o:d∈ds):(bz G d.index).wf=true:=by
 have:=h.ix d o;exact cm (by omega)
def ViewAt (w w':a1)(a:ai aj)(cap:E)(ds:m Dev)(e:bi):Prop:=
 ∃ m1 m2,e=.returned (ae #[K a ds cap,.map (Q m1),.map (Q m2)])/\(w:E)<=m1/\(w:E)<=m2/\m1≠m2/\IMap w' m1 (plcs ds (ds:E)) (ds:E)/\SMap w' m2 (ogs ds) (ds:E)
def Two2 (x y:E):E->Prop:=λb=>b=x\/b=y
theorem zCY (a:ai aj)(o:E)(ds:m Dev)(w:a1)(hl:Devs w a o ds)(hT:TreeOk ds)(hn:(ds:E)<=1000):
  ah ag 60 #[ae #[.slice a ds o]] w λe w'=>ViewAt w w' a o ds e/\Fr No w w':=by
 have e8:=@run_makeMap ag;have hm:=hl.lenmax;go_enter Tryz.func60,Tryz.ntmps60;go_wp2_with fail;have y:=zh hT;have Hn:=zh hn;clear hT hn;go_loopw [15] (λi wr=>∃ k:E,k<=(ds:E)/\i=.int G k/\IMap wr ((w:E)+1+1) (plcs ds k) k/\SMap wr ((w:E)+1+1+1) (ogs (ds.take k)) k/\
  wr.heap[(w:E)+1+1+1+1]?=Q (P #[.slice a ds o,.map (Q ((w:E)+1+1)),.map (Q ((w:E)+1+1+1))] 115)/\
  wr.heap[(w:E)+1]?=Q (P #[.slice C 0 0,.map C,.map C] 115)/\Fr No w wr) (λi _=>(ds:E)-(ao i).toNat)
 case atStart=>
  have s1:(w.alloc (P #[.slice a ds o] 48)).heap.size=(w:E)+1:=by simp
  have s2:((w.alloc (P #[.slice a ds o] 48)).alloc (P #[.slice C 0 0,.map C,.map C] 115)).heap.size=(w:E)+1+1:=by simp
  have s3:(((w.alloc (P #[.slice a ds o] 48)).alloc (P #[.slice C 0 0,.map C,.map C] 115)).alloc (.map #[] 0)).heap.size=(w:E)+1+1+1:=by simp
  have s4:((((w.alloc (P #[.slice a ds o] 48)).alloc (P #[.slice C 0 0,.map C,.map C] 115)).alloc (.map #[] 0)).alloc (.map #[] 0)).heap.size=(w:E)+1+1+1+1:=by simp
  refine⟨0,by omega,rfl,?_,?_,?_,?_,?_⟩
  .have h:=IMap.made ((w.alloc (P #[.slice a ds o] 48)).alloc (P #[.slice C 0 0,.map C,.map C] 115));rw[s2]at h;exact(h.fr ((af No _).alloc (.map #[] 0)) id).fr ((af No _).alloc (P #[.slice a ds o,.map (Q ((w:E)+1+1)),.map (Q ((w:E)+1+1+1))] 115)) id
  .have h:=SMap.made (((w.alloc (P #[.slice a ds o] 48)).alloc (P #[.slice C 0 0,.map C,.map C] 115)).alloc (.map #[] 0));rw[s3]at h;exact h.fr ((af No _).alloc (P #[.slice a ds o,.map (Q ((w:E)+1+1)),.map (Q ((w:E)+1+1+1))] 115)) id
  .have h:=zF ((((w.alloc (P #[.slice a ds o] 48)).alloc (P #[.slice C 0 0,.map C,.map C] 115)).alloc (.map #[] 0)).alloc (.map #[] 0)) (P #[.slice a ds o,.map (Q ((w:E)+1+1)),.map (Q ((w:E)+1+1+1))] 115);rw[s4]at h;exact h
  .have h:=zF (w.alloc (P #[.slice a ds o] 48)) (P #[.slice C 0 0,.map C,.map C] 115);rw[s1]at h;exact((((af No _).alloc (.map #[] 0)).alloc (.map #[] 0)).alloc (P #[.slice a ds o,.map (Q ((w:E)+1+1)),.map (Q ((w:E)+1+1+1))] 115)).heap h id
  .repeat (first|exact af _ _|refine Fr.alloc ?_ _)
 case round=>
  obtain⟨k,hk,rfl,hI,Z,X,Y,z⟩:=hrel;have v0:wr ⟨(w:E)+1+1+1+1,0,C⟩=Q (.slice a ds o):=by simp[bp,X]
  have v1:wr ⟨(w:E)+1+1+1+1,1,C⟩=Q (.map (Q ((w:E)+1+1))):=by simp[bp,X]
  have v2:wr ⟨(w:E)+1+1+1+1,2,C⟩=Q (.map (Q ((w:E)+1+1+1))):=by simp[bp,X]
  have r0:wr ⟨(w:E)+1,0,C⟩=Q (.slice C 0 0):=by simp[bp,Y]
  have r1:wr ⟨(w:E)+1,1,C⟩=Q (.map C):=by simp[bp,Y]
  have r2:wr ⟨(w:E)+1,2,C⟩=Q (.map C):=by simp[bp,Y]
  obtain⟨q0,q1,q2⟩:=fl3 Y;by_cases a2:k<(ds:E)
  .have e6:(k:a0)<(ds:E):=by omega
   obtain⟨bb,e9,d,rfl,hd,c0,c1,c2,c3,c4,c5,c6,c7,c8,c9⟩:=(hl.no z (λ_=>id)).dev a2;have Hd:=zh hd;have b3:=y.pwf (bc hd);have b4:=y.iwf (bc hd);have g0:=zCB y.sz k d.parent;have g1:=y.sz d (bc hd);have g2:=Hn.out;clear hd;have I:=Z.fr ((af No _).alloc (P #[.int G d.index,.int G d.parent,.string d.name,.string d.orig,.string d.sub,.string d.drv,.string d.ali,.int G d.kind,.int G d.num,.slice d.aa d.an d.ac] 41)) id;have J:Fr No wr (wr.alloc (P #[.int G d.index,.int G d.parent,.string d.name,.string d.orig,.string d.sub,.string d.drv,.string d.ali,.int G d.kind,.int G d.num,.slice d.aa d.an d.ac] 41)):=(af No _).alloc _;have a3:=J.cell v1 id;have a4:=J.cell v2 id;have b5:=zh (z.step J zi);have b6:=zh (J.heap X id);have b7:=zh (J.heap Y id);have a5:=hI.fr J id;have b8:(Tryz.prog.info? 41).isSome=true:=(by kernel_rfl);clear J b8;go_wp2_with (at_lookup;refine zHI rfl _ _ 113 rfl rfl ((w:E)+1+1+1) _ k d.parent b3 rfl I rfl ?_)
   refine zO (Two2 ((w:E)+1+1) ((w:E)+1+1+1)) [(0,L),(1,L),(2,L),(3,L),(4,L),(5,L),(6,L),(7,L),(8,L),(9,L),(10,ak),(11,ak)] (λw0 u=>?_);have b9:=a5.fr u id;have d0:=I.fr u id;have A:=b5.step u zi;have e7:(w:E)+1+1+1+1<(wr:E):=zC X;have d1:∀ g:Gr (Two2 ((w:E)+1+1) ((w:E)+1+1+1)) w0,g.W ⟨(w:E)+1+1+1+1,1,C⟩=Q (.map (Q ((w:E)+1+1))):=λg=>g.fr.cell (u.cell a3 id) (λh=>by unfold Two2 at h;dsimp only at h;omega)
   have d2:∀ g:Gr (Two2 ((w:E)+1+1) ((w:E)+1+1+1)) w0,g.W ⟨(w:E)+1+1+1+1,2,C⟩=Q (.map (Q ((w:E)+1+1+1))):=λg=>g.fr.cell (u.cell a4 id) (λh=>by unfold Two2 at h;dsimp only at h;omega)
   have d5:∀ g:Gr (Two2 ((w:E)+1+1) ((w:E)+1+1+1)) w0,g.W ⟨wr,0,C⟩=Q (.int G d.index):=λg=>g.fr.cell (u.cell (by rw[zB (zF _ _)];rfl) id) (λh=>by unfold Two2 at h;dsimp only at h;omega)
   have d3:=zh (u.heap b6 id);have d4:=zh (u.heap b7 id);obtain⟨DI,nI,d6,a6,a7,a8⟩:=b9;obtain⟨DS,nS,d7,a9,b0,b1⟩:=d0;have d8:=zh a7;have d9:=zh a8;have e0:=zh b0;have e1:=zh b1;have F:=keyOf_int_mk dr b4;have b2:=zh A;clear a7 a8 b0 b1 v0 v1 v2 r0 r1 r2 q0 q1 q2 X Y a3 a4 a5 I hI Z z A c0 c1 c2 c3 c4 c5 c6 c7 c8 c9;(repeat apply zR rfl rfl rfl;intro g3 hK;go_big_quiet_op;go_big_quiet_on);apply zu rfl;go_wp2_with (at_mapUpdate;refine du _ rfl _ _ _ 112 rfl 3 3 lawI Tryz.underlying112 _ ((w:E)+1+1) nI DI rfl a6 (by unfold az;omega) _ _ _ rfl rfl F _ [] (plainElem_int dr (cm (by omega))) ?_;intro w1 e2 N)
   refine OnlyN.mk ⟨(br N).mono (λ_ _ h=>.inl h),?_⟩;apply zu rfl;go_wp2_with (at_mapUpdate;refine du _ rfl _ _ _ 113 rfl 3 9 lawI Tryz.underlying113 _ ((w:E)+1+1+1) nS DS rfl (a9.kept N (λe=>by have:=Option.some.inj e;omega)) (by unfold az;omega) _ _ _ rfl rfl F _ [] (plainElem_string Tryz.underlying9 (by simp only[ByteArray.size_append];unfold az;have:(⟨#[47]⟩:D).size=1:=rfl;omega)) ?_;intro w2 e3 O)
   refine OnlyN.mk ⟨(br O).mono (λ_ _ h=>.inr h),?_⟩;apply zY;have e4:=(IMap.put d6 a6 d8 d9 d.index k e2).fr (br O) (λh=>by omega);have e5:=SMap.put d7 a9 e0 e1 d.index _ e3;have U:=zh (br N);have V:=zh (br O);go_wp2;go_roundw;case rel=>
    refine⟨k+1,by omega,by go_num,?_,?_,V.heap (U.heap d3 (by omega)) (by omega),V.heap (U.heap d4 (by omega)) (by omega),
     (b2.step U (λb hb h=>by omega)).step V (λb hb h=>by omega)⟩
    .rw[zKs y Hd];exact e4
    .have e:ds.take (k+1)=ds.take k++[d]:=(by rw[bd,Hd];rfl);rw[e,zFl];exact e5
   case measure=>simp[ao];omega
  .obtain rfl:k=(ds:E):=by omega
   clear a2;rw[ay (be _)]at Z;have HI:=zh hI;have HS:=zh Z;clear hI Z;go_wp2_with fail;refine ap (v:=ae #[.slice a ds o,.map (Q ((w:E)+1+1)),.map (Q ((w:E)+1+1+1))]) (by simp[aq,Tryz.results60,go_sem,r0,r1,r2]) rfl ?_;have hF:Fr (Is ((w:E)+1)) wr (((wr.setCell ⟨(w:E)+1,0,C⟩ (.slice a ds o)).setCell ⟨(w:E)+1,1,C⟩ (.map (Q ((w:E)+1+1)))).setCell ⟨(w:E)+1,2,C⟩ (.map (Q ((w:E)+1+1+1)))):=(((af _ _).setAt _).setAt _).setAt _;exact⟨⟨_,_,rfl,by omega,by omega,by omega,HI.fr hF (by omega),HS.fr hF (by omega)⟩,z.step hF (λb hb h=>by omega)⟩
theorem zA1 (a:ai aj)(h:E)(ds:m Dev)(n:a0)(w:a1)(J:Devs w a h ds)(y:TreeOk ds)(N:(ds:E)<=1000)(O:(bz G n).wf=ak):
  ah ag 105 #[ae #[.slice a ds h],.int G n] w λe w'=>e=.returned (.tuple #[.string (((look ds n).map λ_=>pathOf (origin ds n)).getD ⟨#[]⟩),.bool (look ds n).isSome])/\Fr No w w':=by
 have z:Fr No w (w.alloc (P #[.slice a ds h] 48)):=(af _ _).alloc _;have A:ogs ds n=(look ds n).map λ_=>pathOf (origin ds n):=by
  have:=zIW y (ds:E) (be _) n;rw[ay (be _)]at this;exact this
 have U:∀ (F o:E) (W:a1),(Instr.field 115 (ae #[.slice a ds h,.map (Q F),.map (Q o)]) 2).run ag W=.ok (.map (Q o)) W:=λ_ _ _=>by kernel_rfl
 have V:=zh A;have I:=zh z;clear A z;go_enter Tryz.func105,Tryz.ntmps105;go_wp2_with fail;apply (zCY a h ds _ (J.no I (λ_=>id)) y N).mono;rintro e Y ⟨⟨F,o,rfl,_,_,_,_,X⟩,u⟩;go_wp2_with (at_lookup;refine zEq rfl _ _ 113 rfl rfl o _ _ n O rfl X rfl ?_)
 refine ap (v:=.tuple #[.string ((ogs ds n).getD ⟨#[]⟩),.bool (ogs ds n).isSome]) (by simp[aq,Tryz.results105,go_sem]) rfl ?_;refine⟨?_,I.step u zi⟩;rw[V];cases look ds n<;>rfl
def VAt (w:a1)(m1 m2:E)(ds:m Dev):Prop:=IMap w m1 (plcs ds (ds:E)) (ds:E)/\SMap w m2 (ogs ds) (ds:E)
theorem VAt.fr {o u:E}(h:VAt w o u ds)(v:Fr S w w')(y:¬ S o)(z:¬ S u):VAt w' o u ds:=⟨h.1.fr v y,h.2.fr v z⟩
theorem zMn (ds:m Dev)(n:a0):plcs ds (ds:E) n=(look ds n).map λ_=>place ds n:=by unfold plcs;rw[ay (be _)]
def FindIs (ds:m Dev)(n:a0)(e:bi):Prop:=(look ds n=C/\e=.returned (.tuple #[ae Dev.zero.vals,.bool L]))\/∃ d,look ds n=Q d/\e=.returned (.tuple #[ae d.vals,.bool ak])
theorem zGO (a:ai aj)(h:E)(ds:m Dev)(z F:E)(n:a0)(w:a1)(O:Devs w a h ds)(X:VAt w z F ds)(hx:(bz G n).wf=ak):
  ah ag 189 #[ae #[.slice a ds h,.map (Q z),.map (Q F)],.int G n] w λe w'=>
   FindIs ds n e/\Fr No w w':=by
 have hm:=O.lenmax;have I:Fr No w ((w.alloc (P #[.slice a ds h,.map (Q z),.map (Q F)] 115)).alloc (P #[.int G 0,.int G 0,.string (),.string (),.string (),.string (),.string (),.int G 0,.int G 0,.slice C 0 0] 41)):=((af _ _).alloc _).alloc _;have Y:=zP w (P #[.slice a ds h,.map (Q z),.map (Q F)] 115) (P #[.int G 0,.int G 0,.string (),.string (),.string (),.string (),.string (),.int G 0,.int G 0,.slice C 0 0] 41);have J:=zT w (P #[.slice a ds h,.map (Q z),.map (Q F)] 115) (P #[.int G 0,.int G 0,.string (),.string (),.string (),.string (),.string (),.int G 0,.int G 0,.slice C 0 0] 41);go_enter Tryz.func189,Tryz.ntmps189;go_upto_region 1 with(fail)
 generalize (w.alloc (P #[.slice a ds h,.map (Q z),.map (Q F)] 115)).alloc (P #[.int G 0,.int G 0,.string (),.string (),.string (),.string (),.string (),.int G 0,.int G 0,.slice C 0 0] 41)=w2 at *;obtain⟨t0,t1⟩:=cl2 Y;obtain⟨z0,z1,z2,z3,z4,z5,z6,z7,z8,z9⟩:=cl10 J;obtain⟨y0,y1,y2,y3,y4,y5,y6,y7,y8,y9⟩:=fl10 J;have hI:=X.1.fr I id;have A:=O.no I (λ_=>id);have U:=zMn ds n;rcases zAy ds n with⟨y,V⟩|⟨k,d,y,V,Z⟩
 .have g0:plcs ds (ds:E) n=none:=by rw[U,y];rfl
  have o:=zBG J rfl au;have u:=zg2 y (I.step o.2 (λb hb e=>by omega));have N:look ds n=none:=y;clear o J Y U V I y X O A;have H1:=zh N;clear N;go_wp2_with (at_lookup;refine zEs rfl _ _ 112 rfl rfl z _ _ n hx rfl hI rfl ?_;rw[g0];simp only[Option.getD_none,Option.isSome_none])
  refine ap (v:=.tuple #[ae Dev.zero.vals,.bool L]) (by simp[aq,dm,go_sem,al,au,z0,z1,z2,z3,z4,z5,z6,z7,z8,z9];try rfl) rfl ?_;exact⟨.inl ⟨H1,rfl⟩,u.2⟩
 .have g0:plcs ds (ds:E) n=Q (k:a0):=by rw[U,y,V];rfl
  have a2:k<(ds:E):=(List.getElem?_eq_some_iff.1 Z).1;have a3:(k:a0)<(ds:E):=by omega
  obtain⟨bb,a4,d',rfl,hd,c0,c1,c2,c3,c4,c5,c6,c7,c8,c9⟩:=A.dev a2;rw[Z]at hd;cases hd;have o:=zBG J rfl d;have u:=zg2 y (I.step o.2 (λb hb e=>by omega));have H1:=zh y;clear o J Y U V Z I y X O A;go_wp2_with (at_lookup;refine zEs rfl _ _ 112 rfl rfl z _ _ n hx rfl hI rfl ?_;rw[g0];simp only[dd,Option.isSome_some])
  refine ap (v:=.tuple #[ae d.vals,.bool ak]) (by simp[aq,dm,go_sem,al,z0,z1,z2,z3,z4,z5,z6,z7,z8,z9]) rfl ?_;exact⟨.inr ⟨d,H1,rfl⟩,u.2⟩
theorem zON (u v x:ar)(n:a0)(w:a1):
  ah ag 133 #[ae #[u,v,x],n] w λe w'=>e=.returned (.func (.func 188) #[] #[am (Q ⟨w,0,C⟩),am (Q ⟨(w:E)+1,0,C⟩)])/\w'=(w.alloc (P #[u,v,x] 115)).alloc (P #[n] 3):=by
 go_enter Tryz.func133,Tryz.ntmps133;go_wp2;go_ret;exact⟨rfl,rfl⟩
theorem zFE : ∀ (l:m D) (s:D),(l.foldl (λs x=>s++⟨#[47]⟩++x) s).data.toList=s.data.toList++bf [47] (l.map (·.data.toList))
 | [],s=>by simp[bf]
 | x::t,s=>by
  rw[List.foldl_cons,zFE t];simp[bf]
theorem zB7 (l:m D):(pathOf l).data.toList=bf [47] (l.map (·.data.toList)):=by
 unfold pathOf;rw[zFE];rfl
theorem zKt {l:m D}(h:l≠[]):(⟨#[47]⟩:D)++⟨(bs (l.map (·.data.toList)) [47]).toArray⟩=pathOf l:=by
 apply zDc;rw[zB7];cases l with
 | nil=>exact bn rfl h
 | cons x t=>simp[cp,bf]
theorem zKS : ∀ (l:m D),(∀ x∈l,x.size<=32)->(bf [47] (l.map (·.data.toList))).length<=33*(l:E)
 | [],_=>by simp[bf]
 | x::t,h=>by
  have o:=zKS t (λy u=>h y (List.mem_cons_of_mem _ u));have v:=h x (List.mem_cons_self ..);have z:x.data.toList.length=x.size:=by simp
  simp only[bf,cz,cu,ci,cx,cy,List.map_map]at o ⊢;omega
theorem zPA {l:m D}(h:∀ x∈l,x.size<=32):(bs (l.map (·.data.toList)) [47]).length<=33*(l:E):=by
 cases l with
 | nil=>simp[bs,List.intercalate]
 | cons x t=>
  have:=zKS (x::t) h;simp only[cz,cp,bf,cu,ci,cx,cy]at this ⊢;omega
theorem zMg (a:ai aj)(o:E)(l:m D)(w:a1)(y:Strs w a o l)(u:l≠[])(I:∀ x∈l,x.size<=32)(Y:(l:E)<=1000000):
  ah ag 74 #[K a l o] w λe w'=>e=.returned (ab (pathOf l))/\Fr No w w':=by
 have Z:(l:E)≠0:=λh=>u (bw h)
 obtain⟨b,z,x,rfl,_,_⟩:=y.at (k:=0) (by omega);obtain⟨_,J,N⟩:=y.cell _ rfl u;have hj:=zPA I;have v:=y.len;have O:=zh (zKt u);go_enter Tryz.func74,Tryz.ntmps74;go_wp2_with fail;refine(Tryz.strings_Join b z o l ⟨#[47]⟩ _ (λj x U=>N j x U) J (by omega) v (by show (bs _ [47]).length<=_;omega)).mono ?_;rintro e w1 ⟨rfl,V⟩;have A:=bv V;have X:(bs (l.map (·.data.toList)) [47]).length<=33000000:=by omega
 have F:(⟨#[47]⟩:D).data.toList=[47]:=rfl;rw[F];go_wp2;go_ret;refine⟨?_,A⟩;rw[<-O];rfl
theorem zK3 (o:TreeOk ds)(n:a0):∀ x∈origin ds n,x.size<=32:=by
 intro x h;unfold origin at h;rw[List.mem_reverse]at h;obtain⟨d,u,rfl⟩:=List.mem_map.1 h;exact o.sz d (zEX u)
theorem zD1 (a:ai aj)(o:E)(ds:m Dev)(n:a0)(w:a1)(U:Devs w a o ds)(X:TreeOk ds)(Y:(ds:E)<=1000000):
  ah ag 34 #[ae #[K a ds o],n] w λe w'=>e=.returned (ab (pathOf (origin ds n)))/\Fr No w w':=by
 have J:Fr No w (w.alloc (P #[K a ds o] 48)):=(af _ _).alloc _;have A:=U.no J (λ_=>id);have F:(origin ds n).length<=1000000:=by unfold origin;simp;have:=zCr ds n;omega
 have Z:=zh (zK3 X n);go_enter Tryz.func34,Tryz.ntmps34;go_wp2_with fail;apply (zJe a o ds n _ A Y).mono;rintro e w1 ⟨⟨v,rfl,u⟩,N⟩;obtain⟨ac,cc,rfl,V,I⟩:=Strs.of_own u;have y:=J.step N zi;clear u J A U;by_cases h:origin ds n=[]
 .have z:=zh h;have h0:(origin ds n).length=0:=by rw[h];rfl
  clear h F V;go_wp2;go_ret;refine⟨?_,y⟩;rw[z];rfl
 .have h0:0<(origin ds n).length:=List.length_pos_iff.2 h;have a2:(0:a0)<(origin ds n).length:=by omega
  have z:=zh h;clear h;go_wp2_with fail;apply (zMg ac cc (origin ds n) _ V z Z F).mono;rintro e w2 ⟨rfl,O⟩;go_wp2;go_ret;exact⟨rfl,y.step O zi⟩
theorem zPJ (d:Dev)(b:E)(n:a0)(w:a1)(h:w ⟨b,0,C⟩=Q (M G n)):
  ah ag 94 #[ae d.vals,am (Q ⟨b,0,C⟩)] w λe w'=>e=.returned (.bool (d.index==n))/\Fr No w w':=by
 have o:Fr No w (w.alloc (P d.vals 41)):=(af _ _).alloc _;have u:=o.cell h id;clear h;unfold al at *;go_enter Tryz.func94,Tryz.ntmps94;go_wp2;go_ret;exact⟨rfl,o⟩
theorem zJw (a:ai aj)(A:E)(ds:m Dev)(b:E)(n:a0)(w:a1)(N:Devs w a A ds)(Y:w ⟨b,0,C⟩=Q (M G n)):
  ah ag 82 #[K a ds A,.func (.func 94) #[] #[am (Q ⟨b,0,C⟩)]] w λe w'=>e=.returned (M G (place ds n))/\Fr No w w':=by
 have hm:=N.lenmax;go_enter dh,dk;go_wp2_with fail;go_loopw [8] (λi wr=>∃ k:E,k<=(ds:E)/\i=M G k/\R (∀ x∈ds.take k,x.index≠n)/\Fr No w wr) (λi _=>(ds:E)-(ao i).toNat);case atStart=>exact⟨0,by omega,rfl,by unfold R;simp,af _ _⟩
 case round=>
  obtain⟨k,hk,rfl,y,u⟩:=hrel;by_cases F:k<(ds:E)
  .have O:(k:a0)<(ds:E):=by omega
   obtain⟨bb,Z,d,rfl,U,c0,c1,c2,c3,c4,c5,c6,c7,c8,c9⟩:=(N.no u (λ_=>id)).dev F;have V:=zh U;clear U;go_wp2_with fail;apply (zPJ d b n _ (u.cell Y id)).mono;rintro e w1 ⟨rfl,I⟩;have v:=u.step I zi;clear c0 c1 c2 c3 c4 c5 c6 c7 c8 c9;by_cases o:d.index=n
   .have J:(d.index==n)=true:=(by simpa using o);have z:=zh o;clear o;go_wp2;go_ret;exact⟨zBD (zC4 ds n k d V z y).symm,v⟩
   .have J:(d.index==n)=false:=(by simpa using o);have z:=zh o;clear o;go_wp2;go_roundw;case rel=>
     refine⟨k+1,by omega,by go_num,?_,v⟩;unfold R;intro x X;rw[bd,V]at X;rcases List.mem_append.1 X with h|h
     .exact y x h
     .simp at h;subst h;exact z.out
    case measure=>simp[ao];omega
  .obtain rfl:k=(ds:E):=by omega
   have h:=y.out;rw[ay (by omega)]at h;have Hp:R (place ds n=-1):=zC5 _ _ h;clear h;go_wp2;go_ret;exact⟨zBD Hp.symm,u⟩
theorem zF4 (W:a1)(a:ai aj)(n c:E):(binOp .eql 39 (K a n c) (K C 0 0)).run ag W=.ok (.bool a.isNone) W:=Lib.run_eql_slice_nil W 39 79 a n c 0 0 dt
theorem infoA: (Tryz.prog.info? 79).map (λi=>(i.zero,i.size,i.bytes))=Q (Q (ae #[bu,bu]),2,32):=by kernel_rfl
def aflat (l:m (D×D)):m ar:=l.flatMap (λx=>[ab x.1,ab x.2])
theorem zBw (l:m (D×D)):(aflat l).length=(l:E)*2:=by
 induction l with
 | nil=>rfl
 | cons d t h=>
  have:aflat (d::t)=[ab d.1,ab d.2]++aflat t:=by simp[aflat]
  rw[this,ci,h];simp;omega
theorem zGH : ∀ (l:m (D×D)) (i:E) (x:D×D),l[i]?=Q x->(aflat l)[i*2]?=Q (ab x.1)/\(aflat l)[i*2+1]?=Q (ab x.2)
 | [],i,d,h=>by simp at h
 | y::t,0,x,h=>by
  simp at h;subst h;exact⟨rfl,rfl⟩
 | y::t,i+1,x,h=>by
  have e:aflat (y::t)=ab y.1::ab y.2::aflat t:=by simp[aflat]
  have o:=zGH t i x (by simpa using h);rw[e,show (i+1)*2=i*2+1+1 from by omega];exact o
theorem zMF (l:m (D×D))(j:E)(u:ar)(h:(aflat l)[j]?=Q u):∃ i x,l[i]?=Q x/\((j=i*2/\u=ab x.1)\/(j=i*2+1/\u=ab x.2)):=by
 have o:j<(aflat l).length:=(List.getElem?_eq_some_iff.1 h).1;rw[zBw]at o;have v:j / 2<(l:E):=by omega
 have y:=zGH l (j / 2) l[j / 2] (ba v);refine⟨j / 2,l[j / 2],ba v,?_⟩;rcases(by omega:j=j / 2*2\/j=j / 2*2+1)with e|e
 .left;refine⟨e,?_⟩;rw[e,y.1]at h;exact(Option.some.inj h).symm
 .right;refine⟨e,?_⟩;rw[e,y.2]at h;exact(Option.some.inj h).symm
theorem zBv (l:m (D×D)):∀ u∈aflat l,u.oneCell'=true:=by
 intro u h;obtain⟨x,_,h⟩:=List.mem_flatMap.1 h;simp at h;rcases h with rfl|rfl<;>rfl
theorem Atts.src {y:E}(h:Atts W a y l):∀ v,a=Q v->∀ j u,(aflat l)[j]?=Q u->W (v.add j)=Q u:=by
 intro v e j u I;obtain⟨i,x,z,J⟩:=zMF _ _ _ I;obtain⟨A,_,N⟩:=h.cell v e (by intro e;subst e;simp at z);obtain⟨b,o,O⟩:=v;simp only at A;subst A;have F:=N i x z;rw[Addr.add_lit];rcases J with⟨rfl,rfl⟩|⟨rfl,rfl⟩
 .exact F.1
 .exact F.2
theorem Atts.of_own {u:E}{e:TypeId}(h:w.ownsRow u e 2 v (l:E) (aflat l))(N:∀ x∈l,x.1.size<=az/\x.2.size<=az):
  ∃ a o,v=K a l o/\Atts w a o l/\∀ y,a=Q y->u<=y.block:=by
 obtain⟨_,⟨rfl,z⟩|⟨g,o,A,rfl,O,F,U,z,h3,V⟩⟩:=h
 .have:l=[]:=bw z;subst this;exact⟨C,0,rfl,cd w,λ_ e=>by cases e⟩
 .refine⟨Q ⟨g,0,C⟩,o,rfl,⟨U,z,(λe=>by cases e),N,?_⟩,λy e=>by cases e;exact O⟩;intro y e X;cases e;refine⟨rfl,zC F,λi x I=>?_⟩;have Y:i<(l:E):=(List.getElem?_eq_some_iff.1 I).1;have Z:=zGH l i x I;rw[zB F,zB F];simp only[dc];rw[<-cn,<-cn];have J:∀ j,j<(l:E)*2->A.toList[j]?=(aflat l)[j]?:=λj hj=>by
   rw[<-V,cw hj]
  rw[J _ (by omega),J _ (by omega)];exact Z
theorem zHy (a:ai aj)(v:E)(l:m (D×D))(w:a1)(F:Atts w a v l)(X:(l:E)<=1000000):
  ah ag 27 #[K a l v] w λe w'=>(∃ y z,e=.returned (K y l z)/\Atts w' y z l/\∀ A,y=Q A->(w:E)<=A.block)/\Fr No w w':=by
 obtain⟨Y,Z,I,J,N⟩:=info_parts infoA;cases a with
 | none=>
  obtain⟨rfl,rfl⟩:=F.isNil rfl;have hq:=zF4;go_enter de,di;go_wp2;go_ret;exact⟨⟨C,0,rfl,cd _,λ_ e=>by cases e⟩,af _ _⟩
 | some A=>
  have hx:Fr No w (w.alloc (P #[] 79)):=(af _ _).alloc _;have O:=F.no hx (λ_=>id);have hq:=zF4;go_enter de,di;have o:(w.alloc (P #[] 79)).ownsRow (w:E) 79 2 (K (Q ⟨w,0,C⟩) 0 0) 0 []:=
   ⟨rfl,.inr ⟨(w:E),0,#[],rfl,be _,zF _ _,be _,by unfold az;omega,rfl,rfl⟩⟩
  go_wp2_with (at_builtin;refine zAB rfl _ _ 39 rfl (w:E) 79 Y (ae #[bu,bu]) 2 32 dt Z I J N rfl (by decide) _ 0 [] rfl o (Q A) (l:E) _ (aflat l) rfl (λe=>by cases e) (zBw l) (λU e=>O.src U e) (zBv l) (by unfold az;omega) (by omega) (by simp) ?_;intro v' w1 u V)
  go_ret;simp only[dc,List.nil_append]at u;obtain⟨y,z,hv,h1,h2⟩:=Atts.of_own u F.wf;exact⟨⟨y,z,by rw[<-hv];rfl,h1,h2⟩,((af No w).alloc _).step (zE4 o V) (λb X h=>by omega)⟩
theorem zFH (d:Dev)(l:m (D×D))(w:a1)(hl:Atts w d.aa d.ac l)(a3:d.an=(l:E))(hb:(l:E)<=1000000):
  ah ag 90 #[ae d.vals] w λe w'=>(∃ u y,e=.returned (ae ({ d with aa:=u,ac:=y }:Dev).vals)/\Atts w' u y l/\∀ A,u=Q A->(w:E)<=A.block)/\Fr No w w':=by
 obtain⟨F,I,nm,J,N,O,U,V,X,aa,an,ac⟩:=d;dsimp only at a3 hl;subst a3;have hx:Fr No w ((w.alloc (P #[F,I,nm,J,N,O,U,V,X,K aa l ac] 41)).alloc (P #[M G 0,M G 0,(),(),(),(),(),M G 0,M G 0,K C 0 0] 41)):=((af _ _).alloc _).alloc _;have q0:=zP w (P #[F,I,nm,J,N,O,U,V,X,K aa l ac] 41) (P #[M G 0,M G 0,(),(),(),(),(),M G 0,M G 0,K C 0 0] 41);have q1:=zT w (P #[F,I,nm,J,N,O,U,V,X,K aa l ac] 41) (P #[M G 0,M G 0,(),(),(),(),(),M G 0,M G 0,K C 0 0] 41);show ah ag 90 #[ae #[F,I,nm,J,N,O,U,V,X,K aa l ac]] w _
 go_enter Tryz.func90,Tryz.ntmps90;go_upto_region 1 with(fail)
 have a5:(w:E)+2<=((w.alloc (P #[F,I,nm,J,N,O,U,V,X,K aa l ac] 41)).alloc (P #[M G 0,M G 0,(),(),(),(),(),M G 0,M G 0,K C 0 0] 41)).heap.size:=by simp
 generalize (w.alloc (P #[F,I,nm,J,N,O,U,V,X,K aa l ac] 41)).alloc (P #[M G 0,M G 0,(),(),(),(),(),M G 0,M G 0,K C 0 0] 41)=W0 at *;have c9:W0 ⟨w,9,C⟩=Q (K aa l ac):=zB q0 9;have a6:(w:E)<=(W0:E):=hx.size;go_wp2_with fail;apply (zHy aa ac l _ (hl.no hx (λ_=>id)) hb).mono;rintro e w1 ⟨⟨u,y,rfl,hA,o⟩,Z⟩;have p0:=Z.heap q0 id;have p1:=Z.heap q1 id;clear c9 q0 q1;have c9:w1 ⟨w,9,C⟩=Q (K aa l ac):=zB p0 9;have f9:w1.frozen? ⟨w,9,C⟩=false:=zD p0 9;go_upto_region 2 with(fail)
 have z:Fr (Is (w:E)) w1 (w1.setCell ⟨w,9,C⟩ (K u l y)):=av (af _ _) _;have r0:=zE p0 9 (K u l y);have r1:=z.heap p1 (λe=>by omega);have a4:=hA.fr z (λA e _ h=>by have:=o A e;omega);clear p0 p1 c9 f9;generalize w1.setCell ⟨w,9,C⟩ (K u l y)=W1 at *;obtain⟨c0,c1,c2,c3,c4,c5,c6,c7,c8,c9⟩:=cl10 r0;obtain⟨z0,z1,z2,z3,z4,z5,z6,z7,z8,z9⟩:=cl10 r1;obtain⟨y0,y1,y2,y3,y4,y5,y6,y7,y8,y9⟩:=fl10 r1;have a2:=zBG r1 rfl ⟨F,I,nm,J,N,O,U,V,X,u,(l:E),y⟩;have Y:R _:=bt (a4.fr a2.2 (λA e _ h=>by have:=o A e;omega)) ((((hx.step Z zi).step z (λb hb e=>by omega)).step a2.2 (λb hb e=>by omega)));clear a2 a4 hA r0 r1 z;go_wp2_with fail;refine ap (v:=ae #[F,I,nm,J,N,O,U,V,X,K u l y]) (by simp[aq,Tryz.results90,go_sem,z0,z1,z2,z3,z4,z5,z6,z7,z8,z9]) rfl ?_;exact⟨⟨u,y,rfl,Y.1,λA e=>by have:=o A e;omega⟩,Y.2⟩
def FoundD (w w':a1)(ds:m Dev)(n:a0)(e:bi):Prop:=
 (look ds n=C/\e=.returned (.tuple #[ae Dev.zero.vals,.bool L]))\/
 ∃ d a' c' l,look ds n=Q d/\e=.returned (.tuple #[ae ({ d with aa:=a',ac:=c' }:Dev).vals,.bool ak])/\Atts w' a' c' l/\d.an=l.length/\l.length<=24/\∀ ad,a'=Q ad->(w:E)<=ad.block
theorem zJS (a:ai aj)(o:E)(ds:m Dev)(b Y:E)(n:a0)(w:a1)(hl:Tr w Y a o ds)(hb:w ⟨b,0,C⟩=Q (M G n)):
  ah ag 61 #[ae #[K a ds o],.func (.func 94) #[] #[am (Q ⟨b,0,C⟩)]] w λe w'=>FoundD w w' ds n e/\Fr No w w':=by
 have hx:Fr No w ((w.alloc (P #[K a ds o] 48)).alloc (P #[M G 0,M G 0,(),(),(),(),(),M G 0,M G 0,K C 0 0] 41)):=((af _ _).alloc _).alloc _;have q0:=zP w (P #[K a ds o] 48) (P #[M G 0,M G 0,(),(),(),(),(),M G 0,M G 0,K C 0 0] 41);have q1:=zT w (P #[K a ds o] 48) (P #[M G 0,M G 0,(),(),(),(),(),M G 0,M G 0,K C 0 0] 41);have a8:(w:E)+2<=((w.alloc (P #[K a ds o] 48)).alloc (P #[M G 0,M G 0,(),(),(),(),(),M G 0,M G 0,K C 0 0] 41)).heap.size:=by simp
 have hm:=hl.dv.lenmax;go_enter df,dj;go_upto_region 1 with(fail)
 generalize (w.alloc (P #[K a ds o] 48)).alloc (P #[M G 0,M G 0,(),(),(),(),(),M G 0,M G 0,K C 0 0] 41)=W0 at *;have t0:W0 ⟨w,0,C⟩=Q (K a ds o):=zB q0 0;go_wp2_with fail;apply (zJw a o ds b n _ (hl.dv.no hx (λ_=>id)) (hx.cell hb id)).mono;rintro e w1 ⟨rfl,N⟩;have p0:=N.heap q0 id;have O:=N.heap q1 id;have I:=hx.step N zi;have Z:=hl.no I;have a9:(w:E)+1<(w1:E):=zC O;clear t0 q0 q1;rcases zAy ds n with⟨A,F⟩|⟨k,d,A,F,J⟩
 .rw[F];have U:=zh A;clear A F;obtain⟨z0,z1,z2,z3,z4,z5,z6,z7,z8,z9⟩:=cl10 O;obtain⟨y0,y1,y2,y3,y4,y5,y6,y7,y8,y9⟩:=fl10 O;have z:=zBG O rfl ⟨0,0,(),(),(),(),(),0,0,C,0,0⟩;have u:=zh (I.step z.2 (λb hb e=>by omega));clear z O I p0;go_wp2_with fail;refine ap (v:=.tuple #[ae Dev.zero.vals,.bool L]) (by simp[aq,ca,go_sem,al,au,z0,z1,z2,z3,z4,z5,z6,z7,z8,z9];rfl) rfl ?_;exact⟨.inl ⟨U,rfl⟩,u⟩
 .rw[F];have U:=zh A;have hk:k<(ds:E):=(List.getElem?_eq_some_iff.1 J).1;obtain⟨l,hA,V,a5⟩:=(Z.el d (bc J)).att;obtain⟨bb,a6,d',rfl,hd,c0,c1,c2,c3,c4,c5,c6,c7,c8,c9⟩:=Z.dv.dev hk;obtain rfl:d=d':=by rw[J]at hd;exact Option.some.inj hd
  have X:=zh (zFH d l w1 hA V (by omega));have t0:w1 ⟨w,0,C⟩=Q (K (Q ⟨bb,a6,C⟩) ds o):=zB p0 0;have a7:=zh V;clear A F J hd V;go_wp2_with fail;apply X.mono;rintro e w2 ⟨⟨a',c',rfl,a2,y⟩,a3⟩;have p2:=a3.heap O id;have a4:=I.step a3 zi;clear p0 O c0 c1 c2 c3 c4 c5 c6 c7 c8 c9 t0;have b0:(w:E)+1<(w2:E):=zC p2;obtain⟨z0,z1,z2,z3,z4,z5,z6,z7,z8,z9⟩:=cl10 p2;obtain⟨y0,y1,y2,y3,y4,y5,y6,y7,y8,y9⟩:=fl10 p2;have z:=zBG p2 rfl { d with aa:=a',ac:=c' };have u:R _:=bt (a2.fr z.2 (λad e _ h=>by have:=y ad e;omega)) (a4.step z.2 (λb hb e=>by omega));clear z a2 p2 a4;unfold al;go_wp2_with fail;refine ap (v:=.tuple #[ae ({ d with aa:=a',ac:=c' }:Dev).vals,.bool ak]) (by simp[aq,ca,go_sem,al,z0,z1,z2,z3,z4,z5,z6,z7,z8,z9]) rfl ?_;exact⟨.inr ⟨d,a',c',l,U,rfl,u.1,a7,a5,λad e=>by have:=y ad e;omega⟩,u.2⟩
theorem zBm (a:ai aj)(o:E)(ds:m Dev)(F:E)(n:a0)(w:a1)(hl:Tr w F a o ds):
  ah ag 47 #[ae #[K a ds o],n] w λe w'=>FoundD w w' ds n e/\Fr No w w':=by
 have V:Fr No w (((w.alloc (P #[K a ds o] 48)).alloc (P #[n] 3)).alloc (P #[M G 0,M G 0,(),(),(),(),(),M G 0,M G 0,K C 0 0] 41)):=(((af _ _).alloc _).alloc _).alloc _;have X:Fr No ((w.alloc (P #[K a ds o] 48)).alloc (P #[n] 3)) (((w.alloc (P #[K a ds o] 48)).alloc (P #[n] 3)).alloc (P #[M G 0,M G 0,(),(),(),(),(),M G 0,M G 0,K C 0 0] 41)):=(af _ _).alloc _;have q0:=X.heap (zP w (P #[K a ds o] 48) (P #[n] 3)) id;have q1:=X.heap (zT w (P #[K a ds o] 48) (P #[n] 3)) id;have U:=zF ((w.alloc (P #[K a ds o] 48)).alloc (P #[n] 3)) (P #[M G 0,M G 0,(),(),(),(),(),M G 0,M G 0,K C 0 0] 41);rw[bq,bq]at U;clear X;go_enter Tryz.func47,Tryz.ntmps47;go_upto_region 1 with(fail)
 generalize ((w.alloc (P #[K a ds o] 48)).alloc (P #[n] 3)).alloc (P #[M G 0,M G 0,(),(),(),(),(),M G 0,M G 0,K C 0 0] 41)=W0 at *;have t0:W0 ⟨w,0,C⟩=Q (K a ds o):=zB q0 0;have t1:W0 ⟨(w:E)+1,0,C⟩=Q (M G n):=zB q1 0;have a3:=V.size;have a4:=zC U;go_wp2_with fail;apply (zJS a o ds ((w:E)+1) F n _ (hl.no V) t1).mono;rintro e w2 ⟨hF,J⟩;have I:=J.heap U id;have A:=V.step J zi;have a5:(w:E)+2<(w2:E):=zC I;clear t0 t1 q0 q1 U;obtain⟨z0,z1,z2,z3,z4,z5,z6,z7,z8,z9⟩:=cl10 I;obtain⟨y0,y1,y2,y3,y4,y5,y6,y7,y8,y9⟩:=fl10 I;rcases hF with⟨z,rfl⟩|⟨d,Y,Z,l,z,rfl,hA,N,a2,O⟩
 .have y:=zBG I rfl au;have u:=zg2 z (A.step y.2 (λb hb e=>by omega));clear y I A z;unfold al au;go_wp2_with fail;refine ap (v:=.tuple #[ae Dev.zero.vals,.bool L]) (by simp[aq,dq,go_sem,al,au,z0,z1,z2,z3,z4,z5,z6,z7,z8,z9]) rfl ?_;exact⟨.inl ⟨u.1,rfl⟩,u.2⟩
 .have y:=zBG I rfl { d with aa:=Y,ac:=Z };have u:=zg4 z N (hA.fr y.2 (λad e _ h=>by have:=O ad e;omega)) (A.step y.2 (λb hb e=>by omega));clear y I A z N hA;unfold al;go_wp2_with fail;refine ap (v:=.tuple #[ae ({ d with aa:=Y,ac:=Z }:Dev).vals,.bool ak]) (by simp[aq,dq,go_sem,al,z0,z1,z2,z3,z4,z5,z6,z7,z8,z9]) rfl ?_;exact⟨.inr ⟨d,Y,Z,l,u.1,rfl,u.2.2.1,u.2.1,a2,λad e=>by have:=O ad e;omega⟩,u.2.2.2⟩
def fidx {α:Type}(p:α->ax):m α->a0
 | []=>-1
 | x::t=>if p x then 0 else if fidx p t<0 then -1 else fidx p t+1
theorem zHs {α:Type}(p:α->ax):∀ (l:m α) (k:E) (x:α),l[k]?=Q x->p x=ak->(∀ y∈l.take k,p y=L)->fidx p l=k
 | [],k,x,h,_,_=>by simp at h
 | y::t,0,x,h,e,_=>by simp at h;subst h;simp[fidx,e]
 | y::t,k+1,x,h,e,o=>by
  have u:p y=false:=o y (by simp);have v:=zHs p t k x (by simpa using h) e (λz A=>o z (by simp[A]));unfold fidx;rw[u,v];simp;omega
theorem zGz {α:Type}(p:α->ax):∀ l:m α,(∀ y∈l,p y=L)->fidx p l=-1
 | [],_=>rfl
 | y::t,h=>by
  unfold fidx;rw[h y (by simp),zGz p t (λz o=>h z (by simp[o]))];simp
theorem zAr {α:Type}(p:α->ax):∀ l:m α,(fidx p l=-1/\l.find? p=C/\l.any p=L)\/∃ (k:E) (x:α),fidx p l=(k:a0)/\l[k]?=Q x/\l.find? p=Q x/\p x=ak/\l.any p=ak
 | []=>.inl ⟨rfl,rfl,rfl⟩
 | x::t=>by
  cases hp:p x
  .rcases zAr p t with⟨h,o,u⟩|⟨k,y,h,o,u,v,z⟩
   .exact .inl ⟨by simp[fidx,hp,h],by simp[cg,hp,o],by simp[hp,u]⟩
   .refine .inr ⟨k+1,y,?_,by simpa using o,by simp[cg,hp,u],v,by simp[hp,z]⟩;have:¬ ((k:a0)<0):=(by omega);simp[fidx,hp,h,this]
  .exact .inr ⟨0,x,by simp[fidx,hp],rfl,by simp[cg,hp],hp,by simp[hp]⟩
def Tells (g:E)(cb:bm ar)(p:Dev->ax)(ds:m Dev)(w:a1):Prop:=
 ∀ d∈ds,∀ W,Fr No w W->ah ag g (#[ae d.vals]++cb) W λe w'=>e=.returned (.bool (p d))/\Fr No W w'
theorem zBt (g:E)(N:bm ar)(eg:∀ args w,(callFunc g args).run ag w=.ok (.enter g args) w)(p:Dev->ax)(a:ai aj)(A:E)(ds:m Dev)(w:a1)(O:Devs w a A ds)(U:Tells g N p ds w):
  ah ag 82 #[K a ds A,.func (.func g) #[] N] w λe w'=>e=.returned (M G (fidx p ds))/\Fr No w w':=by
 have hm:=O.lenmax;have Z:=zh U;clear U;go_enter dh,dk;go_wp2_with fail;go_loopw [5,8] (λj i wr=>∃ k:E,k<=(ds:E)/\i=M G k/\R (∀ x∈ds.take k,p x=L)/\Fr No w wr) (λ_ i _=>(ds:E)-(ao i).toNat);case atStart=>exact⟨0,by omega,rfl,by unfold R;simp,af _ _⟩
 case round=>
  obtain⟨k,hk,rfl,y,u⟩:=hrel;by_cases F:k<(ds:E)
  .have V:(k:a0)<(ds:E):=by omega
   obtain⟨bb,a2,d,rfl,I,c0,c1,c2,c3,c4,c5,c6,c7,c8,c9⟩:=(O.no u (λ_=>id)).dev F;have o:=Z.out d (bc I) wr u;have X:=zh I;clear I;cases hq:p d with
   | true=>
    rw[hq]at o;have J:=zh hq;clear hq;go_wp2_with (go_at_fn g;refine o.mono ?_;rintro e w1 ⟨rfl,z⟩)
    have v:=u.step z zi;go_ret;exact⟨zBD (zHs p ds k d X J y).symm,v⟩
   | false=>
    rw[hq]at o;have J:=zh hq;clear hq;go_wp2_with (go_at_fn g;refine o.mono ?_;rintro e w1 ⟨rfl,z⟩)
    have v:=u.step z zi;go_roundw;case rel=>
     refine⟨k+1,by omega,by go_num,?_,v⟩;unfold R;intro x Y;rw[bd,X]at Y;rcases List.mem_append.1 Y with h|h
     .exact y x h
     .simp at h;subst h;exact J.out
    case measure=>simp[ao];omega
  .obtain rfl:k=(ds:E):=by omega
   have h:=y.out;rw[ay (by omega)]at h;have H:=zh (zGz p ds h);clear h;go_wp2;go_ret;exact⟨zBD H.symm,u⟩
theorem zPM (g:E)(u:bm ar)(F:∀ args w,(callFunc g args).run ag w=.ok (.enter g args) w)(p:Dev->ax)(a:ai aj)(o:E)(ds:m Dev)(w:a1)(I:Devs w a o ds)(J:Tells g u p ds w):
  ah ag 128 #[K a ds o,.func (.func g) #[] u] w λe w'=>e=.returned (.bool (ds.any p))/\Fr No w w':=by
 have h:=zBt g u F p a o ds w I J;have A:decide (0<=fidx p ds)=ds.any p:=by
  rcases zAr p ds with⟨v,_,y⟩|⟨k,x,v,_,_,_,y⟩
  .rw[v,y];rfl
  .rw[v,y];simp
 have N:=zh A;clear A;go_enter Tryz.func128,Tryz.ntmps128;go_wp2_with fail;apply h.mono;rintro e O ⟨rfl,z⟩;go_wp2;go_ret;exact⟨zL N,z⟩
def FoundP (w w':a1)(ds:m Dev)(p:Dev->ax)(e:bi):Prop:=
 (ds.find? p=C/\e=.returned (.tuple #[ae Dev.zero.vals,.bool L]))\/
 ∃ d a' c' l,ds.find? p=Q d/\e=.returned (.tuple #[ae ({ d with aa:=a',ac:=c' }:Dev).vals,.bool ak])/\Atts w' a' c' l/\Atts w d.aa d.ac l/\d.an=l.length/\l.length<=24/\∀ ad,a'=Q ad->(w:E)<=ad.block
theorem Atts.det {c J:E}{l':m (D×D)}(h:Atts w a c l)(N:Atts w a J l')(u:(l:E)=(l':E)):l=l':=by
 by_cases o:l=[]
 .subst o;exact(bw u.symm).symm
 .have v:l'≠[]:=λe=>by subst e;exact o (bw u)
  cases a with
  | none=>exact bn (h.isNil rfl).1 o
  | some y=>
   obtain⟨_,_,O⟩:=h.cell y rfl o;obtain⟨_,_,U⟩:=N.cell y rfl v;refine List.ext_getElem u λi V X=>?_
   have z:=O i l[i] (ba V);have A:=U i l'[i] (ba X);have F:=z.1.symm.trans A.1;have I:=z.2.symm.trans A.2;simp only[Option.some.injEq,Value.string.injEq]at F I;exact Prod.ext F I
theorem zGQ (g:E)(cb:bm ar)(eg:∀ args w,(callFunc g args).run ag w=.ok (.enter g args) w)(p:Dev->ax)(a:ai aj)(y:E)(ds:m Dev)(a2:E)(w:a1)(hl:Tr w a2 a y ds)(hp:Tells g cb p ds w):
  ah ag 61 #[ae #[K a ds y],.func (.func g) #[] cb] w λe w'=>FoundP w w' ds p e/\Fr No w w':=by
 obtain⟨W0,a3,hx,q0,q1⟩:=zw w (P #[K a ds y] 48) (P #[M G 0,M G 0,(),(),(),(),(),M G 0,M G 0,K C 0 0] 41);have hm:=hl.dv.lenmax;have N:=zBt g cb eg p a y ds W0 (hl.dv.no hx (λ_=>id)) (λd hd W hf=>hp d hd W (hx.step hf zi));clear hp;go_enter df,dj;go_upto_region 1 with(fail)
 rw[<-a3];clear a3;have t0:W0 ⟨w,0,C⟩=Q (K a ds y):=zB q0 0;go_wp2_with fail;apply N.mono;rintro e w1 ⟨rfl,O⟩;clear N;have p0:=O.heap q0 id;have U:=O.heap q1 id;have A:=hx.step O zi;have a7:=hl.no A;have b2:(w:E)+1<(w1:E):=zC U;clear t0 q0 q1;rcases zAr p ds with⟨F,I,-⟩|⟨k,d,F,J,I,-,-⟩
 .rw[F];have V:=zh I;clear I F;obtain⟨z0,z1,z2,z3,z4,z5,z6,z7,z8,z9⟩:=DevB.of (d:=⟨0,0,(),(),(),(),(),0,0,C,0,0⟩) U;obtain⟨y0,y1,y2,y3,y4,y5,y6,y7,y8,y9⟩:=DevF.of U;have z:=zBG U rfl ⟨0,0,(),(),(),(),(),0,0,C,0,0⟩;have o:=zh (A.step z.2 (λb hb e=>by omega));clear z U A p0;go_wp2_with fail;refine ap (v:=.tuple #[ae Dev.zero.vals,.bool L]) (by simp[aq,ca,go_sem,al,au,z0,z1,z2,z3,z4,z5,z6,z7,z8,z9];rfl) rfl ?_;exact⟨.inl ⟨V,rfl⟩,o⟩
 .rw[F];have V:=zh I;have hk:k<(ds:E):=(List.getElem?_eq_some_iff.1 J).1;obtain⟨l,X,Y,a8⟩:=(hl.el d (bc J)).att;have hA:=X.no A (λ_=>id);have a9:=zh X;clear X;obtain⟨bb,b0,d',rfl,hd,c0,c1,c2,c3,c4,c5,c6,c7,c8,c9⟩:=a7.dv.dev hk;obtain rfl:d=d':=by rw[J]at hd;exact Option.some.inj hd
  have Z:=zh (zFH d l w1 hA Y (by omega));have t0:w1 ⟨w,0,C⟩=Q (K (Q ⟨bb,b0,C⟩) ds y):=zB p0 0;have b1:=zh Y;clear I F J hd Y;go_wp2_with fail;apply Z.mono;rintro e w2 ⟨⟨a',c',rfl,a4,u⟩,a5⟩;have p2:=a5.heap U id;have a6:=A.step a5 zi;clear p0 U c0 c1 c2 c3 c4 c5 c6 c7 c8 c9 t0;have b3:(w:E)+1<(w2:E):=zC p2;obtain⟨z0,z1,z2,z3,z4,z5,z6,z7,z8,z9⟩:=DevB.of (d:=⟨0,0,(),(),(),(),(),0,0,C,0,0⟩) p2;obtain⟨y0,y1,y2,y3,y4,y5,y6,y7,y8,y9⟩:=DevF.of p2;have z:=zBG p2 rfl { d with aa:=a',ac:=c' };have o:R _:=bt (a4.fr z.2 (λad e _ h=>by have:=u ad e;omega)) (a6.step z.2 (λb hb e=>by omega));clear z a4 p2 a6;unfold al;go_wp2_with fail;refine ap (v:=.tuple #[ae ({ d with aa:=a',ac:=c' }:Dev).vals,.bool ak]) (by simp[aq,ca,go_sem,al,z0,z1,z2,z3,z4,z5,z6,z7,z8,z9]) rfl ?_;exact⟨.inr ⟨d,a',c',l,V,rfl,o.1,a9,b1,a8,λad e=>by have:=u ad e;omega⟩,o.2⟩
def plc (ds:m Dev)(n:a0):D:=((look ds n).map λ_=>pathOf (origin ds n)).getD ⟨#[]⟩
def atP (ds:m Dev)(s:D)(d:Dev):Bool:=(plc ds d.index).toList==s.toList
theorem zC9 (h:TreeOk ds)(n:a0):(ogs ds n).getD ⟨#[]⟩=plc ds n:=by
 have:=zIW h (ds:E) (be _) n;rw[ay (be _)]at this;rw[this];rfl
theorem zQs (d:Dev)(ds:m Dev)(a:ai aj)(u U v A F:E)(s:D)(w:a1)(I:TreeOk ds)(V:d∈ds)(J:w.heap[A]?=Q (P #[K a ds u,.map (Q U),.map (Q v)] 115))(N:SMap w v (ogs ds) (ds:E))(O:w ⟨F,0,C⟩=Q (ab s)):
  ah ag 62 #[ae d.vals,am (Q ⟨A,0,C⟩),am (Q ⟨F,0,C⟩)] w λe w'=>e=.returned (.bool (atP ds s d))/\Fr No w w':=by
 have o:Fr No w (w.alloc (P d.vals 41)):=(af _ _).alloc _;have X:=o.cell O id;have h:=o.heap J id;have Z:=zB h 2;have y:=N.fr o id;have z:=I.iwf V;have Y:=zh (zC9 I d.index);clear O J N h;unfold al at *;go_enter Tryz.func62,Tryz.ntmps62;go_wp2_with (at_lookup;refine zHI rfl _ _ 113 rfl rfl v _ _ d.index z rfl y rfl ?_)
 go_ret;exact⟨by unfold atP;rw[<-Y];rfl,o⟩
theorem zDo (a:ai aj)(o:E)(ds:m Dev)(V:E)(s:D)(w:a1)(hl:Tr w V a o ds)(hn:(ds:E)<=1000):
  ah ag 25 #[ae #[K a ds o],s] w λe w'=>FoundP w w' ds (atP ds s) e/\Fr No w w':=by
 have hT:=hl.wf.ok;obtain⟨X,I⟩:=ε (((w.alloc (P #[K a ds o] 48)).alloc (P #[s] 9)).alloc (P #[M G 0,M G 0,(),(),(),(),(),M G 0,M G 0,K C 0 0] 41))
 have fx:Fr No ((w.alloc (P #[K a ds o] 48)).alloc (P #[s] 9)) X:=by rw[I];exact(af _ _).alloc _
 have hx:Fr No w X:=by rw[I];exact(((af _ _).alloc _).alloc _).alloc _
 have q0:=fx.heap (zP w (P #[K a ds o] 48) (P #[s] 9)) id;have q1:=fx.heap (zT w (P #[K a ds o] 48) (P #[s] 9)) id;have q2:X.heap[(w:E)+1+1]?=Q (P #[M G 0,M G 0,(),(),(),(),(),M G 0,M G 0,K C 0 0] 41):=by
  have:=zF ((w.alloc (P #[K a ds o] 48)).alloc (P #[s] 9)) (P #[M G 0,M G 0,(),(),(),(),(),M G 0,M G 0,K C 0 0] 41);rw[bq,bq]at this;rw[I];exact this
 clear fx;have t0:X ⟨w,0,C⟩=Q (K a ds o):=zB q0 0;have J:=zCY a o ds X (hl.dv.no hx (λ_=>id)) hT hn;have b0:=zC q2;go_enter Tryz.func25,Tryz.ntmps25;go_upto_region 1 with(fail)
 rw[<-I];clear I;go_wp2_with fail;apply J.mono;rintro e w1 ⟨⟨m1,m2,rfl,b2,b3,b4,hI,hS⟩,N⟩;clear J hI;have a7:=hx.step N zi;obtain⟨W1,Z,z,b1⟩:=zy w1 (P #[K a ds o,.map (Q m1),.map (Q m2)] 115);have p0:=z.heap (N.heap q0 id) id;have p1:=z.heap (N.heap q1 id) id;have p2:=z.heap (N.heap q2 id) id;have a8:=hS.fr z id;have O:=a7.step z zi;have b5:=N.size;clear q0 q1 q2 t0;have t0:W1 ⟨w,0,C⟩=Q (K a ds o):=zB p0 0;have t1:W1 ⟨(w:E)+1,0,C⟩=Q (ab s):=zB p1 0;have y:=zGQ 62 #[am (Q ⟨w1,0,C⟩),am (Q ⟨(w:E)+1,0,C⟩)] (λ_ _=>rfl) (atP ds s) a o ds V W1 (hl.no O) (λd hd W hf=>zQs d ds a o m1 m2 _ _ s W hT hd (hf.heap b1 id) (a8.fr hf id) (hf.cell t1 id));go_upto_region 2 with(fail)
 rw[<-Z];clear Z;go_wp2_with fail;apply y.mono;rintro e w2 ⟨hF,a2⟩;clear y;have Y:=a2.heap p2 id;have U:=O.step a2 zi;have b6:(w:E)+1+1<(w2:E):=zC Y;clear t0 t1 p0 p1 p2;obtain⟨z0,z1,z2,z3,z4,z5,z6,z7,z8,z9⟩:=DevB.of (d:=⟨0,0,(),(),(),(),(),0,0,C,0,0⟩) Y;obtain⟨y0,y1,y2,y3,y4,y5,y6,y7,y8,y9⟩:=DevF.of Y;have b7:=O.size;have b8:=z.size;rcases hF with⟨A,rfl⟩|⟨d,a',c',l,A,rfl,hA,a3,a4,a9,a5⟩
 .have F:=zBG Y rfl au;have u:=zg2 A (U.step F.2 (λb hb e=>by omega));clear F Y U A;unfold al au;go_wp2_with fail;refine ap (v:=.tuple #[ae Dev.zero.vals,.bool L]) (by simp[aq,dn,go_sem,al,au,z0,z1,z2,z3,z4,z5,z6,z7,z8,z9]) rfl ?_;exact⟨.inl ⟨u.1,rfl⟩,u.2⟩
 .have F:=zBG Y rfl { d with aa:=a',ac:=c' };have a6:Atts w d.aa d.ac l:=by
   obtain⟨l0,g1,g2,_⟩:=(hl.el d (List.mem_of_find?_eq_some A)).att;have e:l0=l:=(g1.no O (λ_=>id)).det a3 (by omega);rw[<-e];exact g1
  have u:=zg4 A a4 (bt (hA.fr F.2 (λad e _ h=>by have:=a5 ad e;omega)) a6) (U.step F.2 (λb hb e=>by omega));clear F Y U A a4 hA a3 a6;unfold al;go_wp2_with fail;refine ap (v:=.tuple #[ae ({ d with aa:=a',ac:=c' }:Dev).vals,.bool ak]) (by simp[aq,dn,go_sem,al,z0,z1,z2,z3,z4,z5,z6,z7,z8,z9]) rfl ?_;exact⟨.inr ⟨d,a',c',l,u.1,rfl,u.2.2.1.1,u.2.2.1.2,u.2.1,a9,λad e=>by have:=a5 ad e;omega⟩,u.2.2.2⟩
structure Rec where
 path:D
 index:a0
 props:m (D×D)
 tags:m D
 pa:ai aj
 pc:E
 ta:ai aj
 tc:E
 la:ai aj
 ln:E
 lc:E
 ra:ai aj
 rn:E
 rc:E
 oa:ai aj
 on:E
 oc:E
 name:D
 prio:a0
 owner:D
 group:D
 mode:a0
def Rec.cell (r:Rec):E->ar
 | 0=>ab r.path
 | 1=>M G r.index
 | 2=>K r.pa r.props r.pc
 | 3=>K r.ta r.tags r.tc
 | 4=>K r.la r.ln r.lc
 | 5=>K r.ra r.rn r.rc
 | 6=>K r.oa r.on r.oc
 | 7=>ab r.name
 | 8=>M G r.prio
 | 9=>ab r.owner
 | 10=>ab r.group
 | _=>M G r.mode
def Rec.vals (r:Rec):bm ar:=#[ab r.path,M G r.index,K r.pa r.props r.pc,K r.ta r.tags r.tc,K r.la r.ln r.lc,K r.ra r.rn r.rc,K r.oa r.on r.oc,ab r.name,M G r.prio,ab r.owner,ab r.group,M G r.mode]
def Rec.zero : Rec:=⟨(),0,[],[],C,0,C,0,C,0,0,C,0,0,C,0,0,(),0,(),(),0⟩
structure RecOk (w:a1)(r:Rec):Prop where
 props:Atts w r.pa r.pc r.props
 tags:Strs w r.ta r.tc r.tags
theorem RecOk.no {r:Rec}(h:RecOk w r)(o:Fr S w w')(u:∀ k,¬ S k):RecOk w' r:=⟨h.props.no o u,h.tags.no o u⟩
theorem RecOk.zero (w:a1):RecOk w Rec.zero:=⟨cd w,Strs.nil w⟩
structure Recs (w:a1)(a:ai aj)(cap:E)(l:m Rec):Prop where
 len:(l:E)<=cap
 max:cap<=az
 isNil:a=C->l=[]/\cap=0
 ok:∀ r∈l,RecOk w r
 cell:∀ ad,a=Q ad->l≠[]->ad.spot=C/\ad.block<(w:E)/\∀ i r,l[i]?=Q r->∀ j,j<12->w ⟨ad.block,ad.off+(i*12+j),C⟩=Q (r.cell j)
structure RecAt (w:a1)(b o:E)(r:Rec):Prop where
 c0:w ⟨b,o,C⟩=Q (ab r.path)
 c1:w ⟨b,o+1,C⟩=Q (M G r.index)
 c2:w ⟨b,o+2,C⟩=Q (K r.pa r.props r.pc)
 c3:w ⟨b,o+3,C⟩=Q (K r.ta r.tags r.tc)
 c4:w ⟨b,o+4,C⟩=Q (K r.la r.ln r.lc)
 c5:w ⟨b,o+5,C⟩=Q (K r.ra r.rn r.rc)
 c6:w ⟨b,o+6,C⟩=Q (K r.oa r.on r.oc)
 c7:w ⟨b,o+7,C⟩=Q (ab r.name)
 c8:w ⟨b,o+8,C⟩=Q (M G r.prio)
 c9:w ⟨b,o+9,C⟩=Q (ab r.owner)
 c10:w ⟨b,o+10,C⟩=Q (ab r.group)
 c11:w ⟨b,o+11,C⟩=Q (M G r.mode)
theorem Recs.elem {y:E}{l:m Rec}(h:Recs w a y l)(v:k<(l:E)):
  ∃ b u r,a=Q ⟨b,u,C⟩/\l[k]?=Q r/\RecOk w r/\RecAt w b (u+k*12) r:=by
 cases a with
 | none=>obtain⟨rfl,_⟩:=h.isNil rfl;simp at v
 | some A=>
  obtain⟨b,u,I⟩:=A;obtain⟨z,J,F⟩:=h.cell _ rfl (by intro e;subst e;simp at v);simp at z;subst z;have o:=F k _ (ba v);exact⟨b,u,l[k],rfl,ba v,h.ok _ (ch v),⟨o 0 (by omega),o 1 (by omega),o 2 (by omega),o 3 (by omega),o 4 (by omega),o 5 (by omega),o 6 (by omega),o 7 (by omega),o 8 (by omega),o 9 (by omega),o 10 (by omega),o 11 (by omega)⟩⟩
theorem Recs.lenmax {o:E}{l:m Rec}(h:Recs w a o l):(l:E)<=9223372036854775807:=by
 have v:=h.len;have u:=h.max;unfold az at u;omega
theorem Recs.no {o:E}{l:m Rec}(h:Recs w a o l)(u:Fr S w w')(y:∀ k,¬ S k):Recs w' a o l:=
 ⟨h.len,h.max,h.isNil,λr z=>(h.ok r z).no u y,λA e v=>by
  obtain⟨F,I,J⟩:=h.cell A e v;exact⟨F,Nat.lt_of_lt_of_le I u.size,λi r N j O=>u.cell (J i r N j O) (y _)⟩⟩
theorem Recs.nil (w:a1):Recs w C 0 []:=⟨by simp,by simp,λ_=>⟨rfl,rfl⟩,by simp,λ_ e _=>by cases e⟩
def Rec.is (n:a0)(p:D)(r:Rec):Bool:=decide (r.index=n)&&(r.path.toList==p.toList)
def rplace : m Rec->a0->D->a0
 | [],_,_=>-1
 | r::t,n,p=>if r.is n p then 0 else if rplace t n p<0 then -1 else rplace t n p+1
theorem zDy : ∀ (l:m Rec) (n:a0) (p:D),(l.find? (Rec.is n p)=C/\rplace l n p=-1)\/∃ (k:E) (r:Rec),l.find? (Rec.is n p)=Q r/\rplace l n p=(k:a0)/\l[k]?=Q r
 | [],n,p=>.inl ⟨rfl,rfl⟩
 | r::t,n,p=>by
  unfold rplace;rw[cr];cases hr:r.is n p with
  | true=>exact .inr ⟨0,r,rfl,rfl,rfl⟩
  | false=>
   rcases zDy t n p with⟨h,o⟩|⟨k,x,h,o,u⟩
   .left;refine⟨h,?_⟩;simp[o]
   .right;refine⟨k+1,x,h,?_,by simpa using u⟩;rw[o,bh (by simp),bh (by omega)];rfl
theorem zDw : ∀ (l:m Rec) (n:a0) (p:D) (k:E) (r:Rec),l[k]?=Q r->r.is n p=ak->(∀ x∈l.take k,x.is n p=L)->rplace l n p=k
 | [],n,p,k,r,h,_,_=>by simp at h
 | x::t,n,p,0,r,h,e,_=>by simp at h;subst h;simp[rplace,e]
 | x::t,n,p,k+1,r,h,e,o=>by
  have u:x.is n p=false:=o x (by simp);have v:=zDw t n p k r (by simpa using h) e (λy z=>o y (by simp[z]));unfold rplace;rw[u,v];simp;omega
theorem zDx : ∀ (l:m Rec) (n:a0) (p:D),(∀ x∈l,x.is n p=L)->rplace l n p=-1
 | [],n,p,_=>rfl
 | x::t,n,p,h=>by
  unfold rplace;rw[h x (by simp),zDx t n p (λy o=>h y (by simp[o]))];simp
theorem zOj (h:W.heap[b]?=Q (P cs T))(v:cs.size=12)(r:Rec):
  ((((((((((((W.setCell ⟨b,0,C⟩ (ab r.path)).setCell ⟨b,1,C⟩ (M G r.index)).setCell ⟨b,2,C⟩ (K r.pa r.props r.pc)).setCell ⟨b,3,C⟩ (K r.ta r.tags r.tc)).setCell ⟨b,4,C⟩ (K r.la r.ln r.lc)).setCell ⟨b,5,C⟩ (K r.ra r.rn r.rc)).setCell ⟨b,6,C⟩ (K r.oa r.on r.oc)).setCell ⟨b,7,C⟩ (ab r.name)).setCell ⟨b,8,C⟩ (M G r.prio)).setCell ⟨b,9,C⟩ (ab r.owner)).setCell ⟨b,10,C⟩ (ab r.group)).setCell ⟨b,11,C⟩ (M G r.mode)).heap[b]?=Q (P r.vals T)/\Fr (Is b) W ((((((((((((W.setCell ⟨b,0,C⟩ (ab r.path)).setCell ⟨b,1,C⟩ (M G r.index)).setCell ⟨b,2,C⟩ (K r.pa r.props r.pc)).setCell ⟨b,3,C⟩ (K r.ta r.tags r.tc)).setCell ⟨b,4,C⟩ (K r.la r.ln r.lc)).setCell ⟨b,5,C⟩ (K r.ra r.rn r.rc)).setCell ⟨b,6,C⟩ (K r.oa r.on r.oc)).setCell ⟨b,7,C⟩ (ab r.name)).setCell ⟨b,8,C⟩ (M G r.prio)).setCell ⟨b,9,C⟩ (ab r.owner)).setCell ⟨b,10,C⟩ (ab r.group)).setCell ⟨b,11,C⟩ (M G r.mode)):=by
 refine⟨?_,av (av (av (av (av (av (av (av (av (av (av (av (af _ _) _) _) _) _) _) _) _) _) _) _) _) _⟩;obtain⟨l⟩:=cs
 match l,v with
 | [_,_,_,_,_,_,_,_,_,_,_,_],_=>
  have y:=zE h 0 (ab r.path);have z:=zE y 1 (M G r.index);have A:=zE z 2 (K r.pa r.props r.pc);have F:=zE A 3 (K r.ta r.tags r.tc);have I:=zE F 4 (K r.la r.ln r.lc);have J:=zE I 5 (K r.ra r.rn r.rc);have N:=zE J 6 (K r.oa r.on r.oc);have O:=zE N 7 (ab r.name);have U:=zE O 8 (M G r.prio);have V:=zE U 9 (ab r.owner);have u:=zE V 10 (ab r.group);have o:=zE u 11 (M G r.mode);simp only[List.setIfInBounds_toArray,List.set_cons_zero,List.set_cons_succ]at o;exact o
theorem zP1 (r:Rec)(o u:E)(n:a0)(p:D)(w:a1)(v:w ⟨o,0,C⟩=Q (M G n))(y:w ⟨u,0,C⟩=Q (ab p)):
  ah ag 195 #[ae r.vals,am (Q ⟨o,0,C⟩),am (Q ⟨u,0,C⟩)] w λe w'=>e=.returned (.bool (r.is n p))/\Fr No w w':=by
 have h:Fr No w (w.alloc (P r.vals 56)):=(af _ _).alloc _;have z:=h.cell v id;have A:=h.cell y id;clear v y;unfold Rec.vals at *;rcases h1:(r.index==n)with _|_
 .have H:R (r.is n p=L):=by unfold R Rec.is;simp at h1;simp[h1]
  go_enter cj,ck;go_wp2_with fail
  all_goals (go_ret;exact⟨zL H.symm,h⟩)
 .rcases h2:(r.path.toList==p.toList)with _|_
  .have H:R (r.is n p=L):=by unfold R Rec.is;rw[h2,Bool.and_false]
   go_enter cj,ck;go_wp2_with fail
   all_goals (go_ret;exact⟨zL H.symm,h⟩)
  .have H:R (r.is n p=ak):=by unfold R Rec.is;simp at h1;rw[h2,Bool.and_true];simp[h1]
   go_enter cj,ck;go_wp2_with fail
   all_goals (go_ret;exact⟨zL H.symm,h⟩)
theorem zK1 (a:ai aj)(z:E)(l:m Rec)(A F:E)(n:a0)(p:D)(w:a1)(U:Recs w a z l)(h4:w ⟨A,0,C⟩=Q (M G n))(h5:w ⟨F,0,C⟩=Q (ab p)):
  ah ag 194 #[K a l z,.func (.func 195) #[] #[am (Q ⟨A,0,C⟩),am (Q ⟨F,0,C⟩)]] w λe w'=>e=.returned (M G (rplace l n p))/\Fr No w w':=by
 have hm:=U.lenmax;go_enter Tryz.func194,Tryz.ntmps194;go_wp2_with fail;go_loopw [8] (λi wr=>∃ k:E,k<=(l:E)/\i=M G k/\R (∀ x∈l.take k,x.is n p=L)/\Fr No w wr) (λi _=>(l:E)-(ao i).toNat);case atStart=>exact⟨0,by omega,rfl,by unfold R;simp,af _ _⟩
 case round=>
  obtain⟨k,hk,rfl,v,o⟩:=hrel;by_cases I:k<(l:E)
  .have V:(k:a0)<(l:E):=by omega
   obtain⟨bb,a2,r,rfl,X,_,c0,c1,c2,c3,c4,c5,c6,c7,c8,c9,J,N⟩:=(U.no o (λ_=>id)).elem I;have Y:=zh X;clear X;go_wp2_with fail;apply (zP1 r A F n p _ (o.cell h4 id) (o.cell h5 id)).mono;rintro e w1 ⟨rfl,O⟩;have u:=o.step O zi;clear c0 c1 c2 c3 c4 c5 c6 c7 c8 c9 J N;rcases hxn:r.is n p with _|_
   .have y:=zh hxn;clear hxn;go_wp2;go_roundw;case rel=>
     refine⟨k+1,by omega,by go_num,?_,u⟩;unfold R;intro x Z;rw[bd,Y]at Z;rcases List.mem_append.1 Z with h|h
     .exact v x h
     .simp at h;subst h;exact y.out
    case measure=>simp[ao];omega
   .have y:=zh hxn;clear hxn;go_wp2;go_ret;exact⟨zBD (zDw l n p k r Y y v).symm,u⟩
  .obtain rfl:k=(l:E):=by omega
   have h:=v.out;rw[ay (by omega)]at h;have Hp:R (rplace l n p=-1):=zDx _ _ _ h;clear h;go_wp2;go_ret;exact⟨zBD Hp.symm,o⟩
def FoundR (o:ai Rec)(e:bi):Prop:=match o with
 | none=>e=.returned (.tuple #[ae Rec.zero.vals,.bool L])
 | some r=>e=.returned (.tuple #[ae r.vals,.bool ak])
theorem zMt (a:ai aj)(y:E)(l:m Rec)(n:a0)(p:D)(w:a1)(U:Recs w a y l):
  ah ag 146 #[K a l y,n,p] w λe w'=>FoundR (l.find? (Rec.is n p)) e/\Fr No w w':=by
 have hm:=U.lenmax;have V:Fr No w (((w.alloc (P #[n] 3)).alloc (P #[p] 9)).alloc (P #[(),M G 0,K C 0 0,K C 0 0,K C 0 0,K C 0 0,K C 0 0,(),M G 0,(),(),M G 0] 56)):=(((af _ _).alloc _).alloc _).alloc _;have q4:=(((af No _).alloc (P #[p] 9)).alloc (P #[(),M G 0,K C 0 0,K C 0 0,K C 0 0,K C 0 0,K C 0 0,(),M G 0,(),(),M G 0] 56)).heap (zF w (P #[n] 3)) id;have q5:=((af No _).alloc (P #[(),M G 0,K C 0 0,K C 0 0,K C 0 0,K C 0 0,K C 0 0,(),M G 0,(),(),M G 0] 56)).heap (zT w (P #[n] 3) (P #[p] 9)) id;have X:=zT (w.alloc (P #[n] 3)) (P #[p] 9) (P #[(),M G 0,K C 0 0,K C 0 0,K C 0 0,K C 0 0,K C 0 0,(),M G 0,(),(),M G 0] 56);rw[bq]at X;have a4:(((w.alloc (P #[n] 3)).alloc (P #[p] 9)).alloc (P #[(),M G 0,K C 0 0,K C 0 0,K C 0 0,K C 0 0,K C 0 0,(),M G 0,(),(),M G 0] 56)).heap.size=(w:E)+3:=by simp
 go_enter Tryz.func146,Tryz.ntmps146;go_upto_region 1 with(fail)
 generalize ((w.alloc (P #[n] 3)).alloc (P #[p] 9)).alloc (P #[(),M G 0,K C 0 0,K C 0 0,K C 0 0,K C 0 0,K C 0 0,(),M G 0,(),(),M G 0] 56)=W0 at *;go_wp2_with fail;apply (zK1 a y l _ _ n p _ (U.no V (λ_=>id)) (zB q4 0) (zB q5 0)).mono;rintro e w1 ⟨rfl,h⟩;have z:=(U.no V (λ_=>id)).no h (λ_=>id);have F:=V.step h zi;have A:=h.heap X id;have a5:=h.size;clear q4 q5 X V h U;obtain⟨z0,z1,z2,z3,z4,z5,z6,z7,z8,z9,I,J⟩:=cl12 A;obtain⟨y0,y1,y2,y3,y4,y5,y6,y7,y8,y9,a6,a7⟩:=fl12 A;rcases zDy l n p with⟨N,O⟩|⟨k,r,N,O,Y⟩
 .rw[O];have Z:=zh N;have o:=zOj A rfl Rec.zero;have u:=zh (F.step o.2 (λb hb e=>by omega));clear o A z N O;go_wp2_with fail;refine ap (v:=.tuple #[ae Rec.zero.vals,.bool L]) (by simp[aq,dl,go_sem,Rec.vals,Rec.zero,z0,z1,z2,z3,z4,z5,z6,z7,z8,z9,I,J];try rfl) rfl ?_;exact⟨by rw[Z];rfl,u⟩
 .rw[O];have Z:=zh N;have a2:k<(l:E):=(List.getElem?_eq_some_iff.1 Y).1;have a3:(k:a0)<(l:E):=by omega
  obtain⟨bb,a8,r',rfl,hr,_,c0,c1,c2,c3,c4,c5,c6,c7,c8,c9,a9,b0⟩:=z.elem a2;rw[Y]at hr;cases hr;have o:=zOj A rfl r;have u:=zh (F.step o.2 (λb hb e=>by omega));clear o A z N O Y;go_wp2_with fail;refine ap (v:=.tuple #[ae r.vals,.bool ak]) (by simp[aq,dl,go_sem,Rec.vals,z0,z1,z2,z3,z4,z5,z6,z7,z8,z9,I,J]) rfl ?_;exact⟨by rw[Z];rfl,u⟩
def isKey (key:D)(x:D×D):Bool:=x.1.toList==key.toList
def getP (l:m (D×D))(key:D):D:=((l.find? (isKey key)).map (·.2)).getD ⟨#[]⟩
theorem zCp {α:Type}(p:α->ax):∀ (l:m α) (k:E) (x:α),l[k]?=Q x->p x=ak->(∀ y∈l.take k,p y=L)->l.find? p=Q x
 | [],k,x,h,_,_=>by simp at h
 | y::t,0,x,h,e,_=>by simp at h;subst h;simp[e]
 | y::t,k+1,x,h,e,o=>by
  have u:p y=false:=o y (by simp);rw[cr,u];exact zCp p t k x (by simpa using h) e (λz v=>o z (by simp[v]))
theorem zHr {α:Type}(p:α->ax)(l:m α)(h:∀ y∈l,p y=L):l.find? p=none:=by
 rw[ct];intro y o;simp[h y o]
theorem zJf (r:Rec)(o:D)(w:a1)(O:RecOk w r):
  ah ag 147 #[ae r.vals,o] w λe w'=>e=.returned (ab (getP r.props o))/\Fr No w w':=by
 have I:Fr No w (w.alloc (P r.vals 56)):=(af _ _).alloc _;have U:=O.props.no I (λ_=>id);have Z:=U.lenmax;unfold Rec.vals at *;clear O;go_enter Tryz.func147,Tryz.ntmps147;go_wp2_with fail;generalize w.alloc (P _ 56)=W0 at *;go_loopw [10] (λi wr=>∃ k:E,k<=(r.props:E)/\i=M G k/\R (∀ x∈r.props.take k,isKey o x=L)/\Fr No W0 wr) (λi _=>(r.props:E)-(ao i).toNat);case atStart=>exact⟨0,by omega,rfl,by unfold R;simp,af _ _⟩
 case round=>
  obtain⟨k,hk,rfl,v,u⟩:=hrel;by_cases J:k<(r.props:E)
  .have V:(k:a0)<(r.props:E):=by omega
   obtain⟨bb,Y,x,y,ha,A,-,-,c0,c1⟩:=(U.no u (λ_=>id)).at J;have F:=zh A;clear A;rcases he:(x.toList==o.toList)with _|_
   .go_wp2;go_roundw;case rel=>
     refine⟨k+1,by omega,by go_num,?_,u.alloc _⟩;unfold R;intro z X;rw[bd,F]at X;rcases List.mem_append.1 X with h|h
     .exact v z h
     .simp at h;subst h;exact he
    case measure=>simp[ao];omega
   .have N:R (getP r.props o=y):=(by unfold R getP;rw[zCp (isKey o) _ _ _ F he v];rfl);go_wp2;go_ret;exact⟨by rw[N];rfl,(I.step u zi).alloc _⟩
  .obtain rfl:k=(r.props:E):=by omega
   have h:=v.out;rw[ay (by omega)]at h;have N:R (getP r.props o=()):=(by unfold R getP;rw[zHr _ _ h];rfl);go_wp2;go_ret;exact⟨by rw[N];rfl,I.step u zi⟩
def GotS (s:D)(e:bi):Prop:=∃ b,e=.returned (.tuple #[s,.bool b])
theorem zIQ (a:ai aj)(A:E)(l:m (D×D))(o:D)(w:a1)(O:Atts w a A l):
  ah ag 28 #[K a l A,o] w λe w'=>GotS (getP l o) e/\Fr No w w':=by
 have Y:=O.lenmax;go_enter Tryz.func28,Tryz.ntmps28;go_wp2_with fail
 go_loop [6] (λi=>∃ k:E,k<=(l:E)/\i=M G k/\R (∀ x∈l.take k,isKey o x=L)) (λi=>(l:E)-(ao i).toNat)
 case atStart=>exact⟨0,by omega,rfl,by unfold R;simp⟩
 case round=>
  obtain⟨k,Z,rfl,u⟩:=hrel;by_cases J:k<(l:E)
  .have U:(k:a0)<(l:E):=by omega
   obtain⟨bb,X,x,y,rfl,F,-,-,c0,c1⟩:=O.at J;have I:=zh F;clear F;rcases he:(x.toList==o.toList)with _|_
   .go_wp2_with fail
    go_round
    case rel=>
     refine⟨k+1,by omega,by go_num,?_⟩;unfold R;intro z V;rw[bd,I]at V;rcases List.mem_append.1 V with h|h
     .exact u z h
     .simp at h;subst h;exact he
    case measure=>simp[ao];omega
   .have N:R (getP l o=y):=(by unfold R getP;rw[zCp (isKey o) _ _ _ I he u];rfl);go_wp2_with fail;refine ap (v:=.tuple #[y,.bool ak]) (by simp[aq,dp,go_sem]) rfl ?_;exact⟨⟨ak,by rw[N]⟩,af _ _⟩
  .obtain rfl:k=(l:E):=by omega
   have h:=u.out;rw[ay (by omega)]at h;have N:R (getP l o=()):=(by unfold R getP;rw[zHr _ _ h];rfl);go_wp2_with fail;refine ap (v:=.tuple #[(),.bool L]) (by simp[aq,dp,go_sem]) rfl ?_;exact⟨⟨L,by rw[N]⟩,af _ _⟩
theorem zKo (r:Rec)(h:D)(w:a1)(u:RecOk w r):
  ah ag 16 #[ae r.vals,h] w λe w'=>e=.returned (ab (getP r.props h))/\Fr No w w':=by
 have v:Fr No w (w.alloc (P r.vals 56)):=(af _ _).alloc _;have y:=u.props.no v (λ_=>id);unfold Rec.vals at *;clear u;go_enter Tryz.func16,Tryz.ntmps16;go_wp2_with fail;apply (zIQ _ _ _ h _ y).mono;rintro e z ⟨⟨b,rfl⟩,o⟩;go_wp2;go_ret;exact⟨rfl,v.step o zi⟩
structure ErrV (w:a1):Prop where
 s:∃ ev,w ⟨5,0,C⟩=Q ev/\(ev=.nilIface\/∃ te pe,ev=.iface te pe)
 r:∃ ev,w ⟨6,0,C⟩=Q ev/\(ev=.nilIface\/∃ te pe,ev=.iface te pe)
theorem ErrV.fr (h:ErrV w)(o:Fr S w w')(u:¬ S 5)(v:¬ S 6):ErrV w':=by
 obtain⟨y,z,A⟩:=h.s;obtain⟨F,I,J⟩:=h.r;exact⟨⟨y,o.cell z u,A⟩,⟨F,o.cell I v,J⟩⟩
theorem ErrV.no (h:ErrV w)(o:Fr No w w'):ErrV w':=h.fr o id id
def zAR (p d:Dev):D:=⟨(cf d.orig.data.toList (p.orig++⟨#[112]⟩).data.toList).toArray⟩
def partB (p d:Dev):ai a0:=match bj (zAR p d).data.toList with
 | .ok v=>if aw d.orig.data.toList (p.orig++⟨#[112]⟩).data.toList=ak/\1<=v/\v<=16/\(bo v.toNat)=(zAR p d).data.toList/\d.kind=2/\p.kind=2 then Q v else C
 | _=>C
def zAX (o:ai a0)(e:bi):Prop:=e=.returned (.tuple #[M G (o.getD 0),o.isSome])
theorem zHt (h:d.orig.size<=32):(zAR p d).size<=32:=by
 unfold zAR cf;have o:d.orig.data.toList.length<=32:=by rw[<-Lib.size_eq];exact h
 split;·simp only[co,da,List.length_drop];omega
 .simp only[co,da];exact o
def cutB (p d:Dev):Bool:=aw d.orig.data.toList (p.orig++⟨#[112]⟩).data.toList
theorem zPT (s q:D)(w:a1):ah ag 185 #[s,q] w λe w'=>e=.returned (.tuple #[ab ⟨(cf s.data.toList q.data.toList).toArray⟩,.bool (aw s.data.toList q.data.toList)])/\w=w':=
 (Tryz.strings_CutPrefix s q w).mono λe w' h=>⟨h.1,h.2.symm⟩
theorem zJ0 (p d:Dev)(w:a1):ah ag 185 #[d.orig,ab (p.orig++⟨#[112]⟩)] w λe w'=>e=.returned (.tuple #[ab (zAR p d),.bool (cutB p d)])/\w=w':=by
 unfold zAR cutB;exact zPT _ _ w
def AtoiR (s:D)(e:bi):Prop:=
 (∃ v,bj s.data.toList=.ok v/\e=.returned (.tuple #[M G v,.nilIface]))\/((∀ v,bj s.data.toList≠.ok v)/\∃ (k:a0) (te:TypeId) (N:E),e=.returned (.tuple #[k,.iface te (am (Q ⟨N,0,C⟩))]))
theorem zJG (s:D)(w:a1)(U:s.size<=1000)(u:ErrV w):ah ag 229 #[s] w λe w'=>AtoiR s e/\Fr No w w':=by
 obtain⟨y,z,A⟩:=u.s;obtain⟨F,I,J⟩:=u.r;rcases h:bj s.data.toList with v|_|_
 .apply (Tryz.strconv_Atoi_ok s (by omega) v h w).mono;rintro e w' ⟨rfl,O⟩;refine⟨.inl ⟨v,h,rfl⟩,?_⟩;rcases O with rfl|⟨t,rfl⟩
  .exact af _ _
  .exact bv (Lib.bytesWorld_below _ _ _)
 .apply (Any.strconv_Atoi_syntax Tryz.laysC172 s (by omega) h y w z A).mono;rintro e w' ⟨N,rfl,_,_,o⟩;exact⟨.inr ⟨λv e=>(by rw[h]at e;cases e),0,_,N,rfl⟩,bv o⟩
 .apply (Tryz.strconv_Atoi_range s (by omega) h F w I J).mono;rintro e w' ⟨N,rfl,_,_,o⟩;exact⟨.inr ⟨λv e=>(by rw[h]at e;cases e),_,_,N,rfl⟩,bv o⟩
theorem zKu (h:cutB p d=L):partB p d=none:=by
 unfold cutB at h;unfold partB;split;·rw[bh (by rw[h];simp)]
 .rfl
theorem zD6 (h:∀ v,bj (zAR p d).data.toList≠.ok v):partB p d=none:=by
 unfold partB;split;·rename_i v e;exact bn e (h v)
 .rfl
theorem zFi {v:a0}(h:bj (zAR p d).data.toList=.ok v):partB p d=if cutB p d=ak/\1<=v/\v<=16/\(bo v.toNat)=(zAR p d).data.toList/\d.kind=2/\p.kind=2 then Q v else none:=by
 unfold partB cutB;rw[h]
theorem zHW (p d:Dev)(w:a1)(hE:ErrV w)(hd:d.orig.size<=32)(hp:p.orig.size<=32):
  ah ag 193 #[ae p.vals,ae d.vals] w λe w'=>zAX (partB p d) e/\Fr No w w':=by
 have hx:Fr No w ((w.alloc (P p.vals 41)).alloc (P d.vals 41)):=((af _ _).alloc _).alloc _;have q2:=zP w (P p.vals 41) (P d.vals 41);have q3:=zT w (P p.vals 41) (P d.vals 41);have a9:=zHt (p:=p) hd;unfold al at *;go_enter Tryz.func193,Tryz.ntmps193;go_upto_region 1 with(fail)
 generalize (w.alloc (P _ 41)).alloc (P _ 41)=W0 at *;have a3:W0 ⟨w,3,C⟩=Q (ab p.orig):=zB q2 3;have a4:W0 ⟨(w:E)+1,3,C⟩=Q (ab d.orig):=zB q3 3;have b0:(p.orig++(⟨#[112]⟩:D)).size<=9223372036854775807:=by rw[ByteArray.size_append];show p.orig.size+1<=_;omega
 go_wp2_with fail;apply (zJ0 p d _).mono;rintro e w1 ⟨rfl,rfl⟩;have O:R (cutB p d=L->partB p d=C):=λh=>zKu h
 have U:R ((∀ v,bj (zAR p d).data.toList≠.ok v)->partB p d=C):=λh=>zD6 h
 have a5:R (∀ v,bj (zAR p d).data.toList=.ok v->partB p d=if cutB p d=ak/\1<=v/\v<=16/\(bo v.toNat)=(zAR p d).data.toList/\d.kind=2/\p.kind=2 then Q v else C):=λv h=>zFi h
 generalize zAR p d=dg at *;generalize cutB p d=cb at *;go_wp2_with fail;apply (zJG dg _ (by omega) (hE.no hx)).mono;rintro e w2 ⟨hR,y⟩;have a6:=y.heap q2 id;have a7:=y.heap q3 id;have z:=zh (hx.step y zi);clear a3 a4 q2 q3 hx y;have b1:w2 ⟨(w:E)+1,7,C⟩=Q (M G d.kind):=zB a7 7;have b2:w2 ⟨w,7,C⟩=Q (M G p.kind):=zB a6 7;cases cb with
 | false=>
  have u:R (partB p d=C):=O.out rfl;rcases hR with⟨v,I,rfl⟩|⟨I,k,te,N,rfl⟩
  .go_wp2;go_ret2;exact⟨by unfold zAX;rw[u];rfl,z⟩
  .go_wp2;go_ret2;exact⟨by unfold zAX;rw[u];rfl,z⟩
 | true=>
  rcases hR with⟨v,I,rfl⟩|⟨I,k,te,N,rfl⟩
  .have o:=zh (a5 v I);clear I;by_cases h1:v<1
   .have u:R (partB p d=C):=(by unfold R;rw[o,bh (by omega)]);go_wp2;go_ret2;exact⟨by unfold zAX;rw[u];rfl,z⟩
   by_cases b3:16<v
   .have u:R (partB p d=C):=(by unfold R;rw[o,bh (by omega)]);go_wp2;go_ret2;exact⟨by unfold zAX;rw[u];rfl,z⟩
   obtain⟨i,rfl⟩:=Int.eq_ofNat_of_zero_le (show 0<=v by omega);go_wp2_with fail;apply (Tryz.strconv_Itoa_small i (by omega) _).mono;rintro e w3 ⟨rfl,rfl⟩;obtain⟨it,J⟩:=ε (⟨(bo i).toArray⟩:D)
   rw[<-J];have V:R ((it.toList==dg.toList)=decide (bo i=dg.data.toList)):=by
    unfold R;rw[J,Bool.eq_iff_iff,beq_iff_eq,decide_eq_true_iff,ByteArray.toList_eq,ByteArray.toList_eq]
   have X:((i:a0).toNat)=i:=(by simp);have Y:=zh X;clear J X;rcases hie:(it.toList==dg.toList)with _|_
   .have u:R (partB p d=C):=by
     unfold R;rw[o,bh];rintro ⟨_,_,_,h,_⟩;rw[Y]at h;have:=V.out;rw[hie,decide_eq_true h]at this;cases this
    go_wp2;go_ret2;exact⟨by unfold zAX;rw[u];rfl,z⟩
   have a8:R (bo i=dg.data.toList):=by
    unfold R;have:=V.out;rw[hie]at this;exact of_decide_eq_true this.symm
   by_cases A:d.kind=2
   .have Z:(d.kind != 2)=false:=(by simpa using A);by_cases F:p.kind=2
    .have a2:(p.kind != 2)=false:=(by simpa using F);have u:R (partB p d=Q (i:a0)):=(by unfold R;rw[o,if_pos ⟨by trivial,by omega,by omega,by rw[Y];exact a8,A,F⟩]);go_wp2;go_ret2;exact⟨by unfold zAX;rw[u];rfl,z⟩
    .have a2:(p.kind != 2)=true:=(by simpa using F);have u:R (partB p d=C):=(by unfold R;rw[o,bh (λh=>F h.2.2.2.2.2)]);go_wp2;go_ret2;exact⟨by unfold zAX;rw[u];rfl,z⟩
   .have Z:(d.kind != 2)=true:=(by simpa using A);have u:R (partB p d=C):=(by unfold R;rw[o,bh (λh=>A h.2.2.2.2.1)]);go_wp2;go_ret2;exact⟨by unfold zAX;rw[u];rfl,z⟩
  .have u:R (partB p d=C):=U.out I;clear I;go_wp2;go_ret2;exact⟨by unfold zAX;rw[u];rfl,z⟩
def partOf (ds:m Dev)(n:a0):ai a0:=match look ds n with
 | none=>C
 | some d=>match look ds d.parent with
  | none=>C
  | some p=>partB p d
theorem zPu (a:ai aj)(o:E)(ds:m Dev)(y:E)(n:a0)(w:a1)(hl:Tr w y a o ds)(hE:ErrV w):
  ah ag 143 #[ae #[K a ds o],n] w λe w'=>zAX (partOf ds n) e/\Fr No w w':=by
 have hT:=hl.wf.1;have hx:Fr No w (w.alloc (P #[K a ds o] 48)):=(af _ _).alloc _;have q2:=zF w (P #[K a ds o] 48);go_enter Tryz.func143,Tryz.ntmps143;go_wp2_with fail;apply (zBm a o ds y n _ (hl.no hx)).mono;rintro e J ⟨X,N⟩;have Y:=N.heap q2 id;have F:=hx.step N zi;clear q2 hx N;rcases X with⟨h,rfl⟩|⟨d,z,A,la,h,rfl,-⟩
 .have Z:R (partOf ds n=C):=by unfold R partOf;rw[h]
  have I:Fr No J (J.alloc (P Dev.zero.vals 41)):=(af _ _).alloc _;have O:=I.heap Y id;have u:=F.step I zi;have c2:(J.alloc (P Dev.zero.vals 41)) ⟨w,0,C⟩=Q (K a ds o):=zB O 0;unfold al au at *;clear h;go_wp2_with fail;apply (zBm a o ds y 0 _ (hl.no u)).mono;rintro e w2 ⟨X,v⟩;rcases X with⟨h,rfl⟩|⟨d,z,A,la,h,rfl,-⟩
  .have Hf:=zh ((u.step v zi).alloc (P Dev.zero.vals 41));unfold al au at *;clear v u I h;go_wp2;go_ret2;exact⟨by unfold zAX;rw[Z];rfl,Hf⟩
  .rw[hT.zero]at h;cases h
 .have hd:=zAL h;have I:Fr No J (J.alloc (P ({ d with aa:=z,ac:=A }:Dev).vals 41)):=(af _ _).alloc _;have O:=I.heap Y id;have q6:=zF J (P ({ d with aa:=z,ac:=A }:Dev).vals 41);have u:=F.step I zi;have c2:(J.alloc (P ({ d with aa:=z,ac:=A }:Dev).vals 41)) ⟨w,0,C⟩=Q (K a ds o):=zB O 0;have a2:=zh h;have Hd:=zh hd.1;unfold al at *;clear h hd;go_wp2_with fail;apply (zBm a o ds y d.parent _ (hl.no u)).mono;rintro e w2 ⟨X,v⟩;rcases X with⟨h,rfl⟩|⟨p,U,V,lp,h,rfl,-⟩
  .have Z:R (partOf ds n=C):=by unfold R partOf;rw[a2.out];simp only;rw[h]
   have Hf:=zh ((u.step v zi).alloc (P Dev.zero.vals 41));unfold al au at *;clear v u I h;go_wp2;go_ret2;exact⟨by unfold zAX;rw[Z];rfl,Hf⟩
  .have Z:R (partOf ds n=partB p d):=by unfold R partOf;rw[a2.out];simp only;rw[h]
   have a6:=(zAL h).1;have hz:Fr No w2 (w2.alloc (P ({ p with aa:=U,ac:=V }:Dev).vals 41)):=(af _ _).alloc _;have a3:=hz.heap (v.heap q6 id) id;have a4:=(u.step v zi).step hz zi;obtain⟨d0,d1,d2,d3,d4,d5,d6,d7,d8,d9⟩:=cl10 a3;have hP:=zHW ({ p with aa:=U,ac:=V }:Dev) ({ d with aa:=z,ac:=A }:Dev) _ (hE.no a4) (hT.sz d Hd) (hT.sz p a6);have e:partB ({ p with aa:=U,ac:=V }:Dev) ({ d with aa:=z,ac:=A }:Dev)=partB p d:=rfl;rw[e]at hP;have HP:=zh hP;have a7:=zh a4;unfold al at *;clear hP e v u I hz h a3 q6 F;generalize partB p d=res at *;go_wp2_with fail;apply HP.mono;rintro e w3 ⟨he,a5⟩;unfold zAX at he;subst he;have Hf:=zh (a7.step a5 zi);clear a5;go_wp2;go_ret2;exact⟨by unfold zAX;rw[Z];rfl,Hf⟩
def zAP : D:=⟨#[99,111,110,116,101,110,116]⟩
theorem zPR (a:ai aj)(A:E)(l:m (D×D))(o:D)(w:a1)(O:Atts w a A l):
  ah ag 100 #[K a l A,o] w λe w'=>GotS (getP l o) e/\Fr No w w':=by
 have Y:=O.lenmax;go_enter Tryz.func100,Tryz.ntmps100;go_wp2_with fail;go_loopw [10] (λi wr=>∃ k:E,k<=(l:E)/\i=M G k/\R (∀ x∈l.take k,isKey o x=L)/\Fr No w wr) (λi _=>(l:E)-(ao i).toNat);case atStart=>exact⟨0,by omega,rfl,by unfold R;simp,af _ _⟩
 case round=>
  obtain⟨k,Z,rfl,v,u⟩:=hrel;by_cases J:k<(l:E)
  .have U:(k:a0)<(l:E):=by omega
   obtain⟨bb,X,x,y,ha,F,-,-,c0,c1⟩:=(O.no u (λ_=>id)).at J;have I:=zh F;clear F;rcases he:(x.toList==o.toList)with _|_
   .go_wp2;go_roundw;case rel=>
     refine⟨k+1,by omega,by go_num,?_,u.alloc _⟩;unfold R;intro z V;rw[bd,I]at V;rcases List.mem_append.1 V with h|h
     .exact v z h
     .simp at h;subst h;exact he
    case measure=>simp[ao];omega
   .have N:R (getP l o=y):=(by unfold R getP;rw[zCp (isKey o) _ _ _ I he v];rfl);go_wp2;go_ret2;exact⟨⟨ak,by rw[N];rfl⟩,u.alloc _⟩
  .obtain rfl:k=(l:E):=by omega
   have h:=v.out;rw[ay (by omega)]at h;have N:R (getP l o=()):=(by unfold R getP;rw[zHr _ _ h];rfl);go_wp2;go_ret2;exact⟨⟨L,by rw[N];rfl⟩,u⟩
theorem zMI (d:Dev)(l:m (D×D))(w:a1)(y:Atts w d.aa d.ac l)(o:d.an=(l:E)):
  ah ag 106 #[ae d.vals] w λe w'=>e=.returned (ab (getP l zAP))/\Fr No w w':=by
 obtain⟨F,h,z,A⟩:=zy w (P d.vals 41);have u:=zPR d.aa d.ac l zAP F (y.no z (λ_=>id));rw[<-o]at u;have J:=(DevB.of A).c9;unfold al at h ⊢;unfold zAP at u;clear A o y;have I:R (getP l zAP=getP l ⟨#[99,111,110,116,101,110,116]⟩):=rfl;rw[I];generalize getP l ⟨#[99,111,110,116,101,110,116]⟩=g at *;go_enter Tryz.func106,Tryz.ntmps106;go_upto_region 1 with(fail)
 rw[<-h];clear h;go_wp2_with fail;apply u.mono;rintro e N ⟨⟨b,rfl⟩,v⟩;clear u;go_wp2;go_ret;exact⟨rfl,z.step v zi⟩
def preB (s:D):Bool:=aw s.data.toList [109,100,45]||Lib.hasPrefix s.data.toList [111,112,101,110,45]||Lib.hasPrefix s.data.toList [108,118,45]
def virB (ds:m Dev)(n:a0):Bool:=match look ds n with
 | none=>L
 | some d=>(partOf ds n).isSome||(d.parent==0&&preB d.orig)
theorem zHL (h:E)(d:Dev)(s:D)(w:a1)(o:w.heap[h]?=Q (P d.vals 41)):
  ah ag 144 #[s,am (Q ⟨h,0,C⟩)] w λe w'=>e=.returned (.bool (aw d.orig.data.toList s.data.toList))/\w=w':=by
 have u:=(DevB.of o).c3;clear o;go_enter Tryz.func144,Tryz.ntmps144;go_wp2_with fail;apply (Tryz.strings_HasPrefix d.orig s _).mono;rintro e v ⟨rfl,rfl⟩;go_wp2;go_ret;exact⟨rfl,rfl⟩
theorem zOM (o b:E)(d:Dev)(w:a1)(I:w.heap[o]?=Q (P d.vals 41))(X:w.heap[b]?=Q (P #[ab ⟨#[109,100,45]⟩,ab ⟨#[111,112,101,110,45]⟩,ab ⟨#[108,118,45]⟩] 9)):
  ah ag 37 #[K (Q ⟨b,0,C⟩) 3 3,.func (.func 144) #[] #[am (Q ⟨o,0,C⟩)]] w λe w'=>e=.returned (.bool (preB d.orig))/\Fr No w w':=by
 obtain⟨e0,e1,e2⟩:=cl3 X;have Y:=zh (zHL o d ⟨#[109,100,45]⟩ w I);have Z:=zh (zHL o d ⟨#[111,112,101,110,45]⟩ w I);have H2:=zh (zHL o d ⟨#[108,118,45]⟩ w I);have J:R (preB d.orig=(aw d.orig.data.toList [109,100,45]||Lib.hasPrefix d.orig.data.toList [111,112,101,110,45]||Lib.hasPrefix d.orig.data.toList [108,118,45])):=rfl;generalize preB d.orig=pb at *;have N:R (ah ag 144 #[ab ⟨#[109,100,45]⟩,am (Q ⟨o,0,C⟩)] w λe w'=>e=.returned (.bool (aw d.orig.data.toList [109,100,45]))/\w=w'):=Y.out;have O:R (ah ag 144 #[ab ⟨#[111,112,101,110,45]⟩,am (Q ⟨o,0,C⟩)] w λe w'=>e=.returned (.bool (aw d.orig.data.toList [111,112,101,110,45]))/\w=w'):=Z.out;have U:R (ah ag 144 #[ab ⟨#[108,118,45]⟩,am (Q ⟨o,0,C⟩)] w λe w'=>e=.returned (.bool (aw d.orig.data.toList [108,118,45]))/\w=w'):=H2.out;clear Y Z H2 I X;generalize aw d.orig.data.toList [109,100,45]=p0 at *;generalize aw d.orig.data.toList [111,112,101,110,45]=p1 at *;generalize aw d.orig.data.toList [108,118,45]=p2 at *;refine(show ah ag 37 _ _ (λe w'=>e=.returned pb/\w'=w)from ?_).mono (λe w' h=>⟨h.1,by rw[h.2];exact af _ _⟩);have v:ah ag 75 #[K (Q ⟨b,0,C⟩) 3 3,.func (.func 144) #[] #[am (Q ⟨o,0,C⟩)]] w λe w'=>(∃ r:a0,e=.returned r/\decide (0<=r)=pb)/\w'=w:=by
  go_enter Tryz.func75,Tryz.ntmps75;go_wp2_with fail;go_loopw [8] (λi wr=>wr=w/\((i=M G 0)\/(i=M G 1/\p0=L)\/(i=M G 2/\p0=L/\p1=L)\/(i=M G 3/\p0=L/\p1=L/\p2=L))) (λi _=>3-(ao i).toNat);case atStart=>exact⟨rfl,.inl rfl⟩
  case round=>
   obtain⟨rfl,h⟩:=hrel;rcases h with rfl|⟨rfl,y⟩|⟨rfl,y,A⟩|⟨rfl,y,A,h2⟩
   .go_wp2_with fail;apply N.mono;rintro e V ⟨rfl,rfl⟩;cases hq:p0 with
    | true=>
     have z:R (pb=ak):=(by unfold R;rw[J,hq];rfl);clear hq;go_wp2;go_ret;exact⟨⟨0,rfl,by rw[z];rfl⟩,rfl⟩
    | false=>
     have F:=zh hq;clear hq;go_wp2;go_roundw;case rel=>exact⟨trivial,.inr (.inl ⟨rfl,F⟩)⟩
     case measure=>simp[ao]
   .have u:=zh y;clear y;go_wp2_with fail;apply O.mono;rintro e V ⟨rfl,rfl⟩;cases hq:p1 with
    | true=>
     have z:R (pb=ak):=(by unfold R;rw[J.out,hq];simp);clear hq;go_wp2;go_ret;exact⟨⟨1,rfl,by rw[z];rfl⟩,rfl⟩
    | false=>
     have F:=zh hq;clear hq;go_wp2;go_roundw;case rel=>exact⟨trivial,.inr (.inr (.inl ⟨rfl,u,F⟩))⟩
     case measure=>simp[ao]
   .have u:=zg2 y A;clear y A;go_wp2_with fail;apply U.mono;rintro e V ⟨rfl,rfl⟩;cases hq:p2 with
    | true=>
     have z:R (pb=ak):=(by unfold R;rw[J.out,hq];simp);clear hq;go_wp2;go_ret;exact⟨⟨2,rfl,by rw[z];rfl⟩,rfl⟩
    | false=>
     have F:=zh hq;clear hq;go_wp2;go_roundw;case rel=>exact⟨trivial,.inr (.inr (.inr ⟨rfl,u.1,u.2,F⟩))⟩
     case measure=>simp[ao]
   .have z:R (pb=L):=(by unfold R;rw[J,y,A,h2];rfl);clear y A h2;go_wp2;go_ret;exact⟨⟨-1,rfl,by rw[z];rfl⟩,rfl⟩
 clear e0 e1 e2;go_enter Tryz.func37,Tryz.ntmps37;go_wp2_with fail;apply v.mono;rintro e V ⟨⟨r,rfl,hr⟩,rfl⟩;have Hr:=zh hr;clear hr v;go_wp2;go_ret;exact⟨zL Hr,rfl⟩
end Go.Proofs.YtjoipgjdpnjjiaaGreatDoor
