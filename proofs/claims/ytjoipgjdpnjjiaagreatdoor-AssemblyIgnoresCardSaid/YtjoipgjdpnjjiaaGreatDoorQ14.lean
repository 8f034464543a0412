import Derived.Test.YtjoipgjdpnjjiaaGreatDoorQ13
namespace Go.Proofs.YtjoipgjdpnjjiaaGreatDoor
open Go.RowKit Go.Maps
set_option linter.unusedVariables false
set_option maxRecDepth 100000
set_option maxHeartbeats 8000000
open Dev renaming index->bq,zero->br
open Fr renaming refl->bf
open Go renaming maxLen->ak,Addr->ax,Calls->bd,World->be
open Go.Instr renaming lookup->cz
open Go.Lib renaming hasPrefix->da
open Go.Proofs renaming intOf->au,enters_of->cw
open Go.Proofs.Tryz renaming prog->ba,underlying120->dr
open Go.RowKit renaming Hid->a0
open Go.Value renaming slice->al
open Go.WalkArith renaming wf_i64->du
open IntKind renaming i64->ai
open Obj renaming cells->aw
open OnlyN renaming mk->ce
open Srcs renaming of_own->dm
open TreeOk renaming origin_none->dq
open Value renaming int->ag,string->ah,slice->aj,agg->ay,pointer->cf
open Vir renaming vals->cr
open _root_ renaming Nat->Q,ByteArray->B,List->T,Int->ae,if_neg->am,absurd->an,if_pos->aq,Option->ar,congrArg->bb,Bool->bc,decide_eq_true_eq->bm,beq_iff_eq->cu,beq_eq_false_iff_ne->dx
open _root_.Bool renaming false->H,true->af,and_eq_true->ap,or_eq_true->cg,not_eq_true'->cx,or_eq_false_iff->cy
open _root_.ByteArray renaming ext->bg,empty->bi
open _root_.List renaming mem_of_getElem?->az,length_map->bh,any_eq_false->bj,length->bn,map_append->bo,mem_map_of_mem->bp,getElem?_eq_getElem->bs,getElem?_map->bt,getElem?_of_mem->bu,map_take->bv,mem_cons_of_mem->bw,mem_of_find?_eq_some->bx,take_append_drop->bz,drop_eq_getElem_cons->ci,find?_some->cj,map_cons->ck,mem_of_mem_take->cp,prefix_append->cq,any_eq_true->db,append_assoc->dc,find?_eq_none->dd,getElem?_take_of_lt->de,length_append->df,length_filter_le->dg,length_take->dh,pairwise_map->dj,prefix_refl->dk
open _root_.Nat renaming le_trans->cd,le_refl->dl
open _root_.Option renaming some->G,none->ac
variable{ds L l:T Dev}{n b b' z:ae}{f:ae->ae}{M:T Vir}{ct J:ae->B}{d D:Dev}{x c:Ct}{o p s:B}{k j:Q}{v:Vir}{u w:be}{tx:Dev->B}{E:T B}
theorem zJi (h:Ren f):partOf (ds.map (ren f)) (f n)=partOf ds n:=by
 unfold partOf;rw[zBf h];cases look ds n with
 | none=>rfl
 | some d=>
  show (match look (ds.map (ren f)) (f d.parent)with|none=>ac|some p=>partB p (ren f d))=(match look ds d.parent with|none=>ac|some p=>partB p d)
  rw[zBf h];cases look ds d.parent<;>rfl
theorem zML (h:Ren f):virB (ds.map (ren f)) (f n)=virB ds n:=by
 unfold virB;rw[zBf h,zJi h];cases look ds n with
 | none=>rfl
 | some d=>
  show ((partOf ds n).isSome||(f d.parent==0&&preB d.orig))=_
  rw[h.beq0]
theorem zDD {α β:Type}(g:β->α->β)(s:β):∀ l:T α,(∀ x∈l,g s x=s)->l.foldl g s=s
 | [],_=>rfl
 | x::t,h=>by rw[List.foldl_cons,h x (by simp)];exact zDD g s t (λy o=>h y (by simp[o]))
theorem zGh (h:∀ d∈ds,virB ds d.index=af->inW M (plc ds d.parent) d.orig=af){pre:T (ae×Dev)}(u:∀ x∈pre,x.2∈ds):remF M ds pre=(ds.map strip,[]):=by
 unfold remF;refine zDD _ _ _ λx v=>?_
 show zAN M (ds.map strip,[]) x.2=_
 unfold zAN;rw[am];dsimp only;rw[zAM,zAI];intro o;rw[ap]at o;rw[h x.2 (u x v) o.1]at o;exact an o.2 (by simp)
theorem zGc (h:∀ d∈L,virB L d.index=af->ct d.index=wcF M (plc L d.parent,d.orig))(o:T OpA)(k:Q):setF M L ct o k=(ct,o):=by
 unfold setF;refine zDD _ _ _ λd v=>?_
 unfold zAZ;rw[am];intro u;rw[ap]at u;rw[h d (cp v) u.1]at u;exact an u.2 (by simp)
theorem zHC (u:Q)(a:ar ax)(A:Q)(ds:T Dev)(ct:ae->B)(M:T Vir)(N:ar ax)(O:Q)(w:be)(hl:Tr w u a A ds)(hn:(ds:Q)<=250)(hE:Env w)(U:TrT w a ds)(hC:CtO w ds ct)(hM:Virs w N O M)(V:(M:Q)<=250)(X:DistP M)(Y:∀ v∈M,v.q.size<=100000/\v.o.size<=100000)(Z:u<=(w:Q))
  (a2:∀ d∈ds,d.kind=2) (hW:TreeWf (ds.map strip)) (hS:SetOk M (ds.map strip) ct)
  (h1:∀ d∈ds,virB ds d.index=af->inW M (plc ds d.parent) d.orig=af) (h2:∀ d∈ds,virB ds d.index=af->ct d.index=wcF M (plc ds d.parent,d.orig))
  (h3:∀ v∈M,(∃ p,ParIs (ds.map strip) v.q p)/\∃ dt,(ds.map strip).find? (atP (ds.map strip) (v.q++(⟨#[47]⟩:B)++v.o))=G dt):
  bd ba 31 #[ay #[aj a ds A],aj N M O] w λe w'=>(∃ (av:ar ax) (cv:Q),e=.returned (aj av 0 cv))/\Fr No w w':=by
 have F:∀ pre:T (ae×Dev),pre <+: revR ds->remF M ds pre=(ds.map strip,[]):=λpre I=>zGh h1 λx hx=>zB4 (I.subset hx)
 have hr:=F _ (dk _);have a3:∀ d∈ds.map strip,virB (ds.map strip) d.index=af->ct d.index=wcF M (plc (ds.map strip) d.parent,d.orig):=λd hd hv=>by
  obtain⟨y,hy,rfl⟩:=List.mem_map.1 hd;rw[zAM]at hv;rw[zAI];exact h2 y hy hv
 have hR:RemOk M ds:=λpre x I=>by
  rw[F pre ((cq pre [x]).trans I),F _ I];have hm:x.2∈ds:=zB4 (I.subset (by simp));have hk:=zo hW.ok.nd (d:=strip x.2) (bp hm);exact⟨hW,hW,strip x.2,hk⟩
 refine(zJI u a A ds ct M N O w hl hn hE U hC hM V X Y Z hR a2 (by rw[hr];exact hS) (λj L c z=>L=ds.map strip/\z=[]) (by rw[hr];exact⟨rfl,by rw[zGc a3]⟩) (λj v L c z hj h=>?_) (λj v L c z L' c' a6 hj h hs=>?_)).mono ?_
 .obtain⟨rfl,rfl⟩:=h;obtain⟨⟨p,I⟩,J⟩:=h3 v (az hj);exact⟨by rw[bh];exact hn,by simp,p,I,.inl J⟩
 .obtain⟨rfl,rfl⟩:=h;obtain⟨_,dt,J⟩:=h3 v (az hj);rcases hs with⟨_,rfl,_,rfl⟩|⟨a4,_⟩
  .exact⟨rfl,rfl⟩
  .rw[a4]at J;cases J
 .rintro e w' ⟨⟨L,c,z,av,cv,⟨_,rfl⟩,rfl,_⟩,a5⟩;exact⟨⟨av,cv,rfl⟩,a5⟩
theorem zNw:(∀ (k:Q) (d:Dev),l[k]?=G d->d.parent=0\/∃ (j:Q) (e:Dev),j<k/\l[j]?=G e/\e.index=d.parent)↔∀ (a:T Dev) (d:Dev) (b:T Dev),l=a++d::b->d.parent=0\/∃ e∈a,e.index=d.parent:=by
 constructor
 .rintro h a d b rfl;rcases h (a:Q) d (by simp)with v|⟨j,e,o,A,y⟩
  .exact .inl v
  .rw[List.getElem?_append_left o]at A;exact .inr ⟨e,az A,y⟩
 .intro h k d F;obtain⟨I,z⟩:=List.getElem?_eq_some_iff.1 F;have e:l=l.take k++d::l.drop (k+1):=by
   rw[<-z,<-ci I,bz]
  rcases h _ _ _ e with v|⟨x,J,y⟩
  .exact .inl v
  .obtain⟨j,o⟩:=bu J;have u:j<k:=(by have:=(List.getElem?_eq_some_iff.1 o).1;rw[dh]at this;omega);rw[de u]at o;exact .inr ⟨j,x,u,o,y⟩
structure SubF (ds:T Dev)(q:Dev->bc):Prop where
 ok:TreeOk ds
 cl:∀ d∈ds,q d=af->∀ p∈ds,p.index=d.parent->q p=af
section
variable {ds:T Dev}{q:Dev->bc}
theorem SubF.treeOk (h:SubF ds q):TreeOk (ds.filter q):=by
 refine⟨h.ok.nd.sublist (List.filter_sublist.map _),λd v=>h.ok.ix d (List.mem_filter.1 v).1,zNw.2 λa d b e=>?_,λd v=>h.ok.nm d (List.mem_filter.1 v).1⟩;obtain⟨a1,r,z,J,N⟩:=List.filter_eq_append_iff.1 e;obtain⟨O,U,o,A,V,Y⟩:=List.filter_eq_cons_iff.1 N;rcases zNw.1 h.ok.pa (a1++O) d U (by rw[z,o,dc])with X|⟨x,u,I⟩
 .exact .inl X
 .refine .inr ⟨x,?_,I⟩;have v:d∈ds:=by rw[z,o];simp
  have F:x∈ds:=by rw[z,o];rcases List.mem_append.1 u with h|h<;>simp[h]
  have y:=h.cl d v V x F I;rcases List.mem_append.1 u with u|u
  .rw[<-J];exact List.mem_filter.2 ⟨u,y⟩
  .exact an y (A x u)
theorem SubF.look (h:SubF ds q)(o:d∈ds)(u:q d=af):look (ds.filter q) d.index=G d:=zo h.treeOk.nd (List.mem_filter.2 ⟨o,u⟩)
theorem SubF.none (h:Go.Proofs.YtjoipgjdpnjjiaaGreatDoor.look ds n=ac):Go.Proofs.YtjoipgjdpnjjiaaGreatDoor.look (ds.filter q) n=none:=zx.2 λd o=>zx.1 h d (List.mem_filter.1 o).1
def Stay (ds:T Dev)(q:Dev->bc)(n:ae):Prop:=look ds n=ac\/∃ d∈ds,d.index=n/\q d=af
theorem SubF.stay (h:SubF ds q)(o:Stay ds q n):Go.Proofs.YtjoipgjdpnjjiaaGreatDoor.look (ds.filter q) n=Go.Proofs.YtjoipgjdpnjjiaaGreatDoor.look ds n:=by
 rcases o with o|⟨d,u,rfl,v⟩
 .rw[o];exact SubF.none o
 .rw[h.look u v,h.ok.lk u]
theorem SubF.par (h:SubF ds q)(v:d∈ds)(y:q d=af):Stay ds q d.parent:=by
 cases e:Go.Proofs.YtjoipgjdpnjjiaaGreatDoor.look ds d.parent with
 | none=>exact .inl e
 | some p=>
  obtain⟨o,u⟩:=zAL e;exact .inr ⟨p,o,u,h.cl d v y p o u⟩
theorem SubF.ch (h:SubF ds q)(z:Ch ds n l):Stay ds q n->Ch (ds.filter q) n l:=by
 induction z with
 | nil o=>exact λ_=>.nil (SubF.none o)
 | @cons n d l o t A=>
  intro u;obtain⟨F,J⟩:=zAL o;have v:q d=true:=by
   rcases u with u|⟨e,I,y,v⟩
   .rw[u]at o;cases o
   .have:=h.ok.lk I;rw[y,o]at this;cases this;exact v
  exact .cons (by rw[h.stay u];exact o) (A (h.par F v))
theorem SubF.chain (h:SubF ds q)(o:Stay ds q n):chain (ds.filter q) n=Go.Proofs.YtjoipgjdpnjjiaaGreatDoor.chain ds n:=zCS h.treeOk (h.ch (h.ok.chn0 n) o)
theorem SubF.origin (h:SubF ds q)(o:Stay ds q n):origin (ds.filter q) n=Go.Proofs.YtjoipgjdpnjjiaaGreatDoor.origin ds n:=by unfold Go.Proofs.YtjoipgjdpnjjiaaGreatDoor.origin;rw[h.chain o]
theorem SubF.plc (h:SubF ds q)(o:Stay ds q n):plc (ds.filter q) n=Go.Proofs.YtjoipgjdpnjjiaaGreatDoor.plc ds n:=by unfold Go.Proofs.YtjoipgjdpnjjiaaGreatDoor.plc;rw[h.stay o,h.origin o]
theorem SubF.mem (h:SubF ds q)(o:d∈ds.filter q):Stay ds q d.index:=.inr ⟨d,(List.mem_filter.1 o).1,rfl,(List.mem_filter.1 o).2⟩
theorem SubF.memP (h:SubF ds q)(o:d∈ds.filter q):Stay ds q d.parent:=h.par (List.mem_filter.1 o).1 (List.mem_filter.1 o).2
theorem SubF.vir (h:SubF ds q)(o:d∈ds.filter q):virB (ds.filter q) d.index=virB ds d.index:=by
 have u:=h.stay (h.mem o);have v:=h.stay (h.memP o);have y:=h.ok.lk (List.mem_filter.1 o).1;unfold virB partOf;rw[u,y];dsimp only;rw[v]
theorem SubF.wf (h:SubF ds q)(u:TreeWf ds):TreeWf (ds.filter q):=by
 refine⟨h.treeOk,λd o e v y=>?_,λd o=>?_⟩
 .rw[h.origin (h.mem o),h.origin (h.mem v)]at y;exact u.uo d (List.mem_filter.1 o).1 e (List.mem_filter.1 v).1 y
 .rw[h.origin (h.mem o)];exact u.dp d (List.mem_filter.1 o).1
end
theorem zHP {n:ae}{d:Dev}:∀ {l:T Dev} {R:ae->bc},R d.parent=af->d∈l->d∈subL n l R
 | [],_,_,h=>by cases h
 | x::t,R,hR,h=>by
  rcases hb:(x.index==n||R x.parent)with _|_
  .rw[zA9 hb];rcases List.mem_cons.1 h with h|h
   .subst h;rw[hR,Bool.or_true]at hb;cases hb
   .exact zHP hR h
  .rw[zBV hb];rcases List.mem_cons.1 h with h|h
   .subst h;simp
   .refine bw _ (zHP ?_ h);unfold upd;split;·rfl
    .exact hR
theorem zHO {n:ae}{p d:Dev}(u:d.parent=p.index):∀ {l:T Dev} {R:ae->bc},l.Pairwise (λa b=>a.parent≠b.index)->(∀ x∈l,x.parent≠x.index)->p∈subL n l R->d∈l->d∈subL n l R
 | [],_,_,_,_,h=>by cases h
 | x::t,R,J,A,o,h=>by
  obtain⟨N,F⟩:=List.pairwise_cons.1 J;have I:∀ y∈t,y.parent≠y.index:=λy O=>A y (by simp[O])
  have v:p∈t->d∈t:=λz=>by
   rcases List.mem_cons.1 h with h|h
   .subst h;exact an u (N p z)
   .exact h
  rcases hb:(x.index==n||R x.parent)with _|_
  .rw[zA9 hb]at o ⊢;exact zHO u F I o (v (zBW o))
  .rw[zBV hb]at o ⊢;rcases List.mem_cons.1 o with o|o
   .subst o;rcases List.mem_cons.1 h with h|h
    .subst h;exact an u (A d (by simp))
    .refine bw _ (zHP ?_ h);unfold upd;rw[aq u]
   .exact bw _ (zHO u F I o (v (zBW o)))
theorem zGW {n:ae}{b:T Dev}:∀ {a:T Dev},(∀ d∈a,d.index≠n)->subL n (a++b) (λ_=>H)=subL n b (λ_=>H)
 | [],_=>rfl
 | x::t,h=>by
  rw[List.cons_append,zA9 (by simpa using h x (by simp))];exact zGW λd o=>h d (by simp[o])
theorem zDq {n:ae}{d:Dev}(o:d.index≠n)(u:d.parent=0):∀ {l:T Dev} {R:ae->bc},(∀ x∈l,x.index≠0)->R 0=H->d∉subL n l R
 | [],_,_,_,h=>by cases h
 | x::t,R,v,z,h=>by
  rcases hb:(x.index==n||R x.parent)with _|_
  .rw[zA9 hb]at h;exact zDq o u (λy A=>v y (by simp[A])) z h
  .rw[zBV hb]at h;rcases List.mem_cons.1 h with h|h
   .subst h;rw[u,z,Bool.or_false]at hb;exact o (by simpa using hb)
   .refine zDq o u (λy A=>v y (by simp[A])) ?_ h;unfold upd;rw[am (λe=>v x (by simp) e.symm)];exact z
theorem TreeOk.pw (h:TreeOk ds):ds.Pairwise (λa b=>a.parent≠b.index)/\∀ x∈ds,x.parent≠x.index:=by
 have o:∀ (i j:Q) (d e:Dev),ds[i]?=G d->ds[j]?=G e->i<=j->d.parent≠e.index:=λi j d e I A u J=>by
  have N:=(h.ix e (az A)).1;rcases h.pa i d I with F|⟨k,x,v,y,z⟩
  .omega
  .have F:(ds.map bq)[k]?=G e.index:=by rw[bt,y];show G x.index=_;rw[z,J]
   have O:(ds.map bq)[j]?=G e.index:=(by rw[bt,A];rfl);obtain⟨U,V⟩:=List.getElem?_eq_some_iff.1 F;obtain⟨X,Y⟩:=List.getElem?_eq_some_iff.1 O;exact List.pairwise_iff_getElem.1 h.nd k j U X (by omega) (by rw[V,Y])
 refine⟨List.pairwise_iff_getElem.2 λi j Z hj u=>o i j _ _ (bs Z) (bs hj) (by omega),λx y=>?_⟩;obtain⟨k,v⟩:=bu y;exact o k k x x v v (dl _)
def keepB (n:ae)(ds:T Dev)(d:Dev):Bool:=!ixs (subL n ds (λ_=>H)) d.index
theorem zFA (h:d∈subL n ds (λ_=>H)):keepB n ds d=false:=by
 unfold keepB ixs;rw[Bool.not_eq_false',db];exact⟨d,h,by simp⟩
theorem zEI (u:TreeOk ds)(z:d∈ds)(h:d∉subL n ds (λ_=>H)):keepB n ds d=true:=by
 unfold keepB ixs;rw[cx,bj];intro x v;have o:=zBW v;intro e;have A:x.index=d.index:=by simpa using e
 have y:=u.lk o;rw[A,u.lk z]at y;cases y;exact h v
theorem TreeOk.subF (h:TreeOk ds):SubF ds (keepB n ds):=by
 refine⟨h,λd v o p y z=>?_⟩;by_cases u:p∈subL n ds (λ_=>H)
 .have:=zHO z.symm h.pw.1 h.pw.2 u v;rw[zFA this]at o;cases o
 .exact zEI h y u
theorem zBp (n:ae)(ds:T Dev):remL n ds=ds.filter (keepB n ds):=rfl
theorem zJd {a b:T Dev}(o:TreeOk (a++b))(h:∀ d∈a,d.index≠n):∃ b',remL n (a++b)=a++b'/\b'.Sublist b:=by
 refine⟨b.filter (keepB n (a++b)),?_,List.filter_sublist⟩;rw[zBp,List.filter_append]
 congr 1
 rw[List.filter_eq_self];intro d u;refine zEI o (by simp[u]) λv=>?_
 rw[zGW h]at v;have y:=zBW v;have:=List.nodup_append.1 (by have:=o.nd;rwa [bo]at this);exact this.2.2 d.index (bp u) d.index (bp y) rfl
theorem zGg (A:TreeOk ds)(y:d∈remL n ds):d.index≠n:=by
 intro e;have o:∀ (l:T Dev) (R:ae->bc),d∈l->d∈subL n l R:=by
  intro l
  induction l with
  | nil=>intro R h;cases h
  | cons x t u=>
   intro R h;rcases hb:(x.index==n||R x.parent)with _|_
   .rw[zA9 hb];rcases List.mem_cons.1 h with h|h
    .subst h;rw[e]at hb;simp at hb
    .exact u R h
   .rw[zBV hb];rcases List.mem_cons.1 h with h|h
    .subst h;simp
    .exact bw _ (u _ h)
 obtain⟨z,v⟩:=List.mem_filter.1 y;rw[show (!ixs (subL n ds (λ_=>H)) d.index)=keepB n ds d from rfl,zFA (o ds _ z)]at v;cases v
theorem zGf (h:TreeOk ds)(o:d∈ds)(u:d.parent=0)(v:d.index≠n):d∈remL n ds:=
 List.mem_filter.2 ⟨o,zEI h o (zDq v u (λx y=>by have:=(h.ix x y).1;omega) rfl)⟩
def rootN : T B:=[⟨#[115,100,98]⟩,⟨#[115,100,99]⟩,⟨#[115,100,100]⟩,⟨#[115,100,101]⟩,⟨#[109,100,45,114]⟩,⟨#[109,100,45,115]⟩,⟨#[111,112,101,110,45,99]⟩,⟨#[111,112,101,110,45,100]⟩,⟨#[108,118,45,118,45,49]⟩,⟨#[108,118,45,118,45,50]⟩,⟨#[115,100,97]⟩,⟨#[115,100,122]⟩]
def dskN : T B:=[⟨#[115,100,98]⟩,⟨#[115,100,99]⟩,⟨#[115,100,100]⟩,⟨#[115,100,101]⟩,⟨#[115,100,97]⟩,⟨#[115,100,122]⟩]
def parN (n:B):T B:=[partT n 1,partT n 2]
def allN : T B:=rootN++rootN.flatMap parN
def eqB (x y:B):Bool:=x.data.toList==y.data.toList
theorem zAD {x y:B}:eqB x y=af↔x=y:=by
 unfold eqB;rw[cu];exact⟨λh=>bg (Array.toList_inj.1 h),λh=>by rw[h]⟩
def isDk (o:B):Bool:=dskN.any (eqB o)
theorem zIk:isDk o=af↔o∈dskN:=by
 unfold isDk;rw[db];exact⟨λ⟨x,u,v⟩=>by rw[zAD.1 v];exact u,λh=>⟨o,h,zAD.2 rfl⟩⟩
def parOf (o:B):ar B:=rootN.find? λn=>(parN n).any (eqB o)
def orgOf (o:B):T B:=match parOf o with|some n=>[n,o] | none=>[o]
def zNB (a:ar B)(b:B):Bool:=match a with|some x=>eqB x b|none=>H
theorem zAh {n:B}(u:n∈rootN)(v:o∈parN n):parOf o=G n:=by
 have h:=List.all_eq_true.1 (List.all_eq_true.1 (show (rootN.all λn=>(parN n).all λo=>zNB (parOf o) n)=af by kernel_rfl) n u) o v;cases e:parOf o with
 | none=>rw[e]at h;cases h
 | some x=>rw[e]at h;rw[zAD.1 h]
theorem zBc {n:B}(o:n∈rootN):parOf n=none:=by
 have h:=List.all_eq_true.1 (show (rootN.all λn=>(parOf n).isNone)=af by kernel_rfl) n o
 simpa using h
theorem zKv {n:B}(u:n∈rootN)(v:o∈parN n):isDk o=false:=by
 have h:=List.all_eq_true.1 (List.all_eq_true.1 (show (rootN.all λn=>(parN n).all λo=>!isDk o)=af by kernel_rfl) n u) o v
 simpa using h
theorem zNO (h:isDk o=af):o∈rootN:=by
 have u:=List.all_eq_true.1 (show (dskN.all λn=>rootN.any (eqB n))=af by kernel_rfl) o (zIk.1 h);obtain⟨x,v,y⟩:=List.any_eq_true.1 u;rw[zAD.1 y];exact v
theorem zMm {n:B}(o:n∈rootN):preB n=!isDk n:=by
 have h:=List.all_eq_true.1 (show (rootN.all λn=>preB n==!isDk n)=af by kernel_rfl) n o
 simpa using h
theorem zMs {p:Dev}(u:p.orig∈rootN)(v:d.orig∈parN p.orig)(y:p.kind=2)(z:d.kind=2):(partB p d).isSome=true:=by
 have h:=List.all_eq_true.1 (List.all_eq_true.1 (show (rootN.all λn=>(parN n).all λo=>(partB { br with orig:=n,kind:=2 } { br with orig:=o,kind:=2 }).isSome)=af by kernel_rfl) _ u) _ v;have e:partB p d=partB { br with orig:=p.orig,kind:=2 } { br with orig:=d.orig,kind:=2 }:=by
  unfold partB;rw[y,z];rfl
 rw[e];exact h
def nmOk (o:B):Bool:=isName o&&zEK (nodeOf o)&&eqB (nodeOf o) o&&!(o.data.toList.contains 47)
theorem zQf (h:o∈allN):nmOk o=true:=List.all_eq_true.1 (show allN.all nmOk=af by kernel_rfl) o h
def plOk (o:B):Bool:=zl (pathOf (orgOf o))&&decide (depthB (pathOf (orgOf o))<=7)
theorem zOs (h:o∈allN):plOk o=true:=List.all_eq_true.1 (show allN.all plOk=af by kernel_rfl) o h
theorem zKw {n:B}(u:n∈rootN)(v:o∈parN n):pathO (pathOf [n]) (pathOf [n,o])<0:=by
 have h:=List.all_eq_true.1 (List.all_eq_true.1 (show (rootN.all λn=>(parN n).all λo=>decide (pathO (pathOf [n]) (pathOf [n,o])<0))=af by kernel_rfl) n u) o v
 simpa using h
theorem zCD {n:B}(h:n∈rootN):n∈allN:=List.mem_append.2 (.inl h)
theorem zLF {n:B}(h:n∈rootN)(u:o∈parN n):o∈allN:=List.mem_append.2 (.inr (List.mem_flatMap.2 ⟨n,h,u⟩))
theorem zAS (h:o∈allN):isName o=af/\zEK (nodeOf o)=af/\nodeOf o=o/\∀ b∈o.data.toList,b≠47:=by
 have:=zQf h;unfold nmOk at this;simp only[ap,cx]at this;refine⟨this.1.1.1,this.1.1.2,zAD.1 this.1.2,λb u e=>?_⟩;subst e;rw[List.contains_iff_mem.2 u]at this;exact an this.2 (by simp)
theorem zJt {l:T UInt8}:∀ {s t:T UInt8},da t (s++l)=af->∀ x∈l,x∈t:=by
 intro s t h x o;unfold da at h;rw[List.isPrefixOf_iff_prefix]at h;exact h.subset (List.mem_append.2 (.inr o))
theorem zOC (h:p∈allN):benB o p=false:=by
 rw[<-Bool.not_eq_true];intro u;unfold benB at u;rw[ByteArray.data_append]at u;rw[Array.toList_append]at u;exact(zAS h).2.2.2 47 (zJt u 47 (by simp)) rfl
def fsC (i l:B):Ct:=.mk 1 i l 0 0 0 []
def raC (i:B)(s t e:ae)(c:Ct):Ct:=.mk 2 i () s t e [c]
def crC (i:B)(c:Ct):Ct:=.mk 3 i () 0 0 0 [c]
def pvC (s t:ae)(l:T Ct):Ct:=.mk 4 ⟨#[118]⟩ () s t 0 l
def taC (i:B)(l:T Ct):Ct:=.mk 5 i () 0 0 0 l
def cF : Ct:=fsC ⟨#[102]⟩ ()
def cG : Ct:=fsC ⟨#[103]⟩ ()
def cH : Ct:=fsC ⟨#[104]⟩ ()
def cX : Ct:=fsC ⟨#[120]⟩ ()
def cY : Ct:=fsC ⟨#[121]⟩ ()
def cO : Ct:=fsC ⟨#[111,108,100]⟩ ()
def cGL : Ct:=fsC ⟨#[103]⟩ ⟨#[76]⟩
def cU : Ct:=taC ⟨#[117]⟩ [cF]
def rX : Ct:=raC ⟨#[114]⟩ 1 2 1 cX
def rU1 : Ct:=raC ⟨#[114]⟩ 1 2 1 cU
def rU2 : Ct:=raC ⟨#[114]⟩ 2 2 1 cU
def rF : Ct:=raC ⟨#[114]⟩ 1 1 1 cF
def sY : Ct:=raC ⟨#[115]⟩ 1 3 2 cY
def dP : Ct:=pvC 1 1 [sY]
def rX1 : Ct:=raC ⟨#[114]⟩ 1 1 1 cX
def ctsL : T Ct:=[cF,cGL,raC ⟨#[114]⟩ 1 2 1 cF,raC ⟨#[114]⟩ 2 2 1 cF,crC ⟨#[99]⟩ cG,pvC 1 1 [cF,crC ⟨#[99]⟩ cH],taC ⟨#[116]⟩ [cF,crC ⟨#[99]⟩ rX],taC ⟨#[116]⟩ [rU1,rU2],raC ⟨#[114]⟩ 1 1 1 rF,pvC 1 2 [cF],pvC 2 2 [cF],crC ⟨#[100]⟩ dP,raC ⟨#[115]⟩ 2 3 2 cY,raC ⟨#[115]⟩ 3 3 2 cY,
 cG,cH,cX,cY,cO,cU,crC ⟨#[99]⟩ cH,rX,crC ⟨#[99]⟩ rX,rU1,rU2,rF,sY,dP,rX1,taC ⟨#[116]⟩ [rX1]]
def zED : B:=⟨#[110,111,110,115,101,110,115,101]⟩
def InU (s:B):Prop:=s=()\/s=zED\/∃ c∈ctsL,s=c.txt
def NoTab (s:B):Prop:=∀ c,parseC s=G c->c.kind≠5
theorem zD7: parseC ()=G Ct.zero:=by kernel_rfl
theorem zJk: parseC zED=none:=by kernel_rfl
theorem zLk: ∀ c∈ctsL,c.valid=af/\c.txt.size<=256/\attrOk (zM,c.txt)=af/\1<=c.txt.size:=by
 have h:∀ c∈ctsL,(c.valid&&decide (c.txt.size<=256)&&attrOk (zM,c.txt)&&decide (1<=c.txt.size))=true:=List.all_eq_true.1 (by kernel_rfl);intro c o;have:=h c o;simp only[ap,bm]at this;exact⟨this.1.1.1,this.1.1.2,this.1.2,this.2⟩
theorem zG4 (h:c∈ctsL):parseC c.txt=G c:=by
 obtain⟨o,u,_⟩:=zLk c h;exact(zBJ _ _).2 ⟨u,o,(zCI c).symm⟩
theorem InU.parse (h:InU s)(o:parseC s=G c)(v:c.kind≠0):c∈ctsL/\s=c.txt:=by
 rcases h with rfl|rfl|⟨d,u,rfl⟩
 .rw[zD7]at o;cases o;exact an rfl v
 .rw[zJk]at o;cases o
 .rw[zG4 u]at o;cases o;exact⟨u,rfl⟩
def inOk (c:Ct):Bool:=c.inner.all (λx=>ctsL.any λy=>decide (x.txt.data.toList=y.txt.data.toList)) &&
 (if c.kind=2 then eqB c.id ⟨#[114]⟩||eqB c.id ⟨#[115]⟩else if c.kind=3 then eqB c.id ⟨#[99]⟩||eqB c.id ⟨#[100]⟩else if c.kind=4 then eqB c.id ⟨#[118]⟩&&decide ((c.inner:Q)<=2)else if c.kind=5 then decide ((c.inner:Q)<=2)&&c.inner.all (λx=>decide (x.kind≠5))&&c.inner.all (λx=>ctsL.any λy=>decide (x.txt.data.toList=y.txt.data.toList)&&decide (y.kind≠5))else af)
theorem zLO (h:c∈ctsL):inOk c=true:=List.all_eq_true.1 (show ctsL.all inOk=af by kernel_rfl) c h
theorem zPE {p:Ct->bc}(h:(ctsL.any λy=>decide (x.txt.data.toList=y.txt.data.toList)&&p y)=af):∃ y∈ctsL,x.txt=y.txt/\p y=true:=by
 obtain⟨y,o,h⟩:=List.any_eq_true.1 h;rw[ap,bm]at h;exact⟨y,o,bg (Array.toList_inj.1 h.1),h.2⟩
theorem zG5 (h:c∈ctsL)(o:x∈c.inner):InU x.txt:=by
 have:=zLO h;unfold inOk at this;rw[ap]at this;have u:=List.all_eq_true.1 this.1 x o;obtain⟨y,v,z⟩:=List.any_eq_true.1 u;exact .inr (.inr ⟨y,v,bg (Array.toList_inj.1 (by simpa using z))⟩)
theorem zQL (h:c∈ctsL)(o:c.kind=2):c.id=⟨#[114]⟩\/c.id=⟨#[115]⟩:=by
 have:=zLO h;unfold inOk at this;rw[ap,aq o,cg]at this;exact this.2.imp zAD.1 zAD.1
theorem zQp (h:c∈ctsL)(o:c.kind=3):c.id=⟨#[99]⟩\/c.id=⟨#[100]⟩:=by
 have:=zLO h;unfold inOk at this;rw[ap,am (by omega),aq o,cg]at this;exact this.2.imp zAD.1 zAD.1
theorem zQo (h:c∈ctsL)(o:c.kind=4):c.id=⟨#[118]⟩/\(c.inner:Q)<=2:=by
 have:=zLO h;unfold inOk at this;rw[ap,am (by omega),am (by omega),aq o,ap,bm]at this;exact⟨zAD.1 this.2.1,this.2.2⟩
theorem zQn (h:c∈ctsL)(v:c.kind=5):(c.inner:Q)<=2/\∀ x∈c.inner,InU x.txt/\NoTab x.txt:=by
 have:=zLO h;unfold inOk at this;rw[ap,am (by omega),am (by omega),am (by omega),aq v]at this;simp only[ap,bm]at this;refine⟨this.2.1.1,λx o=>⟨zG5 h o,λd u=>?_⟩⟩;obtain⟨y,z,A,F⟩:=zPE (p:=λy=>decide (y.kind≠5)) (List.all_eq_true.1 this.2.2 x o);rw[A,zG4 z]at u;cases u
 simpa using F
theorem zCE (h:InU s):s.size<=256:=by
 rcases h with rfl|rfl|⟨c,o,rfl⟩
 .decide
 .decide
 .exact(zLk c o).2.1
theorem zNF (h:InU s):(cAtt s).all attrOk=true:=by
 unfold cAtt;rcases h with rfl|rfl|⟨c,o,rfl⟩
 .kernel_rfl
 .kernel_rfl
 .split;·rfl
  .rw[List.all_cons,(zLk c o).2.2.1];rfl
theorem zCm: InU ():=.inl rfl
theorem zDP: ∀ s∈zAA,InU s:=by
 have h:(zAA.all λs=>s.data.toList.isEmpty||eqB s zED||ctsL.any λc=>eqB s c.txt)=true:=by kernel_rfl
 intro s u;have:=List.all_eq_true.1 h s u;simp only[cg]at this;rcases this with(o|o)|o
 .left;refine bg (Array.toList_inj.1 ?_);rw[List.isEmpty_iff]at o;rw[o]
 .right;left;exact zAD.1 o
 .obtain⟨c,v,y⟩:=List.any_eq_true.1 o;exact .inr (.inr ⟨c,v,zAD.1 y⟩)
structure DOk (d:Dev):Prop where
 kind:d.kind=2
 name:d.name=d.orig
 sub:d.sub=zV
 drv:d.drv=()
 ali:d.ali=()
 num:1<=d.num/\d.num<=2000000
def PlcOk (L:T Dev)(d:Dev):Prop:=(d.parent=0/\d.orig∈rootN)\/∃ p∈L,p.index=d.parent/\p.parent=0/\p.orig∈rootN/\d.orig∈parN p.orig
structure UOk (L:T Dev)(ct:ae->B)(b:ae):Prop where
 wf:TreeWf L
 dv:∀ d∈L,DOk d/\d.index<=b
 pl:∀ d∈L,PlcOk L d
 co:∀ d∈L,InU (ct d.index)/\(d.parent≠0->NoTab (ct d.index))
 nu:∀ d∈L,∀ e∈L,d.num=e.num->d=e
 so:L.Pairwise λx y=>pathO (plc L x.index) (plc L y.index)<0
theorem UOk.nil (ct:ae->B)(b:ae):UOk [] ct b:=⟨TreeWf.nil,by simp,by simp,by simp,by simp,.nil⟩
theorem PlcOk.all (h:PlcOk L d):d.orig∈allN:=by
 rcases h with⟨_,h⟩|⟨p,_,_,_,o,u⟩
 .exact zCD h
 .exact zLF o u
theorem zDX (h:TreeOk L):plc L 0=():=by unfold plc;rw[h.zero];rfl
theorem PlcOk.org (o:TreeOk L)(z:∀ p∈L,p.parent=0->origin L p.index=[p.orig])(h:PlcOk L d):origin L d.parent++[d.orig]=orgOf d.orig/\newO L d=pathOf (orgOf d.orig):=by
 rcases h with⟨u,v⟩|⟨p,y,u,v,A,F⟩
 .unfold orgOf newO;rw[zBc v,u,dq o.zero,zDX o];exact⟨rfl,rfl⟩
 .unfold orgOf newO plc;rw[zAh A F,<-u,o.lk y,z p y v];exact⟨rfl,rfl⟩
theorem zB3 (o:TreeOk L):∀ p∈L,p.parent=0->origin L p.index=[p.orig]:=λp u h=>by
 rw[o.origin_cons (o.lk u),h,dq o.zero];rfl
theorem zC7 (o:B):(orgOf o).getLast?=G o:=by
 unfold orgOf;cases parOf o<;>rfl
theorem zCc (z:o∈allN)(J:p∈allN)(h:pathOf (orgOf o)=pathOf (orgOf p)):o=p:=by
 have v:∀ o:B,o∈allN->∀ x∈orgOf o,OkN x:=λo z x u=>by
  have F:∀ y∈allN,OkN y:=λy N=>by
   obtain⟨I,_,_,A⟩:=zAS N;exact⟨(zAi I).1,A⟩
  unfold orgOf at u;cases e:parOf o with
  | none=>rw[e]at u;simp at u;subst u;exact F _ z
  | some n=>
   rw[e]at u;have O:n∈rootN:=bx e;simp at u;rcases u with rfl|rfl
   .exact F _ (zCD O)
   .exact F _ z
 have I:=zC6 (v o z) (v p J) (by rw[h]);have A:=bb List.getLast? I;rw[zC7,zC7]at A;exact Option.some.inj A
section
variable {L:T Dev}{ct:ae->B}{b:ae}
theorem UOk.org (h:UOk L ct b)(o:d∈L):origin L d.index=orgOf d.orig:=by
 rw[h.wf.ok.origin_cons (h.wf.ok.lk o)];exact((h.pl d o).org h.wf.ok (zB3 h.wf.ok)).1
theorem UOk.pth (h:UOk L ct b)(o:d∈L):plc L d.index=pathOf (orgOf d.orig):=by
 unfold plc;rw[h.wf.ok.lk o,h.org o];rfl
theorem UOk.inj (h:UOk L ct b){e:Dev}(o:d∈L)(u:e∈L)(v:d.orig=e.orig):d=e:=h.wf.uo d o e u (by rw[h.org o,h.org u,v])
theorem UOk.len (h:UOk L ct b):(L:Q)<=44:=by
 have v:(L.map Dev.orig).Nodup:=by
  have:=h.wf.ok.nd;unfold List.Nodup at this ⊢;rw[dj]at this ⊢;exact this.imp_of_mem λy z o e=>o (by rw[h.inj y z e])
 have u:=zBe v (m:=allN) λx A=>by
  obtain⟨d,F,rfl⟩:=List.mem_map.1 A;exact(h.pl d F).all
 rw[bh]at u;exact cd u (by decide)
theorem UOk.mono (h:UOk L ct b)(u:b<=b'):UOk L ct b':=⟨h.wf,λd o=>⟨(h.dv d o).1,by have:=(h.dv d o).2;omega⟩,h.pl,h.co,h.nu,h.so⟩
theorem UOk.cont (h:UOk L ct b){o:ae->B}(u:∀ d∈L,InU (o d.index)/\(d.parent≠0->NoTab (o d.index))):UOk L o b:=⟨h.wf,h.dv,h.pl,u,h.nu,h.so⟩
end
theorem UOk.vir (h:UOk L ct b)(o:d∈L):virB L d.index=!isDk d.orig:=by
 have u:=h.wf.ok;unfold virB partOf;rw[u.lk o];dsimp only;rcases h.pl d o with⟨v,y⟩|⟨p,z,v,y,A,F⟩
 .rw[v,u.zero];dsimp only;rw[zMm y];rfl
 .rw[<-v,u.lk z];dsimp only;rw[zMs A F (h.dv p z).1.kind (h.dv d o).1.kind,zKv A F];rfl
theorem zN7 {x:Dev}(h:x.orig∈allN)(o:d.orig∈allN)(u:x.kind=2)(v:d.kind=2)(y:x.num≠d.num)(z:x.orig≠d.orig):clB x d=false:=by
 unfold clB;rw[(zAS h).2.2.1,(zAS o).2.2.1,zOC h,zOC o,u,v];have A:(x.num==d.num)=false:=by simpa using y
 have F:(x.orig.toList==d.orig.toList)=false:=by
  rw[dx];intro e;rw[ByteArray.toList_eq,ByteArray.toList_eq]at e;exact z (bg (Array.toList_inj.1 e))
 rw[A,F];rfl
theorem UOk.cl (h:UOk L ct b)(v:d∈L):L.any (clP d)=false:=by
 rw[bj];intro x y;unfold clP;by_cases e:x.index=d.index;·simp[e]
 .have o:x≠d:=λu=>e (by rw[u])
  rw[zN7 (h.pl x y).all (h.pl d v).all (h.dv x y).1.kind (h.dv d v).1.kind (λu=>o (h.nu x y d v u)) (λu=>o (h.inj y v u))];simp
theorem zIG {c:B}(h:DOk d)(y:d.orig∈allN)(u:1<=d.index/\d.index<=1073741824)(v:0<=d.parent/\d.parent<=1073741824)(o:d.parent≠d.index)(z:InU c):Sound d (cAtt c):=by
 obtain⟨A,F,_,_⟩:=zAS y;refine⟨?_,?_,?_,?_,zNF z,F⟩
 .unfold rngB;simp[u.1,u.2,v.1,v.2,o]
 .unfold namedB;rw[h.name,h.sub,h.ali,A];kernel_rfl
 .rw[h.name];simp
 .have:=h.num;simp;omega
theorem PlcOk.par (h:UOk L ct b)(y:b<=1000000)(u:PlcOk L d):0<=d.parent/\d.parent<=1000000:=by
 rcases u with⟨v,_⟩|⟨p,o,v,_⟩
 .omega
 .have z:=(h.dv p o).2;have A:=(h.wf.ok.ix p o).1;omega
theorem UOk.sound (h:UOk L ct b)(u:b<=1000000)(o:d∈L){c:B}(v:InU c):Sound d (cAtt c):=by
 have y:=(h.pl d o).par h u;exact zIG (h.dv d o).1 (h.pl d o).all (h.wf.ok.ix d o) ⟨y.1,by omega⟩ (h.wf.ok.pw.2 d o) v
theorem UOk.sub (h:UOk L ct b){q:Dev->bc}(u:SubF L q):UOk (L.filter q) ct b:=by
 refine⟨u.wf h.wf,λd o=>h.dv d (List.mem_filter.1 o).1,λd o=>?_,λd o=>h.co d (List.mem_filter.1 o).1,λd o e I=>h.nu d (List.mem_filter.1 o).1 e (List.mem_filter.1 I).1,?_⟩
 .obtain⟨A,J⟩:=List.mem_filter.1 o;rcases h.pl d A with v|⟨p,F,v,N⟩
  .exact .inl v
  .exact .inr ⟨p,List.mem_filter.2 ⟨F,u.cl d A J p F v⟩,v,N⟩
 .refine(h.so.filter q).imp_of_mem fun {x y} O U z=>?_
  rw[u.plc (u.mem O),u.plc (u.mem U)];exact z
theorem zF0 (u:TreeOk L)(o:TreeOk (insAt L k D))(h:look L D.index=ac)(A:1<=D.index)(v:n≠D.index):look (insAt L k D) n=look L n/\origin (insAt L k D) n=origin L n/\plc (insAt L k D) n=plc L n:=by
 have y:look (insAt L k D) n=look L n:=by rw[zFs o.nd h,am v]
 have F:chain (insAt L k D) n=chain L n:=zCS o ((u.chn0 n).ins u o.nd h A v);have z:origin (insAt L k D) n=origin L n:=by unfold origin;rw[F]
 exact⟨y,z,by unfold plc;rw[y,z]⟩
theorem TreeOk.pne (u:TreeOk L)(o:look L n=ac)(F:1<=n)(v:d∈L):d.parent≠n:=by
 obtain⟨k,y⟩:=bu v;rcases u.pa k d y with h|⟨j,e,_,z,h⟩
 .omega
 .intro A;exact zx.1 o e (az z) (h.trans A)
theorem zPC (u:TreeOk L)(o:TreeOk (insAt L k D))(h:look L D.index=ac)(v:1<=D.index)(y:d∈L):virB (insAt L k D) d.index=virB L d.index:=by
 have z:=(zF0 u o h v (n:=d.index) (λe=>zx.1 h d y e)).1;have A:=(zF0 u o h v (n:=d.parent) (u.pne h v y)).1;unfold virB partOf;rw[z,u.lk y];dsimp only;rw[A]
theorem zNU {t:B}(h:zl s=af)(o:zl t=af):(cmpP s t).1=pathO s t:=by
 unfold cmpP pathO;rw[h,o];rfl
theorem zFF {α:Type}{p:α->bc}:∀ {l:T α} {k:Q},fidx p l=(k:ae)->∀ x∈l.take k,p x=H
 | [],k,h,x,o=>by simp at o
 | y::t,0,h,x,o=>by simp at o
 | y::t,k+1,h,x,o=>by
  cases hp:p y with
  | true=>simp[fidx,hp]at h;omega
  | false=>
   have v:fidx p t=(k:ae):=by
    rcases zAr p t with⟨u,_⟩|⟨j,z,u,_⟩
    .simp[fidx,hp,u]at h;omega
    .have:¬ ((j:ae)<0):=(by omega);simp[fidx,hp,u,this]at h;rw[u];omega
   rw[List.take_succ_cons]at o;rcases List.mem_cons.1 o with e|o
   .rw[e];exact hp
   .exact zFF v x o
theorem zMo (h:UOk L ct b)(o:d∈L):zl (plc L d.index)=true:=by
 rw[h.pth o];have:=zOs (h.pl d o).all;unfold plOk at this;rw[ap]at this;exact this.1
theorem UOk.at (h:UOk L ct b)(N:PlcOk L D)(U:∀ e∈L,e.orig≠D.orig):
  (∀ x∈L.take (insK L D),pathO (plc L x.index) (newO L D)<0)/\(∀ x∈L.drop (insK L D),pathO (newO L D) (plc L x.index)<0)/\(D.parent=0\/∃ (j:Q) (e:Dev),j<insK L D/\L[j]?=G e/\e.index=D.parent):=by
 have V:=(N.org h.wf.ok (zB3 h.wf.ok)).2;have hg:zl (newO L D)=true:=by
  rw[V];have:=zOs N.all;unfold plOk at this;rw[ap]at this;exact this.1
 have X:∀ x∈L,plc L x.index≠newO L D:=λx o e=>by
  rw[h.pth o,V]at e;exact U x o (zCc (h.pl x o).all N.all e)
 have y:∀ x∈L,zAE L (newO L D) x=decide (0<=pathO (plc L x.index) (newO L D)):=λx o=>by
  unfold zAE;rw[zNU (zMo h o) hg]
 have hA:∀ x∈L.take (insK L D),pathO (plc L x.index) (newO L D)<0:=by
  intro x o;have A:=cp o;have hf:zAE L (newO L D) x=false:=by
   rcases zCk L D with⟨u,v⟩|⟨u,v⟩
   .rcases zAr (zAE L (newO L D)) L with⟨_,_,g3⟩|⟨j,z,g1,_⟩
    .rw[bj]at g3
     simpa using g3 x A
    .omega
   .exact zFF u x o
  rw[y x A]at hf;simp at hf;omega
 have hB:∀ x∈L.drop (insK L D),pathO (newO L D) (plc L x.index)<0:=by
  rcases zCk L D with⟨u,v⟩|⟨u,v⟩
  .rw[v];simp
  .have hk:=bs v;have h0:pathO (newO L D) (plc L L[insK L D].index)<0:=by
    rcases zAr (zAE L (newO L D)) L with⟨g1,_⟩|⟨j,z,g1,g2,_,g4,_⟩
    .omega
    .obtain rfl:j=insK L D:=by omega
     have e:=Option.some.inj (hk.symm.trans g2);rw[e];have hz:=az g2;rw[y z hz,bm]at g4;have O:=zB6.turn (plc L z.index) (newO L D);have Y:pathO (plc L z.index) (newO L D)≠0:=λe=>X z hz (zB6.zero _ _ e)
     omega
   intro x o;rw[ci v]at o;rcases List.mem_cons.1 o with rfl|o
   .exact h0
   .have hs:=h.so.sublist (List.drop_sublist (insK L D) L);rw[ci v]at hs;exact zB6.trans _ _ _ h0 ((List.pairwise_cons.1 hs).1 x o)
 refine⟨hA,hB,?_⟩;rcases N with⟨u,_⟩|⟨p,F,u,v,O,Y⟩
 .exact .inl u
 .right;have a2:pathO (plc L p.index) (newO L D)<0:=by
   rw[h.pth F,V];unfold orgOf;rw[zBc O,zAh O Y];exact zKw O Y
  have I:p∈L.take (insK L D):=by
   have:p∈L.take (insK L D)++L.drop (insK L D):=(by rw[bz];exact F);rcases List.mem_append.1 this with I|I
   .exact I
   .have h5:=hB p I;have h6:=zB6.turn (plc L p.index) (newO L D);omega
  obtain⟨j,Z⟩:=bu I;have J:j<insK L D:=by have:=(List.getElem?_eq_some_iff.1 Z).1;rw[dh]at this;omega
  rw[de J]at Z;exact⟨j,p,J,Z,u⟩
theorem zLX (v:(sameO L D||L.any (clP D))=H)(y:look L D.index=ac)(z:∀ e∈L,e.kind=2)(A:D.kind=2):∀ e∈L,e.orig≠D.orig/\e.num≠D.num:=by
 rw[cy,bj]at v;intro e o;have h:=v.2 e o;have F:(e.index != D.index)=true:=by simpa using zx.1 y e o
 unfold clP clB at h;rw[F,z e o,A]at h;refine⟨λu=>?_,λu=>?_⟩;·rw[u]at h;simp[numK]at h
 .rw[u]at h;simp[numK]at h
theorem UOk.free (h:UOk L ct b)(z:DOk D)(u:PlcOk L D)(v:∀ e∈L,e.orig≠D.orig)(A:∀ e∈L,e.num≠D.num):(sameO L D||L.any (clP D))=false:=by
 rw[cy];constructor
 .unfold sameO;cases e:L[insK L D]? with
  | none=>rfl
  | some x=>
   have o:=az e;show ((plc L x.index).toList==(newO L D).toList)=H
   rw[dx,ByteArray.toList_eq,ByteArray.toList_eq];intro F;have y:plc L x.index=newO L D:=bg (Array.toList_inj.1 F);rw[h.pth o,(u.org h.wf.ok (zB3 h.wf.ok)).2]at y;exact v x o (zCc (h.pl x o).all u.all y)
 .rw[bj];intro x o;unfold clP;rw[zN7 (h.pl x o).all u.all (h.dv x o).1.kind z.kind (A x o) (v x o)];simp
theorem UOk.pre (h:UOk L ct b)(J:b<=1000000){c:B}(y:DOk D)(z:PlcOk L D)(N:1<=D.index/\D.index<=1000001)(o:look L D.index=ac)(O:InU c):InsPre L D (cAtt c)/\Sized D:=by
 have A:=z.par h J;have F:=z.all;have I:=zAS F;have U:=(zAi I.1).1;refine⟨⟨zIG y F ⟨N.1,by omega⟩ ⟨A.1,by omega⟩ ?_ O,o,?_,by have:=h.len;omega,?_⟩,?_⟩
 .rcases z with⟨v,_⟩|⟨p,u,v,_⟩
  .omega
  .rw[<-v];exact zx.1 o p u
 .rcases z with⟨v,_⟩|⟨p,u,v,_⟩
  .rw[v];rfl
  .rw[<-v,h.wf.ok.lk u];simp
 .rw[(z.org h.wf.ok (zB3 h.wf.ok)).2];have:=zOs F;unfold plOk at this;rw[ap,bm]at this;exact this.2
 .refine⟨?_,?_,?_,?_,?_⟩;·rw[y.name];unfold ak;omega
  .unfold ak;omega
  .rw[y.sub];unfold ak;decide
  .rw[y.drv];unfold ak;decide
  .rw[y.ali];unfold ak;decide
theorem UOk.ins (h:UOk L ct b)(hb:b<=b'/\b'<=1000001){c:B}(hD:DOk D)(hp:PlcOk L D)(hi:1<=D.index/\D.index<=b')(v:look L D.index=ac)(hc:InU c)(b4:D.parent≠0->NoTab c)(hf:(sameO L D||L.any (clP D))=H):
  UOk (insAt L (insK L D) (strip D)) (updC ct D.index c) b'/\(∀ d∈L,plc (insAt L (insK L D) (strip D)) d.index=plc L d.index/\plc (insAt L (insK L D) (strip D)) d.parent=plc L d.parent/\virB (insAt L (insK L D) (strip D)) d.index=virB L d.index)/\
   plc (insAt L (insK L D) (strip D)) D.index=newO L D/\plc (insAt L (insK L D) (strip D)) D.parent=plc L D.parent:=by
 have hT:=h.wf.ok;have A:=zLX hf v (λe N=>(h.dv e N).1.kind) hD.kind;obtain⟨hA,hB,a6⟩:=h.at hp λe N=>(A e N).1
 have hk:insK L D<=(L:Q):=by rcases zCk L D with⟨_,h2⟩|⟨_,h2⟩<;>omega
 have a7:=zAS hp.all;have a8:D.parent≠D.index:=by
  rcases hp with⟨I,_⟩|⟨p,O,I,_⟩
  .omega
  .rw[<-I];exact zx.1 v p O
 have Y:=(hp.org hT (zB3 hT))
 have a9:=h.wf.insert (k:=insK L D) (d:=strip D) hk v ⟨hi.1,by show D.index<=_;omega⟩ ⟨(zAi a7.1).1,a7.2.2.2⟩ a8 a6 (λe N ho=>by
  have b0:origin L e.index=origin L D.parent++[D.orig]:=ho;rw[h.org N,Y.1]at b0;exact(A e N).1 (zCc (h.pl e N).all hp.all (by rw[b0]))) (by
  show (origin L D.parent).length<7
  have I:=bb bn Y.1;rw[df]at I;have h2:(orgOf D.orig).length<=2:=by unfold orgOf;cases parOf D.orig<;>simp
  simp at I;omega)
 obtain⟨hW,b5,a2⟩:=a9;obtain⟨F,hK⟩:=ε (insAt L (insK L D) (strip D))
 have J:∀ n,n≠D.index->look F n=look L n/\origin F n=origin L n/\plc F n=plc L n:=λn hn=>by
  rw[hK];exact zF0 hT hW.ok v hi.1 hn
 have b1:∀ d∈L,d.index≠D.index:=zx.1 v;have b6:∀ d∈L,d.parent≠D.index:=λd o=>hT.pne v hi.1 o
 have u:∀ d∈L,plc F d.index=plc L d.index/\plc F d.parent=plc L d.parent/\virB F d.index=virB L d.index:=λd o=>
  ⟨(J _ (b1 d o)).2.2,(J _ (b6 d o)).2.2,by rw[hK];exact zPC hT hW.ok v hi.1 o⟩
 have b7:strip D∈F:=by rw[hK];exact zU.2 (.inl rfl)
 have b2:∀ d∈L,d∈F:=λd o=>by rw[hK];exact zU.2 (.inr o)
 rw[<-hK]at hW b5 a2 ⊢;have b3:plc F D.index=newO L D:=by
  have I:look F D.index=G (strip D):=hW.ok.lk b7;have h2:origin F D.index=origin L D.parent++[D.orig]:=by
   have h3:chain F D.index=strip D::chain L D.parent:=a2;unfold origin;rw[h3,ck,List.reverse_cons];rfl
  unfold plc;rw[I,h2,Y.1,Y.2];rfl
 have z:∀ {d:Dev},d∈F->d=strip D\/d∈L:=fun {d} o=>by rw[hK]at o;exact zU.1 o
 refine⟨⟨hW,λd o=>?_,λd o=>?_,λd o=>?_,λd o e N U=>?_,?_⟩,u,b3,(J _ a8).2.2⟩
 .rcases z o with rfl|o
  .exact⟨⟨hD.kind,hD.name,hD.sub,hD.drv,hD.ali,hD.num⟩,hi.2⟩
  .exact⟨(h.dv d o).1,by have:=(h.dv d o).2;omega⟩
 .rcases z o with rfl|o
  .rcases hp with I|⟨p,O,I⟩
   .exact .inl I
   .exact .inr ⟨p,b2 p O,I⟩
  .rcases h.pl d o with I|⟨p,O,I⟩
   .exact .inl I
   .exact .inr ⟨p,b2 p O,I⟩
 .rcases z o with rfl|o
  .show InU (updC ct D.index c D.index)/\(D.parent≠0->NoTab (updC ct D.index c D.index))
   unfold updC;rw[aq rfl];exact⟨hc,b4⟩
  .unfold updC;rw[am (b1 d o)];exact h.co d o
 .rcases z o with rfl|o
  .rcases z N with rfl|N
   .rfl
   .exact an U.symm (A e N).2
  .rcases z N with rfl|N
   .exact an U (A d o).2
   .exact h.nu d o e N U
 .have hP:(insAt L (insK L D) (strip D)).Pairwise λx y=>pathO (plc F x.index) (plc F y.index)<0:=by
   unfold insAt;have hs:=h.so;rw[<-bz (insK L D) L]at hs;obtain⟨s1,s2,s3⟩:=List.pairwise_append.1 hs;have a4:∀ x∈L.take (insK L D),x∈L:=λx V=>cp V
   have Z:∀ x∈L.drop (insK L D),x∈L:=λx V=>List.mem_of_mem_drop V
   rw[bz]at s1 s2 s3;have a3:plc F (strip D).index=newO L D:=b3;rw[List.pairwise_append,List.pairwise_cons];refine⟨s1.imp_of_mem fun {x y} V X a5=>?_,⟨λy X=>?_,s2.imp_of_mem fun {x y} V X a5=>?_⟩,λx V y X=>?_⟩;·rw[(u x (a4 x V)).1,(u y (a4 y X)).1];exact a5
   .rw[a3,(u y (Z y X)).1];exact hB y X
   .rw[(u x (Z x V)).1,(u y (Z y X)).1];exact a5
   .rw[(u x (a4 x V)).1];rcases List.mem_cons.1 X with rfl|X
    .rw[a3];exact hA x V
    .rw[(u y (Z y X)).1];exact s3 x V y X
  rw[hK];rw[hK]at hP;exact hP
theorem UOk.renK (h:UOk L ct b){N:T Dev}{O:ae}(u:SimK f L ct N J O)(v:O<=1000000):UOk N J O:=by
 have o:∀ {d:Dev},d∈N->∃ x∈L,d=ren f x:=fun {d} A=>by
  rw[u.eq]at A;obtain⟨x,v,rfl⟩:=List.mem_map.1 A;exact⟨x,v,rfl⟩
 have U:∀ {n:ae},f n=0↔n=0:=fun {n}=>⟨λe=>u.ren.inj _ _ (by rw[e,u.ren.z]),λe=>by rw[e,u.ren.z]⟩
 refine⟨by rw[u.eq];exact h.wf.ren u.ren (λd A=>by have:=u.lo d A;omega),λd A=>?_,λd A=>?_,λd A=>?_,λd A e Y I=>?_,?_⟩
 .obtain⟨x,v,rfl⟩:=o A;have F:=(h.dv x v).1;exact⟨⟨F.kind,F.name,F.sub,F.drv,F.ali,F.num⟩,(u.lo x v).2⟩
 .obtain⟨x,v,rfl⟩:=o A;rcases h.pl x v with⟨F,V⟩|⟨p,Z,F,V,h3⟩
  .exact .inl ⟨U.2 F,V⟩
  .exact .inr ⟨ren f p,by rw[u.eq];exact bp Z,bb f F,U.2 V,h3⟩
 .obtain⟨x,v,rfl⟩:=o A;show InU (J (f x.index))/\(f x.parent≠0->NoTab (J (f x.index)))
  rw[u.ct x v];exact⟨(h.co x v).1,λe=>(h.co x v).2 λe'=>e (U.2 e')⟩
 .obtain⟨x,v,rfl⟩:=o A;obtain⟨y,hy,rfl⟩:=o Y;rw[h.nu x v y hy I]
 .rw[u.eq,dj];refine h.so.imp fun {x y} X=>?_
  show pathO (plc (L.map (ren f)) (f x.index)) (plc (L.map (ren f)) (f y.index))<0
  rw[zCR u.ren,zCR u.ren];exact X
theorem zEG (L:T Dev):0<=maxI L/\(∀ d∈L,d.index<=maxI L)/\∀ b,0<=b->(∀ d∈L,d.index<=b)->maxI L<=b:=by
 refine zDz (P:=λL=>0<=maxI L/\(∀ d∈L,d.index<=maxI L)/\∀ b,0<=b->(∀ d∈L,d.index<=b)->maxI L<=b) ?_ ?_ L;·exact⟨Int.le_refl _,by simp,λb h _=>h⟩
 .rintro l x ⟨A,v,y⟩;rw[zGq];refine⟨by omega,λd o=>?_,λb z o=>?_⟩
  .rcases List.mem_append.1 o with o|o
   .have:=v d o;omega
   .simp at o;subst o;omega
  .have:=y b z λd u=>o d (List.mem_append.2 (.inl u))
   have:=o x (by simp);omega
structure VOk (v:Vir):Prop where
 c:InU v.c
 p:(v.q=()/\v.o∈rootN)\/∃ n∈rootN,v.q=pathOf [n]/\v.o∈parN n/\NoTab v.c
 n:isDk v.o=H
theorem VOk.path (h:VOk v):v.q++(⟨#[47]⟩:B)++v.o=pathOf (orgOf v.o):=by
 rcases h.p with⟨u,y⟩|⟨n,u,y,z,_⟩
 .unfold orgOf;rw[zBc y,u];rfl
 .unfold orgOf;rw[zAh u z,y];rfl
theorem VOk.all (h:VOk v):v.o∈allN:=by
 rcases h.p with⟨u,y⟩|⟨n,u,y,z,_⟩
 .exact zCD y
 .exact zLF u z
theorem zFg (n:B):pathOf [n]≠():=λe=>by
 have h:(pathOf [n]).size=0:=by rw[e];rfl
 have o:pathOf [n]=(():B)++⟨#[47]⟩++n:=rfl;rw[o,ByteArray.size_append,ByteArray.size_append]at h;have u:(⟨#[47]⟩:B).size=1:=rfl;omega
theorem zGJ (M:T Vir)(p:B×B):(∃ v∈M,(v.q,v.o)=p/\wcF M p=v.c)\/wcF M p=():=by
 unfold wcF;cases h:M.find? (λv=>decide ((v.q,v.o)=p))with
 | none=>exact .inr rfl
 | some v=>exact .inl ⟨v,bx h,by simpa using cj h,rfl⟩
theorem zKD (h:DistP M)(z:v∈M):wcF M (v.q,v.o)=v.c:=by
 have u:=zDl h z;unfold wantG at u;unfold wcF;cases hf:M.find? (λx=>decide ((x.q,x.o)=(v.q,v.o)))with
 | none=>rw[hf]at u;cases u
 | some x=>
  rw[hf]at u;have A:x.vals=v.vals:=by simpa using u
  have y:=bb (λa:Array Value=>a[2]?) A;simp[cr]at y;exact y
theorem zPD (h:v∈M):inW M v.q v.o=true:=List.any_eq_true.2 ⟨v,h,by simp⟩
theorem zOJ (h:∀ v∈M,VOk v)(p:B×B):InU (wcF M p):=by
 rcases zGJ M p with⟨v,o,_,e⟩|e
 .rw[e];exact(h v o).c
 .rw[e];exact zCm
theorem zHd: NoTab ():=λc h=>by rw[zD7]at h;cases h;decide
theorem zKC (h:∀ v∈M,VOk v){n:B}:NoTab (wcF M (pathOf [n],o)):=by
 rcases zGJ M (pathOf [n],o)with⟨v,y,z,e⟩|e
 .rw[e];have A:v.q=pathOf [n]:=bb Prod.fst z;rcases(h v y).p with⟨u,_⟩|⟨_,_,_,_,u⟩
  .exact an (A.symm.trans u) (zFg n)
  .exact u
 .rw[e];exact zHd
theorem zBa (h:UOk L ct b)(o:d∈L)(u:d.parent=0):plc L d.index=pathOf [d.orig]:=by
 unfold plc;rw[h.wf.ok.lk o,zB3 h.wf.ok d o u];rfl
theorem UOk.ppl (h:UOk L ct b)(v:d∈L)(y:d.parent≠0):∃ n∈rootN,plc L d.parent=pathOf [n]:=by
 rcases h.pl d v with⟨o,_⟩|⟨p,u,o,z,A,_⟩
 .exact an o y
 .exact⟨p.orig,A,by rw[<-o];exact zBa h u z⟩
theorem UOk.wco (h:UOk L ct b)(o:∀ v∈M,VOk v)(u:d∈L):InU (wcF M (plc L d.parent,d.orig))/\(d.parent≠0->NoTab (wcF M (plc L d.parent,d.orig))):=by
 refine⟨zOJ o _,λy=>?_⟩;obtain⟨n,_,e⟩:=h.ppl u y;rw[e];exact zKC o
theorem UOk.setOk (h:UOk L ct b)(z:b<=1000000)(y:∀ v∈M,VOk v)(u:ae->B):SetOk M L u:=λd o=>
 ⟨(h.dv d o).1.kind,h.cl o,λ_=>⟨h.sound z o (h.wco y o).1,by have:=zCE (h.wco y o).1;omega⟩⟩
def WantB (M:T Vir)(L:T Dev)(d:Dev):Prop:=virB L d.index=af->inW M (plc L d.parent) d.orig=af
theorem zFc {M:T Vir}{ds:T Dev}{ct:ae->B}{b:ae}(h:UOk (ds.map strip) ct b):∀ (n:Q) (pre:T (ae×Dev)),(pre:Q)=n->pre <+: revR ds->∃ F,(remF M ds pre).1=(ds.map strip).take ((ds:Q)-n)++F/\UOk (remF M ds pre).1 ct b/\
  (∀ d∈(remF M ds pre).1,d∈ds.map strip/\plc (remF M ds pre).1 d.parent=plc (ds.map strip) d.parent/\virB (remF M ds pre).1 d.index=virB (ds.map strip) d.index)/\(∀ d∈F,WantB M (ds.map strip) d)/\∀ d∈ds.map strip,d.parent=0->WantB M (ds.map strip) d->d∈(remF M ds pre).1
 | 0,pre,Y,_=>by
  obtain rfl:pre=[]:=List.eq_nil_of_length_eq_zero Y;refine⟨[],?_,h,λd o=>⟨o,rfl,rfl⟩,by simp,λd o _ _=>o⟩;rw[List.append_nil,Nat.sub_zero,<-bh (f:=strip),List.take_length];rfl
 | n+1,pre,Y,hp=>by
  obtain⟨q,x,rfl⟩:∃ q x,pre=q++[x]:=by
   rcases List.eq_nil_or_concat pre with h|⟨q,x,h⟩
   .subst h;simp at Y
   .exact⟨q,x,by simpa using h⟩
  have I:q.length=n:=by simpa using Y
  obtain⟨F,e,y,Z,hW,hR⟩:=zFc h n q I ((cq q [x]).trans hp);obtain⟨b0,a2⟩:=zIM hp;have J:(ds.map strip).take ((ds:Q)-n)=(ds.map strip).take ((ds:Q)-(n+1))++[strip x.2]:=by
   rw[<-I,<-bv,a2,<-bv,bo];simp
  rw[zD0];obtain⟨S,a3⟩:=ε (remF M ds q)
  rw[<-a3]at e y Z hR ⊢;rw[J,dc]at e;have a4:strip x.2∈S.1:=by rw[e];simp
  obtain⟨a5,N,O⟩:=Z _ a4;unfold zAN;by_cases A:(virB S.1 x.2.index&&!inW M (plc S.1 x.2.parent) x.2.orig)=af
  .rw[aq A];dsimp only;have hT:TreeOk ((ds.map strip).take ((ds:Q)-(n+1))++([strip x.2]++F)):=(by rw[<-e];exact y.wf.ok);have hF:=y.wf.ok.subF (n:=x.2.index);have a6:UOk (remL x.2.index S.1) ct b:=(by rw[zBp];exact y.sub hF);obtain⟨B',e',a7⟩:=zJd (n:=x.2.index) hT λd o U=>by
    have u:=hT.nd;rw[bo,List.nodup_append]at u;exact u.2.2 d.index (bp o) x.2.index (by simp;exact .inl rfl) U
   rw[<-e]at e';refine⟨B',e',a6,λd o=>?_,λd o=>?_,λd o V X=>?_⟩
   .have v:=o;rw[zBp]at v;obtain⟨g1,g2,g3⟩:=Z d (List.mem_filter.1 v).1;rw[zBp];exact⟨g1,by rw[hF.plc (hF.memP v),g2],by rw[hF.vir v,g3]⟩
   .have a8:d∈remL x.2.index S.1:=(by rw[e'];simp[o]);have a9:=zGg y.wf.ok a8;rcases List.mem_append.1 (a7.subset o)with u|u
    .simp at u;subst u;exact an rfl a9
    .exact hW d u
   .refine zGf y.wf.ok (hR d o V X) V λU=>?_
    have z:d=strip x.2:=by
     have u:=h.wf.ok.lk o;have h2:=h.wf.ok.lk a5;have h3:(strip x.2).index=d.index:=U.symm;rw[h3,u]at h2;exact Option.some.inj h2
    rw[ap]at A;have h4:virB (ds.map strip) d.index=true:=(by rw[z,<-O];exact A.1);have h5:=X h4;have h6:plc (ds.map strip) d.parent=plc S.1 x.2.parent:=(by rw[z];exact N.symm);rw[h6,z]at h5;have h7:=A.2;have h8:(strip x.2).orig=x.2.orig:=rfl;rw[h8]at h5;rw[h5]at h7;cases h7
  .rw[am A];refine⟨[strip x.2]++F,e,y,Z,λd o=>?_,hR⟩;rcases List.mem_append.1 o with u|u
   .simp at u;subst u;intro hv;rw[<-O]at hv;rw[<-N];cases U:inW M (plc S.1 (strip x.2).parent) (strip x.2).orig with
    | true=>rfl
    | false=>
     exfalso;apply A;rw[ap];refine⟨hv,?_⟩;have:inW M (plc S.1 x.2.parent) x.2.orig=false:=U;rw[this];rfl
   .exact hW d u
theorem zOm (h:UOk (ds.map strip) ct b):RemOk M ds/\UOk (remF M ds (revR ds)).1 ct b/\(∀ d∈(remF M ds (revR ds)).1,WantB M (remF M ds (revR ds)).1 d)/\∀ d∈ds.map strip,d.parent=0->WantB M (ds.map strip) d->d∈(remF M ds (revR ds)).1:=by
 refine⟨λpre x u=>?_,?_⟩
 .obtain⟨F,e,o,_⟩:=zFc (M:=M) h pre.length pre rfl ((cq pre [x]).trans u);obtain⟨_,_,v,_⟩:=zFc (M:=M) h _ (pre++[x]) rfl u;obtain⟨I,y⟩:=zIM u;have J:strip x.2∈(remF M ds pre).1:=by
   rw[e,<-bv,y,bo];simp
  exact⟨o.wf,v.wf,strip x.2,o.wf.ok.lk J⟩
 .obtain⟨F,e,o,N,O,hR⟩:=zFc (M:=M) h _ (revR ds) rfl (dk _);rw[zAf,Nat.sub_self,List.take_zero,List.nil_append]at e;refine⟨o,λd z A=>?_,hR⟩;obtain⟨X,U,V⟩:=N d z;rw[U];rw[V]at A;exact O d (by rw[<-e];exact z) A
theorem zKi {M:T Vir}{L:T Dev}{ct:ae->B}(F:TreeOk L)(v:T OpA):∀ k,k<=(L:Q)->∀ j d,L[j]?=G d->(setF M L ct v k).1 d.index=if j<k/\virB L d.index=af then wcF M (plc L d.parent,d.orig)else ct d.index
 | 0,_,j,d,_=>by rw[am (by omega)];rfl
 | k+1,hk,j,d,u=>by
  have I:k<(L:Q):=by omega
  have N:=zKi (M:=M) (ct:=ct) F v k (by omega) j d u;have o:=bs I;rw[zDv o];have y:L[k].index=d.index↔k=j:=by
   constructor
   .intro e;have z:(L.map bq)[k]?=G d.index:=(by rw[bt,o];exact bb G e);have Y:(L.map bq)[j]?=G d.index:=(by rw[bt,u];rfl);obtain⟨O,U⟩:=List.getElem?_eq_some_iff.1 z;obtain⟨V,X⟩:=List.getElem?_eq_some_iff.1 Y;rcases Nat.lt_trichotomy k j with h|h|h
    .exact an (U.trans X.symm) (List.pairwise_iff_getElem.1 F.nd k j O V h)
    .exact h
    .exact an (X.trans U.symm) (List.pairwise_iff_getElem.1 F.nd j k V O h)
   .rintro rfl;rw[o]at u;rw[Option.some.inj u]
  unfold zAZ;split
  .rename_i A;dsimp only;unfold updC;by_cases e:d.index=L[k].index
   .obtain rfl:k=j:=y.1 e.symm;rw[o]at u;obtain rfl:=Option.some.inj u;rw[ap]at A;rw[aq rfl,aq ⟨by omega,A.1⟩]
   .have Z:k≠j:=λh=>e (y.2 h).symm
    rw[am e,N];have:(j<k+1/\virB L d.index=af)↔(j<k/\virB L d.index=af):=by constructor<;>rintro ⟨a,b⟩<;>exact⟨by omega,b⟩
    simp only[this]
  .rename_i A;rw[N];by_cases J:k=j
   .subst J;rw[o]at u;obtain rfl:=Option.some.inj u;rw[am (by omega)];split
    .rename_i hv;have z:((ct L[k].index).toList==(wcF M (plc L L[k].parent,L[k].orig)).toList)=true:=by
      cases hq:((ct L[k].index).toList==(wcF M (plc L L[k].parent,L[k].orig)).toList)with
      | true=>rfl
      | false=>exact an (by rw[hv.2,hq];rfl) A
     rw[cu,ByteArray.toList_eq,ByteArray.toList_eq]at z;exact bg (Array.toList_inj.1 z)
    .rfl
   .have:(j<k+1/\virB L d.index=af)↔(j<k/\virB L d.index=af):=by constructor<;>rintro ⟨a,b⟩<;>exact⟨by omega,b⟩
    simp only[this]
def WantC (M:T Vir)(L:T Dev)(ct:ae->B):Prop:=∀ d∈L,virB L d.index=af->inW M (plc L d.parent) d.orig=af/\ct d.index=wcF M (plc L d.parent,d.orig)
def There (L:T Dev)(v:Vir):Prop:=∃ dt,L.find? (atP L (v.q++(⟨#[47]⟩:B)++v.o))=G dt
def Roots (M:T Vir)(L:T Dev):Prop:=∀ v∈M,v.q≠()->∃ p∈L,p.parent=0/\v.q=pathOf [p.orig]
structure PlaP (M:T Vir)(ix0:ae)(j:Q)(L:T Dev)(ct:ae->B):Prop where
 u:UOk L ct (ix0+j)
 w:WantC M L ct
 t:∀ i v,i<j->M[i]?=G v->There L v
 r:Roots M L
theorem zL5 (h:UOk L ct b):L.find? (atP L ())=none:=by
 rw[dd];intro d v;unfold atP;rw[h.pth v];intro y;have o:orgOf d.orig≠[]:=λe=>by have:=zC7 d.orig;rw[e]at this;cases this
 have z:∀ l:T B,l≠[]->(pathOf l).data.toList≠[]:=λl A e=>by
  rw[zB7]at e;cases l with
  | nil=>exact A rfl
  | cons x t=>rw[ck,zDB]at e;cases e
 have u:(pathOf (orgOf d.orig)).toList=[]:=by simpa using y
 rw[ByteArray.toList_eq]at u;exact z _ o u
theorem zB1 (h:UOk L ct b)(z:VOk v):There L v↔∃ e∈L,e.orig=v.o:=by
 unfold There;rw[z.path];constructor
 .rintro ⟨d,A⟩;have u:=bx A;have y:=cj A;unfold atP at y;rw[cu,ByteArray.toList_eq,ByteArray.toList_eq,h.pth u]at y;exact⟨d,u,zCc (h.pl d u).all z.all (bg (Array.toList_inj.1 y))⟩
 .rintro ⟨e,F,I⟩;rw[<-I,<-h.pth F];exact⟨e,zHB h.wf F⟩
theorem UOk.parent (h:UOk L ct b)(X:Roots M L)(Y:v∈M)(N:VOk v):∃ p,ParIs L v.q p/\((p=0/\v.q=()/\v.o∈rootN)\/∃ r∈L,r.index=p/\r.parent=0/\r.orig∈rootN/\v.o∈parN r.orig/\v.q=pathOf [r.orig]/\NoTab v.c):=by
 rcases N.p with⟨z,A⟩|⟨n,z,A,Z,h4⟩
 .refine⟨0,.inl ⟨?_,z,rfl⟩,.inl ⟨rfl,z,A⟩⟩;rw[z];exact zL5 h
 .obtain⟨r,u,F,O⟩:=X v Y (by rw[A];exact zFg n);have U:r.orig=n:=by
   have h5:pathOf [r.orig]=pathOf [n]:=O.symm.trans A;have I:∀ y∈allN,OkN y:=λy V=>⟨(zAi (zAS V).1).1,(zAS V).2.2.2⟩
   have h6:=zC6 (a:=[r.orig]) (b:=[n]) (λx J=>by simp at J;subst J;exact I _ (h.pl r u).all) (λx J=>by simp at J;subst J;exact I _ (zCD z)) (by rw[h5])
   simpa using h6
  subst U;refine⟨r.index,.inr ⟨r,?_,rfl⟩,.inr ⟨r,u,rfl,F,z,Z,A,h4⟩⟩;rw[A,<-zBa h u F];exact zHB h.wf u
theorem zOy (L:T Dev)(p:ae)(h:B)(k:Q)(v:k<=44)(o:B)(u:ar ax):DOk (newG L p h (1048576+(k:ae)) o u):=⟨rfl,rfl,rfl,rfl,rfl,by show 1<=1048576+(k:ae)/\1048576+(k:ae)<=2000000;omega⟩
theorem PlaP.new (h:PlaP M z j L ct)(hx:0<=z/\z+j<=1000000)(hv:v∈M)(O:VOk v){p:ae}(hp:ParIs L v.q p)(X:¬ There L v)(hk:k<=(L:Q))(Y:usedF L (1048576+(k:ae))=H)(I:ar ax):
  PlcOk L (newG L p v.o (1048576+(k:ae)) v.c I)/\DOk (newG L p v.o (1048576+(k:ae)) v.c I)/\(1<=maxI L+1/\maxI L<=z+j)/\look L (maxI L+1)=ac/\(p≠0->NoTab v.c)/\(sameO L (newG L p v.o (1048576+(k:ae)) v.c I)||L.any (clP (newG L p v.o (1048576+(k:ae)) v.c I)))=H/\plc L p=v.q/\0<=p/\p<=z+j:=by
 obtain⟨q,hq,y⟩:=h.u.parent h.r hv O;obtain rfl:=zGk hp hq;have a3:=h.u.len;obtain⟨m1,m2,m3⟩:=zEG L;have Z:=m3 (z+j) (by omega) λd hd=>(h.u.dv d hd).2
 have hD:=zOy L p v.o k (by omega) v.c I;have hP:PlcOk L (newG L p v.o (1048576+(k:ae)) v.c I):=by
  rcases y with⟨A,F,J⟩|⟨r,N,A,F,J,U,_⟩
  .exact .inl ⟨A,J⟩
  .exact .inr ⟨r,N,A,F,J,U⟩
 refine⟨hP,hD,⟨by omega,Z⟩,zx.2 λd hd=>by have:=m2 d hd;omega,λa2=>?_,?_,?_,?_⟩
 .rcases y with⟨A,_⟩|⟨r,_,_,_,_,_,_,U⟩
  .exact an A a2
  .exact U
 .refine h.u.free hD hP (λe V ho=>X ((zB1 h.u O).2 ⟨e,V,ho⟩)) λe V hn=>?_
  unfold usedF at Y;rw[bj]at Y;have:=Y e V;rw[(h.u.dv e V).1.kind]at this;have h9:e.num=1048576+(k:ae):=hn;rw[h9]at this;simp at this
 .rcases y with⟨A,F,J⟩|⟨r,N,A,F,J,U,h5,_⟩
  .rw[A,F];exact zDX h.u.wf.ok
  .rw[<-A,h5];exact zBa h.u N F
 .rcases y with⟨A,F,J⟩|⟨r,N,A,_⟩
  .omega
  .have:=(h.u.dv r N).2;have:=(h.u.wf.ok.ix r N).1;omega
theorem PlaP.ok (h:PlaP M z j L ct)(V:0<=z/\z+j<=1000000)(N:v∈M)(y:VOk v):(L:Q)<=44/\∃ p,ParIs L v.q p/\((∃ dt,L.find? (atP L (v.q++(⟨#[47]⟩:B)++v.o))=G dt)\/AddOk L v.q v.o v.c p):=by
 have X:=h.u.len;refine⟨by omega,?_⟩;obtain⟨p,J,F⟩:=h.u.parent h.r N y;refine⟨p,J,?_⟩;by_cases A:There L v;·exact .inl A
 .right;have h0:=h.new V N y J A (k:=(L:Q)) (dl _);have I:v.q.size<=100000/\v.o.size<=100000:=by
   have Y:=(zAi (zAS y.all).1).1;refine⟨?_,by omega⟩;rcases y.p with⟨e,_⟩|⟨n,e1,e2,_⟩
   .rw[e];decide
   .rw[e2];have h2:=(zAi (zAS (zCD e1)).1).1;have:pathOf [n]=(():B)++⟨#[47]⟩++n:=rfl;rw[this,ByteArray.size_append,ByteArray.size_append];show 0+1+n.size<=_
    omega
  have a4:=zCE y.c;have O:L.find? (atP L (v.q++(⟨#[47]⟩:B)++v.o))=none:=by
   cases e:L.find? (atP L (v.q++(⟨#[47]⟩:B)++v.o))with
   | none=>rfl
   | some d=>exact an ⟨d,e⟩ A
  obtain⟨m1,m2,m3⟩:=zEG L;have a5:=m3 (z+j) (by omega) λd U=>(h.u.dv d U).2
  have a6:0<=p/\p<=1000000:=by
   rcases F with⟨Y,_⟩|⟨r,Z,Y,_⟩
   .omega
   .have:=(h.u.dv r Z).2;have:=(h.u.wf.ok.ix r Z).1;omega
  refine⟨J,O,du (by omega),I.1,I.2,by omega,λd U=>du (by have:=(h.u.dv d U).1.num;omega),⟨m1,by omega⟩,λk hk hu aa=>?_⟩;obtain⟨g1,g2,g3,g4,g5,g6,g7,_⟩:=h.new V N y J A hk hu aa;obtain⟨a1,a2⟩:=h.u.pre (by omega) g2 g1 (c:=v.c) (by show 1<=maxI L+1/\maxI L+1<=1000001;omega) g4 y.c;have a3:=(h.u.ins (b':=z+j+1) (by omega) g2 g1 (c:=v.c) (by show 1<=maxI L+1/\maxI L+1<=z+j+1;omega) g4 y.c g5 g6).1.wf;refine⟨a1,a2,g6,a3.ofStrip ?_⟩;unfold insAt;simp only[bo,bv,List.map_drop,ck];rfl
theorem PlaP.step {A:ae}(h:PlaP M A j L ct)(hx:0<=A/\A+j<=1000000)(X:DistP M)(Y:M[j]?=G v)(I:VOk v){Z:T OpA}{L':T Dev}{N:T OpA}(hs:zBx L ct Z v L' J N):PlaP M A (j+1) L' J:=by
 have hv:=az Y;rcases hs with⟨ht,rfl,rfl,rfl⟩|⟨a5,k,aa,p,hk,hu,hp,rfl,rfl,rfl⟩
 .refine⟨h.u.mono (by push_cast;omega),h.w,λi x hi y=>?_,h.r⟩;by_cases e:i<j;·exact h.t i x e y
  .obtain rfl:i=j:=by omega
   rw[Y]at y;cases y;exact ht
 .have a6:¬ There L v:=λ⟨d,z⟩=>by rw[a5]at z;cases z
  obtain⟨g1,g2,g3,g4,g5,g6,g7,_⟩:=h.new hx hv I hp a6 hk.1 hu ac;obtain⟨D,V⟩:=ε (newG L p v.o (1048576+(k:ae)) v.c ac)
  have di:D.index=maxI L+1:=by rw[V];rfl
  have dp:D.parent=p:=by rw[V];rfl
  have dO:D.orig=v.o:=by rw[V];rfl
  rw[<-V]at g1 g2 g6 ⊢;rw[<-di]at g3 g4 ⊢;obtain⟨a1,a2,a3,a4⟩:=h.u.ins (b':=A+(j+1:Q)) (by push_cast;omega) g2 g1 (c:=v.c) (by push_cast;omega) g4 I.c (by rw[dp];exact g5) g6;have hm:∀ {d:Dev},d∈insAt L (insK L D) (strip D)->d=strip D\/d∈L:=λz=>zU.1 z
  refine⟨a1,λd z F=>?_,λi x hi y=>?_,λx a7 hq=>?_⟩
  .rcases hm z with rfl|z
   .have e1:plc (insAt L (insK L D) (strip D)) (strip D).parent=v.q:=by show plc _ D.parent=_;rw[a4,dp,g7]
    have e2:(strip D).orig=v.o:=dO;rw[e1,e2,zKD X hv];refine⟨zPD hv,?_⟩;show updC ct D.index v.c D.index=v.c
    unfold updC;rw[aq rfl]
   .obtain⟨b1,b2,b3⟩:=a2 d z;rw[b3]at F;rw[b2];have:=h.w d z F;refine⟨this.1,?_⟩;unfold updC;rw[am (zx.1 g4 d z)];exact this.2
  .have O:There L x->There (insAt L (insK L D) (strip D)) x:=λhy=>by
    obtain⟨e,he,ho⟩:∃ e∈insAt L (insK L D) (strip D),atP (insAt L (insK L D) (strip D)) (x.q++(⟨#[47]⟩:B)++x.o) e=true:=by
     obtain⟨d,z⟩:=hy;have U:=bx z;have h1:=cj z;refine⟨d,zU.2 (.inr U),?_⟩;unfold atP at h1 ⊢;rw[(a2 d U).1];exact h1
    unfold There;cases hf:(insAt L (insK L D) (strip D)).find? (atP (insAt L (insK L D) (strip D)) (x.q++(⟨#[47]⟩:B)++x.o))with
    | none=>rw[dd]at hf;exact an ho (hf e he)
    | some d=>exact⟨d,rfl⟩
   by_cases e:i<j;·exact O (h.t i x e y)
   .obtain rfl:i=j:=by omega
    rw[Y]at y;cases y;exact(zB1 a1 I).2 ⟨strip D,zU.2 (.inl rfl),dO⟩
  .obtain⟨r,hr,a8,a9⟩:=h.r x a7 hq;exact⟨r,zU.2 (.inr hr),a8,a9⟩
theorem zJp (w:be):bd ba 247 #[ag .u64 0] w λe w'=>(∃ k,e=.returned (ag ai k))/\w'=w:=by
 go_enter Tryz.func247,Tryz.ntmps247;go_wp2;go_ret;exact⟨⟨_,rfl⟩,rfl⟩
theorem zL0 (w:be):bd ba 209 #[ag .u64 0] w λe w'=>(∃ k,e=.returned (ag ai k))/\w'=w:=by
 have h:=zJp w;go_enter Tryz.func209,Tryz.ntmps209;go_wp2_with fail;apply h.mono;rintro e w' ⟨⟨k,rfl⟩,rfl⟩;go_wp2;go_ret;exact⟨⟨_,rfl⟩,rfl⟩
theorem zKY (a:ar ax)(c h:Q)(S:T Src)(w:be)(o:w.ownsRow h 174 13 (aj a S c) (S:Q) (sflat S))(z:(S:Q)<=1000):
  bd ba 162 #[aj a S c,.func (.func 163) #[] #[]] w λe w'=>e=.returned (.tuple #[])/\
   (∃ u:T Src,u.Perm S/\u.Pairwise (λx y=>x.at_<=y.at_)/\w'.ownsRow h 174 13 (aj a u c) (u:Q) (sflat u))/\Fr (λb=>(al a S c).ownBlock=G b) w w':=by
 by_cases v:S=[]
 .subst v;apply (zKe a c _ w (zL0 w)).mono;rintro e w' ⟨rfl,rfl⟩;exact⟨rfl,⟨[],.refl _,.nil,o⟩,bf _ _⟩
 .exact zMX a c h S w o v z
structure RB (c:RC)(w0:be)(base:Q)(ds:T Dev)(tx:Dev->B)(E K:T B):Prop where
 sz:(w0:Q)=c.b0
 env:Env w0
 tr:Tr w0 base c.a c.cap ds
 n:c.n=(ds:Q)
 dn:(ds:Q)<=250
 es:Strs w0 c.ea c.ec E
 en:c.en=(E:Q)
 ks:Strs w0 c.ka c.kc K
 kn:c.kn=(K:Q)
 kl:(K:Q)<=1000000
 kz:∀ x∈K,x.size<=ak
 tx:TxS w0 c.b0 tx ds
 cm:∀ s∈c.C,s.d∈ds/\s.o.size<=1000000/\0<=s.r
 cn:c.C.length<=250
theorem RB.tr' {c:RC}{o:Q}{v:T B}(h:RB c u o ds tx E v)(y:Fr (From (u:Q)) u w):Tr w o c.a c.cap ds:=h.tr.keep y (λb z _ h=>by omega)
theorem RB.env' {c:RC}{o:Q}{v:T B}(h:RB c u o ds tx E v)(y:Fr (From (u:Q)) u w):Env w:=h.env.fr y (λb z=>by unfold From;have:=h.env.sz;omega)
theorem RB.tx' {c:RC}{o:Q}{v:T B}(h:RB c u o ds tx E v)(y:Fr (From (u:Q)) u w):TxS w c.b0 tx ds:=h.tx.fr y (λb A z=>by unfold From at z;have:=h.sz;omega)
theorem TxS.sub {o:Q}{u:T Dev}(h:TxS w o tx L)(v:∀ d∈u,d∈L):TxS w o tx u:=λd y=>h d (v d y)
theorem zOL (v:Vir)(w:be):Virs (w.alloc (aw v.vals 94)) (G ⟨w,0,ac⟩) 1 [v]:=by
 refine⟨by simp,by unfold ak;omega,(λe=>by cases e),λu e o=>?_⟩;cases e;refine⟨rfl,by simp,λi m h j y=>?_⟩;cases i with
 | zero=>
  simp at h;subst h;rw[zB (zF w (aw v.vals 94))];simp
 | succ i=>simp at h
theorem zQS (c:RC)(w0:be)(A8:Q)(ds:T Dev)(tx:Dev->B)(E a3:T B)(hB:RB c w0 A8 ds tx E a3)(sa:ar ax)(sc:Q)(ma:ar ax)(mc:Q)(S:T Src)(M:T Vir)(l5:T (B×B))(r:ae)(w:be)(M5:Fr (From (w0:Q)) w0 w)(h:RS c w sa sc ma mc S M l5)
  (M6:∀ s∈S,s.d∈ds/\s.o.size<=1000000) (j0:(S:Q)<=1000) (hS7:(S:Q)<=700) (hMn:(M:Q)<=10000) (hGn:(l5:Q)<=10000):
  bd ba 110 #[cf (G ⟨c.xb,0,ac⟩),r] w λe w'=>(∃ S' M' G' V5 V6 d9 g0,e=.returned (.bool (decide ((M:Q)<(M':T Vir).length)))/\RS c w' V5 V6 d9 g0 S' M' G'/\NextR ds tx E a3 c.C r S M l5 S' M' G')/\Fr (From (w0:Q)) w0 w':=by
 have U:=zh hB;have t7:w ⟨c.xb,8,ac⟩=G (aj ma M mc):=zB h.k 8;have t5:w ⟨c.xb,5,ac⟩=G (aj sa S sc):=zB h.k 5;obtain⟨a9,c9,F7,r0,r1⟩:=dm h.so;cases F7;have hsm:=r0.lenmax;have hMm:(M:Q)<=9223372036854775807:=by omega
 have Hh:=zh h;have V7:=zh M5;have i6:=zh M6;clear h hB M5 M6 r1 r0;go_enter Tryz.func110,Tryz.ntmps110;go_wp2_with fail;clear t5 t7;go_loopw [26] (λx wr=>∃ (j:Q) (Mj:T Vir) (d9:ar ax) (g0:Q),j<=(S:Q)/\x=ag ai (j:ae)/\a0 (Mj=wantS tx S M r j)/\RS c wr sa sc d9 g0 S Mj l5/\Fr (From (w0:Q)) w0 wr) (λx _=>(S:Q)-(au x).toNat);case atStart=>exact⟨0,M,ma,mc,by omega,rfl,by unfold a0 wantS;simp,Hh.out,V7.out⟩
 case round=>
  obtain⟨j,Mj,d9,g0,hj,rfl,y8,hR,hf⟩:=hrel;by_cases n3:j<(S:Q)
  .have g8:(j:ae)<(S:Q):=by omega
   obtain⟨a9,c9,F7,r0,r1⟩:=dm hR.so;cases F7;obtain⟨cb,M7,s,rfl,A,⟨c0,c1,c2,c3,c4,c5,c6,c7,c8,c9,r2,r3,r4⟩,M8⟩:=r0.elem n3;have i8:=i6.out s (az A);have p5:=zh (zEt (tx:=tx) (M:=M) (r:=r) A);have F8:=zGK tx S M r j;rw[<-y8]at F8;obtain⟨W1,b7,X,d1⟩:=zy wr (aw s.vals 174);have F9:=hf.step X zn;obtain⟨l,hA,r5,p6,y9,-⟩:=U.tx' F9 s.d i8.1;have V9:s.d.orig.size<=1000000:=by
    have:=U.tr.wf.ok.sz s.d i8.1;omega
   have I0:=zOt s.d l s.o r W1 (U.env' F9) hA r5 V9 (by rw[p6];exact y9);rw[p6]at I0;have i7:=hR.no X;have j1:=zh F9;have z:=SrcB0.of d1;unfold Src.vals at b7;clear A hR hf r0 r1 hA y9 d1 r5 p6;go_upto_region 5 with(fail)
   rw[<-b7];clear b7 c0 c1 c2 c3 c4 c5 c6 c7 c8 c9 r2 r3 r4;obtain⟨c0,c1,c2,c3,c4,c5,c6,c7,c8,c9,r2,r3,r4⟩:=z;go_wp2_with fail;apply I0.mono;rintro e w2 ⟨⟨av,cv,V,hV,rfl,M9,l6⟩,n4⟩;have N0:=i7.no n4;have b8:=zBT c _ sc d9 g0 S Mj l5 av cv V w2 N0 M9 (λad e hn=>by
    have h1:=l6 ad e;refine⟨?_,?_,?_⟩;·have:=zC i7.k;omega
    .have:=i7.wmo.lt;omega
    .intro ho;have:=ze i7.mo ho;omega) (λv hv=>by
    rw[hV]at hv;have:=zOp hv;refine⟨?_,?_⟩;·rw[this.1];unfold ak;omega
    .unfold ak;omega) (by rw[hV];have:=zKq s.o s.d (tx s.d) r;omega)
   have HV:=zh hV;have HX:=zg2 i7 (j1.step n4 zn);clear I0 c0 c1 c2 c3 c4 c5 c6 c7 c8 c9 r2 r3 r4 i7 N0 n4 M9 l6 hV;go_wp2_with fail;apply b8.mono;rintro e w3 ⟨rfl,⟨J,N,N1,-⟩,a4⟩;have z4:=zh (And.intro N1 (HX.2.step a4 (λb hb h=>by
    unfold From;have h0:=U.sz;rcases h with h|h|h
    .have:=HX.1.lo;omega
    .have:=HX.1.lo;omega
    .have:=zQ HX.1.mo h;omega)))
   have W0:a0 (zv Mj V=wantS tx S M r (j+1)):=(by unfold a0;rw[p5,HV,y8]);clear b8 N1 a4;go_wp2;go_roundw;case rel=>exact⟨j+1,zv Mj V,J,N,by omega,by go_num,W0,z4.1,z4.2⟩
   case measure=>simp[au];omega
  .obtain rfl:j=(S:Q):=by omega
   have g8:¬ ((S:Q):ae)<(S:Q):=(by omega);have F8:=zGK tx S M r (S:Q);rw[<-y8]at F8;have Z3:(Mj:Q)<=26000:=(by omega);have Z4:=hf.size;have n5:=U.sz;have N2:=zEj 152 (λargs w=>cw Tryz.func152 (by kernel_rfl) rfl _ _) (ofK 2 mk2) (λp rd s W hE A=>(zNf p s rd W hE A).mono (λe w' h=>⟨h.1.of,h.2⟩)) tx c.b0 c sa sc d9 g0 S Mj l5 wr hR (U.env' hf) ((U.tx' hf).sub (λd hd=>by
    obtain⟨s,A,rfl⟩:=List.mem_map.1 hd;exact(i6 s A).1)) (by omega) j0
   have HR:=zg2 hR hf;clear hR hf;go_wp2_with fail;apply N2.mono;rintro e w2 ⟨⟨L,la,lc,hL,rfl,N3,W2⟩,n4⟩;have I1:=zh (HR.2.step n4 zn);obtain⟨m0,N4⟩:=(U.env' I1).len;have N5:=zPh la lc L m0 w2 N3 (zA2 zLC hL j0 (λs A=>(i6 s A).2)) N4 (by have:=(U.env' I1).sz;omega);have HL:=zh hL;have j2:=zh (HR.1.no n4);clear N2 hL N3 W2 N4 n4;go_wp2_with fail;apply N5.mono;rintro e w3 ⟨⟨ao,co,O,W4,rfl,hA,N6,N7,A9,hO,Z5,-⟩,a4⟩;have n6:=zh (I1.step a4 zn);have z4:=zh (j2.no a4);have hOn:(O:Q)<=1000:=by
    have:=bb bn hO;simp only[bh]at this;omega
   have hAm:=hA.lenmax;have N8:=zC j2.k;have N9:=j2.wmo.lt;have O0:=j2.smo.lt;have D2:∀ b,(al d9 Mj g0).ownBlock=G b->b<(w2:Q):=λb hb=>ze j2.mo hb
   have O1:∀ b,(b=c.xb\/b=c.wm\/b=c.sm\/(al d9 Mj g0).ownBlock=G b)->b<(w2:Q):=λb hb=>by
    rcases hb with hb|hb|hb|hb
    .omega
    .omega
    .omega
    .exact D2 b hb
   have z5:=zh O1;have HA:=zg3 hA N6 N7;have HO:=zg2 A9 hO;have Z6:=zh a4.size;clear N5 hA N6 N7 A9 hO a4 O1 D2 N8 N9 O0;go_wp2_with fail;go_loopw [43] (λx wr=>∃ (j:Q) (I:T Vir) (G2:T (B×B)) (J:ar ax) (N:Q),j<=(O:Q)/\x=ag ai (j:ae)/\a0 ((I,G2)=arrAll ds E r (Mj,l5) O j)/\RS c wr sa sc J N S I G2/\a0 (∀ b,(al J I N).ownBlock=G b->(al d9 Mj g0).ownBlock=G b\/(w3:Q)<=b)/\Fr (λb=>b=c.xb\/b=c.wm\/b=c.sm\/(al d9 Mj g0).ownBlock=G b) w3 wr) (λx _=>(O:Q)-(au x).toNat);case atStart=>exact⟨0,Mj,l5,d9,g0,by omega,rfl,by unfold a0 arrAll;simp,z4.out,λb h=>.inl h,bf _ _⟩
   case round=>
    obtain⟨j,I,G2,J,N,hj,rfl,g2,hR,d0,hf⟩:=hrel;by_cases n3:j<(O:Q)
    .have g8:(j:ae)<(O:Q):=(by omega);have r6:Arrs wr ao co O:=HA.1.fr hf (λad e hn A=>by
      have h1:=z5.out _ A;have h2:=HA.2.1 ad e;omega) (λm hm=>⟨λad e hn A=>by
      have h1:=z5.out _ A;have h2:=(HA.2.2 m hm).2.2.1 ad e;omega,λad e hn A=>by
      have h1:=z5.out _ A;have h2:=(HA.2.2 m hm).2.2.2 ad e;omega⟩)
     obtain⟨ab,O2,m,rfl,hm,⟨I2,r7⟩,⟨c0,c1,c2,c3,c4,c5⟩,O3⟩:=r6.elem n3;have p7:=zh (az hm);have n7:=zh (zEe (ds:=ds) (E:=E) (r:=r) (x:=(Mj,l5)) hm);have z6:=zDJ ds E r (Mj,l5) O j;rw[<-g2]at z6;have z7:m.i.size<=1000000:=zJJ HO.1 HO.2 p7 (zA2 zLC HL j0 (λs A=>(i6 s A).2)).i;obtain⟨W1,b7,X,d1⟩:=zy wr (aw m.vals 216);have j1:a0 (Fr (From (w0:Q)) w0 W1):=(n6.step hf (λb hb A=>by
      unfold From;have h0:=j2.lo;have n5:=U.sz;rcases A with A|A|A|A
      .omega
      .omega
      .omega
      .have:=zQ j2.mo A;omega)).step X zn
     have i7:=hR.no X;have a6:=zh i7;have D1:=zh d1;have Hf:=zh (hf.step X zn);have I3:=zh (r7.no X (λ_=>id));have O5:=X.size;have O6:=hf.size;unfold ArrM.vals at b7;clear hm hR r6 I2 r7 hf X;go_upto_region 10 with(fail)
     rw[<-b7];clear b7 c0 c1 c2 c3 c4 c5;obtain⟨ex,I4⟩:=ε (exB ds m.i)
     obtain⟨xp,I5⟩:=ε (hasS E m.i)
     have O7:a0 (∀ W,Fr No W1 W->bd ba 154 #[cf (G ⟨c.xb,0,ac⟩),ah m.i] W λe w'=>e=.returned ex/\Fr No W w'):=λW hW=>by
      rw[I4];exact zNj c sa sc J N S I G2 m.i ds A8 W (a6.no hW) z7 (U.tr' (j1.step hW zn)) U.n (by have:=U.dn;omega)
     have O8:a0 (∀ W,Fr No W1 W->bd ba 49 #[aj c.ea E c.ec,ah m.i] W λe w'=>e=.returned xp/\Fr No W w'):=λW hW=>by
      rw[I5];exact zFX c.ea c.ec E m.i W (U.es.fr (j1.step hW zn) (λad e hn A=>by have:=(U.es.cell ad e hn).2.1;omega))
     have I6:a0 (zAW ds E r (I,G2) m=if mustB m.t m.e m.n ex xp=af then
  (if (G2.any λy=>decide (y=(mdK,m.i)))=af then (I,G2++[(mdK,m.i)])else (zAG I (mdOf m.i m.l r),G2++[(mdK,m.i)]))
 else (I,G2)):=by unfold a0;rw[I4,I5];rfl
     clear I4 I5;rcases hmu:mustB m.t m.e m.n ex xp with _|_
     .skip;refine zO (Is c.sm) [(0,H),(1,H),(2,H),(3,H),(5,H),(6,H),(7,H),(8,H),(9,H),(10,H),(4,af),(11,af),(12,af),(13,H),(14,H),(15,H),(16,H),(17,af),(18,H)] (λwx g3=>?_);have Z:=a6.no g3;have dB:=g3.heap d1 id;have y0:∀ g:Gr (Is c.sm) wx,g.W ⟨wr,0,ac⟩=G (ah m.i):=λg=>zB (g.fr.heap dB (λh=>Z.smo.ne_cells dB h)) 0
      have y1:∀ g:Gr (Is c.sm) wx,g.W ⟨wr,1,ac⟩=G (aj m.pa m.ps.length m.pc):=λg=>zB (g.fr.heap dB (λh=>Z.smo.ne_cells dB h)) 1
      have y2:∀ g:Gr (Is c.sm) wx,g.W ⟨wr,2,ac⟩=G (ag ai m.t):=λg=>zB (g.fr.heap dB (λh=>Z.smo.ne_cells dB h)) 2
      have y3:∀ g:Gr (Is c.sm) wx,g.W ⟨wr,3,ac⟩=G (ag ai m.e):=λg=>zB (g.fr.heap dB (λh=>Z.smo.ne_cells dB h)) 3
      have y4:∀ g:Gr (Is c.sm) wx,g.W ⟨wr,4,ac⟩=G (ag ai m.n):=λg=>zB (g.fr.heap dB (λh=>Z.smo.ne_cells dB h)) 4
      have y5:∀ g:Gr (Is c.sm) wx,g.W ⟨wr,5,ac⟩=G (aj m.la m.l.length m.lc):=λg=>zB (g.fr.heap dB (λh=>Z.smo.ne_cells dB h)) 5
      have x4:∀ g:Gr (Is c.sm) wx,g.W ⟨c.xb,4,ac⟩=G (aj c.ea E c.ec):=λg=>by
       have:=zB (g.fr.heap Z.k (λh=>Z.smo.ne_cells Z.k h)) 4;rw[U.en]at this;exact this
      have g9:=zh g3;clear g3 Z dB d1 i7;(repeat(first|apply zR rfl rfl rfl|apply zS rfl rfl rfl);intro a3 hK;go_big_quiet_op;go_big_quiet_on);clear y0 y1 y2 y3 y4 y5 x4;apply zu rfl;go_wp2_with fail;apply (O7 wx g9).mono;rintro e w4 ⟨rfl,n8⟩;have g4:=zh (g9.step n8 zi);go_wp2_with fail;apply zm n8;clear n8;apply zu rfl;go_wp2_with fail;apply (O8 w4 g4).mono;rintro e w5 ⟨rfl,n9⟩;have I7:=zh (g4.step n9 zi);go_wp2_with fail;apply zm n9;clear n9;apply zu rfl;go_wp2_with fail;apply (zOF m.i m.t m.e m.n m.pa m.ps.length m.pc m.la m.lc m.l ex xp w5).mono;rintro e w6 ⟨rfl,Y⟩;rw[hmu];have a2:=zh (I7.step Y zi);go_wp2_with fail;apply zm Y;clear Y;(repeat(first|apply zR rfl rfl rfl|apply zS rfl rfl rfl);intro a3 hK;go_big_quiet_op;go_big_quiet_on);apply zu rfl;go_wp2_with fail;apply zq;(repeat(first|apply zR rfl rfl rfl|apply zS rfl rfl rfl);intro a3 hK;go_big_quiet_op;go_big_quiet_on);apply zY;have g5:a0 ((I,G2)=arrAll ds E r (Mj,l5) O (j+1)):=(by unfold a0;rw[n7,<-g2,I6,hmu];rfl);have O9:=zg2 (a6.no a2) (Hf.step a2 zn);clear hmu;go_wp2;go_roundw;case rel=>exact⟨j+1,I,G2,J,N,by omega,by go_num,g5,O9.1,d0,O9.2⟩
      case measure=>simp[au];omega
     .skip;refine zO (Is c.sm) [(0,H),(1,H),(2,H),(3,H),(5,H),(6,H),(7,H),(8,H),(9,H),(10,H),(4,af),(11,af),(12,af),(13,H),(14,H),(15,H),(16,H),(17,af),(18,H)] (λwx g3=>?_);have Z:=a6.no g3;have dB:=g3.heap d1 id;have y0:∀ g:Gr (Is c.sm) wx,g.W ⟨wr,0,ac⟩=G (ah m.i):=λg=>zB (g.fr.heap dB (λh=>Z.smo.ne_cells dB h)) 0
      have y1:∀ g:Gr (Is c.sm) wx,g.W ⟨wr,1,ac⟩=G (aj m.pa m.ps.length m.pc):=λg=>zB (g.fr.heap dB (λh=>Z.smo.ne_cells dB h)) 1
      have y2:∀ g:Gr (Is c.sm) wx,g.W ⟨wr,2,ac⟩=G (ag ai m.t):=λg=>zB (g.fr.heap dB (λh=>Z.smo.ne_cells dB h)) 2
      have y3:∀ g:Gr (Is c.sm) wx,g.W ⟨wr,3,ac⟩=G (ag ai m.e):=λg=>zB (g.fr.heap dB (λh=>Z.smo.ne_cells dB h)) 3
      have y4:∀ g:Gr (Is c.sm) wx,g.W ⟨wr,4,ac⟩=G (ag ai m.n):=λg=>zB (g.fr.heap dB (λh=>Z.smo.ne_cells dB h)) 4
      have y5:∀ g:Gr (Is c.sm) wx,g.W ⟨wr,5,ac⟩=G (aj m.la m.l.length m.lc):=λg=>zB (g.fr.heap dB (λh=>Z.smo.ne_cells dB h)) 5
      have x4:∀ g:Gr (Is c.sm) wx,g.W ⟨c.xb,4,ac⟩=G (aj c.ea E c.ec):=λg=>by
       have:=zB (g.fr.heap Z.k (λh=>Z.smo.ne_cells Z.k h)) 4;rw[U.en]at this;exact this
      have g9:=zh g3;clear g3 Z dB d1 i7;(repeat(first|apply zR rfl rfl rfl|apply zS rfl rfl rfl);intro a3 hK;go_big_quiet_op;go_big_quiet_on);clear y0 y1 y2 y3 y4 y5 x4;apply zu rfl;go_wp2_with fail;apply (O7 wx g9).mono;rintro e w4 ⟨rfl,n8⟩;have g4:=zh (g9.step n8 zi);go_wp2_with fail;apply zm n8;clear n8;apply zu rfl;go_wp2_with fail;apply (O8 w4 g4).mono;rintro e w5 ⟨rfl,n9⟩;have I7:=zh (g4.step n9 zi);go_wp2_with fail;apply zm n9;clear n9;apply zu rfl;go_wp2_with fail;apply (zOF m.i m.t m.e m.n m.pa m.ps.length m.pc m.la m.lc m.l ex xp w5).mono;rintro e w6 ⟨rfl,Y⟩;rw[hmu];have a2:=zh (I7.step Y zi);go_wp2_with fail;apply zm Y;clear Y;have y0:∀ g:Gr (Is c.sm) w6,g.W ⟨wr,0,ac⟩=G (ah m.i):=λg=>zB (g.fr.heap (a2.heap D1 id) (λh=>(a6.no a2).smo.ne_cells (a2.heap D1 id) h)) 0
      (repeat(first|apply zR rfl rfl rfl|apply zS rfl rfl rfl);intro a3 hK;go_big_quiet_op;go_big_quiet_on);clear y0;apply zu rfl;have o0:=zOE c sa sc J N S I G2 mdK m.i w6 (a6.no a2) (by unfold ak;show 2<=_;omega) (by unfold ak;omega) (by omega);unfold mdK at o0;go_wp2_with fail;apply o0.mono;rintro e w7 ⟨rfl,r8,g6⟩;have a5:=zg2 r8 ((Hf.step a2 zn).step g6 (λb hb h=>by unfold Is at h;exact .inr (.inr (.inl h))));have g7:=zh g6;clear r8 o0;go_wp2_with fail;apply zf g6;clear g6;(repeat(first|apply zR rfl rfl rfl|apply zS rfl rfl rfl);intro a3 hK;go_big_quiet_op;go_big_quiet_on);apply zY;rcases hsn:(G2.any λx=>decide (x=((⟨#[109,100]⟩:B),m.i)))with _|_
      .skip;have g5:a0 ((zAG I (mdOf m.i m.l r),G2++[(mdK,m.i)])=arrAll ds E r (Mj,l5) O (j+1)):=(by unfold a0;rw[n7.out,<-g2.out,I6.out,hmu,aq rfl];exact(am (λh=>by have:=hsn.symm.trans h;cases this)).symm);clear hmu hsn;have q7:=g7.heap (a2.heap D1 id) (λh=>(a6.no a2).smo.ne_cells (a2.heap D1 id) h);obtain⟨b0,b1,b2,b3,b4,b5⟩:=cl6 q7;have r9:m∈O:=p7.out;have l7:Strs w7 m.la m.lc m.l:=(I3.no a2 (λ_=>id)).fr g7 (λad e hn A=>by
        unfold Is at A;have h1:=(HA.2.2 m r9).2.2.2 ad e;have h2:=z5.out c.sm (.inr (.inr (.inl rfl)));omega)
       have o1:=zQR m.i m.t m.e m.n r m.pa m.ps.length m.pc m.la m.lc m.l w7 z7 l7;have I8:(mdOf m.i m.l r).q.size<=ak/\(mdOf m.i m.l r).o.size<=maxLen:=by
        refine⟨by show (0:Q)<=_;omega,?_⟩;show (mdT++m.i).size<=ak
        rw[ByteArray.size_append];unfold ak;show 3+m.i.size<=_
        omega
       obtain⟨v,hv⟩:=ε (mdOf m.i m.l r)
       rw[<-hv]at o1 g5 I8;have W5:=zh I8;unfold cr at o1;clear hv I8 q7 l7 r9;go_wp2_with fail;apply o1.mono;rintro e w8 ⟨rfl,o2⟩;have o3:Fr No w8 (w8.alloc (aw v.vals 94)):=(bf _ _).alloc _;have I9:=a5.1.no o2;have j3:=zh I9;have b8:=zBT c sa sc J N S I (G2++[(mdK,m.i)]) (G ⟨w8,0,ac⟩) 1 [v] (w8.alloc (aw v.vals 94)) (I9.no o3) (zOL v w8) (λad e hn=>by
        cases e;refine⟨?_,?_,?_⟩;·have:=zC j3.k;show (w8:Q)≠_;omega
        .have:=j3.wmo.lt;show (w8:Q)≠_;omega
        .intro ho;have:(w8:Q)<(w8:Q):=ze j3.mo ho;omega) (λu hu=>by simp at hu;subst hu;exact W5.out) (by simp;omega)
       have o4:=zh ((a5.2.step o2 zn).step o3 zn);have J0:=o4.size;unfold cr at b8;clear o1 b0 b1 b2 b3 b4 b5 o2 o3 I9;go_wp2_with fail;apply b8.mono;rintro e J1 ⟨rfl,⟨h5,h6,l8,d2⟩,l9⟩;have s0:=zh l8;have s1:a0 (Fr (λb=>b=c.xb\/b=c.wm\/b=c.sm\/(al d9 Mj g0).ownBlock=G b) w3 J1):=o4.step l9 (λb hb h=>by
        rcases h with h|h|h
        .exact .inl h
        .exact .inr (.inl h)
        .rcases d0.out b h with h|h
         .exact .inr (.inr (.inr h))
         .omega)
       have j4:a0 (∀ b,(al h5 (zv I [v]).length h6).ownBlock=G b->(al d9 Mj g0).ownBlock=G b\/(w3:Q)<=b):=λb hb=>by
        rcases d2 b hb with h|h
        .exact d0 b h
        .refine .inr (cd ?_ h);exact J0
       clear b8 l8 d2 l9;go_wp2;go_roundw;case rel=>exact⟨j+1,zv I [v],G2++[(mdK,m.i)],h5,h6,by omega,by go_num,g5,s0,j4,s1⟩
       case measure=>simp[au];omega
      .have g5:a0 ((I,G2++[(mdK,m.i)])=arrAll ds E r (Mj,l5) O (j+1)):=(by unfold a0;rw[n7,<-g2,I6,hmu,aq rfl];exact(aq hsn).symm);clear hmu hsn;go_wp2;go_roundw;case rel=>exact⟨j+1,I,G2++[(mdK,m.i)],J,N,by omega,by go_num,g5,a5.1,d0,a5.2⟩
       case measure=>simp[au];omega
    .skip;obtain rfl:j=(O:Q):=by omega
     have g8:¬ ((O:Q):ae)<(O:Q):=(by omega);have z6:=zDJ ds E r (Mj,l5) O (O:Q);rw[<-g2]at z6;have s4:a0 (Fr (From (w0:Q)) w0 wr):=n6.step hf (λb hb A=>by
      unfold From;have h0:=j2.lo;have n5:=U.sz;rcases A with A|A|A|A
      .omega
      .omega
      .omega
      .have:=zQ j2.mo A;omega)
     have o5:=zh hR;have R0:c.b0<=(wr:Q):=(by have:=s4.size;omega);have R1:wr ⟨c.xb,0,ac⟩=G (aj c.ka a3 c.kc):=by
      have:=zB hR.k 0;rw[U.kn]at this;exact this
     have R2:=zh R1;have R3:a0 (∀ W,Fr No wr W->bd ba 151 #[cf (G ⟨c.xb,0,ac⟩),.func (.func 158) #[] #[]] W λe w'=>(∃ (L:T Mem) (a:ar ax) (R4:Q),L.map Mem.k=S.filterMap (λs=>ofK 3 mk3 s.o s.r (tx s.d))/\e=.returned (aj a L R4)/\Mems w' a R4 L/\(∀ ad,a=G ad->(W:Q)<=ad.block))/\Fr No W w'):=λW hW=>
      have R5:=s4.step hW zn
      zEj 158 (λargs w=>cw Tryz.func158 (by kernel_rfl) rfl _ _) (ofK 3 mk3) (λp rd s W hE A=>(zNS p s rd W hE A).mono (λe w' h=>⟨h.1.of,h.2⟩)) tx c.b0 c sa sc J N S I G2 W (o5.no hW) (U.env' R5) ((U.tx' R5).sub (λd hd=>by
       obtain⟨s,A,rfl⟩:=List.mem_map.1 hd;exact(i6 s A).1)) (cd R0 hW.size) j0
     clear hR hf R1;go_upto_region 13 with(fail)
     refine zZ (λb=>b=c.xb\/b=c.wm\/(al J I N).ownBlock=G b) (.q 0 (.q 1 (.q 3 (.q 4 (.q 5 (.q 6 (.q 8 (.m2 2 (.m1 7 (.m1 9 (.m1 10 .fin))) 7 (.m1 2 (.m1 9 (.m1 10 .fin))))))))))) _ (λwx g3=>?_) zj;have g9:=zh g3;clear g3;(repeat(first|apply zN rfl rfl rfl|apply zK rfl rfl rfl);intro a3 hK;go_big_quiet_op;go_big_quiet_on);refine zAC rfl rfl ?_ ?_
     focus
      go_wp2_with fail;apply (R3 wx g9).mono;rintro e z8 ⟨⟨L3,l3,c3,s5,rfl,s6,-⟩,h7⟩;have g1:=zh (g9.step h7 zi);have p8:=zg2 s5 s6;clear s5 s6;go_wp2_with fail;apply zm h7;clear h7;apply zH rfl;have k0:z8 ⟨c.xb,0,ac⟩=G (aj c.ka a3 c.kc):=g1.cell R2 id;go_wp2_with fail;apply zq;clear k0;apply zH rfl;have b9:=s4.step g1 zn;have h8:=U.env' b9;obtain⟨m3,s7⟩:=h8.len;have h9:=zE8 zLB p8.1 j0 (λs A=>(i6 s A).2);have s8:=zh h9;have s9:=zN9 l3 c3 L3 c.ka c.kc a3 r m3 z8 p8.2 h9 (U.ks.fr b9 (λad e hn A=>by have:=(U.ks.cell ad e hn).2.1;omega)) U.kl U.kz s7 (by have:=h8.sz;omega);clear s7 h8 h9 b9;go_wp2_with fail;apply s9.mono;rintro e J2 ⟨⟨av,cv,V,i9,rfl,hV,l6,i3,o6,W6⟩,i4⟩;have p0:=zh (g1.step i4 zi);have HV:=zg4 hV l6 i3 o6;have W7:(V:Q)<=1000:=by
       have h1:=bb bn o6;rw[bh]at h1;have h2:(opened i9 a3).length<=(i9:Q):=dg _ _;have h3:=s8.len;omega
      clear s9 hV l6 i3 o6;go_wp2_with fail;apply zm i4;clear i4;apply zH rfl;have m5:=o5.no p0;have d4:=o5.no g1;have b8:=zBT c sa sc J N S I G2 av cv V J2 m5 HV.1 (λad e hn=>by
       have h1:=HV.2.1 ad e;refine⟨?_,?_,?_⟩;·have:=zC d4.k;omega
       .have:=d4.wmo.lt;omega
       .intro ho;have:=ze d4.mo ho;omega) (λv hv=>by
       rw[HV.2.2.2]at hv;have:=zGl HV.2.2.1 hv s8.i;unfold ak;omega) (by omega)
      clear m5 d4;go_wp2_with fail;apply b8.mono;rintro e J3 ⟨rfl,⟨h5,h6,m6,d5⟩,i5⟩;have m7:=zg3 m6 d5 i5;clear b8 m6 d5;go_wp2_with fail;apply zf i5;clear i5;apply zW
     rotate_left 1
     focus
      have k0:wx ⟨c.xb,0,ac⟩=G (aj c.ka a3 c.kc):=g9.cell R2 id;go_wp2_with fail;apply zq;clear k0;apply zH rfl;go_wp2_with fail;apply (R3 wx g9).mono;rintro e z8 ⟨⟨L3,l3,c3,s5,rfl,s6,-⟩,h7⟩;have g1:=zh (g9.step h7 zi);have p8:=zg2 s5 s6;clear s5 s6;go_wp2_with fail;apply zm h7;clear h7;apply zH rfl;have b9:=s4.step g1 zn;have h8:=U.env' b9;obtain⟨m3,s7⟩:=h8.len;have h9:=zE8 zLB p8.1 j0 (λs A=>(i6 s A).2);have s8:=zh h9;have s9:=zN9 l3 c3 L3 c.ka c.kc a3 r m3 z8 p8.2 h9 (U.ks.fr b9 (λad e hn A=>by have:=(U.ks.cell ad e hn).2.1;omega)) U.kl U.kz s7 (by have:=h8.sz;omega);clear s7 h8 h9 b9;go_wp2_with fail;apply s9.mono;rintro e J2 ⟨⟨av,cv,V,i9,rfl,hV,l6,i3,o6,W6⟩,i4⟩;have p0:=zh (g1.step i4 zi);have HV:=zg4 hV l6 i3 o6;have W7:(V:Q)<=1000:=by
       have h1:=bb bn o6;rw[bh]at h1;have h2:(opened i9 a3).length<=(i9:Q):=dg _ _;have h3:=s8.len;omega
      clear s9 hV l6 i3 o6;go_wp2_with fail;apply zm i4;clear i4;apply zH rfl;have m5:=o5.no p0;have d4:=o5.no g1;have b8:=zBT c sa sc J N S I G2 av cv V J2 m5 HV.1 (λad e hn=>by
       have h1:=HV.2.1 ad e;refine⟨?_,?_,?_⟩;·have:=zC d4.k;omega
       .have:=d4.wmo.lt;omega
       .intro ho;have:=ze d4.mo ho;omega) (λv hv=>by
       rw[HV.2.2.2]at hv;have:=zGl HV.2.2.1 hv s8.i;unfold ak;omega) (by omega)
      clear m5 d4;go_wp2_with fail;apply b8.mono;rintro e J3 ⟨rfl,⟨h5,h6,m6,d5⟩,i5⟩;have m7:=zg3 m6 d5 i5;clear b8 m6 d5;go_wp2_with fail;apply zf i5;clear i5;apply zW
     all_goals (
      have j5:a0 (Fr (From (w0:Q)) w0 J3):=(s4.step p0 zn).step m7.2.2 (λb hb A=>by
       unfold From;have h0:=o5.lo;have n5:=U.sz;rcases A with A|A|A
       .omega
       .omega
       .have:=zQ o5.mo A;omega)
      have J4:=zh m7.1;have z9:=zh m7.2.1;have R6:(zv I V).length<=28000:=(by have:=zA0 V I;omega);have Z7:(G2:Q)<=11000:=(by omega);obtain⟨M3,t0⟩:=ε (zv I V)
      have W8:a0 (MidR ds tx E a3 r S M l5 M3 G2):=⟨L,W4,O,I,L3,i9,HL,HO.1,HO.2,by rw[<-y8];exact g2,p8.1,HV.2.2.1,by rw[t0,HV.2.2.2]⟩
      rw[<-t0]at J4 z9 R6;clear t0 m7;have Z8:=j5.size;have D3:=zEj 160 (λargs w=>cw Tryz.func160 (by kernel_rfl) rfl _ _) (ofK 4 mk4) (λp rd s W hE A=>(zKJ p s rd W hE A).mono (λe w' h=>⟨h.1.of,h.2⟩)) tx c.b0 c sa sc h5 h6 S M3 G2 J3 J4 (U.env' j5) ((U.tx' j5).sub (λd hd=>by
       obtain⟨s,A,rfl⟩:=List.mem_map.1 hd;exact(i6 s A).1)) (by have:=U.sz;omega) j0
      go_wp2_with fail;apply D3.mono;rintro e R7 ⟨⟨L4,l4,c4,J5,rfl,D4,-⟩,t8⟩;have t9:=zh (j5.step t8 zn);obtain⟨m4,R8⟩:=(U.env' t9).len;have D5:=zOQ l4 c4 L4 m4 R7 D4 (zA2 zHf J5 j0 (λs A=>(i6 s A).2)) R8 (by have:=(U.env' t9).sz;omega);have J6:=zh J5;have d8:=zh (J4.no t8);clear D3 J5 D4 R8 t8;go_wp2_with fail;apply D5.mono;rintro e A0 ⟨⟨W9,X0,O4,p1,rfl,J7,D6,D7,v0,J8,X1,-⟩,v1⟩;have D8:=zh (t9.step v1 zn);have R9:=zh (d8.no v1);have Z9:(O4:Q)<=1000:=by
       have:=bb bn J8;simp only[bh]at this;omega
      have hAm4:=J7.lenmax;have p2:a0 (∀ b,(b=c.xb\/b=c.wm\/b=c.sm\/(al h5 M3 h6).ownBlock=G b)->b<(R7:Q)):=λb hb=>by
       rcases hb with hb|hb|hb|hb
       .have:=zC d8.k;omega
       .have:=d8.wmo.lt;omega
       .have:=d8.smo.lt;omega
       .exact ze d8.mo hb
      have v4:=zg3 J7 D6 D7;have v5:=zg2 v0 J8;clear D5 J7 D6 D7 v0 J8 v1;have D9:∀ m∈O4,m.l.length<=16:=λm hm=>zL8 v5.2 hm (zJo zHf J6)
      have F0:=zh D9;clear D9;go_wp2_with fail;go_loopw [88] (λx wr=>∃ (j:Q) (I:T Vir) (G4:T (B×B)) (J:ar ax) (N:Q),j<=(O4:Q)/\x=ag ai (j:ae)/\a0 ((I,G4)=grpAll r (M3,G2) O4 j)/\RS c wr sa sc J N S I G4/\a0 (∀ b,(al J I N).ownBlock=G b->(al h5 M3 h6).ownBlock=G b\/(A0:Q)<=b)/\Fr (λb=>b=c.xb\/b=c.wm\/b=c.sm\/(al h5 M3 h6).ownBlock=G b) A0 wr) (λx _=>(O4:Q)-(au x).toNat);case atStart=>exact⟨0,M3,G2,h5,h6,by omega,rfl,by unfold a0 grpAll;simp,R9.out,λb h=>.inl h,bf _ _⟩
      case round=>
       obtain⟨j,I,G4,J,N,hj,rfl,g2,hR,d0,hf⟩:=hrel;have z6:(I:Q)<=(M3:Q)+16*j/\(G4:Q)<=(G2:Q)+j:=by
        have:=zJv r (M3,G2) O4 F0 j;rw[<-g2]at this;exact this
       by_cases n3:j<(O4:Q)
       .have g8:(j:ae)<(O4:Q):=(by omega);have r6:Arrs wr W9 X0 O4:=v4.1.fr hf (λad e hn A=>by
         have h1:=p2.out _ A;have h2:=v4.2.1 ad e;omega) (λm hm=>⟨λad e hn A=>by
         have h1:=p2.out _ A;have h2:=(v4.2.2 m hm).2.2.1 ad e;omega,λad e hn A=>by
         have h1:=p2.out _ A;have h2:=(v4.2.2 m hm).2.2.2 ad e;omega⟩)
        obtain⟨ab,O2,m,rfl,hm,⟨I2,r7⟩,⟨c0,c1,c2,c3,c4,c5⟩,O3⟩:=r6.elem n3;have p7:=zh (az hm);have n7:=zh (zEN (r:=r) (x:=(M3,G2)) hm);have z7:m.i.size<=1000000:=zJJ v5.1 v5.2 p7 (zA2 zHf J6 j0 (λs A=>(i6 s A).2)).i;have hml:=F0.out m p7;obtain⟨W1,b7,X,d1⟩:=zy wr (aw m.vals 216);have j1:a0 (Fr (From (w0:Q)) w0 W1):=(D8.step hf (λb hb A=>by
         unfold From;have h0:=d8.lo;have n5:=U.sz;rcases A with A|A|A|A
         .omega
         .omega
         .omega
         .have:=zQ d8.mo A;omega)).step X zn
        have a6:=zh (hR.no X);have D1:=zh d1;have Hf:=zh (hf.step X zn);have I3:=zh (r7.no X (λ_=>id));have O5:=X.size;have O6:=hf.size;unfold ArrM.vals at b7;clear hm hR r6 I2 r7 hf X;go_upto_region 17 with(fail)
        rw[<-b7];clear b7 c0 c1 c2 c3 c4 c5;obtain⟨b0,b1,b2,b3,b4,b5⟩:=cl6 d1;have o7:a0 (zAQ r (I,G4) m=if m.n=m.t then
         (if (G4.any λy=>decide (y=(lvK,m.i)))=af then (I,G4++[(lvK,m.i)])else (zv I (wantL m.i m.t m.n m.l r),G4++[(lvK,m.i)]))
        else (I,G4)):=rfl
        clear d1;by_cases v6:m.n=m.t
        .have U0:=zh v6;have hnb:(m.n==m.t)=true:=(by simpa using v6);have o0:=zOE c sa sc J N S I G4 lvK m.i W1 a6 (by unfold ak;show 2<=_;omega) (by unfold ak;omega) (by omega);unfold lvK at o0;clear v6;go_wp2_with fail;apply o0.mono;rintro e w7 ⟨rfl,r8,g6⟩;have a5:=zg2 r8 (Hf.step g6 (λb hb h=>by unfold Is at h;exact .inr (.inr (.inl h))));have g7:=zh g6;clear r8 o0 b0 b1 b2 b3 b4 b5 g6;rcases hsn:(G4.any λx=>decide (x=((⟨#[108,118]⟩:B),m.i)))with _|_
         .have g5:a0 ((zv I (wantL m.i m.t m.n m.l r),G4++[(lvK,m.i)])=grpAll r (M3,G2) O4 (j+1)):=(by unfold a0;rw[n7.out,<-g2.out,o7.out,aq U0.out];exact(am (λh=>by have:=hsn.symm.trans h;cases this)).symm);clear hsn;have q7:=g7.heap D1 (λh=>a6.smo.ne_cells D1 h);obtain⟨b0,b1,b2,b3,b4,b5⟩:=cl6 q7;have r9:m∈O4:=p7.out;have l7:Strs w7 m.la m.lc m.l:=I3.fr g7 (λad e hn A=>by
           unfold Is at A;have h1:=(v4.2.2 m r9).2.2.2 ad e;have h2:=p2.out c.sm (.inr (.inr (.inl rfl)));omega)
          have U1:=U.env' (j1.step g7 (λb hb h=>by unfold Is at h;unfold From;have:=a6.lo;have:=U.sz;omega));have o1:=zOP m.i m.t m.e m.n r m.pa m.ps.length m.pc m.la m.lc m.l w7 U1 z7 l7 (by omega);clear q7 l7 U1 r9;go_wp2_with fail;apply o1.mono;rintro e w8 ⟨⟨a8,c8,V8,rfl,U2,p3,F1⟩,o2⟩;have j3:=zh (a5.1.no o2);have F2:=zGL m.i m.t m.n m.l r;rw[<-p3]at F2;have b8:=zBT c sa sc J N S I (G4++[(lvK,m.i)]) a8 c8 V8 w8 j3 U2 (λad e hn=>by
           have h1:=F1 ad e;refine⟨?_,?_,?_⟩;·have:=zC a5.1.k;omega
           .have:=a5.1.wmo.lt;omega
           .intro ho;have:=ze a5.1.mo ho;omega) (λv hv=>by
           rw[p3]at hv;have:=zKF hv;unfold ak;omega) (by omega)
          have X2:a0 ((zv I V8,G4++[(lvK,m.i)])=grpAll r (M3,G2) O4 (j+1)):=(by unfold a0;rw[p3];exact g5);have o4:=zh (a5.2.step o2 zn);have J0:=o4.size;clear o1 b0 b1 b2 b3 b4 b5 o2 U2 p3 F1 F2;go_wp2_with fail;apply b8.mono;rintro e J1 ⟨rfl,⟨U3,U4,l8,d2⟩,l9⟩;have s0:=zh l8;have s1:a0 (Fr (λb=>b=c.xb\/b=c.wm\/b=c.sm\/(al h5 M3 h6).ownBlock=G b) A0 J1):=o4.step l9 (λb hb h=>by
           rcases h with h|h|h
           .exact .inl h
           .exact .inr (.inl h)
           .rcases d0.out b h with h|h
            .exact .inr (.inr (.inr h))
            .omega)
          have j4:a0 (∀ b,(al U3 (zv I V8).length U4).ownBlock=G b->(al h5 M3 h6).ownBlock=G b\/(A0:Q)<=b):=λb hb=>by
           rcases d2 b hb with h|h
           .exact d0 b h
           .refine .inr (cd ?_ h);exact J0
          clear b8 l8 d2 l9;go_wp2;go_roundw;case rel=>exact⟨j+1,zv I V8,G4++[(lvK,m.i)],U3,U4,by omega,by go_num,X2,s0,j4,s1⟩
          case measure=>simp[au];omega
         .have g5:a0 ((I,G4++[(lvK,m.i)])=grpAll r (M3,G2) O4 (j+1)):=(by unfold a0;rw[n7,<-g2,o7,aq U0.out];exact(aq hsn).symm);clear hsn;go_wp2;go_roundw;case rel=>exact⟨j+1,I,G4++[(lvK,m.i)],J,N,by omega,by go_num,g5,a5.1,d0,a5.2⟩
          case measure=>simp[au];omega
        .have g5:a0 ((I,G4)=grpAll r (M3,G2) O4 (j+1)):=(by unfold a0;rw[n7,<-g2,o7,am v6]);have hnt':(m.n==m.t)=false:=(by simpa using v6);go_wp2;go_roundw;case rel=>exact⟨j+1,I,G4,J,N,by omega,by go_num,g5,a6,d0,Hf⟩
         case measure=>simp[au];omega
       .obtain rfl:j=(O4:Q):=by omega
        have g8:¬ ((O4:Q):ae)<(O4:Q):=(by omega);have U5:a0 (Fr (From (w0:Q)) w0 wr):=D8.step hf (λb hb A=>by
         unfold From;have h0:=d8.lo;have n5:=U.sz;rcases A with A|A|A|A
         .omega
         .omega
         .omega
         .have:=zQ d8.mo A;omega)
        have X3:a0 (∃ (M3:T Vir) (G2:T (B×B)) (L4:T Mem) (p1:T B) (O4:T ArrM),MidR ds tx E a3 r S M l5 M3 G2/\
  L4.map Mem.k=S.filterMap (λs=>ofK 4 mk4 s.o s.r (tx s.d))/\IsIds2 (zr soundB L4) p1/\O4.map ArrM.toArr=p1.map (buildA (zr soundB L4))/\
  (I,G4)=grpAll r (M3,G2) O4 (O4:Q)):=⟨_,_,L4,p1,O4,W8,J6,v5.1,v5.2,g2⟩
        obtain⟨CA,J9⟩:∃ CA,c.ca=CA:=⟨_,rfl⟩
        have k3:wr ⟨c.xb,3,ac⟩=G (aj CA c.C.length c.cc):=(by rw[<-J9];exact zB hR.k 3);have X4:=zh J9;have hCn:=U.cn;have X5:=zh hR;have hMl9:(I:Q)<=50000:=(by omega);clear hR hf J9;go_wp2_with fail;clear k3;go_loopw [114] (λx wr=>∃ (k:Q) (a7:ar ax) (b6:Q),k<=c.C.length/\x=ag ai (k:ae)/\RS c wr a7 b6 J N (S++moreS ds tx I r c.C k) I G4/\Fr (From (w0:Q)) w0 wr) (λx _=>c.C.length-(au x).toNat);case atStart=>exact⟨0,sa,sc,by omega,rfl,by simpa [moreS]using X5.out,U5.out⟩
        case round=>
         obtain⟨k,a7,b6,hk,rfl,hR,hf⟩:=hrel;have X6:=zLA ds tx I r c.C k;obtain⟨S4,A1⟩:=ε (S++moreS ds tx I r c.C k)
         have hS4l:(S4:Q)<=950:=(by rw[A1,df];omega);have v7:=zh A1;rw[<-A1]at hR;clear A1 X6;by_cases n3:k<c.C.length
         .have g8:(k:ae)<c.C.length:=(by omega);have U6:Srcs wr CA c.cc c.C:=(by rw[<-X4];exact hR.cs);obtain⟨cb,M7,s,rfl,A,⟨c0,c1,c2,c3,c4,c5,c6,c7,c8,c9,r2,r3,r4⟩,M8⟩:=U6.elem n3;have i8:=U.cm s (az A);have p5:=zh (zJn (ds:=ds) (tx:=tx) (M:=I) (r:=r) A);obtain⟨W1,b7,X,d1⟩:=zy wr (aw s.vals 174);have j1:=zh (hf.step X zn);have j6:=zh hR;have L0:=zh hf;have X7:=zh X;have a6:=zh (hR.no X);have D1:=zh d1;have X8:a0 (c.b2<=(wr:Q)):=hR.b2l;have v8:a0 ((wr:Q)<(W1:Q)/\c.xb<(wr:Q)/\c.wm<(wr:Q)):=⟨zC d1,zC hR.k,hR.wmo.lt⟩
          obtain⟨lA,hA,r5,p6,y9,X9⟩:=U.tx' hf s.d i8.1;have U7:a0 (∀ W,Fr No W1 W->bd ba 106 #[ay s.d.vals] W λe w'=>e=.returned (ah (tx s.d))/\Fr No W w'):=λW hW=>by
           rw[<-p6];exact zMI s.d lA W ((hA.no X (λ_=>id)).no hW (λ_=>id)) r5
          obtain⟨P,hP⟩:=ε (plc ds s.d.parent)
          have L5:a0 (∀ W,Fr No W1 W->bd ba 103 #[ay #[aj c.a ds c.cap],ay s.d.vals] W λe w'=>e=.returned (ay #[P,ah s.d.orig])/\Fr No W w'):=λW hW=>by
           rw[hP];have hT:=(U.tr' (j1.step hW zn))
           exact zH4 c.a c.cap ds s.d W hT.dv hT.wf.ok (by have:=U.dn;omega) (hT.wf.ok.pwf i8.1)
          have A2:a0 (P.size<=ak/\s.d.orig.size<=ak):=by
           rw[hP];have h1:=zBI U.tr.wf.ok U.dn s.d.parent;have h2:=U.tr.wf.ok.sz s.d i8.1;refine⟨?_,?_⟩<;>unfold ak<;>omega
          obtain⟨y,hy,U8⟩:=zEv I (P,s.d.orig);obtain⟨bk,j7⟩:=ε ((wantG I (P,s.d.orig)).isSome)
          have p9:a0 (againB ds tx I r s=(bk&&((y.r==r)&&(y.c.toList==(tx s.d).toList)))):=by
           unfold a0;rw[j7];exact zME hP U8
          have HY:=zh hy;have v9:=zh j7.symm;unfold Dev.vals at U7 L5;unfold Src.vals at b7;clear A hR hf U6 hA r5 p6 y9 X9 hP hy U8 j7 X d1;go_upto_region 23 with(fail)
          rw[<-b7];clear b7 c0 c1 c2 c3 c4 c5 c6 c7 c8 c9 r2 r3 r4;refine zZ (From (W1:Q)) (.q 0 (.q 1 (.q 2 (.q 3 (.q 4 (.q 5 (.q 6 (.q 7 (.q 8 (.q 9 (.m2 10 (.q 11 (.q 12 (.q 13 (.q 14 (.m1 15 (.m1 16 (.q 17 .fin))))))) 15 (.m1 10 (.q 11 (.q 12 (.q 13 (.q 14 (.m1 16 (.q 17 .fin)))))))))))))))))) _ (λW3 a4=>?_) zj;have d3:=a4.heap D1 id;have x3:=a4.heap a6.k id;have F:∀ g:Gr (From (W1:Q)) W3,SrcB0 g.W (wr:Q) s:=λg=>SrcB0.of (g.fr.heap d3 (by unfold From;have:=v8.out;omega))
          have e0:=λg=>(F g).c0
          have e1:=λg=>(F g).c1
          have e2:=λg=>(F g).c2
          have e3:=λg=>(F g).c3
          have e4:=λg=>(F g).c4
          have e5:=λg=>(F g).c5
          have e6:=λg=>(F g).c6
          have e7:=λg=>(F g).c7
          have e8:=λg=>(F g).c8
          have e9:=λg=>(F g).c9
          have j8:=λg=>(F g).c10
          have j9:=λg=>(F g).c11
          have k6:=λg=>(F g).c12
          have x6:∀ g:Gr (From (W1:Q)) W3,g.W ⟨c.xb,6,ac⟩=G (.map (G c.wm)):=λg=>zB (g.fr.heap x3 (by unfold From;have:=v8.out;omega)) 6
          have x2:∀ g:Gr (From (W1:Q)) W3,g.W ⟨c.xb,2,ac⟩=G (aj c.a ds c.cap):=λg=>by
           have:=zB (g.fr.heap x3 (by unfold From;have:=v8.out;omega)) 2;rw[U.n]at this;exact this
          have n6:=zh a4;clear F d3 x3 a4;(repeat(first|apply zN rfl rfl rfl|apply zK rfl rfl rfl);intro a3 hK;go_big_quiet_op;go_big_quiet_on);clear e0 e1 e2 e3 e4 e5 e6 e7 e8 e9 j8 j9 k6 x6 x2;refine zAC rfl rfl ?_ ?_
          focus
           go_wp2_with fail;apply (L5 W3 n6).mono;rintro e Wc ⟨rfl,m8⟩;go_wp2_with fail;apply zm m8;have g4:=zh (n6.step m8 zi);have w1:∀ W,(∃ g:Gr (From (W1:Q)) Wc,W=g.W)->(cz 120 (.map (G c.wm)) (ay #[P,ah s.d.orig]) af).run ba W=.ok (.tuple #[ay #[ah y.q,ah y.o,ah y.c,ag ai y.r],bk]) W:=λW hW=>by
            obtain⟨g,rfl⟩:=hW;have:=((a6.no g4).wmo.fr g.fr (by unfold From;have:=v8.out;omega)).lookok (zDf g.W) dr A2.1 A2.2;rw[this,HY,v9]
           apply zN rfl rfl rfl;intro a3 hK;refine zAp rfl _ _ 120 rfl (.map (G c.wm)) (ay #[P,ah s.d.orig]) _ rfl rfl w1 ?_
           go_frame
           go_big_quiet_on;clear w1;apply zN rfl rfl rfl;intro a3 hK;go_big_quiet_op;go_big_quiet_on;apply zN rfl rfl rfl;intro a3 hK;go_big_quiet_op;go_big_quiet_on;apply zN rfl rfl rfl;intro a3 hK;go_big_quiet_op;go_big_quiet_on;clear m8;apply zH rfl;obtain⟨Wa,x0,x1,qa⟩:=zy Wc (aw #[(),(),(),ag ai 0] 94);go_wp2_with fail;apply zp;rw[<-x0];clear x0;have x5:a0 (Fr No W1 Wa):=g4.step x1 zi;have k7:a0 ((W1:Q)<=(Wc:Q)):=g4.size;have qz:=qa;clear x1 qa;obtain⟨k9,hB⟩:=ε (Wc:Q)
           rw[<-hB]at qz k7 ⊢;clear hB;obtain⟨z0,z1,z2,z3⟩:=cl4 qz;obtain⟨f0,f1,f2,f3⟩:=fl4 qz;have h4:=zh (set4 qz rfl (ah y.q) (ah y.o) (ah y.c) (ag ai y.r));clear qz;apply zH rfl;go_wp2_with fail;refine ce ⟨h4.2.mono (λb _ h=>by unfold Is at h;unfold From;have:=k7.out;omega),?_⟩;apply zN rfl rfl rfl;intro a3 hK;go_big_quiet_op;go_big_quiet_on;apply zW;obtain⟨w5,o8⟩:=ε ((((Wa.setCell ⟨k9,0,ac⟩ (ah y.q)).setCell ⟨k9,1,ac⟩ (ah y.o)).setCell ⟨k9,2,ac⟩ (ah y.c)).setCell ⟨k9,3,ac⟩ (ag ai y.r))
           rw[<-o8];have l0:=h4.out;rw[<-o8]at l0;have l1:a0 (Fr No W1 w5):=x5.step l0.2 (λb hb h=>by unfold Is at h;have:=k7.out;omega);have A3:=zh l0.1;clear o8 h4 l0 z0 z1 z2 z3 f0 f1 f2 f3 x5 k7
          rotate_left 1
          focus
           obtain⟨Wa,x0,x1,qa⟩:=zy W3 (aw #[(),(),(),ag ai 0] 94);go_wp2_with fail;apply zp;rw[<-x0];clear x0;have U9:=zh (n6.step x1 zi);clear x1;apply zH rfl;go_wp2_with fail;apply (L5 Wa U9).mono;rintro e Wc ⟨rfl,m8⟩;go_wp2_with fail;apply zm m8;have qb:=m8.heap qa id;clear qa;have g4:=zh (U9.step m8 zi);have w1:∀ W,(∃ g:Gr (From (W1:Q)) Wc,W=g.W)->(cz 120 (.map (G c.wm)) (ay #[P,ah s.d.orig]) af).run ba W=.ok (.tuple #[ay #[ah y.q,ah y.o,ah y.c,ag ai y.r],bk]) W:=λW hW=>by
            obtain⟨g,rfl⟩:=hW;have:=((a6.no g4).wmo.fr g.fr (by unfold From;have:=v8.out;omega)).lookok (zDf g.W) dr A2.1 A2.2;rw[this,HY,v9]
           apply zN rfl rfl rfl;intro a3 hK;refine zAp rfl _ _ 120 rfl (.map (G c.wm)) (ay #[P,ah s.d.orig]) _ rfl rfl w1 ?_
           go_frame
           go_big_quiet_on;clear w1;apply zN rfl rfl rfl;intro a3 hK;go_big_quiet_op;go_big_quiet_on;apply zN rfl rfl rfl;intro a3 hK;go_big_quiet_op;go_big_quiet_on;apply zN rfl rfl rfl;intro a3 hK;go_big_quiet_op;go_big_quiet_on;clear m8;have x5:a0 (Fr No W1 Wc):=g4.out;have k7:a0 ((W1:Q)<=(W3:Q)):=n6.size;have qz:=qb;clear qb;obtain⟨k9,hB⟩:=ε (W3:Q)
           rw[<-hB]at qz k7 ⊢;clear hB;obtain⟨z0,z1,z2,z3⟩:=cl4 qz;obtain⟨f0,f1,f2,f3⟩:=fl4 qz;have h4:=zh (set4 qz rfl (ah y.q) (ah y.o) (ah y.c) (ag ai y.r));clear qz;apply zH rfl;go_wp2_with fail;refine ce ⟨h4.2.mono (λb _ h=>by unfold Is at h;unfold From;have:=k7.out;omega),?_⟩;apply zN rfl rfl rfl;intro a3 hK;go_big_quiet_op;go_big_quiet_on;apply zW;obtain⟨w5,o8⟩:=ε ((((Wc.setCell ⟨k9,0,ac⟩ (ah y.q)).setCell ⟨k9,1,ac⟩ (ah y.o)).setCell ⟨k9,2,ac⟩ (ah y.c)).setCell ⟨k9,3,ac⟩ (ag ai y.r))
           rw[<-o8];have l0:=h4.out;rw[<-o8]at l0;have l1:a0 (Fr No W1 w5):=x5.step l0.2 (λb hb h=>by unfold Is at h;have:=k7.out;omega);have A3:=zh l0.1;clear o8 h4 l0 z0 z1 z2 z3 f0 f1 f2 f3 x5 k7
          all_goals (
           have L6:=zh (a6.no l1);have L7:=zh (j1.step l1 zn);go_wp2_with fail;rcases j7:bk with _|_
           .skip;have m9:a0 (S++(moreS ds tx I r c.C k++if againB ds tx I r s=af then [{ s with r:=r }]else [])=S4):=by
             unfold a0;rw[p9,j7];simp[v7.out]
            clear j7 v9 HY p9;refine zO No [(0,H),(1,H),(2,H),(3,H),(4,H),(5,H),(6,H),(7,H),(8,H),(9,H),(10,H),(11,H),(12,af),(13,H),(14,H)] (λw6 Y=>?_);have y6:=Y.heap A3 id;have d6:=Y.heap (l1.heap D1 id) id;have v2:∀ g:Gr No w6,g.W ⟨k9,2,ac⟩=G (ah y.c):=λg=>zB (g.fr.heap y6 id) 2
            have v3:∀ g:Gr No w6,g.W ⟨k9,3,ac⟩=G (ag ai y.r):=λg=>zB (g.fr.heap y6 id) 3
            have F:∀ g:Gr No w6,SrcB0 g.W (wr:Q) s:=λg=>SrcB0.of (g.fr.heap d6 id)
            have e0:=λg=>(F g).c0
            have e1:=λg=>(F g).c1
            have e2:=λg=>(F g).c2
            have e3:=λg=>(F g).c3
            have e4:=λg=>(F g).c4
            have e5:=λg=>(F g).c5
            have e6:=λg=>(F g).c6
            have e7:=λg=>(F g).c7
            have e8:=λg=>(F g).c8
            have e9:=λg=>(F g).c9
            have j8:=λg=>(F g).c10
            have j9:=λg=>(F g).c11
            have k6:=λg=>(F g).c12
            have a2:=zh Y;clear F y6 d6 Y;(repeat(first|apply zR rfl rfl rfl|apply zS rfl rfl rfl);intro a3 hK;go_big_quiet_op;go_big_quiet_on);clear e0 e1 e2 e3 e4 e5 e6 e7 e8 e9 j8 j9 k6 v2 v3;apply zu rfl;go_wp2_with fail;apply zq;(repeat(first|apply zR rfl rfl rfl|apply zS rfl rfl rfl);intro a3 hK;go_big_quiet_op;go_big_quiet_on);apply zY;have a5:=zh (L6.no a2);have g7:=zh (L7.step a2 zn);go_wp2;go_roundw;case rel=>exact⟨k+1,a7,b6,by omega,by go_num,by rw[p5,m9];exact a5,g7⟩
            case measure=>simp[au];omega
           .skip;rcases hrr:(y.r==r)with _|_
            .skip;have m9:a0 (S++(moreS ds tx I r c.C k++if againB ds tx I r s=af then [{ s with r:=r }]else [])=S4):=by
              unfold a0;rw[p9,hrr];simp[v7.out]
             clear j7 v9 HY p9;refine zO No [(0,H),(1,H),(2,H),(3,H),(4,H),(5,H),(6,H),(7,H),(8,H),(9,H),(10,H),(11,H),(12,af),(13,H),(14,H)] (λw6 Y=>?_);have y6:=Y.heap A3 id;have d6:=Y.heap (l1.heap D1 id) id;have v2:∀ g:Gr No w6,g.W ⟨k9,2,ac⟩=G (ah y.c):=λg=>zB (g.fr.heap y6 id) 2
             have v3:∀ g:Gr No w6,g.W ⟨k9,3,ac⟩=G (ag ai y.r):=λg=>zB (g.fr.heap y6 id) 3
             have F:∀ g:Gr No w6,SrcB0 g.W (wr:Q) s:=λg=>SrcB0.of (g.fr.heap d6 id)
             have e0:=λg=>(F g).c0
             have e1:=λg=>(F g).c1
             have e2:=λg=>(F g).c2
             have e3:=λg=>(F g).c3
             have e4:=λg=>(F g).c4
             have e5:=λg=>(F g).c5
             have e6:=λg=>(F g).c6
             have e7:=λg=>(F g).c7
             have e8:=λg=>(F g).c8
             have e9:=λg=>(F g).c9
             have j8:=λg=>(F g).c10
             have j9:=λg=>(F g).c11
             have k6:=λg=>(F g).c12
             have a2:=zh Y;clear F y6 d6 Y;(repeat(first|apply zR rfl rfl rfl|apply zS rfl rfl rfl);intro a3 hK;go_big_quiet_op;go_big_quiet_on);clear e0 e1 e2 e3 e4 e5 e6 e7 e8 e9 j8 j9 k6 v2 v3;apply zu rfl;go_wp2_with fail;apply zq;(repeat(first|apply zR rfl rfl rfl|apply zS rfl rfl rfl);intro a3 hK;go_big_quiet_op;go_big_quiet_on);apply zY;have a5:=zh (L6.no a2);have g7:=zh (L7.step a2 zn);go_wp2;go_roundw;case rel=>exact⟨k+1,a7,b6,by omega,by go_num,by rw[p5,m9];exact a5,g7⟩
             case measure=>simp[au];omega
            .skip;have F3:a0 (againB ds tx I r s=(y.c.toList==(tx s.d).toList)):=(by unfold a0;rw[p9,j7,hrr];rfl);clear j7 v9 HY p9;refine zO No [(0,H),(1,H),(2,H),(3,H),(4,H),(5,H),(6,H),(7,H),(8,H),(9,H),(10,H),(11,H),(12,af),(13,H),(14,H)] (λw6 Y=>?_);have y6:=Y.heap A3 id;have d6:=Y.heap (l1.heap D1 id) id;have v2:∀ g:Gr No w6,g.W ⟨k9,2,ac⟩=G (ah y.c):=λg=>zB (g.fr.heap y6 id) 2
             have v3:∀ g:Gr No w6,g.W ⟨k9,3,ac⟩=G (ag ai y.r):=λg=>zB (g.fr.heap y6 id) 3
             have F:∀ g:Gr No w6,SrcB0 g.W (wr:Q) s:=λg=>SrcB0.of (g.fr.heap d6 id)
             have e0:=λg=>(F g).c0
             have e1:=λg=>(F g).c1
             have e2:=λg=>(F g).c2
             have e3:=λg=>(F g).c3
             have e4:=λg=>(F g).c4
             have e5:=λg=>(F g).c5
             have e6:=λg=>(F g).c6
             have e7:=λg=>(F g).c7
             have e8:=λg=>(F g).c8
             have e9:=λg=>(F g).c9
             have j8:=λg=>(F g).c10
             have j9:=λg=>(F g).c11
             have k6:=λg=>(F g).c12
             have a2:=zh Y;clear F y6 d6 Y;(repeat(first|apply zR rfl rfl rfl|apply zS rfl rfl rfl);intro a3 hK;go_big_quiet_op;go_big_quiet_on);clear e0 e1 e2 e3 e4 e5 e6 e7 e8 e9 j8 j9 k6 v2 v3;apply zu rfl;go_wp2_with fail;apply (U7 w6 (l1.step a2 zi)).mono;rintro e w7 ⟨rfl,g6⟩;have A4:=zh (a2.step g6 zi);go_wp2_with fail;apply zm g6;clear g6;rcases hcc:(y.c.toList==(tx s.d).toList)with _|_
             .skip;have m9:a0 (S++(moreS ds tx I r c.C k++if againB ds tx I r s=af then [{ s with r:=r }]else [])=S4):=by
               unfold a0;rw[F3,hcc];simp[v7.out]
              (repeat(first|apply zR rfl rfl rfl|apply zS rfl rfl rfl);intro a3 hK;go_big_quiet_op;go_big_quiet_on);apply zY;have a5:=zh (L6.no A4);have g7:=zh (L7.step A4 zn);go_wp2;go_roundw;case rel=>exact⟨k+1,a7,b6,by omega,by go_num,by rw[p5,m9];exact a5,g7⟩
              case measure=>simp[au];omega
             .skip;have m9:a0 (S++(moreS ds tx I r c.C k++if againB ds tx I r s=af then [{ s with r:=r }]else [])=S4++[{ s with r:=r }]):=by
               unfold a0;rw[F3,hcc];simp[v7.out]
              (repeat(first|apply zR rfl rfl rfl|apply zS rfl rfl rfl);intro a3 hK;go_big_quiet_op;go_big_quiet_on);apply zY;clear hcc;have d7:=A4.heap (l1.heap D1 id) id;have Y0:w7 ⟨wr,12,ac⟩=G (ag ai s.r):=(SrcB0.of d7).c12;have Y1:=zD d7 12;obtain⟨w8,A5⟩:=ε (w7.setCell ⟨wr,12,ac⟩ (ag ai r))
              have f8:Fr (Is (wr:Q)) w7 w8:=(by rw[A5];exact Fr.setAt (bf _ _) _);have dw:w8.heap[(wr:Q)]?=G (aw (Src.vals { s with r:=r }) 174):=(by rw[A5];exact zE d7 12 _);have L8:Fr No wr w8:=(X7.step (l1.step A4 zi) zi).step f8 (λb hb h=>by omega);obtain⟨s2,L9⟩:∃ s2:Src,s2={ s with r:=r }:=⟨_,rfl⟩
              rw[<-L9]at dw m9;have Y2:=zh L9;clear L9;have j3:=zh (j6.no L8);have kw:=j3.k;have M0:=j3.so;have o4:=zh (L0.step L8 zn);have Y3:∀ b,(al a7 S4 b6).ownBlock=G b->b<(wr:Q):=λb h=>ze j6.so h
              have hwl:(wr:Q)<(w8:Q):=zC dw;have hxw:c.xb<(wr:Q):=zC j6.k;have hb2l:c.b2<=(w8:Q):=(by have:=X8.out;omega);clear d7 f8 L8;obtain⟨i0,Y4,Y5,Y6,Y7⟩:=info_parts infoSr;go_upto_region 26 with(fail)
              rw[<-A5];clear A5 Y0 Y1;refine zZ (λb=>b=c.xb\/(al a7 S4 b6).ownBlock=G b\/(w8:Q)<=b) (.q 0 (.q 1 (.q 2 (.q 3 (.q 5 (.m2 4 (.m1 6 (.m1 7 (.q 8 (.q 9 (.m1 10 .fin))))) 6 (.m1 4 (.m1 7 (.q 8 (.q 9 (.m1 10 .fin))))))))))) _ (λW3 a4=>?_) zj;have A6:=a4.heap kw id;have o9:=zG M0 a4 (λ_ _=>id);have F4:=zJ o9 A6 (by decide);have d3:=a4.heap dw id;have s3:=a4.size;have F:∀ g:Gr (λb=>b=c.xb\/(al a7 S4 b6).ownBlock=G b\/(w8:Q)<=b) W3,SrcB0 g.W (wr:Q) s2:=λg=>SrcB0.of (g.fr.heap d3 (λh=>by
               rcases h with h|h|h
               .omega
               .have:=Y3 _ h;omega
               .omega))
              have e0:=λg=>(F g).c0
              have e1:=λg=>(F g).c1
              have e2:=λg=>(F g).c2
              have e3:=λg=>(F g).c3
              have e4:=λg=>(F g).c4
              have e5:=λg=>(F g).c5
              have e6:=λg=>(F g).c6
              have e7:=λg=>(F g).c7
              have e8:=λg=>(F g).c8
              have e9:=λg=>(F g).c9
              have j8:=λg=>(F g).c10
              have j9:=λg=>(F g).c11
              have k6:=λg=>(F g).c12
              have V0:=zh a4;clear F d3;(repeat(first|apply zN rfl rfl rfl|apply zK rfl rfl rfl);intro a3 hK;go_big_quiet_op;go_big_quiet_on);clear e0 e1 e2 e3 e4 e5 e6 e7 e8 e9 j8 j9 k6;have c3:W3 ⟨c.xb,5,ac⟩=G (aj a7 S4 b6):=zB A6 5;refine zAC rfl rfl ?_ ?_
              focus
               go_wp2_with fail;apply zq;apply zH rfl;go_wp2_with fail;apply zp;clear c3
              rotate_left 1
              focus
               go_wp2_with fail;apply zp;apply zH rfl;have c7:∀ o,(W3.alloc o) ⟨c.xb,5,ac⟩=G (aj a7 S4 b6):=λo=>((bf No W3).alloc o).cell c3 id
               clear c3;go_wp2_with fail;apply zq;clear c7
              all_goals (
               apply zH rfl;go_wp2_with (at_builtin;refine wpList_append_own_at _ rfl _ _ 131 rfl c.b2 174 i0 (ay #[ag ai 0,ag ai 0,ag ai 0,bi,bi,bi,bi,bi,ag ai 0,ag ai 0,aj ac 0 0,bi,ag ai 0]) 13 168 Tryz.underlying131 Y4 Y5 Y6 Y7 rfl (by decide) _ _ _ rfl (o9.alloc _) ⟨W3,0,ac⟩ 1 1 (Src.vals s2).toList rfl rfl (zk _ (Src.vals s2) _ rfl) (zCZ _) (by unfold ak;omega) (by omega) (by first|omega|(simp;done)|(simp;omega)) ?_;intro v' w4 l2 p4 _ F5;obtain⟨x7,x8,rfl⟩:=zI l2)
               have o3:Fr No W3 (W3.alloc (aw (Src.vals s2) 174)):=(bf _ _).alloc _;have A7:Fr (λb=>(al a7 S4 b6).ownBlock=G b) (W3.alloc (aw (Src.vals s2) 174)) w4:=Fr.of_grown p4;have k4:=A7.heap (o3.heap A6 id) (λe=>F4 e);have c3:w4 ⟨c.xb,5,ac⟩=G (aj a7 S4 b6):=zB k4 5;have f3:w4.frozen? ⟨c.xb,5,ac⟩=false:=zD k4 5;have F6:=zJ l2 k4 (by decide);refine ce ⟨A7.mono (λb _ h=>.inr (.inl h)),?_⟩;(repeat(first|apply zN rfl rfl rfl|apply zK rfl rfl rfl);intro a3 hK;go_big_quiet_op;go_big_quiet_on);apply zH rfl;have f5:Fr (Is (c.xb)) w4 (w4.setCell ⟨c.xb,5,ac⟩ (aj x7 ((S4:Q)+1) x8)):=Fr.setAt (bf _ _) _;have k5:((w4.setCell ⟨c.xb,5,ac⟩ (aj x7 ((S4:Q)+1) x8))).heap[c.xb]?=G (aw (rcs c.ka c.kn c.kc c.wt c.a c.n c.cap c.ca c.C.length c.cc c.ea c.en c.ec x7 ((S4:Q)+1) x8 c.wm c.sm J (I:Q) N) 134):=zE k4 5 _;have x9:=zG l2 f5 (λb hb h=>by unfold Is at h;subst h;exact F6 hb);have V1:Fr (λb=>b=c.xb\/(al a7 S4 b6).ownBlock=G b) W3 (w4.setCell ⟨c.xb,5,ac⟩ (aj x7 ((S4:Q)+1) x8)):=((o3.mono zn).step A7 (λb _ h=>.inr h)).step f5 (λb _ h=>.inl h);have HR:=zg3 k5 x9 V1;have HAT:=zh F5;clear l2 p4 A7 k4 f5 k5 x9 V1 F6 o3 F5;go_wp2_with fail;refine ce ⟨Fr.setCell (bf _ _) (λ_=>.inl rfl) _,?_⟩;apply zW;clear o9 A6 F4;have HG:=zh ((j3.no V0).growS HR.2.2 HR.1 HR.2.1);have Y8:a0 (Fr (From (w0:Q)) w0 W3):=o4.step V0 zn;have Y9:=zh HR.2.2;have Z0:a0 (S4++[s2]=S++moreS ds tx I r c.C (k+1)):=(by unfold a0;rw[p5,<-m9,Y2]);go_wp2;go_roundw;case rel=>exact⟨k+1,x7,x8,by omega,by go_num,Z0.out▸HG.out,Y8.step Y9.out (λb _ h=>by
                unfold From;have h0:=j6.lo;have n5:=U.sz;rcases h with h|h
                .omega
                .have:=zQ j6.so h;omega)⟩
               case measure=>simp[au];omega
               )
           )
         .obtain rfl:k=c.C.length:=by omega
          have g8:¬ (c.C.length:ae)<c.C.length:=(by omega);have k5:wr ⟨c.xb,5,ac⟩=G (aj a7 S4 b6):=zB hR.k 5;have V2:=zKY a7 b6 c.b2 S4 wr hR.so (by omega);have j6:=zh hR;have L0:=zh hf;clear hR hf;go_wp2_with fail;apply V2.mono;rintro e w9 ⟨rfl,⟨S',M1,V3,y7⟩,M4⟩;have V4:=zh (j6.perm M4 M1.length_eq y7);have Z1:=zh (L0.step M4 (λb _ h=>by
           unfold From;have h0:=j6.lo;have n5:=U.sz;have:=zQ j6.so h;omega))
          have Z2:a0 (NextR ds tx E a3 c.C r S M l5 S' I G4):=⟨X3,by rw[<-v7];exact M1,V3⟩
          have k8:w9 ⟨c.xb,8,ac⟩=G (aj J I N):=zB V4.k 8;clear V2 M1 V3 y7 M4 k5;go_wp2;go_ret;exact⟨⟨S',I,G4,a7,b6,J,N,by simp,V4.out,Z2.out⟩,Z1.out⟩
      )
end Go.Proofs.YtjoipgjdpnjjiaaGreatDoor
