import Derived.Test.YtjohgekljmhheaaGreatDoorQ13
namespace Go.Proofs.YtjohgekljmhheaaGreatDoor
open Go.RowKit Go.Maps
set_option linter.unusedVariables false
set_option maxRecDepth 100000
set_option maxHeartbeats 8000000
open Dev renaming index->bq,zero->br
open Fr renaming refl->bf
open Go renaming maxLen->ak,Addr->ax,Calls->bd,World->be
open Go.Instr renaming lookup->cz
open Go.Lib renaming hasPrefix->da
open Go.Proofs renaming intOf->au,enters_of->cw
open Go.Proofs.Tryz renaming prog->ba,underlying83->dr
open Go.RowKit renaming Hid->a0
open Go.Value renaming slice->al
open Go.WalkArith renaming wf_i64->du
open IntKind renaming i64->ai
open Obj renaming cells->aw
open OnlyN renaming mk->ce
open Srcs renaming of_own->dm
open TreeOk renaming origin_none->dq
open Value renaming int->ag,string->ah,slice->aj,agg->ay,pointer->cf
open Vir renaming vals->cr
open _root_ renaming Nat->Q,ByteArray->H,List->T,Int->ae,if_neg->am,absurd->an,if_pos->aq,Option->ar,congrArg->bb,Bool->bc,decide_eq_true_eq->bm,beq_iff_eq->cu,beq_eq_false_iff_ne->dx
open _root_.Bool renaming false->B,true->af,and_eq_true->ap,or_eq_true->cg,not_eq_true'->cx,or_eq_false_iff->cy
open _root_.ByteArray renaming ext->bg,empty->bi
open _root_.List renaming mem_of_getElem?->az,length_map->bh,any_eq_false->bj,length->bn,map_append->bo,mem_map_of_mem->bp,getElem?_eq_getElem->bs,getElem?_map->bt,getElem?_of_mem->bu,map_take->bv,mem_cons_of_mem->bw,mem_of_find?_eq_some->bx,take_append_drop->bz,drop_eq_getElem_cons->ci,find?_some->cj,map_cons->ck,mem_of_mem_take->cp,prefix_append->cq,any_eq_true->db,append_assoc->dc,find?_eq_none->dd,getElem?_take_of_lt->de,length_append->df,length_filter_le->dg,length_take->dh,pairwise_map->dj,prefix_refl->dk
open _root_.Nat renaming le_trans->cd,le_refl->dl
open _root_.Option renaming some->G,none->ac
variable{ds L l:T Dev}{n b b' z:ae}{f:ae->ae}{M:T Vir}{ct J:ae->H}{d D:Dev}{x c:Ct}{o p s:H}{k j:Q}{K E:T H}{v:Vir}{u w:be}{tx:Dev->H}
theorem zJn (h:Ren f):partOf (ds.map (ren f)) (f n)=partOf ds n:=by
 unfold partOf;rw[zBe h];cases look ds n with
 | none=>rfl
 | some d=>
  show (match look (ds.map (ren f)) (f d.parent)with|none=>ac|some p=>partB p (ren f d))=(match look ds d.parent with|none=>ac|some p=>partB p d)
  rw[zBe h];cases look ds d.parent<;>rfl
theorem zMS (h:Ren f):virB (ds.map (ren f)) (f n)=virB ds n:=by
 unfold virB;rw[zBe h,zJn h];cases look ds n with
 | none=>rfl
 | some d=>
  show ((partOf ds n).isSome||(f d.parent==0&&preB d.orig))=_
  rw[h.beq0]
theorem zDM {α β:Type}(g:β->α->β)(s:β):∀ l:T α,(∀ x∈l,g s x=s)->l.foldl g s=s
 | [],_=>rfl
 | x::t,h=>by rw[List.foldl_cons,h x (by simp)];exact zDM g s t (λy o=>h y (by simp[o]))
theorem zGk (h:∀ d∈ds,virB ds d.index=af->inW M (plc ds d.parent) d.orig=af){pre:T (ae×Dev)}(u:∀ x∈pre,x.2∈ds):remF M ds pre=(ds.map strip,[]):=by
 unfold remF;refine zDM _ _ _ λx v=>?_
 show zAO M (ds.map strip,[]) x.2=_
 unfold zAO;rw[am];dsimp only;rw[zAM,zAH];intro o;rw[ap]at o;rw[h x.2 (u x v) o.1]at o;exact an o.2 (by simp)
theorem zGh (h:∀ d∈L,virB L d.index=af->ct d.index=wcF M (plc L d.parent,d.orig))(o:T OpA)(k:Q):setF M L ct o k=(ct,o):=by
 unfold setF;refine zDM _ _ _ λd v=>?_
 unfold zAa;rw[am];intro u;rw[ap]at u;rw[h d (cp v) u.1]at u;exact an u.2 (by simp)
theorem zHF (u:Q)(a:ar ax)(A:Q)(ds:T Dev)(ct:ae->H)(M:T Vir)(N:ar ax)(O:Q)(w:be)(hl:Tr w u a A ds)(hn:(ds:Q)<=250)(hE:Env w)(U:TrT w a ds)(hC:CtO w ds ct)(hM:Virs w N O M)(V:(M:Q)<=250)(X:DistP M)(Y:∀ v∈M,v.q.size<=100000/\v.o.size<=100000)(Z:u<=(w:Q))
  (a2:∀ d∈ds,d.kind=2) (hW:TreeWf (ds.map strip)) (hS:SetOk M (ds.map strip) ct)
  (h1:∀ d∈ds,virB ds d.index=af->inW M (plc ds d.parent) d.orig=af) (h2:∀ d∈ds,virB ds d.index=af->ct d.index=wcF M (plc ds d.parent,d.orig))
  (h3:∀ v∈M,(∃ p,ParIs (ds.map strip) v.q p)/\∃ dt,(ds.map strip).find? (atP (ds.map strip) (v.q++(⟨#[47]⟩:H)++v.o))=G dt):
  bd ba 23 #[ay #[aj a ds A],aj N M O] w λe w'=>(∃ (av:ar ax) (cv:Q),e=.returned (aj av 0 cv))/\Fr No w w':=by
 have F:∀ pre:T (ae×Dev),pre <+: revR ds->remF M ds pre=(ds.map strip,[]):=λpre I=>zGk h1 λx hx=>zB4 (I.subset hx)
 have hr:=F _ (dk _);have a3:∀ d∈ds.map strip,virB (ds.map strip) d.index=af->ct d.index=wcF M (plc (ds.map strip) d.parent,d.orig):=λd hd hv=>by
  obtain⟨y,hy,rfl⟩:=List.mem_map.1 hd;rw[zAM]at hv;rw[zAH];exact h2 y hy hv
 have hR:RemOk M ds:=λpre x I=>by
  rw[F pre ((cq pre [x]).trans I),F _ I];have hm:x.2∈ds:=zB4 (I.subset (by simp));have hk:=zx hW.ok.nd (d:=strip x.2) (bp hm);exact⟨hW,hW,strip x.2,hk⟩
 refine(zJP u a A ds ct M N O w hl hn hE U hC hM V X Y Z hR a2 (by rw[hr];exact hS) (λj L c z=>L=ds.map strip/\z=[]) (by rw[hr];exact⟨rfl,by rw[zGh a3]⟩) (λj v L c z hj h=>?_) (λj v L c z L' c' a6 hj h hs=>?_)).mono ?_
 .obtain⟨rfl,rfl⟩:=h;obtain⟨⟨p,I⟩,J⟩:=h3 v (az hj);exact⟨by rw[bh];exact hn,by simp,p,I,.inl J⟩
 .obtain⟨rfl,rfl⟩:=h;obtain⟨_,dt,J⟩:=h3 v (az hj);rcases hs with⟨_,rfl,_,rfl⟩|⟨a4,_⟩
  .exact⟨rfl,rfl⟩
  .rw[a4]at J;cases J
 .rintro e w' ⟨⟨L,c,z,av,cv,⟨_,rfl⟩,rfl,_⟩,a5⟩;exact⟨⟨av,cv,rfl⟩,a5⟩
theorem zN3:(∀ (k:Q) (d:Dev),l[k]?=G d->d.parent=0\/∃ (j:Q) (e:Dev),j<k/\l[j]?=G e/\e.index=d.parent)↔∀ (a:T Dev) (d:Dev) (b:T Dev),l=a++d::b->d.parent=0\/∃ e∈a,e.index=d.parent:=by
 constructor
 .rintro h a d b rfl;rcases h (a:Q) d (by simp)with v|⟨j,e,o,A,y⟩
  .exact .inl v
  .rw[List.getElem?_append_left o]at A;exact .inr ⟨e,az A,y⟩
 .intro h k d F;obtain⟨I,z⟩:=List.getElem?_eq_some_iff.1 F;have e:l=l.take k++d::l.drop (k+1):=by
   rw[<-z,<-ci I,bz]
  rcases h _ _ _ e with v|⟨x,J,y⟩
  .exact .inl v
  .obtain⟨j,o⟩:=bu J;have u:j<k:=(by have:=(List.getElem?_eq_some_iff.1 o).1;rw[dh]at this;omega);rw[de u]at o;exact .inr ⟨j,x,u,o,y⟩
structure SubF (ds:T Dev)(q:Dev->bc):Prop where
 ok:TreeOk ds
 cl:∀ d∈ds,q d=af->∀ p∈ds,p.index=d.parent->q p=af
section
variable {ds:T Dev}{q:Dev->bc}
theorem SubF.treeOk (h:SubF ds q):TreeOk (ds.filter q):=by
 refine⟨h.ok.nd.sublist (List.filter_sublist.map _),λd v=>h.ok.ix d (List.mem_filter.1 v).1,zN3.2 λa d b e=>?_,λd v=>h.ok.nm d (List.mem_filter.1 v).1⟩;obtain⟨a1,r,z,J,N⟩:=List.filter_eq_append_iff.1 e;obtain⟨O,U,o,A,V,Y⟩:=List.filter_eq_cons_iff.1 N;rcases zN3.1 h.ok.pa (a1++O) d U (by rw[z,o,dc])with X|⟨x,u,I⟩
 .exact .inl X
 .refine .inr ⟨x,?_,I⟩;have v:d∈ds:=by rw[z,o];simp
  have F:x∈ds:=by rw[z,o];rcases List.mem_append.1 u with h|h<;>simp[h]
  have y:=h.cl d v V x F I;rcases List.mem_append.1 u with u|u
  .rw[<-J];exact List.mem_filter.2 ⟨u,y⟩
  .exact an y (A x u)
theorem SubF.look (h:SubF ds q)(o:d∈ds)(u:q d=af):look (ds.filter q) d.index=G d:=zx h.treeOk.nd (List.mem_filter.2 ⟨o,u⟩)
theorem SubF.none (h:Go.Proofs.YtjohgekljmhheaaGreatDoor.look ds n=ac):Go.Proofs.YtjohgekljmhheaaGreatDoor.look (ds.filter q) n=none:=zv.2 λd o=>zv.1 h d (List.mem_filter.1 o).1
def Stay (ds:T Dev)(q:Dev->bc)(n:ae):Prop:=look ds n=ac\/∃ d∈ds,d.index=n/\q d=af
theorem SubF.stay (h:SubF ds q)(o:Stay ds q n):Go.Proofs.YtjohgekljmhheaaGreatDoor.look (ds.filter q) n=Go.Proofs.YtjohgekljmhheaaGreatDoor.look ds n:=by
 rcases o with o|⟨d,u,rfl,v⟩
 .rw[o];exact SubF.none o
 .rw[h.look u v,h.ok.lk u]
theorem SubF.par (h:SubF ds q)(v:d∈ds)(y:q d=af):Stay ds q d.parent:=by
 cases e:Go.Proofs.YtjohgekljmhheaaGreatDoor.look ds d.parent with
 | none=>exact .inl e
 | some p=>
  obtain⟨o,u⟩:=zAR e;exact .inr ⟨p,o,u,h.cl d v y p o u⟩
theorem SubF.ch (h:SubF ds q)(z:Ch ds n l):Stay ds q n->Ch (ds.filter q) n l:=by
 induction z with
 | nil o=>exact λ_=>.nil (SubF.none o)
 | @cons n d l o t A=>
  intro u;obtain⟨F,J⟩:=zAR o;have v:q d=true:=by
   rcases u with u|⟨e,I,y,v⟩
   .rw[u]at o;cases o
   .have:=h.ok.lk I;rw[y,o]at this;cases this;exact v
  exact .cons (by rw[h.stay u];exact o) (A (h.par F v))
theorem SubF.chain (h:SubF ds q)(o:Stay ds q n):chain (ds.filter q) n=Go.Proofs.YtjohgekljmhheaaGreatDoor.chain ds n:=zCV h.treeOk (h.ch (h.ok.chn0 n) o)
theorem SubF.origin (h:SubF ds q)(o:Stay ds q n):origin (ds.filter q) n=Go.Proofs.YtjohgekljmhheaaGreatDoor.origin ds n:=by unfold Go.Proofs.YtjohgekljmhheaaGreatDoor.origin;rw[h.chain o]
theorem SubF.plc (h:SubF ds q)(o:Stay ds q n):plc (ds.filter q) n=Go.Proofs.YtjohgekljmhheaaGreatDoor.plc ds n:=by unfold Go.Proofs.YtjohgekljmhheaaGreatDoor.plc;rw[h.stay o,h.origin o]
theorem SubF.mem (h:SubF ds q)(o:d∈ds.filter q):Stay ds q d.index:=.inr ⟨d,(List.mem_filter.1 o).1,rfl,(List.mem_filter.1 o).2⟩
theorem SubF.memP (h:SubF ds q)(o:d∈ds.filter q):Stay ds q d.parent:=h.par (List.mem_filter.1 o).1 (List.mem_filter.1 o).2
theorem SubF.vir (h:SubF ds q)(o:d∈ds.filter q):virB (ds.filter q) d.index=virB ds d.index:=by
 have u:=h.stay (h.mem o);have v:=h.stay (h.memP o);have y:=h.ok.lk (List.mem_filter.1 o).1;unfold virB partOf;rw[u,y];dsimp only;rw[v]
theorem SubF.wf (h:SubF ds q)(u:TreeWf ds):TreeWf (ds.filter q):=by
 refine⟨h.treeOk,λd o e v y=>?_,λd o=>?_⟩
 .rw[h.origin (h.mem o),h.origin (h.mem v)]at y;exact u.uo d (List.mem_filter.1 o).1 e (List.mem_filter.1 v).1 y
 .rw[h.origin (h.mem o)];exact u.dp d (List.mem_filter.1 o).1
end
theorem zHS {n:ae}{d:Dev}:∀ {l:T Dev} {R:ae->bc},R d.parent=af->d∈l->d∈subL n l R
 | [],_,_,h=>by cases h
 | x::t,R,hR,h=>by
  rcases hb:(x.index==n||R x.parent)with _|_
  .rw[zA8 hb];rcases List.mem_cons.1 h with h|h
   .subst h;rw[hR,Bool.or_true]at hb;cases hb
   .exact zHS hR h
  .rw[zBV hb];rcases List.mem_cons.1 h with h|h
   .subst h;simp
   .refine bw _ (zHS ?_ h);unfold upd;split;·rfl
    .exact hR
theorem zHR {n:ae}{p d:Dev}(u:d.parent=p.index):∀ {l:T Dev} {R:ae->bc},l.Pairwise (λa b=>a.parent≠b.index)->(∀ x∈l,x.parent≠x.index)->p∈subL n l R->d∈l->d∈subL n l R
 | [],_,_,_,_,h=>by cases h
 | x::t,R,J,A,o,h=>by
  obtain⟨N,F⟩:=List.pairwise_cons.1 J;have I:∀ y∈t,y.parent≠y.index:=λy O=>A y (by simp[O])
  have v:p∈t->d∈t:=λz=>by
   rcases List.mem_cons.1 h with h|h
   .subst h;exact an u (N p z)
   .exact h
  rcases hb:(x.index==n||R x.parent)with _|_
  .rw[zA8 hb]at o ⊢;exact zHR u F I o (v (zBW o))
  .rw[zBV hb]at o ⊢;rcases List.mem_cons.1 o with o|o
   .subst o;rcases List.mem_cons.1 h with h|h
    .subst h;exact an u (A d (by simp))
    .refine bw _ (zHS ?_ h);unfold upd;rw[aq u]
   .exact bw _ (zHR u F I o (v (zBW o)))
theorem zGb {n:ae}{b:T Dev}:∀ {a:T Dev},(∀ d∈a,d.index≠n)->subL n (a++b) (λ_=>B)=subL n b (λ_=>B)
 | [],_=>rfl
 | x::t,h=>by
  rw[List.cons_append,zA8 (by simpa using h x (by simp))];exact zGb λd o=>h d (by simp[o])
theorem zD2 {n:ae}{d:Dev}(o:d.index≠n)(u:d.parent=0):∀ {l:T Dev} {R:ae->bc},(∀ x∈l,x.index≠0)->R 0=B->d∉subL n l R
 | [],_,_,_,h=>by cases h
 | x::t,R,v,z,h=>by
  rcases hb:(x.index==n||R x.parent)with _|_
  .rw[zA8 hb]at h;exact zD2 o u (λy A=>v y (by simp[A])) z h
  .rw[zBV hb]at h;rcases List.mem_cons.1 h with h|h
   .subst h;rw[u,z,Bool.or_false]at hb;exact o (by simpa using hb)
   .refine zD2 o u (λy A=>v y (by simp[A])) ?_ h;unfold upd;rw[am (λe=>v x (by simp) e.symm)];exact z
theorem TreeOk.pw (h:TreeOk ds):ds.Pairwise (λa b=>a.parent≠b.index)/\∀ x∈ds,x.parent≠x.index:=by
 have o:∀ (i j:Q) (d e:Dev),ds[i]?=G d->ds[j]?=G e->i<=j->d.parent≠e.index:=λi j d e I A u J=>by
  have N:=(h.ix e (az A)).1;rcases h.pa i d I with F|⟨k,x,v,y,z⟩
  .omega
  .have F:(ds.map bq)[k]?=G e.index:=by rw[bt,y];show G x.index=_;rw[z,J]
   have O:(ds.map bq)[j]?=G e.index:=(by rw[bt,A];rfl);obtain⟨U,V⟩:=List.getElem?_eq_some_iff.1 F;obtain⟨X,Y⟩:=List.getElem?_eq_some_iff.1 O;exact List.pairwise_iff_getElem.1 h.nd k j U X (by omega) (by rw[V,Y])
 refine⟨List.pairwise_iff_getElem.2 λi j Z hj u=>o i j _ _ (bs Z) (bs hj) (by omega),λx y=>?_⟩;obtain⟨k,v⟩:=bu y;exact o k k x x v v (dl _)
def keepB (n:ae)(ds:T Dev)(d:Dev):Bool:=!ixs (subL n ds (λ_=>B)) d.index
theorem zFH (h:d∈subL n ds (λ_=>B)):keepB n ds d=false:=by
 unfold keepB ixs;rw[Bool.not_eq_false',db];exact⟨d,h,by simp⟩
theorem zEP (u:TreeOk ds)(z:d∈ds)(h:d∉subL n ds (λ_=>B)):keepB n ds d=true:=by
 unfold keepB ixs;rw[cx,bj];intro x v;have o:=zBW v;intro e;have A:x.index=d.index:=by simpa using e
 have y:=u.lk o;rw[A,u.lk z]at y;cases y;exact h v
theorem TreeOk.subF (h:TreeOk ds):SubF ds (keepB n ds):=by
 refine⟨h,λd v o p y z=>?_⟩;by_cases u:p∈subL n ds (λ_=>B)
 .have:=zHR z.symm h.pw.1 h.pw.2 u v;rw[zFH this]at o;cases o
 .exact zEP h y u
theorem zCg (n:ae)(ds:T Dev):remL n ds=ds.filter (keepB n ds):=rfl
theorem zJj {a b:T Dev}(o:TreeOk (a++b))(h:∀ d∈a,d.index≠n):∃ b',remL n (a++b)=a++b'/\b'.Sublist b:=by
 refine⟨b.filter (keepB n (a++b)),?_,List.filter_sublist⟩;rw[zCg,List.filter_append]
 congr 1
 rw[List.filter_eq_self];intro d u;refine zEP o (by simp[u]) λv=>?_
 rw[zGb h]at v;have y:=zBW v;have:=List.nodup_append.1 (by have:=o.nd;rwa [bo]at this);exact this.2.2 d.index (bp u) d.index (bp y) rfl
theorem zKr (A:TreeOk ds)(y:d∈remL n ds):d.index≠n:=by
 intro e;have o:∀ (l:T Dev) (R:ae->bc),d∈l->d∈subL n l R:=by
  intro l
  induction l with
  | nil=>intro R h;cases h
  | cons x t u=>
   intro R h;rcases hb:(x.index==n||R x.parent)with _|_
   .rw[zA8 hb];rcases List.mem_cons.1 h with h|h
    .subst h;rw[e]at hb;simp at hb
    .exact u R h
   .rw[zBV hb];rcases List.mem_cons.1 h with h|h
    .subst h;simp
    .exact bw _ (u _ h)
 obtain⟨z,v⟩:=List.mem_filter.1 y;rw[show (!ixs (subL n ds (λ_=>B)) d.index)=keepB n ds d from rfl,zFH (o ds _ z)]at v;cases v
theorem zKq (h:TreeOk ds)(o:d∈ds)(u:d.parent=0)(v:d.index≠n):d∈remL n ds:=
 List.mem_filter.2 ⟨o,zEP h o (zD2 v u (λx y=>by have:=(h.ix x y).1;omega) rfl)⟩
def rootN : T H:=[⟨#[115,100,98]⟩,⟨#[115,100,99]⟩,⟨#[115,100,100]⟩,⟨#[115,100,101]⟩,⟨#[109,100,45,114]⟩,⟨#[109,100,45,115]⟩,⟨#[111,112,101,110,45,99]⟩,⟨#[111,112,101,110,45,100]⟩,⟨#[108,118,45,118,45,49]⟩,⟨#[108,118,45,118,45,50]⟩,⟨#[115,100,97]⟩,⟨#[115,100,122]⟩]
def dskN : T H:=[⟨#[115,100,98]⟩,⟨#[115,100,99]⟩,⟨#[115,100,100]⟩,⟨#[115,100,101]⟩,⟨#[115,100,97]⟩,⟨#[115,100,122]⟩]
def parN (n:H):T H:=[partT n 1,partT n 2]
def allN : T H:=rootN++rootN.flatMap parN
def eqB (x y:H):Bool:=x.data.toList==y.data.toList
theorem zAP {x y:H}:eqB x y=af↔x=y:=by
 unfold eqB;rw[cu];exact⟨λh=>bg (Array.toList_inj.1 h),λh=>by rw[h]⟩
def isDk (o:H):Bool:=dskN.any (eqB o)
theorem zNG:isDk o=af↔o∈dskN:=by
 unfold isDk;rw[db];exact⟨λ⟨x,u,v⟩=>by rw[zAP.1 v];exact u,λh=>⟨o,h,zAP.2 rfl⟩⟩
def parOf (o:H):ar H:=rootN.find? λn=>(parN n).any (eqB o)
def orgOf (o:H):T H:=match parOf o with|some n=>[n,o] | none=>[o]
def zNE (a:ar H)(b:H):Bool:=match a with|some x=>eqB x b|none=>B
theorem zAZ {n:H}(u:n∈rootN)(v:o∈parN n):parOf o=G n:=by
 have h:=List.all_eq_true.1 (List.all_eq_true.1 (show (rootN.all λn=>(parN n).all λo=>zNE (parOf o) n)=af by kernel_rfl) n u) o v;cases e:parOf o with
 | none=>rw[e]at h;cases h
 | some x=>rw[e]at h;rw[zAP.1 h]
theorem zBA {n:H}(o:n∈rootN):parOf n=none:=by
 have h:=List.all_eq_true.1 (show (rootN.all λn=>(parOf n).isNone)=af by kernel_rfl) n o
 simpa using h
theorem zK1 {n:H}(u:n∈rootN)(v:o∈parN n):isDk o=false:=by
 have h:=List.all_eq_true.1 (List.all_eq_true.1 (show (rootN.all λn=>(parN n).all λo=>!isDk o)=af by kernel_rfl) n u) o v
 simpa using h
theorem zNW (h:isDk o=af):o∈rootN:=by
 have u:=List.all_eq_true.1 (show (dskN.all λn=>rootN.any (eqB n))=af by kernel_rfl) o (zNG.1 h);obtain⟨x,v,y⟩:=List.any_eq_true.1 u;rw[zAP.1 y];exact v
theorem zMr {n:H}(o:n∈rootN):preB n=!isDk n:=by
 have h:=List.all_eq_true.1 (show (rootN.all λn=>preB n==!isDk n)=af by kernel_rfl) n o
 simpa using h
theorem zMx {p:Dev}(u:p.orig∈rootN)(v:d.orig∈parN p.orig)(y:p.kind=2)(z:d.kind=2):(partB p d).isSome=true:=by
 have h:=List.all_eq_true.1 (List.all_eq_true.1 (show (rootN.all λn=>(parN n).all λo=>(partB { br with orig:=n,kind:=2 } { br with orig:=o,kind:=2 }).isSome)=af by kernel_rfl) _ u) _ v;have e:partB p d=partB { br with orig:=p.orig,kind:=2 } { br with orig:=d.orig,kind:=2 }:=by
  unfold partB;rw[y,z];rfl
 rw[e];exact h
def nmOk (o:H):Bool:=isName o&&zES (nodeOf o)&&eqB (nodeOf o) o&&!(o.data.toList.contains 47)
theorem zQo (h:o∈allN):nmOk o=true:=List.all_eq_true.1 (show allN.all nmOk=af by kernel_rfl) o h
def plOk (o:H):Bool:=zo (pathOf (orgOf o))&&decide (depthB (pathOf (orgOf o))<=7)
theorem zO0 (h:o∈allN):plOk o=true:=List.all_eq_true.1 (show allN.all plOk=af by kernel_rfl) o h
theorem zK2 {n:H}(u:n∈rootN)(v:o∈parN n):pathO (pathOf [n]) (pathOf [n,o])<0:=by
 have h:=List.all_eq_true.1 (List.all_eq_true.1 (show (rootN.all λn=>(parN n).all λo=>decide (pathO (pathOf [n]) (pathOf [n,o])<0))=af by kernel_rfl) n u) o v
 simpa using h
theorem zCD {n:H}(h:n∈rootN):n∈allN:=List.mem_append.2 (.inl h)
theorem zLM {n:H}(h:n∈rootN)(u:o∈parN n):o∈allN:=List.mem_append.2 (.inr (List.mem_flatMap.2 ⟨n,h,u⟩))
theorem zAT (h:o∈allN):isName o=af/\zES (nodeOf o)=af/\nodeOf o=o/\∀ b∈o.data.toList,b≠47:=by
 have:=zQo h;unfold nmOk at this;simp only[ap,cx]at this;refine⟨this.1.1.1,this.1.1.2,zAP.1 this.1.2,λb u e=>?_⟩;subst e;rw[List.contains_iff_mem.2 u]at this;exact an this.2 (by simp)
theorem zJx {l:T UInt8}:∀ {s t:T UInt8},da t (s++l)=af->∀ x∈l,x∈t:=by
 intro s t h x o;unfold da at h;rw[List.isPrefixOf_iff_prefix]at h;exact h.subset (List.mem_append.2 (.inr o))
theorem zOI (h:p∈allN):benB o p=false:=by
 rw[<-Bool.not_eq_true];intro u;unfold benB at u;rw[ByteArray.data_append]at u;rw[Array.toList_append]at u;exact(zAT h).2.2.2 47 (zJx u 47 (by simp)) rfl
def fsC (i l:H):Ct:=.mk 1 i l 0 0 0 []
def raC (i:H)(s t e:ae)(c:Ct):Ct:=.mk 2 i () s t e [c]
def crC (i:H)(c:Ct):Ct:=.mk 3 i () 0 0 0 [c]
def pvC (s t:ae)(l:T Ct):Ct:=.mk 4 ⟨#[118]⟩ () s t 0 l
def taC (i:H)(l:T Ct):Ct:=.mk 5 i () 0 0 0 l
def cF : Ct:=fsC ⟨#[102]⟩ ()
def cG : Ct:=fsC ⟨#[103]⟩ ()
def cH : Ct:=fsC ⟨#[104]⟩ ()
def cX : Ct:=fsC ⟨#[120]⟩ ()
def cY : Ct:=fsC ⟨#[121]⟩ ()
def cO : Ct:=fsC ⟨#[111,108,100]⟩ ()
def cGL : Ct:=fsC ⟨#[103]⟩ ⟨#[76]⟩
def cU : Ct:=taC ⟨#[117]⟩ [cF]
def rX : Ct:=raC ⟨#[114]⟩ 1 2 1 cX
def rU1 : Ct:=raC ⟨#[114]⟩ 1 2 1 cU
def rU2 : Ct:=raC ⟨#[114]⟩ 2 2 1 cU
def rF : Ct:=raC ⟨#[114]⟩ 1 1 1 cF
def sY : Ct:=raC ⟨#[115]⟩ 1 3 2 cY
def dP : Ct:=pvC 1 1 [sY]
def rX1 : Ct:=raC ⟨#[114]⟩ 1 1 1 cX
def ctsL : T Ct:=[cF,cGL,raC ⟨#[114]⟩ 1 2 1 cF,raC ⟨#[114]⟩ 2 2 1 cF,crC ⟨#[99]⟩ cG,pvC 1 1 [cF,crC ⟨#[99]⟩ cH],taC ⟨#[116]⟩ [cF,crC ⟨#[99]⟩ rX],taC ⟨#[116]⟩ [rU1,rU2],raC ⟨#[114]⟩ 1 1 1 rF,pvC 1 2 [cF],pvC 2 2 [cF],crC ⟨#[100]⟩ dP,raC ⟨#[115]⟩ 2 3 2 cY,raC ⟨#[115]⟩ 3 3 2 cY,
 cG,cH,cX,cY,cO,cU,crC ⟨#[99]⟩ cH,rX,crC ⟨#[99]⟩ rX,rU1,rU2,rF,sY,dP,rX1,taC ⟨#[116]⟩ [rX1]]
def zEL : H:=⟨#[110,111,110,115,101,110,115,101]⟩
def InU (s:H):Prop:=s=()\/s=zEL\/∃ c∈ctsL,s=c.txt
def NoTab (s:H):Prop:=∀ c,parseC s=G c->c.kind≠5
theorem zEF: parseC ()=G Ct.zero:=by kernel_rfl
theorem zJp: parseC zEL=none:=by kernel_rfl
theorem zEg: ∀ c∈ctsL,c.valid=af/\c.txt.size<=256/\attrOk (zM,c.txt)=af/\1<=c.txt.size:=by
 have h:∀ c∈ctsL,(c.valid&&decide (c.txt.size<=256)&&attrOk (zM,c.txt)&&decide (1<=c.txt.size))=true:=List.all_eq_true.1 (by kernel_rfl);intro c o;have:=h c o;simp only[ap,bm]at this;exact⟨this.1.1.1,this.1.1.2,this.1.2,this.2⟩
theorem zEf (h:c∈ctsL):parseC c.txt=G c:=by
 obtain⟨o,u,_⟩:=zEg c h;exact(zBI _ _).2 ⟨u,o,(zCK c).symm⟩
theorem InU.parse (h:InU s)(o:parseC s=G c)(v:c.kind≠0):c∈ctsL/\s=c.txt:=by
 rcases h with rfl|rfl|⟨d,u,rfl⟩
 .rw[zEF]at o;cases o;exact an rfl v
 .rw[zJp]at o;cases o
 .rw[zEf u]at o;cases o;exact⟨u,rfl⟩
def inOk (c:Ct):Bool:=c.inner.all (λx=>ctsL.any λy=>decide (x.txt.data.toList=y.txt.data.toList)) &&
 (if c.kind=2 then eqB c.id ⟨#[114]⟩||eqB c.id ⟨#[115]⟩else if c.kind=3 then eqB c.id ⟨#[99]⟩||eqB c.id ⟨#[100]⟩else if c.kind=4 then eqB c.id ⟨#[118]⟩&&decide ((c.inner:Q)<=2)else if c.kind=5 then decide ((c.inner:Q)<=2)&&c.inner.all (λx=>decide (x.kind≠5))&&c.inner.all (λx=>ctsL.any λy=>decide (x.txt.data.toList=y.txt.data.toList)&&decide (y.kind≠5))else af)
theorem zLY (h:c∈ctsL):inOk c=true:=List.all_eq_true.1 (show ctsL.all inOk=af by kernel_rfl) c h
theorem zPH {p:Ct->bc}(h:(ctsL.any λy=>decide (x.txt.data.toList=y.txt.data.toList)&&p y)=af):∃ y∈ctsL,x.txt=y.txt/\p y=true:=by
 obtain⟨y,o,h⟩:=List.any_eq_true.1 h;rw[ap,bm]at h;exact⟨y,o,bg (Array.toList_inj.1 h.1),h.2⟩
theorem zG9 (h:c∈ctsL)(o:x∈c.inner):InU x.txt:=by
 have:=zLY h;unfold inOk at this;rw[ap]at this;have u:=List.all_eq_true.1 this.1 x o;obtain⟨y,v,z⟩:=List.any_eq_true.1 u;exact .inr (.inr ⟨y,v,bg (Array.toList_inj.1 (by simpa using z))⟩)
theorem zQS (h:c∈ctsL)(o:c.kind=2):c.id=⟨#[114]⟩\/c.id=⟨#[115]⟩:=by
 have:=zLY h;unfold inOk at this;rw[ap,aq o,cg]at this;exact this.2.imp zAP.1 zAP.1
theorem zQw (h:c∈ctsL)(o:c.kind=3):c.id=⟨#[99]⟩\/c.id=⟨#[100]⟩:=by
 have:=zLY h;unfold inOk at this;rw[ap,am (by omega),aq o,cg]at this;exact this.2.imp zAP.1 zAP.1
theorem zQv (h:c∈ctsL)(o:c.kind=4):c.id=⟨#[118]⟩/\(c.inner:Q)<=2:=by
 have:=zLY h;unfold inOk at this;rw[ap,am (by omega),am (by omega),aq o,ap,bm]at this;exact⟨zAP.1 this.2.1,this.2.2⟩
theorem zQR (h:c∈ctsL)(v:c.kind=5):(c.inner:Q)<=2/\∀ x∈c.inner,InU x.txt/\NoTab x.txt:=by
 have:=zLY h;unfold inOk at this;rw[ap,am (by omega),am (by omega),am (by omega),aq v]at this;simp only[ap,bm]at this;refine⟨this.2.1.1,λx o=>⟨zG9 h o,λd u=>?_⟩⟩;obtain⟨y,z,A,F⟩:=zPH (p:=λy=>decide (y.kind≠5)) (List.all_eq_true.1 this.2.2 x o);rw[A,zEf z]at u;cases u
 simpa using F
theorem zDm (h:InU s):s.size<=256:=by
 rcases h with rfl|rfl|⟨c,o,rfl⟩
 .decide
 .decide
 .exact(zEg c o).2.1
theorem zNJ (h:InU s):(cAtt s).all attrOk=true:=by
 unfold cAtt;rcases h with rfl|rfl|⟨c,o,rfl⟩
 .kernel_rfl
 .kernel_rfl
 .split;·rfl
  .rw[List.all_cons,(zEg c o).2.2.1];rfl
theorem zBs: InU ():=.inl rfl
theorem zGz: ∀ s∈zAJ,InU s:=by
 have h:(zAJ.all λs=>s.data.toList.isEmpty||eqB s zEL||ctsL.any λc=>eqB s c.txt)=true:=by kernel_rfl
 intro s u;have:=List.all_eq_true.1 h s u;simp only[cg]at this;rcases this with(o|o)|o
 .left;refine bg (Array.toList_inj.1 ?_);rw[List.isEmpty_iff]at o;rw[o]
 .right;left;exact zAP.1 o
 .obtain⟨c,v,y⟩:=List.any_eq_true.1 o;exact .inr (.inr ⟨c,v,zAP.1 y⟩)
structure DOk (d:Dev):Prop where
 kind:d.kind=2
 name:d.name=d.orig
 sub:d.sub=zX
 drv:d.drv=()
 ali:d.ali=()
 num:1<=d.num/\d.num<=2000000
def PlcOk (L:T Dev)(d:Dev):Prop:=(d.parent=0/\d.orig∈rootN)\/∃ p∈L,p.index=d.parent/\p.parent=0/\p.orig∈rootN/\d.orig∈parN p.orig
structure UOk (L:T Dev)(ct:ae->H)(b:ae):Prop where
 wf:TreeWf L
 dv:∀ d∈L,DOk d/\d.index<=b
 pl:∀ d∈L,PlcOk L d
 co:∀ d∈L,InU (ct d.index)/\(d.parent≠0->NoTab (ct d.index))
 nu:∀ d∈L,∀ e∈L,d.num=e.num->d=e
 so:L.Pairwise λx y=>pathO (plc L x.index) (plc L y.index)<0
theorem UOk.nil (ct:ae->H)(b:ae):UOk [] ct b:=⟨TreeWf.nil,by simp,by simp,by simp,by simp,.nil⟩
theorem PlcOk.all (h:PlcOk L d):d.orig∈allN:=by
 rcases h with⟨_,h⟩|⟨p,_,_,_,o,u⟩
 .exact zCD h
 .exact zLM o u
theorem zDg (h:TreeOk L):plc L 0=():=by unfold plc;rw[h.zero];rfl
theorem PlcOk.org (o:TreeOk L)(z:∀ p∈L,p.parent=0->origin L p.index=[p.orig])(h:PlcOk L d):origin L d.parent++[d.orig]=orgOf d.orig/\newO L d=pathOf (orgOf d.orig):=by
 rcases h with⟨u,v⟩|⟨p,y,u,v,A,F⟩
 .unfold orgOf newO;rw[zBA v,u,dq o.zero,zDg o];exact⟨rfl,rfl⟩
 .unfold orgOf newO plc;rw[zAZ A F,<-u,o.lk y,z p y v];exact⟨rfl,rfl⟩
theorem zB3 (o:TreeOk L):∀ p∈L,p.parent=0->origin L p.index=[p.orig]:=λp u h=>by
 rw[o.origin_cons (o.lk u),h,dq o.zero];rfl
theorem zDF (o:H):(orgOf o).getLast?=G o:=by
 unfold orgOf;cases parOf o<;>rfl
theorem zCi (z:o∈allN)(J:p∈allN)(h:pathOf (orgOf o)=pathOf (orgOf p)):o=p:=by
 have v:∀ o:H,o∈allN->∀ x∈orgOf o,OkN x:=λo z x u=>by
  have F:∀ y∈allN,OkN y:=λy N=>by
   obtain⟨I,_,_,A⟩:=zAT N;exact⟨(zAh I).1,A⟩
  unfold orgOf at u;cases e:parOf o with
  | none=>rw[e]at u;simp at u;subst u;exact F _ z
  | some n=>
   rw[e]at u;have O:n∈rootN:=bx e;simp at u;rcases u with rfl|rfl
   .exact F _ (zCD O)
   .exact F _ z
 have I:=zDD (v o z) (v p J) (by rw[h]);have A:=bb List.getLast? I;rw[zDF,zDF]at A;exact Option.some.inj A
section
variable {L:T Dev}{ct:ae->H}{b:ae}
theorem UOk.org (h:UOk L ct b)(o:d∈L):origin L d.index=orgOf d.orig:=by
 rw[h.wf.ok.origin_cons (h.wf.ok.lk o)];exact((h.pl d o).org h.wf.ok (zB3 h.wf.ok)).1
theorem UOk.pth (h:UOk L ct b)(o:d∈L):plc L d.index=pathOf (orgOf d.orig):=by
 unfold plc;rw[h.wf.ok.lk o,h.org o];rfl
theorem UOk.inj (h:UOk L ct b){e:Dev}(o:d∈L)(u:e∈L)(v:d.orig=e.orig):d=e:=h.wf.uo d o e u (by rw[h.org o,h.org u,v])
theorem UOk.len (h:UOk L ct b):(L:Q)<=44:=by
 have v:(L.map Dev.orig).Nodup:=by
  have:=h.wf.ok.nd;unfold List.Nodup at this ⊢;rw[dj]at this ⊢;exact this.imp_of_mem λy z o e=>o (by rw[h.inj y z e])
 have u:=zAg v (m:=allN) λx A=>by
  obtain⟨d,F,rfl⟩:=List.mem_map.1 A;exact(h.pl d F).all
 rw[bh]at u;exact cd u (by decide)
theorem UOk.mono (h:UOk L ct b)(u:b<=b'):UOk L ct b':=⟨h.wf,λd o=>⟨(h.dv d o).1,by have:=(h.dv d o).2;omega⟩,h.pl,h.co,h.nu,h.so⟩
theorem UOk.cont (h:UOk L ct b){o:ae->H}(u:∀ d∈L,InU (o d.index)/\(d.parent≠0->NoTab (o d.index))):UOk L o b:=⟨h.wf,h.dv,h.pl,u,h.nu,h.so⟩
end
theorem UOk.vir (h:UOk L ct b)(o:d∈L):virB L d.index=!isDk d.orig:=by
 have u:=h.wf.ok;unfold virB partOf;rw[u.lk o];dsimp only;rcases h.pl d o with⟨v,y⟩|⟨p,z,v,y,A,F⟩
 .rw[v,u.zero];dsimp only;rw[zMr y];rfl
 .rw[<-v,u.lk z];dsimp only;rw[zMx A F (h.dv p z).1.kind (h.dv d o).1.kind,zK1 A F];rfl
theorem zOD {x:Dev}(h:x.orig∈allN)(o:d.orig∈allN)(u:x.kind=2)(v:d.kind=2)(y:x.num≠d.num)(z:x.orig≠d.orig):clB x d=false:=by
 unfold clB;rw[(zAT h).2.2.1,(zAT o).2.2.1,zOI h,zOI o,u,v];have A:(x.num==d.num)=false:=by simpa using y
 have F:(x.orig.toList==d.orig.toList)=false:=by
  rw[dx];intro e;rw[ByteArray.toList_eq,ByteArray.toList_eq]at e;exact z (bg (Array.toList_inj.1 e))
 rw[A,F];rfl
theorem UOk.cl (h:UOk L ct b)(v:d∈L):L.any (clP d)=false:=by
 rw[bj];intro x y;unfold clP;by_cases e:x.index=d.index;·simp[e]
 .have o:x≠d:=λu=>e (by rw[u])
  rw[zOD (h.pl x y).all (h.pl d v).all (h.dv x y).1.kind (h.dv d v).1.kind (λu=>o (h.nu x y d v u)) (λu=>o (h.inj y v u))];simp
theorem zIR {c:H}(h:DOk d)(y:d.orig∈allN)(u:1<=d.index/\d.index<=1073741824)(v:0<=d.parent/\d.parent<=1073741824)(o:d.parent≠d.index)(z:InU c):Sound d (cAtt c):=by
 obtain⟨A,F,_,_⟩:=zAT y;refine⟨?_,?_,?_,?_,zNJ z,F⟩
 .unfold rngB;simp[u.1,u.2,v.1,v.2,o]
 .unfold namedB;rw[h.name,h.sub,h.ali,A];kernel_rfl
 .rw[h.name];simp
 .have:=h.num;simp;omega
theorem PlcOk.par (h:UOk L ct b)(y:b<=1000000)(u:PlcOk L d):0<=d.parent/\d.parent<=1000000:=by
 rcases u with⟨v,_⟩|⟨p,o,v,_⟩
 .omega
 .have z:=(h.dv p o).2;have A:=(h.wf.ok.ix p o).1;omega
theorem UOk.sound (h:UOk L ct b)(u:b<=1000000)(o:d∈L){c:H}(v:InU c):Sound d (cAtt c):=by
 have y:=(h.pl d o).par h u;exact zIR (h.dv d o).1 (h.pl d o).all (h.wf.ok.ix d o) ⟨y.1,by omega⟩ (h.wf.ok.pw.2 d o) v
theorem UOk.sub (h:UOk L ct b){q:Dev->bc}(u:SubF L q):UOk (L.filter q) ct b:=by
 refine⟨u.wf h.wf,λd o=>h.dv d (List.mem_filter.1 o).1,λd o=>?_,λd o=>h.co d (List.mem_filter.1 o).1,λd o e I=>h.nu d (List.mem_filter.1 o).1 e (List.mem_filter.1 I).1,?_⟩
 .obtain⟨A,J⟩:=List.mem_filter.1 o;rcases h.pl d A with v|⟨p,F,v,N⟩
  .exact .inl v
  .exact .inr ⟨p,List.mem_filter.2 ⟨F,u.cl d A J p F v⟩,v,N⟩
 .refine(h.so.filter q).imp_of_mem fun {x y} O U z=>?_
  rw[u.plc (u.mem O),u.plc (u.mem U)];exact z
theorem zF6 (u:TreeOk L)(o:TreeOk (insAt L k D))(h:look L D.index=ac)(A:1<=D.index)(v:n≠D.index):look (insAt L k D) n=look L n/\origin (insAt L k D) n=origin L n/\plc (insAt L k D) n=plc L n:=by
 have y:look (insAt L k D) n=look L n:=by rw[zF0 o.nd h,am v]
 have F:chain (insAt L k D) n=chain L n:=zCV o ((u.chn0 n).ins u o.nd h A v);have z:origin (insAt L k D) n=origin L n:=by unfold origin;rw[F]
 exact⟨y,z,by unfold plc;rw[y,z]⟩
theorem TreeOk.pne (u:TreeOk L)(o:look L n=ac)(F:1<=n)(v:d∈L):d.parent≠n:=by
 obtain⟨k,y⟩:=bu v;rcases u.pa k d y with h|⟨j,e,_,z,h⟩
 .omega
 .intro A;exact zv.1 o e (az z) (h.trans A)
theorem zPG (u:TreeOk L)(o:TreeOk (insAt L k D))(h:look L D.index=ac)(v:1<=D.index)(y:d∈L):virB (insAt L k D) d.index=virB L d.index:=by
 have z:=(zF6 u o h v (n:=d.index) (λe=>zv.1 h d y e)).1;have A:=(zF6 u o h v (n:=d.parent) (u.pne h v y)).1;unfold virB partOf;rw[z,u.lk y];dsimp only;rw[A]
theorem zNb {t:H}(h:zo s=af)(o:zo t=af):(cmpP s t).1=pathO s t:=by
 unfold cmpP pathO;rw[h,o];rfl
theorem zFM {α:Type}{p:α->bc}:∀ {l:T α} {k:Q},fidx p l=(k:ae)->∀ x∈l.take k,p x=B
 | [],k,h,x,o=>by simp at o
 | y::t,0,h,x,o=>by simp at o
 | y::t,k+1,h,x,o=>by
  cases hp:p y with
  | true=>simp[fidx,hp]at h;omega
  | false=>
   have v:fidx p t=(k:ae):=by
    rcases zAq p t with⟨u,_⟩|⟨j,z,u,_⟩
    .simp[fidx,hp,u]at h;omega
    .have:¬ ((j:ae)<0):=(by omega);simp[fidx,hp,u,this]at h;rw[u];omega
   rw[List.take_succ_cons]at o;rcases List.mem_cons.1 o with e|o
   .rw[e];exact hp
   .exact zFM v x o
theorem zMt (h:UOk L ct b)(o:d∈L):zo (plc L d.index)=true:=by
 rw[h.pth o];have:=zO0 (h.pl d o).all;unfold plOk at this;rw[ap]at this;exact this.1
theorem UOk.at (h:UOk L ct b)(N:PlcOk L D)(U:∀ e∈L,e.orig≠D.orig):
  (∀ x∈L.take (insK L D),pathO (plc L x.index) (newO L D)<0)/\(∀ x∈L.drop (insK L D),pathO (newO L D) (plc L x.index)<0)/\(D.parent=0\/∃ (j:Q) (e:Dev),j<insK L D/\L[j]?=G e/\e.index=D.parent):=by
 have V:=(N.org h.wf.ok (zB3 h.wf.ok)).2;have hg:zo (newO L D)=true:=by
  rw[V];have:=zO0 N.all;unfold plOk at this;rw[ap]at this;exact this.1
 have X:∀ x∈L,plc L x.index≠newO L D:=λx o e=>by
  rw[h.pth o,V]at e;exact U x o (zCi (h.pl x o).all N.all e)
 have y:∀ x∈L,zAD L (newO L D) x=decide (0<=pathO (plc L x.index) (newO L D)):=λx o=>by
  unfold zAD;rw[zNb (zMt h o) hg]
 have hA:∀ x∈L.take (insK L D),pathO (plc L x.index) (newO L D)<0:=by
  intro x o;have A:=cp o;have hf:zAD L (newO L D) x=false:=by
   rcases zCp L D with⟨u,v⟩|⟨u,v⟩
   .rcases zAq (zAD L (newO L D)) L with⟨_,_,g3⟩|⟨j,z,g1,_⟩
    .rw[bj]at g3
     simpa using g3 x A
    .omega
   .exact zFM u x o
  rw[y x A]at hf;simp at hf;omega
 have hB:∀ x∈L.drop (insK L D),pathO (newO L D) (plc L x.index)<0:=by
  rcases zCp L D with⟨u,v⟩|⟨u,v⟩
  .rw[v];simp
  .have hk:=bs v;have h0:pathO (newO L D) (plc L L[insK L D].index)<0:=by
    rcases zAq (zAD L (newO L D)) L with⟨g1,_⟩|⟨j,z,g1,g2,_,g4,_⟩
    .omega
    .obtain rfl:j=insK L D:=by omega
     have e:=Option.some.inj (hk.symm.trans g2);rw[e];have hz:=az g2;rw[y z hz,bm]at g4;have O:=zB6.turn (plc L z.index) (newO L D);have Y:pathO (plc L z.index) (newO L D)≠0:=λe=>X z hz (zB6.zero _ _ e)
     omega
   intro x o;rw[ci v]at o;rcases List.mem_cons.1 o with rfl|o
   .exact h0
   .have hs:=h.so.sublist (List.drop_sublist (insK L D) L);rw[ci v]at hs;exact zB6.trans _ _ _ h0 ((List.pairwise_cons.1 hs).1 x o)
 refine⟨hA,hB,?_⟩;rcases N with⟨u,_⟩|⟨p,F,u,v,O,Y⟩
 .exact .inl u
 .right;have a2:pathO (plc L p.index) (newO L D)<0:=by
   rw[h.pth F,V];unfold orgOf;rw[zBA O,zAZ O Y];exact zK2 O Y
  have I:p∈L.take (insK L D):=by
   have:p∈L.take (insK L D)++L.drop (insK L D):=(by rw[bz];exact F);rcases List.mem_append.1 this with I|I
   .exact I
   .have h5:=hB p I;have h6:=zB6.turn (plc L p.index) (newO L D);omega
  obtain⟨j,Z⟩:=bu I;have J:j<insK L D:=by have:=(List.getElem?_eq_some_iff.1 Z).1;rw[dh]at this;omega
  rw[de J]at Z;exact⟨j,p,J,Z,u⟩
theorem zLi (v:(sameO L D||L.any (clP D))=B)(y:look L D.index=ac)(z:∀ e∈L,e.kind=2)(A:D.kind=2):∀ e∈L,e.orig≠D.orig/\e.num≠D.num:=by
 rw[cy,bj]at v;intro e o;have h:=v.2 e o;have F:(e.index != D.index)=true:=by simpa using zv.1 y e o
 unfold clP clB at h;rw[F,z e o,A]at h;refine⟨λu=>?_,λu=>?_⟩;·rw[u]at h;simp[numK]at h
 .rw[u]at h;simp[numK]at h
theorem UOk.free (h:UOk L ct b)(z:DOk D)(u:PlcOk L D)(v:∀ e∈L,e.orig≠D.orig)(A:∀ e∈L,e.num≠D.num):(sameO L D||L.any (clP D))=false:=by
 rw[cy];constructor
 .unfold sameO;cases e:L[insK L D]? with
  | none=>rfl
  | some x=>
   have o:=az e;show ((plc L x.index).toList==(newO L D).toList)=B
   rw[dx,ByteArray.toList_eq,ByteArray.toList_eq];intro F;have y:plc L x.index=newO L D:=bg (Array.toList_inj.1 F);rw[h.pth o,(u.org h.wf.ok (zB3 h.wf.ok)).2]at y;exact v x o (zCi (h.pl x o).all u.all y)
 .rw[bj];intro x o;unfold clP;rw[zOD (h.pl x o).all u.all (h.dv x o).1.kind z.kind (A x o) (v x o)];simp
theorem UOk.pre (h:UOk L ct b)(J:b<=1000000){c:H}(y:DOk D)(z:PlcOk L D)(N:1<=D.index/\D.index<=1000001)(o:look L D.index=ac)(O:InU c):InsPre L D (cAtt c)/\Sized D:=by
 have A:=z.par h J;have F:=z.all;have I:=zAT F;have U:=(zAh I.1).1;refine⟨⟨zIR y F ⟨N.1,by omega⟩ ⟨A.1,by omega⟩ ?_ O,o,?_,by have:=h.len;omega,?_⟩,?_⟩
 .rcases z with⟨v,_⟩|⟨p,u,v,_⟩
  .omega
  .rw[<-v];exact zv.1 o p u
 .rcases z with⟨v,_⟩|⟨p,u,v,_⟩
  .rw[v];rfl
  .rw[<-v,h.wf.ok.lk u];simp
 .rw[(z.org h.wf.ok (zB3 h.wf.ok)).2];have:=zO0 F;unfold plOk at this;rw[ap,bm]at this;exact this.2
 .refine⟨?_,?_,?_,?_,?_⟩;·rw[y.name];unfold ak;omega
  .unfold ak;omega
  .rw[y.sub];unfold ak;decide
  .rw[y.drv];unfold ak;decide
  .rw[y.ali];unfold ak;decide
theorem UOk.ins (h:UOk L ct b)(hb:b<=b'/\b'<=1000001){c:H}(hD:DOk D)(hp:PlcOk L D)(hi:1<=D.index/\D.index<=b')(v:look L D.index=ac)(hc:InU c)(b3:D.parent≠0->NoTab c)(hf:(sameO L D||L.any (clP D))=B):
  UOk (insAt L (insK L D) (strip D)) (updC ct D.index c) b'/\(∀ d∈L,plc (insAt L (insK L D) (strip D)) d.index=plc L d.index/\plc (insAt L (insK L D) (strip D)) d.parent=plc L d.parent/\virB (insAt L (insK L D) (strip D)) d.index=virB L d.index)/\
   plc (insAt L (insK L D) (strip D)) D.index=newO L D/\plc (insAt L (insK L D) (strip D)) D.parent=plc L D.parent:=by
 have hT:=h.wf.ok;have A:=zLi hf v (λe J=>(h.dv e J).1.kind) hD.kind;obtain⟨hA,hB,a5⟩:=h.at hp λe J=>(A e J).1
 have hk:insK L D<=(L:Q):=by rcases zCp L D with⟨_,h2⟩|⟨_,h2⟩<;>omega
 have a6:=zAT hp.all;have a7:D.parent≠D.index:=by
  rcases hp with⟨F,_⟩|⟨p,N,F,_⟩
  .omega
  .rw[<-F];exact zv.1 v p N
 have X:=(hp.org hT (zB3 hT))
 have a8:=h.wf.insert (k:=insK L D) (d:=strip D) hk v ⟨hi.1,by show D.index<=_;omega⟩ ⟨(zAh a6.1).1,a6.2.2.2⟩ a7 a5 (λe J ho=>by
  have a9:origin L e.index=origin L D.parent++[D.orig]:=ho;rw[h.org J,X.1]at a9;exact(A e J).1 (zCi (h.pl e J).all hp.all (by rw[a9]))) (by
  show (origin L D.parent).length<7
  have F:=bb bn X.1;rw[df]at F;have h2:(orgOf D.orig).length<=2:=by unfold orgOf;cases parOf D.orig<;>simp
  simp at F;omega)
 obtain⟨hW,b4,Z⟩:=a8;obtain⟨K,hK⟩:=ε (insAt L (insK L D) (strip D))
 have I:∀ n,n≠D.index->look K n=look L n/\origin K n=origin L n/\plc K n=plc L n:=λn hn=>by
  rw[hK];exact zF6 hT hW.ok v hi.1 hn
 have b0:∀ d∈L,d.index≠D.index:=zv.1 v;have b5:∀ d∈L,d.parent≠D.index:=λd o=>hT.pne v hi.1 o
 have u:∀ d∈L,plc K d.index=plc L d.index/\plc K d.parent=plc L d.parent/\virB K d.index=virB L d.index:=λd o=>
  ⟨(I _ (b0 d o)).2.2,(I _ (b5 d o)).2.2,by rw[hK];exact zPG hT hW.ok v hi.1 o⟩
 have b6:strip D∈K:=by rw[hK];exact zV.2 (.inl rfl)
 have b1:∀ d∈L,d∈K:=λd o=>by rw[hK];exact zV.2 (.inr o)
 rw[<-hK]at hW b4 Z ⊢;have b2:plc K D.index=newO L D:=by
  have F:look K D.index=G (strip D):=hW.ok.lk b6;have h2:origin K D.index=origin L D.parent++[D.orig]:=by
   have h3:chain K D.index=strip D::chain L D.parent:=Z;unfold origin;rw[h3,ck,List.reverse_cons];rfl
  unfold plc;rw[F,h2,X.1,X.2];rfl
 have z:∀ {d:Dev},d∈K->d=strip D\/d∈L:=fun {d} o=>by rw[hK]at o;exact zV.1 o
 refine⟨⟨hW,λd o=>?_,λd o=>?_,λd o=>?_,λd o e J O=>?_,?_⟩,u,b2,(I _ a7).2.2⟩
 .rcases z o with rfl|o
  .exact⟨⟨hD.kind,hD.name,hD.sub,hD.drv,hD.ali,hD.num⟩,hi.2⟩
  .exact⟨(h.dv d o).1,by have:=(h.dv d o).2;omega⟩
 .rcases z o with rfl|o
  .rcases hp with F|⟨p,N,F⟩
   .exact .inl F
   .exact .inr ⟨p,b1 p N,F⟩
  .rcases h.pl d o with F|⟨p,N,F⟩
   .exact .inl F
   .exact .inr ⟨p,b1 p N,F⟩
 .rcases z o with rfl|o
  .show InU (updC ct D.index c D.index)/\(D.parent≠0->NoTab (updC ct D.index c D.index))
   unfold updC;rw[aq rfl];exact⟨hc,b3⟩
  .unfold updC;rw[am (b0 d o)];exact h.co d o
 .rcases z o with rfl|o
  .rcases z J with rfl|J
   .rfl
   .exact an O.symm (A e J).2
  .rcases z J with rfl|J
   .exact an O (A d o).2
   .exact h.nu d o e J O
 .have hP:(insAt L (insK L D) (strip D)).Pairwise λx y=>pathO (plc K x.index) (plc K y.index)<0:=by
   unfold insAt;have hs:=h.so;rw[<-bz (insK L D) L]at hs;obtain⟨s1,s2,s3⟩:=List.pairwise_append.1 hs;have a3:∀ x∈L.take (insK L D),x∈L:=λx U=>cp U
   have Y:∀ x∈L.drop (insK L D),x∈L:=λx U=>List.mem_of_mem_drop U
   rw[bz]at s1 s2 s3;have a2:plc K (strip D).index=newO L D:=b2;rw[List.pairwise_append,List.pairwise_cons];refine⟨s1.imp_of_mem fun {x y} U V a4=>?_,⟨λy V=>?_,s2.imp_of_mem fun {x y} U V a4=>?_⟩,λx U y V=>?_⟩;·rw[(u x (a3 x U)).1,(u y (a3 y V)).1];exact a4
   .rw[a2,(u y (Y y V)).1];exact hB y V
   .rw[(u x (Y x U)).1,(u y (Y y V)).1];exact a4
   .rw[(u x (a3 x U)).1];rcases List.mem_cons.1 V with rfl|V
    .rw[a2];exact hA x U
    .rw[(u y (Y y V)).1];exact s3 x U y V
  rw[hK];rw[hK]at hP;exact hP
theorem UOk.renK (h:UOk L ct b){K:T Dev}{N:ae}(u:SimK f L ct K J N)(v:N<=1000000):UOk K J N:=by
 have o:∀ {d:Dev},d∈K->∃ x∈L,d=ren f x:=fun {d} A=>by
  rw[u.eq]at A;obtain⟨x,v,rfl⟩:=List.mem_map.1 A;exact⟨x,v,rfl⟩
 have O:∀ {n:ae},f n=0↔n=0:=fun {n}=>⟨λe=>u.ren.inj _ _ (by rw[e,u.ren.z]),λe=>by rw[e,u.ren.z]⟩
 refine⟨by rw[u.eq];exact h.wf.ren u.ren (λd A=>by have:=u.lo d A;omega),λd A=>?_,λd A=>?_,λd A=>?_,λd A e X I=>?_,?_⟩
 .obtain⟨x,v,rfl⟩:=o A;have F:=(h.dv x v).1;exact⟨⟨F.kind,F.name,F.sub,F.drv,F.ali,F.num⟩,(u.lo x v).2⟩
 .obtain⟨x,v,rfl⟩:=o A;rcases h.pl x v with⟨F,U⟩|⟨p,Y,F,U,Z⟩
  .exact .inl ⟨O.2 F,U⟩
  .exact .inr ⟨ren f p,by rw[u.eq];exact bp Y,bb f F,O.2 U,Z⟩
 .obtain⟨x,v,rfl⟩:=o A;show InU (J (f x.index))/\(f x.parent≠0->NoTab (J (f x.index)))
  rw[u.ct x v];exact⟨(h.co x v).1,λe=>(h.co x v).2 λe'=>e (O.2 e')⟩
 .obtain⟨x,v,rfl⟩:=o A;obtain⟨y,hy,rfl⟩:=o X;rw[h.nu x v y hy I]
 .rw[u.eq,dj];refine h.so.imp fun {x y} V=>?_
  show pathO (plc (L.map (ren f)) (f x.index)) (plc (L.map (ren f)) (f y.index))<0
  rw[zCT u.ren,zCT u.ren];exact V
theorem zEO (L:T Dev):0<=maxI L/\(∀ d∈L,d.index<=maxI L)/\∀ b,0<=b->(∀ d∈L,d.index<=b)->maxI L<=b:=by
 refine zDA (P:=λL=>0<=maxI L/\(∀ d∈L,d.index<=maxI L)/\∀ b,0<=b->(∀ d∈L,d.index<=b)->maxI L<=b) ?_ ?_ L;·exact⟨Int.le_refl _,by simp,λb h _=>h⟩
 .rintro l x ⟨A,v,y⟩;rw[zGs];refine⟨by omega,λd o=>?_,λb z o=>?_⟩
  .rcases List.mem_append.1 o with o|o
   .have:=v d o;omega
   .simp at o;subst o;omega
  .have:=y b z λd u=>o d (List.mem_append.2 (.inl u))
   have:=o x (by simp);omega
structure VOk (v:Vir):Prop where
 c:InU v.c
 p:(v.q=()/\v.o∈rootN)\/∃ n∈rootN,v.q=pathOf [n]/\v.o∈parN n/\NoTab v.c
 n:isDk v.o=B
theorem VOk.path (h:VOk v):v.q++(⟨#[47]⟩:H)++v.o=pathOf (orgOf v.o):=by
 rcases h.p with⟨u,y⟩|⟨n,u,y,z,_⟩
 .unfold orgOf;rw[zBA y,u];rfl
 .unfold orgOf;rw[zAZ u z,y];rfl
theorem VOk.all (h:VOk v):v.o∈allN:=by
 rcases h.p with⟨u,y⟩|⟨n,u,y,z,_⟩
 .exact zCD y
 .exact zLM u z
theorem zDh (n:H):pathOf [n]≠():=λe=>by
 have h:(pathOf [n]).size=0:=by rw[e];rfl
 have o:pathOf [n]=(():H)++⟨#[47]⟩++n:=rfl;rw[o,ByteArray.size_append,ByteArray.size_append]at h;have u:(⟨#[47]⟩:H).size=1:=rfl;omega
theorem zGP (M:T Vir)(p:H×H):(∃ v∈M,(v.q,v.o)=p/\wcF M p=v.c)\/wcF M p=():=by
 unfold wcF;cases h:M.find? (λv=>decide ((v.q,v.o)=p))with
 | none=>exact .inr rfl
 | some v=>exact .inl ⟨v,bx h,by simpa using cj h,rfl⟩
theorem zIF (h:DistP M)(z:v∈M):wcF M (v.q,v.o)=v.c:=by
 have u:=zDx h z;unfold wantG at u;unfold wcF;cases hf:M.find? (λx=>decide ((x.q,x.o)=(v.q,v.o)))with
 | none=>rw[hf]at u;cases u
 | some x=>
  rw[hf]at u;have A:x.vals=v.vals:=by simpa using u
  have y:=bb (λa:Array Value=>a[2]?) A;simp[cr]at y;exact y
theorem zHt (h:v∈M):inW M v.q v.o=true:=List.any_eq_true.2 ⟨v,h,by simp⟩
theorem zOP (h:∀ v∈M,VOk v)(p:H×H):InU (wcF M p):=by
 rcases zGP M p with⟨v,o,_,e⟩|e
 .rw[e];exact(h v o).c
 .rw[e];exact zBs
theorem zHg: NoTab ():=λc h=>by rw[zEF]at h;cases h;decide
theorem zKG (h:∀ v∈M,VOk v){n:H}:NoTab (wcF M (pathOf [n],o)):=by
 rcases zGP M (pathOf [n],o)with⟨v,y,z,e⟩|e
 .rw[e];have A:v.q=pathOf [n]:=bb Prod.fst z;rcases(h v y).p with⟨u,_⟩|⟨_,_,_,_,u⟩
  .exact an (A.symm.trans u) (zDh n)
  .exact u
 .rw[e];exact zHg
theorem zB2 (h:UOk L ct b)(o:d∈L)(u:d.parent=0):plc L d.index=pathOf [d.orig]:=by
 unfold plc;rw[h.wf.ok.lk o,zB3 h.wf.ok d o u];rfl
theorem UOk.ppl (h:UOk L ct b)(v:d∈L)(y:d.parent≠0):∃ n∈rootN,plc L d.parent=pathOf [n]:=by
 rcases h.pl d v with⟨o,_⟩|⟨p,u,o,z,A,_⟩
 .exact an o y
 .exact⟨p.orig,A,by rw[<-o];exact zB2 h u z⟩
theorem UOk.wco (h:UOk L ct b)(o:∀ v∈M,VOk v)(u:d∈L):InU (wcF M (plc L d.parent,d.orig))/\(d.parent≠0->NoTab (wcF M (plc L d.parent,d.orig))):=by
 refine⟨zOP o _,λy=>?_⟩;obtain⟨n,_,e⟩:=h.ppl u y;rw[e];exact zKG o
theorem UOk.setOk (h:UOk L ct b)(z:b<=1000000)(y:∀ v∈M,VOk v)(u:ae->H):SetOk M L u:=λd o=>
 ⟨(h.dv d o).1.kind,h.cl o,λ_=>⟨h.sound z o (h.wco y o).1,by have:=zDm (h.wco y o).1;omega⟩⟩
def WantB (M:T Vir)(L:T Dev)(d:Dev):Prop:=virB L d.index=af->inW M (plc L d.parent) d.orig=af
theorem zFk {M:T Vir}{ds:T Dev}{ct:ae->H}{b:ae}(h:UOk (ds.map strip) ct b):∀ (n:Q) (pre:T (ae×Dev)),(pre:Q)=n->pre <+: revR ds->∃ F,(remF M ds pre).1=(ds.map strip).take ((ds:Q)-n)++F/\UOk (remF M ds pre).1 ct b/\
  (∀ d∈(remF M ds pre).1,d∈ds.map strip/\plc (remF M ds pre).1 d.parent=plc (ds.map strip) d.parent/\virB (remF M ds pre).1 d.index=virB (ds.map strip) d.index)/\(∀ d∈F,WantB M (ds.map strip) d)/\∀ d∈ds.map strip,d.parent=0->WantB M (ds.map strip) d->d∈(remF M ds pre).1
 | 0,pre,Y,_=>by
  obtain rfl:pre=[]:=List.eq_nil_of_length_eq_zero Y;refine⟨[],?_,h,λd o=>⟨o,rfl,rfl⟩,by simp,λd o _ _=>o⟩;rw[List.append_nil,Nat.sub_zero,<-bh (f:=strip),List.take_length];rfl
 | n+1,pre,Y,hp=>by
  obtain⟨q,x,rfl⟩:∃ q x,pre=q++[x]:=by
   rcases List.eq_nil_or_concat pre with h|⟨q,x,h⟩
   .subst h;simp at Y
   .exact⟨q,x,by simpa using h⟩
  have I:q.length=n:=by simpa using Y
  obtain⟨F,e,y,Z,hW,hR⟩:=zFk h n q I ((cq q [x]).trans hp);obtain⟨b0,a2⟩:=zIX hp;have J:(ds.map strip).take ((ds:Q)-n)=(ds.map strip).take ((ds:Q)-(n+1))++[strip x.2]:=by
   rw[<-I,<-bv,a2,<-bv,bo];simp
  rw[zEB];obtain⟨S,a3⟩:=ε (remF M ds q)
  rw[<-a3]at e y Z hR ⊢;rw[J,dc]at e;have a4:strip x.2∈S.1:=by rw[e];simp
  obtain⟨a5,N,O⟩:=Z _ a4;unfold zAO;by_cases A:(virB S.1 x.2.index&&!inW M (plc S.1 x.2.parent) x.2.orig)=af
  .rw[aq A];dsimp only;have hT:TreeOk ((ds.map strip).take ((ds:Q)-(n+1))++([strip x.2]++F)):=(by rw[<-e];exact y.wf.ok);have hF:=y.wf.ok.subF (n:=x.2.index);have a6:UOk (remL x.2.index S.1) ct b:=(by rw[zCg];exact y.sub hF);obtain⟨B',e',a7⟩:=zJj (n:=x.2.index) hT λd o U=>by
    have u:=hT.nd;rw[bo,List.nodup_append]at u;exact u.2.2 d.index (bp o) x.2.index (by simp;exact .inl rfl) U
   rw[<-e]at e';refine⟨B',e',a6,λd o=>?_,λd o=>?_,λd o V X=>?_⟩
   .have v:=o;rw[zCg]at v;obtain⟨g1,g2,g3⟩:=Z d (List.mem_filter.1 v).1;rw[zCg];exact⟨g1,by rw[hF.plc (hF.memP v),g2],by rw[hF.vir v,g3]⟩
   .have a8:d∈remL x.2.index S.1:=(by rw[e'];simp[o]);have a9:=zKr y.wf.ok a8;rcases List.mem_append.1 (a7.subset o)with u|u
    .simp at u;subst u;exact an rfl a9
    .exact hW d u
   .refine zKq y.wf.ok (hR d o V X) V λU=>?_
    have z:d=strip x.2:=by
     have u:=h.wf.ok.lk o;have h2:=h.wf.ok.lk a5;have h3:(strip x.2).index=d.index:=U.symm;rw[h3,u]at h2;exact Option.some.inj h2
    rw[ap]at A;have h4:virB (ds.map strip) d.index=true:=(by rw[z,<-O];exact A.1);have h5:=X h4;have h6:plc (ds.map strip) d.parent=plc S.1 x.2.parent:=(by rw[z];exact N.symm);rw[h6,z]at h5;have h7:=A.2;have h8:(strip x.2).orig=x.2.orig:=rfl;rw[h8]at h5;rw[h5]at h7;cases h7
  .rw[am A];refine⟨[strip x.2]++F,e,y,Z,λd o=>?_,hR⟩;rcases List.mem_append.1 o with u|u
   .simp at u;subst u;intro hv;rw[<-O]at hv;rw[<-N];cases U:inW M (plc S.1 (strip x.2).parent) (strip x.2).orig with
    | true=>rfl
    | false=>
     exfalso;apply A;rw[ap];refine⟨hv,?_⟩;have:inW M (plc S.1 x.2.parent) x.2.orig=false:=U;rw[this];rfl
   .exact hW d u
theorem zOs (h:UOk (ds.map strip) ct b):RemOk M ds/\UOk (remF M ds (revR ds)).1 ct b/\(∀ d∈(remF M ds (revR ds)).1,WantB M (remF M ds (revR ds)).1 d)/\∀ d∈ds.map strip,d.parent=0->WantB M (ds.map strip) d->d∈(remF M ds (revR ds)).1:=by
 refine⟨λpre x u=>?_,?_⟩
 .obtain⟨F,e,o,_⟩:=zFk (M:=M) h pre.length pre rfl ((cq pre [x]).trans u);obtain⟨_,_,v,_⟩:=zFk (M:=M) h _ (pre++[x]) rfl u;obtain⟨I,y⟩:=zIX u;have J:strip x.2∈(remF M ds pre).1:=by
   rw[e,<-bv,y,bo];simp
  exact⟨o.wf,v.wf,strip x.2,o.wf.ok.lk J⟩
 .obtain⟨F,e,o,N,O,hR⟩:=zFk (M:=M) h _ (revR ds) rfl (dk _);rw[zAf,Nat.sub_self,List.take_zero,List.nil_append]at e;refine⟨o,λd z A=>?_,hR⟩;obtain⟨X,U,V⟩:=N d z;rw[U];rw[V]at A;exact O d (by rw[<-e];exact z) A
theorem zKk {M:T Vir}{L:T Dev}{ct:ae->H}(F:TreeOk L)(v:T OpA):∀ k,k<=(L:Q)->∀ j d,L[j]?=G d->(setF M L ct v k).1 d.index=if j<k/\virB L d.index=af then wcF M (plc L d.parent,d.orig)else ct d.index
 | 0,_,j,d,_=>by rw[am (by omega)];rfl
 | k+1,hk,j,d,u=>by
  have I:k<(L:Q):=by omega
  have N:=zKk (M:=M) (ct:=ct) F v k (by omega) j d u;have o:=bs I;rw[zD7 o];have y:L[k].index=d.index↔k=j:=by
   constructor
   .intro e;have z:(L.map bq)[k]?=G d.index:=(by rw[bt,o];exact bb G e);have Y:(L.map bq)[j]?=G d.index:=(by rw[bt,u];rfl);obtain⟨O,U⟩:=List.getElem?_eq_some_iff.1 z;obtain⟨V,X⟩:=List.getElem?_eq_some_iff.1 Y;rcases Nat.lt_trichotomy k j with h|h|h
    .exact an (U.trans X.symm) (List.pairwise_iff_getElem.1 F.nd k j O V h)
    .exact h
    .exact an (X.trans U.symm) (List.pairwise_iff_getElem.1 F.nd j k V O h)
   .rintro rfl;rw[o]at u;rw[Option.some.inj u]
  unfold zAa;split
  .rename_i A;dsimp only;unfold updC;by_cases e:d.index=L[k].index
   .obtain rfl:k=j:=y.1 e.symm;rw[o]at u;obtain rfl:=Option.some.inj u;rw[ap]at A;rw[aq rfl,aq ⟨by omega,A.1⟩]
   .have Z:k≠j:=λh=>e (y.2 h).symm
    rw[am e,N];have:(j<k+1/\virB L d.index=af)↔(j<k/\virB L d.index=af):=by constructor<;>rintro ⟨a,b⟩<;>exact⟨by omega,b⟩
    simp only[this]
  .rename_i A;rw[N];by_cases J:k=j
   .subst J;rw[o]at u;obtain rfl:=Option.some.inj u;rw[am (by omega)];split
    .rename_i hv;have z:((ct L[k].index).toList==(wcF M (plc L L[k].parent,L[k].orig)).toList)=true:=by
      cases hq:((ct L[k].index).toList==(wcF M (plc L L[k].parent,L[k].orig)).toList)with
      | true=>rfl
      | false=>exact an (by rw[hv.2,hq];rfl) A
     rw[cu,ByteArray.toList_eq,ByteArray.toList_eq]at z;exact bg (Array.toList_inj.1 z)
    .rfl
   .have:(j<k+1/\virB L d.index=af)↔(j<k/\virB L d.index=af):=by constructor<;>rintro ⟨a,b⟩<;>exact⟨by omega,b⟩
    simp only[this]
def WantC (M:T Vir)(L:T Dev)(ct:ae->H):Prop:=∀ d∈L,virB L d.index=af->inW M (plc L d.parent) d.orig=af/\ct d.index=wcF M (plc L d.parent,d.orig)
def There (L:T Dev)(v:Vir):Prop:=∃ dt,L.find? (atP L (v.q++(⟨#[47]⟩:H)++v.o))=G dt
def Roots (M:T Vir)(L:T Dev):Prop:=∀ v∈M,v.q≠()->∃ p∈L,p.parent=0/\v.q=pathOf [p.orig]
structure PlaP (M:T Vir)(ix0:ae)(j:Q)(L:T Dev)(ct:ae->H):Prop where
 u:UOk L ct (ix0+j)
 w:WantC M L ct
 t:∀ i v,i<j->M[i]?=G v->There L v
 r:Roots M L
theorem zMB (h:UOk L ct b):L.find? (atP L ())=none:=by
 rw[dd];intro d v;unfold atP;rw[h.pth v];intro y;have o:orgOf d.orig≠[]:=λe=>by have:=zDF d.orig;rw[e]at this;cases this
 have z:∀ l:T H,l≠[]->(pathOf l).data.toList≠[]:=λl A e=>by
  rw[zB7]at e;cases l with
  | nil=>exact A rfl
  | cons x t=>rw[ck,zDK]at e;cases e
 have u:(pathOf (orgOf d.orig)).toList=[]:=by simpa using y
 rw[ByteArray.toList_eq]at u;exact z _ o u
theorem zAu (h:UOk L ct b)(z:VOk v):There L v↔∃ e∈L,e.orig=v.o:=by
 unfold There;rw[z.path];constructor
 .rintro ⟨d,A⟩;have u:=bx A;have y:=cj A;unfold atP at y;rw[cu,ByteArray.toList_eq,ByteArray.toList_eq,h.pth u]at y;exact⟨d,u,zCi (h.pl d u).all z.all (bg (Array.toList_inj.1 y))⟩
 .rintro ⟨e,F,I⟩;rw[<-I,<-h.pth F];exact⟨e,zHE h.wf F⟩
theorem UOk.parent (h:UOk L ct b)(X:Roots M L)(Y:v∈M)(N:VOk v):∃ p,ParIs L v.q p/\((p=0/\v.q=()/\v.o∈rootN)\/∃ r∈L,r.index=p/\r.parent=0/\r.orig∈rootN/\v.o∈parN r.orig/\v.q=pathOf [r.orig]/\NoTab v.c):=by
 rcases N.p with⟨z,A⟩|⟨n,z,A,Z,h4⟩
 .refine⟨0,.inl ⟨?_,z,rfl⟩,.inl ⟨rfl,z,A⟩⟩;rw[z];exact zMB h
 .obtain⟨r,u,F,O⟩:=X v Y (by rw[A];exact zDh n);have U:r.orig=n:=by
   have h5:pathOf [r.orig]=pathOf [n]:=O.symm.trans A;have I:∀ y∈allN,OkN y:=λy V=>⟨(zAh (zAT V).1).1,(zAT V).2.2.2⟩
   have h6:=zDD (a:=[r.orig]) (b:=[n]) (λx J=>by simp at J;subst J;exact I _ (h.pl r u).all) (λx J=>by simp at J;subst J;exact I _ (zCD z)) (by rw[h5])
   simpa using h6
  subst U;refine⟨r.index,.inr ⟨r,?_,rfl⟩,.inr ⟨r,u,rfl,F,z,Z,A,h4⟩⟩;rw[A,<-zB2 h u F];exact zHE h.wf u
theorem zO6 (L:T Dev)(p:ae)(h:H)(k:Q)(v:k<=44)(o:H)(u:ar ax):DOk (newG L p h (1048576+(k:ae)) o u):=⟨rfl,rfl,rfl,rfl,rfl,by show 1<=1048576+(k:ae)/\1048576+(k:ae)<=2000000;omega⟩
theorem PlaP.new (h:PlaP M z j L ct)(hx:0<=z/\z+j<=1000000)(hv:v∈M)(O:VOk v){p:ae}(hp:ParIs L v.q p)(X:¬ There L v)(hk:k<=(L:Q))(Y:usedF L (1048576+(k:ae))=B)(I:ar ax):
  PlcOk L (newG L p v.o (1048576+(k:ae)) v.c I)/\DOk (newG L p v.o (1048576+(k:ae)) v.c I)/\(1<=maxI L+1/\maxI L<=z+j)/\look L (maxI L+1)=ac/\(p≠0->NoTab v.c)/\(sameO L (newG L p v.o (1048576+(k:ae)) v.c I)||L.any (clP (newG L p v.o (1048576+(k:ae)) v.c I)))=B/\plc L p=v.q/\0<=p/\p<=z+j:=by
 obtain⟨q,hq,y⟩:=h.u.parent h.r hv O;obtain rfl:=zGm hp hq;have a3:=h.u.len;obtain⟨m1,m2,m3⟩:=zEO L;have Z:=m3 (z+j) (by omega) λd hd=>(h.u.dv d hd).2
 have hD:=zO6 L p v.o k (by omega) v.c I;have hP:PlcOk L (newG L p v.o (1048576+(k:ae)) v.c I):=by
  rcases y with⟨A,F,J⟩|⟨r,N,A,F,J,U,_⟩
  .exact .inl ⟨A,J⟩
  .exact .inr ⟨r,N,A,F,J,U⟩
 refine⟨hP,hD,⟨by omega,Z⟩,zv.2 λd hd=>by have:=m2 d hd;omega,λa2=>?_,?_,?_,?_⟩
 .rcases y with⟨A,_⟩|⟨r,_,_,_,_,_,_,U⟩
  .exact an A a2
  .exact U
 .refine h.u.free hD hP (λe V ho=>X ((zAu h.u O).2 ⟨e,V,ho⟩)) λe V hn=>?_
  unfold usedF at Y;rw[bj]at Y;have:=Y e V;rw[(h.u.dv e V).1.kind]at this;have h9:e.num=1048576+(k:ae):=hn;rw[h9]at this;simp at this
 .rcases y with⟨A,F,J⟩|⟨r,N,A,F,J,U,h5,_⟩
  .rw[A,F];exact zDg h.u.wf.ok
  .rw[<-A,h5];exact zB2 h.u N F
 .rcases y with⟨A,F,J⟩|⟨r,N,A,_⟩
  .omega
  .have:=(h.u.dv r N).2;have:=(h.u.wf.ok.ix r N).1;omega
theorem PlaP.ok (h:PlaP M z j L ct)(V:0<=z/\z+j<=1000000)(N:v∈M)(y:VOk v):(L:Q)<=44/\∃ p,ParIs L v.q p/\((∃ dt,L.find? (atP L (v.q++(⟨#[47]⟩:H)++v.o))=G dt)\/AddOk L v.q v.o v.c p):=by
 have X:=h.u.len;refine⟨by omega,?_⟩;obtain⟨p,J,F⟩:=h.u.parent h.r N y;refine⟨p,J,?_⟩;by_cases A:There L v;·exact .inl A
 .right;have h0:=h.new V N y J A (k:=(L:Q)) (dl _);have I:v.q.size<=100000/\v.o.size<=100000:=by
   have Y:=(zAh (zAT y.all).1).1;refine⟨?_,by omega⟩;rcases y.p with⟨e,_⟩|⟨n,e1,e2,_⟩
   .rw[e];decide
   .rw[e2];have h2:=(zAh (zAT (zCD e1)).1).1;have:pathOf [n]=(():H)++⟨#[47]⟩++n:=rfl;rw[this,ByteArray.size_append,ByteArray.size_append];show 0+1+n.size<=_
    omega
  have a4:=zDm y.c;have O:L.find? (atP L (v.q++(⟨#[47]⟩:H)++v.o))=none:=by
   cases e:L.find? (atP L (v.q++(⟨#[47]⟩:H)++v.o))with
   | none=>rfl
   | some d=>exact an ⟨d,e⟩ A
  obtain⟨m1,m2,m3⟩:=zEO L;have a5:=m3 (z+j) (by omega) λd U=>(h.u.dv d U).2
  have a6:0<=p/\p<=1000000:=by
   rcases F with⟨Y,_⟩|⟨r,Z,Y,_⟩
   .omega
   .have:=(h.u.dv r Z).2;have:=(h.u.wf.ok.ix r Z).1;omega
  refine⟨J,O,du (by omega),I.1,I.2,by omega,λd U=>du (by have:=(h.u.dv d U).1.num;omega),⟨m1,by omega⟩,λk hk hu aa=>?_⟩;obtain⟨g1,g2,g3,g4,g5,g6,g7,_⟩:=h.new V N y J A hk hu aa;obtain⟨a1,a2⟩:=h.u.pre (by omega) g2 g1 (c:=v.c) (by show 1<=maxI L+1/\maxI L+1<=1000001;omega) g4 y.c;have a3:=(h.u.ins (b':=z+j+1) (by omega) g2 g1 (c:=v.c) (by show 1<=maxI L+1/\maxI L+1<=z+j+1;omega) g4 y.c g5 g6).1.wf;refine⟨a1,a2,g6,a3.ofStrip ?_⟩;unfold insAt;simp only[bo,bv,List.map_drop,ck];rfl
theorem PlaP.step {A:ae}(h:PlaP M A j L ct)(hx:0<=A/\A+j<=1000000)(X:DistP M)(Y:M[j]?=G v)(I:VOk v){Z:T OpA}{L':T Dev}{N:T OpA}(hs:zBy L ct Z v L' J N):PlaP M A (j+1) L' J:=by
 have hv:=az Y;rcases hs with⟨ht,rfl,rfl,rfl⟩|⟨a5,k,aa,p,hk,hu,hp,rfl,rfl,rfl⟩
 .refine⟨h.u.mono (by push_cast;omega),h.w,λi x hi y=>?_,h.r⟩;by_cases e:i<j;·exact h.t i x e y
  .obtain rfl:i=j:=by omega
   rw[Y]at y;cases y;exact ht
 .have a6:¬ There L v:=λ⟨d,z⟩=>by rw[a5]at z;cases z
  obtain⟨g1,g2,g3,g4,g5,g6,g7,_⟩:=h.new hx hv I hp a6 hk.1 hu ac;obtain⟨D,V⟩:=ε (newG L p v.o (1048576+(k:ae)) v.c ac)
  have di:D.index=maxI L+1:=by rw[V];rfl
  have dp:D.parent=p:=by rw[V];rfl
  have dO:D.orig=v.o:=by rw[V];rfl
  rw[<-V]at g1 g2 g6 ⊢;rw[<-di]at g3 g4 ⊢;obtain⟨a1,a2,a3,a4⟩:=h.u.ins (b':=A+(j+1:Q)) (by push_cast;omega) g2 g1 (c:=v.c) (by push_cast;omega) g4 I.c (by rw[dp];exact g5) g6;have hm:∀ {d:Dev},d∈insAt L (insK L D) (strip D)->d=strip D\/d∈L:=λz=>zV.1 z
  refine⟨a1,λd z F=>?_,λi x hi y=>?_,λx a7 hq=>?_⟩
  .rcases hm z with rfl|z
   .have e1:plc (insAt L (insK L D) (strip D)) (strip D).parent=v.q:=by show plc _ D.parent=_;rw[a4,dp,g7]
    have e2:(strip D).orig=v.o:=dO;rw[e1,e2,zIF X hv];refine⟨zHt hv,?_⟩;show updC ct D.index v.c D.index=v.c
    unfold updC;rw[aq rfl]
   .obtain⟨b1,b2,b3⟩:=a2 d z;rw[b3]at F;rw[b2];have:=h.w d z F;refine⟨this.1,?_⟩;unfold updC;rw[am (zv.1 g4 d z)];exact this.2
  .have O:There L x->There (insAt L (insK L D) (strip D)) x:=λhy=>by
    obtain⟨e,he,ho⟩:∃ e∈insAt L (insK L D) (strip D),atP (insAt L (insK L D) (strip D)) (x.q++(⟨#[47]⟩:H)++x.o) e=true:=by
     obtain⟨d,z⟩:=hy;have U:=bx z;have h1:=cj z;refine⟨d,zV.2 (.inr U),?_⟩;unfold atP at h1 ⊢;rw[(a2 d U).1];exact h1
    unfold There;cases hf:(insAt L (insK L D) (strip D)).find? (atP (insAt L (insK L D) (strip D)) (x.q++(⟨#[47]⟩:H)++x.o))with
    | none=>rw[dd]at hf;exact an ho (hf e he)
    | some d=>exact⟨d,rfl⟩
   by_cases e:i<j;·exact O (h.t i x e y)
   .obtain rfl:i=j:=by omega
    rw[Y]at y;cases y;exact(zAu a1 I).2 ⟨strip D,zV.2 (.inl rfl),dO⟩
  .obtain⟨r,hr,a8,a9⟩:=h.r x a7 hq;exact⟨r,zV.2 (.inr hr),a8,a9⟩
theorem zJu (w:be):bd ba 212 #[ag .u64 0] w λe w'=>(∃ k,e=.returned (ag ai k))/\w'=w:=by
 go_enter Tryz.func212,Tryz.ntmps212;go_wp2;go_ret;exact⟨⟨_,rfl⟩,rfl⟩
theorem zL6 (w:be):bd ba 161 #[ag .u64 0] w λe w'=>(∃ k,e=.returned (ag ai k))/\w'=w:=by
 have h:=zJu w;go_enter Tryz.func161,Tryz.ntmps161;go_wp2_with fail;apply h.mono;rintro e w' ⟨⟨k,rfl⟩,rfl⟩;go_wp2;go_ret;exact⟨⟨_,rfl⟩,rfl⟩
theorem zKa (a:ar ax)(c h:Q)(S:T Src)(w:be)(o:w.ownsRow h 123 13 (aj a S c) (S:Q) (sflat S))(z:(S:Q)<=1000):
  bd ba 110 #[aj a S c,.func (.func 111) #[] #[]] w λe w'=>e=.returned (.tuple #[])/\
   (∃ u:T Src,u.Perm S/\u.Pairwise (λx y=>x.at_<=y.at_)/\w'.ownsRow h 123 13 (aj a u c) (u:Q) (sflat u))/\Fr (λb=>(al a S c).ownBlock=G b) w w':=by
 by_cases v:S=[]
 .subst v;apply (zKg a c _ w (zL6 w)).mono;rintro e w' ⟨rfl,rfl⟩;exact⟨rfl,⟨[],.refl _,.nil,o⟩,bf _ _⟩
 .exact zMe a c h S w o v z
structure RB (c:RC)(w0:be)(base:Q)(ds:T Dev)(tx:Dev->H)(E K:T H):Prop where
 sz:(w0:Q)=c.b0
 env:Env w0
 tr:Tr w0 base c.a c.cap ds
 n:c.n=(ds:Q)
 dn:(ds:Q)<=250
 es:Strs w0 c.ea c.ec E
 en:c.en=(E:Q)
 ks:Strs w0 c.ka c.kc K
 kn:c.kn=(K:Q)
 kl:(K:Q)<=1000000
 kz:∀ x∈K,x.size<=ak
 tx:TxS w0 c.b0 tx ds
 cm:∀ s∈c.C,s.d∈ds/\s.o.size<=1000000/\0<=s.r
 cn:c.C.length<=250
theorem RB.tr' {c:RC}{o:Q}(h:RB c u o ds tx E K)(v:Fr (From (u:Q)) u w):Tr w o c.a c.cap ds:=h.tr.keep v (λb y _ h=>by omega)
theorem RB.env' {c:RC}{o:Q}(h:RB c u o ds tx E K)(v:Fr (From (u:Q)) u w):Env w:=h.env.fr v (λb y=>by unfold From;have:=h.env.sz;omega)
theorem RB.tx' {c:RC}{o:Q}(h:RB c u o ds tx E K)(v:Fr (From (u:Q)) u w):TxS w c.b0 tx ds:=h.tx.fr v (λb z y=>by unfold From at y;have:=h.sz;omega)
theorem TxS.sub {o:Q}{u:T Dev}(h:TxS w o tx L)(v:∀ d∈u,d∈L):TxS w o tx u:=λd y=>h d (v d y)
theorem zOS (v:Vir)(w:be):Virs (w.alloc (aw v.vals 52)) (G ⟨w,0,ac⟩) 1 [v]:=by
 refine⟨by simp,by unfold ak;omega,(λe=>by cases e),λu e o=>?_⟩;cases e;refine⟨rfl,by simp,λi m h j y=>?_⟩;cases i with
 | zero=>
  simp at h;subst h;rw[zB (zF w (aw v.vals 52))];simp
 | succ i=>simp at h
theorem zQa (c:RC)(w0:be)(A7:Q)(ds:T Dev)(tx:Dev->H)(E K:T H)(hB:RB c w0 A7 ds tx E K)(sa:ar ax)(sc:Q)(ma:ar ax)(mc:Q)(S:T Src)(M:T Vir)(l2:T (H×H))(r:ae)(w:be)(M4:Fr (From (w0:Q)) w0 w)(h:RS c w sa sc ma mc S M l2)
  (M5:∀ s∈S,s.d∈ds/\s.o.size<=1000000) (i9:(S:Q)<=1000) (hS7:(S:Q)<=700) (hMn:(M:Q)<=10000) (hGn:(l2:Q)<=10000):
  bd ba 54 #[cf (G ⟨c.xb,0,ac⟩),r] w λe w'=>(∃ S' M' G' V4 V5 d8 d9,e=.returned (.bool (decide ((M:Q)<(M':T Vir).length)))/\RS c w' V4 V5 d8 d9 S' M' G'/\NextR ds tx E K c.C r S M l2 S' M' G')/\Fr (From (w0:Q)) w0 w':=by
 have U:=zh hB;have t7:w ⟨c.xb,8,ac⟩=G (aj ma M mc):=zB h.k 8;have t5:w ⟨c.xb,5,ac⟩=G (aj sa S sc):=zB h.k 5;obtain⟨a9,c9,F6,p9,r0⟩:=dm h.so;cases F6;have hsm:=p9.lenmax;have hMm:(M:Q)<=9223372036854775807:=by omega
 have Hh:=zh h;have V6:=zh M4;have i5:=zh M5;clear h hB M4 M5 r0 p9;go_enter Tryz.func54,Tryz.ntmps54;go_wp2_with fail;clear t5 t7;go_loopw [26] (λx wr=>∃ (j:Q) (Mj:T Vir) (d8:ar ax) (d9:Q),j<=(S:Q)/\x=ag ai (j:ae)/\a0 (Mj=wantS tx S M r j)/\RS c wr sa sc d8 d9 S Mj l2/\Fr (From (w0:Q)) w0 wr) (λx _=>(S:Q)-(au x).toNat);case atStart=>exact⟨0,M,ma,mc,by omega,rfl,by unfold a0 wantS;simp,Hh.out,V6.out⟩
 case round=>
  obtain⟨j,Mj,d8,d9,hj,rfl,y7,hR,hf⟩:=hrel;by_cases m9:j<(S:Q)
  .have g7:(j:ae)<(S:Q):=by omega
   obtain⟨a9,c9,F6,p9,r0⟩:=dm hR.so;cases F6;obtain⟨cb,M6,s,rfl,A,⟨c0,c1,c2,c3,c4,c5,c6,c7,c8,c9,r1,r2,r3⟩,M7⟩:=p9.elem m9;have i7:=i5.out s (az A);have p4:=zh (zE2 (tx:=tx) (M:=M) (r:=r) A);have F7:=zGQ tx S M r j;rw[<-y7]at F7;obtain⟨W1,b6,X,d1⟩:=zy wr (aw s.vals 123);have F8:=hf.step X zn;obtain⟨l,hA,r4,p5,y8,-⟩:=U.tx' F8 s.d i7.1;have V7:s.d.orig.size<=1000000:=by
    have:=U.tr.wf.ok.sz s.d i7.1;omega
   have F9:=zO1 s.d l s.o r W1 (U.env' F8) hA r4 V7 (by rw[p5];exact y8);rw[p5]at F9;have i6:=hR.no X;have j0:=zh F8;have z:=SrcB0.of d1;unfold Src.vals at b6;clear A hR hf p9 r0 hA y8 d1 r4 p5;go_upto_region 5 with(fail)
   rw[<-b6];clear b6 c0 c1 c2 c3 c4 c5 c6 c7 c8 c9 r1 r2 r3;obtain⟨c0,c1,c2,c3,c4,c5,c6,c7,c8,c9,r1,r2,r3⟩:=z;go_wp2_with fail;apply F9.mono;rintro e w2 ⟨⟨av,cv,V,hV,rfl,M8,l5⟩,n3⟩;have M9:=i6.no n3;have b7:=zBT c _ sc d8 d9 S Mj l2 av cv V w2 M9 M8 (λad e hn=>by
    have h1:=l5 ad e;refine⟨?_,?_,?_⟩;·have:=zC i6.k;omega
    .have:=i6.wmo.lt;omega
    .intro ho;have:=ze i6.mo ho;omega) (λv hv=>by
    rw[hV]at hv;have:=zOx hv;refine⟨?_,?_⟩;·rw[this.1];unfold ak;omega
    .unfold ak;omega) (by rw[hV];have:=zKv s.o s.d (tx s.d) r;omega)
   have HV:=zh hV;have HX:=zg2 i6 (j0.step n3 zn);clear F9 c0 c1 c2 c3 c4 c5 c6 c7 c8 c9 r1 r2 r3 i6 M9 n3 M8 l5 hV;go_wp2_with fail;apply b7.mono;rintro e w3 ⟨rfl,⟨J,N,N0,-⟩,a3⟩;have y9:=zh (And.intro N0 (HX.2.step a3 (λb hb h=>by
    unfold From;have h0:=U.sz;rcases h with h|h|h
    .have:=HX.1.lo;omega
    .have:=HX.1.lo;omega
    .have:=zQ HX.1.mo h;omega)))
   have V9:a0 (zg Mj V=wantS tx S M r (j+1)):=(by unfold a0;rw[p4,HV,y7]);clear b7 N0 a3;go_wp2;go_roundw;case rel=>exact⟨j+1,zg Mj V,J,N,by omega,by go_num,V9,y9.1,y9.2⟩
   case measure=>simp[au];omega
  .obtain rfl:j=(S:Q):=by omega
   have g7:¬ ((S:Q):ae)<(S:Q):=(by omega);have F7:=zGQ tx S M r (S:Q);rw[<-y7]at F7;have Z2:(Mj:Q)<=26000:=(by omega);have Z3:=hf.size;have n4:=U.sz;have N1:=zEt 100 (λargs w=>cw Tryz.func100 (by kernel_rfl) rfl _ _) (ofK 2 mk2) (λp rd s W hE A=>(zNm p s rd W hE A).mono (λe w' h=>⟨h.1.of,h.2⟩)) tx c.b0 c sa sc d8 d9 S Mj l2 wr hR (U.env' hf) ((U.tx' hf).sub (λd hd=>by
    obtain⟨s,A,rfl⟩:=List.mem_map.1 hd;exact(i5 s A).1)) (by omega) i9
   have HR:=zg2 hR hf;clear hR hf;go_wp2_with fail;apply N1.mono;rintro e w2 ⟨⟨L,la,lc,hL,rfl,N2,W0⟩,n3⟩;have I0:=zh (HR.2.step n3 zn);obtain⟨m0,N3⟩:=(U.env' I0).len;have N4:=zPl la lc L m0 w2 N2 (zA0 zLI hL i9 (λs A=>(i5 s A).2)) N3 (by have:=(U.env' I0).sz;omega);have HL:=zh hL;have j1:=zh (HR.1.no n3);clear N1 hL N2 W0 N3 n3;go_wp2_with fail;apply N4.mono;rintro e w3 ⟨⟨ao,co,O,W2,rfl,hA,N5,N6,A8,hO,Z4,-⟩,a3⟩;have n5:=zh (I0.step a3 zn);have y9:=zh (j1.no a3);have hOn:(O:Q)<=1000:=by
    have:=bb bn hO;simp only[bh]at this;omega
   have hAm:=hA.lenmax;have N7:=zC j1.k;have N8:=j1.wmo.lt;have N9:=j1.smo.lt;have A9:∀ b,(al d8 Mj d9).ownBlock=G b->b<(w2:Q):=λb hb=>ze j1.mo hb
   have O0:∀ b,(b=c.xb\/b=c.wm\/b=c.sm\/(al d8 Mj d9).ownBlock=G b)->b<(w2:Q):=λb hb=>by
    rcases hb with hb|hb|hb|hb
    .omega
    .omega
    .omega
    .exact A9 b hb
   have z4:=zh O0;have HA:=zg3 hA N5 N6;have HO:=zg2 A8 hO;have Z5:=zh a3.size;clear N4 hA N5 N6 A8 hO a3 O0 A9 N7 N8 N9;go_wp2_with fail;go_loopw [43] (λx wr=>∃ (j:Q) (I:T Vir) (G2:T (H×H)) (J:ar ax) (N:Q),j<=(O:Q)/\x=ag ai (j:ae)/\a0 ((I,G2)=arrAll ds E r (Mj,l2) O j)/\RS c wr sa sc J N S I G2/\a0 (∀ b,(al J I N).ownBlock=G b->(al d8 Mj d9).ownBlock=G b\/(w3:Q)<=b)/\Fr (λb=>b=c.xb\/b=c.wm\/b=c.sm\/(al d8 Mj d9).ownBlock=G b) w3 wr) (λx _=>(O:Q)-(au x).toNat);case atStart=>exact⟨0,Mj,l2,d8,d9,by omega,rfl,by unfold a0 arrAll;simp,y9.out,λb h=>.inl h,bf _ _⟩
   case round=>
    obtain⟨j,I,G2,J,N,hj,rfl,g1,hR,b9,hf⟩:=hrel;by_cases m9:j<(O:Q)
    .have g7:(j:ae)<(O:Q):=(by omega);have r5:Arrs wr ao co O:=HA.1.fr hf (λad e hn A=>by
      have h1:=z4.out _ A;have h2:=HA.2.1 ad e;omega) (λm hm=>⟨λad e hn A=>by
      have h1:=z4.out _ A;have h2:=(HA.2.2 m hm).2.2.1 ad e;omega,λad e hn A=>by
      have h1:=z4.out _ A;have h2:=(HA.2.2 m hm).2.2.2 ad e;omega⟩)
     obtain⟨ab,O1,m,rfl,hm,⟨I1,r6⟩,⟨c0,c1,c2,c3,c4,c5⟩,O2⟩:=r5.elem m9;have p6:=zh (az hm);have n6:=zh (zEp (ds:=ds) (E:=E) (r:=r) (x:=(Mj,l2)) hm);have z5:=zDR ds E r (Mj,l2) O j;rw[<-g1]at z5;have z6:m.i.size<=1000000:=zJQ HO.1 HO.2 p6 (zA0 zLI HL i9 (λs A=>(i5 s A).2)).i;obtain⟨W1,b6,X,d1⟩:=zy wr (aw m.vals 176);have j0:a0 (Fr (From (w0:Q)) w0 W1):=(n5.step hf (λb hb A=>by
      unfold From;have h0:=j1.lo;have n4:=U.sz;rcases A with A|A|A|A
      .omega
      .omega
      .omega
      .have:=zQ j1.mo A;omega)).step X zn
     have i6:=hR.no X;have a5:=zh i6;have D1:=zh d1;have Hf:=zh (hf.step X zn);have I2:=zh (r6.no X (λ_=>id));have O3:=X.size;have O5:=hf.size;unfold ArrM.vals at b6;clear hm hR r5 I1 r6 hf X;go_upto_region 10 with(fail)
     rw[<-b6];clear b6 c0 c1 c2 c3 c4 c5;obtain⟨ex,I3⟩:=ε (exB ds m.i)
     obtain⟨xp,I4⟩:=ε (hasS E m.i)
     have O6:a0 (∀ W,Fr No W1 W->bd ba 102 #[cf (G ⟨c.xb,0,ac⟩),ah m.i] W λe w'=>e=.returned ex/\Fr No W w'):=λW hW=>by
      rw[I3];exact zNp c sa sc J N S I G2 m.i ds A7 W (a5.no hW) z6 (U.tr' (j0.step hW zn)) U.n (by have:=U.dn;omega)
     have O7:a0 (∀ W,Fr No W1 W->bd ba 73 #[aj c.ea E c.ec,ah m.i] W λe w'=>e=.returned xp/\Fr No W w'):=λW hW=>by
      rw[I4];exact zFe c.ea c.ec E m.i W (U.es.fr (j0.step hW zn) (λad e hn A=>by have:=(U.es.cell ad e hn).2.1;omega))
     have I5:a0 (zAG ds E r (I,G2) m=if mustB m.t m.e m.n ex xp=af then
  (if (G2.any λy=>decide (y=(mdK,m.i)))=af then (I,G2++[(mdK,m.i)])else (zAA I (mdOf m.i m.l r),G2++[(mdK,m.i)]))
 else (I,G2)):=by unfold a0;rw[I3,I4];rfl
     clear I3 I4;rcases hmu:mustB m.t m.e m.n ex xp with _|_
     .skip;refine zO (Is c.sm) [(0,B),(1,B),(2,B),(3,B),(5,B),(6,B),(7,B),(8,B),(9,B),(10,B),(4,af),(11,af),(12,af),(13,B),(14,B),(15,B),(16,B),(17,af),(18,B)] (λwx g2=>?_);have Z:=a5.no g2;have dB:=g2.heap d1 id;have y0:∀ g:Gr (Is c.sm) wx,g.W ⟨wr,0,ac⟩=G (ah m.i):=λg=>zB (g.fr.heap dB (λh=>Z.smo.ne_cells dB h)) 0
      have y1:∀ g:Gr (Is c.sm) wx,g.W ⟨wr,1,ac⟩=G (aj m.pa m.ps.length m.pc):=λg=>zB (g.fr.heap dB (λh=>Z.smo.ne_cells dB h)) 1
      have y2:∀ g:Gr (Is c.sm) wx,g.W ⟨wr,2,ac⟩=G (ag ai m.t):=λg=>zB (g.fr.heap dB (λh=>Z.smo.ne_cells dB h)) 2
      have y3:∀ g:Gr (Is c.sm) wx,g.W ⟨wr,3,ac⟩=G (ag ai m.e):=λg=>zB (g.fr.heap dB (λh=>Z.smo.ne_cells dB h)) 3
      have y4:∀ g:Gr (Is c.sm) wx,g.W ⟨wr,4,ac⟩=G (ag ai m.n):=λg=>zB (g.fr.heap dB (λh=>Z.smo.ne_cells dB h)) 4
      have y5:∀ g:Gr (Is c.sm) wx,g.W ⟨wr,5,ac⟩=G (aj m.la m.l.length m.lc):=λg=>zB (g.fr.heap dB (λh=>Z.smo.ne_cells dB h)) 5
      have x4:∀ g:Gr (Is c.sm) wx,g.W ⟨c.xb,4,ac⟩=G (aj c.ea E c.ec):=λg=>by
       have:=zB (g.fr.heap Z.k (λh=>Z.smo.ne_cells Z.k h)) 4;rw[U.en]at this;exact this
      have g8:=zh g2;clear g2 Z dB d1 i6;(repeat(first|apply zR rfl rfl rfl|apply zT rfl rfl rfl);intro K hK;go_big_quiet_op;go_big_quiet_on);clear y0 y1 y2 y3 y4 y5 x4;apply zu rfl;go_wp2_with fail;apply (O6 wx g8).mono;rintro e w4 ⟨rfl,n7⟩;have g3:=zh (g8.step n7 zi);go_wp2_with fail;apply zm n7;clear n7;apply zu rfl;go_wp2_with fail;apply (O7 w4 g3).mono;rintro e w5 ⟨rfl,n8⟩;have I6:=zh (g3.step n8 zi);go_wp2_with fail;apply zm n8;clear n8;apply zu rfl;go_wp2_with fail;apply (zOL m.i m.t m.e m.n m.pa m.ps.length m.pc m.la m.lc m.l ex xp w5).mono;rintro e w6 ⟨rfl,Y⟩;rw[hmu];have a2:=zh (I6.step Y zi);go_wp2_with fail;apply zm Y;clear Y;(repeat(first|apply zR rfl rfl rfl|apply zT rfl rfl rfl);intro K hK;go_big_quiet_op;go_big_quiet_on);apply zu rfl;go_wp2_with fail;apply zq;(repeat(first|apply zR rfl rfl rfl|apply zT rfl rfl rfl);intro K hK;go_big_quiet_op;go_big_quiet_on);apply zb;have g4:a0 ((I,G2)=arrAll ds E r (Mj,l2) O (j+1)):=(by unfold a0;rw[n6,<-g1,I5,hmu];rfl);have O8:=zg2 (a5.no a2) (Hf.step a2 zn);clear hmu;go_wp2;go_roundw;case rel=>exact⟨j+1,I,G2,J,N,by omega,by go_num,g4,O8.1,b9,O8.2⟩
      case measure=>simp[au];omega
     .skip;refine zO (Is c.sm) [(0,B),(1,B),(2,B),(3,B),(5,B),(6,B),(7,B),(8,B),(9,B),(10,B),(4,af),(11,af),(12,af),(13,B),(14,B),(15,B),(16,B),(17,af),(18,B)] (λwx g2=>?_);have Z:=a5.no g2;have dB:=g2.heap d1 id;have y0:∀ g:Gr (Is c.sm) wx,g.W ⟨wr,0,ac⟩=G (ah m.i):=λg=>zB (g.fr.heap dB (λh=>Z.smo.ne_cells dB h)) 0
      have y1:∀ g:Gr (Is c.sm) wx,g.W ⟨wr,1,ac⟩=G (aj m.pa m.ps.length m.pc):=λg=>zB (g.fr.heap dB (λh=>Z.smo.ne_cells dB h)) 1
      have y2:∀ g:Gr (Is c.sm) wx,g.W ⟨wr,2,ac⟩=G (ag ai m.t):=λg=>zB (g.fr.heap dB (λh=>Z.smo.ne_cells dB h)) 2
      have y3:∀ g:Gr (Is c.sm) wx,g.W ⟨wr,3,ac⟩=G (ag ai m.e):=λg=>zB (g.fr.heap dB (λh=>Z.smo.ne_cells dB h)) 3
      have y4:∀ g:Gr (Is c.sm) wx,g.W ⟨wr,4,ac⟩=G (ag ai m.n):=λg=>zB (g.fr.heap dB (λh=>Z.smo.ne_cells dB h)) 4
      have y5:∀ g:Gr (Is c.sm) wx,g.W ⟨wr,5,ac⟩=G (aj m.la m.l.length m.lc):=λg=>zB (g.fr.heap dB (λh=>Z.smo.ne_cells dB h)) 5
      have x4:∀ g:Gr (Is c.sm) wx,g.W ⟨c.xb,4,ac⟩=G (aj c.ea E c.ec):=λg=>by
       have:=zB (g.fr.heap Z.k (λh=>Z.smo.ne_cells Z.k h)) 4;rw[U.en]at this;exact this
      have g8:=zh g2;clear g2 Z dB d1 i6;(repeat(first|apply zR rfl rfl rfl|apply zT rfl rfl rfl);intro K hK;go_big_quiet_op;go_big_quiet_on);clear y0 y1 y2 y3 y4 y5 x4;apply zu rfl;go_wp2_with fail;apply (O6 wx g8).mono;rintro e w4 ⟨rfl,n7⟩;have g3:=zh (g8.step n7 zi);go_wp2_with fail;apply zm n7;clear n7;apply zu rfl;go_wp2_with fail;apply (O7 w4 g3).mono;rintro e w5 ⟨rfl,n8⟩;have I6:=zh (g3.step n8 zi);go_wp2_with fail;apply zm n8;clear n8;apply zu rfl;go_wp2_with fail;apply (zOL m.i m.t m.e m.n m.pa m.ps.length m.pc m.la m.lc m.l ex xp w5).mono;rintro e w6 ⟨rfl,Y⟩;rw[hmu];have a2:=zh (I6.step Y zi);go_wp2_with fail;apply zm Y;clear Y;have y0:∀ g:Gr (Is c.sm) w6,g.W ⟨wr,0,ac⟩=G (ah m.i):=λg=>zB (g.fr.heap (a2.heap D1 id) (λh=>(a5.no a2).smo.ne_cells (a2.heap D1 id) h)) 0
      (repeat(first|apply zR rfl rfl rfl|apply zT rfl rfl rfl);intro K hK;go_big_quiet_op;go_big_quiet_on);clear y0;apply zu rfl;have n9:=zOK c sa sc J N S I G2 mdK m.i w6 (a5.no a2) (by unfold ak;show 2<=_;omega) (by unfold ak;omega) (by omega);unfold mdK at n9;go_wp2_with fail;apply n9.mono;rintro e w7 ⟨rfl,r7,g5⟩;have a4:=zg2 r7 ((Hf.step a2 zn).step g5 (λb hb h=>by unfold Is at h;exact .inr (.inr (.inl h))));have g6:=zh g5;clear r7 n9;go_wp2_with fail;apply zf g5;clear g5;(repeat(first|apply zR rfl rfl rfl|apply zT rfl rfl rfl);intro K hK;go_big_quiet_op;go_big_quiet_on);apply zb;rcases hsn:(G2.any λx=>decide (x=((⟨#[109,100]⟩:H),m.i)))with _|_
      .skip;have g4:a0 ((zAA I (mdOf m.i m.l r),G2++[(mdK,m.i)])=arrAll ds E r (Mj,l2) O (j+1)):=(by unfold a0;rw[n6.out,<-g1.out,I5.out,hmu,aq rfl];exact(am (λh=>by have:=hsn.symm.trans h;cases this)).symm);clear hmu hsn;have q7:=g6.heap (a2.heap D1 id) (λh=>(a5.no a2).smo.ne_cells (a2.heap D1 id) h);obtain⟨b0,b1,b2,b3,b4,b5⟩:=cl6 q7;have r8:m∈O:=p6.out;have l6:Strs w7 m.la m.lc m.l:=(I2.no a2 (λ_=>id)).fr g6 (λad e hn A=>by
        unfold Is at A;have h1:=(HA.2.2 m r8).2.2.2 ad e;have h2:=z4.out c.sm (.inr (.inr (.inl rfl)));omega)
       have o0:=zQZ m.i m.t m.e m.n r m.pa m.ps.length m.pc m.la m.lc m.l w7 z6 l6;have I7:(mdOf m.i m.l r).q.size<=ak/\(mdOf m.i m.l r).o.size<=maxLen:=by
        refine⟨by show (0:Q)<=_;omega,?_⟩;show (mdT++m.i).size<=ak
        rw[ByteArray.size_append];unfold ak;show 3+m.i.size<=_
        omega
       obtain⟨v,hv⟩:=ε (mdOf m.i m.l r)
       rw[<-hv]at o0 g4 I7;have W4:=zh I7;unfold cr at o0;clear hv I7 q7 l6 r8;go_wp2_with fail;apply o0.mono;rintro e w8 ⟨rfl,o1⟩;have o2:Fr No w8 (w8.alloc (aw v.vals 52)):=(bf _ _).alloc _;have I8:=a4.1.no o1;have j2:=zh I8;have b7:=zBT c sa sc J N S I (G2++[(mdK,m.i)]) (G ⟨w8,0,ac⟩) 1 [v] (w8.alloc (aw v.vals 52)) (I8.no o2) (zOS v w8) (λad e hn=>by
        cases e;refine⟨?_,?_,?_⟩;·have:=zC j2.k;show (w8:Q)≠_;omega
        .have:=j2.wmo.lt;show (w8:Q)≠_;omega
        .intro ho;have:(w8:Q)<(w8:Q):=ze j2.mo ho;omega) (λu hu=>by simp at hu;subst hu;exact W4.out) (by simp;omega)
       have o3:=zh ((a4.2.step o1 zn).step o2 zn);have I9:=o3.size;unfold cr at b7;clear o0 b0 b1 b2 b3 b4 b5 o1 o2 I8;go_wp2_with fail;apply b7.mono;rintro e J0 ⟨rfl,⟨g9,h5,l7,d0⟩,l8⟩;have r9:=zh l7;have s0:a0 (Fr (λb=>b=c.xb\/b=c.wm\/b=c.sm\/(al d8 Mj d9).ownBlock=G b) w3 J0):=o3.step l8 (λb hb h=>by
        rcases h with h|h|h
        .exact .inl h
        .exact .inr (.inl h)
        .rcases b9.out b h with h|h
         .exact .inr (.inr (.inr h))
         .omega)
       have j3:a0 (∀ b,(al g9 (zg I [v]).length h5).ownBlock=G b->(al d8 Mj d9).ownBlock=G b\/(w3:Q)<=b):=λb hb=>by
        rcases d0 b hb with h|h
        .exact b9 b h
        .refine .inr (cd ?_ h);exact I9
       clear b7 l7 d0 l8;go_wp2;go_roundw;case rel=>exact⟨j+1,zg I [v],G2++[(mdK,m.i)],g9,h5,by omega,by go_num,g4,r9,j3,s0⟩
       case measure=>simp[au];omega
      .have g4:a0 ((I,G2++[(mdK,m.i)])=arrAll ds E r (Mj,l2) O (j+1)):=(by unfold a0;rw[n6,<-g1,I5,hmu,aq rfl];exact(aq hsn).symm);clear hmu hsn;go_wp2;go_roundw;case rel=>exact⟨j+1,I,G2++[(mdK,m.i)],J,N,by omega,by go_num,g4,a4.1,b9,a4.2⟩
       case measure=>simp[au];omega
    .skip;obtain rfl:j=(O:Q):=by omega
     have g7:¬ ((O:Q):ae)<(O:Q):=(by omega);have z5:=zDR ds E r (Mj,l2) O (O:Q);rw[<-g1]at z5;have s1:a0 (Fr (From (w0:Q)) w0 wr):=n5.step hf (λb hb A=>by
      unfold From;have h0:=j1.lo;have n4:=U.sz;rcases A with A|A|A|A
      .omega
      .omega
      .omega
      .have:=zQ j1.mo A;omega)
     have o4:=zh hR;have O9:c.b0<=(wr:Q):=(by have:=s1.size;omega);have R0:wr ⟨c.xb,0,ac⟩=G (aj c.ka K c.kc):=by
      have:=zB hR.k 0;rw[U.kn]at this;exact this
     have R1:=zh R0;have R2:a0 (∀ W,Fr No wr W->bd ba 99 #[cf (G ⟨c.xb,0,ac⟩),.func (.func 106) #[] #[]] W λe w'=>(∃ (L:T Mem) (a:ar ax) (R3:Q),L.map Mem.k=S.filterMap (λs=>ofK 3 mk3 s.o s.r (tx s.d))/\e=.returned (aj a L R3)/\Mems w' a R3 L/\(∀ ad,a=G ad->(W:Q)<=ad.block))/\Fr No W w'):=λW hW=>
      have R4:=s1.step hW zn
      zEt 106 (λargs w=>cw Tryz.func106 (by kernel_rfl) rfl _ _) (ofK 3 mk3) (λp rd s W hE A=>(zNZ p s rd W hE A).mono (λe w' h=>⟨h.1.of,h.2⟩)) tx c.b0 c sa sc J N S I G2 W (o4.no hW) (U.env' R4) ((U.tx' R4).sub (λd hd=>by
       obtain⟨s,A,rfl⟩:=List.mem_map.1 hd;exact(i5 s A).1)) (cd O9 hW.size) i9
     clear hR hf R0;go_upto_region 13 with(fail)
     refine zZ (λb=>b=c.xb\/b=c.wm\/(al J I N).ownBlock=G b) (.q 0 (.q 1 (.q 3 (.q 4 (.q 5 (.q 6 (.q 8 (.m2 2 (.m1 7 (.m1 9 (.m1 10 .fin))) 7 (.m1 2 (.m1 9 (.m1 10 .fin))))))))))) _ (λwx g2=>?_) zj;have g8:=zh g2;clear g2;(repeat(first|apply zL rfl rfl rfl|apply zJ rfl rfl rfl);intro K hK;go_big_quiet_op;go_big_quiet_on);refine zAB rfl rfl ?_ ?_
     focus
      go_wp2_with fail;apply (R2 wx g8).mono;rintro e z7 ⟨⟨L3,l3,c3,s4,rfl,s5,-⟩,h6⟩;have g0:=zh (g8.step h6 zi);have p7:=zg2 s4 s5;clear s4 s5;go_wp2_with fail;apply zm h6;clear h6;apply zH rfl;have k0:z7 ⟨c.xb,0,ac⟩=G (aj c.ka K c.kc):=g0.cell R1 id;go_wp2_with fail;apply zq;clear k0;apply zH rfl;have b8:=s1.step g0 zn;have h7:=U.env' b8;obtain⟨m3,s6⟩:=h7.len;have h8:=zFF zLH p7.1 i9 (λs A=>(i5 s A).2);have s7:=zh h8;have s8:=zOF l3 c3 L3 c.ka c.kc K r m3 z7 p7.2 h8 (U.ks.fr b8 (λad e hn A=>by have:=(U.ks.cell ad e hn).2.1;omega)) U.kl U.kz s6 (by have:=h7.sz;omega);clear s6 h7 h8 b8;go_wp2_with fail;apply s8.mono;rintro e J1 ⟨⟨av,cv,V,i8,rfl,hV,l5,h9,o5,W5⟩,i3⟩;have o9:=zh (g0.step i3 zi);have HV:=zg4 hV l5 h9 o5;have W6:(V:Q)<=1000:=by
       have h1:=bb bn o5;rw[bh]at h1;have h2:(opened i8 K).length<=(i8:Q):=dg _ _;have h3:=s7.len;omega
      clear s8 hV l5 h9 o5;go_wp2_with fail;apply zm i3;clear i3;apply zH rfl;have l9:=o4.no o9;have d2:=o4.no g0;have b7:=zBT c sa sc J N S I G2 av cv V J1 l9 HV.1 (λad e hn=>by
       have h1:=HV.2.1 ad e;refine⟨?_,?_,?_⟩;·have:=zC d2.k;omega
       .have:=d2.wmo.lt;omega
       .intro ho;have:=ze d2.mo ho;omega) (λv hv=>by
       rw[HV.2.2.2]at hv;have:=zGn HV.2.2.1 hv s7.i;unfold ak;omega) (by omega)
      clear l9 d2;go_wp2_with fail;apply b7.mono;rintro e J2 ⟨rfl,⟨g9,h5,m5,d4⟩,i4⟩;have m6:=zg3 m5 d4 i4;clear b7 m5 d4;go_wp2_with fail;apply zf i4;clear i4;apply zW
     rotate_left 1
     focus
      have k0:wx ⟨c.xb,0,ac⟩=G (aj c.ka K c.kc):=g8.cell R1 id;go_wp2_with fail;apply zq;clear k0;apply zH rfl;go_wp2_with fail;apply (R2 wx g8).mono;rintro e z7 ⟨⟨L3,l3,c3,s4,rfl,s5,-⟩,h6⟩;have g0:=zh (g8.step h6 zi);have p7:=zg2 s4 s5;clear s4 s5;go_wp2_with fail;apply zm h6;clear h6;apply zH rfl;have b8:=s1.step g0 zn;have h7:=U.env' b8;obtain⟨m3,s6⟩:=h7.len;have h8:=zFF zLH p7.1 i9 (λs A=>(i5 s A).2);have s7:=zh h8;have s8:=zOF l3 c3 L3 c.ka c.kc K r m3 z7 p7.2 h8 (U.ks.fr b8 (λad e hn A=>by have:=(U.ks.cell ad e hn).2.1;omega)) U.kl U.kz s6 (by have:=h7.sz;omega);clear s6 h7 h8 b8;go_wp2_with fail;apply s8.mono;rintro e J1 ⟨⟨av,cv,V,i8,rfl,hV,l5,h9,o5,W5⟩,i3⟩;have o9:=zh (g0.step i3 zi);have HV:=zg4 hV l5 h9 o5;have W6:(V:Q)<=1000:=by
       have h1:=bb bn o5;rw[bh]at h1;have h2:(opened i8 K).length<=(i8:Q):=dg _ _;have h3:=s7.len;omega
      clear s8 hV l5 h9 o5;go_wp2_with fail;apply zm i3;clear i3;apply zH rfl;have l9:=o4.no o9;have d2:=o4.no g0;have b7:=zBT c sa sc J N S I G2 av cv V J1 l9 HV.1 (λad e hn=>by
       have h1:=HV.2.1 ad e;refine⟨?_,?_,?_⟩;·have:=zC d2.k;omega
       .have:=d2.wmo.lt;omega
       .intro ho;have:=ze d2.mo ho;omega) (λv hv=>by
       rw[HV.2.2.2]at hv;have:=zGn HV.2.2.1 hv s7.i;unfold ak;omega) (by omega)
      clear l9 d2;go_wp2_with fail;apply b7.mono;rintro e J2 ⟨rfl,⟨g9,h5,m5,d4⟩,i4⟩;have m6:=zg3 m5 d4 i4;clear b7 m5 d4;go_wp2_with fail;apply zf i4;clear i4;apply zW
     all_goals (
      have j4:a0 (Fr (From (w0:Q)) w0 J2):=(s1.step o9 zn).step m6.2.2 (λb hb A=>by
       unfold From;have h0:=o4.lo;have n4:=U.sz;rcases A with A|A|A
       .omega
       .omega
       .have:=zQ o4.mo A;omega)
      have J3:=zh m6.1;have z8:=zh m6.2.1;have R5:(zg I V).length<=28000:=(by have:=zAy V I;omega);have Z6:(G2:Q)<=11000:=(by omega);obtain⟨M3,s9⟩:=ε (zg I V)
      have W7:a0 (MidR ds tx E K r S M l2 M3 G2):=⟨L,W2,O,I,L3,i8,HL,HO.1,HO.2,by rw[<-y7];exact g1,p7.1,HV.2.2.1,by rw[s9,HV.2.2.2]⟩
      rw[<-s9]at J3 z8 R5;clear s9 m6;have Z7:=j4.size;have D2:=zEt 108 (λargs w=>cw Tryz.func108 (by kernel_rfl) rfl _ _) (ofK 4 mk4) (λp rd s W hE A=>(zKM p s rd W hE A).mono (λe w' h=>⟨h.1.of,h.2⟩)) tx c.b0 c sa sc g9 h5 S M3 G2 J2 J3 (U.env' j4) ((U.tx' j4).sub (λd hd=>by
       obtain⟨s,A,rfl⟩:=List.mem_map.1 hd;exact(i5 s A).1)) (by have:=U.sz;omega) i9
      go_wp2_with fail;apply D2.mono;rintro e R6 ⟨⟨L4,l4,c4,J4,rfl,D3,-⟩,t0⟩;have t8:=zh (j4.step t0 zn);obtain⟨m4,R7⟩:=(U.env' t8).len;have D4:=zOX l4 c4 L4 m4 R6 D3 (zA0 zHk J4 i9 (λs A=>(i5 s A).2)) R7 (by have:=(U.env' t8).sz;omega);have J5:=zh J4;have d5:=zh (J3.no t0);clear D2 J4 D3 R7 t0;go_wp2_with fail;apply D4.mono;rintro e z9 ⟨⟨W8,W9,O4,p0,rfl,J6,D5,D6,t9,J7,X0,-⟩,v0⟩;have D7:=zh (t8.step v0 zn);have R8:=zh (d5.no v0);have Z8:(O4:Q)<=1000:=by
       have:=bb bn J7;simp only[bh]at this;omega
      have Z9:=J6.lenmax;have p1:a0 (∀ b,(b=c.xb\/b=c.wm\/b=c.sm\/(al g9 M3 h5).ownBlock=G b)->b<(R6:Q)):=λb hb=>by
       rcases hb with hb|hb|hb|hb
       .have:=zC d5.k;omega
       .have:=d5.wmo.lt;omega
       .have:=d5.smo.lt;omega
       .exact ze d5.mo hb
      have v1:=zg3 J6 D5 D6;have v4:=zg2 t9 J7;clear D4 J6 D5 D6 t9 J7 v0;have D8:∀ m∈O4,m.l.length<=16:=λm hm=>zME v4.2 hm (zJt zHk J5)
      have D9:=zh D8;clear D8;go_wp2_with fail;go_loopw [88] (λx wr=>∃ (j:Q) (I:T Vir) (G4:T (H×H)) (J:ar ax) (N:Q),j<=(O4:Q)/\x=ag ai (j:ae)/\a0 ((I,G4)=grpAll r (M3,G2) O4 j)/\RS c wr sa sc J N S I G4/\a0 (∀ b,(al J I N).ownBlock=G b->(al g9 M3 h5).ownBlock=G b\/(z9:Q)<=b)/\Fr (λb=>b=c.xb\/b=c.wm\/b=c.sm\/(al g9 M3 h5).ownBlock=G b) z9 wr) (λx _=>(O4:Q)-(au x).toNat);case atStart=>exact⟨0,M3,G2,g9,h5,by omega,rfl,by unfold a0 grpAll;simp,R8.out,λb h=>.inl h,bf _ _⟩
      case round=>
       obtain⟨j,I,G4,J,N,hj,rfl,g1,hR,b9,hf⟩:=hrel;have z5:(I:Q)<=(M3:Q)+16*j/\(G4:Q)<=(G2:Q)+j:=by
        have:=zJy r (M3,G2) O4 D9 j;rw[<-g1]at this;exact this
       by_cases m9:j<(O4:Q)
       .have g7:(j:ae)<(O4:Q):=(by omega);have r5:Arrs wr W8 W9 O4:=v1.1.fr hf (λad e hn A=>by
         have h1:=p1.out _ A;have h2:=v1.2.1 ad e;omega) (λm hm=>⟨λad e hn A=>by
         have h1:=p1.out _ A;have h2:=(v1.2.2 m hm).2.2.1 ad e;omega,λad e hn A=>by
         have h1:=p1.out _ A;have h2:=(v1.2.2 m hm).2.2.2 ad e;omega⟩)
        obtain⟨ab,O1,m,rfl,hm,⟨I1,r6⟩,⟨c0,c1,c2,c3,c4,c5⟩,O2⟩:=r5.elem m9;have p6:=zh (az hm);have n6:=zh (zEV (r:=r) (x:=(M3,G2)) hm);have z6:m.i.size<=1000000:=zJQ v4.1 v4.2 p6 (zA0 zHk J5 i9 (λs A=>(i5 s A).2)).i;have hml:=D9.out m p6;obtain⟨W1,b6,X,d1⟩:=zy wr (aw m.vals 176);have j0:a0 (Fr (From (w0:Q)) w0 W1):=(D7.step hf (λb hb A=>by
         unfold From;have h0:=d5.lo;have n4:=U.sz;rcases A with A|A|A|A
         .omega
         .omega
         .omega
         .have:=zQ d5.mo A;omega)).step X zn
        have a5:=zh (hR.no X);have D1:=zh d1;have Hf:=zh (hf.step X zn);have I2:=zh (r6.no X (λ_=>id));have O3:=X.size;have O5:=hf.size;unfold ArrM.vals at b6;clear hm hR r5 I1 r6 hf X;go_upto_region 17 with(fail)
        rw[<-b6];clear b6 c0 c1 c2 c3 c4 c5;obtain⟨b0,b1,b2,b3,b4,b5⟩:=cl6 d1;have o6:a0 (zAK r (I,G4) m=if m.n=m.t then
         (if (G4.any λy=>decide (y=(lvK,m.i)))=af then (I,G4++[(lvK,m.i)])else (zg I (wantL m.i m.t m.n m.l r),G4++[(lvK,m.i)]))
        else (I,G4)):=rfl
        clear d1;by_cases v5:m.n=m.t
        .have R9:=zh v5;have hnb:(m.n==m.t)=true:=(by simpa using v5);have n9:=zOK c sa sc J N S I G4 lvK m.i W1 a5 (by unfold ak;show 2<=_;omega) (by unfold ak;omega) (by omega);unfold lvK at n9;clear v5;go_wp2_with fail;apply n9.mono;rintro e w7 ⟨rfl,r7,g5⟩;have a4:=zg2 r7 (Hf.step g5 (λb hb h=>by unfold Is at h;exact .inr (.inr (.inl h))));have g6:=zh g5;clear r7 n9 b0 b1 b2 b3 b4 b5 g5;rcases hsn:(G4.any λx=>decide (x=((⟨#[108,118]⟩:H),m.i)))with _|_
         .have g4:a0 ((zg I (wantL m.i m.t m.n m.l r),G4++[(lvK,m.i)])=grpAll r (M3,G2) O4 (j+1)):=(by unfold a0;rw[n6.out,<-g1.out,o6.out,aq R9.out];exact(am (λh=>by have:=hsn.symm.trans h;cases this)).symm);clear hsn;have q7:=g6.heap D1 (λh=>a5.smo.ne_cells D1 h);obtain⟨b0,b1,b2,b3,b4,b5⟩:=cl6 q7;have r8:m∈O4:=p6.out;have l6:Strs w7 m.la m.lc m.l:=I2.fr g6 (λad e hn A=>by
           unfold Is at A;have h1:=(v1.2.2 m r8).2.2.2 ad e;have h2:=p1.out c.sm (.inr (.inr (.inl rfl)));omega)
          have U0:=U.env' (j0.step g6 (λb hb h=>by unfold Is at h;unfold From;have:=a5.lo;have:=U.sz;omega));have o0:=zOW m.i m.t m.e m.n r m.pa m.ps.length m.pc m.la m.lc m.l w7 U0 z6 l6 (by omega);clear q7 l6 U0 r8;go_wp2_with fail;apply o0.mono;rintro e w8 ⟨⟨a8,c8,V8,rfl,U1,p2,F0⟩,o1⟩;have j2:=zh (a4.1.no o1);have F1:=zGR m.i m.t m.n m.l r;rw[<-p2]at F1;have b7:=zBT c sa sc J N S I (G4++[(lvK,m.i)]) a8 c8 V8 w8 j2 U1 (λad e hn=>by
           have h1:=F0 ad e;refine⟨?_,?_,?_⟩;·have:=zC a4.1.k;omega
           .have:=a4.1.wmo.lt;omega
           .intro ho;have:=ze a4.1.mo ho;omega) (λv hv=>by
           rw[p2]at hv;have:=zKI hv;unfold ak;omega) (by omega)
          have X1:a0 ((zg I V8,G4++[(lvK,m.i)])=grpAll r (M3,G2) O4 (j+1)):=(by unfold a0;rw[p2];exact g4);have o3:=zh (a4.2.step o1 zn);have I9:=o3.size;clear o0 b0 b1 b2 b3 b4 b5 o1 U1 p2 F0 F1;go_wp2_with fail;apply b7.mono;rintro e J0 ⟨rfl,⟨U2,U3,l7,d0⟩,l8⟩;have r9:=zh l7;have s0:a0 (Fr (λb=>b=c.xb\/b=c.wm\/b=c.sm\/(al g9 M3 h5).ownBlock=G b) z9 J0):=o3.step l8 (λb hb h=>by
           rcases h with h|h|h
           .exact .inl h
           .exact .inr (.inl h)
           .rcases b9.out b h with h|h
            .exact .inr (.inr (.inr h))
            .omega)
          have j3:a0 (∀ b,(al U2 (zg I V8).length U3).ownBlock=G b->(al g9 M3 h5).ownBlock=G b\/(z9:Q)<=b):=λb hb=>by
           rcases d0 b hb with h|h
           .exact b9 b h
           .refine .inr (cd ?_ h);exact I9
          clear b7 l7 d0 l8;go_wp2;go_roundw;case rel=>exact⟨j+1,zg I V8,G4++[(lvK,m.i)],U2,U3,by omega,by go_num,X1,r9,j3,s0⟩
          case measure=>simp[au];omega
         .have g4:a0 ((I,G4++[(lvK,m.i)])=grpAll r (M3,G2) O4 (j+1)):=(by unfold a0;rw[n6,<-g1,o6,aq R9.out];exact(aq hsn).symm);clear hsn;go_wp2;go_roundw;case rel=>exact⟨j+1,I,G4++[(lvK,m.i)],J,N,by omega,by go_num,g4,a4.1,b9,a4.2⟩
          case measure=>simp[au];omega
        .have g4:a0 ((I,G4)=grpAll r (M3,G2) O4 (j+1)):=(by unfold a0;rw[n6,<-g1,o6,am v5]);have hnt':(m.n==m.t)=false:=(by simpa using v5);go_wp2;go_roundw;case rel=>exact⟨j+1,I,G4,J,N,by omega,by go_num,g4,a5,b9,Hf⟩
         case measure=>simp[au];omega
       .obtain rfl:j=(O4:Q):=by omega
        have g7:¬ ((O4:Q):ae)<(O4:Q):=(by omega);have U4:a0 (Fr (From (w0:Q)) w0 wr):=D7.step hf (λb hb A=>by
         unfold From;have h0:=d5.lo;have n4:=U.sz;rcases A with A|A|A|A
         .omega
         .omega
         .omega
         .have:=zQ d5.mo A;omega)
        have X2:a0 (∃ (M3:T Vir) (G2:T (H×H)) (L4:T Mem) (p0:T H) (O4:T ArrM),MidR ds tx E K r S M l2 M3 G2/\
  L4.map Mem.k=S.filterMap (λs=>ofK 4 mk4 s.o s.r (tx s.d))/\IsIds2 (zU soundB L4) p0/\O4.map ArrM.toArr=p0.map (buildA (zU soundB L4))/\
  (I,G4)=grpAll r (M3,G2) O4 (O4:Q)):=⟨_,_,L4,p0,O4,W7,J5,v4.1,v4.2,g1⟩
        obtain⟨CA,J8⟩:∃ CA,c.ca=CA:=⟨_,rfl⟩
        have k3:wr ⟨c.xb,3,ac⟩=G (aj CA c.C.length c.cc):=(by rw[<-J8];exact zB hR.k 3);have X3:=zh J8;have hCn:=U.cn;have X4:=zh hR;have hMl9:(I:Q)<=50000:=(by omega);clear hR hf J8;go_wp2_with fail;clear k3;go_loopw [114] (λx wr=>∃ (k:Q) (a6:ar ax) (a7:Q),k<=c.C.length/\x=ag ai (k:ae)/\RS c wr a6 a7 J N (S++moreS ds tx I r c.C k) I G4/\Fr (From (w0:Q)) w0 wr) (λx _=>c.C.length-(au x).toNat);case atStart=>exact⟨0,sa,sc,by omega,rfl,by simpa [moreS]using X4.out,U4.out⟩
        case round=>
         obtain⟨k,a6,a7,hk,rfl,hR,hf⟩:=hrel;have X5:=zLG ds tx I r c.C k;obtain⟨S4,A0⟩:=ε (S++moreS ds tx I r c.C k)
         have hS4l:(S4:Q)<=950:=(by rw[A0,df];omega);have v6:=zh A0;rw[<-A0]at hR;clear A0 X5;by_cases m9:k<c.C.length
         .have g7:(k:ae)<c.C.length:=(by omega);have U5:Srcs wr CA c.cc c.C:=(by rw[<-X3];exact hR.cs);obtain⟨cb,M6,s,rfl,A,⟨c0,c1,c2,c3,c4,c5,c6,c7,c8,c9,r1,r2,r3⟩,M7⟩:=U5.elem m9;have i7:=U.cm s (az A);have p4:=zh (zJs (ds:=ds) (tx:=tx) (M:=I) (r:=r) A);obtain⟨W1,b6,X,d1⟩:=zy wr (aw s.vals 123);have j0:=zh (hf.step X zn);have j5:=zh hR;have J9:=zh hf;have X6:=zh X;have a5:=zh (hR.no X);have D1:=zh d1;have X7:a0 (c.b2<=(wr:Q)):=hR.b2l;have v7:a0 ((wr:Q)<(W1:Q)/\c.xb<(wr:Q)/\c.wm<(wr:Q)):=⟨zC d1,zC hR.k,hR.wmo.lt⟩
          obtain⟨lA,hA,r4,p5,y8,X8⟩:=U.tx' hf s.d i7.1;have U6:a0 (∀ W,Fr No W1 W->bd ba 90 #[ay s.d.vals] W λe w'=>e=.returned (ah (tx s.d))/\Fr No W w'):=λW hW=>by
           rw[<-p5];exact zMO s.d lA W ((hA.no X (λ_=>id)).no hW (λ_=>id)) r4
          obtain⟨P,hP⟩:=ε (plc ds s.d.parent)
          have L0:a0 (∀ W,Fr No W1 W->bd ba 88 #[ay #[aj c.a ds c.cap],ay s.d.vals] W λe w'=>e=.returned (ay #[P,ah s.d.orig])/\Fr No W w'):=λW hW=>by
           rw[hP];have hT:=(U.tr' (j0.step hW zn))
           exact zID c.a c.cap ds s.d W hT.dv hT.wf.ok (by have:=U.dn;omega) (hT.wf.ok.pwf i7.1)
          have A1:a0 (P.size<=ak/\s.d.orig.size<=ak):=by
           rw[hP];have h1:=zBp U.tr.wf.ok U.dn s.d.parent;have h2:=U.tr.wf.ok.sz s.d i7.1;refine⟨?_,?_⟩<;>unfold ak<;>omega
          obtain⟨y,hy,U7⟩:=zE3 I (P,s.d.orig);obtain⟨bk,j6⟩:=ε ((wantG I (P,s.d.orig)).isSome)
          have p8:a0 (againB ds tx I r s=(bk&&((y.r==r)&&(y.c.toList==(tx s.d).toList)))):=by
           unfold a0;rw[j6];exact zMK hP U7
          have HY:=zh hy;have v8:=zh j6.symm;unfold Dev.vals at U6 L0;unfold Src.vals at b6;clear A hR hf U5 hA r4 p5 y8 X8 hP hy U7 j6 X d1;go_upto_region 23 with(fail)
          rw[<-b6];clear b6 c0 c1 c2 c3 c4 c5 c6 c7 c8 c9 r1 r2 r3;refine zZ (From (W1:Q)) (.q 0 (.q 1 (.q 2 (.q 3 (.q 4 (.q 5 (.q 6 (.q 7 (.q 8 (.q 9 (.m2 10 (.q 11 (.q 12 (.q 13 (.q 14 (.m1 15 (.m1 16 (.q 17 .fin))))))) 15 (.m1 10 (.q 11 (.q 12 (.q 13 (.q 14 (.m1 16 (.q 17 .fin)))))))))))))))))) _ (λW3 a3=>?_) zj;have d3:=a3.heap D1 id;have x3:=a3.heap a5.k id;have F:∀ g:Gr (From (W1:Q)) W3,SrcB0 g.W (wr:Q) s:=λg=>SrcB0.of (g.fr.heap d3 (by unfold From;have:=v7.out;omega))
          have e0:=λg=>(F g).c0
          have e1:=λg=>(F g).c1
          have e2:=λg=>(F g).c2
          have e3:=λg=>(F g).c3
          have e4:=λg=>(F g).c4
          have e5:=λg=>(F g).c5
          have e6:=λg=>(F g).c6
          have e7:=λg=>(F g).c7
          have e8:=λg=>(F g).c8
          have e9:=λg=>(F g).c9
          have j7:=λg=>(F g).c10
          have j8:=λg=>(F g).c11
          have j9:=λg=>(F g).c12
          have x6:∀ g:Gr (From (W1:Q)) W3,g.W ⟨c.xb,6,ac⟩=G (.map (G c.wm)):=λg=>zB (g.fr.heap x3 (by unfold From;have:=v7.out;omega)) 6
          have x2:∀ g:Gr (From (W1:Q)) W3,g.W ⟨c.xb,2,ac⟩=G (aj c.a ds c.cap):=λg=>by
           have:=zB (g.fr.heap x3 (by unfold From;have:=v7.out;omega)) 2;rw[U.n]at this;exact this
          have n5:=zh a3;clear F d3 x3 a3;(repeat(first|apply zL rfl rfl rfl|apply zJ rfl rfl rfl);intro K hK;go_big_quiet_op;go_big_quiet_on);clear e0 e1 e2 e3 e4 e5 e6 e7 e8 e9 j7 j8 j9 x6 x2;refine zAB rfl rfl ?_ ?_
          focus
           go_wp2_with fail;apply (L0 W3 n5).mono;rintro e Wc ⟨rfl,m7⟩;go_wp2_with fail;apply zm m7;have g3:=zh (n5.step m7 zi);have v9:∀ W,(∃ g:Gr (From (W1:Q)) Wc,W=g.W)->(cz 83 (.map (G c.wm)) (ay #[P,ah s.d.orig]) af).run ba W=.ok (.tuple #[ay #[ah y.q,ah y.o,ah y.c,ag ai y.r],bk]) W:=λW hW=>by
            obtain⟨g,rfl⟩:=hW;have:=((a5.no g3).wmo.fr g.fr (by unfold From;have:=v7.out;omega)).lookok (zDr g.W) dr A1.1 A1.2;rw[this,HY,v8]
           apply zL rfl rfl rfl;intro K hK;refine zAo rfl _ _ 83 rfl (.map (G c.wm)) (ay #[P,ah s.d.orig]) _ rfl rfl v9 ?_
           go_frame
           go_big_quiet_on;clear v9;apply zL rfl rfl rfl;intro K hK;go_big_quiet_op;go_big_quiet_on;apply zL rfl rfl rfl;intro K hK;go_big_quiet_op;go_big_quiet_on;apply zL rfl rfl rfl;intro K hK;go_big_quiet_op;go_big_quiet_on;clear m7;apply zH rfl;obtain⟨Wa,w1,x0,qa⟩:=zy Wc (aw #[(),(),(),ag ai 0] 52);go_wp2_with fail;apply zp;rw[<-w1];clear w1;have x1:a0 (Fr No W1 Wa):=g3.step x0 zi;have k6:a0 ((W1:Q)<=(Wc:Q)):=g3.size;have qz:=qa;clear x0 qa;obtain⟨k7,hB⟩:=ε (Wc:Q)
           rw[<-hB]at qz k6 ⊢;clear hB;obtain⟨z0,z1,z2,z3⟩:=cl4 qz;obtain⟨f0,f1,f2,f3⟩:=fl4 qz;have h4:=zh (set4 qz rfl (ah y.q) (ah y.o) (ah y.c) (ag ai y.r));clear qz;apply zH rfl;go_wp2_with fail;refine ce ⟨h4.2.mono (λb _ h=>by unfold Is at h;unfold From;have:=k6.out;omega),?_⟩;apply zL rfl rfl rfl;intro K hK;go_big_quiet_op;go_big_quiet_on;apply zW;obtain⟨w5,o7⟩:=ε ((((Wa.setCell ⟨k7,0,ac⟩ (ah y.q)).setCell ⟨k7,1,ac⟩ (ah y.o)).setCell ⟨k7,2,ac⟩ (ah y.c)).setCell ⟨k7,3,ac⟩ (ag ai y.r))
           rw[<-o7];have k9:=h4.out;rw[<-o7]at k9;have l0:a0 (Fr No W1 w5):=x1.step k9.2 (λb hb h=>by unfold Is at h;have:=k6.out;omega);have A2:=zh k9.1;clear o7 h4 k9 z0 z1 z2 z3 f0 f1 f2 f3 x1 k6
          rotate_left 1
          focus
           obtain⟨Wa,w1,x0,qa⟩:=zy W3 (aw #[(),(),(),ag ai 0] 52);go_wp2_with fail;apply zp;rw[<-w1];clear w1;have U8:=zh (n5.step x0 zi);clear x0;apply zH rfl;go_wp2_with fail;apply (L0 Wa U8).mono;rintro e Wc ⟨rfl,m7⟩;go_wp2_with fail;apply zm m7;have qb:=m7.heap qa id;clear qa;have g3:=zh (U8.step m7 zi);have v9:∀ W,(∃ g:Gr (From (W1:Q)) Wc,W=g.W)->(cz 83 (.map (G c.wm)) (ay #[P,ah s.d.orig]) af).run ba W=.ok (.tuple #[ay #[ah y.q,ah y.o,ah y.c,ag ai y.r],bk]) W:=λW hW=>by
            obtain⟨g,rfl⟩:=hW;have:=((a5.no g3).wmo.fr g.fr (by unfold From;have:=v7.out;omega)).lookok (zDr g.W) dr A1.1 A1.2;rw[this,HY,v8]
           apply zL rfl rfl rfl;intro K hK;refine zAo rfl _ _ 83 rfl (.map (G c.wm)) (ay #[P,ah s.d.orig]) _ rfl rfl v9 ?_
           go_frame
           go_big_quiet_on;clear v9;apply zL rfl rfl rfl;intro K hK;go_big_quiet_op;go_big_quiet_on;apply zL rfl rfl rfl;intro K hK;go_big_quiet_op;go_big_quiet_on;apply zL rfl rfl rfl;intro K hK;go_big_quiet_op;go_big_quiet_on;clear m7;have x1:a0 (Fr No W1 Wc):=g3.out;have k6:a0 ((W1:Q)<=(W3:Q)):=n5.size;have qz:=qb;clear qb;obtain⟨k7,hB⟩:=ε (W3:Q)
           rw[<-hB]at qz k6 ⊢;clear hB;obtain⟨z0,z1,z2,z3⟩:=cl4 qz;obtain⟨f0,f1,f2,f3⟩:=fl4 qz;have h4:=zh (set4 qz rfl (ah y.q) (ah y.o) (ah y.c) (ag ai y.r));clear qz;apply zH rfl;go_wp2_with fail;refine ce ⟨h4.2.mono (λb _ h=>by unfold Is at h;unfold From;have:=k6.out;omega),?_⟩;apply zL rfl rfl rfl;intro K hK;go_big_quiet_op;go_big_quiet_on;apply zW;obtain⟨w5,o7⟩:=ε ((((Wc.setCell ⟨k7,0,ac⟩ (ah y.q)).setCell ⟨k7,1,ac⟩ (ah y.o)).setCell ⟨k7,2,ac⟩ (ah y.c)).setCell ⟨k7,3,ac⟩ (ag ai y.r))
           rw[<-o7];have k9:=h4.out;rw[<-o7]at k9;have l0:a0 (Fr No W1 w5):=x1.step k9.2 (λb hb h=>by unfold Is at h;have:=k6.out;omega);have A2:=zh k9.1;clear o7 h4 k9 z0 z1 z2 z3 f0 f1 f2 f3 x1 k6
          all_goals (
           have L5:=zh (a5.no l0);have L6:=zh (j0.step l0 zn);go_wp2_with fail;rcases j6:bk with _|_
           .skip;have m8:a0 (S++(moreS ds tx I r c.C k++if againB ds tx I r s=af then [{ s with r:=r }]else [])=S4):=by
             unfold a0;rw[p8,j6];simp[v6.out]
            clear j6 v8 HY p8;refine zO No [(0,B),(1,B),(2,B),(3,B),(4,B),(5,B),(6,B),(7,B),(8,B),(9,B),(10,B),(11,B),(12,af),(13,B),(14,B)] (λw6 Y=>?_);have y6:=Y.heap A2 id;have d6:=Y.heap (l0.heap D1 id) id;have v2:∀ g:Gr No w6,g.W ⟨k7,2,ac⟩=G (ah y.c):=λg=>zB (g.fr.heap y6 id) 2
            have v3:∀ g:Gr No w6,g.W ⟨k7,3,ac⟩=G (ag ai y.r):=λg=>zB (g.fr.heap y6 id) 3
            have F:∀ g:Gr No w6,SrcB0 g.W (wr:Q) s:=λg=>SrcB0.of (g.fr.heap d6 id)
            have e0:=λg=>(F g).c0
            have e1:=λg=>(F g).c1
            have e2:=λg=>(F g).c2
            have e3:=λg=>(F g).c3
            have e4:=λg=>(F g).c4
            have e5:=λg=>(F g).c5
            have e6:=λg=>(F g).c6
            have e7:=λg=>(F g).c7
            have e8:=λg=>(F g).c8
            have e9:=λg=>(F g).c9
            have j7:=λg=>(F g).c10
            have j8:=λg=>(F g).c11
            have j9:=λg=>(F g).c12
            have a2:=zh Y;clear F y6 d6 Y;(repeat(first|apply zR rfl rfl rfl|apply zT rfl rfl rfl);intro K hK;go_big_quiet_op;go_big_quiet_on);clear e0 e1 e2 e3 e4 e5 e6 e7 e8 e9 j7 j8 j9 v2 v3;apply zu rfl;go_wp2_with fail;apply zq;(repeat(first|apply zR rfl rfl rfl|apply zT rfl rfl rfl);intro K hK;go_big_quiet_op;go_big_quiet_on);apply zb;have a4:=zh (L5.no a2);have g6:=zh (L6.step a2 zn);go_wp2;go_roundw;case rel=>exact⟨k+1,a6,a7,by omega,by go_num,by rw[p4,m8];exact a4,g6⟩
            case measure=>simp[au];omega
           .skip;rcases hrr:(y.r==r)with _|_
            .skip;have m8:a0 (S++(moreS ds tx I r c.C k++if againB ds tx I r s=af then [{ s with r:=r }]else [])=S4):=by
              unfold a0;rw[p8,hrr];simp[v6.out]
             clear j6 v8 HY p8;refine zO No [(0,B),(1,B),(2,B),(3,B),(4,B),(5,B),(6,B),(7,B),(8,B),(9,B),(10,B),(11,B),(12,af),(13,B),(14,B)] (λw6 Y=>?_);have y6:=Y.heap A2 id;have d6:=Y.heap (l0.heap D1 id) id;have v2:∀ g:Gr No w6,g.W ⟨k7,2,ac⟩=G (ah y.c):=λg=>zB (g.fr.heap y6 id) 2
             have v3:∀ g:Gr No w6,g.W ⟨k7,3,ac⟩=G (ag ai y.r):=λg=>zB (g.fr.heap y6 id) 3
             have F:∀ g:Gr No w6,SrcB0 g.W (wr:Q) s:=λg=>SrcB0.of (g.fr.heap d6 id)
             have e0:=λg=>(F g).c0
             have e1:=λg=>(F g).c1
             have e2:=λg=>(F g).c2
             have e3:=λg=>(F g).c3
             have e4:=λg=>(F g).c4
             have e5:=λg=>(F g).c5
             have e6:=λg=>(F g).c6
             have e7:=λg=>(F g).c7
             have e8:=λg=>(F g).c8
             have e9:=λg=>(F g).c9
             have j7:=λg=>(F g).c10
             have j8:=λg=>(F g).c11
             have j9:=λg=>(F g).c12
             have a2:=zh Y;clear F y6 d6 Y;(repeat(first|apply zR rfl rfl rfl|apply zT rfl rfl rfl);intro K hK;go_big_quiet_op;go_big_quiet_on);clear e0 e1 e2 e3 e4 e5 e6 e7 e8 e9 j7 j8 j9 v2 v3;apply zu rfl;go_wp2_with fail;apply zq;(repeat(first|apply zR rfl rfl rfl|apply zT rfl rfl rfl);intro K hK;go_big_quiet_op;go_big_quiet_on);apply zb;have a4:=zh (L5.no a2);have g6:=zh (L6.step a2 zn);go_wp2;go_roundw;case rel=>exact⟨k+1,a6,a7,by omega,by go_num,by rw[p4,m8];exact a4,g6⟩
             case measure=>simp[au];omega
            .skip;have F2:a0 (againB ds tx I r s=(y.c.toList==(tx s.d).toList)):=(by unfold a0;rw[p8,j6,hrr];rfl);clear j6 v8 HY p8;refine zO No [(0,B),(1,B),(2,B),(3,B),(4,B),(5,B),(6,B),(7,B),(8,B),(9,B),(10,B),(11,B),(12,af),(13,B),(14,B)] (λw6 Y=>?_);have y6:=Y.heap A2 id;have d6:=Y.heap (l0.heap D1 id) id;have v2:∀ g:Gr No w6,g.W ⟨k7,2,ac⟩=G (ah y.c):=λg=>zB (g.fr.heap y6 id) 2
             have v3:∀ g:Gr No w6,g.W ⟨k7,3,ac⟩=G (ag ai y.r):=λg=>zB (g.fr.heap y6 id) 3
             have F:∀ g:Gr No w6,SrcB0 g.W (wr:Q) s:=λg=>SrcB0.of (g.fr.heap d6 id)
             have e0:=λg=>(F g).c0
             have e1:=λg=>(F g).c1
             have e2:=λg=>(F g).c2
             have e3:=λg=>(F g).c3
             have e4:=λg=>(F g).c4
             have e5:=λg=>(F g).c5
             have e6:=λg=>(F g).c6
             have e7:=λg=>(F g).c7
             have e8:=λg=>(F g).c8
             have e9:=λg=>(F g).c9
             have j7:=λg=>(F g).c10
             have j8:=λg=>(F g).c11
             have j9:=λg=>(F g).c12
             have a2:=zh Y;clear F y6 d6 Y;(repeat(first|apply zR rfl rfl rfl|apply zT rfl rfl rfl);intro K hK;go_big_quiet_op;go_big_quiet_on);clear e0 e1 e2 e3 e4 e5 e6 e7 e8 e9 j7 j8 j9 v2 v3;apply zu rfl;go_wp2_with fail;apply (U6 w6 (l0.step a2 zi)).mono;rintro e w7 ⟨rfl,g5⟩;have A3:=zh (a2.step g5 zi);go_wp2_with fail;apply zm g5;clear g5;rcases hcc:(y.c.toList==(tx s.d).toList)with _|_
             .skip;have m8:a0 (S++(moreS ds tx I r c.C k++if againB ds tx I r s=af then [{ s with r:=r }]else [])=S4):=by
               unfold a0;rw[F2,hcc];simp[v6.out]
              (repeat(first|apply zR rfl rfl rfl|apply zT rfl rfl rfl);intro K hK;go_big_quiet_op;go_big_quiet_on);apply zb;have a4:=zh (L5.no A3);have g6:=zh (L6.step A3 zn);go_wp2;go_roundw;case rel=>exact⟨k+1,a6,a7,by omega,by go_num,by rw[p4,m8];exact a4,g6⟩
              case measure=>simp[au];omega
             .skip;have m8:a0 (S++(moreS ds tx I r c.C k++if againB ds tx I r s=af then [{ s with r:=r }]else [])=S4++[{ s with r:=r }]):=by
               unfold a0;rw[F2,hcc];simp[v6.out]
              (repeat(first|apply zR rfl rfl rfl|apply zT rfl rfl rfl);intro K hK;go_big_quiet_op;go_big_quiet_on);apply zb;clear hcc;have d7:=A3.heap (l0.heap D1 id) id;have X9:w7 ⟨wr,12,ac⟩=G (ag ai s.r):=(SrcB0.of d7).c12;have Y0:=zD d7 12;obtain⟨w8,A4⟩:=ε (w7.setCell ⟨wr,12,ac⟩ (ag ai r))
              have f8:Fr (Is (wr:Q)) w7 w8:=(by rw[A4];exact Fr.setAt (bf _ _) _);have dw:w8.heap[(wr:Q)]?=G (aw (Src.vals { s with r:=r }) 123):=(by rw[A4];exact zE d7 12 _);have L7:Fr No wr w8:=(X6.step (l0.step A3 zi) zi).step f8 (λb hb h=>by omega);obtain⟨s2,L8⟩:∃ s2:Src,s2={ s with r:=r }:=⟨_,rfl⟩
              rw[<-L8]at dw m8;have Y1:=zh L8;clear L8;have j2:=zh (j5.no L7);have kw:=j2.k;have L9:=j2.so;have o3:=zh (J9.step L7 zn);have Y2:∀ b,(al a6 S4 a7).ownBlock=G b->b<(wr:Q):=λb h=>ze j5.so h
              have hwl:(wr:Q)<(w8:Q):=zC dw;have hxw:c.xb<(wr:Q):=zC j5.k;have hb2l:c.b2<=(w8:Q):=(by have:=X7.out;omega);clear d7 f8 L7;obtain⟨i0,Y3,Y4,Y5,Y6⟩:=info_parts infoSr;go_upto_region 26 with(fail)
              rw[<-A4];clear A4 X9 Y0;refine zZ (λb=>b=c.xb\/(al a6 S4 a7).ownBlock=G b\/(w8:Q)<=b) (.q 0 (.q 1 (.q 2 (.q 3 (.q 5 (.m2 4 (.m1 6 (.m1 7 (.q 8 (.q 9 (.m1 10 .fin))))) 6 (.m1 4 (.m1 7 (.q 8 (.q 9 (.m1 10 .fin))))))))))) _ (λW3 a3=>?_) zj;have A5:=a3.heap kw id;have o8:=zG L9 a3 (λ_ _=>id);have F3:=zK o8 A5 (by decide);have d3:=a3.heap dw id;have s3:=a3.size;have F:∀ g:Gr (λb=>b=c.xb\/(al a6 S4 a7).ownBlock=G b\/(w8:Q)<=b) W3,SrcB0 g.W (wr:Q) s2:=λg=>SrcB0.of (g.fr.heap d3 (λh=>by
               rcases h with h|h|h
               .omega
               .have:=Y2 _ h;omega
               .omega))
              have e0:=λg=>(F g).c0
              have e1:=λg=>(F g).c1
              have e2:=λg=>(F g).c2
              have e3:=λg=>(F g).c3
              have e4:=λg=>(F g).c4
              have e5:=λg=>(F g).c5
              have e6:=λg=>(F g).c6
              have e7:=λg=>(F g).c7
              have e8:=λg=>(F g).c8
              have e9:=λg=>(F g).c9
              have j7:=λg=>(F g).c10
              have j8:=λg=>(F g).c11
              have j9:=λg=>(F g).c12
              have U9:=zh a3;clear F d3;(repeat(first|apply zL rfl rfl rfl|apply zJ rfl rfl rfl);intro K hK;go_big_quiet_op;go_big_quiet_on);clear e0 e1 e2 e3 e4 e5 e6 e7 e8 e9 j7 j8 j9;have c3:W3 ⟨c.xb,5,ac⟩=G (aj a6 S4 a7):=zB A5 5;refine zAB rfl rfl ?_ ?_
              focus
               go_wp2_with fail;apply zq;apply zH rfl;go_wp2_with fail;apply zp;clear c3
              rotate_left 1
              focus
               go_wp2_with fail;apply zp;apply zH rfl;have c7:∀ o,(W3.alloc o) ⟨c.xb,5,ac⟩=G (aj a6 S4 a7):=λo=>((bf No W3).alloc o).cell c3 id
               clear c3;go_wp2_with fail;apply zq;clear c7
              all_goals (
               apply zH rfl;go_wp2_with (at_builtin;refine wpList_append_own_at _ rfl _ _ 82 rfl c.b2 123 i0 (ay #[ag ai 0,ag ai 0,ag ai 0,bi,bi,bi,bi,bi,ag ai 0,ag ai 0,aj ac 0 0,bi,ag ai 0]) 13 168 Tryz.underlying82 Y3 Y4 Y5 Y6 rfl (by decide) _ _ _ rfl (o8.alloc _) ⟨W3,0,ac⟩ 1 1 (Src.vals s2).toList rfl rfl (zl _ (Src.vals s2) _ rfl) (zCe _) (by unfold ak;omega) (by omega) (by first|omega|(simp;done)|(simp;omega)) ?_;intro v' w4 l1 p3 _ F4;obtain⟨x5,x7,rfl⟩:=zI l1)
               have o2:Fr No W3 (W3.alloc (aw (Src.vals s2) 123)):=(bf _ _).alloc _;have A6:Fr (λb=>(al a6 S4 a7).ownBlock=G b) (W3.alloc (aw (Src.vals s2) 123)) w4:=Fr.of_grown p3;have k4:=A6.heap (o2.heap A5 id) (λe=>F3 e);have c3:w4 ⟨c.xb,5,ac⟩=G (aj a6 S4 a7):=zB k4 5;have f3:w4.frozen? ⟨c.xb,5,ac⟩=false:=zD k4 5;have F5:=zK l1 k4 (by decide);refine ce ⟨A6.mono (λb _ h=>.inr (.inl h)),?_⟩;(repeat(first|apply zL rfl rfl rfl|apply zJ rfl rfl rfl);intro K hK;go_big_quiet_op;go_big_quiet_on);apply zH rfl;have f5:Fr (Is (c.xb)) w4 (w4.setCell ⟨c.xb,5,ac⟩ (aj x5 ((S4:Q)+1) x7)):=Fr.setAt (bf _ _) _;have k5:((w4.setCell ⟨c.xb,5,ac⟩ (aj x5 ((S4:Q)+1) x7))).heap[c.xb]?=G (aw (rcs c.ka c.kn c.kc c.wt c.a c.n c.cap c.ca c.C.length c.cc c.ea c.en c.ec x5 ((S4:Q)+1) x7 c.wm c.sm J (I:Q) N) 86):=zE k4 5 _;have x8:=zG l1 f5 (λb hb h=>by unfold Is at h;subst h;exact F5 hb);have V0:Fr (λb=>b=c.xb\/(al a6 S4 a7).ownBlock=G b) W3 (w4.setCell ⟨c.xb,5,ac⟩ (aj x5 ((S4:Q)+1) x7)):=((o2.mono zn).step A6 (λb _ h=>.inr h)).step f5 (λb _ h=>.inl h);have HR:=zg3 k5 x8 V0;have HAT:=zh F4;clear l1 p3 A6 k4 f5 k5 x8 V0 F5 o2 F4;go_wp2_with fail;refine ce ⟨Fr.setCell (bf _ _) (λ_=>.inl rfl) _,?_⟩;apply zW;clear o8 A5 F3;have HG:=zh ((j2.no U9).growS HR.2.2 HR.1 HR.2.1);have Y7:a0 (Fr (From (w0:Q)) w0 W3):=o3.step U9 zn;have Y8:=zh HR.2.2;have Y9:a0 (S4++[s2]=S++moreS ds tx I r c.C (k+1)):=(by unfold a0;rw[p4,<-m8,Y1]);go_wp2;go_roundw;case rel=>exact⟨k+1,x5,x7,by omega,by go_num,Y9.out▸HG.out,Y7.step Y8.out (λb _ h=>by
                unfold From;have h0:=j5.lo;have n4:=U.sz;rcases h with h|h
                .omega
                .have:=zQ j5.so h;omega)⟩
               case measure=>simp[au];omega
               )
           )
         .obtain rfl:k=c.C.length:=by omega
          have g7:¬ (c.C.length:ae)<c.C.length:=(by omega);have k5:wr ⟨c.xb,5,ac⟩=G (aj a6 S4 a7):=zB hR.k 5;have V1:=zKa a6 a7 c.b2 S4 wr hR.so (by omega);have j5:=zh hR;have J9:=zh hf;clear hR hf;go_wp2_with fail;apply V1.mono;rintro e w9 ⟨rfl,⟨S',M0,V2,x9⟩,M1⟩;have V3:=zh (j5.perm M1 M0.length_eq x9);have Z0:=zh (J9.step M1 (λb _ h=>by
           unfold From;have h0:=j5.lo;have n4:=U.sz;have:=zQ j5.so h;omega))
          have Z1:a0 (NextR ds tx E K c.C r S M l2 S' I G4):=⟨X2,by rw[<-v6];exact M0,V2⟩
          have k8:w9 ⟨c.xb,8,ac⟩=G (aj J I N):=zB V3.k 8;clear V1 M0 V2 x9 M1 k5;go_wp2;go_ret;exact⟨⟨S',I,G4,a6,a7,J,N,by simp,V3.out,Z1.out⟩,Z0.out⟩
      )
end Go.Proofs.YtjohgekljmhheaaGreatDoor
