import Derived.Test.YtckkocmhlhefpaaGreatDoorQ34
namespace Go.Proofs.YtckkocmhlhefpaaGreatDoor
open Go.RowKit Go.Maps
set_option linter.unusedVariables false
set_option maxRecDepth 100000
set_option maxHeartbeats 400000
open Go renaming maxLen->ab
open Go.Lib renaming hasPrefix->al
open TreeOk renaming origin_none->ar
open _root_ renaming ByteArray->C,Int->E,List->Q,Bool->T,if_neg->S,absurd->M,decide_eq_true_eq->g,if_pos->w,beq_eq_false_iff_ne->au
open _root_.Bool renaming true->G,false->H,and_eq_true->P,or_eq_true->af,not_eq_true'->aj,or_eq_false_iff->ak
open _root_.ByteArray renaming ext->W
open _root_.List renaming any_eq_false->a0,mem_of_getElem?->aa,getElem?_of_mem->ac,mem_cons_of_mem->ad,take_append_drop->ae,drop_eq_getElem_cons->ag,getElem?_eq_getElem->ah,mem_map_of_mem->ai,getElem?_map->am,getElem?_take_of_lt->an,length_take->ao,mem_of_mem_take->ap,pairwise_map->aq
open _root_.Option renaming some->B,none->K
variable{l ds L:Q Dev}{d D:Dev}{n b b':E}{x c:Ct}{o p s:C}{ct:E->C}{k:Nat}
theorem zMp:(∀ (k:Nat) (d:Dev),l[k]?=B d->d.parent=0\/∃ (j:Nat) (e:Dev),j<k/\l[j]?=B e/\e.index=d.parent)↔∀ (a:Q Dev) (d:Dev) (b:Q Dev),l=a++d::b->d.parent=0\/∃ e∈a,e.index=d.parent:=by
 constructor
 .rintro h a d b rfl;rcases h a.length d (by simp)with v|⟨j,e,o,A,y⟩
  .exact .inl v
  .rw[List.getElem?_append_left o]at A;exact .inr ⟨e,aa A,y⟩
 .intro h k d D;obtain⟨F,z⟩:=List.getElem?_eq_some_iff.1 D;have e:l=l.take k++d::l.drop (k+1):=by
   rw[<-z,<-ag F,ae]
  rcases h _ _ _ e with v|⟨x,I,y⟩
  .exact .inl v
  .obtain⟨j,o⟩:=ac I;have u:j<k:=by have:=(List.getElem?_eq_some_iff.1 o).1;rw[ao]at this;omega
   rw[an u]at o;exact .inr ⟨j,x,u,o,y⟩
structure SubF (ds:Q Dev)(q:Dev->T):Prop where
 ok:TreeOk ds
 cl:∀ d∈ds,q d=G->∀ p∈ds,p.index=d.parent->q p=G
section
variable {ds:Q Dev}{q:Dev->T}
theorem SubF.treeOk (h:SubF ds q):TreeOk (ds.filter q):=by
 refine⟨h.ok.nd.sublist (List.filter_sublist.map _),λd v=>h.ok.ix d (List.mem_filter.1 v).1,zMp.2 λa d b e=>?_,λd v=>h.ok.nm d (List.mem_filter.1 v).1⟩;obtain⟨a1,r,z,I,J⟩:=List.filter_eq_append_iff.1 e;obtain⟨N,O,o,A,R,V⟩:=List.filter_eq_cons_iff.1 J;rcases zMp.1 h.ok.pa (a1++N) d O (by rw[z,o,List.append_assoc])with U|⟨x,u,F⟩
 .exact .inl U
 .refine .inr ⟨x,?_,F⟩;have v:d∈ds:=by rw[z,o];simp
  have D:x∈ds:=by rw[z,o];rcases List.mem_append.1 u with h|h<;>simp[h]
  have y:=h.cl d v R x D F;rcases List.mem_append.1 u with u|u
  .rw[<-I];exact List.mem_filter.2 ⟨u,y⟩
  .exact M y (A x u)
theorem SubF.look (h:SubF ds q)(o:d∈ds)(u:q d=G):look (ds.filter q) d.index=B d:=zu h.treeOk.nd (List.mem_filter.2 ⟨o,u⟩)
theorem SubF.none (h:Go.Proofs.YtckkocmhlhefpaaGreatDoor.look ds n=K):Go.Proofs.YtckkocmhlhefpaaGreatDoor.look (ds.filter q) n=none:=zo.2 λd o=>zo.1 h d (List.mem_filter.1 o).1
def Stay (ds:Q Dev)(q:Dev->T)(n:E):Prop:=look ds n=K\/∃ d∈ds,d.index=n/\q d=G
theorem SubF.stay (h:SubF ds q)(o:Stay ds q n):Go.Proofs.YtckkocmhlhefpaaGreatDoor.look (ds.filter q) n=Go.Proofs.YtckkocmhlhefpaaGreatDoor.look ds n:=by
 rcases o with o|⟨d,u,rfl,v⟩
 .rw[o];exact SubF.none o
 .rw[h.look u v,h.ok.lk u]
theorem SubF.par (h:SubF ds q)(v:d∈ds)(y:q d=G):Stay ds q d.parent:=by
 cases e:Go.Proofs.YtckkocmhlhefpaaGreatDoor.look ds d.parent with
 | none=>exact .inl e
 | some p=>
  obtain⟨o,u⟩:=zAL e;exact .inr ⟨p,o,u,h.cl d v y p o u⟩
theorem SubF.ch (h:SubF ds q)(z:Ch ds n l):Stay ds q n->Ch (ds.filter q) n l:=by
 induction z with
 | nil o=>exact λ_=>.nil (SubF.none o)
 | @cons n d l o t A=>
  intro u;obtain⟨D,I⟩:=zAL o;have v:q d=true:=by
   rcases u with u|⟨e,F,y,v⟩
   .rw[u]at o;cases o
   .have:=h.ok.lk F;rw[y,o]at this;cases this;exact v
  exact .cons (by rw[h.stay u];exact o) (A (h.par D v))
theorem SubF.chain (h:SubF ds q)(o:Stay ds q n):chain (ds.filter q) n=Go.Proofs.YtckkocmhlhefpaaGreatDoor.chain ds n:=zCH h.treeOk (h.ch (h.ok.chn0 n) o)
theorem SubF.origin (h:SubF ds q)(o:Stay ds q n):origin (ds.filter q) n=Go.Proofs.YtckkocmhlhefpaaGreatDoor.origin ds n:=by unfold Go.Proofs.YtckkocmhlhefpaaGreatDoor.origin;rw[h.chain o]
theorem SubF.plc (h:SubF ds q)(o:Stay ds q n):plc (ds.filter q) n=Go.Proofs.YtckkocmhlhefpaaGreatDoor.plc ds n:=by unfold Go.Proofs.YtckkocmhlhefpaaGreatDoor.plc;rw[h.stay o,h.origin o]
theorem SubF.mem (h:SubF ds q)(o:d∈ds.filter q):Stay ds q d.index:=.inr ⟨d,(List.mem_filter.1 o).1,rfl,(List.mem_filter.1 o).2⟩
theorem SubF.memP (h:SubF ds q)(o:d∈ds.filter q):Stay ds q d.parent:=h.par (List.mem_filter.1 o).1 (List.mem_filter.1 o).2
theorem SubF.vir (h:SubF ds q)(o:d∈ds.filter q):virB (ds.filter q) d.index=virB ds d.index:=by
 have u:=h.stay (h.mem o);have v:=h.stay (h.memP o);have y:=h.ok.lk (List.mem_filter.1 o).1;unfold virB partOf;rw[u,y];dsimp only;rw[v]
theorem SubF.wf (h:SubF ds q)(u:TreeWf ds):TreeWf (ds.filter q):=by
 refine⟨h.treeOk,λd o e v y=>?_,λd o=>?_⟩
 .rw[h.origin (h.mem o),h.origin (h.mem v)]at y;exact u.uo d (List.mem_filter.1 o).1 e (List.mem_filter.1 v).1 y
 .rw[h.origin (h.mem o)];exact u.dp d (List.mem_filter.1 o).1
end
theorem zGv {n:E}{d:Dev}:∀ {l:Q Dev} {R:E->T},R d.parent=G->d∈l->d∈subL n l R
 | [],_,_,h=>by cases h
 | x::t,R,hR,h=>by
  rcases hb:(x.index==n||R x.parent)with _|_
  .rw[zA3 hb];rcases List.mem_cons.1 h with h|h
   .subst h;rw[hR,Bool.or_true]at hb;cases hb
   .exact zGv hR h
  .rw[zBL hb];rcases List.mem_cons.1 h with h|h
   .subst h;simp
   .refine ad _ (zGv ?_ h);unfold upd;split
    .rfl
    .exact hR
theorem zGu {n:E}{p d:Dev}(u:d.parent=p.index):∀ {l:Q Dev} {R:E->T},l.Pairwise (λa b=>a.parent≠b.index)->(∀ x∈l,x.parent≠x.index)->p∈subL n l R->d∈l->d∈subL n l R
 | [],_,_,_,_,h=>by cases h
 | x::t,R,I,A,o,h=>by
  obtain⟨J,D⟩:=List.pairwise_cons.1 I;have F:∀ y∈t,y.parent≠y.index:=λy N=>A y (by simp[N])
  have v:p∈t->d∈t:=λz=>by
   rcases List.mem_cons.1 h with h|h
   .subst h;exact M u (J p z)
   .exact h
  rcases hb:(x.index==n||R x.parent)with _|_
  .rw[zA3 hb]at o ⊢;exact zGu u D F o (v (zBM o))
  .rw[zBL hb]at o ⊢;rcases List.mem_cons.1 o with o|o
   .subst o;rcases List.mem_cons.1 h with h|h
    .subst h;exact M u (A d (by simp))
    .refine ad _ (zGv ?_ h);unfold upd;rw[w u]
   .exact ad _ (zGu u D F o (v (zBM o)))
theorem zF5 {n:E}{b:Q Dev}:∀ {a:Q Dev},(∀ d∈a,d.index≠n)->subL n (a++b) (λ_=>H)=subL n b (λ_=>H)
 | [],_=>rfl
 | x::t,h=>by
  rw[List.cons_append,zA3 (by simpa using h x (by simp))];exact zF5 λd o=>h d (by simp[o])
theorem zDe {n:E}{d:Dev}(o:d.index≠n)(u:d.parent=0):∀ {l:Q Dev} {R:E->T},(∀ x∈l,x.index≠0)->R 0=H->d∉subL n l R
 | [],_,_,_,h=>by cases h
 | x::t,R,v,z,h=>by
  rcases hb:(x.index==n||R x.parent)with _|_
  .rw[zA3 hb]at h;exact zDe o u (λy A=>v y (by simp[A])) z h
  .rw[zBL hb]at h;rcases List.mem_cons.1 h with h|h
   .subst h;rw[u,z,Bool.or_false]at hb;exact o (by simpa using hb)
   .refine zDe o u (λy A=>v y (by simp[A])) ?_ h;unfold upd;rw[S (λe=>v x (by simp) e.symm)];exact z
theorem TreeOk.pw (h:TreeOk ds):ds.Pairwise (λa b=>a.parent≠b.index)/\∀ x∈ds,x.parent≠x.index:=by
 have o:∀ (i j:Nat) (d e:Dev),ds[i]?=B d->ds[j]?=B e->i<=j->d.parent≠e.index:=λi j d e F A u I=>by
  have J:=(h.ix e (aa A)).1;rcases h.pa i d F with D|⟨k,x,v,y,z⟩
  .omega
  .have D:(ds.map Dev.index)[k]?=B e.index:=by rw[am,y];show B x.index=_;rw[z,I]
   have N:(ds.map Dev.index)[j]?=B e.index:=by rw[am,A];rfl
   obtain⟨O,R⟩:=List.getElem?_eq_some_iff.1 D;obtain⟨U,V⟩:=List.getElem?_eq_some_iff.1 N;exact List.pairwise_iff_getElem.1 h.nd k j O U (by omega) (by rw[R,V])
 refine⟨List.pairwise_iff_getElem.2 λi j X Y u=>o i j _ _ (ah X) (ah Y) (by omega),λx y=>?_⟩;obtain⟨k,v⟩:=ac y;exact o k k x x v v (Nat.le_refl _)
def keepB (n:E)(ds:Q Dev)(d:Dev):Bool:=!ixs (subL n ds (λ_=>H)) d.index
theorem zEq (h:d∈subL n ds (λ_=>H)):keepB n ds d=false:=by
 unfold keepB ixs;rw[Bool.not_eq_false',List.any_eq_true];exact⟨d,h,by simp⟩
theorem zD0 (u:TreeOk ds)(z:d∈ds)(h:d∉subL n ds (λ_=>H)):keepB n ds d=true:=by
 unfold keepB ixs;rw[aj,a0];intro x v;have o:=zBM v;intro e;have A:x.index=d.index:=by simpa using e
 have y:=u.lk o;rw[A,u.lk z]at y;cases y;exact h v
theorem TreeOk.subF (h:TreeOk ds):SubF ds (keepB n ds):=by
 refine⟨h,λd v o p y z=>?_⟩;by_cases u:p∈subL n ds (λ_=>H)
 .have:=zGu z.symm h.pw.1 h.pw.2 u v;rw[zEq this]at o;cases o
 .exact zD0 h y u
theorem zCS (n:E)(ds:Q Dev):remL n ds=ds.filter (keepB n ds):=rfl
theorem zIu {a b:Q Dev}(o:TreeOk (a++b))(h:∀ d∈a,d.index≠n):∃ b',remL n (a++b)=a++b'/\b'.Sublist b:=by
 refine⟨b.filter (keepB n (a++b)),?_,List.filter_sublist⟩;rw[zCS,List.filter_append]
 congr 1
 rw[List.filter_eq_self];intro d u;refine zD0 o (by simp[u]) λv=>?_
 rw[zF5 h]at v;have y:=zBM v;have:=List.nodup_append.1 (by have:=o.nd;rwa [List.map_append]at this);exact this.2.2 d.index (ai u) d.index (ai y) rfl
theorem zJv (A:TreeOk ds)(y:d∈remL n ds):d.index≠n:=by
 intro e;have o:∀ (l:Q Dev) (R:E->T),d∈l->d∈subL n l R:=by
  intro l
  induction l with
  | nil=>intro R h;cases h
  | cons x t u=>
   intro R h;rcases hb:(x.index==n||R x.parent)with _|_
   .rw[zA3 hb];rcases List.mem_cons.1 h with h|h
    .subst h;rw[e]at hb;simp at hb
    .exact u R h
   .rw[zBL hb];rcases List.mem_cons.1 h with h|h
    .subst h;simp
    .exact ad _ (u _ h)
 obtain⟨z,v⟩:=List.mem_filter.1 y;rw[show (!ixs (subL n ds (λ_=>H)) d.index)=keepB n ds d from rfl,zEq (o ds _ z)]at v;cases v
theorem zJu (h:TreeOk ds)(o:d∈ds)(u:d.parent=0)(v:d.index≠n):d∈remL n ds:=
 List.mem_filter.2 ⟨o,zD0 h o (zDe v u (λx y=>by have:=(h.ix x y).1;omega) rfl)⟩
def rootN : Q C:=[⟨#[115,100,98]⟩,⟨#[115,100,99]⟩,⟨#[115,100,100]⟩,⟨#[115,100,101]⟩,⟨#[109,100,45,114]⟩,⟨#[109,100,45,115]⟩,⟨#[111,112,101,110,45,99]⟩,⟨#[111,112,101,110,45,100]⟩,⟨#[108,118,45,118,45,49]⟩,⟨#[108,118,45,118,45,50]⟩,⟨#[115,100,97]⟩]
def parN (n:C):Q C:=[partT n 1,partT n 2,partT n 9]
def allN : Q C:=rootN++rootN.flatMap parN
def eqB (x y:C):Bool:=x.data.toList==y.data.toList
theorem zAc {x y:C}:eqB x y=G↔x=y:=by
 unfold eqB;rw[beq_iff_eq];exact⟨λh=>W (Array.toList_inj.1 h),λh=>by rw[h]⟩
def parOf (o:C):Option C:=rootN.find? λn=>(parN n).any (eqB o)
def orgOf (o:C):Q C:=match parOf o with|some n=>[n,o] | none=>[o]
def zL9 (a:Option C)(b:C):Bool:=match a with|some x=>eqB x b|none=>H
theorem zBS {n:C}(u:n∈rootN)(v:o∈parN n):parOf o=B n:=by
 have h:=List.all_eq_true.1 (List.all_eq_true.1 (show (rootN.all λn=>(parN n).all λo=>zL9 (parOf o) n)=G by kernel_rfl) n u) o v;cases e:parOf o with
 | none=>rw[e]at h;cases h
 | some x=>rw[e]at h;rw[zAc.1 h]
theorem zCU {n:C}(o:n∈rootN):parOf n=none:=by
 have h:=List.all_eq_true.1 (show (rootN.all λn=>(parOf n).isNone)=G by kernel_rfl) n o
 simpa using h
def nmOk (o:C):Bool:=isName o&&zD3 (nodeOf o)&&eqB (nodeOf o) o&&!(o.data.toList.contains 47)
theorem zPG (h:o∈allN):nmOk o=true:=List.all_eq_true.1 (show allN.all nmOk=G by kernel_rfl) o h
def plOk (o:C):Bool:=zk (pathOf (orgOf o))&&decide (depthB (pathOf (orgOf o))<=7)
theorem zNf (h:o∈allN):plOk o=true:=List.all_eq_true.1 (show allN.all plOk=G by kernel_rfl) o h
theorem zJ4 {n:C}(u:n∈rootN)(v:o∈parN n):pathO (pathOf [n]) (pathOf [n,o])<0:=by
 have h:=List.all_eq_true.1 (List.all_eq_true.1 (show (rootN.all λn=>(parN n).all λo=>decide (pathO (pathOf [n]) (pathOf [n,o])<0))=G by kernel_rfl) n u) o v
 simpa using h
theorem zB2 {n:C}(h:n∈rootN):n∈allN:=List.mem_append.2 (.inl h)
theorem zKL {n:C}(h:n∈rootN)(u:o∈parN n):o∈allN:=List.mem_append.2 (.inr (List.mem_flatMap.2 ⟨n,h,u⟩))
theorem zAM (h:o∈allN):isName o=G/\zD3 (nodeOf o)=G/\nodeOf o=o/\∀ b∈o.data.toList,b≠47:=by
 have:=zPG h;unfold nmOk at this;simp only[P,aj]at this;refine⟨this.1.1.1,this.1.1.2,zAc.1 this.1.2,λb u e=>?_⟩;subst e;rw[List.contains_iff_mem.2 u]at this;exact M this.2 (by simp)
theorem zI8 {l:Q UInt8}:∀ {s t:Q UInt8},al t (s++l)=G->∀ x∈l,x∈t:=by
 intro s t h x o;unfold al at h;rw[List.isPrefixOf_iff_prefix]at h;exact h.subset (List.mem_append.2 (.inr o))
theorem zM2 (h:p∈allN):benB o p=false:=by
 rw[<-Bool.not_eq_true];intro u;unfold benB at u;rw[ByteArray.data_append]at u;rw[Array.toList_append]at u;exact(zAM h).2.2.2 47 (zI8 u 47 (by simp)) rfl
def fsC (i l:C):Ct:=.mk 1 i l 0 0 0 []
def raC (i:C)(s t e:E)(c:Ct):Ct:=.mk 2 i ⟨#[]⟩ s t e [c]
def crC (i:C)(c:Ct):Ct:=.mk 3 i ⟨#[]⟩ 0 0 0 [c]
def pvC (s t:E)(l:Q Ct):Ct:=.mk 4 ⟨#[118]⟩ ⟨#[]⟩ s t 0 l
def taC (i:C)(l:Q Ct):Ct:=.mk 5 i ⟨#[]⟩ 0 0 0 l
def cF : Ct:=fsC ⟨#[102]⟩ ⟨#[]⟩
def cG : Ct:=fsC ⟨#[103]⟩ ⟨#[]⟩
def cH : Ct:=fsC ⟨#[104]⟩ ⟨#[]⟩
def cX : Ct:=fsC ⟨#[120]⟩ ⟨#[]⟩
def cY : Ct:=fsC ⟨#[121]⟩ ⟨#[]⟩
def cO : Ct:=fsC ⟨#[111,108,100]⟩ ⟨#[]⟩
def cGL : Ct:=fsC ⟨#[103]⟩ ⟨#[76]⟩
def cU : Ct:=taC ⟨#[117]⟩ [cF]
def rX : Ct:=raC ⟨#[114]⟩ 1 2 1 cX
def rU1 : Ct:=raC ⟨#[114]⟩ 1 2 1 cU
def rU2 : Ct:=raC ⟨#[114]⟩ 2 2 1 cU
def rF : Ct:=raC ⟨#[114]⟩ 1 1 1 cF
def sY : Ct:=raC ⟨#[115]⟩ 1 3 2 cY
def dP : Ct:=pvC 1 1 [sY]
def rX1 : Ct:=raC ⟨#[114]⟩ 1 1 1 cX
def ctsL : Q Ct:=[cF,cGL,raC ⟨#[114]⟩ 1 2 1 cF,raC ⟨#[114]⟩ 2 2 1 cF,crC ⟨#[99]⟩ cG,pvC 1 1 [cF,crC ⟨#[99]⟩ cH],taC ⟨#[116]⟩ [cF,crC ⟨#[99]⟩ rX],taC ⟨#[116]⟩ [rU1,rU2],raC ⟨#[114]⟩ 1 1 1 rF,pvC 1 2 [cF],pvC 2 2 [cF],crC ⟨#[100]⟩ dP,raC ⟨#[115]⟩ 2 3 2 cY,raC ⟨#[115]⟩ 3 3 2 cY,
 cG,cH,cX,cY,cO,cU,crC ⟨#[99]⟩ cH,rX,crC ⟨#[99]⟩ rX,rU1,rU2,rF,sY,dP,rX1,taC ⟨#[116]⟩ [rX1]]
def zDw : C:=⟨#[110,111,110,115,101,110,115,101]⟩
def InU (s:C):Prop:=s=⟨#[]⟩\/s=zDw\/∃ c∈ctsL,s=c.txt
def NoTab (s:C):Prop:=∀ c,parseC s=B c->c.kind≠5
theorem zDq: parseC ⟨#[]⟩=B Ct.zero:=by kernel_rfl
theorem zI0: parseC zDw=none:=by kernel_rfl
theorem zKq: ∀ c∈ctsL,c.valid=G/\c.txt.size<=256/\attrOk (zM,c.txt)=G/\1<=c.txt.size:=by
 have h:∀ c∈ctsL,(c.valid&&decide (c.txt.size<=256)&&attrOk (zM,c.txt)&&decide (1<=c.txt.size))=true:=List.all_eq_true.1 (by kernel_rfl);intro c o;have:=h c o;simp only[P,g]at this;exact⟨this.1.1.1,this.1.1.2,this.1.2,this.2⟩
theorem zGb (h:c∈ctsL):parseC c.txt=B c:=by
 obtain⟨o,u,_⟩:=zKq c h;exact(zBC _ _).2 ⟨u,o,(zB7 c).symm⟩
theorem InU.parse (h:InU s)(o:parseC s=B c)(v:c.kind≠0):c∈ctsL/\s=c.txt:=by
 rcases h with rfl|rfl|⟨d,u,rfl⟩
 .rw[zDq]at o;cases o;exact M rfl v
 .rw[zI0]at o;cases o
 .rw[zGb u]at o;cases o;exact⟨u,rfl⟩
def inOk (c:Ct):Bool:=c.inner.all (λx=>ctsL.any λy=>decide (x.txt.data.toList=y.txt.data.toList)) &&
 (if c.kind=2 then eqB c.id ⟨#[114]⟩||eqB c.id ⟨#[115]⟩else if c.kind=3 then eqB c.id ⟨#[99]⟩||eqB c.id ⟨#[100]⟩else if c.kind=4 then eqB c.id ⟨#[118]⟩&&decide (c.inner.length<=2)else if c.kind=5 then decide (c.inner.length<=2)&&c.inner.all (λx=>decide (x.kind≠5))&&c.inner.all (λx=>ctsL.any λy=>decide (x.txt.data.toList=y.txt.data.toList)&&decide (y.kind≠5))else G)
theorem zKY (h:c∈ctsL):inOk c=true:=List.all_eq_true.1 (show ctsL.all inOk=G by kernel_rfl) c h
theorem zNy {p:Ct->T}(h:(ctsL.any λy=>decide (x.txt.data.toList=y.txt.data.toList)&&p y)=G):∃ y∈ctsL,x.txt=y.txt/\p y=true:=by
 obtain⟨y,o,h⟩:=List.any_eq_true.1 h;rw[P,g]at h;exact⟨y,o,W (Array.toList_inj.1 h.1),h.2⟩
theorem zGc (h:c∈ctsL)(o:x∈c.inner):InU x.txt:=by
 have:=zKY h;unfold inOk at this;rw[P]at this;have u:=List.all_eq_true.1 this.1 x o;obtain⟨y,v,z⟩:=List.any_eq_true.1 u;exact .inr (.inr ⟨y,v,W (Array.toList_inj.1 (by simpa using z))⟩)
theorem zPQ (h:c∈ctsL)(o:c.kind=2):c.id=⟨#[114]⟩\/c.id=⟨#[115]⟩:=by
 have:=zKY h;unfold inOk at this;rw[P,w o,af]at this;exact this.2.imp zAc.1 zAc.1
theorem zPP (h:c∈ctsL)(o:c.kind=3):c.id=⟨#[99]⟩\/c.id=⟨#[100]⟩:=by
 have:=zKY h;unfold inOk at this;rw[P,S (by omega),w o,af]at this;exact this.2.imp zAc.1 zAc.1
theorem zPO (h:c∈ctsL)(o:c.kind=4):c.id=⟨#[118]⟩/\c.inner.length<=2:=by
 have:=zKY h;unfold inOk at this;rw[P,S (by omega),S (by omega),w o,P,g]at this;exact⟨zAc.1 this.2.1,this.2.2⟩
theorem zPN (h:c∈ctsL)(v:c.kind=5):c.inner.length<=2/\∀ x∈c.inner,InU x.txt/\NoTab x.txt:=by
 have:=zKY h;unfold inOk at this;rw[P,S (by omega),S (by omega),S (by omega),w v]at this;simp only[P,g]at this;refine⟨this.2.1.1,λx o=>⟨zGc h o,λd u=>?_⟩⟩;obtain⟨y,z,A,D⟩:=zNy (p:=λy=>decide (y.kind≠5)) (List.all_eq_true.1 this.2.2 x o);rw[A,zGb z]at u;cases u
 simpa using D
theorem zDQ (h:InU s):s.size<=256:=by
 rcases h with rfl|rfl|⟨c,o,rfl⟩
 .decide
 .decide
 .exact(zKq c o).2.1
theorem zMD (h:InU s):(cAtt s).all attrOk=true:=by
 unfold cAtt;rcases h with rfl|rfl|⟨c,o,rfl⟩
 .kernel_rfl
 .kernel_rfl
 .split
  .rfl
  .rw[List.all_cons,(zKq c o).2.2.1];rfl
theorem zBj: InU ⟨#[]⟩:=.inl rfl
theorem zGU: ∀ s∈zAH,InU s:=by
 have h:(zAH.all λs=>s.data.toList.isEmpty||eqB s zDw||ctsL.any λc=>eqB s c.txt)=true:=by kernel_rfl
 intro s u;have:=List.all_eq_true.1 h s u;simp only[af]at this;rcases this with(o|o)|o
 .left;refine W (Array.toList_inj.1 ?_);rw[List.isEmpty_iff]at o;rw[o]
 .right;left;exact zAc.1 o
 .obtain⟨c,v,y⟩:=List.any_eq_true.1 o;exact .inr (.inr ⟨c,v,zAc.1 y⟩)
structure DOk (d:Dev):Prop where
 kind:d.kind=2
 name:d.name=d.orig
 sub:d.sub=zS
 drv:d.drv=⟨#[]⟩
 ali:d.ali=⟨#[]⟩
 num:1<=d.num/\d.num<=2000000
def PlcOk (L:Q Dev)(d:Dev):Prop:=(d.parent=0/\d.orig∈rootN)\/∃ p∈L,p.index=d.parent/\p.parent=0/\p.orig∈rootN/\d.orig∈parN p.orig
structure UOk (L:Q Dev)(ct:E->C)(b:E):Prop where
 wf:TreeWf L
 dv:∀ d∈L,DOk d/\d.index<=b
 pl:∀ d∈L,PlcOk L d
 co:∀ d∈L,InU (ct d.index)/\(d.parent≠0->NoTab (ct d.index))
 nu:∀ d∈L,∀ e∈L,d.num=e.num->d=e
 so:L.Pairwise λx y=>pathO (plc L x.index) (plc L y.index)<0
theorem UOk.nil (ct:E->C)(b:E):UOk [] ct b:=⟨TreeWf.nil,by simp,by simp,by simp,by simp,.nil⟩
theorem PlcOk.all (h:PlcOk L d):d.orig∈allN:=by
 rcases h with⟨_,h⟩|⟨p,_,_,_,o,u⟩
 .exact zB2 h
 .exact zKL o u
theorem zHs (h:TreeOk L):plc L 0=⟨#[]⟩:=by unfold plc;rw[h.zero];rfl
theorem PlcOk.org (o:TreeOk L)(z:∀ p∈L,p.parent=0->origin L p.index=[p.orig])(h:PlcOk L d):origin L d.parent++[d.orig]=orgOf d.orig/\newO L d=pathOf (orgOf d.orig):=by
 rcases h with⟨u,v⟩|⟨p,y,u,v,A,D⟩
 .unfold orgOf newO;rw[zCU v,u,ar o.zero,zHs o];exact⟨rfl,rfl⟩
 .unfold orgOf newO plc;rw[zBS A D,<-u,o.lk y,z p y v];exact⟨rfl,rfl⟩
theorem zBt (o:TreeOk L):∀ p∈L,p.parent=0->origin L p.index=[p.orig]:=λp u h=>by
 rw[o.origin_cons (o.lk u),h,ar o.zero];rfl
theorem zCy (o:C):(orgOf o).getLast?=B o:=by
 unfold orgOf;cases parOf o<;>rfl
theorem zCV (z:o∈allN)(I:p∈allN)(h:pathOf (orgOf o)=pathOf (orgOf p)):o=p:=by
 have v:∀ o:C,o∈allN->∀ x∈orgOf o,OkN x:=λo z x u=>by
  have D:∀ y∈allN,OkN y:=λy J=>by
   obtain⟨F,_,_,A⟩:=zAM J;exact⟨(zAW F).1,A⟩
  unfold orgOf at u;cases e:parOf o with
  | none=>rw[e]at u;simp at u;subst u;exact D _ z
  | some n=>
   rw[e]at u;have N:n∈rootN:=List.mem_of_find?_eq_some e;simp at u;rcases u with rfl|rfl
   .exact D _ (zB2 N)
   .exact D _ z
 have F:=zCw (v o z) (v p I) (by rw[h]);have A:=congrArg List.getLast? F;rw[zCy,zCy]at A;exact Option.some.inj A
section
variable {L:Q Dev}{ct:E->C}{b:E}
theorem UOk.org (h:UOk L ct b)(o:d∈L):origin L d.index=orgOf d.orig:=by
 rw[h.wf.ok.origin_cons (h.wf.ok.lk o)];exact((h.pl d o).org h.wf.ok (zBt h.wf.ok)).1
theorem UOk.pth (h:UOk L ct b)(o:d∈L):plc L d.index=pathOf (orgOf d.orig):=by
 unfold plc;rw[h.wf.ok.lk o,h.org o];rfl
theorem UOk.inj (h:UOk L ct b){e:Dev}(o:d∈L)(u:e∈L)(v:d.orig=e.orig):d=e:=h.wf.uo d o e u (by rw[h.org o,h.org u,v])
theorem UOk.len (h:UOk L ct b):L.length<=44:=by
 have v:(L.map Dev.orig).Nodup:=by
  have:=h.wf.ok.nd;unfold List.Nodup at this ⊢;rw[aq]at this ⊢;exact this.imp_of_mem λy z o e=>o (by rw[h.inj y z e])
 have u:=zBV v (m:=allN) λx A=>by
  obtain⟨d,D,rfl⟩:=List.mem_map.1 A;exact(h.pl d D).all
 rw[List.length_map]at u;exact u
theorem UOk.mono (h:UOk L ct b)(u:b<=b'):UOk L ct b':=⟨h.wf,λd o=>⟨(h.dv d o).1,by have:=(h.dv d o).2;omega⟩,h.pl,h.co,h.nu,h.so⟩
theorem UOk.cont (h:UOk L ct b){o:E->C}(u:∀ d∈L,InU (o d.index)/\(d.parent≠0->NoTab (o d.index))):UOk L o b:=⟨h.wf,h.dv,h.pl,u,h.nu,h.so⟩
end
theorem zMy {x:Dev}(h:x.orig∈allN)(o:d.orig∈allN)(u:x.kind=2)(v:d.kind=2)(y:x.num≠d.num)(z:x.orig≠d.orig):clB x d=false:=by
 unfold clB;rw[(zAM h).2.2.1,(zAM o).2.2.1,zM2 h,zM2 o,u,v];have A:(x.num==d.num)=false:=by simpa using y
 have D:(x.orig.toList==d.orig.toList)=false:=by
  rw[au];intro e;rw[ByteArray.toList_eq,ByteArray.toList_eq]at e;exact z (W (Array.toList_inj.1 e))
 rw[A,D];rfl
theorem UOk.cl (h:UOk L ct b)(v:d∈L):L.any (clP d)=false:=by
 rw[a0];intro x y;unfold clP;by_cases e:x.index=d.index
 .simp[e]
 .have o:x≠d:=λu=>e (by rw[u])
  rw[zMy (h.pl x y).all (h.pl d v).all (h.dv x y).1.kind (h.dv d v).1.kind (λu=>o (h.nu x y d v u)) (λu=>o (h.inj y v u))];simp
theorem zHj {c:C}(h:DOk d)(y:d.orig∈allN)(u:1<=d.index/\d.index<=1073741824)(v:0<=d.parent/\d.parent<=1073741824)(o:d.parent≠d.index)(z:InU c):Sound d (cAtt c):=by
 obtain⟨A,D,_,_⟩:=zAM y;refine⟨?_,?_,?_,?_,zMD z,D⟩
 .unfold rngB;simp[u.1,u.2,v.1,v.2,o]
 .unfold namedB;rw[h.name,h.sub,h.ali,A];kernel_rfl
 .rw[h.name];simp
 .have:=h.num;simp;omega
theorem PlcOk.par (h:UOk L ct b)(y:b<=1000000)(u:PlcOk L d):0<=d.parent/\d.parent<=1000000:=by
 rcases u with⟨v,_⟩|⟨p,o,v,_⟩
 .omega
 .have z:=(h.dv p o).2;have A:=(h.wf.ok.ix p o).1;omega
theorem UOk.sound (h:UOk L ct b)(u:b<=1000000)(o:d∈L){c:C}(v:InU c):Sound d (cAtt c):=by
 have y:=(h.pl d o).par h u;exact zHj (h.dv d o).1 (h.pl d o).all (h.wf.ok.ix d o) ⟨y.1,by omega⟩ (h.wf.ok.pw.2 d o) v
theorem UOk.sub (h:UOk L ct b){z:Dev->T}(u:SubF L z):UOk (L.filter z) ct b:=by
 refine⟨u.wf h.wf,λd o=>h.dv d (List.mem_filter.1 o).1,λd o=>?_,λd o=>h.co d (List.mem_filter.1 o).1,λd o e I=>h.nu d (List.mem_filter.1 o).1 e (List.mem_filter.1 I).1,?_⟩
 .obtain⟨D,J⟩:=List.mem_filter.1 o;rcases h.pl d D with v|⟨p,F,v,N⟩
  .exact .inl v
  .exact .inr ⟨p,List.mem_filter.2 ⟨F,u.cl d D J p F v⟩,v,N⟩
 .refine(h.so.filter z).imp_of_mem fun {x y} O R A=>?_
  rw[u.plc (u.mem O),u.plc (u.mem R)];exact A
theorem zFb (u:TreeOk L)(o:TreeOk (insAt L k D))(h:look L D.index=K)(A:1<=D.index)(v:n≠D.index):look (insAt L k D) n=look L n/\origin (insAt L k D) n=origin L n/\plc (insAt L k D) n=plc L n:=by
 have y:look (insAt L k D) n=look L n:=by rw[zFW o.nd h,S v]
 have F:chain (insAt L k D) n=chain L n:=zCH o ((u.chn0 n).ins u o.nd h A v);have z:origin (insAt L k D) n=origin L n:=by unfold origin;rw[F]
 exact⟨y,z,by unfold plc;rw[y,z]⟩
theorem TreeOk.pne (u:TreeOk L)(o:look L n=K)(D:1<=n)(v:d∈L):d.parent≠n:=by
 obtain⟨k,y⟩:=ac v;rcases u.pa k d y with h|⟨j,e,_,z,h⟩
 .omega
 .intro A;exact zo.1 o e (aa z) (h.trans A)
theorem zNw (u:TreeOk L)(o:TreeOk (insAt L k D))(h:look L D.index=K)(v:1<=D.index)(y:d∈L):virB (insAt L k D) d.index=virB L d.index:=by
 have z:=(zFb u o h v (n:=d.index) (λe=>zo.1 h d y e)).1;have A:=(zFb u o h v (n:=d.parent) (u.pne h v y)).1;unfold virB partOf;rw[z,u.lk y];dsimp only;rw[A]
theorem zMP {t:C}(h:zk s=G)(o:zk t=G):(cmpP s t).1=pathO s t:=by
 unfold cmpP pathO;rw[h,o];rfl
theorem zEv {α:Type}{p:α->T}:∀ {l:Q α} {k:Nat},fidx p l=(k:E)->∀ x∈l.take k,p x=H
 | [],k,h,x,o=>by simp at o
 | y::t,0,h,x,o=>by simp at o
 | y::t,k+1,h,x,o=>by
  cases hp:p y with
  | true=>simp[fidx,hp]at h;omega
  | false=>
   have v:fidx p t=(k:E):=by
    rcases zAj p t with⟨u,_⟩|⟨j,z,u,_⟩
    .simp[fidx,hp,u]at h;omega
    .have:¬ ((j:E)<0):=by omega
     simp[fidx,hp,u,this]at h;rw[u];omega
   rw[List.take_succ_cons]at o;rcases List.mem_cons.1 o with e|o
   .rw[e];exact hp
   .exact zEv v x o
theorem zLp (h:UOk L ct b)(o:d∈L):zk (plc L d.index)=true:=by
 rw[h.pth o];have:=zNf (h.pl d o).all;unfold plOk at this;rw[P]at this;exact this.1
theorem UOk.at (h:UOk L ct b)(N:PlcOk L D)(R:∀ e∈L,e.orig≠D.orig):
  (∀ x∈L.take (insK L D),pathO (plc L x.index) (newO L D)<0)/\(∀ x∈L.drop (insK L D),pathO (newO L D) (plc L x.index)<0)/\(D.parent=0\/∃ (j:Nat) (e:Dev),j<insK L D/\L[j]?=B e/\e.index=D.parent):=by
 have U:=(N.org h.wf.ok (zBt h.wf.ok)).2;have hg:zk (newO L D)=true:=by
  rw[U];have:=zNf N.all;unfold plOk at this;rw[P]at this;exact this.1
 have V:∀ x∈L,plc L x.index≠newO L D:=λx o e=>by
  rw[h.pth o,U]at e;exact R x o (zCV (h.pl x o).all N.all e)
 have y:∀ x∈L,zAB L (newO L D) x=decide (0<=pathO (plc L x.index) (newO L D)):=λx o=>by
  unfold zAB;rw[zMP (zLp h o) hg]
 have hA:∀ x∈L.take (insK L D),pathO (plc L x.index) (newO L D)<0:=by
  intro x o;have A:=ap o;have Z:zAB L (newO L D) x=false:=by
   rcases zCc L D with⟨u,v⟩|⟨u,v⟩
   .rcases zAj (zAB L (newO L D)) L with⟨_,_,g3⟩|⟨j,z,g1,_⟩
    .rw[a0]at g3
     simpa using g3 x A
    .omega
   .exact zEv u x o
  rw[y x A]at Z;simp at Z;omega
 have hB:∀ x∈L.drop (insK L D),pathO (newO L D) (plc L x.index)<0:=by
  rcases zCc L D with⟨u,v⟩|⟨u,v⟩
  .rw[v];simp
  .have hk:=ah v;have h0:pathO (newO L D) (plc L L[insK L D].index)<0:=by
    rcases zAj (zAB L (newO L D)) L with⟨g1,_⟩|⟨j,z,g1,g2,_,g4,_⟩
    .omega
    .obtain rfl:j=insK L D:=by omega
     have e:=Option.some.inj (hk.symm.trans g2);rw[e];have hz:=aa g2;rw[y z hz,g]at g4;have O:=zDM.turn (plc L z.index) (newO L D);have X:pathO (plc L z.index) (newO L D)≠0:=λe=>V z hz (zDM.zero _ _ e)
     omega
   intro x o;rw[ag v]at o;rcases List.mem_cons.1 o with rfl|o
   .exact h0
   .have hs:=h.so.sublist (List.drop_sublist (insK L D) L);rw[ag v]at hs;exact zDM.trans _ _ _ h0 ((List.pairwise_cons.1 hs).1 x o)
 refine⟨hA,hB,?_⟩;rcases N with⟨u,_⟩|⟨p,F,u,v,O,X⟩
 .exact .inl u
 .right;have a2:pathO (plc L p.index) (newO L D)<0:=by
   rw[h.pth F,U];unfold orgOf;rw[zCU O,zBS O X];exact zJ4 O X
  have I:p∈L.take (insK L D):=by
   have:p∈L.take (insK L D)++L.drop (insK L D):=by rw[ae];exact F
   rcases List.mem_append.1 this with I|I
   .exact I
   .have h5:=hB p I;have h6:=zDM.turn (plc L p.index) (newO L D);omega
  obtain⟨j,Y⟩:=ac I;have J:j<insK L D:=by have:=(List.getElem?_eq_some_iff.1 Y).1;rw[ao]at this;omega
  rw[an J]at Y;exact⟨j,p,J,Y,u⟩
theorem zKf (v:(sameO L D||L.any (clP D))=H)(y:look L D.index=K)(z:∀ e∈L,e.kind=2)(A:D.kind=2):∀ e∈L,e.orig≠D.orig/\e.num≠D.num:=by
 rw[ak,a0]at v;intro e o;have h:=v.2 e o;have F:(e.index != D.index)=true:=by simpa using zo.1 y e o
 unfold clP clB at h;rw[F,z e o,A]at h;refine⟨λu=>?_,λu=>?_⟩
 .rw[u]at h;simp[numK]at h
 .rw[u]at h;simp[numK]at h
theorem UOk.free (h:UOk L ct b)(z:DOk D)(u:PlcOk L D)(v:∀ e∈L,e.orig≠D.orig)(A:∀ e∈L,e.num≠D.num):(sameO L D||L.any (clP D))=false:=by
 rw[ak];constructor
 .unfold sameO;cases e:L[insK L D]? with
  | none=>rfl
  | some x=>
   have o:=aa e;show ((plc L x.index).toList==(newO L D).toList)=H
   rw[au,ByteArray.toList_eq,ByteArray.toList_eq];intro F;have y:plc L x.index=newO L D:=W (Array.toList_inj.1 F);rw[h.pth o,(u.org h.wf.ok (zBt h.wf.ok)).2]at y;exact v x o (zCV (h.pl x o).all u.all y)
 .rw[a0];intro x o;unfold clP;rw[zMy (h.pl x o).all u.all (h.dv x o).1.kind z.kind (A x o) (v x o)];simp
theorem UOk.pre (h:UOk L ct b)(J:b<=1000000){c:C}(y:DOk D)(z:PlcOk L D)(N:1<=D.index/\D.index<=1000001)(o:look L D.index=K)(O:InU c):InsPre L D (cAtt c)/\Sized D:=by
 have A:=z.par h J;have F:=z.all;have I:=zAM F;have R:=(zAW I.1).1;refine⟨⟨zHj y F ⟨N.1,by omega⟩ ⟨A.1,by omega⟩ ?_ O,o,?_,by have:=h.len;omega,?_⟩,?_⟩
 .rcases z with⟨v,_⟩|⟨p,u,v,_⟩
  .omega
  .rw[<-v];exact zo.1 o p u
 .rcases z with⟨v,_⟩|⟨p,u,v,_⟩
  .rw[v];rfl
  .rw[<-v,h.wf.ok.lk u];simp
 .rw[(z.org h.wf.ok (zBt h.wf.ok)).2];have:=zNf F;unfold plOk at this;rw[P,g]at this;exact this.2
 .refine⟨?_,?_,?_,?_,?_⟩
  .rw[y.name];unfold ab;omega
  .unfold ab;omega
  .rw[y.sub];unfold ab;decide
  .rw[y.drv];unfold ab;decide
  .rw[y.ali];unfold ab;decide
theorem UOk.ins (h:UOk L ct b)(hb:b<=b'/\b'<=1000001){c:C}(hD:DOk D)(hp:PlcOk L D)(hi:1<=D.index/\D.index<=b')(v:look L D.index=K)(hc:InU c)(b3:D.parent≠0->NoTab c)(hf:(sameO L D||L.any (clP D))=H):
  UOk (insAt L (insK L D) (strip D)) (updC ct D.index c) b'/\(∀ d∈L,plc (insAt L (insK L D) (strip D)) d.index=plc L d.index/\plc (insAt L (insK L D) (strip D)) d.parent=plc L d.parent/\virB (insAt L (insK L D) (strip D)) d.index=virB L d.index)/\
   plc (insAt L (insK L D) (strip D)) D.index=newO L D/\plc (insAt L (insK L D) (strip D)) D.parent=plc L D.parent:=by
 have hT:=h.wf.ok;have A:=zKf hf v (λe N=>(h.dv e N).1.kind) hD.kind;obtain⟨hA,hB,a5⟩:=h.at hp λe N=>(A e N).1
 have hk:insK L D<=L.length:=by rcases zCc L D with⟨_,h2⟩|⟨_,h2⟩<;>omega
 have a6:=zAM hp.all;have a7:D.parent≠D.index:=by
  rcases hp with⟨I,_⟩|⟨p,O,I,_⟩
  .omega
  .rw[<-I];exact zo.1 v p O
 have X:=(hp.org hT (zBt hT))
 have a8:=h.wf.insert (k:=insK L D) (d:=strip D) hk v ⟨hi.1,by show D.index<=_;omega⟩ ⟨(zAW a6.1).1,a6.2.2.2⟩ a7 a5 (λe N ho=>by
  have a9:origin L e.index=origin L D.parent++[D.orig]:=ho;rw[h.org N,X.1]at a9;exact(A e N).1 (zCV (h.pl e N).all hp.all (by rw[a9]))) (by
  show (origin L D.parent).length<7
  have I:=congrArg List.length X.1;rw[List.length_append]at I;have h2:(orgOf D.orig).length<=2:=by unfold orgOf;cases parOf D.orig<;>simp
  simp at I;omega)
 obtain⟨hW,b4,Z⟩:=a8;obtain⟨F,hK⟩:∃ F,F=insAt L (insK L D) (strip D):=⟨_,rfl⟩
 have J:∀ n,n≠D.index->look F n=look L n/\origin F n=origin L n/\plc F n=plc L n:=λn hn=>by
  rw[hK];exact zFb hT hW.ok v hi.1 hn
 have b0:∀ d∈L,d.index≠D.index:=zo.1 v;have b5:∀ d∈L,d.parent≠D.index:=λd o=>hT.pne v hi.1 o
 have u:∀ d∈L,plc F d.index=plc L d.index/\plc F d.parent=plc L d.parent/\virB F d.index=virB L d.index:=λd o=>
  ⟨(J _ (b0 d o)).2.2,(J _ (b5 d o)).2.2,by rw[hK];exact zNw hT hW.ok v hi.1 o⟩
 have b6:strip D∈F:=by rw[hK];exact zX.2 (.inl rfl)
 have b1:∀ d∈L,d∈F:=λd o=>by rw[hK];exact zX.2 (.inr o)
 rw[<-hK]at hW b4 Z ⊢;have b2:plc F D.index=newO L D:=by
  have I:look F D.index=B (strip D):=hW.ok.lk b6;have h2:origin F D.index=origin L D.parent++[D.orig]:=by
   have h3:chain F D.index=strip D::chain L D.parent:=Z;unfold origin;rw[h3,List.map_cons,List.reverse_cons];rfl
  unfold plc;rw[I,h2,X.1,X.2];rfl
 have z:∀ {d:Dev},d∈F->d=strip D\/d∈L:=fun {d} o=>by rw[hK]at o;exact zX.1 o
 refine⟨⟨hW,λd o=>?_,λd o=>?_,λd o=>?_,λd o e N R=>?_,?_⟩,u,b2,(J _ a7).2.2⟩
 .rcases z o with rfl|o
  .exact⟨⟨hD.kind,hD.name,hD.sub,hD.drv,hD.ali,hD.num⟩,hi.2⟩
  .exact⟨(h.dv d o).1,by have:=(h.dv d o).2;omega⟩
 .rcases z o with rfl|o
  .rcases hp with I|⟨p,O,I⟩
   .exact .inl I
   .exact .inr ⟨p,b1 p O,I⟩
  .rcases h.pl d o with I|⟨p,O,I⟩
   .exact .inl I
   .exact .inr ⟨p,b1 p O,I⟩
 .rcases z o with rfl|o
  .show InU (updC ct D.index c D.index)/\(D.parent≠0->NoTab (updC ct D.index c D.index))
   unfold updC;rw[w rfl];exact⟨hc,b3⟩
  .unfold updC;rw[S (b0 d o)];exact h.co d o
 .rcases z o with rfl|o
  .rcases z N with rfl|N
   .rfl
   .exact M R.symm (A e N).2
  .rcases z N with rfl|N
   .exact M R (A d o).2
   .exact h.nu d o e N R
 .have hP:(insAt L (insK L D) (strip D)).Pairwise λx y=>pathO (plc F x.index) (plc F y.index)<0:=by
   unfold insAt;have hs:=h.so;rw[<-ae (insK L D) L]at hs;obtain⟨s1,s2,s3⟩:=List.pairwise_append.1 hs;have a3:∀ x∈L.take (insK L D),x∈L:=λx U=>ap U
   have Y:∀ x∈L.drop (insK L D),x∈L:=λx U=>List.mem_of_mem_drop U
   rw[ae]at s1 s2 s3;have a2:plc F (strip D).index=newO L D:=b2;rw[List.pairwise_append,List.pairwise_cons];refine⟨s1.imp_of_mem fun {x y} U V a4=>?_,⟨λy V=>?_,s2.imp_of_mem fun {x y} U V a4=>?_⟩,λx U y V=>?_⟩
   .rw[(u x (a3 x U)).1,(u y (a3 y V)).1];exact a4
   .rw[a2,(u y (Y y V)).1];exact hB y V
   .rw[(u x (Y x U)).1,(u y (Y y V)).1];exact a4
   .rw[(u x (a3 x U)).1];rcases List.mem_cons.1 V with rfl|V
    .rw[a2];exact hA x U
    .rw[(u y (Y y V)).1];exact s3 x U y V
  rw[hK];rw[hK]at hP;exact hP
theorem UOk.renK (h:UOk L ct b){f:E->E}{J:Q Dev}{I:E->C}{ix:E}(u:SimK f L ct J I ix)(v:ix<=1000000):UOk J I ix:=by
 have o:∀ {d:Dev},d∈J->∃ x∈L,d=ren f x:=fun {d} A=>by
  rw[u.eq]at A;obtain⟨x,v,rfl⟩:=List.mem_map.1 A;exact⟨x,v,rfl⟩
 have N:∀ {n:E},f n=0↔n=0:=fun {n}=>⟨λe=>u.ren.inj _ _ (by rw[e,u.ren.z]),λe=>by rw[e,u.ren.z]⟩
 refine⟨by rw[u.eq];exact h.wf.ren u.ren (λd A=>by have:=u.lo d A;omega),λd A=>?_,λd A=>?_,λd A=>?_,λd A e U F=>?_,?_⟩
 .obtain⟨x,v,rfl⟩:=o A;have D:=(h.dv x v).1;exact⟨⟨D.kind,D.name,D.sub,D.drv,D.ali,D.num⟩,(u.lo x v).2⟩
 .obtain⟨x,v,rfl⟩:=o A;rcases h.pl x v with⟨D,O⟩|⟨p,V,D,O,X⟩
  .exact .inl ⟨N.2 D,O⟩
  .exact .inr ⟨ren f p,by rw[u.eq];exact ai V,congrArg f D,N.2 O,X⟩
 .obtain⟨x,v,rfl⟩:=o A;show InU (I (f x.index))/\(f x.parent≠0->NoTab (I (f x.index)))
  rw[u.ct x v];exact⟨(h.co x v).1,λe=>(h.co x v).2 λY=>e (N.2 Y)⟩
 .obtain⟨x,v,rfl⟩:=o A;obtain⟨y,Z,rfl⟩:=o U;rw[h.nu x v y Z F]
 .rw[u.eq,aq];refine h.so.imp fun {x y} R=>?_
  show pathO (plc (L.map (ren f)) (f x.index)) (plc (L.map (ren f)) (f y.index))<0
  rw[zCG u.ren,zCG u.ren];exact R
end Go.Proofs.YtckkocmhlhefpaaGreatDoor
