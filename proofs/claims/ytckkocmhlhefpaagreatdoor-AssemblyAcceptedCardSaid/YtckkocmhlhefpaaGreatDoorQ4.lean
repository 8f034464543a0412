import Derived.Maps.StringElems
import Derived.Test.YtckkocmhlhefpaaGreatDoorQ3
import Derived.Laws.AppendOwnNone
namespace Go.Proofs.YtckkocmhlhefpaaGreatDoor
open Go.RowKit Go.Maps
set_option linter.unusedVariables false
set_option maxRecDepth 100000
set_option maxHeartbeats 2000000
open Dev renaming index->br
open Fr renaming refl->ag,of_grown_some->bd
open Go renaming World->p,Value->af,Addr->ah,Oper->aj,Calls->al,maxLen->ao,TypeId->au,wpList->av,plainElem->bc,Operand->bn,bodyPost_ret->bo,results->bq,plainElem_string->bu,plainElem_string_inv->cl,wpList_mapUpdate_own->cm
open Go.Lib renaming joinTail->am,join->be,join_cons->bv
open Go.Lit renaming int->aw
open Go.Maps renaming keyOf_int_mk->bp,atKey_put_other->ck
open Go.Op renaming lookup->bs
open Go.Proofs.Tryz renaming prog->a1,underlying3->ay,underlying9->bf,results198->ci
open Go.Value renaming string->az
open Go.WalkArith renaming wf_i64->bt
open Go.World renaming cell?->ba,ownsMap_made->cj
open IntKind renaming i64->q
open Obj renaming cells->K
open Value renaming agg->ak,pointer->bg
open _root_ renaming Nat->G,Int->L,List->a0,Option->ab,ByteArray->ae,Array->ax
open _root_.Bool renaming false->M,true->ai
open _root_.List renaming mem_of_getElem?->ap,toArray->aq,getElem?_eq_getElem->bh,getElem_map->bi,take_add_one->bj,take_of_length_le->bm,eq_nil_of_length_eq_zero->bx,flatten_cons->bz,foldl_append->ca,getElem_mem->cb,length_append->cc,length_cons->cd,length_nil->ce,map_cons->cf,take_sublist->cg
open _root_.List.Sublist renaming map->bw
open _root_.Nat renaming le_refl->ar
open _root_.Option renaming none->C,some->E,getD_some->ch
variable{w w' W:p}{o N n b k:G}{g:L->ab ae}{S:G->Prop}{t:a0 af}{u v D z y A F I J:af}{h:a0 aj}{a:ab ah}{Q:Exit->Act->p->Prop}{l:a0 ae}{T:au}{d:Dev}{ds:a0 Dev}{cs:ax af}
def SMap (w:p)(mb:G)(g:L->ab ae)(N:G):Prop:=
 ∃ (D:DataW Unit) (n:G),n<=N/\w.ownsMap a1 3 (bc a1 9) mb n D/\(∀ x,has D (.int q x)=(g x).isSome)/\∀ x,D.atKey (.int q x) (.lit (.string []))=.lit (.string ((g x).getD ⟨#[]⟩).data.toList)
def IMap (w:p)(mb:G)(g:L->ab L)(N:G):Prop:=
 ∃ (D:DataW Unit) (n:G),n<=N/\w.ownsMap a1 3 (bc a1 3) mb n D/\(∀ x,has D (.int q x)=(g x).isSome)/\∀ x,D.atKey (.int q x) (.lit (.int q 0))=.lit (.int q ((g x).getD 0))
theorem SMap.lt (h:SMap w o g N):o<(w:G):=by obtain⟨D,n,_,u,_⟩:=h;exact u.lt
theorem IMap.lt {g:L->ab L}(h:IMap w o g N):o<(w:G):=by obtain⟨D,n,_,u,_⟩:=h;exact u.lt
theorem SMap.fr (h:SMap w o g N)(u:Fr S w w')(v:¬ S o):SMap w' o g N:=by
 obtain⟨D,n,y,z,r⟩:=h;exact⟨D,n,y,u.ownsMap z v,r⟩
theorem IMap.fr {g:L->ab L}(h:IMap w o g N)(u:Fr S w w')(v:¬ S o):IMap w' o g N:=by
 obtain⟨D,n,y,z,r⟩:=h;exact⟨D,n,y,u.ownsMap z v,r⟩
theorem SMap.made (w:p):SMap (w.alloc (.map #[] 0)) (w:G) (λ_=>C) 0:=⟨.map [],0,ar _,cj _ _ _ _,λ_=>rfl,λ_=>rfl⟩
theorem IMap.made (w:p):IMap (w.alloc (.map #[] 0)) (w:G) (λ_=>C) 0:=⟨.map [],0,ar _,cj _ _ _ _,λ_=>rfl,λ_=>rfl⟩
theorem zeroS (w:p):(zeroValue 9).run a1 w=.ok (.string ⟨#[]⟩) w:=by kernel_rfl
theorem zeroI (w:p):(zeroValue 3).run a1 w=.ok (.int q 0) w:=by kernel_rfl
theorem zDR {s t:ae}(h:s.data.toList=t.data.toList):s=t:=by
 cases s;cases t;simp only at h
 congr 1
 exact Array.toList_inj.1 h
theorem zGo {w:p}{u:ax aj}{h:a0 aj}{o:aj}{a:Act}{Q:Exit->Act->p->Prop}(O:o.guard=C)(m x:bn)(t:au)(A:o.op=bs t m x M)(R:Tryz.prog.underlying t=E (.map 3 9))
  (I:G) (g:L->ab ae) (N:G) (k:L) (U:(aw q k).wf=ai) (V:a.eval m=.map (E I)) (y:SMap w I g N) (X:a.eval x=.int q k)
  (Y:av a1 u Q h (a.put o.dst (.string ((g k).getD ⟨#[]⟩))) w):av a1 u Q (o::h) a w:=by
 obtain⟨D,n,_,Z,_,h2⟩:=y;refine wpList_plain O λK' F=>?_
 obtain⟨v,ps,z,hv⟩:=Z.lookup lawI R (zeroS w) (bu bf (by unfold ao;show 0<=_;omega)) (bp ay U);obtain⟨s,rfl,J,_⟩:=cl bf hv;simp only[Prod.mk.injEq]at J;have e:=(h2 k).symm.trans J.1;obtain rfl:s=(g k).getD ⟨#[]⟩:=zDR (by simpa using e.symm);unfold Oper.wp;simp[execOp,A,V,X,z,Result.andThen];exact F _ _ Y
theorem zEY {w:p}{u:ax aj}{h:a0 aj}{o:aj}{a:Act}{Q:Exit->Act->p->Prop}(I:o.guard=C)(m x:bn)(t:au)(z:o.op=bs t m x ai)(J:Tryz.prog.underlying t=E (.map 3 9))
  (A:G) (g:L->ab ae) (N:G) (k:L) (O:(aw q k).wf=ai) (R:a.eval m=.map (E A)) (y:SMap w A g N) (U:a.eval x=.int q k)
  (V:av a1 u Q h (a.put o.dst (.tuple #[.string ((g k).getD ⟨#[]⟩),.bool (g k).isSome])) w):av a1 u Q (o::h) a w:=by
 obtain⟨D,n,_,X,Y,Z⟩:=y;refine wpList_lookup_own_ok w I m x t z 3 9 lawI J _ (zeroS w) (.lit (.string [])) [] (bu bf (by unfold ao;show 0<=_;omega)) A n D R X _ _ U (bp ay O) (λv ps hv=>?_);obtain⟨s,rfl,F,_⟩:=cl bf hv;simp only[Prod.mk.injEq]at F;have e:=(Z k).symm.trans F.1;obtain rfl:s=(g k).getD ⟨#[]⟩:=zDR (by simpa using e.symm);rw[Y];exact V
theorem zEa {w:p}{u:ax aj}{h:a0 aj}{o:aj}{a:Act}{Q:Exit->Act->p->Prop}(A:o.guard=C)(m x:bn)(t:au)(y:o.op=bs t m x ai)(F:Tryz.prog.underlying t=E (.map 3 3))
  (z:G) (g:L->ab L) (N:G) (k:L) (I:(aw q k).wf=ai) (J:a.eval m=.map (E z)) (v:IMap w z g N) (O:a.eval x=.int q k)
  (R:av a1 u Q h (a.put o.dst (.tuple #[.int q ((g k).getD 0),.bool (g k).isSome])) w):av a1 u Q (o::h) a w:=by
 obtain⟨D,n,_,U,V,X⟩:=v;refine wpList_lookup_own_ok_int w A m x t y 3 3 q lawI F ay (zeroI w) z n D J U _ _ O (bp ay I) (λc Y _=>?_);have e:=(X k).symm.trans Y;obtain rfl:c=(g k).getD 0:=by simpa using e.symm
 rw[V];exact R
def updO {α:Type}(g:L->ab α)(x:L)(v:α):L->ab α:=λy=>if y=x then E v else g y
theorem SMap.put {v:p}{h:G}{D:DataW Unit}(I:n<=N)(z:w.ownsMap a1 3 (bc a1 9) h n D)(A:∀ x,has D (.int q x)=(g x).isSome)(F:∀ x,D.atKey (.int q x) (.lit (.string []))=.lit (.string ((g x).getD ⟨#[]⟩).data.toList))
  (x:L) (s:ae) (o:v.ownsMap a1 3 (bc a1 9) h (n+1) (D.put (.int q x) (.lit (.string s.data.toList)))):SMap v h (updO g x s) (N+1):=by
 refine⟨_,n+1,by omega,o,λy=>?_,λy=>?_⟩
 .unfold updO;split
  .rename_i e;subst e;rw[has_put_same z.isMap (zCb _) _];rfl
  .rename_i e;rw[has_put_other (by intro u;exact e (by simpa using u))];exact A y
 .unfold updO;split
  .rename_i e;subst e;rw[atKey_put_same z.isMap (zCb _) _ _];rfl
  .rename_i e;rw[ck (by intro u;exact e (by simpa using u))];exact F y
theorem IMap.put {z:p}{h:G}{D:DataW Unit}{g:L->ab L}(J:n<=N)(A:w.ownsMap a1 3 (bc a1 3) h n D)(F:∀ x,has D (.int q x)=(g x).isSome)(I:∀ x,D.atKey (.int q x) (.lit (.int q 0))=.lit (.int q ((g x).getD 0)))
  (x v:L) (o:z.ownsMap a1 3 (bc a1 3) h (n+1) (D.put (.int q x) (.lit (.int q v)))):IMap z h (updO g x v) (N+1):=by
 refine⟨_,n+1,by omega,o,λy=>?_,λy=>?_⟩
 .unfold updO;split
  .rename_i e;subst e;rw[has_put_same A.isMap (zCb _) _];rfl
  .rename_i e;rw[has_put_other (by intro u;exact e (by simpa using u))];exact F y
 .unfold updO;split
  .rename_i e;subst e;rw[atKey_put_same A.isMap (zCb _) _ _];rfl
  .rename_i e;rw[ck (by intro u;exact e (by simpa using u))];exact I y

theorem zx {P:Program}{w:p}{X:ax aj}{O:a0 aj}{o:aj}{a:Act}{Q:Exit->Act->p->Prop}(Y:o.guard=C)(s x:bn)(t:au)
  (ho:o.op=.call { callee:=.builtin .append,args:=#[s,x],argTypes:=#[t,t] })
  (F:G) (e:au) (i:TypeInfo) (z:af) (y I:G) (ht:P.underlying t=E (.slice e)) (hi:P.info? e=E i) (hz:i.zero=E z)
  (R:i.size=y) (a2:i.bytes=I) (a3:z.cells.size=y) (a4:0<y)
  (v:af) (n:G) (xs:a0 af) (hs:a.eval s=v) (J:w.ownsRow F e y v n xs)
  (A:ab ah) (m c:G) (D:a0 af) (hx:a.eval x=.slice A m c) (hA:A=C->m=0/\c=0) (hl:D.length=m*y)
  (U:∀ Z,A=E Z->∀ j u,D[j]?=E u->w.cell? (Z.add j)=E u) (h1:∀ u∈D,u.oneCell'=ai)
  (a5:n+m<=ao) (N:(n+m)*I<=140737488355328) (V:F<=(w:G))
  (h:∀ v' w',w'.ownsRow F e y v' (n+m) (xs++D)->w.grownBy w' v.ownBlock->av P X Q O (a.put o.dst v') w'):av P X Q (o::O) a w:=by
 cases A with
 | none=>
  obtain⟨rfl,rfl⟩:=hA rfl;have hn:D=[]:=bx (by simpa using hl);subst hn;exact wpList_append_own_none Y s x t ho F e i y ht hi v n xs hs J hx (h v w (by simpa using J) (World.grownBy.refl w _))
 | some Z=>
  exact wpList_append_own w Y s x t ho F e i z y I ht hi hz R a2 a3 a4 v n xs hs J Z m c D hx hl (U Z rfl) h1 a5 N V (λv' w' h2 h3 _=>h v' w' h2 h3)
theorem zEl {y:p}{e:au}{u:G}{z:a0 af}(h:W.ownsRow o e u v n z)(A:W.grownBy y v.ownBlock):Fr (From o) W y:=
 (Fr.of_grown A).mono (λb _ e=>zP h e)
section
variable {w W W':p}{a:ab ah}{n cap:G}{d:Dev}
end
def OneOf (l:a0 ae)(e:Ending):Prop:=∃ s,e=.returned (.string s)/\s∈l
theorem zLT (y tb k:G)(a:ab ah)(o:G)(l:a0 ae)(w:p)(N:Tape w y tb k)(O:k<=1000000000000)(R:Strs w a o l)(U:1<=l.length)(h2:l.length<=4294967296)(z:∀ v,a=E v->v.block≠tb):
  al a1 29 #[bg (E ⟨tb,0,C⟩),.slice a l.length o] w λe w'=>OneOf l e/\Tape w' y tb (k+1)/\Fr (Is tb) w w':=by
 have V:((l.length:L)==0)=false:=by simp;intro h;subst h;simp at U
 go_enter Tryz.func29,Tryz.ntmps29
 go_wp2_with fail
 refine(zAg y tb k l.length _ N O (by omega) (by omega)).mono ?_;rintro e w1 ⟨r,rfl,A,X,D,u⟩;obtain⟨r,rfl⟩:=Int.eq_ofNat_of_zero_le A;have F:r<l.length:=by omega
 have I:=R.fr u (λv e _ h=>z v e h);obtain⟨b,Y,x,rfl,J,hc⟩:=I.at F;have Z:=zh J;clear J
 go_wp2_with fail
 go_ret;exact⟨⟨x,rfl,ap Z.out⟩,D,u⟩
def zAH : a0 ae:=[
 ⟨#[]⟩,
 ⟨#[102,115,58,102,58]⟩,
 ⟨#[102,115,58,103,58,76]⟩,
 ⟨#[114,97,105,100,58,114,58,49,47,50,47,49,40,102,115,58,102,58,41]⟩,
 ⟨#[114,97,105,100,58,114,58,50,47,50,47,49,40,102,115,58,102,58,41]⟩,
 ⟨#[99,114,121,112,116,58,99,40,102,115,58,103,58,41]⟩,
 ⟨#[112,118,58,118,58,49,47,49,40,102,115,58,102,58,44,99,114,121,112,116,58,99,40,102,115,58,104,58,41,41]⟩,
 ⟨#[116,97,98,108,101,58,116,40,102,115,58,102,58,44,99,114,121,112,116,58,99,40,114,97,105,100,58,114,58,49,47,50,47,49,40,102,115,58,120,58,41,41,41]⟩,
 ⟨#[116,97,98,108,101,58,116,40,114,97,105,100,58,114,58,49,47,50,47,49,40,116,97,98,108,101,58,117,40,102,115,58,102,58,41,41,44,114,97,105,100,58,114,58,50,47,50,47,49,40,116,97,98,108,101,58,117,40,102,115,58,102,58,41,41,41]⟩,
 ⟨#[114,97,105,100,58,114,58,49,47,49,47,49,40,114,97,105,100,58,114,58,49,47,49,47,49,40,102,115,58,102,58,41,41]⟩,
 ⟨#[112,118,58,118,58,49,47,50,40,102,115,58,102,58,41]⟩,
 ⟨#[112,118,58,118,58,50,47,50,40,102,115,58,102,58,41]⟩,
 ⟨#[99,114,121,112,116,58,100,40,112,118,58,118,58,49,47,49,40,114,97,105,100,58,115,58,49,47,51,47,50,40,102,115,58,121,58,41,41,41]⟩,
 ⟨#[114,97,105,100,58,115,58,50,47,51,47,50,40,102,115,58,121,58,41]⟩,
 ⟨#[114,97,105,100,58,115,58,51,47,51,47,50,40,102,115,58,121,58,41]⟩,
 ⟨#[110,111,110,115,101,110,115,101]⟩]
theorem zBl: zAH.length=16:=rfl
theorem Strs.of_block {o:G×G}(h:w.heap[b]?=E (K (l.map az).toArray T o))(u:l.length<=ao):Strs w (E ⟨b,0,C⟩) l.length l:=by
 refine⟨ar _,u,(λe=>by cases e),λz e v=>?_⟩;cases e;refine⟨rfl,zC h,λi x y=>?_⟩;rw[zB h];simp[y]
theorem zFV (w:p):
  al a1 18 #[] w λe w'=>e=.returned (.slice (E ⟨w,0,C⟩) 16 16)/\Strs w' (E ⟨w,0,C⟩) 16 zAH/\Fr No w w':=by
 have o:=zF w (K (zAH.map az).toArray 9);have h:=Strs.of_block o (by rw[zBl];unfold ao;omega);rw[zBl]at h;have u:Fr No w (w.alloc (K (zAH.map az).toArray 9)):=(ag _ _).alloc _;have H:=zg2 h u;clear o h u
 go_enter Tryz.func18,Tryz.ntmps18
 go_wp2_with fail
 go_ret;exact⟨rfl,H.out⟩
section
variable {w W W':p}{B tb:G}{a:ab ah}{n cap Bd:G}{i:L}{k:G}{d:Dev}{l:a0 (ae×ae)}
end
abbrev TB (tb B0:G):G->Prop:=λx=>x=tb\/B0<=x
theorem Fr.swap {T:G->Prop}(w:p)(o v:Obj)(h:T (w:G)):Fr T (w.alloc o) (w.alloc v):=by
 have y:Fr No w (w.alloc o):=(ag _ _).alloc _;have z:Fr No w (w.alloc v):=(ag _ _).alloc _;refine⟨rfl,rfl,rfl,by simp,λk A D=>?_⟩;have u:k<(w:G):=by
  rw[World.size_alloc]at A;by_cases e:k=(w:G)
  .subst e;exact absurd h D
  .omega
 exact(z.block k u id).trans (y.block k u id).symm
theorem zNj (h tb k n:G)(l:a0 ae)(W:p)(v:Tape W h tb k)(A:k<=1000000000000)(y:ax af)(D:y=(l.map az).toArray)(F:n=l.length)(o:1<=l.length)(u:l.length<=4294967296):
  al a1 29 #[bg (E ⟨tb,0,C⟩),.slice (E ⟨W,0,C⟩) n n] (W.alloc (K y 9)) λe w'=>OneOf l e/\Tape w' h tb (k+1)/\Fr (Is tb) W w':=by
 subst D F;have z:Fr No W (W.alloc (K (l.map az).toArray 9)):=(ag _ _).alloc _;have I:=Strs.of_block (zF W (K (l.map az).toArray 9)) (by unfold ao;omega);have J:=v.lt;exact(zLT h tb k _ _ l _ (v.fr z (λ_ _=>id) id) A I o u (λO e=>by cases e;simp;omega)).mono λe w' ⟨o,u,N⟩=>⟨o,u,(z.mono (T:=Is tb) zn).step N zi⟩
theorem OneOf.short {e:Ending}(h:OneOf l e)(o:(l.all λs=>decide (s.size<=N))=ai):∃ s,e=.returned (.string s)/\s.size<=N:=by
 obtain⟨s,u,v⟩:=h;exact⟨s,u,by simpa using List.all_eq_true.1 o s v⟩
structure ElOk (W:p)(base:G)(d:Dev):Prop where
 sz:Sized d
 drv:d.drv=⟨#[]⟩
 att:∃ l,Atts W d.aa d.ac l/\d.an=l.length/\l.length<=24
 fresh:∀ ad,d.aa=E ad->base<=ad.block
structure Tr (W:p)(base:G)(a:ab ah)(cap:G)(ds:a0 Dev):Prop where
 dv:Devs W a cap ds
 wf:TreeWf ds
 fresh:∀ ad,a=E ad->base<=ad.block
 el:∀ d∈ds,ElOk W base d
theorem ElOk.fr {u:p}(h:ElOk W o d)(v:Fr S W u)(y:∀ b,o<=b->¬ S b):ElOk u o d:=by
 obtain⟨l,z,A⟩:=h.att;exact⟨h.sz,h.drv,⟨l,z.fr v (λD e _=>y _ (h.fresh D e)),A⟩,h.fresh⟩
theorem Tr.fr {v:p}{u:G}(h:Tr W o a u ds)(y:Fr S W v)(z:∀ b,o<=b->¬ S b):Tr v o a u ds:=
 ⟨h.dv.fr y (λA e _=>z _ (h.fresh A e)),h.wf,h.fresh,λd D=>(h.el d D).fr y z⟩
theorem Tr.no {v:p}{u:G}(h:Tr W o a u ds)(y:Fr No W v):Tr v o a u ds:=h.fr y (λ_ _=>id)
theorem Tr.nil (W:p)(o:G):Tr W o C 0 []:=⟨Devs.nil W,TreeWf.nil,(λ_ e=>by cases e),(λd h=>by simp at h)⟩
section
variable {w W W':p}{B tb k:G}{a:ab ah}{cap:G}{ds:a0 Dev}
end
theorem Tr.keep {X:p}{v:G}(h:Tr X o a v ds)(A:Fr S X W)(D:∀ b,b<(X:G)->o<=b->¬ S b):Tr W o a v ds:=by
 refine⟨h.dv.fr A (λy e u=>D _ (h.dv.cell y e u).2.1 (h.fresh y e)),h.wf,h.fresh,λd I=>?_⟩;have z:=h.el d I;obtain⟨l,F,J⟩:=z.att;exact⟨z.sz,z.drv,⟨l,F.fr A (λy e u=>D _ (F.cell y e u).2.1 (z.fresh y e)),J⟩,z.fresh⟩
theorem Tape.make {l:a0 L}(h:Ints w a o l)(T:au):
  Tape (w.alloc (K #[.slice a l.length o,.int q 0] T)) (w:G) (w:G) 0:=
 ⟨a,o,l,T,h.fr ((ag No _).alloc _) (λ_ _ _ h=>h),λv e u=>(h.cell v e u).2.1,ar _,zF _ _⟩
theorem cl2 {o:af}{v:G×G}(h:W.heap[b]?=E (K (aq (o::u::t)) T v)):W.cell? ⟨b,0,C⟩=E o/\W.cell? ⟨b,1,C⟩=E u:=⟨zB h 0,zB h 1⟩
theorem fl2 (h:W.heap[b]?=E (K cs T)):W.frozen? ⟨b,0,C⟩=M/\W.frozen? ⟨b,1,C⟩=false:=⟨zD h 0,zD h 1⟩
theorem cl3 {o:af}{y:G×G}(h:W.heap[b]?=E (K (aq (o::u::v::t)) T y)):W.cell? ⟨b,0,C⟩=E o/\W.cell? ⟨b,1,C⟩=E u/\W.cell? ⟨b,2,C⟩=E v:=⟨zB h 0,zB h 1,zB h 2⟩
theorem fl3 (h:W.heap[b]?=E (K cs T)):W.frozen? ⟨b,0,C⟩=M/\W.frozen? ⟨b,1,C⟩=M/\W.frozen? ⟨b,2,C⟩=false:=⟨zD h 0,zD h 1,zD h 2⟩
theorem cl4 {o:af}{z:G×G}(h:W.heap[b]?=E (K (aq (o::u::v::y::t)) T z)):W.cell? ⟨b,0,C⟩=E o/\W.cell? ⟨b,1,C⟩=E u/\W.cell? ⟨b,2,C⟩=E v/\W.cell? ⟨b,3,C⟩=E y:=⟨zB h 0,zB h 1,zB h 2,zB h 3⟩
theorem fl4 (h:W.heap[b]?=E (K cs T)):W.frozen? ⟨b,0,C⟩=M/\W.frozen? ⟨b,1,C⟩=M/\W.frozen? ⟨b,2,C⟩=M/\W.frozen? ⟨b,3,C⟩=false:=⟨zD h 0,zD h 1,zD h 2,zD h 3⟩
theorem cl5 {o:af}{A:G×G}(h:W.heap[b]?=E (K (aq (o::u::v::y::z::t)) T A)):W.cell? ⟨b,0,C⟩=E o/\W.cell? ⟨b,1,C⟩=E u/\W.cell? ⟨b,2,C⟩=E v/\W.cell? ⟨b,3,C⟩=E y/\W.cell? ⟨b,4,C⟩=E z:=⟨zB h 0,zB h 1,zB h 2,zB h 3,zB h 4⟩
theorem fl5 (h:W.heap[b]?=E (K cs T)):W.frozen? ⟨b,0,C⟩=M/\W.frozen? ⟨b,1,C⟩=M/\W.frozen? ⟨b,2,C⟩=M/\W.frozen? ⟨b,3,C⟩=M/\W.frozen? ⟨b,4,C⟩=false:=⟨zD h 0,zD h 1,zD h 2,zD h 3,zD h 4⟩
theorem cl6 {o:af}{D:G×G}(h:W.heap[b]?=E (K (aq (o::u::v::y::z::A::t)) T D)):W.cell? ⟨b,0,C⟩=E o/\W.cell? ⟨b,1,C⟩=E u/\W.cell? ⟨b,2,C⟩=E v/\W.cell? ⟨b,3,C⟩=E y/\W.cell? ⟨b,4,C⟩=E z/\W.cell? ⟨b,5,C⟩=E A:=⟨zB h 0,zB h 1,zB h 2,zB h 3,zB h 4,zB h 5⟩
theorem fl6 (h:W.heap[b]?=E (K cs T)):W.frozen? ⟨b,0,C⟩=M/\W.frozen? ⟨b,1,C⟩=M/\W.frozen? ⟨b,2,C⟩=M/\W.frozen? ⟨b,3,C⟩=M/\W.frozen? ⟨b,4,C⟩=M/\W.frozen? ⟨b,5,C⟩=false:=⟨zD h 0,zD h 1,zD h 2,zD h 3,zD h 4,zD h 5⟩
theorem cl7 {o:af}{F:G×G}(h:W.heap[b]?=E (K (aq (o::u::v::y::z::A::D::t)) T F)):W.cell? ⟨b,0,C⟩=E o/\W.cell? ⟨b,1,C⟩=E u/\W.cell? ⟨b,2,C⟩=E v/\W.cell? ⟨b,3,C⟩=E y/\W.cell? ⟨b,4,C⟩=E z/\W.cell? ⟨b,5,C⟩=E A/\W.cell? ⟨b,6,C⟩=E D:=⟨zB h 0,zB h 1,zB h 2,zB h 3,zB h 4,zB h 5,zB h 6⟩
theorem fl7 (h:W.heap[b]?=E (K cs T)):W.frozen? ⟨b,0,C⟩=M/\W.frozen? ⟨b,1,C⟩=M/\W.frozen? ⟨b,2,C⟩=M/\W.frozen? ⟨b,3,C⟩=M/\W.frozen? ⟨b,4,C⟩=M/\W.frozen? ⟨b,5,C⟩=M/\W.frozen? ⟨b,6,C⟩=false:=⟨zD h 0,zD h 1,zD h 2,zD h 3,zD h 4,zD h 5,zD h 6⟩
theorem cl10 {o:af}{N:G×G}(h:W.heap[b]?=E (K (aq (o::u::v::y::z::A::D::F::I::J::t)) T N)):W.cell? ⟨b,0,C⟩=E o/\W.cell? ⟨b,1,C⟩=E u/\W.cell? ⟨b,2,C⟩=E v/\W.cell? ⟨b,3,C⟩=E y/\W.cell? ⟨b,4,C⟩=E z/\W.cell? ⟨b,5,C⟩=E A/\W.cell? ⟨b,6,C⟩=E D/\W.cell? ⟨b,7,C⟩=E F/\W.cell? ⟨b,8,C⟩=E I/\W.cell? ⟨b,9,C⟩=E J:=⟨zB h 0,zB h 1,zB h 2,zB h 3,zB h 4,zB h 5,zB h 6,zB h 7,zB h 8,zB h 9⟩
theorem fl10 (h:W.heap[b]?=E (K cs T)):W.frozen? ⟨b,0,C⟩=M/\W.frozen? ⟨b,1,C⟩=M/\W.frozen? ⟨b,2,C⟩=M/\W.frozen? ⟨b,3,C⟩=M/\W.frozen? ⟨b,4,C⟩=M/\W.frozen? ⟨b,5,C⟩=M/\W.frozen? ⟨b,6,C⟩=M/\W.frozen? ⟨b,7,C⟩=M/\W.frozen? ⟨b,8,C⟩=M/\W.frozen? ⟨b,9,C⟩=false:=⟨zD h 0,zD h 1,zD h 2,zD h 3,zD h 4,zD h 5,zD h 6,zD h 7,zD h 8,zD h 9⟩
theorem cl12 {N O o:af}{R:G×G}(h:W.heap[b]?=E (K (aq (v::y::z::A::D::F::I::J::N::O::o::u::t)) T R)):W.cell? ⟨b,0,C⟩=E v/\W.cell? ⟨b,1,C⟩=E y/\W.cell? ⟨b,2,C⟩=E z/\W.cell? ⟨b,3,C⟩=E A/\W.cell? ⟨b,4,C⟩=E D/\W.cell? ⟨b,5,C⟩=E F/\W.cell? ⟨b,6,C⟩=E I/\W.cell? ⟨b,7,C⟩=E J/\W.cell? ⟨b,8,C⟩=E N/\W.cell? ⟨b,9,C⟩=E O/\W.cell? ⟨b,10,C⟩=E o/\W.cell? ⟨b,11,C⟩=E u:=⟨zB h 0,zB h 1,zB h 2,zB h 3,zB h 4,zB h 5,zB h 6,zB h 7,zB h 8,zB h 9,zB h 10,zB h 11⟩
theorem fl12 (h:W.heap[b]?=E (K cs T)):W.frozen? ⟨b,0,C⟩=M/\W.frozen? ⟨b,1,C⟩=M/\W.frozen? ⟨b,2,C⟩=M/\W.frozen? ⟨b,3,C⟩=M/\W.frozen? ⟨b,4,C⟩=M/\W.frozen? ⟨b,5,C⟩=M/\W.frozen? ⟨b,6,C⟩=M/\W.frozen? ⟨b,7,C⟩=M/\W.frozen? ⟨b,8,C⟩=M/\W.frozen? ⟨b,9,C⟩=M/\W.frozen? ⟨b,10,C⟩=M/\W.frozen? ⟨b,11,C⟩=false:=⟨zD h 0,zD h 1,zD h 2,zD h 3,zD h 4,zD h 5,zD h 6,zD h 7,zD h 8,zD h 9,zD h 10,zD h 11⟩
def stepO (g:L->ab ae)(d:Dev):L->ab ae:=updO g d.index ((g d.parent).getD ⟨#[]⟩++⟨#[47]⟩++d.orig)
def ogs (l:a0 Dev):L->ab ae:=l.foldl stepO (λ_=>C)
def pathOf (l:a0 ae):ae:=l.foldl (λs x=>s++⟨#[47]⟩++x) ⟨#[]⟩
def plcs (ds:a0 Dev)(k:G):L->ab L:=λn=>(look (ds.take k) n).map λ_=>place ds n
theorem zFP (l:a0 Dev)(d:Dev):ogs (l++[d])=stepO (ogs l) d:=by unfold ogs;rw[ca];rfl
theorem zB0 {ds:a0 Dev}(h:∀ d∈ds,d.orig.size<=32):∀ (k:G) (n:L),((ogs (ds.take k) n).getD ⟨#[]⟩).size<=33*k
 | 0,n=>by show (ByteArray.mk #[]).size<=_;exact Nat.zero_le _
 | k+1,n=>by
  by_cases o:k<ds.length
  .have e:ds.take (k+1)=ds.take k++[ds[k]]:=by rw[bj,bh o];rfl
   have v:=zB0 h k ds[k].parent;have u:=zB0 h k n;have y:=h ds[k] (cb o);rw[e,zFP];unfold stepO updO;split
   .simp only[ch,ByteArray.size_append];have:(⟨#[47]⟩:ae).size=1:=rfl;omega
   .omega
  .have u:=zB0 h k n;rw[bm (by omega)]at u ⊢;omega
theorem zGO (y:(ds.map br).Nodup)(z:ds[k]?=E d)(n:L):look (ds.take (k+1)) n=if n=d.index then E d else look (ds.take k) n:=by
 have e:ds.take (k+1)=ds.take k++[d]:=by rw[bj,z];rfl
 have o:((ds.take k++[d]).map br).Nodup:=by rw[<-e];exact(bw _ (cg _ _)).nodup y
 rw[e];unfold look;rw[List.find?_append];by_cases u:n=d.index
 .rw[if_pos u];have:(ds.take k).find? (λx=>decide (x.index=n))=none:=by
   rw[List.find?_eq_none];intro x A v;simp only[decide_eq_true_eq]at v;rw[List.map_append,List.nodup_append]at o;exact o.2.2 x.index (List.mem_map_of_mem A) d.index (by simp) (by rw[v,u])
  rw[this];simp[u]
 .rw[if_neg u];have:([d].find? (λx=>decide (x.index=n)))=none:=by simp;exact λh=>u h.symm
  rw[this];simp
theorem zJ0 (y:TreeOk ds)(o:ds[k]?=E d):plcs ds (k+1)=updO (plcs ds k) d.index (k:L):=by
 funext n
 unfold plcs updO;rw[zGO y.nd o];split
 .rename_i e;subst e;rcases zAq ds d.index with⟨u,F⟩|⟨j,x,u,F,z⟩
  .rw[y.lk (ap o)]at u;cases u
  .rw[y.lk (ap o)]at u;cases u;rw[F];have A:j<ds.length:=(List.getElem?_eq_some_iff.1 z).1;have D:k<ds.length:=(List.getElem?_eq_some_iff.1 o).1;have I:=List.pairwise_iff_getElem.1 y.nd;have J:ds[j].index=ds[k].index:=by
    rw[bh A]at z;rw[bh D]at o;rw[Option.some.inj z,Option.some.inj o]
   rcases Nat.lt_trichotomy j k with h|rfl|h
   .have v:=I j k (by simpa using A) (by simpa using D) h;rw[bi,bi]at v;exact absurd J v
   .rfl
   .have v:=I k j (by simpa using D) (by simpa using A) h;rw[bi,bi]at v;exact absurd J.symm v
 .rfl
theorem zHy {ds:a0 Dev}(h:TreeOk ds):∀ (k:G),k<=ds.length->∀ n,ogs (ds.take k) n=(look (ds.take k) n).map λ_=>pathOf (origin ds n)
 | 0,_,n=>by simp[ogs,look]
 | k+1,V,n=>by
  have o:k<ds.length:=by omega
  have u:ds[k]?=E ds[k]:=bh o;have e:ds.take (k+1)=ds.take k++[ds[k]]:=by rw[bj,u];rfl
  have z:=zHy h k (by omega);rw[zGO h.nd u,e,zFP];unfold stepO updO;split
  .rename_i D;have F:pathOf (origin ds n)=pathOf (origin ds ds[k].parent)++⟨#[47]⟩++ds[k].orig:=by
    rw[D,h.origin_cons (h.lk (cb o))];unfold pathOf;rw[ca];rfl
   have I:(ogs (ds.take k) ds[k].parent).getD ⟨#[]⟩=pathOf (origin ds ds[k].parent):=by
    rw[z];rcases h.pa k _ u with A|⟨j,f,J,N,v⟩
    .have O:look (ds.take k) ds[k].parent=none:=by
      rw[A,zo];intro x R e;have:=(h.ix x (List.mem_of_mem_take R)).1;omega
     rw[O,A,TreeOk.origin_none h.zero];rfl
    .have U:f∈ds.take k:=by
      have:(ds.take k)[j]?=E f:=by rw[List.getElem?_take_of_lt J];exact N
      exact ap this
     have y:((ds.take k).map br).Nodup:=(bw _ (cg _ _)).nodup h.nd;have:=zu y U;rw[v]at this;rw[this];rfl
   rw[I,F];rfl
  .exact z n
theorem TreeOk.pwf (h:TreeOk ds)(o:d∈ds):(aw q d.parent).wf=true:=by
 obtain⟨k,u⟩:=List.getElem?_of_mem o;rcases h.pa k d u with v|⟨j,e,_,y,z⟩
 .rw[v];decide
 .rw[<-z];have:=h.ix e (ap y);exact bt (by omega)
theorem TreeOk.iwf (h:TreeOk ds)(o:d∈ds):(aw q d.index).wf=true:=by
 have:=h.ix d o;exact bt (by omega)
def ViewAt (w w':p)(a:ab ah)(cap:G)(ds:a0 Dev)(e:Ending):Prop:=
 ∃ m1 m2,e=.returned (ak #[.slice a ds.length cap,.map (E m1),.map (E m2)])/\(w:G)<=m1/\(w:G)<=m2/\m1≠m2/\IMap w' m1 (plcs ds ds.length) ds.length/\SMap w' m2 (ogs ds) ds.length
def Two2 (x y:G):G->Prop:=λb=>b=x\/b=y
theorem zCO (a:ab ah)(o:G)(ds:a0 Dev)(w:p)(hl:Devs w a o ds)(hT:TreeOk ds)(hn:ds.length<=1000):
  al a1 59 #[ak #[.slice a ds.length o]] w λe w'=>ViewAt w w' a o ds e/\Fr No w w':=by
 have e7:=@run_makeMap a1;have hm:=hl.lenmax
 go_enter Tryz.func59,Tryz.ntmps59
 go_wp2_with fail
 have y:=zh hT;have Hn:=zh hn;clear hT hn
 go_loopw [15] (λi wr=>∃ k:G,k<=ds.length/\i=.int q k/\IMap wr ((w:G)+1+1) (plcs ds k) k/\SMap wr ((w:G)+1+1+1) (ogs (ds.take k)) k/\
  wr.heap[(w:G)+1+1+1+1]?=E (K #[.slice a ds.length o,.map (E ((w:G)+1+1)),.map (E ((w:G)+1+1+1))] 126)/\
  wr.heap[(w:G)+1]?=E (K #[.slice C 0 0,.map C,.map C] 126)/\Fr No w wr) (λi _=>ds.length-(intOf i).toNat)
 case atStart=>
  have s1:(w.alloc (K #[.slice a ds.length o] 47)).heap.size=(w:G)+1:=by simp
  have s2:((w.alloc (K #[.slice a ds.length o] 47)).alloc (K #[.slice C 0 0,.map C,.map C] 126)).heap.size=(w:G)+1+1:=by simp
  have s3:(((w.alloc (K #[.slice a ds.length o] 47)).alloc (K #[.slice C 0 0,.map C,.map C] 126)).alloc (.map #[] 0)).heap.size=(w:G)+1+1+1:=by simp
  have s4:((((w.alloc (K #[.slice a ds.length o] 47)).alloc (K #[.slice C 0 0,.map C,.map C] 126)).alloc (.map #[] 0)).alloc (.map #[] 0)).heap.size=(w:G)+1+1+1+1:=by simp
  refine⟨0,by omega,rfl,?_,?_,?_,?_,?_⟩
  .have h:=IMap.made ((w.alloc (K #[.slice a ds.length o] 47)).alloc (K #[.slice C 0 0,.map C,.map C] 126));rw[s2]at h;exact(h.fr ((ag No _).alloc (.map #[] 0)) id).fr ((ag No _).alloc (K #[.slice a ds.length o,.map (E ((w:G)+1+1)),.map (E ((w:G)+1+1+1))] 126)) id
  .have h:=SMap.made (((w.alloc (K #[.slice a ds.length o] 47)).alloc (K #[.slice C 0 0,.map C,.map C] 126)).alloc (.map #[] 0));rw[s3]at h;exact h.fr ((ag No _).alloc (K #[.slice a ds.length o,.map (E ((w:G)+1+1)),.map (E ((w:G)+1+1+1))] 126)) id
  .have h:=zF ((((w.alloc (K #[.slice a ds.length o] 47)).alloc (K #[.slice C 0 0,.map C,.map C] 126)).alloc (.map #[] 0)).alloc (.map #[] 0)) (K #[.slice a ds.length o,.map (E ((w:G)+1+1)),.map (E ((w:G)+1+1+1))] 126);rw[s4]at h;exact h
  .have h:=zF (w.alloc (K #[.slice a ds.length o] 47)) (K #[.slice C 0 0,.map C,.map C] 126);rw[s1]at h;exact((((ag No _).alloc (.map #[] 0)).alloc (.map #[] 0)).alloc (K #[.slice a ds.length o,.map (E ((w:G)+1+1)),.map (E ((w:G)+1+1+1))] 126)).heap h id
  .repeat (first|exact ag _ _|refine Fr.alloc ?_ _)
 case round=>
  obtain⟨k,hk,rfl,hI,X,U,V,z⟩:=hrel;have v0:wr.cell? ⟨(w:G)+1+1+1+1,0,C⟩=E (.slice a ds.length o):=by simp[ba,U]
  have v1:wr.cell? ⟨(w:G)+1+1+1+1,1,C⟩=E (.map (E ((w:G)+1+1))):=by simp[ba,U]
  have v2:wr.cell? ⟨(w:G)+1+1+1+1,2,C⟩=E (.map (E ((w:G)+1+1+1))):=by simp[ba,U]
  have r0:wr.cell? ⟨(w:G)+1,0,C⟩=E (.slice C 0 0):=by simp[ba,V]
  have r1:wr.cell? ⟨(w:G)+1,1,C⟩=E (.map C):=by simp[ba,V]
  have r2:wr.cell? ⟨(w:G)+1,2,C⟩=E (.map C):=by simp[ba,V]
  obtain⟨q0,q1,q2⟩:=fl3 V;by_cases Y:k<ds.length
  .have e5:(k:L)<ds.length:=by omega
   obtain⟨bb,e8,d,rfl,Z,c0,c1,c2,c3,c4,c5,c6,c7,c8,c9⟩:=(hl.no z (λ_=>id)).dev Y;have Hd:=zh Z;have b2:=y.out.pwf (ap Z);have b3:=y.out.iwf (ap Z);have e9:=zB0 y.out.sz k d.parent;have g0:=y.out.sz d (ap Z);have g1:=Hn.out;clear Z;have F:=X.fr ((ag No _).alloc (K #[.int q d.index,.int q d.parent,.string d.name,.string d.orig,.string d.sub,.string d.drv,.string d.ali,.int q d.kind,.int q d.num,.slice d.aa d.an d.ac] 36)) id;have I:Fr No wr (wr.alloc (K #[.int q d.index,.int q d.parent,.string d.name,.string d.orig,.string d.sub,.string d.drv,.string d.ali,.int q d.kind,.int q d.num,.slice d.aa d.an d.ac] 36)):=(ag No _).alloc _;have a2:=I.cell v1 id;have a3:=I.cell v2 id;have b4:=zh (z.step I zi);have b5:=zh (I.heap U id);have b6:=zh (I.heap V id);have a4:=hI.fr I id;have b7:(Tryz.prog.info? 36).isSome=true:=by kernel_rfl
   clear I b7
   go_wp2_with (at_lookup;refine zGo rfl _ _ 124 rfl rfl ((w:G)+1+1+1) _ k d.parent b2 rfl F rfl ?_)
   refine zQ (Two2 ((w:G)+1+1) ((w:G)+1+1+1)) [(0,M),(1,M),(2,M),(3,M),(4,M),(5,M),(6,M),(7,M),(8,M),(9,M),(10,ai),(11,ai)] (by kernel_rfl) (by kernel_rfl) (λw0 u=>?_);have b8:=a4.fr u id;have b9:=F.fr u id;have A:=b4.out.step u zi;have e6:(w:G)+1+1+1+1<(wr:G):=zC U;have d1:∀ g:Gr (Two2 ((w:G)+1+1) ((w:G)+1+1+1)) w0,g.W.cell? ⟨(w:G)+1+1+1+1,1,C⟩=E (.map (E ((w:G)+1+1))):=λg=>g.fr.cell (u.cell a2 id) (λh=>by unfold Two2 at h;dsimp only at h;omega)
   have d2:∀ g:Gr (Two2 ((w:G)+1+1) ((w:G)+1+1+1)) w0,g.W.cell? ⟨(w:G)+1+1+1+1,2,C⟩=E (.map (E ((w:G)+1+1+1))):=λg=>g.fr.cell (u.cell a3 id) (λh=>by unfold Two2 at h;dsimp only at h;omega)
   have d5:∀ g:Gr (Two2 ((w:G)+1+1) ((w:G)+1+1+1)) w0,g.W.cell? ⟨wr,0,C⟩=E (.int q d.index):=λg=>g.fr.cell (u.cell (by rw[zB (zF _ _)];rfl) id) (λh=>by unfold Two2 at h;dsimp only at h;omega)
   have d0:=zh (u.heap b5.out id);have d3:=zh (u.heap b6.out id);obtain⟨DI,nI,d4,a5,a6,a7⟩:=b8;obtain⟨DS,nS,d6,a8,a9,b0⟩:=b9;have d7:=zh a6;have d8:=zh a7;have d9:=zh a9;have e0:=zh b0;have D:=bp ay b3;have b1:=zh A;clear a6 a7 a9 b0 v0 v1 v2 r0 r1 r2 q0 q1 q2 U V a2 a3 a4 F hI X z A c0 c1 c2 c3 c4 c5 c6 c7 c8 c9
   repeat (apply zT rfl rfl rfl;intro g2 hK;go_big_quiet_op;go_big_quiet_on)
   apply zt;exact rfl
   go_wp2_with (at_mapUpdate;refine cm _ rfl _ _ _ 123 rfl 3 3 lawI Tryz.underlying123 _ ((w:G)+1+1) nI DI rfl a5 (by unfold ao;omega) _ _ _ rfl rfl D _ [] (plainElem_int ay (bt (by omega))) ?_;intro w1 e1 J)
   refine OnlyN.mk ⟨(bd J).mono (λ_ _ h=>.inl h),?_⟩;apply zt;exact rfl
   go_wp2_with (at_mapUpdate;refine cm _ rfl _ _ _ 124 rfl 3 9 lawI Tryz.underlying124 _ ((w:G)+1+1+1) nS DS rfl (a8.kept J (λe=>by have:=Option.some.inj e;omega)) (by unfold ao;omega) _ _ _ rfl rfl D _ [] (bu bf (by simp only[ByteArray.size_append];unfold ao;have:(⟨#[47]⟩:ae).size=1:=rfl;omega)) ?_;intro w2 e2 N)
   refine OnlyN.mk ⟨(bd N).mono (λ_ _ h=>.inr h),?_⟩;refine zb ?_;have e3:=(IMap.put d4 a5 d7.out d8.out d.index k e1).fr (bd N) (λh=>by omega);have e4:=SMap.put d6 a8 d9.out e0.out d.index _ e2;have O:=zh (bd J);have R:=zh (bd N)
   go_wp2_with fail
   go_roundw
   case rel=>
    refine⟨k+1,by omega,by go_num,?_,?_,R.out.heap (O.out.heap d0.out (by omega)) (by omega),R.out.heap (O.out.heap d3.out (by omega)) (by omega),
     (b1.out.step O.out (λb hb h=>by omega)).step R.out (λb hb h=>by omega)⟩
    .rw[zJ0 y.out Hd.out];exact e3
    .have e:ds.take (k+1)=ds.take k++[d]:=by rw[bj,Hd.out];rfl
     rw[e,zFP];exact e4
   case measure=>simp[intOf];omega
  .obtain rfl:k=ds.length:=by omega
   clear Y;rw[bm (ar _)]at X;have HI:=zh hI;have HS:=zh X;clear hI X
   go_wp2_with fail
   refine bo (v:=ak #[.slice a ds.length o,.map (E ((w:G)+1+1)),.map (E ((w:G)+1+1+1))]) (by simp[bq,Tryz.results59,go_sem,r0,r1,r2]) rfl ?_;have hF:Fr (Is ((w:G)+1)) wr (((wr.setCell ⟨(w:G)+1,0,C⟩ (.slice a ds.length o)).setCell ⟨(w:G)+1,1,C⟩ (.map (E ((w:G)+1+1)))).setCell ⟨(w:G)+1,2,C⟩ (.map (E ((w:G)+1+1+1)))):=(((ag _ _).setAt _).setAt _).setAt _;exact⟨⟨_,_,rfl,by omega,by omega,by omega,HI.out.fr hF (by omega),HS.out.fr hF (by omega)⟩,z.step hF (λb hb h=>by omega)⟩
theorem zAu (a:ab ah)(h:G)(ds:a0 Dev)(n:L)(w:p)(I:Devs w a h ds)(y:TreeOk ds)(J:ds.length<=1000)(N:(aw q n).wf=ai):
  al a1 62 #[ak #[.slice a ds.length h],.int q n] w λe w'=>e=.returned (.tuple #[.string (((look ds n).map λ_=>pathOf (origin ds n)).getD ⟨#[]⟩),.bool (look ds n).isSome])/\Fr No w w':=by
 have z:Fr No w (w.alloc (K #[.slice a ds.length h] 47)):=(ag _ _).alloc _;have A:ogs ds n=(look ds n).map λ_=>pathOf (origin ds n):=by
  have:=zHy y ds.length (ar _) n;rw[bm (ar _)]at this;exact this
 have O:∀ (D o:G) (W:p),(Instr.field 126 (ak #[.slice a ds.length h,.map (E D),.map (E o)]) 2).run a1 W=.ok (.map (E o)) W:=λ_ _ _=>by kernel_rfl
 have R:=zh A;have F:=zh z;clear A z
 go_enter Tryz.func62,Tryz.ntmps62
 go_wp2_with fail
 refine(zCO a h ds _ (I.no F.out (λ_=>id)) y J).mono ?_;rintro e V ⟨⟨D,o,rfl,_,_,_,_,U⟩,u⟩
 go_wp2_with (at_lookup;refine zEY rfl _ _ 124 rfl rfl o _ _ n N rfl U rfl ?_)
 refine bo (v:=.tuple #[.string ((ogs ds n).getD ⟨#[]⟩),.bool (ogs ds n).isSome]) (by simp[bq,Tryz.results62,go_sem]) rfl ?_;refine⟨?_,F.out.step u zi⟩;rw[R.out];cases look ds n<;>rfl
def VAt (w:p)(m1 m2:G)(ds:a0 Dev):Prop:=IMap w m1 (plcs ds ds.length) ds.length/\SMap w m2 (ogs ds) ds.length
theorem VAt.fr {u:G}(h:VAt w o u ds)(v:Fr S w w')(y:¬ S o)(z:¬ S u):VAt w' o u ds:=⟨h.1.fr v y,h.2.fr v z⟩
theorem zLo (ds:a0 Dev)(n:L):plcs ds ds.length n=(look ds n).map λ_=>place ds n:=by unfold plcs;rw[bm (ar _)]
def FindIs (ds:a0 Dev)(n:L)(e:Ending):Prop:=(look ds n=C/\e=.returned (.tuple #[ak Dev.zero.vals,.bool M]))\/∃ d,look ds n=E d/\e=.returned (.tuple #[ak d.vals,.bool ai])
theorem zFx (a:ab ah)(h:G)(ds:a0 Dev)(z D:G)(n:L)(w:p)(N:Devs w a h ds)(U:VAt w z D ds)(hx:(aw q n).wf=ai):
  al a1 198 #[ak #[.slice a ds.length h,.map (E z),.map (E D)],.int q n] w λe w'=>
   FindIs ds n e/\Fr No w w':=by
 have hm:=N.lenmax;have F:Fr No w ((w.alloc (K #[.slice a ds.length h,.map (E z),.map (E D)] 126)).alloc (K #[.int q 0,.int q 0,.string ⟨#[]⟩,.string ⟨#[]⟩,.string ⟨#[]⟩,.string ⟨#[]⟩,.string ⟨#[]⟩,.int q 0,.int q 0,.slice C 0 0] 36)):=((ag _ _).alloc _).alloc _;have V:=zO w (K #[.slice a ds.length h,.map (E z),.map (E D)] 126) (K #[.int q 0,.int q 0,.string ⟨#[]⟩,.string ⟨#[]⟩,.string ⟨#[]⟩,.string ⟨#[]⟩,.string ⟨#[]⟩,.int q 0,.int q 0,.slice C 0 0] 36);have I:=zR w (K #[.slice a ds.length h,.map (E z),.map (E D)] 126) (K #[.int q 0,.int q 0,.string ⟨#[]⟩,.string ⟨#[]⟩,.string ⟨#[]⟩,.string ⟨#[]⟩,.string ⟨#[]⟩,.int q 0,.int q 0,.slice C 0 0] 36)
 go_enter Tryz.func198,Tryz.ntmps198
 go_upto_region 1 with(fail)
 generalize (w.alloc (K #[.slice a ds.length h,.map (E z),.map (E D)] 126)).alloc (K #[.int q 0,.int q 0,.string ⟨#[]⟩,.string ⟨#[]⟩,.string ⟨#[]⟩,.string ⟨#[]⟩,.string ⟨#[]⟩,.int q 0,.int q 0,.slice C 0 0] 36)=w2 at *;obtain⟨t0,t1⟩:=cl2 V;obtain⟨z0,z1,z2,z3,z4,z5,z6,z7,z8,z9⟩:=cl10 I;obtain⟨y0,y1,y2,y3,y4,y5,y6,y7,y8,y9⟩:=fl10 I;have hI:=U.1.fr F id;have A:=N.no F (λ_=>id);have O:=zLo ds n;rcases zAq ds n with⟨y,R⟩|⟨k,d,y,R,X⟩
 .have Y:plcs ds ds.length n=none:=by rw[O,y];rfl
  have o:=zBA I rfl Dev.zero;have u:=zg2 y (F.step o.2 (λb hb e=>by omega));have J:look ds n=none:=y;clear o I V O R F y U N A;have Z:=zh J;clear J
  go_wp2_with (at_lookup;refine zEa rfl _ _ 123 rfl rfl z _ _ n hx rfl hI rfl ?_;rw[Y];simp only[Option.getD_none,Option.isSome_none])
  refine bo (v:=.tuple #[ak Dev.zero.vals,.bool M]) (by simp[bq,ci,go_sem,Dev.vals,Dev.zero,z0,z1,z2,z3,z4,z5,z6,z7,z8,z9];try rfl) rfl ?_;exact⟨.inl ⟨Z.out,rfl⟩,u.out.2⟩
 .have Y:plcs ds ds.length n=E (k:L):=by rw[O,y,R];rfl
  have a2:k<ds.length:=(List.getElem?_eq_some_iff.1 X).1;have a3:(k:L)<ds.length:=by omega
  obtain⟨bb,a4,d',rfl,hd,c0,c1,c2,c3,c4,c5,c6,c7,c8,c9⟩:=A.dev a2;rw[X]at hd;cases hd;have o:=zBA I rfl d;have u:=zg2 y (F.step o.2 (λb hb e=>by omega));have Z:=zh y;clear o I V O R X F y U N A
  go_wp2_with (at_lookup;refine zEa rfl _ _ 123 rfl rfl z _ _ n hx rfl hI rfl ?_;rw[Y];simp only[ch,Option.isSome_some])
  refine bo (v:=.tuple #[ak d.vals,.bool ai]) (by simp[bq,ci,go_sem,Dev.vals,z0,z1,z2,z3,z4,z5,z6,z7,z8,z9]) rfl ?_;exact⟨.inr ⟨d,Z.out,rfl⟩,u.out.2⟩
theorem zND (u v x:af)(n:L)(w:p):
  al a1 150 #[ak #[u,v,x],.int q n] w λe w'=>e=.returned (.func (.func 197) #[] #[bg (E ⟨w,0,C⟩),bg (E ⟨(w:G)+1,0,C⟩)])/\w'=(w.alloc (K #[u,v,x] 126)).alloc (K #[.int q n] 3):=by
 go_enter Tryz.func150,Tryz.ntmps150
 go_wp2_with fail
 go_ret;exact⟨rfl,rfl⟩
theorem zEu : ∀ (l:a0 ae) (s:ae),(l.foldl (λs x=>s++⟨#[47]⟩++x) s).data.toList=s.data.toList++am [47] (l.map (·.data.toList))
 | [],s=>by simp[am]
 | x::t,s=>by
  rw[List.foldl_cons,zEu t];simp[am]
theorem zBw (l:a0 ae):(pathOf l).data.toList=am [47] (l.map (·.data.toList)):=by
 unfold pathOf;rw[zEu];rfl
theorem zJ1 (h:l≠[]):(⟨#[47]⟩:ae)++⟨(be (l.map (·.data.toList)) [47]).toArray⟩=pathOf l:=by
 refine zDR ?_;rw[zBw];cases l with
 | nil=>exact absurd rfl h
 | cons x t=>simp[bv,am]
theorem zJd : ∀ (l:a0 ae),(∀ x∈l,x.size<=32)->(am [47] (l.map (·.data.toList))).length<=33*l.length
 | [],_=>by simp[am]
 | x::t,h=>by
  have o:=zJd t (λy u=>h y (List.mem_cons_of_mem _ u));have v:=h x (List.mem_cons_self ..);have z:x.data.toList.length=x.size:=by simp
  simp only[am,cf,bz,cc,cd,ce,List.map_map]at o ⊢;omega
theorem zNu (h:∀ x∈l,x.size<=32):(be (l.map (·.data.toList)) [47]).length<=33*l.length:=by
 cases l with
 | nil=>simp[be,List.intercalate]
 | cons x t=>
  have:=zJd (x::t) h;simp only[cf,bv,am,bz,cc,cd,ce]at this ⊢;omega
theorem zLk (a:ab ah)(o:G)(l:a0 ae)(w:p)(y:Strs w a o l)(u:l≠[])(F:∀ x∈l,x.size<=32)(V:l.length<=1000000):
  al a1 67 #[.slice a l.length o] w λe w'=>e=.returned (.string (pathOf l))/\Fr No w w':=by
 have X:l.length≠0:=λh=>u (bx h)
 obtain⟨b,z,x,rfl,_,_⟩:=y.at (k:=0) (by omega);obtain⟨_,I,J⟩:=y.cell _ rfl u;have Y:=zNu F;have v:=y.len;have N:=zh (zJ1 u)
 go_enter Tryz.func67,Tryz.ntmps67
 go_wp2_with fail
 refine(Tryz.strings_Join b z o l ⟨#[47]⟩ _ (λj x O=>J j x O) I (by omega) v (by show (be _ [47]).length<=_;omega)).mono ?_;rintro e Z ⟨rfl,R⟩;have A:=Fr.of_below_size R;have U:(be (l.map (·.data.toList)) [47]).length<=33000000:=by omega
 have D:(⟨#[47]⟩:ae).data.toList=[47]:=rfl;rw[D]
 go_wp2_with fail
 go_ret;refine⟨?_,A⟩;rw[<-N.out];rfl
theorem zKB (o:TreeOk ds)(n:L):∀ x∈origin ds n,x.size<=32:=by
 intro x h;unfold origin at h;rw[List.mem_reverse]at h;obtain⟨d,u,rfl⟩:=List.mem_map.1 h;exact o.sz d (zEH u)
theorem zGF (a:ab ah)(o:G)(ds:a0 Dev)(n:L)(w:p)(O:Devs w a o ds)(U:TreeOk ds)(V:ds.length<=1000000):
  al a1 28 #[ak #[.slice a ds.length o],.int q n] w λe w'=>e=.returned (.string (pathOf (origin ds n)))/\Fr No w w':=by
 have I:Fr No w (w.alloc (K #[.slice a ds.length o] 47)):=(ag _ _).alloc _;have A:=O.no I (λ_=>id);have D:(origin ds n).length<=1000000:=by unfold origin;simp;have:=zCh ds n;omega
 have X:=zh (zKB U n)
 go_enter Tryz.func28,Tryz.ntmps28
 go_wp2_with fail
 refine(zIv a o ds n _ A V).mono ?_;rintro e w1 ⟨⟨v,rfl,u⟩,J⟩;obtain⟨Y,Z,rfl,R,F⟩:=Strs.of_own u;have y:=I.step J zi;clear u I A O;by_cases h:origin ds n=[]
 .have z:=zh h;have h0:(origin ds n).length=0:=by rw[h];rfl
  clear h D R
  go_wp2_with fail
  go_ret;refine⟨?_,y⟩;rw[z.out];rfl
 .have h0:0<(origin ds n).length:=List.length_pos_iff.2 h;have a2:(0:L)<(origin ds n).length:=by omega
  have z:=zh h;clear h
  go_wp2_with fail
  refine(zLk Y Z (origin ds n) _ R z.out X.out D).mono ?_;rintro e w2 ⟨rfl,N⟩
  go_wp2_with fail
  go_ret;exact⟨rfl,y.step N zi⟩
end Go.Proofs.YtckkocmhlhefpaaGreatDoor
