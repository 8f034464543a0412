import Derived.Test.YtckkocmhlhefpaaGreatDoorShelf
import Derived.Shelf.AbstractIn
import Derived.DeepKeys4
import Derived.Maps.RangeWalk
import Derived.Maps.OwnRows
import Derived.Maps.GroupsBeside
import Derived.Test.YtckkocmhlhefpaaGreatDoorQ6
namespace Go.Proofs.YtckkocmhlhefpaaGreatDoor
open Go.RowKit Go.Maps Go.Sort Go.Shelf
set_option linter.unusedVariables false
set_option maxRecDepth 100000
set_option maxHeartbeats 1000000
open Dev renaming vals->bu
open Fr renaming of_grown_some->bv
open Go renaming Value->ae,maxLen->ah,World->ai,Oper->am,DataW->ap,wpList->ar,Addr->av,TypeId->ay,keyOf->bb,Operand->be,strKeys->bf,zeroValue->bg,MemPlace->bo,wpList_mapUpdate_own->ck,wpList_lookup_own_ok->cy
open Go.Fence renaming wide->ba
open Go.Instr renaming lookup->bw
open Go.Lit renaming int->aq,sameKey->ct
open Go.Maps renaming size->bh,keyOf_str->bn,atKey_put_other->bq,atKey_put_same->br,has_put_other->bs,has_put_same->bt,fit_look->bx,atKey_of_not_has->ch
open Go.Maps.Keyed renaming of_law->cl
open Go.Op renaming lookup->bz,mapUpdate->cb
open Go.Proofs.Tryz renaming prog->af,underlying278->bi,underlying9->bj,underlying281->bp,underlying99->cd,keysM->cu,sortS->cw
open Go.Value renaming cells->ce,formed->cf,agg->cx
open Go.World renaming ownsMap_made->cg
open IntKind renaming i64->K
open Obj renaming cells->ax
open Value renaming agg->ao,pointer->az
open _root_ renaming Nat->E,List->B,ByteArray->ab,Option->ag,Int->aj,UInt8->ak,Array->au,if_neg->bm,decide_eq_true_eq->ci,of_decide_eq_true->cj
open _root_.Bool renaming true->al,false->aw
open _root_.ByteArray renaming empty->bc
open _root_.List renaming cons_append->cm,getElem?_eq_getElem->co,length_append->cp,length_cons->cq,map_map->cr,mergeSort_perm->cs
open _root_.Nat renaming le_refl->bd
open _root_.Option renaming some->C,none->a0
variable{x y:B ak}{w w' W:ai}{o N M u n b:E}{g:ab×aj->ag ae}{S:E->Prop}{s:ab}{h A:B am}{a:ag av}{Q:Exit->Act->ai->Prop}{D:ap ae}{z v:ae}{H:Type}{P:Program}{k t e:ay}{F:au am}{f:B ak->B aj}{ds:B Dev}
def kb (x:ab):B UInt8:=x.data.toList
def bk (x:B ak):ab:=⟨x.toArray⟩
theorem zFo (x:ab):bk (kb x)=x:=by unfold bk kb;simp
theorem zI6 (x:B ak):kb (bk x)=x:=by unfold bk kb;simp
theorem zGQ {x y:ab}(h:kb x=kb y):x=y:=by rw[<-zFo x,h,zFo]
def heldV (v:ae):ag (ap ae×B bo):=C (.held v,[])
def VMap (w:ai)(mb:E)(g:B ak->ag ae)(N:E):Prop:=
 ∃ (D:ap ae) (n:E),n<=N/\w.ownsMap af 9 heldV mb n D/\(∀ x,has D (.string x)=(g x).isSome)/\∀ x v,g x=C v->∀ z,D.atKey (.string x) z=.held v
theorem VMap.lt {g:B ak->ag ae}(h:VMap w o g N):o<(w:E):=by obtain⟨D,n,_,u,_⟩:=h;exact u.lt
theorem VMap.fr {g:B ak->ag ae}(h:VMap w o g N)(u:Fr S w w')(v:¬ S o):VMap w' o g N:=by
 obtain⟨D,n,y,z,r⟩:=h;exact⟨D,n,y,u.ownsMap z v,r⟩
theorem VMap.made (w:ai):VMap (w.alloc (.map #[] 0)) (w:E) (λ_=>a0) 0:=⟨.map [],0,bd _,cg _ _ _ _,λ_=>rfl,λ_ _ h=>by cases h⟩
theorem VMap.mono {g:B ak->ag ae}(h:VMap w o g N)(u:N<=M):VMap w o g M:=by
 obtain⟨D,n,v,r⟩:=h;exact⟨D,n,by omega,r⟩
theorem lawS: Keyed af 9:=string_keyed bj
theorem keyS (h:s.size<=ah):bb af 9 (.string s)=C (.string (kb s)):=Go.WideMaps.keyOf_string_mk bj h
theorem isKeyS (x:B ak):WideAt.IsKeyLit (.string x):=trivial
theorem zBr {u:au am}{h:B am}{o:am}{a:Act}{Q:Exit->Act->ai->Prop}(V:o.guard=a0)(m x:be)(t e:ay)(z:ae)(X:(bg e).run af w=.ok z w)(I:o.op=bz t m x al)(Y:Tryz.prog.underlying t=C (.map 9 e))
  (J:E) (g:B ak->ag ae) (N:E) (k:ab) (Z:k.size<=ah) (hm:a.eval m=.map (C J)) (y:VMap w J g N) (hx:a.eval x=.string k)
  (v:ae) (hv:(g (kb k)).getD z=v) (b:Bool) (hb:(g (kb k)).isSome=b)
  (hK:ar af u Q h (a.put o.dst (.tuple #[v,.bool b])) w):ar af u Q (o::h) a w:=by
 obtain⟨D,n,_,ho,R,h2⟩:=y;refine cy w V m x t I 9 e lawS Y heldV X (.held z) [] rfl J n D hm ho _ _ hx (keyS Z) (λv1 ps A=>?_);simp only[heldV,Option.some.injEq,Prod.mk.injEq]at A;have F:=A.1;have O:=hv;have e:v1=(g (kb k)).getD z:=by
  rcases hgk:g (kb k)with _|v'
  .have U:=R (kb k);rw[hgk]at U;rw[ch U]at F
   simpa using F
  .rw[h2 _ _ hgk]at F
   simpa using F
 rw[R,e,O,hb];exact hK
theorem zM8 {y:au am}{h:B am}{o:am}{a:Act}{Q:Exit->Act->ai->Prop}(X:o.guard=a0)(m x:be)(t e:ay)(z:ae)(Y:(bg e).run af w=.ok z w)(J:o.op=bz t m x aw)(Z:Tryz.prog.underlying t=C (.map 9 e))
  (R:E) (g:B ak->ag ae) (N:E) (k:ab) (hk:k.size<=ah) (hm:a.eval m=.map (C R)) (A:VMap w R g N) (hx:a.eval x=.string k)
  (u:ae) (hu:(g (kb k)).getD z=u)
  (hK:ar af y Q h (a.put o.dst u) w):ar af y Q (o::h) a w:=by
 obtain⟨D,n,_,ho,h1,h2⟩:=A;refine wpList_plain X λK' O=>?_
 obtain⟨v,ps,F,U⟩:=ho.lookup lawS Z Y (zd:=.held z) (zp:=[]) rfl (keyS hk);simp only[heldV,Option.some.injEq,Prod.mk.injEq]at U;have I:=U.1;have e:v=(g (kb k)).getD z:=by
  rcases hgk:g (kb k)with _|v'
  .have V:=h1 (kb k);rw[hgk]at V;rw[ch V]at I
   simpa using I
  .rw[h2 _ _ hgk]at I
   simpa using I
 unfold Oper.wp;simp[execOp,J,hm,hx,F,Result.andThen];rw[e,hu];exact O _ _ hK
def updS (g:B ak->ag ae)(x:B ak)(v:ae):B ak->ag ae:=λy=>if y=x then C v else g y
theorem VMap.put {I:ai}{g:B ak->ag ae}(U:n<=N)(J:w.ownsMap af 9 heldV o n D)(O:∀ x,has D (.string x)=(g x).isSome)(R:∀ x v,g x=C v->∀ z,D.atKey (.string x) z=.held v)
  (x:B ak) (v:ae) (A:I.ownsMap af 9 heldV o (n+1) (D.put (.string x) (.held v))):VMap I o (updS g x v) (N+1):=by
 refine⟨_,n+1,by omega,A,λy=>?_,λy u h z=>?_⟩
 .unfold updS;split
  .rename_i e;subst e;rw[bt J.isMap (isKeyS _) _];rfl
  .rename_i e;rw[bs (by intro F;exact e (by simpa using F))];exact O y
 .unfold updS at h;split at h
  .rename_i e;subst e;cases h;rw[br J.isMap (isKeyS _) _ _]
  .rename_i e;rw[bq (by intro F;exact e (by simpa using F))];exact R y u h z
theorem zCA {w:ai}{z:au am}{y:B am}{o:am}{a:Act}{Q:Exit->Act->ai->Prop}(O:o.guard=a0)(m x v:be)(t e:ay)(I:o.op=cb t m x v)(R:Tryz.prog.underlying t=C (.map 9 e))
  (A:E) (g:B ak->ag ae) (N:E) (hN:N<ah) (k:ab) (U:k.size<=ah) (u:ae) (V:a.eval m=.map (C A)) (F:VMap w A g N) (X:a.eval x=.string k) (Y:a.eval v=u)
  (Z:∀ w',VMap w' A (updS g (kb k) u) (N+1)->Fr (Is A) w w'->ar af z Q y (a.put o.dst undef) w'):ar af z Q (o::y) a w:=by
 obtain⟨D,n,hn,J,h1,h2⟩:=F;exact ck w O m x v t I 9 e lawS R heldV A n D V J (by omega) _ _ _ X Y (keyS U) (.held u) [] rfl (λw' h h'=>Z w' (VMap.put hn J h1 h2 _ _ h) (bv h'))
def leS : B ak->B ak->Bool:=λx y=>decide (x<=y)
def AscS (l:B (B ak)):Prop:=l.Pairwise (λx y=>leS x y=al/\x≠y)
theorem zGP (h:leS x y=al)(o:leS y x=al):x=y:=by
 unfold leS at *;simp only[ci]at *;exact List.le_antisymm h o
theorem zKO {z:B ak}(h:leS x y=al)(o:leS y z=al):leS x z=true:=by
 unfold leS at *;simp only[ci]at *;exact List.le_trans h o
theorem zKP (x y:B ak):(leS x y||leS y x)=true:=by
 unfold leS;simp only[Bool.or_eq_true,ci];exact List.le_total x y
theorem AscS.ext : ∀ {l l':B (B ak)},AscS l->AscS l'->(∀ x,x∈l↔x∈l')->l=l'
 | [],[],_,_,_=>rfl
 | [],y::t,_,_,h=>by have:=(h y).2 (by simp);simp at this
 | x::s,[],_,_,h=>by have:=(h x).1 (by simp);simp at this
 | x::s,y::t,D,F,h=>by
  have a1:=List.pairwise_cons.1 D;have v:=List.pairwise_cons.1 F;have I:=(h x).1 (by simp);have J:=(h y).2 (by simp);have e:x=y:=by
   rcases List.mem_cons.1 I with o|o
   .exact o
   .rcases List.mem_cons.1 J with A|A
    .exact A.symm
    .exact zGP (a1.1 y A).1 (v.1 x o).1
  subst e;refine congrArg _ (AscS.ext a1.2 v.2 λz=>?_);constructor
  .intro u;rcases List.mem_cons.1 ((h z).1 (by simp[u]))with o|o
   .subst o;exact absurd rfl (a1.1 z u).2
   .exact o
  .intro u;rcases List.mem_cons.1 ((h z).2 (by simp[u]))with o|o
   .subst o;exact absurd rfl (v.1 z u).2
   .exact o
theorem zEN {l:B (B ak)}(h:l.Nodup):AscS (l.mergeSort leS):=by
 have u:=List.pairwise_mergeSort (le:=leS) (λ_ _ _ h o=>zKO h o) (λa b=>zKP a b) l;have o:(l.mergeSort leS).Nodup:=(cs l _).nodup_iff.2 h;exact(u.and o).imp (λh=>h)
theorem zDz {R:ae->ag (ap H×B bo)}{D:ap H}(h:w.ownsMap P k R b n D)(F:P.underlying k=C .string)(x:B ak):
  x∈bf D↔has D (.string x)=true:=by
 obtain⟨J,rfl,o⟩:=h.keysOf;rw[has_eq,List.any_eq_true];show x∈J.map (λp=>Go.strOf p.1)↔_
 rw[List.mem_map];constructor
 .rintro ⟨p,u,rfl⟩;obtain⟨v,A⟩:=o p u;obtain⟨y,_,z,_⟩:=bn F A;exact⟨p,u,by rw[z];simp[ct,Go.strOf]⟩
 .rintro ⟨p,u,I⟩;obtain⟨v,A⟩:=o p u;obtain⟨y,_,z,_⟩:=bn F A;rw[z]at I;exact⟨p,u,by rw[z];simpa [ct,Go.strOf]using I⟩
theorem zCX {R:ae->ag (ap H×B bo)}{D:ap H}(h:w.ownsMap P k R b n D)(N:Keyed P k)(I:P.underlying k=C .string):
  (bf D).Nodup:=by
 obtain⟨J,rfl,o⟩:=h.keysOf;obtain⟨u,e,O⟩:=h.tidy N;obtain rfl:J=u:=by simpa using e
 show (J.map λp=>Go.strOf p.1).Nodup
 refine List.pairwise_map.2 (O.imp_of_mem fun {p U} y z A e=>A ?_);obtain⟨v,V⟩:=o p y;obtain⟨a,_,X,_⟩:=bn I V;obtain⟨Z,F⟩:=o U z;obtain⟨b,_,Y,_⟩:=bn I F;rw[X,Y]at e ⊢;exact congrArg _ e
theorem zDg (D:ap H):(bf D).length<=bh D:=by
 cases D<;>simp[bf,bh]
theorem sortsS (m:E):AnyZ.SortsIn af Tryz.sortedS_ren ba m:=
 ⟨λu v h z W A o y=>callsIn_wide.2 (AnyM.slices_Sort_string cw u v h z W A o y),
  λp h W=>callsIn_wide.2 (AnyM.slices_Sort_string_none cw p h W)⟩
theorem zOp (h:ag E)(w:ai):Calls af 208 #[.map h] w λe w'=>e=.returned (.func (.func 248) #[] #[az (C ⟨w,0,a0⟩)])/\w'=w.alloc (ax #[.map h] 283):=
 (callsIn_wide (n:=5)).1 (AnyZ.keys_in cu ba 5 trivial rfl h w)
theorem zLy (X J:E)(g:B ak->ag ae)(N:E)(w:ai)(hs:VMap w X g N)(hN:N<=1099511627776)(hB:w.cell? ⟨J,0,a0⟩=C (.map (C X)))(Y:J<(w:E)):
  Calls af 207 #[.func (.func 248) #[] #[az (C ⟨J,0,a0⟩)]] w λe w'=>
   (∃ a F u,e=.returned (.slice a u.length F)/\Strs w' a F u/\AscS (u.map kb)/\(∀ x:ab,x∈u↔(g (kb x)).isSome=al)/\u.length<=N/\∀ ad,a=C ad->(w:E)<=ad.block)/\Fr No w w':=by
 obtain⟨D,n,hn,o,hf,_⟩:=hs;have a3:=o.size_le;have R:bh D<=maxLen:=by unfold ah;omega
 have I:bh D*16<=140737488355328:=by omega
 have U:=zDz o bj;have Z:=zCX o lawS bj;have a2:=zDg D;have V:SeqGives ba 2 af 248 #[az (C ⟨J,0,a0⟩)] encStr (λO=>O.Perm (bf D)) (bh D) w:=
  AnyZ.keys_gives (ρ:=Tryz.keysM_ren) { cu with } ba _ trivial rfl (by omega) J X n D _ Y hB o
 have cS:=AnyZ.sorted_in Tryz.sortedS ba 5 trivial trivial trivial trivial rfl (by omega) (sortsS _) (enters_of Tryz.func247 (by kernel_rfl) rfl) 248 #[az (C ⟨J,0,a0⟩)] trivial (enters_of Tryz.func248 (by kernel_rfl) rfl) _ _ R I _ V;refine((callsIn_wide (n:=5)).1 cS).mono ?_;rintro e w' ⟨v,O,rfl,z,A,_,hb⟩;have hp:(O.mergeSort (λx y=>decide (x<=y))).Perm (bf D):=(cs O _).trans z;obtain⟨L,hL⟩:∃ L,L=(O.mergeSort (λx y=>decide (x<=y))):=⟨_,rfl⟩
 have hl:(L.map bk).length=O.length:=by rw[hL];simp
 have e1:L.map encStr=(L.map bk).map Value.string:=by rw[cr];rfl
 rw[<-hL]at hp A;rw[<-hl,e1]at A;obtain⟨a,F,rfl,h1,h2⟩:=Strs.of_own A;have e2:(L.map bk).map kb=L:=by
  rw[cr];have:kb∘bk=id:=by funext x;exact zI6 x
  rw[this,List.map_id]
 refine⟨⟨a,F,L.map bk,rfl,h1,?_,λx=>?_,?_,h2⟩,Fr.of_below_size hb⟩
 .rw[e2,hL];exact zEN (z.nodup_iff.2 Z)
 .rw[<-hf,<-U,<-hp.mem_iff];constructor
  .intro h;obtain⟨y,hy,rfl⟩:=List.mem_map.1 h
   rwa [zI6]
  .intro h;exact List.mem_map.2 ⟨_,h,zFo x⟩
 .rw[List.length_map,hp.length_eq];omega
theorem zIA: laidOutB af=true:=by kernel_rfl
theorem rowPl: (278:ay)<Tryz.prog.types.size:=cj (by kernel_rfl)
theorem widePl: (match Tryz.prog.underlying 278 with|some (.array _ _)|some (.struct _)=>al|_=>aw)=true:=by kernel_rfl
theorem lawP: Keyed af 278:=cl (deep_law_laid zIA (m:=3) (by omega) rowPl (by kernel_rfl) widePl)
theorem typePl: Tryz.prog.keyType 278=true:=by kernel_rfl
theorem zKy: Tryz.prog.cellsOf 278=2:=by kernel_rfl
theorem zFk: Tryz.prog.cellsOf 9=1:=by kernel_rfl
theorem zMQ: Tryz.prog.cellsOf 3=1:=by kernel_rfl
theorem sizePl: ∃ n,Tryz.prog.types.size=n+1:=⟨Tryz.prog.types.size-1,by have:0<Tryz.prog.types.size:=cj (by kernel_rfl);omega⟩
theorem litsPl (d:E)(h o:ae):Tryz.prog.keyLits (d+2) 278 [h,o]=(Tryz.prog.keyLits (d+1) 9 [h]).bind λa=>(Tryz.prog.keyLits (d+1) 3 [o]).map λb=>a++b:=by
 rw[Program.keyLits.eq_def];simp only[bi,zKy];simp[zFk,zMQ];cases Tryz.prog.keyLits (d+1) 9 [h]<;>cases Tryz.prog.keyLits (d+1) 3 [o]<;>simp
theorem zFX (d:E)(v:ae)(h:B Lit):Tryz.prog.keyLits (d+1) 9 [v]=C h↔∃ s,v=.string s/\s.size<=ah/\h=[.string s.data.toList]:=by
 rw[Program.keyLits.eq_def];simp only[bj];cases v<;>simp;intro _;exact eq_comm
theorem zKM (d:E)(v:ae)(o:B Lit):Tryz.prog.keyLits (d+1) 3 [v]=C o↔∃ n,v=.int K n/\(aq K n).wf=al/\o=[.int K n]:=by
 rw[Program.keyLits.eq_def];simp only[Tryz.underlying3];cases v<;>simp;rename_i u n;constructor
 .rintro ⟨⟨rfl,h⟩,rfl⟩;exact⟨n,⟨rfl,rfl⟩,h,rfl⟩
 .rintro ⟨y,⟨rfl,rfl⟩,h,rfl⟩;exact⟨⟨rfl,h⟩,rfl⟩
def plL (x:ab×aj):Lit:=.string (keyBytes [.string x.1.data.toList,.int K x.2])
theorem zII (h:au ae):(cx h).formed af 278=(h.size==2):=by
 simp[cf,bi,zKy]
theorem keyP {n:aj}(o:s.size<=ah)(u:(aq K n).wf=al):bb af 278 (ao #[.string s,.int K n])=C (plL (s,n)):=by
 obtain⟨d,v⟩:=sizePl;unfold bb;simp only[bi,typePl,zII];rw[v];have y:=(zFX d (.string s) _).2 ⟨s,rfl,o,rfl⟩;have z:=(zKM d (.int K n) _).2 ⟨n,rfl,u,rfl⟩;have h:=litsPl d (.string s) (.int K n);rw[y,z]at h;simp[ce,h,plL]
theorem zIB {o:ae}{z:Lit}(h:bb af 278 o=C z):∃ s n,o=ao #[.string s,.int K n]/\s.size<=ah/\(aq K n).wf=true:=by
 obtain⟨d,A⟩:=sizePl;unfold bb at h;simp only[bi,typePl]at h;rw[A]at h;split at h
 .rename_i u;simp only[Bool.true_and]at u;cases o with
  | agg D=>
   rw[zII,beq_iff_eq]at u;obtain⟨F⟩:=D
   match F,u with
   | [v0,y],_=>
    have v:=litsPl d v0 y;simp only[ce]at h;rcases h0:Tryz.prog.keyLits (d+1) 9 [v0]with _|a
    .rw[h0]at v;simp[v]at h
    .rcases h1:Tryz.prog.keyLits (d+1) 3 [y]with _|b
     .rw[h0,h1]at v;simp[v]at h
     .obtain⟨s,rfl,I,_⟩:=(zFX d v0 a).1 h0;obtain⟨n,rfl,J,_⟩:=(zKM d y b).1 h1;exact⟨s,n,rfl,I,J⟩
  | _=>simp[cf,bi]at u
 .cases h
theorem zG3 {x y:ab×aj}(A:x.1.size<=ah)(u:(aq K x.2).wf=al)(D:y.1.size<=ah)(v:(aq K y.2).wf=al)(h:plL x=plL y):x=y:=by
 have z:=keyP A u;have F:=keyP D v;rw[h]at z;have o:=lawP.inj z F;simp at o;obtain⟨a,b⟩:=x;obtain⟨c,d⟩:=y;simp only at o;rw[o.1,o.2]
def PMap (w:ai)(mb:E)(g:ab×aj->ag ae)(N:E):Prop:=
 ∃ (D:ap ae) (n:E),n<=N/\w.ownsMap af 278 heldV mb n D/\∀ x:ab×aj,x.1.size<=ah->(aq K x.2).wf=al->has D (plL x)=(g x).isSome/\∀ v,g x=C v->∀ z,D.atKey (plL x) z=.held v
theorem PMap.lt (h:PMap w o g N):o<(w:E):=by obtain⟨D,n,_,u,_⟩:=h;exact u.lt
theorem PMap.fr (h:PMap w o g N)(u:Fr S w w')(v:¬ S o):PMap w' o g N:=by
 obtain⟨D,n,y,z,r⟩:=h;exact⟨D,n,y,u.ownsMap z v,r⟩
theorem PMap.made (w:ai):PMap (w.alloc (.map #[] 0)) (w:E) (λ_=>a0) 0:=⟨.map [],0,bd _,cg _ _ _ _,λ_ _ _=>⟨rfl,λ_ h=>by cases h⟩⟩
theorem PMap.mono (h:PMap w o g N)(u:N<=M):PMap w o g M:=by
 obtain⟨D,n,v,r⟩:=h;exact⟨D,n,by omega,r⟩
theorem zFc {u:Lit}{o:ag ae}{A:B bo}(F:has D u=o.isSome)(I:∀ v,o=C v->∀ z,D.atKey u z=.held v)(y:heldV v=C (D.atKey u (.held z),A)):v=o.getD z:=by
 simp only[heldV,Option.some.injEq,Prod.mk.injEq]at y;have h:=y.1;rcases o with _|J
 .rw[ch F]at h
  simpa using h
 .rw[I _ rfl]at h
  simpa using h
theorem PMap.look (h:PMap w u g N)(F:(bg e).run af w=.ok z w)(I:Tryz.prog.underlying t=C (.map 278 e))
  {s:ab} {n:aj} (y:s.size<=ah) (A:(aq K n).wf=al):(bw t (.map (C u)) (ao #[.string s,.int K n]) aw).run af w=.ok ((g (s,n)).getD z) w:=by
 obtain⟨D,m,_,J,O⟩:=h;obtain⟨R,U⟩:=O (s,n) y A;obtain⟨v,X,o,V⟩:=J.lookup lawP I F (zd:=.held z) (zp:=[]) rfl (keyP y A);rw[o,zFc R U V]
theorem zEZ {u:au am}{h:B am}{o:am}{a:Act}{Q:Exit->Act->ai->Prop}(U:o.guard=a0)(m x:be)(t e:ay)(z:ae)(V:(bg e).run af w=.ok z w)(A:o.op=bz t m x al)(X:Tryz.prog.underlying t=C (.map 278 e))
  (F:E) (g:ab×aj->ag ae) (N:E) (s:ab) (n:aj) (J:s.size<=ah) (O:(aq K n).wf=al) (Y:a.eval m=.map (C F)) (y:PMap w F g N) (Z:a.eval x=ao #[.string s,.int K n])
  (v:ae) (hv:(g (s,n)).getD z=v) (b:Bool) (hb:(g (s,n)).isSome=b)
  (hK:ar af u Q h (a.put o.dst (.tuple #[v,.bool b])) w):ar af u Q (o::h) a w:=by
 obtain⟨D,k,_,ho,hh⟩:=y;obtain⟨R,h2⟩:=hh (s,n) J O;refine cy w U m x t A 278 e lawP X heldV V (.held z) [] rfl F k D Y ho _ _ Z (keyP J O) (λv1 ps I=>?_);rw[R,zFc R h2 I,hv,hb];exact hK
theorem zHF (x:ab×aj):WideAt.IsKeyLit (plL x):=trivial
def updP (g:ab×aj->ag ae)(x:ab×aj)(v:ae):ab×aj->ag ae:=λy=>if y=x then C v else g y
theorem zDY {w:ai}{F:au am}{A:B am}{o:am}{a:Act}{Q:Exit->Act->ai->Prop}(hg:o.guard=a0)(m x v:be)(t e:ay)(V:o.op=cb t m x v)(ht:Tryz.prog.underlying t=C (.map 278 e))
  (I:E) (g:ab×aj->ag ae) (N:E) (hN:N<ah) (s:ab) (n:aj) (Y:s.size<=ah) (Z:(aq K n).wf=al) (u:ae) (hm:a.eval m=.map (C I)) (J:PMap w I g N) (hx:a.eval x=ao #[.string s,.int K n]) (O:a.eval v=u)
  (hK:∀ w',PMap w' I (updP g (s,n) u) (N+1)->Fr (Is I) w w'->ar af F Q A (a.put o.dst undef) w'):ar af F Q (o::A) a w:=by
 obtain⟨D,k,hk,X,hh⟩:=J;refine ck w hg m x v t V 278 e lawP ht heldV I k D hm X (by omega) _ _ _ hx O (keyP Y Z) (.held u) [] rfl (λw' h h'=>hK w' ⟨_,k+1,by omega,h,λy hy R=>?_⟩ (bv h'));obtain⟨h1,h2⟩:=hh y hy R;unfold updP;by_cases e:y=(s,n)
 .subst e;rw[if_pos rfl];exact⟨by rw[bt X.isMap (zHF _) _];rfl,λv O z=>by cases O;rw[br X.isMap (zHF _) _ _]⟩
 .rw[bm e];have U:plL y≠plL (s,n):=λhe=>e (zG3 hy R Y Z he)
  exact⟨by rw[bs U];exact h1,λv O z=>by rw[bq U];exact h2 v O z⟩
def grpD (l:B aj):ap Unit:=if l=[]then .nil else .slice (Go.ChangeShapes.lits K l) []
def GMap (w:ai)(base mb:E)(f:B ak->B aj)(N:E):Prop:=
 ∃ (D:ap Unit) (n:E),n<=N/\w.ownsGroups af 9 base 3 K mb n D/\(∀ x,D.atKey (.string x) .nil=grpD (f x))/\∀ x,has D (.string x)=!(f x).isEmpty
theorem GMap.made (h:w.heap[u]?=C (.map #[] 0))(v:u<o):GMap w o u (λ_=>[]) 0:=
 ⟨.map [],0,bd _,⟨#[],0,h,⟨by simp,Go.MapKept.stamped_empty 0,by simp⟩,bd _,rfl,v,by simp,by simp⟩,λ_=>rfl,λ_=>rfl⟩
theorem GMap.lt (h:GMap w o u f N):u<(w:E):=by
 obtain⟨D,n,_,⟨y,c,v,_⟩,_⟩:=h;exact(Array.getElem?_eq_some_iff.1 v).1
theorem zL0 {a b:B aj}(h:Go.ChangeShapes.lits (H:=Unit) K a=Go.ChangeShapes.lits K b):a=b:=by
 unfold Go.ChangeShapes.lits at h;exact(List.map_inj_right (λx y o=>by simpa using o)).1 h
theorem zeroIs (w:ai):(bg 22).run af w=.ok (.slice a0 0 0) w:=by kernel_rfl
theorem GMap.look {A R:E}(h:GMap w A R f N)(hN:N<ah){x:ab}(hx:x.size<=ah):
  ∃ v,(∀ W:ai,W.heap[R]?=w.heap[R]?->(bw 281 (.map (C R)) (.string x) aw).run af W=.ok v W)/\w.ownsInts A 3 K v (f (kb x))/\(f (kb x)).length<=N/\
   (∀ (y:aj),(aq K y).wf=al->∀ (w1:ai) (U:ae),w.grownBy w1 v.ownBlock->w1.ownsInts A 3 K U (f (kb x)++[y])->(U.ownBlock=v.ownBlock\/∃ g,U.ownBlock=C g/\(w:E)<=g)->
    ∃ w2,(Instr.mapUpdate 281 (.map (C R)) (.string x) U).run af w1=.ok () w2/\GMap w2 A R (λz=>if z=kb x then f (kb x)++[y]else f z) (N+1)/\w1.grownBy w2 (C R)):=by
 obtain⟨D,n,hn,I,h1,h2⟩:=h;have J:=keyS hx;obtain⟨v,zs,O,o,a2,a7,V⟩:=I.at lawS bp (zeroIs w) (by omega) J;have a5:zs=f (kb x):=by
  rw[h1 (kb x)]at o;unfold grpD at o;rcases a2.datum (H:=Unit)with⟨X,e2⟩|X
  .rw[X]at o;split at o
   .rename_i h0;rw[e2,h0]
   .cases o
  .rw[X]at o;split at o
   .cases o
   .injection o with h3
    exact(zL0 h3).symm
 subst a5;refine⟨v,λW hW=>?_,a2,by omega,λy hy w1 U hg a3 a4=>?_⟩
 .obtain⟨es,u,hb,F,_⟩:=I;rcases bx aw lawS bp (zeroIs w) hb F J with⟨Y,r2,_⟩|⟨e0,y0,m0,k0,Y,_⟩
  .rcases bx aw lawS bp (zeroIs W) (hW.trans hb) F J with⟨r3,_,_⟩|⟨X,y1,m1,k1,r3,_⟩
   .rw[O]at Y;rw[r3];have:v=.slice a0 0 0:=by simpa using Y
    rw[this];rfl
   .exact absurd k1 (r2 X m1)
  .rcases bx aw lawS bp (zeroIs W) (hW.trans hb) F J with⟨_,r2,_⟩|⟨X,y1,m1,k1,r3,_⟩
   .exact absurd k0 (r2 e0 m0)
   .have he:e0=X:=entry_eq_of_key ((Go.MapKept.stamped_iff es u).1 F.stamped).2.2 m0 m1 (k0.trans k1.symm);rw[O]at Y;have:v=e0.val:=by simpa using Y
    rw[r3,this,he];rfl
 .obtain⟨w2,Y,r2,r3⟩:=V w1 U _ hg a3 (by simp;omega) a4;refine⟨w2,Y,⟨_,n+1,by omega,r2,λz=>?_,λz=>?_⟩,r3⟩
  .dsimp only;have Z:IsMap D:=by obtain⟨es,u,_,_,_,rfl,_⟩:=I;exact⟨_,rfl⟩
   have a6:rowDatum (H:=Unit) K U (f (kb x)++[y])=.slice (Go.ChangeShapes.lits K (f (kb x)++[y])) []:=a3.datum_pos (by simp);by_cases e:z=kb x
   .subst e;rw[br Z (isKeyS _) _ _,a6,if_pos rfl,grpD,bm (by simp)]
   .rw[bq (by intro e';exact e (by simpa using e')),h1,bm e]
  .dsimp only;have Z:IsMap D:=by obtain⟨es,u,_,_,_,rfl,_⟩:=I;exact⟨_,rfl⟩
   by_cases e:z=kb x
   .subst e;rw[bt Z (isKeyS _) _,if_pos rfl];simp
   .rw[bs (by intro e';exact e (by simpa using e')),h2,bm e]
theorem GMap.grown {row:ag E}(h:GMap w o u f N)(y:w.grownBy w' row)(z:C u≠row)(A:∀ j,row=C j->j<o):GMap w' o u f N:=by
 obtain⟨D,n,F,v,I,J⟩:=h;exact⟨D,n,F,v.kept y z (v.rowsAbove A),I,J⟩
theorem rowAq: (99:ay)<Tryz.prog.types.size:=cj (by kernel_rfl)
theorem wideAq: (match Tryz.prog.underlying 99 with|some (.array _ _)|some (.struct _)=>al|_=>aw)=true:=by kernel_rfl
theorem lawQ: Keyed af 99:=cl (deep_law_laid zIA (m:=3) (by omega) rowAq (by kernel_rfl) wideAq)
theorem typeAq: Tryz.prog.keyType 99=true:=by kernel_rfl
theorem zKz: Tryz.prog.cellsOf 99=2:=by kernel_rfl
theorem litsAq (d:E)(h o:ae):Tryz.prog.keyLits (d+2) 99 [h,o]=(Tryz.prog.keyLits (d+1) 9 [h]).bind λa=>(Tryz.prog.keyLits (d+1) 9 [o]).map λb=>a++b:=by
 rw[Program.keyLits.eq_def];simp only[cd,zKz];simp[zFk,zFk];cases Tryz.prog.keyLits (d+1) 9 [h]<;>cases Tryz.prog.keyLits (d+1) 9 [o]<;>simp
def aqL (x:ab×ab):Lit:=.string (keyBytes [.string x.1.data.toList,.string x.2.data.toList])
theorem zMG (h:au ae):(cx h).formed af 99=(h.size==2):=by
 simp[cf,cd,zKz]
theorem keyQ {n:ab}(o:s.size<=ah)(u:n.size<=ah):bb af 99 (ao #[.string s,.string n])=C (aqL (s,n)):=by
 obtain⟨d,v⟩:=sizePl;unfold bb;simp only[cd,typeAq,zMG];rw[v];have y:=(zFX d (.string s) _).2 ⟨s,rfl,o,rfl⟩;have z:=(zFX d (.string n) _).2 ⟨n,rfl,u,rfl⟩;have h:=litsAq d (.string s) (.string n);rw[y,z]at h;simp[ce,h,aqL]
theorem zLD {x y:ab×ab}(A:x.1.size<=ah)(u:x.2.size<=ah)(D:y.1.size<=ah)(v:y.2.size<=ah)(h:aqL x=aqL y):x=y:=by
 have z:=keyQ A u;have F:=keyQ D v;rw[h]at z;have o:=lawQ.inj z F;simp at o;obtain⟨a,b⟩:=x;obtain⟨c,d⟩:=y;simp only at o;rw[o.1,o.2]
def QMap (w:ai)(mb:E)(g:ab×ab->ag ae)(N:E):Prop:=
 ∃ (D:ap ae) (n:E),n<=N/\w.ownsMap af 99 heldV mb n D/\∀ x:ab×ab,x.1.size<=ah->x.2.size<=ah->has D (aqL x)=(g x).isSome/\∀ v,g x=C v->∀ z,D.atKey (aqL x) z=.held v
theorem QMap.lt {g:ab×ab->ag ae}(h:QMap w o g N):o<(w:E):=by obtain⟨D,n,_,u,_⟩:=h;exact u.lt
theorem QMap.fr {g:ab×ab->ag ae}(h:QMap w o g N)(u:Fr S w w')(v:¬ S o):QMap w' o g N:=by
 obtain⟨D,n,y,z,r⟩:=h;exact⟨D,n,y,u.ownsMap z v,r⟩
theorem QMap.made (w:ai):QMap (w.alloc (.map #[] 0)) (w:E) (λ_=>a0) 0:=⟨.map [],0,bd _,cg _ _ _ _,λ_ _ _=>⟨rfl,λ_ h=>by cases h⟩⟩
theorem QMap.look {g:ab×ab->ag ae}(h:QMap w u g N)(F:(bg e).run af w=.ok z w)(I:Tryz.prog.underlying t=C (.map 99 e))
  {s:ab} {n:ab} (y:s.size<=ah) (A:n.size<=ah):(bw t (.map (C u)) (ao #[.string s,.string n]) aw).run af w=.ok ((g (s,n)).getD z) w:=by
 obtain⟨D,m,_,J,O⟩:=h;obtain⟨R,U⟩:=O (s,n) y A;obtain⟨v,X,o,V⟩:=J.lookup lawQ I F (zd:=.held z) (zp:=[]) rfl (keyQ y A);rw[o,zFc R U V]
theorem zFa (x:ab×ab):WideAt.IsKeyLit (aqL x):=trivial
def updQ (g:ab×ab->ag ae)(x:ab×ab)(v:ae):ab×ab->ag ae:=λy=>if y=x then C v else g y
theorem zDX {w:ai}{F:au am}{A:B am}{o:am}{a:Act}{Q:Exit->Act->ai->Prop}(hg:o.guard=a0)(m x v:be)(t e:ay)(V:o.op=cb t m x v)(ht:Tryz.prog.underlying t=C (.map 99 e))
  (I:E) (g:ab×ab->ag ae) (N:E) (hN:N<ah) (s:ab) (n:ab) (Y:s.size<=ah) (Z:n.size<=ah) (u:ae) (hm:a.eval m=.map (C I)) (J:QMap w I g N) (hx:a.eval x=ao #[.string s,.string n]) (O:a.eval v=u)
  (hK:∀ w',QMap w' I (updQ g (s,n) u) (N+1)->Fr (Is I) w w'->ar af F Q A (a.put o.dst undef) w'):ar af F Q (o::A) a w:=by
 obtain⟨D,k,hk,X,hh⟩:=J;refine ck w hg m x v t V 99 e lawQ ht heldV I k D hm X (by omega) _ _ _ hx O (keyQ Y Z) (.held u) [] rfl (λw' h h'=>hK w' ⟨_,k+1,by omega,h,λy hy R=>?_⟩ (bv h'));obtain⟨h1,h2⟩:=hh y hy R;unfold updQ;by_cases e:y=(s,n)
 .subst e;rw[if_pos rfl];exact⟨by rw[bt X.isMap (zFa _) _];rfl,λv O z=>by cases O;rw[br X.isMap (zFa _) _ _]⟩
 .rw[bm e];have U:aqL y≠aqL (s,n):=λhe=>e (zLD hy R Y Z he)
  exact⟨by rw[bs U];exact h1,λv O z=>by rw[bq U];exact h2 v O z⟩
structure Src where
 at_:aj
 d:Dev
 o:ab
 r:aj
def Src.vals (s:Src):au ae:=#[.int K s.at_,.int K s.d.index,.int K s.d.parent,.string s.d.name,.string s.d.orig,.string s.d.sub,.string s.d.drv,.string s.d.ali,.int K s.d.kind,.int K s.d.num,.slice s.d.aa s.d.an s.d.ac,.string s.o,.int K s.r]
structure SrcB (W:ai)(b o:E)(s:Src):Prop where
 c0:W.cell? ⟨b,o,a0⟩=C (.int K s.at_)
 c1:W.cell? ⟨b,o+1,a0⟩=C (.int K s.d.index)
 c2:W.cell? ⟨b,o+2,a0⟩=C (.int K s.d.parent)
 c3:W.cell? ⟨b,o+3,a0⟩=C (.string s.d.name)
 c4:W.cell? ⟨b,o+4,a0⟩=C (.string s.d.orig)
 c5:W.cell? ⟨b,o+5,a0⟩=C (.string s.d.sub)
 c6:W.cell? ⟨b,o+6,a0⟩=C (.string s.d.drv)
 c7:W.cell? ⟨b,o+7,a0⟩=C (.string s.d.ali)
 c8:W.cell? ⟨b,o+8,a0⟩=C (.int K s.d.kind)
 c9:W.cell? ⟨b,o+9,a0⟩=C (.int K s.d.num)
 c10:W.cell? ⟨b,o+10,a0⟩=C (.slice s.d.aa s.d.an s.d.ac)
 c11:W.cell? ⟨b,o+11,a0⟩=C (.string s.o)
 c12:W.cell? ⟨b,o+12,a0⟩=C (.int K s.r)
structure SrcB0 (W:ai)(b:E)(s:Src):Prop where
 c0:W.cell? ⟨b,0,a0⟩=C (.int K s.at_)
 c1:W.cell? ⟨b,1,a0⟩=C (.int K s.d.index)
 c2:W.cell? ⟨b,2,a0⟩=C (.int K s.d.parent)
 c3:W.cell? ⟨b,3,a0⟩=C (.string s.d.name)
 c4:W.cell? ⟨b,4,a0⟩=C (.string s.d.orig)
 c5:W.cell? ⟨b,5,a0⟩=C (.string s.d.sub)
 c6:W.cell? ⟨b,6,a0⟩=C (.string s.d.drv)
 c7:W.cell? ⟨b,7,a0⟩=C (.string s.d.ali)
 c8:W.cell? ⟨b,8,a0⟩=C (.int K s.d.kind)
 c9:W.cell? ⟨b,9,a0⟩=C (.int K s.d.num)
 c10:W.cell? ⟨b,10,a0⟩=C (.slice s.d.aa s.d.an s.d.ac)
 c11:W.cell? ⟨b,11,a0⟩=C (.string s.o)
 c12:W.cell? ⟨b,12,a0⟩=C (.int K s.r)
theorem SrcB0.of {s:Src}{T:ay}{o:E×E}(h:W.heap[b]?=C (ax s.vals T o)):SrcB0 W b s:=
 ⟨zB h 0,zB h 1,zB h 2,zB h 3,zB h 4,zB h 5,zB h 6,zB h 7,zB h 8,zB h 9,zB h 10,zB h 11,zB h 12⟩
structure Srcs (w:ai)(a:ag av)(cap:E)(L:B Src):Prop where
 len:L.length<=cap
 max:cap<=ah
 isNil:a=a0->L=[]/\cap=0
 cell:∀ ad,a=C ad->L≠[]->ad.spot=a0/\ad.block<(w:E)/\∀ i s,L[i]?=C s->∀ j,j<13->w.cell? ⟨ad.block,ad.off+(i*13+j),a0⟩=s.vals[j]?
theorem Srcs.elem {y:E}{L:B Src}(h:Srcs w a y L){k:E}(v:k<L.length):
  ∃ b u s,a=C ⟨b,u,a0⟩/\L[k]?=C s/\SrcB w b (u+k*13) s/\b<(w:E):=by
 cases a with
 | none=>have:=(h.isNil rfl).1;subst this;simp at v
 | some F=>
  obtain⟨b,u,I⟩:=F;obtain⟨z,A,D⟩:=h.cell _ rfl (by intro e;subst e;simp at v);simp only at z A D;subst z;have o:=D k L[k] (co v);refine⟨b,u,L[k],rfl,co v,⟨?_,?_,?_,?_,?_,?_,?_,?_,?_,?_,?_,?_,?_⟩,A⟩
  .exact o 0 (by omega)
  .exact o 1 (by omega)
  .exact o 2 (by omega)
  .exact o 3 (by omega)
  .exact o 4 (by omega)
  .exact o 5 (by omega)
  .exact o 6 (by omega)
  .exact o 7 (by omega)
  .exact o 8 (by omega)
  .exact o 9 (by omega)
  .exact o 10 (by omega)
  .exact o 11 (by omega)
  .exact o 12 (by omega)
theorem Srcs.lenmax {L:B Src}(h:Srcs w a o L):L.length<=9223372036854775807:=by
 have v:=h.len;have u:=h.max;unfold ah at u;omega
theorem Srcs.fr {L:B Src}(h:Srcs w a o L)(y:Fr S w w')(D:∀ u,a=C u->L≠[]->¬ S u.block):Srcs w' a o L:=
 ⟨h.len,h.max,h.isNil,λu e v=>by
  obtain⟨F,I,J⟩:=h.cell u e v;refine⟨F,Nat.lt_of_lt_of_le I y.size,λi s N j z=>?_⟩;have A:=J i s N j z;have O:j<s.vals.size:=z;rw[Array.getElem?_eq_getElem O]at A ⊢;exact y.cell A (D u e v)⟩
theorem Srcs.nil (w:ai):Srcs w a0 0 []:=⟨by simp,by simp,λ_=>⟨rfl,rfl⟩,λ_ e _=>by cases e⟩
def sflat (L:B Src):B ae:=L.flatMap (λs=>s.vals.toList)
theorem zCt (L:B Src)(s:Src):sflat (L++[s])=sflat L++s.vals.toList:=by simp[sflat]
theorem zCP (s:Src):∀ u∈s.vals.toList,u.oneCell'=true:=by
 intro u h;simp[Src.vals]at h;rcases h with rfl|rfl|rfl|rfl|rfl|rfl|rfl|rfl|rfl|rfl|rfl|rfl|rfl<;>rfl
theorem zGA (L:B Src):(sflat L).length=L.length*13:=by
 induction L with
 | nil=>rfl
 | cons x t h=>
  have:sflat (x::t)=x.vals.toList++sflat t:=by simp[sflat]
  rw[this,cp,h];simp[Src.vals];omega
theorem zFE : ∀ (L:B Src) (i:E) (s:Src),L[i]?=C s->∀ j,j<13->(sflat L)[i*13+j]?=s.vals[j]?
 | [],i,s,h,j,o=>by simp at h
 | x::t,0,s,h,j,o=>by
  simp at h;subst h;have:sflat (x::t)=x.vals.toList++sflat t:=by simp[sflat]
  rw[this,List.getElem?_append_left (by simp[Src.vals];omega)];simp
 | x::t,i+1,s,h,j,o=>by
  have e:sflat (x::t)=x.vals.toList++sflat t:=by simp[sflat]
  have u:x.vals.toList.length=13:=rfl;rw[e,List.getElem?_append_right (by rw[u];omega),u,show (i+1)*13+j-13=i*13+j from by omega];exact zFE t i s (by simpa using h) j o
theorem Srcs.of_own {L:B Src}(h:w.ownsRow u e 13 v L.length (sflat L)):
  ∃ a o,v=.slice a L.length o/\Srcs w a o L/\∀ y,a=C y->u<=y.block:=by
 obtain⟨_,⟨rfl,z⟩|⟨g,o,F,rfl,I,A,J,z,X,N⟩⟩:=h
 .have:L=[]:=List.eq_nil_of_length_eq_zero z;subst this;exact⟨a0,0,rfl,Srcs.nil w,λ_ e=>by cases e⟩
 .refine⟨C ⟨g,0,a0⟩,o,rfl,⟨J,z,(λe=>by cases e),?_⟩,λy e=>by cases e;exact I⟩;intro y e O;cases e;refine⟨rfl,zC A,λi s D j R=>?_⟩;have U:i<L.length:=(List.getElem?_eq_some_iff.1 D).1;have V:=zFE L i s D j R;rw[zB A];simp only[Nat.zero_add];rw[<-Array.getElem?_toList,<-V,<-N,List.getElem?_take_of_lt (by omega)]
theorem infoSr: (Tryz.prog.info? 134).map (λi=>(i.zero,i.size,i.bytes))=C (C (ao #[.int K 0,.int K 0,.int K 0,.string bc,.string bc,.string bc,.string bc,.string bc,.int K 0,.int K 0,.slice a0 0 0,.string bc,.int K 0]),13,168):=by kernel_rfl
def cntL (ds:B Dev)(L:B Rec):E->B Dev->B Src
 | _,[]=>[]
 | i,d::t=>(if cntB ds L d.index=al then [⟨i,d,plc ds d.index,0⟩]else [])++cntL ds L (i+1) t
theorem zBm (ds:B Dev)(L:B Rec):∀ (l:B Dev) (i:E) (d:Dev),cntL ds L i (l++[d])=cntL ds L i l++(if cntB ds L d.index=al then [⟨((i+l.length:E):aj),d,plc ds d.index,0⟩]else [])
 | [],i,d=>by simp[cntL]
 | x::t,i,d=>by
  rw[cm,cntL,cntL,zBm ds L t (i+1) d,List.append_assoc]
  congr 4
  simp;omega
theorem zCg (ds:B Dev)(L:B Rec):∀ (l:B Dev) (i:E),(cntL ds L i l).length<=l.length
 | [],i=>by simp[cntL]
 | x::t,i=>by
  have:=zCg ds L t (i+1);rw[cntL,cp,cq];split<;>simp<;>omega
theorem zCf (ds:B Dev)(L:B Rec):∀ (l:B Dev) (i:E) (s:Src),s∈cntL ds L i l->s.d∈l/\s.o=plc ds s.d.index/\s.r=0/\0<=s.at_/\s.at_<((i+l.length:E):aj)
 | [],i,s,h=>by simp[cntL]at h
 | x::t,i,s,h=>by
  rw[cntL]at h;rcases List.mem_append.1 h with h|h
  .split at h
   .simp at h;subst h;exact⟨by simp,rfl,rfl,by first|(simp;done)|(simp;omega),by first|(simp;done)|(simp;omega)⟩
   .simp at h
  .obtain⟨u,v,y,z,A⟩:=zCf ds L t (i+1) s h;exact⟨by simp[u],v,y,z,by simp at A ⊢;omega⟩
def rcs (ka:ag av)(kn kc:E)(wt:aj)(a:ag av)(n cap:E)(ca:ag av)(cn cc:E)(ea:ag av)(en ec:E)(sa:ag av)(sn sc:E)(wm sm:E)(ma:ag av)(mn mc:E):au ae:=
 #[.slice ka kn kc,.int K wt,.slice a n cap,.slice ca cn cc,.slice ea en ec,.slice sa sn sc,.map (C wm),.map (C sm),.slice ma mn mc]
def wantG (M:B Vir):ab×ab->ag ae:=λp=>(M.find? λv=>decide ((v.q,v.o)=p)).map λv=>ao v.vals
def seenG (G:B (ab×ab)):ab×ab->ag ae:=λp=>if G.any (λx=>decide (x=p))=al then C (.bool al)else a0
attribute [local go_sem] Oper.semAt_some
theorem FindIs.no {n:aj}{e:Ending}(h:FindIs ds n e)(o:look ds n=a0):e=.returned (.tuple #[ao Dev.zero.vals,.bool aw]):=by
 rcases h with⟨_,h⟩|⟨d,h,_⟩
 .exact h
 .rw[o]at h;cases h
theorem FindIs.yes {n:aj}{e:Ending}{d:Dev}(h:FindIs ds n e)(o:look ds n=C d):e=.returned (.tuple #[ao d.vals,.bool al]):=by
 rcases h with⟨h,_⟩|⟨v,h,u⟩
 .rw[o]at h;cases h
 .rw[o]at h;cases h;exact u
structure UpAt (W:ai)(a:ag av)(cap:E)(ds:B Dev)(m1 m2 Bv Bn:E):Prop where
 devs:Devs W a cap ds
 maps:VAt W m1 m2 ds
 view:W.heap[Bv]?=C (ax #[.slice a ds.length cap,.map (C m1),.map (C m2)] 126)
theorem UpAt.fr {A:ai}{v y D:E}(h:UpAt W a o ds u v y D)(z:Fr S W A)(I:∀ F,a=C F->ds≠[]->¬ S F.block)(J:¬ S u)(N:¬ S v)(O:¬ S y):UpAt A a o ds u v y D:=
 ⟨h.devs.fr z I,h.maps.fr z J N,z.heap h.view O⟩
theorem zLQ (n:E)(hn:3<=n)(a:ag av)(z:E)(ds:B Dev)(Z m2 N o:E)(i0:aj)(w:ai)(V0:E->Prop)(hU:UpAt w a z ds Z m2 N o)(hT:TreeOk ds)
  (hb:w.heap[o]?=C (ax #[.int K i0] 3)) (d4:(aq K i0).wf=al)
  (A:o≠N/\o≠Z/\o≠m2/\∀ v,a=C v->ds≠[]->v.block≠o) (a7:Z<(w:E)/\m2<(w:E))
  (hV:¬ V0 o/\¬ V0 N/\¬ V0 Z/\¬ V0 m2/\∀ v,a=C v->ds≠[]->¬ V0 v.block):
  Gives ba n af 197 #[az (C ⟨N,0,a0⟩),az (C ⟨o,0,a0⟩)] (λd:Dev=>#[ao d.vals]) (Is o) V0 (chain ds i0) w:=by
 intro l J W a2 e5 e6 a8 hJ hY h0;have R:o<(w:E):=zC hb;have d5:N<(w:E):=zC hU.view;have d6:∀ v,a=C v->ds≠[]->v.block<(w:E):=λv e A=>(hU.devs.cell v e A).2.1
 have a9:=hU.fr a2 (λ_ _ _=>id) id id id;have d7:=a2.heap hb id;have e7:=a2.size;have hm:=hU.devs.lenmax;have e8:1<=n:=by omega
 have e9:Fence.wide.fn 198:=trivial;show CallsIn ba n af 197 #[.func (.yield l) #[] #[],az (C ⟨N,0,a0⟩),az (C ⟨o,0,a0⟩)] W _
 have cv:W.cell? ⟨N,0,a0⟩=C (.slice a ds.length z):=zB a9.view 0;refine callsIn_of_wp Tryz.func197 rfl trivial ?_ rfl;simp only[Tryz.ntmps197,List.size_toArray,cq,List.length_nil,Nat.reduceAdd,Nat.reduceSub,Array.replicate_succ,Array.replicate_zero,List.push_toArray,List.append_toArray,List.nil_append,cm]
 gi_wp2
 clear cv
 gi_loopw [9] (λi wr=>∃ (pre:B Dev) (m:aj) (V:E->Prop),pre.length<=ds.length/\i=.int K (pre.length:aj)/\(aq K m).wf=al/\Hid (chain ds i0=pre++chainK ds (ds.length-pre.length) m)/\wr.heap[o]?=C (ax #[.int K m] 3)/\UpAt wr a z ds Z m2 N o/\J pre V wr/\(∀ b,V b->V0 b\/(w:E)<=b)/\(W:E)<=(wr:E)) (λi _=>ds.length-(intOf i).toNat)
 case atStart=>exact⟨[],i0,V0,by simp,rfl,d4,by unfold Hid chain;simp,d7,a9,h0,λb hb=>.inl hb,bd _⟩
 case round=>
  obtain⟨pre,m,V,hk,rfl,b0,HC,a3,u,U,b1,g2⟩:=hrel;have nV:∀ b,b<(w:E)->¬ V0 b->¬ V b:=λb h1 I h=>(b1 b h).elim I (λh'=>by omega)
  have c0:wr.cell? ⟨N,0,a0⟩=C (.slice a ds.length z):=zB u.view 0;have c1:wr.cell? ⟨N,1,a0⟩=C (.map (C Z)):=zB u.view 1;have c2:wr.cell? ⟨N,2,a0⟩=C (.map (C m2)):=zB u.view 2;have d0:wr.cell? ⟨o,0,a0⟩=C (.int K m):=zB a3 0;by_cases e2:pre.length<ds.length
  .cases hlk:look ds m with
   | none=>
    have D:=zh hlk;clear hlk
    gi_wp2_with (gi_at_call 198;refine(callsIn_wide.2 (zFx a z ds Z m2 m _ u.devs u.maps b0)).mono ?_;rintro e w1 ⟨hF,F⟩;obtain rfl:=hF.no D.out;unfold bu Dev.zero)
    have b2:=hJ _ _ _ _ U ((F.mono zn).alloc (ax Dev.zero.vals 36)) (λb h1 I=>by unfold Is at I;subst I;exact nV _ R hV.1 h1);have HJ:=zh b2;clear b2;refine⟨λ_ h=>(by cases h),?_⟩
    gi_wp2
    refine bodyPost_ret (results_none rfl _ _ _) rfl ?_;have e:chain ds i0=pre:=by rw[HC.out,zAy D.out,List.append_nil]
    rw[e];exact⟨⟨_,rfl⟩,V,HJ.out⟩
   | some d=>
    have D:=zh hlk;clear hlk;have b5:chain ds i0=pre++d::chainK ds (ds.length-pre.length-1) d.parent:=by
     rw[HC.out,show ds.length-pre.length=(ds.length-pre.length-1)+1 from by omega,zEI D.out];rfl
    have b6:=zh b5;clear b5
    gi_wp2_with (gi_at_call 198;refine(callsIn_wide.2 (zFx a z ds Z m2 m _ u.devs u.maps b0)).mono ?_;rintro e w1 ⟨hF,F⟩;obtain rfl:=hF.yes D.out;unfold bu;obtain⟨fn,e3,d3,e4,hy,hR⟩:=hY pre V d _ (hJ _ _ _ _ U ((F.mono zn).alloc (ax d.vals 36)) (λb h1 I=>by unfold Is at I;subst I;exact nV _ R hV.1 h1)) ⟨chainK ds (ds.length-pre.length-1) d.parent,by rw[b6.out];simp⟩;have a4:=zF w1 (ax d.vals 36);have a5:=(F.alloc (ax d.vals 36));unfold bu at hy hR a4 a5)
    refine hR.mono ?_;rintro e W3 ⟨rfl,V',a6,d8,X⟩;have g3:=F.size;have b7:=a8 _ _ _ U;have n3:∀ b,b<(w:E)->¬ V0 b->¬ (V b\/b=l):=λb h1 I h=>h.elim (nV b h1 I) (λe=>by omega)
    have b8:=((u.fr F (λ_ _ _=>id) id id id).fr ((Fr.refl No w1).alloc (ax #[.int K d.index,.int K d.parent,.string d.name,.string d.orig,.string d.sub,.string d.drv,.string d.ali,.int K d.kind,.int K d.num,.slice d.aa d.an d.ac] 36)) (λ_ _ _=>id) id id id)
    have b9:=b8.fr X (λv e y=>n3 _ (d6 v e y) (hV.2.2.2.2 v e y)) (n3 _ a7.1 hV.2.2.1) (n3 _ a7.2 hV.2.2.2.1) (n3 _ d5 hV.2.1);have p3:=X.heap a4 (λh=>h.elim (λh=>by have:=b7 _ h;omega) (λh=>by omega));have e1:W3.cell? ⟨w1,1,a0⟩=C (.int K d.parent):=zB p3 1;have b3:=X.heap (a5.heap a3 id) (n3 _ R hV.1);have g0:W3.cell? ⟨o,0,a0⟩=C (.int K m):=zB b3 0;have g1:W3.frozen? ⟨o,0,a0⟩=false:=zD b3 0;have O:Fr (Is o) W3 (W3.setCell ⟨o,0,a0⟩ (.int K d.parent)):=Fr.setAt (Fr.refl _ _) _;have Y:∀ b,b≠o->¬ Is o b:=λb h e=>h e
    have d1:=b9.fr O (λv e y=>Y _ (A.2.2.2 v e y)) (Y _ A.2.1.symm) (Y _ A.2.2.1.symm) (Y _ A.1.symm);have d2:=hJ _ _ _ _ d8 O (λb h1 I=>by unfold Is at I;subst I;exact(a6 _ h1).elim (nV _ R hV.1) (λh=>by omega));have b4:=zE b3 0 (.int K d.parent);have d9:=X.size;have HF:=zg3 d1 d2 b4;have HV:Hid (∀ b,V' b->V0 b\/(w:E)<=b):=λb h=>(a6 b h).elim (b1 b) (λh=>.inr (by omega))
    have e0:=hT.pwf (zAL D.out).1;clear b8 b9 p3 b3 O d1 d2 b4 a4 a5 a6 u a3 c0 c1 c2 d0
    gi_wp2
    go_roundw
    case rel=>
     refine⟨pre++[d],d.parent,V',by simp;omega,by simp,e0,?_,HF.out.2.2,HF.out.1,HF.out.2.1,HV.out,by simp at d9 ⊢;omega⟩;unfold Hid;rw[b6.out,show ds.length-(pre++[d]).length=ds.length-pre.length-1 from by simp;omega];simp
    case measure=>simp[intOf];omega
  .gi_wp2
   go_end0
   have e:chain ds i0=pre:=by rw[HC.out,show ds.length-pre.length=0 from by omega];simp[chainK]
   rw[e];exact⟨⟨_,rfl⟩,V,U⟩
end Go.Proofs.YtckkocmhlhefpaaGreatDoor
