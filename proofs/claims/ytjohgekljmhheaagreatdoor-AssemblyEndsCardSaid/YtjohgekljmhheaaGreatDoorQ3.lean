import Derived.Test.YtjohgekljmhheaaGreatDoorQ2
import Derived.Test.YtjohgekljmhheaaGreatDoorShelf
import Derived.OwnWalkIn
import Derived.Shelf.AbstractIn
import Derived.DeepKeys4
import Derived.Maps.RangeWalk
import Derived.Maps.OwnRows
import Derived.Maps.GroupsBeside
import Derived.RangeFuncNested
import Derived.RangeFuncBound
import Derived.RangeFuncCalls
import Derived.RangeFuncLeaves
import Derived.Shelf.Abstract
import Derived.Shelf.RegionOpen
import Derived.TacticsInMore
import Derived.LoopNIn
import Derived.LoopIn
import Derived.TacticsIn
import Derived.Lib.SplitLaws
import Derived.Laws.EntriesVeiled
namespace Go.Proofs.YtjohgekljmhheaaGreatDoor
open Go.RowKit Go.Maps Go.Sort Go.Shelf
set_option linter.unusedVariables false
set_option maxRecDepth 100000
set_option maxHeartbeats 4000000
open Dev renaming vals->be,zero->cm
open Fr renaming refl->bg,of_grown_some->dg
open Go renaming World->ah,Value->aj,maxLen->aq,Act->aw,Oper->ax,Calls->ay,Addr->ba,DataW->bj,TypeId->bm,undef->bn,wpList->bo,Exit->bp,Operand->bv,keyOf->bx,Program->bz,strKeys->cd,zeroValue->ce,CallsIn->cl,MemPlace->cx,callsIn_wide->eh,wpIn_mono->el,wpList_mapUpdate_own->em,wpIn_region_draw->ft,wpList_lookup_own_ok->fu
open Go.Code renaming region->ex
open Go.Fence renaming wide->bt
open Go.Instr renaming lookup->dh
open Go.Lib renaming compareBytes->bh,index->br,splitK->cg,countB->co,hasPrefix->cp,trimPrefix->cq
open Go.Lit renaming int->bf,sameKey->fe
open Go.Maps renaming size->ci,keyOf_str->cw,atKey_put_other->dc,atKey_put_same->dd,has_put_other->de,has_put_same->df,fit_look->dp,atKey_of_not_has->ee
open Go.Maps.Keyed renaming of_law->ey
open Go.Op renaming bytesLess->bu,defer->dq,lookup->dr,mapUpdate->dt
open Go.Oper renaming semAt_some->cy
open Go.Proofs renaming intOf->bw,enters_of->ej
open Go.Proofs.Tryz renaming prog->al,underlying274->cj,underlying9->ck,underlying277->cz,underlying114->dw,func241->fl,keysM->fm,sortS->fo
open Go.Region renaming noSelect->fj,schedule->fk
open Go.RowKit renaming Hid->ai
open Go.Value renaming string->da,cells->dy,formed->dz,agg->fp
open Go.World renaming putObj_heap_other->db,ownsMap_made->eb,size_alloc->ed,alloc_heap_new->fq,putObj_heap_same->fs
open IntKind renaming i64->af
open Obj renaming cells->am
open Rec renaming vals->du
open Value renaming agg->av,pointer->bc
open _root_ renaming Nat->C,List->ae,ByteArray->ag,Int->ak,Option->ao,UInt8->au,if_neg->az,Array->bd,if_pos->bi,absurd->cf,beq_iff_eq->ef,decide_eq_true_eq->ei,of_decide_eq_true->ek
open _root_.Array renaming getElem?_toList->eo,replicate->ep,replicate_succ->er,replicate_zero->et
open _root_.Bool renaming true->ap,false->ar,and_eq_true->eu,true_or->ev
open _root_.ByteArray renaming empty->bq,size->ew
open _root_.List renaming getElem?_eq_getElem->cr,mem_of_getElem?->ct,size_toArray->cu,cons_append->di,drop_eq_getElem_cons->dj,length_append->dk,length_cons->dl,map_map->dm,take_add_one->dn,append_toArray->ez,drop_eq_nil_of_le->f0,drop_length->f1,eq_nil_of_length_eq_zero->f3,getElem?_append_left->f6,getElem?_append_right->f7,getElem?_take_of_lt->f8,getElem?_toArray->f9,length_nil->fa,mergeSort_perm->fb,nil_append->fc,push_toArray->fd
open _root_.List.IsPrefix renaming subset->fv
open _root_.Nat renaming le_refl->bs,lt_of_lt_of_le->ff,reduceAdd->fg,reduceSub->fh,zero_add->fi
open _root_.Option renaming some->E,none->ab
open _root_.UInt8 renaming lt_irrefl->dx
variable{x y:ae au}{w w' W:ah}{o N M u n b r:C}{g:ag×ak->ao aj}{S:C->Prop}{s:ag}{h l A:ae ax}{a:ao ba}{Q:bp->aw->ah->Prop}{I:ae aj}{D:bj aj}{z v:aj}{H:Type}{P:bz}{k t e T:bm}{F:bd ax}{f:ae au->ae ak}{ds:ae Dev}
theorem zC6 (a:ao ba)(h:C)(ds:ae Dev)(o:C)(n:ak)(w:ah)(hl:Tr w o a h ds)(hE:ErrV w):
  ay al 11 #[av #[.slice a ds h],n] w λe w'=>e=.returned (.bool (virB ds n))/\Fr No w w':=by
 obtain⟨W0,O,hx,q0⟩:=zy w (am #[.slice a ds h] 39);have t0:W0 ⟨w,0,ab⟩=E (.slice a ds h):=zB q0 0;have u:=zBm a h ds o n W0 (hl.no hx);have I:=zh (λ(W:ah) (hf:Fr No w W)=>zPx a h ds o n W (hl.no hf) (hE.no hf));obtain⟨A,J⟩:=ε (virB ds n)
 rw[<-J];have U:=zh J;clear J hl hE;go_enter Tryz.func11,Tryz.ntmps11;go_upto_region 1 with(fail)
 rw[<-O];clear O;go_wp2_with fail;apply u.mono;rintro e w1 ⟨hF,V⟩;have q1:=V.heap q0 id;have x1:=hx.step V zi;clear t0 q0 u;rcases hF with⟨v,rfl⟩|⟨d,X,Y,la,v,rfl,-⟩
 .have Hv:ai (A=ar):=by unfold ai;rw[U];unfold virB;rw[v]
  have Z:Fr No w (w1.alloc (am (be cm) 48)):=x1.alloc _;have Hx:=zh Z;clear Z v;unfold be cm at *;go_wp2;go_ret;exact⟨zN Hv.symm,Hx⟩
 .have Hv:ai (A=((partOf ds n).isSome||(d.parent==0&&preB d.orig))):=by unfold ai;rw[U];unfold virB;rw[v]
  obtain⟨W2,N,f2,b2⟩:=zy w1 (am (be { d with aa:=X,ac:=Y }) 48);have q2:=f2.heap q1 id;have x2:=x1.step f2 zi;have t0:W2 ⟨w,0,ab⟩=E (.slice a ds h):=zB q2 0;have y:=I.out W2 x2;clear v q1;unfold be at N ⊢;go_upto_region 4 with(fail)
  rw[<-N];clear N;go_wp2_with fail;apply y.mono;rintro e w3 ⟨hP,a2⟩;unfold zAY at hP;subst hP;have b3:=a2.heap b2 id;have x3:=x2.step a2 zi;clear t0 y b2 q2;obtain⟨c0,c1,c2,c3,c4,c5,c6,c7,c8,c9⟩:=DevB.of b3;simp only at c1;generalize (partOf ds n).getD 0=pv at *;rcases hp:(partOf ds n).isSome with _|_
  .have a3:ai (A=(d.parent==0&&preB d.orig)):=by unfold ai;rw[Hv,hp];rfl
   rcases hq:(d.parent==0)with _|_
   .have z:ai (A=ar):=(by unfold ai;rw[a3,hq];rfl);go_wp2;go_ret;exact⟨zN z.symm,x3⟩
   .have z:ai (A=preB d.orig):=(by unfold ai;rw[a3,hq];rfl);obtain⟨W4,a4,f4,b4⟩:=zy w3 (am #[.string ⟨#[109,100,45]⟩,.string ⟨#[111,112,101,110,45]⟩,.string ⟨#[108,118,45]⟩] 9);have F:=zOT (w1:C) (w3:C) { d with aa:=X,ac:=Y } W4 (f4.heap b3 id) b4;clear b3;go_wp2_with fail;rw[<-a4];clear a4;apply F.mono;rintro e w5 ⟨rfl,a5⟩;have Hx:=zh ((x3.step f4 zi).step a5 zi);clear F f4 a5 b4;go_wp2;go_ret;exact⟨zN z.symm,Hx⟩
  .have z:ai (A=ap):=by unfold ai;rw[Hv,hp];rfl
   go_wp2;go_ret;exact⟨zN z.symm,x3⟩
def ignB : ag:=⟨#[83,84,79,82,65,71,69,95,73,71,78,79,82,69]⟩
def cntB (ds:ae Dev)(L:ae Rec)(n:ak):Bool:=match look ds n with
 | none=>ar
 | some d=>match L.find? (Rec.is n (pathOf (origin ds n)))with
  | none=>ar
  | some r=>d.kind==2&&!((getP r.props ignB).toList==[49])
theorem zNr (a ra:ao ba)(h rc:C)(ds:ae Dev)(L:ae Rec)(A:C)(n:ak)(w:ah)(hl:Tr w A a h ds)(hn:(ds:C)<=1000)(hx:(bf af n).wf=ap)(hr:Recs w ra rc L):
  ay al 53 #[av #[.slice a ds h],.slice ra L rc,.int af n] w λe w'=>e=.returned (.bool (cntB ds L n))/\Fr No w w':=by
 obtain⟨W0,a2,x0,q0⟩:=zy w (am #[.slice a ds h] 39);have t0:W0 ⟨w,0,ab⟩=E (.slice a ds h):=zB q0 0;have v:=zBm a h ds A n W0 (hl.no x0);have a3:=zh (λ(W:ah) (hf:Fr No w W)=>zAz a h ds n W (hl.dv.no hf (λ_=>id)) hl.wf.ok hn hx);have a4:=zh (λ(W:ah) (hf:Fr No w W) (p:ag)=>zMy ra rc L n p W (hr.no hf (λ_=>id)));have a8:=zh (λ(W:ah) (hf:Fr No w W)=>hr.no hf (λ_=>id));have d0:=hr.lenmax;obtain⟨F,I⟩:=ε (cntB ds L n)
 rw[<-I];have a9:=zh I;clear I hl hr hx;go_enter Tryz.func53,Tryz.ntmps53;go_upto_region 1 with(fail)
 rw[<-a2];clear a2;go_wp2_with fail;apply v.mono;rintro e w1 ⟨hF,J⟩;clear t0 v;obtain⟨Z,ok,rfl,a5⟩:∃ Z ok,e=.returned (.tuple #[av (be Z),.bool ok])/\((look ds n=ab/\ok=ar)\/∃ d,look ds n=E d/\ok=ap/\Z.kind=d.kind):=by
  rcases hF with⟨N,rfl⟩|⟨d,b0,b1,la,N,rfl,-⟩
  .exact⟨cm,ar,rfl,.inl ⟨N,rfl⟩⟩
  .exact⟨{ d with aa:=b0,ac:=b1 },ap,rfl,.inr ⟨d,N,rfl,rfl⟩⟩
 have b6:=zh a5;clear a5 hF;obtain⟨W2,O,f2,b2⟩:=zy w1 (am (be Z) 48);have q2:=f2.heap (J.heap q0 id) id;have x2:=(x0.step J zi).step f2 zi;have t0:W2 ⟨w,0,ab⟩=E (.slice a ds h):=zB q2 0;have y:=a3.out W2 x2;have b7:ai (plc ds n=((look ds n).map λ_=>pathOf (origin ds n)).getD ⟨#[]⟩):=rfl;rw[<-b7]at y;clear q0 J f2;unfold be at O ⊢;go_upto_region 2 with(fail)
 rw[<-O];clear O;go_wp2_with fail;apply y.mono;rintro e w3 ⟨rfl,U⟩;have b3:=U.heap b2 id;have x3:=x2.step U zi;have z:=a4.out w3 x3 (plc ds n);clear t0 y b2 q2;generalize (look ds n).isSome=lks at *;obtain⟨P,hP⟩:=ε (plc ds n)
 rw[<-hP]at z ⊢;have HP:=zh hP;clear hP;go_wp2_with fail;apply z.mono;rintro e w4 ⟨hR,V⟩;have b4:=V.heap b3 id;have x4:=x3.step V zi;clear z b3;obtain⟨r,kn,rfl,a6,a7⟩:∃ r kn,e=.returned (.tuple #[av (du r),.bool kn])/\RecOk w4 r/\((L.find? (Rec.is n P)=ab/\kn=ar)\/(L.find? (Rec.is n P)=E r/\kn=ap)):=by
  cases hq:L.find? (Rec.is n P)with
  | none=>rw[hq]at hR;exact⟨Rec.zero,ar,hR,RecOk.zero w4,.inl ⟨rfl,rfl⟩⟩
  | some r=>rw[hq]at hR;exact⟨r,ap,hR,((a8 w4 x4).ok r (List.mem_of_find?_eq_some hq)),.inr ⟨rfl,rfl⟩⟩
 obtain⟨W5,X,f5,r5⟩:=zy w4 (am (du r) 76);have b5:=f5.heap b4 id;have x5:=x4.step f5 zi;have o:=zJl r ignB W5 (a6.no f5 (λ_=>id));have b8:=zh a7;clear hR a7 a6 b4 V f5 U;unfold du at X o ⊢;unfold ignB at o;have Hg:ai (getP r.props ignB=getP r.props ⟨#[83,84,79,82,65,71,69,95,73,71,78,79,82,69]⟩):=rfl;rw[<-Hg]at o;go_upto_region 4 with(fail)
 rw[<-X];clear X;obtain⟨c0,c1,c2,c3,c4,c5,c6,c7,c8,c9⟩:=DevB.of b5;obtain⟨e0,e1,e2,e3,e4,e5,e6,e7,e8,e9,d1,d2⟩:=cl12 r5;have u:ai (F=(ok&&kn&&(Z.kind==2)&&!((getP r.props ignB).toList==[49]))):=by
  unfold ai;rw[a9];unfold cntB;rcases b6.out with⟨h1,h2⟩|⟨d,h1,h2,h3⟩
  .rw[h1,h2];rfl
  .have hp:P=pathOf (origin ds n):=by rw[HP];unfold plc;rw[h1];rfl
   rw[h1,h2,<-hp];simp only;rcases b8.out with⟨k1,k2⟩|⟨k1,k2⟩
   .rw[k1,k2];rfl
   .rw[k1,k2,h3];simp
 generalize getP r.props ignB=g at *;clear b5 r5;cases ok with
 | false=>
  have Y:ai (F=ar):=by unfold ai;rw[u];rfl
  go_wp2;go_ret;exact⟨zN Y.symm,x5⟩
 | true=>
  cases kn with
  | false=>
   have Y:ai (F=ar):=(by unfold ai;rw[u];rfl);go_wp2;go_ret;exact⟨zN Y.symm,x5⟩
  | true=>
   rcases hk:(Z.kind==2)with _|_
   .have Y:ai (F=ar):=(by unfold ai;rw[u,hk];rfl);go_wp2;go_ret;exact⟨zN Y.symm,x5⟩
   .have Y:ai (F=!(g.toList==[49])):=(by unfold ai;rw[u,hk];rfl);go_wp2_with fail;apply o.mono;rintro e w6 ⟨rfl,b9⟩;go_wp2;go_ret;exact⟨zN Y.symm,x5.step b9 zi⟩
theorem zID (a:ao ba)(o:C)(ds:ae Dev)(d:Dev)(w:ah)(X:Devs w a o ds)(Y:TreeOk ds)(hn:(ds:C)<=1000)(Z:(bf af d.parent).wf=ap):
  ay al 88 #[av #[.slice a ds o],av d.vals] w λe w'=>e=.returned (av #[.string (plc ds d.parent),.string d.orig])/\Fr No w w':=by
 obtain⟨z,u⟩:=ε (((w.alloc (am #[.slice a ds o] 39)).alloc (am d.vals 48)).alloc (am #[.string (),.string ()] 114))
 have I:Fr No ((w.alloc (am #[.slice a ds o] 39)).alloc (am d.vals 48)) z:=by rw[u];exact(bg _ _).alloc _
 have F:Fr No w z:=by rw[u];exact(((bg _ _).alloc _).alloc _).alloc _
 have q0:=I.heap (zP w (am #[.slice a ds o] 39) (am d.vals 48)) id;have J:=I.heap (zS w (am #[.slice a ds o] 39) (am d.vals 48)) id;have q2:z.heap[(w:C)+1+1]?=E (am #[.string (),.string ()] 114):=by
  have:=zF ((w.alloc (am #[.slice a ds o] 39)).alloc (am d.vals 48)) (am #[.string (),.string ()] 114);rw[ed,ed]at this;rw[u];exact this
 have t0:z ⟨w,0,ab⟩=E (.slice a ds o):=zB q0 0;have c1:=(DevB.of J).c1;have y:=zAz a o ds d.parent z (X.no F (λ_=>id)) Y hn Z;have N:ai (plc ds d.parent=((look ds d.parent).map λ_=>pathOf (origin ds d.parent)).getD ⟨#[]⟩):=rfl;rw[<-N]at y;generalize plc ds d.parent=P at *;generalize (look ds d.parent).isSome=lks at *;clear I X Y Z;unfold be at u ⊢;go_enter Tryz.func88,Tryz.ntmps88;go_upto_region 1 with(fail)
 rw[<-u];clear u;go_wp2_with fail;apply y.mono;rintro e w1 ⟨rfl,A⟩;have r1:=A.heap J id;have O:=A.heap q2 id;have c3:=(DevB.of r1).c3;obtain⟨z0,z1⟩:=cl2 O;obtain⟨y0,y1⟩:=fl2 O;have x1:=F.step A zi;have Hx:ai (∀ U V,Fr No w ((w1.setCell ⟨(w:C)+1+1,0,ab⟩ U).setCell ⟨(w:C)+1+1,1,ab⟩ V)):=λU V=>x1.step (T:=Is ((w:C)+1+1)) (((bg _ _).setAt U).setAt V) (λb hb h=>by omega)
 clear y t0 c1 q0 J q2 r1 O;go_wp2_with fail;refine bodyPost_ret (v:=av #[.string P,.string d.orig]) (by simp[results,Tryz.results88,go_sem,z0,z1]) rfl ?_;exact⟨rfl,Hx _ _⟩
def kb (x:ag):ae UInt8:=x.data.toList
def bk (x:ae au):ag:=⟨x.toArray⟩
theorem zGL (x:ag):bk (kb x)=x:=by unfold bk kb;simp
theorem zJv (x:ae au):kb (bk x)=x:=by unfold bk kb;simp
theorem zGv {x y:ag}(h:kb x=kb y):x=y:=by rw[<-zGL x,h,zGL]
def heldV (v:aj):ao (bj aj×ae cx):=E (.held v,[])
def VMap (w:ah)(mb:C)(g:ae au->ao aj)(N:C):Prop:=
 ∃ (D:bj aj) (n:C),n<=N/\w.ownsMap al 9 heldV mb n D/\(∀ x,has D (.string x)=(g x).isSome)/\∀ x v,g x=E v->∀ z,D.atKey (.string x) z=.held v
theorem VMap.lt {g:ae au->ao aj}(h:VMap w o g N):o<(w:C):=by obtain⟨D,n,_,u,_⟩:=h;exact u.lt
theorem VMap.fr {g:ae au->ao aj}(h:VMap w o g N)(u:Fr S w w')(v:¬ S o):VMap w' o g N:=by
 obtain⟨D,n,y,z,r⟩:=h;exact⟨D,n,y,u.ownsMap z v,r⟩
theorem VMap.made (w:ah):VMap (w.alloc (.map #[] 0)) (w:C) (λ_=>ab) 0:=⟨.map [],0,bs _,eb _ _ _ _,λ_=>rfl,λ_ _ h=>by cases h⟩
theorem VMap.mono {g:ae au->ao aj}(h:VMap w o g N)(u:N<=M):VMap w o g M:=by
 obtain⟨D,n,v,r⟩:=h;exact⟨D,n,by omega,r⟩
theorem lawS: Keyed al 9:=string_keyed ck
theorem keyS (h:s.size<=aq):bx al 9 (.string s)=E (.string (kb s)):=Go.WideMaps.keyOf_string_mk ck h
theorem isKeyS (x:ae au):WideAt.IsKeyLit (.string x):=trivial
theorem zB0 {u:bd ax}{h:ae ax}{o:ax}{a:aw}{Q:bp->aw->ah->Prop}(X:o.guard=ab)(m x:bv)(t e:bm)(z:aj)(Y:(ce e).run al w=.ok z w)(I:o.op=dr t m x ap)(Z:Tryz.prog.underlying t=E (.map 9 e))
  (J:C) (g:ae au->ao aj) (N:C) (k:ag) (hk:k.size<=aq) (hm:a.eval m=.map (E J)) (y:VMap w J g N) (hx:a.eval x=.string k)
  (v:aj) (hv:(g (kb k)).getD z=v) (b:Bool) (hb:(g (kb k)).isSome=b)
  (hK:bo al u Q h (a.put o.dst (.tuple #[v,.bool b])) w):bo al u Q (o::h) a w:=by
 obtain⟨D,n,_,ho,U,h2⟩:=y;refine fu w X m x t I 9 e lawS Z heldV Y (.held z) [] rfl J n D hm ho _ _ hx (keyS hk) (λv1 ps A=>?_);simp only[heldV,Option.some.injEq,Prod.mk.injEq]at A;have F:=A.1;have O:=hv;have e:v1=(g (kb k)).getD z:=by
  rcases hgk:g (kb k)with _|v'
  .have V:=U (kb k);rw[hgk]at V;rw[ee V]at F
   simpa using F
  .rw[h2 _ _ hgk]at F
   simpa using F
 rw[U,e,O,hb];exact hK
theorem zOO {y:bd ax}{h:ae ax}{o:ax}{a:aw}{Q:bp->aw->ah->Prop}(Y:o.guard=ab)(m x:bv)(t e:bm)(z:aj)(Z:(ce e).run al w=.ok z w)(J:o.op=dr t m x ar)(ht:Tryz.prog.underlying t=E (.map 9 e))
  (U:C) (g:ae au->ao aj) (N:C) (k:ag) (hk:k.size<=aq) (hm:a.eval m=.map (E U)) (A:VMap w U g N) (hx:a.eval x=.string k)
  (u:aj) (hu:(g (kb k)).getD z=u)
  (hK:bo al y Q h (a.put o.dst u) w):bo al y Q (o::h) a w:=by
 obtain⟨D,n,_,ho,h1,h2⟩:=A;refine wpList_plain Y λK' O=>?_
 obtain⟨v,ps,F,V⟩:=ho.lookup lawS ht Z (zd:=.held z) (zp:=[]) rfl (keyS hk);simp only[heldV,Option.some.injEq,Prod.mk.injEq]at V;have I:=V.1;have e:v=(g (kb k)).getD z:=by
  rcases hgk:g (kb k)with _|v'
  .have X:=h1 (kb k);rw[hgk]at X;rw[ee X]at I
   simpa using I
  .rw[h2 _ _ hgk]at I
   simpa using I
 unfold Oper.wp;simp[execOp,J,hm,hx,F,Result.andThen];rw[e,hu];exact O _ _ hK
def updS (g:ae au->ao aj)(x:ae au)(v:aj):ae au->ao aj:=λy=>if y=x then E v else g y
theorem VMap.put {I:ah}{g:ae au->ao aj}(V:n<=N)(J:w.ownsMap al 9 heldV o n D)(O:∀ x,has D (.string x)=(g x).isSome)(U:∀ x v,g x=E v->∀ z,D.atKey (.string x) z=.held v)
  (x:ae au) (v:aj) (A:I.ownsMap al 9 heldV o (n+1) (D.put (.string x) (.held v))):VMap I o (updS g x v) (N+1):=by
 refine⟨_,n+1,by omega,A,λy=>?_,λy u h z=>?_⟩
 .unfold updS;split;·rename_i e;subst e;rw[df J.isMap (isKeyS _) _];rfl
  .rename_i e;rw[de (by intro F;exact e (by simpa using F))];exact O y
 .unfold updS at h;split at h;·rename_i e;subst e;cases h;rw[dd J.isMap (isKeyS _) _ _]
  .rename_i e;rw[dc (by intro F;exact e (by simpa using F))];exact U y u h z
theorem zCN {w:ah}{z:bd ax}{y:ae ax}{o:ax}{a:aw}{Q:bp->aw->ah->Prop}(O:o.guard=ab)(m x v:bv)(t e:bm)(I:o.op=dt t m x v)(U:Tryz.prog.underlying t=E (.map 9 e))
  (A:C) (g:ae au->ao aj) (N:C) (hN:N<aq) (k:ag) (V:k.size<=aq) (u:aj) (X:a.eval m=.map (E A)) (F:VMap w A g N) (Y:a.eval x=.string k) (Z:a.eval v=u)
  (hK:∀ w',VMap w' A (updS g (kb k) u) (N+1)->Fr (Is A) w w'->bo al z Q y (a.put o.dst bn) w'):bo al z Q (o::y) a w:=by
 obtain⟨D,n,hn,J,h1,h2⟩:=F;exact em w O m x v t I 9 e lawS U heldV A n D X J (by omega) _ _ _ Y Z (keyS V) (.held u) [] rfl (λw' h h'=>hK w' (VMap.put hn J h1 h2 _ _ h) (dg h'))
def leS : ae au->ae au->Bool:=λx y=>decide (x<=y)
def AscS (l:ae (ae au)):Prop:=l.Pairwise (λx y=>leS x y=ap/\x≠y)
theorem zGu (h:leS x y=ap)(o:leS y x=ap):x=y:=by
 unfold leS at *;simp only[ei]at *;exact List.le_antisymm h o
theorem zLP {z:ae au}(h:leS x y=ap)(o:leS y z=ap):leS x z=true:=by
 unfold leS at *;simp only[ei]at *;exact List.le_trans h o
theorem zLQ (x y:ae au):(leS x y||leS y x)=true:=by
 unfold leS;simp only[Bool.or_eq_true,ei];exact List.le_total x y
theorem AscS.ext : ∀ {l l':ae (ae au)},AscS l->AscS l'->(∀ x,x∈l↔x∈l')->l=l'
 | [],[],_,_,_=>rfl
 | [],y::t,_,_,h=>by have:=(h y).2 (by simp);simp at this
 | x::s,[],_,_,h=>by have:=(h x).1 (by simp);simp at this
 | x::s,y::t,F,I,h=>by
  have a1:=List.pairwise_cons.1 F;have v:=List.pairwise_cons.1 I;have J:=(h x).1 (by simp);have N:=(h y).2 (by simp);have e:x=y:=by
   rcases List.mem_cons.1 J with o|o
   .exact o
   .rcases List.mem_cons.1 N with A|A
    .exact A.symm
    .exact zGu (a1.1 y A).1 (v.1 x o).1
  subst e;refine congrArg _ (AscS.ext a1.2 v.2 λz=>?_);constructor
  .intro u;rcases List.mem_cons.1 ((h z).1 (by simp[u]))with o|o
   .subst o;exact cf rfl (a1.1 z u).2
   .exact o
  .intro u;rcases List.mem_cons.1 ((h z).2 (by simp[u]))with o|o
   .subst o;exact cf rfl (v.1 z u).2
   .exact o
theorem zEo {l:ae (ae au)}(h:l.Nodup):AscS (l.mergeSort leS):=by
 have u:=List.pairwise_mergeSort (le:=leS) (λ_ _ _ h o=>zLP h o) (λa b=>zLQ a b) l;have o:(l.mergeSort leS).Nodup:=(fb l _).nodup_iff.2 h;exact(u.and o).imp (λh=>h)
theorem zEN {R:aj->ao (bj H×ae cx)}{D:bj H}(h:w.ownsMap P k R b n D)(F:P.underlying k=E .string)(x:ae au):
  x∈cd D↔has D (.string x)=true:=by
 obtain⟨J,rfl,o⟩:=h.keysOf;rw[has_eq,List.any_eq_true];show x∈J.map (λp=>Go.strOf p.1)↔_
 rw[List.mem_map];constructor
 .rintro ⟨p,u,rfl⟩;obtain⟨v,A⟩:=o p u;obtain⟨y,_,z,_⟩:=cw F A;exact⟨p,u,by rw[z];simp[fe,Go.strOf]⟩
 .rintro ⟨p,u,I⟩;obtain⟨v,A⟩:=o p u;obtain⟨y,_,z,_⟩:=cw F A;rw[z]at I;exact⟨p,u,by rw[z];simpa [fe,Go.strOf]using I⟩
theorem zCk {R:aj->ao (bj H×ae cx)}{D:bj H}(h:w.ownsMap P k R b n D)(K:Keyed P k)(I:P.underlying k=E .string):
  (cd D).Nodup:=by
 obtain⟨J,rfl,o⟩:=h.keysOf;obtain⟨u,e,N⟩:=h.tidy K;obtain rfl:J=u:=by simpa using e
 show (J.map λp=>Go.strOf p.1).Nodup
 refine List.pairwise_map.2 (N.imp_of_mem fun {p q} y z A e=>A ?_);obtain⟨v,O⟩:=o p y;obtain⟨a,_,U,_⟩:=cw I O;obtain⟨X,F⟩:=o q z;obtain⟨b,_,V,_⟩:=cw I F;rw[U,V]at e ⊢;exact congrArg _ e
theorem zD4 (D:bj H):(cd D).length<=ci D:=by
 cases D<;>simp[cd,ci]
theorem sortsS (m:C):AnyZ.SortsIn al Tryz.sortedS_ren bt m:=
 ⟨λu v h z W A o y=>callsIn_wide.2 (AnyM.slices_Sort_string fo u v h z W A o y),
  λp h W=>callsIn_wide.2 (AnyM.slices_Sort_string_none fo p h W)⟩
theorem zQA (h:ao C)(w:ah):ay al 202 #[.map h] w λe w'=>e=.returned (.func (.func 252) #[] #[bc (E ⟨w,0,ab⟩)])/\w'=w.alloc (am #[.map h] 279):=
 (eh (n:=5)).1 (AnyZ.keys_in fm bt 5 trivial rfl h w)
theorem zM2 (Y J:C)(g:ae au->ao aj)(N:C)(w:ah)(hs:VMap w Y g N)(hN:N<=1099511627776)(hB:w ⟨J,0,ab⟩=E (.map (E Y)))(Z:J<(w:C)):
  ay al 201 #[.func (.func 252) #[] #[bc (E ⟨J,0,ab⟩)]] w λe w'=>
   (∃ a F u,e=.returned (.slice a u.length F)/\Strs w' a F u/\AscS (u.map kb)/\(∀ x:ag,x∈u↔(g (kb x)).isSome=ap)/\u.length<=N/\∀ ad,a=E ad->(w:C)<=ad.block)/\Fr No w w':=by
 obtain⟨D,n,hn,o,hf,_⟩:=hs;have a4:=o.size_le;have U:ci D<=maxLen:=by unfold aq;omega
 have I:ci D*16<=140737488355328:=by omega
 have V:=zEN o ck;have a2:=zCk o lawS ck;have a3:=zD4 D;have X:SeqGives bt 2 al 252 #[bc (E ⟨J,0,ab⟩)] encStr (λO=>O.Perm (cd D)) (ci D) w:=
  AnyZ.keys_gives (ρ:=Tryz.keysM_ren) { fm with } bt _ trivial rfl (by omega) J Y n D _ Z hB o
 have cS:=AnyZ.sorted_in Tryz.sortedS bt 5 trivial trivial trivial trivial rfl (by omega) (sortsS _) (ej Tryz.func251 (by kernel_rfl) rfl) 252 #[bc (E ⟨J,0,ab⟩)] trivial (ej Tryz.func252 (by kernel_rfl) rfl) _ _ U I _ X;apply ((eh (n:=5)).1 cS).mono;rintro e w' ⟨v,O,rfl,z,A,_,hb⟩;have hp:(O.mergeSort (λx y=>decide (x<=y))).Perm (cd D):=(fb O _).trans z;obtain⟨L,hL⟩:∃ L,L=(O.mergeSort (λx y=>decide (x<=y))):=⟨_,rfl⟩
 have hl:(L.map bk).length=O.length:=by rw[hL];simp
 have e1:L.map encStr=(L.map bk).map Value.string:=by rw[dm];rfl
 rw[<-hL]at hp A;rw[<-hl,e1]at A;obtain⟨a,F,rfl,h1,h2⟩:=Strs.of_own A;have e2:(L.map bk).map kb=L:=by
  rw[dm];have:kb∘bk=id:=by funext x;exact zJv x
  rw[this,List.map_id]
 refine⟨⟨a,F,L.map bk,rfl,h1,?_,λx=>?_,?_,h2⟩,Fr.of_below_size hb⟩;·rw[e2,hL];exact zEo (z.nodup_iff.2 a2)
 .rw[<-hf,<-V,<-hp.mem_iff];constructor
  .intro h;obtain⟨y,hy,rfl⟩:=List.mem_map.1 h
   rwa [zJv]
  .intro h;exact List.mem_map.2 ⟨_,h,zGL x⟩
 .rw[List.length_map,hp.length_eq];omega
theorem zIt: laidOutB al=true:=by kernel_rfl
theorem rowPl: (274:bm)<Tryz.prog.types.size:=ek (by kernel_rfl)
theorem widePl: (match Tryz.prog.underlying 274 with|some (.array _ _)|some (.struct _)=>ap|_=>ar)=true:=by kernel_rfl
theorem lawP: Keyed al 274:=ey (deep_law_laid zIt (m:=3) (by omega) rowPl (by kernel_rfl) widePl)
theorem typePl: Tryz.prog.keyType 274=true:=by kernel_rfl
theorem zLz: Tryz.prog.cellsOf 274=2:=by kernel_rfl
theorem zGH: Tryz.prog.cellsOf 9=1:=by kernel_rfl
theorem zNc: Tryz.prog.cellsOf 3=1:=by kernel_rfl
theorem sizePl: ∃ n,Tryz.prog.types.size=n+1:=⟨Tryz.prog.types.size-1,by have:0<Tryz.prog.types.size:=ek (by kernel_rfl);omega⟩
theorem litsPl (d:C)(h o:aj):Tryz.prog.keyLits (d+2) 274 [h,o]=(Tryz.prog.keyLits (d+1) 9 [h]).bind λa=>(Tryz.prog.keyLits (d+1) 3 [o]).map λb=>a++b:=by
 rw[Program.keyLits.eq_def];simp only[cj,zLz];simp[zGH,zNc];cases Tryz.prog.keyLits (d+1) 9 [h]<;>cases Tryz.prog.keyLits (d+1) 3 [o]<;>simp
theorem zF1 (d:C)(v:aj)(h:ae Lit):Tryz.prog.keyLits (d+1) 9 [v]=E h↔∃ s,v=.string s/\s.size<=aq/\h=[.string s.data.toList]:=by
 rw[Program.keyLits.eq_def];simp only[ck];cases v<;>simp;intro _;exact eq_comm
theorem zLN (d:C)(v:aj)(o:ae Lit):Tryz.prog.keyLits (d+1) 3 [v]=E o↔∃ n,v=.int af n/\(bf af n).wf=ap/\o=[.int af n]:=by
 rw[Program.keyLits.eq_def];simp only[Tryz.underlying3];cases v<;>simp;rename_i q n;constructor;·rintro ⟨⟨rfl,h⟩,rfl⟩;exact⟨n,⟨rfl,rfl⟩,h,rfl⟩
 .rintro ⟨u,⟨rfl,rfl⟩,h,rfl⟩;exact⟨⟨rfl,h⟩,rfl⟩
def plL (x:ag×ak):Lit:=.string (keyBytes [.string x.1.data.toList,.int af x.2])
theorem zI2 (h:bd aj):(fp h).formed al 274=(h.size==2):=by
 simp[dz,cj,zLz]
theorem keyP {n:ak}(o:s.size<=aq)(u:(bf af n).wf=ap):bx al 274 (av #[.string s,.int af n])=E (plL (s,n)):=by
 obtain⟨d,v⟩:=sizePl;unfold bx;simp only[cj,typePl,zI2];rw[v];have y:=(zF1 d (.string s) _).2 ⟨s,rfl,o,rfl⟩;have z:=(zLN d (.int af n) _).2 ⟨n,rfl,u,rfl⟩;have h:=litsPl d (.string s) (.int af n);rw[y,z]at h;simp[dy,h,plL]
theorem zIu {o:aj}{z:Lit}(h:bx al 274 o=E z):∃ s n,o=av #[.string s,.int af n]/\s.size<=aq/\(bf af n).wf=true:=by
 obtain⟨d,A⟩:=sizePl;unfold bx at h;simp only[cj,typePl]at h;rw[A]at h;split at h
 .rename_i u;simp only[Bool.true_and]at u;cases o with
  | agg F=>
   rw[zI2,ef]at u;obtain⟨I⟩:=F
   match I,u with
   | [v0,y],_=>
    have v:=litsPl d v0 y;simp only[dy]at h;rcases h0:Tryz.prog.keyLits (d+1) 9 [v0]with _|a
    .rw[h0]at v;simp[v]at h
    .rcases h1:Tryz.prog.keyLits (d+1) 3 [y]with _|b
     .rw[h0,h1]at v;simp[v]at h
     .obtain⟨s,rfl,J,_⟩:=(zF1 d v0 a).1 h0;obtain⟨n,rfl,N,_⟩:=(zLN d y b).1 h1;exact⟨s,n,rfl,J,N⟩
  | _=>simp[dz,cj]at u
 .cases h
theorem zHb {x y:ag×ak}(A:x.1.size<=aq)(u:(bf af x.2).wf=ap)(F:y.1.size<=aq)(v:(bf af y.2).wf=ap)(h:plL x=plL y):x=y:=by
 have z:=keyP A u;have I:=keyP F v;rw[h]at z;have o:=lawP.inj z I;simp at o;obtain⟨a,b⟩:=x;obtain⟨c,d⟩:=y;simp only at o;rw[o.1,o.2]
def PMap (w:ah)(mb:C)(g:ag×ak->ao aj)(N:C):Prop:=
 ∃ (D:bj aj) (n:C),n<=N/\w.ownsMap al 274 heldV mb n D/\∀ x:ag×ak,x.1.size<=aq->(bf af x.2).wf=ap->has D (plL x)=(g x).isSome/\∀ v,g x=E v->∀ z,D.atKey (plL x) z=.held v
theorem PMap.lt (h:PMap w o g N):o<(w:C):=by obtain⟨D,n,_,u,_⟩:=h;exact u.lt
theorem PMap.fr (h:PMap w o g N)(u:Fr S w w')(v:¬ S o):PMap w' o g N:=by
 obtain⟨D,n,y,z,r⟩:=h;exact⟨D,n,y,u.ownsMap z v,r⟩
theorem PMap.made (w:ah):PMap (w.alloc (.map #[] 0)) (w:C) (λ_=>ab) 0:=⟨.map [],0,bs _,eb _ _ _ _,λ_ _ _=>⟨rfl,λ_ h=>by cases h⟩⟩
theorem PMap.mono (h:PMap w o g N)(u:N<=M):PMap w o g M:=by
 obtain⟨D,n,v,r⟩:=h;exact⟨D,n,by omega,r⟩
theorem zF7 {u:Lit}{o:ao aj}{A:ae cx}(F:has D u=o.isSome)(I:∀ v,o=E v->∀ z,D.atKey u z=.held v)(y:heldV v=E (D.atKey u (.held z),A)):v=o.getD z:=by
 simp only[heldV,Option.some.injEq,Prod.mk.injEq]at y;have h:=y.1;rcases o with _|J
 .rw[ee F]at h
  simpa using h
 .rw[I _ rfl]at h
  simpa using h
theorem PMap.look (h:PMap w u g N)(F:(ce e).run al w=.ok z w)(I:Tryz.prog.underlying t=E (.map 274 e))
  {s:ag} {n:ak} (y:s.size<=aq) (A:(bf af n).wf=ap):(dh t (.map (E u)) (av #[.string s,.int af n]) ar).run al w=.ok ((g (s,n)).getD z) w:=by
 obtain⟨D,m,_,J,O⟩:=h;obtain⟨U,V⟩:=O (s,n) y A;obtain⟨v,Y,o,X⟩:=J.lookup lawP I F (zd:=.held z) (zp:=[]) rfl (keyP y A);rw[o,zF7 U V X]
theorem zE0 {u:bd ax}{h:ae ax}{o:ax}{a:aw}{Q:bp->aw->ah->Prop}(V:o.guard=ab)(m x:bv)(t e:bm)(z:aj)(X:(ce e).run al w=.ok z w)(A:o.op=dr t m x ap)(Y:Tryz.prog.underlying t=E (.map 274 e))
  (F:C) (g:ag×ak->ao aj) (N:C) (s:ag) (n:ak) (J:s.size<=aq) (O:(bf af n).wf=ap) (Z:a.eval m=.map (E F)) (y:PMap w F g N) (hx:a.eval x=av #[.string s,.int af n])
  (v:aj) (hv:(g (s,n)).getD z=v) (b:Bool) (hb:(g (s,n)).isSome=b)
  (hK:bo al u Q h (a.put o.dst (.tuple #[v,.bool b])) w):bo al u Q (o::h) a w:=by
 obtain⟨D,k,_,ho,hh⟩:=y;obtain⟨U,h2⟩:=hh (s,n) J O;refine fu w V m x t A 274 e lawP Y heldV X (.held z) [] rfl F k D Z ho _ _ hx (keyP J O) (λv1 ps I=>?_);rw[U,zF7 U h2 I,hv,hb];exact hK
theorem zHr (x:ag×ak):WideAt.IsKeyLit (plL x):=trivial
def updP (g:ag×ak->ao aj)(x:ag×ak)(v:aj):ag×ak->ao aj:=λy=>if y=x then E v else g y
theorem zDv {w:ah}{F:bd ax}{A:ae ax}{o:ax}{a:aw}{Q:bp->aw->ah->Prop}(hg:o.guard=ab)(m x v:bv)(t e:bm)(X:o.op=dt t m x v)(ht:Tryz.prog.underlying t=E (.map 274 e))
  (I:C) (g:ag×ak->ao aj) (N:C) (hN:N<aq) (s:ag) (n:ak) (Z:s.size<=aq) (hn:(bf af n).wf=ap) (u:aj) (hm:a.eval m=.map (E I)) (J:PMap w I g N) (hx:a.eval x=av #[.string s,.int af n]) (O:a.eval v=u)
  (hK:∀ w',PMap w' I (updP g (s,n) u) (N+1)->Fr (Is I) w w'->bo al F Q A (a.put o.dst bn) w'):bo al F Q (o::A) a w:=by
 obtain⟨D,k,hk,Y,hh⟩:=J;refine em w hg m x v t X 274 e lawP ht heldV I k D hm Y (by omega) _ _ _ hx O (keyP Z hn) (.held u) [] rfl (λw' h h'=>hK w' ⟨_,k+1,by omega,h,λy hy U=>?_⟩ (dg h'));obtain⟨h1,h2⟩:=hh y hy U;unfold updP;by_cases e:y=(s,n)
 .subst e;rw[bi rfl];exact⟨by rw[df Y.isMap (zHr _) _];rfl,λv O z=>by cases O;rw[dd Y.isMap (zHr _) _ _]⟩
 .rw[az e];have V:plL y≠plL (s,n):=λhe=>e (zHb hy U Z hn he)
  exact⟨by rw[de V];exact h1,λv O z=>by rw[dc V];exact h2 v O z⟩
def grpD (l:ae ak):bj Unit:=if l=[]then .nil else .slice (Go.ChangeShapes.lits af l) []
def GMap (w:ah)(base mb:C)(f:ae au->ae ak)(N:C):Prop:=
 ∃ (D:bj Unit) (n:C),n<=N/\w.ownsGroups al 9 base 3 af mb n D/\(∀ x,D.atKey (.string x) .nil=grpD (f x))/\∀ x,has D (.string x)=!(f x).isEmpty
theorem GMap.made (h:w.heap[u]?=E (.map #[] 0))(v:u<o):GMap w o u (λ_=>[]) 0:=
 ⟨.map [],0,bs _,⟨#[],0,h,⟨by simp,Go.MapKept.stamped_empty 0,by simp⟩,bs _,rfl,v,by simp,by simp⟩,λ_=>rfl,λ_=>rfl⟩
theorem GMap.lt (h:GMap w o u f N):u<(w:C):=by
 obtain⟨D,n,_,⟨y,c,v,_⟩,_⟩:=h;exact(Array.getElem?_eq_some_iff.1 v).1
theorem zM4 {a b:ae ak}(h:Go.ChangeShapes.lits (H:=Unit) af a=Go.ChangeShapes.lits af b):a=b:=by
 unfold Go.ChangeShapes.lits at h;exact(List.map_inj_right (λx y o=>by simpa using o)).1 h
theorem zeroIs (w:ah):(ce 22).run al w=.ok (.slice ab 0 0) w:=by kernel_rfl
theorem GMap.look {A U:C}(h:GMap w A U f N)(hN:N<aq){x:ag}(hx:x.size<=aq):
  ∃ v,(∀ W:ah,W.heap[U]?=w.heap[U]?->(dh 277 (.map (E U)) (.string x) ar).run al W=.ok v W)/\w.ownsInts A 3 af v (f (kb x))/\(f (kb x)).length<=N/\
   (∀ (y:ak),(bf af y).wf=ap->∀ (w1:ah) (V:aj),w.grownBy w1 v.ownBlock->w1.ownsInts A 3 af V (f (kb x)++[y])->(V.ownBlock=v.ownBlock\/∃ g,V.ownBlock=E g/\(w:C)<=g)->
    ∃ w2,(Instr.mapUpdate 277 (.map (E U)) (.string x) V).run al w1=.ok () w2/\GMap w2 A U (λz=>if z=kb x then f (kb x)++[y]else f z) (N+1)/\w1.grownBy w2 (E U)):=by
 obtain⟨D,n,hn,I,h1,h2⟩:=h;have J:=keyS hx;obtain⟨v,zs,O,o,a3,a8,X⟩:=I.at lawS cz (zeroIs w) (by omega) J;have a6:zs=f (kb x):=by
  rw[h1 (kb x)]at o;unfold grpD at o;rcases a3.datum (H:=Unit)with⟨Y,e2⟩|Y
  .rw[Y]at o;split at o;·rename_i h0;rw[e2,h0]
   .cases o
  .rw[Y]at o;split at o;·cases o
   .injection o with h3
    exact(zM4 h3).symm
 subst a6;refine⟨v,λW hW=>?_,a3,by omega,λy hy w1 V hg a4 a5=>?_⟩
 .obtain⟨es,u,hb,F,_⟩:=I;rcases dp ar lawS cz (zeroIs w) hb F J with⟨Z,r2,_⟩|⟨e0,y0,m0,k0,Z,_⟩
  .rcases dp ar lawS cz (zeroIs W) (hW.trans hb) F J with⟨r3,_,_⟩|⟨Y,y1,m1,k1,r3,_⟩
   .rw[O]at Z;rw[r3];have:v=.slice ab 0 0:=(by simpa using Z);rw[this];rfl
   .exact cf k1 (r2 Y m1)
  .rcases dp ar lawS cz (zeroIs W) (hW.trans hb) F J with⟨_,r2,_⟩|⟨Y,y1,m1,k1,r3,_⟩
   .exact cf k0 (r2 e0 m0)
   .have he:e0=Y:=entry_eq_of_key ((Go.MapKept.stamped_iff es u).1 F.stamped).2.2 m0 m1 (k0.trans k1.symm);rw[O]at Z;have:v=e0.val:=(by simpa using Z);rw[r3,this,he];rfl
 .obtain⟨w2,Z,r2,r3⟩:=X w1 V _ hg a4 (by simp;omega) a5;refine⟨w2,Z,⟨_,n+1,by omega,r2,λz=>?_,λz=>?_⟩,r3⟩
  .dsimp only;have a2:IsMap D:=by obtain⟨es,u,_,_,_,rfl,_⟩:=I;exact⟨_,rfl⟩
   have a7:rowDatum (H:=Unit) af V (f (kb x)++[y])=.slice (Go.ChangeShapes.lits af (f (kb x)++[y])) []:=a4.datum_pos (by simp);by_cases e:z=kb x
   .subst e;rw[dd a2 (isKeyS _) _ _,a7,bi rfl,grpD,az (by simp)]
   .rw[dc (by intro e';exact e (by simpa using e')),h1,az e]
  .dsimp only;have a2:IsMap D:=by obtain⟨es,u,_,_,_,rfl,_⟩:=I;exact⟨_,rfl⟩
   by_cases e:z=kb x
   .subst e;rw[df a2 (isKeyS _) _,bi rfl];simp
   .rw[de (by intro e';exact e (by simpa using e')),h2,az e]
theorem GMap.grown {row:ao C}(h:GMap w o u f N)(y:w.grownBy w' row)(z:E u≠row)(A:∀ j,row=E j->j<o):GMap w' o u f N:=by
 obtain⟨D,n,F,v,I,J⟩:=h;exact⟨D,n,F,v.kept y z (v.rowsAbove A),I,J⟩
theorem rowAq: (114:bm)<Tryz.prog.types.size:=ek (by kernel_rfl)
theorem wideAq: (match Tryz.prog.underlying 114 with|some (.array _ _)|some (.struct _)=>ap|_=>ar)=true:=by kernel_rfl
theorem lawQ: Keyed al 114:=ey (deep_law_laid zIt (m:=3) (by omega) rowAq (by kernel_rfl) wideAq)
theorem typeAq: Tryz.prog.keyType 114=true:=by kernel_rfl
theorem zL0: Tryz.prog.cellsOf 114=2:=by kernel_rfl
theorem litsAq (d:C)(h o:aj):Tryz.prog.keyLits (d+2) 114 [h,o]=(Tryz.prog.keyLits (d+1) 9 [h]).bind λa=>(Tryz.prog.keyLits (d+1) 9 [o]).map λb=>a++b:=by
 rw[Program.keyLits.eq_def];simp only[dw,zL0];simp[zGH,zGH];cases Tryz.prog.keyLits (d+1) 9 [h]<;>cases Tryz.prog.keyLits (d+1) 9 [o]<;>simp
def aqL (x:ag×ag):Lit:=.string (keyBytes [.string x.1.data.toList,.string x.2.data.toList])
theorem zNN (h:bd aj):(fp h).formed al 114=(h.size==2):=by
 simp[dz,dw,zL0]
theorem keyQ {n:ag}(o:s.size<=aq)(u:n.size<=aq):bx al 114 (av #[.string s,.string n])=E (aqL (s,n)):=by
 obtain⟨d,v⟩:=sizePl;unfold bx;simp only[dw,typeAq,zNN];rw[v];have y:=(zF1 d (.string s) _).2 ⟨s,rfl,o,rfl⟩;have z:=(zF1 d (.string n) _).2 ⟨n,rfl,u,rfl⟩;have h:=litsAq d (.string s) (.string n);rw[y,z]at h;simp[dy,h,aqL]
theorem zMF {x y:ag×ag}(A:x.1.size<=aq)(u:x.2.size<=aq)(F:y.1.size<=aq)(v:y.2.size<=aq)(h:aqL x=aqL y):x=y:=by
 have z:=keyQ A u;have I:=keyQ F v;rw[h]at z;have o:=lawQ.inj z I;simp at o;obtain⟨a,b⟩:=x;obtain⟨c,d⟩:=y;simp only at o;rw[o.1,o.2]
def QMap (w:ah)(mb:C)(g:ag×ag->ao aj)(N:C):Prop:=
 ∃ (D:bj aj) (n:C),n<=N/\w.ownsMap al 114 heldV mb n D/\∀ x:ag×ag,x.1.size<=aq->x.2.size<=aq->has D (aqL x)=(g x).isSome/\∀ v,g x=E v->∀ z,D.atKey (aqL x) z=.held v
theorem QMap.lt {g:ag×ag->ao aj}(h:QMap w o g N):o<(w:C):=by obtain⟨D,n,_,u,_⟩:=h;exact u.lt
theorem QMap.fr {g:ag×ag->ao aj}(h:QMap w o g N)(u:Fr S w w')(v:¬ S o):QMap w' o g N:=by
 obtain⟨D,n,y,z,r⟩:=h;exact⟨D,n,y,u.ownsMap z v,r⟩
theorem QMap.made (w:ah):QMap (w.alloc (.map #[] 0)) (w:C) (λ_=>ab) 0:=⟨.map [],0,bs _,eb _ _ _ _,λ_ _ _=>⟨rfl,λ_ h=>by cases h⟩⟩
theorem QMap.look {g:ag×ag->ao aj}(h:QMap w u g N)(F:(ce e).run al w=.ok z w)(I:Tryz.prog.underlying t=E (.map 114 e))
  {s:ag} {n:ag} (y:s.size<=aq) (A:n.size<=aq):(dh t (.map (E u)) (av #[s,n]) ar).run al w=.ok ((g (s,n)).getD z) w:=by
 obtain⟨D,m,_,J,O⟩:=h;obtain⟨U,V⟩:=O (s,n) y A;obtain⟨v,Y,o,X⟩:=J.lookup lawQ I F (zd:=.held z) (zp:=[]) rfl (keyQ y A);rw[o,zF7 U V X]
theorem zF5 (x:ag×ag):WideAt.IsKeyLit (aqL x):=trivial
def updQ (g:ag×ag->ao aj)(x:ag×ag)(v:aj):ag×ag->ao aj:=λy=>if y=x then E v else g y
theorem zDu {w:ah}{F:bd ax}{A:ae ax}{o:ax}{a:aw}{Q:bp->aw->ah->Prop}(hg:o.guard=ab)(m x v:bv)(t e:bm)(X:o.op=dt t m x v)(ht:Tryz.prog.underlying t=E (.map 114 e))
  (I:C) (g:ag×ag->ao aj) (N:C) (hN:N<aq) (s:ag) (n:ag) (Z:s.size<=aq) (hn:n.size<=aq) (u:aj) (hm:a.eval m=.map (E I)) (J:QMap w I g N) (hx:a.eval x=av #[.string s,.string n]) (O:a.eval v=u)
  (hK:∀ w',QMap w' I (updQ g (s,n) u) (N+1)->Fr (Is I) w w'->bo al F Q A (a.put o.dst bn) w'):bo al F Q (o::A) a w:=by
 obtain⟨D,k,hk,Y,hh⟩:=J;refine em w hg m x v t X 114 e lawQ ht heldV I k D hm Y (by omega) _ _ _ hx O (keyQ Z hn) (.held u) [] rfl (λw' h h'=>hK w' ⟨_,k+1,by omega,h,λy hy U=>?_⟩ (dg h'));obtain⟨h1,h2⟩:=hh y hy U;unfold updQ;by_cases e:y=(s,n)
 .subst e;rw[bi rfl];exact⟨by rw[df Y.isMap (zF5 _) _];rfl,λv O z=>by cases O;rw[dd Y.isMap (zF5 _) _ _]⟩
 .rw[az e];have V:aqL y≠aqL (s,n):=λhe=>e (zMF hy U Z hn he)
  exact⟨by rw[de V];exact h1,λv O z=>by rw[dc V];exact h2 v O z⟩
theorem Strs.keep {X:ah}{l:ae ag}(h:Strs X a o l)(v:Fr S X W)(y:∀ b,b<(X:C)->¬ S b):Strs W a o l:=
 h.fr v (λz e u=>y _ (h.cell z e u).2.1)
def BlkT (w:ah)(a:ao ba)(T:bm):Prop:=∀ ad,a=E ad->∃ cs,w.heap[ad.block]?=E (am cs T (0,0))
theorem BlkT.none (w:ah)(T:bm):BlkT w ab T:=λ_ e=>by cases e
theorem zAI {m c:C}{z:ae aj}(h:w.ownsRow o e u (.slice a n c) m z):BlkT w a e:=by
 obtain⟨_,⟨v,_⟩|⟨g,A,y,v,I,F,_⟩⟩:=h;·cases v;exact BlkT.none _ _
 .cases v;exact λJ e=>by cases e;exact⟨y,F⟩
theorem BlkT.fr (h:BlkT w a T)(u:Fr S w w')(v:∀ o,a=E o->¬ S o.block):BlkT w' a T:=λo e=>by
 obtain⟨cs,y⟩:=h o e;exact⟨cs,u.heap y (v o e)⟩
theorem BlkT.ne (J:w.ownsRow o e u v n I)(h:BlkT w a T)(A:T≠e):∀ z,a=E z->¬ v.ownBlock=E z.block:=by
 intro z N F;obtain⟨cs,O⟩:=h z N;obtain⟨_,⟨rfl,_⟩|⟨g,U,V,rfl,X,y,_⟩⟩:=J;·cases F
 .cases F;rw[O]at y;cases y;exact A rfl
theorem zG {F:ah}(h:w.ownsRow o e u v n I)(N:Fr S w F)(O:∀ b,v.ownBlock=E b->¬ S b):F.ownsRow o e u v n I:=by
 obtain⟨J,⟨rfl,y⟩|⟨g,z,A,rfl,U,V,X,y,Y,Z⟩⟩:=h;·exact⟨J,.inl ⟨rfl,y⟩⟩
 .exact⟨J,.inr ⟨g,z,A,rfl,U,N.heap V (O g rfl),X,y,Y,Z⟩⟩
structure Vir where
 q:ag
 o:ag
 c:ag
 r:ak
def Vir.vals (v:Vir):bd aj:=#[.string v.q,.string v.o,.string v.c,.int af v.r]
structure Virs (w:ah)(a:ao ba)(cap:C)(L:ae Vir):Prop where
 len:(L:C)<=cap
 max:cap<=aq
 isNil:a=ab->L=[]/\cap=0
 cell:∀ ad,a=E ad->L≠[]->ad.spot=ab/\ad.block<(w:C)/\∀ i m,L[i]?=E m->∀ j,j<4->w ⟨ad.block,ad.off+(i*4+j),ab⟩=m.vals[j]?
structure VirAt (w:ah)(b o:C)(m:Vir):Prop where
 c0:w ⟨b,o,ab⟩=E (.string m.q)
 c1:w ⟨b,o+1,ab⟩=E (.string m.o)
 c2:w ⟨b,o+2,ab⟩=E (.string m.c)
 c3:w ⟨b,o+3,ab⟩=E (.int af m.r)
theorem Virs.elem {y:C}{L:ae Vir}(h:Virs w a y L){k:C}(u:k<(L:C)):
  ∃ b o m,a=E ⟨b,o,ab⟩/\L[k]?=E m/\VirAt w b (o+k*4) m/\b<(w:C):=by
 cases a with
 | none=>obtain⟨rfl,_⟩:=h.isNil rfl;simp at u
 | some A=>
  obtain⟨b,o,J⟩:=A;obtain⟨z,F,I⟩:=h.cell _ rfl (by intro e;subst e;simp at u);simp at z;subst z;have v:=I k _ (cr u);exact⟨b,o,L[k],rfl,cr u,⟨v 0 (by omega),v 1 (by omega),v 2 (by omega),v 3 (by omega)⟩,F⟩
theorem Virs.lenmax {L:ae Vir}(h:Virs w a o L):(L:C)<=9223372036854775807:=by
 have v:=h.len;have u:=h.max;unfold aq at u;omega
theorem Virs.fr {L:ae Vir}(h:Virs w a o L)(y:Fr S w w')(A:∀ u,a=E u->L≠[]->¬ S u.block):Virs w' a o L:=
 ⟨h.len,h.max,h.isNil,λu e v=>by
  obtain⟨F,z,I⟩:=h.cell u e v;refine⟨F,ff z y.size,λi m J j N=>?_⟩;rw[<-I i m J j N];exact World.cell?_of_block (y.block _ z (A u e v))⟩
theorem Virs.no {L:ae Vir}(h:Virs w a o L)(u:Fr S w w')(v:∀ k,¬ S k):Virs w' a o L:=h.fr u (λ_ _ _=>v _)
theorem Virs.nil (w:ah):Virs w ab 0 []:=⟨by simp,by simp,λ_=>⟨rfl,rfl⟩,λ_ e _=>by cases e⟩
theorem infoV: (Tryz.prog.info? 52).map (λi=>(i.zero,i.size,i.bytes))=E (E (av #[bq,bq,bq,.int af 0]),4,56):=by kernel_rfl
def vflat (L:ae Vir):ae aj:=L.flatMap (λm=>m.vals.toList)
theorem zB1 (L:ae Vir)(m:Vir):vflat (L++[m])=vflat L++m.vals.toList:=by simp[vflat]
theorem zCb (m:Vir):∀ u∈m.vals.toList,u.oneCell'=true:=by
 intro u h;simp[Vir.vals]at h;rcases h with rfl|rfl|rfl|rfl<;>rfl
theorem zIG : ∀ (L:ae Vir) (i:C) (m:Vir),L[i]?=E m->∀ j,j<4->(vflat L)[i*4+j]?=m.vals[j]?
 | [],i,m,h,j,o=>by simp at h
 | x::t,0,m,h,j,o=>by
  simp at h;subst h;have:vflat (x::t)=x.vals.toList++vflat t:=by simp[vflat]
  rw[this,f6 (by simp[Vir.vals];omega)];simp
 | x::t,i+1,m,h,j,o=>by
  have:vflat (x::t)=x.vals.toList++vflat t:=by simp[vflat]
  rw[this,f7 (by simp[Vir.vals];omega),show (i+1)*4+j-x.vals.toList.length=i*4+j from by simp[Vir.vals];omega];exact zIG t i m (by simpa using h) j o
theorem Virs.of_own {L:ae Vir}(h:w.ownsRow u e 4 v (L:C) (vflat L)):
  ∃ a o,v=.slice a L o/\Virs w a o L/\∀ y,a=E y->u<=y.block:=by
 obtain⟨_,⟨rfl,z⟩|⟨g,o,A,rfl,N,F,O,z,Z,U⟩⟩:=h
 .have:L=[]:=f3 z;subst this;exact⟨ab,0,rfl,Virs.nil w,λ_ e=>by cases e⟩
 .refine⟨E ⟨g,0,ab⟩,o,rfl,⟨O,z,(λe=>by cases e),?_⟩,λy e=>by cases e;exact N⟩;intro y e V;cases e;refine⟨rfl,zC F,λi m I j X=>?_⟩;rw[zB F];simp only[fi];have Y:i<(L:C):=(List.getElem?_eq_some_iff.1 I).1;have J:(A.toList.take ((L:C)*4))[i*4+j]?=(vflat L)[i*4+j]?:=by rw[U]
  rw[f8 (by omega),zIG L i m I j X]at J;rw[<-eo,J]
structure Src where
 at_:ak
 d:Dev
 o:ag
 r:ak
def Src.vals (s:Src):bd aj:=#[.int af s.at_,.int af s.d.index,.int af s.d.parent,.string s.d.name,.string s.d.orig,.string s.d.sub,.string s.d.drv,.string s.d.ali,.int af s.d.kind,.int af s.d.num,.slice s.d.aa s.d.an s.d.ac,.string s.o,.int af s.r]
structure SrcB (W:ah)(b o:C)(s:Src):Prop where
 c0:W ⟨b,o,ab⟩=E (.int af s.at_)
 c1:W ⟨b,o+1,ab⟩=E (.int af s.d.index)
 c2:W ⟨b,o+2,ab⟩=E (.int af s.d.parent)
 c3:W ⟨b,o+3,ab⟩=E (.string s.d.name)
 c4:W ⟨b,o+4,ab⟩=E (.string s.d.orig)
 c5:W ⟨b,o+5,ab⟩=E (.string s.d.sub)
 c6:W ⟨b,o+6,ab⟩=E (.string s.d.drv)
 c7:W ⟨b,o+7,ab⟩=E (.string s.d.ali)
 c8:W ⟨b,o+8,ab⟩=E (.int af s.d.kind)
 c9:W ⟨b,o+9,ab⟩=E (.int af s.d.num)
 c10:W ⟨b,o+10,ab⟩=E (.slice s.d.aa s.d.an s.d.ac)
 c11:W ⟨b,o+11,ab⟩=E (.string s.o)
 c12:W ⟨b,o+12,ab⟩=E (.int af s.r)
structure SrcB0 (W:ah)(b:C)(s:Src):Prop where
 c0:W ⟨b,0,ab⟩=E (.int af s.at_)
 c1:W ⟨b,1,ab⟩=E (.int af s.d.index)
 c2:W ⟨b,2,ab⟩=E (.int af s.d.parent)
 c3:W ⟨b,3,ab⟩=E (.string s.d.name)
 c4:W ⟨b,4,ab⟩=E (.string s.d.orig)
 c5:W ⟨b,5,ab⟩=E (.string s.d.sub)
 c6:W ⟨b,6,ab⟩=E (.string s.d.drv)
 c7:W ⟨b,7,ab⟩=E (.string s.d.ali)
 c8:W ⟨b,8,ab⟩=E (.int af s.d.kind)
 c9:W ⟨b,9,ab⟩=E (.int af s.d.num)
 c10:W ⟨b,10,ab⟩=E (.slice s.d.aa s.d.an s.d.ac)
 c11:W ⟨b,11,ab⟩=E (.string s.o)
 c12:W ⟨b,12,ab⟩=E (.int af s.r)
theorem SrcB0.of {s:Src}{o:C×C}(h:W.heap[b]?=E (am s.vals T o)):SrcB0 W b s:=
 ⟨zB h 0,zB h 1,zB h 2,zB h 3,zB h 4,zB h 5,zB h 6,zB h 7,zB h 8,zB h 9,zB h 10,zB h 11,zB h 12⟩
structure Srcs (w:ah)(a:ao ba)(cap:C)(L:ae Src):Prop where
 len:(L:C)<=cap
 max:cap<=aq
 isNil:a=ab->L=[]/\cap=0
 cell:∀ ad,a=E ad->L≠[]->ad.spot=ab/\ad.block<(w:C)/\∀ i s,L[i]?=E s->∀ j,j<13->w ⟨ad.block,ad.off+(i*13+j),ab⟩=s.vals[j]?
theorem Srcs.elem {y:C}{L:ae Src}(h:Srcs w a y L){k:C}(v:k<(L:C)):
  ∃ b u s,a=E ⟨b,u,ab⟩/\L[k]?=E s/\SrcB w b (u+k*13) s/\b<(w:C):=by
 cases a with
 | none=>have:=(h.isNil rfl).1;subst this;simp at v
 | some I=>
  obtain⟨b,u,J⟩:=I;obtain⟨z,A,F⟩:=h.cell _ rfl (by intro e;subst e;simp at v);simp only at z A F;subst z;have o:=F k L[k] (cr v);refine⟨b,u,L[k],rfl,cr v,⟨?_,?_,?_,?_,?_,?_,?_,?_,?_,?_,?_,?_,?_⟩,A⟩;·exact o 0 (by omega)
  .exact o 1 (by omega)
  .exact o 2 (by omega)
  .exact o 3 (by omega)
  .exact o 4 (by omega)
  .exact o 5 (by omega)
  .exact o 6 (by omega)
  .exact o 7 (by omega)
  .exact o 8 (by omega)
  .exact o 9 (by omega)
  .exact o 10 (by omega)
  .exact o 11 (by omega)
  .exact o 12 (by omega)
theorem Srcs.lenmax {L:ae Src}(h:Srcs w a o L):(L:C)<=9223372036854775807:=by
 have v:=h.len;have u:=h.max;unfold aq at u;omega
theorem Srcs.fr {L:ae Src}(h:Srcs w a o L)(y:Fr S w w')(F:∀ u,a=E u->L≠[]->¬ S u.block):Srcs w' a o L:=
 ⟨h.len,h.max,h.isNil,λu e v=>by
  obtain⟨I,J,N⟩:=h.cell u e v;refine⟨I,ff J y.size,λi s O j z=>?_⟩;have A:=N i s O j z;have U:j<s.vals.size:=z;rw[Array.getElem?_eq_getElem U]at A ⊢;exact y.cell A (F u e v)⟩
theorem Srcs.nil (w:ah):Srcs w ab 0 []:=⟨by simp,by simp,λ_=>⟨rfl,rfl⟩,λ_ e _=>by cases e⟩
def sflat (L:ae Src):ae aj:=L.flatMap (λs=>s.vals.toList)
theorem zC9 (L:ae Src)(s:Src):sflat (L++[s])=sflat L++s.vals.toList:=by simp[sflat]
theorem zCe (s:Src):∀ u∈s.vals.toList,u.oneCell'=true:=by
 intro u h;simp[Src.vals]at h;rcases h with rfl|rfl|rfl|rfl|rfl|rfl|rfl|rfl|rfl|rfl|rfl|rfl|rfl<;>rfl
theorem zGg (L:ae Src):(sflat L).length=(L:C)*13:=by
 induction L with
 | nil=>rfl
 | cons x t h=>
  have:sflat (x::t)=x.vals.toList++sflat t:=by simp[sflat]
  rw[this,dk,h];simp[Src.vals];omega
theorem zFh : ∀ (L:ae Src) (i:C) (s:Src),L[i]?=E s->∀ j,j<13->(sflat L)[i*13+j]?=s.vals[j]?
 | [],i,s,h,j,o=>by simp at h
 | x::t,0,s,h,j,o=>by
  simp at h;subst h;have:sflat (x::t)=x.vals.toList++sflat t:=by simp[sflat]
  rw[this,f6 (by simp[Src.vals];omega)];simp
 | x::t,i+1,s,h,j,o=>by
  have e:sflat (x::t)=x.vals.toList++sflat t:=by simp[sflat]
  have u:x.vals.toList.length=13:=rfl;rw[e,f7 (by rw[u];omega),u,show (i+1)*13+j-13=i*13+j from by omega];exact zFh t i s (by simpa using h) j o
theorem Srcs.of_own {L:ae Src}(h:w.ownsRow u e 13 v (L:C) (sflat L)):
  ∃ a o,v=.slice a L o/\Srcs w a o L/\∀ y,a=E y->u<=y.block:=by
 obtain⟨_,⟨rfl,z⟩|⟨g,o,I,rfl,J,A,N,z,Z,O⟩⟩:=h
 .have:L=[]:=f3 z;subst this;exact⟨ab,0,rfl,Srcs.nil w,λ_ e=>by cases e⟩
 .refine⟨E ⟨g,0,ab⟩,o,rfl,⟨N,z,(λe=>by cases e),?_⟩,λy e=>by cases e;exact J⟩;intro y e U;cases e;refine⟨rfl,zC A,λi s F j V=>?_⟩;have X:i<(L:C):=(List.getElem?_eq_some_iff.1 F).1;have Y:=zFh L i s F j V;rw[zB A];simp only[fi];rw[<-eo,<-Y,<-O,f8 (by omega)]
theorem infoSr: (Tryz.prog.info? 123).map (λi=>(i.zero,i.size,i.bytes))=E (E (av #[.int af 0,.int af 0,.int af 0,bq,bq,bq,bq,bq,.int af 0,.int af 0,.slice ab 0 0,bq,.int af 0]),13,168):=by kernel_rfl
def cntL (ds:ae Dev)(L:ae Rec):C->ae Dev->ae Src
 | _,[]=>[]
 | i,d::t=>(if cntB ds L d.index=ap then [⟨i,d,plc ds d.index,0⟩]else [])++cntL ds L (i+1) t
theorem zBv (ds:ae Dev)(L:ae Rec):∀ (l:ae Dev) (i:C) (d:Dev),cntL ds L i (l++[d])=cntL ds L i l++(if cntB ds L d.index=ap then [⟨((i+(l:C):C):ak),d,plc ds d.index,0⟩]else [])
 | [],i,d=>by simp[cntL]
 | x::t,i,d=>by
  rw[di,cntL,cntL,zBv ds L t (i+1) d,List.append_assoc]
  congr 4
  simp;omega
theorem zCv (ds:ae Dev)(L:ae Rec):∀ (l:ae Dev) (i:C),(cntL ds L i l).length<=(l:C)
 | [],i=>by simp[cntL]
 | x::t,i=>by
  have:=zCv ds L t (i+1);rw[cntL,dk,dl];split<;>simp<;>omega
theorem zAm (ds:ae Dev)(L:ae Rec):∀ (l:ae Dev) (i:C) (s:Src),s∈cntL ds L i l->s.d∈l/\s.o=plc ds s.d.index/\s.r=0/\0<=s.at_/\s.at_<((i+(l:C):C):ak)
 | [],i,s,h=>by simp[cntL]at h
 | x::t,i,s,h=>by
  rw[cntL]at h;rcases List.mem_append.1 h with h|h
  .split at h
   .simp at h;subst h;exact⟨by simp,rfl,rfl,by first|(simp;done)|(simp;omega),by first|(simp;done)|(simp;omega)⟩
   .simp at h
  .obtain⟨u,v,y,z,A⟩:=zAm ds L t (i+1) s h;exact⟨by simp[u],v,y,z,by simp at A ⊢;omega⟩
def rcs (ka:ao ba)(kn kc:C)(wt:ak)(a:ao ba)(n cap:C)(ca:ao ba)(cn cc:C)(ea:ao ba)(en ec:C)(sa:ao ba)(sn sc:C)(wm sm:C)(ma:ao ba)(mn mc:C):bd aj:=
 #[.slice ka kn kc,wt,.slice a n cap,.slice ca cn cc,.slice ea en ec,.slice sa sn sc,.map (E wm),.map (E sm),.slice ma mn mc]
def wantG (M:ae Vir):ag×ag->ao aj:=λp=>(M.find? λv=>decide ((v.q,v.o)=p)).map λv=>av v.vals
def seenG (G:ae (ag×ag)):ag×ag->ao aj:=λp=>if G.any (λx=>decide (x=p))=ap then E (.bool ap)else ab
def zOq {α:Type}(N:C)(I:ae α->(C->Prop)->ah->Prop)(pre:ae α)(V:C->Prop)(W:ah):bp->aw->ah->Prop
 | .normal,_,W'=>∃ V',(∀ b,V' b->V b\/N<=b)/\I pre V' W'/\Fr V W W'
 | _,_,_=>False
theorem Fr.putObj (W:ah)(r:C)(o:Obj)(h:S r):Fr S W (W.putObj r o):=
 ⟨rfl,rfl,rfl,by simp,λk _ u=>db (λe=>u (e▸h))⟩
def Gives {α:Type}(F:Fence)(n:C)(P:bz)(gf:C)(lb:bd aj)(encs:α->bd aj)(T V0:C->Prop)(xs:ae α)(w:ah):Prop:=
 ∀ (l:C) (J:ae α->(C->Prop)->ah->Prop) (W:ah),Fr No w W->(w:C)<=l->l<(W:C)->
  (∀ s V A,J s V A->∀ b,V b->b<(A:C))->
  (∀ s V A B,J s V A->Fr T A B->(∀ b,V b->¬ T b)->J s V B)->
  (∀ pre V x A,J pre V A->pre++[x] <+: xs->YieldAt F (n-1) P l (encs x) A λe B=>e=.returned (.bool ap)/\∃ V',(∀ b,V' b->V b\/(w:C)+2<=b)/\J (pre++[x]) V' B/\Fr (λb=>V b\/b=l) A B)->
  J [] V0 W->cl F n P gf (#[.func (.yield l) #[] #[]]++lb) W λe W'=>(∃ v,e=.returned v)/\∃ V,J xs V W'
theorem zAs {α:Type}{F:Fence}{n:C}{P:bz}{g:bv}{ps:bd Tmp}{assign body:Code}{Q:bp->aw->ah->Prop}{a:aw}{w:ah}
  (d0:F.round=ab) (h1:1<=n) {gf:C} {lb:bd aj} (hg:a.eval g=.func (.func gf) #[] lb) (d1:F.fn gf) (eg:∀ args w,(callFunc gf args).run P w=.ok (.enter gf args) w)
  {encs:α->bd aj} (d2:∀ x,(encs x).size=ps.size) {T V0:C->Prop} (hT:∀ b,T b->b<(w:C)) (b1:∀ b,V0 b->b<(w:C)) {xs:ae α}
  (b2:Gives F (n-1) P gf lb encs T V0 xs w)
  (I:ae α->(C->Prop)->ah->Prop) (b3:∀ s V A,I s V A->∀ b,V b->b<(A:C))
  (hI:∀ s V A b0 S,I s V A->Fr S A b0->(∀ b,S b->¬ V b/\(T b\/(w:C)<=b))->I s V b0) (h0:I [] V0 w)
  (Ax:α->(C->Prop)->aw->ah->Prop) (d3:∀ x V Y A b0,Ax x V Y A->Fr (Is ((w:C)+1)) A b0->Ax x V Y b0)
  (J:∀ (l:C) (pre:ae α) (V:C->Prop) (x:α) (W:ah) (K:aw->ah->Prop),I pre V W->(w:C)+2<=(W:C)->(∀ Y W',Fr No W W'->Ax x V Y W'->K Y W')->
   assign.wpIn (F.inRound l) (n-1-1) P (Exit.then K (λ_ _ _=>False)) { tmps:=(ps.zip (encs x)).foldl (λt (p,v)=>t.setIfInBounds p v) a.tmps,defers:=[] } W)
  (a5:∀ (l:C) (pre:ae α) (V:C->Prop) (x:α) (Y:aw) (W:ah),I pre V W->Ax x V Y W->pre++[x] <+: xs->(w:C)+2<=(W:C)->body.wpIn (F.inRound l) (n-1-1) P (zOq ((w:C)+2) I (pre++[x]) V W) Y W)
  (a6:∀ (V:C->Prop) (W:ah),I xs V W->W.heap[(w:C)]?=E (.deferred (E []))->¬ V (w:C)->Q .normal { a with defers:={ target:=.collected (w:C),args:=#[] }::a.defers } W):
  (Code.rangeFunc g ps assign body).wpIn F n P Q a w:=by
 apply wpIn_rangeFunc;intro fn d4;rw[d0];obtain⟨u,o⟩:∃ u:LoopState->ao Code->Loop,u=λst pe=>{ state:=st,pending:=pe,fn,tmps:=a.tmps,params:=ps,assign,body,defers:=(w:C) }:=⟨_,rfl⟩
 obtain⟨N,O⟩:∃ N,(w.alloc (.deferred (E []))).alloc (.loop (u .ready ab))=N:=⟨_,rfl⟩
 have e7:(N:C)=(w:C)+2:=by rw[<-O];simp
 have d5:N.heap[(w:C)+1]?=E (.loop (u .ready ab)):=by
  rw[<-O];have:=fq (w.alloc (.deferred (E []))) (.loop (u .ready ab));rwa [ed]at this
 have d6:N.heap[(w:C)]?=E (.deferred (E [])):=by
  rw[<-O];exact(Below.heap_alloc _ _ _ (by simp)).trans (fq w _)
 have Z:Fr No w N:=by rw[<-O];exact((bg _ _).alloc _).alloc _
 have d7:I [] V0 N:=hI _ _ _ _ _ h0 Z (λ_ h=>h.elim);refine⟨(w:C)+1,[{ target:=.collected (w:C),args:=#[] }],N,{ target:=.fn (.func gf) lb,args:=#[.func (.yield ((w:C)+1)) #[] #[]] },N,gf,
  #[.func (.yield ((w:C)+1)) #[] #[]]++lb,N,?_,?_,?_,?_,λ_=>h1,?_⟩
 .rw[<-O,o];exact run_enterLoop_outer _ _ _ _ _
 .simp only[resolve,hg];simp[go_sem]
 .intro f' b4;simp[Target.leads]at b4;subst b4;exact d1
 .simp[invoke,go_sem,eg]
 .refine(b2 ((w:C)+1) (λpre V W=>I pre V W/\¬ V (w:C)/\¬ V ((w:C)+1)/\W.heap[(w:C)+1]?=E (.loop (u .ready ab))/\W.heap[(w:C)]?=E (.deferred (E [])))
   N Z (by omega) (by omega) (λs V A h=>b3 s V A h.1) ?_ ?_ ⟨d7,λh=>by have:=b1 _ h;omega,λh=>by have:=b1 _ h;omega,d5,d6⟩).mono ?_
  .rintro s V A b0 ⟨hi,z,y,hl,hk⟩ hf d8;refine⟨hI _ _ _ _ _ hi hf (λb U=>⟨λh=>d8 b h U,.inl U⟩),z,y,hf.heap hl (λh=>?_),hf.heap hk (λh=>?_)⟩;·have:=hT _ h;omega
   .have:=hT _ h;omega
  .rintro pre V x W ⟨hi,z,y,hl,hk⟩ b5;have e8:(w:C)+1<(W:C):=(Array.getElem?_eq_some_iff.1 hl).1;have hy:=run_yield (P:=P) (args:=encs x) hl (by rw[o];exact d2 x);rw[o]at hy;refine⟨fn,_,assign,body,hy,roundIn_of_wpIn d4 (J _ pre V x W _ hi (by omega) ?_)⟩;clear hy;intro Y Wa X d9;have b6:=X.heap hl id;have e0:=X.heap hk id;have e1:=hI _ _ _ _ _ hi X (λ_ h=>h.elim);have b7:(w:C)+1<(Wa:C):=(Array.getElem?_eq_some_iff.1 b6).1;have e9:=X.size;refine⟨_,run_beginRound b6 (by rw[o]),?_⟩;have e2:(Wa.putObj ((w:C)+1) (.loop { u .ready ab with state:=.busy })).heap[(w:C)+1]?=E (.loop { u .ready ab with state:=.busy }):=fs b7;have e3:(Wa.putObj ((w:C)+1) (.loop { u .ready ab with state:=.busy })).heap[(w:C)]?=E (.deferred (E [])):=(db (by omega)).trans e0;have a7:Fr (Is ((w:C)+1)) Wa (Wa.putObj ((w:C)+1) (.loop { u .ready ab with state:=.busy })):=Fr.putObj _ _ _ rfl;have e4:=hI _ _ _ _ _ e1 a7 (λb U=>by unfold Is at U;subst U;exact⟨y,.inr (by omega)⟩);refine el (a5 _ pre V x Y _ e4 (d3 _ _ _ _ _ d9 a7) b5 (by simp;omega)) ?_;rintro e a3 W3 hp;cases e with
   | normal=>
    obtain⟨V',a8,e5,a9⟩:=hp;have b8:=a9.heap e2 y;have e6:=a9.heap e3 z;have b9:¬ V' (w:C):=λh=>by rcases a8 _ h with h|h;exact z h;omega
    have a2:¬ V' ((w:C)+1):=λh=>by rcases a8 _ h with h|h;exact y h;omega
    have a4:=run_endRound (P:=P) ab b8;rw[o]at a4;refine⟨_,_,a4,rfl,V',a8,⟨hI _ _ _ _ _ e5 (Fr.putObj (S:=Is ((w:C)+1)) _ _ _ rfl) (λb U=>by unfold Is at U;subst U;exact⟨a2,.inr (by omega)⟩),b9,a2,?_,?_⟩,?_⟩;·rw[o];exact fs (Array.getElem?_eq_some_iff.1 b8).1
    .exact(db (by omega)).trans e6
    .refine(((X.mono zn).step a7 ?_).step a9 ?_).step (Fr.putObj (S:=Is ((w:C)+1)) _ _ _ rfl) ?_;·rintro b _ h;exact .inr h
     .rintro b _ h;exact .inl h
     .rintro b _ h;exact .inr h
   | ret=>exact hp.elim
   | exit id=>exact hp.elim
   | goto t=>exact hp.elim
   | panic ch=>exact hp.elim
   | outgrown=>exact hp.elim
  .rintro e W2 ⟨⟨v,rfl⟩,V,hi,z,y,hl,hk⟩;refine⟨ab,_,by have:=run_endLoop (P:=P) hl (by rw[o];simp);rw[o]at this;exact this,a6 V _ (hI _ _ _ _ _ hi (Fr.putObj (S:=Is ((w:C)+1)) _ _ _ rfl) (λb U=>by unfold Is at U;subst U;exact⟨y,.inr (by omega)⟩)) ((db (by omega)).trans hk) z⟩
attribute [local go_sem] cy
theorem FindIs.no {n:ak}{e:Ending}(h:FindIs ds n e)(o:look ds n=ab):e=.returned (.tuple #[av Dev.zero.vals,.bool ar]):=by
 rcases h with⟨_,h⟩|⟨d,h,_⟩
 .exact h
 .rw[o]at h;cases h
theorem FindIs.yes {n:ak}{e:Ending}{d:Dev}(h:FindIs ds n e)(o:look ds n=E d):e=.returned (.tuple #[av d.vals,.bool ap]):=by
 rcases h with⟨h,_⟩|⟨v,h,u⟩
 .rw[o]at h;cases h
 .rw[o]at h;cases h;exact u
structure UpAt (W:ah)(a:ao ba)(cap:C)(ds:ae Dev)(m1 m2 Bv Bn:C):Prop where
 devs:Devs W a cap ds
 maps:VAt W m1 m2 ds
 view:W.heap[Bv]?=E (am #[.slice a ds cap,.map (E m1),.map (E m2)] 153)
theorem UpAt.fr {A:ah}{v y F:C}(h:UpAt W a o ds u v y F)(z:Fr S W A)(J:∀ I,a=E I->ds≠[]->¬ S I.block)(N:¬ S u)(O:¬ S v)(U:¬ S y):UpAt A a o ds u v y F:=
 ⟨h.devs.fr z J,h.maps.fr z N O,z.heap h.view U⟩
theorem zMT (n:C)(hn:3<=n)(a:ao ba)(z:C)(ds:ae Dev)(m1 m2 O o:C)(i0:ak)(w:ah)(V0:C->Prop)(hU:UpAt w a z ds m1 m2 O o)(hT:TreeOk ds)
  (hb:w.heap[o]?=E (am #[.int af i0] 3)) (d5:(bf af i0).wf=ap)
  (A:o≠O/\o≠m1/\o≠m2/\∀ v,a=E v->ds≠[]->v.block≠o) (a8:m1<(w:C)/\m2<(w:C))
  (hV:¬ V0 o/\¬ V0 O/\¬ V0 m1/\¬ V0 m2/\∀ v,a=E v->ds≠[]->¬ V0 v.block):
  Gives bt n al 241 #[bc (E ⟨O,0,ab⟩),bc (E ⟨o,0,ab⟩)] (λd:Dev=>#[av d.vals]) (Is o) V0 (chain ds i0) w:=by
 intro l J W a3 e6 e7 a9 hJ hY h0;have X:o<(w:C):=zC hb;have d6:O<(w:C):=zC hU.view;have d7:∀ v,a=E v->ds≠[]->v.block<(w:C):=λv e A=>(hU.devs.cell v e A).2.1
 have b0:=hU.fr a3 (λ_ _ _=>id) id id id;have d8:=a3.heap hb id;have e8:=a3.size;have hm:=hU.devs.lenmax;have e9:1<=n:=by omega
 have g2:Fence.wide.fn 242:=trivial;show cl bt n al 241 #[.func (.yield l) #[] #[],bc (E ⟨O,0,ab⟩),bc (E ⟨o,0,ab⟩)] W _
 have cv:W ⟨O,0,ab⟩=E (.slice a ds z):=zB b0.view 0;refine callsIn_of_wp fl rfl trivial ?_ rfl;simp only[Tryz.ntmps241,cu,dl,fa,fg,fh,er,et,fd,ez,fc,di]
 gi_wp2
 clear cv
 gi_loopw [9] (λi wr=>∃ (pre:ae Dev) (m:ak) (V:C->Prop),(pre:C)<=(ds:C)/\i=.int af ((pre:C):ak)/\(bf af m).wf=ap/\ai (chain ds i0=pre++chainK ds ((ds:C)-(pre:C)) m)/\wr.heap[o]?=E (am #[.int af m] 3)/\UpAt wr a z ds m1 m2 O o/\J pre V wr/\(∀ b,V b->V0 b\/(w:C)<=b)/\(W:C)<=(wr:C)) (λi _=>(ds:C)-(bw i).toNat)
 case atStart=>exact⟨[],i0,V0,by simp,rfl,d5,by unfold ai chain;simp,d8,b0,h0,λb hb=>.inl hb,bs _⟩
 case round=>
  obtain⟨pre,m,V,hk,rfl,b1,HC,a4,u,Y,b2,g3⟩:=hrel;have nV:∀ b,b<(w:C)->¬ V0 b->¬ V b:=λb h1 N h=>(b2 b h).elim N (λh'=>by omega)
  have c0:wr ⟨O,0,ab⟩=E (.slice a ds z):=zB u.view 0;have c1:wr ⟨O,1,ab⟩=E (.map (E m1)):=zB u.view 1;have c2:wr ⟨O,2,ab⟩=E (.map (E m2)):=zB u.view 2;have d0:wr ⟨o,0,ab⟩=E (.int af m):=zB a4 0;by_cases e3:(pre:C)<(ds:C)
  .cases hlk:look ds m with
   | none=>
    have F:=zh hlk;clear hlk
    gi_wp2_with (gi_at_call 242;refine(callsIn_wide.2 (zGT a z ds m1 m2 m _ u.devs u.maps b1)).mono ?_;rintro e w1 ⟨hF,I⟩;obtain rfl:=hF.no F.out;unfold be cm)
    have b5:=hJ _ _ _ _ Y ((I.mono zn).alloc (am Dev.zero.vals 48)) (λb h1 N=>by unfold Is at N;subst N;exact nV _ X hV.1 h1);have HJ:=zh b5;clear b5;refine⟨λ_ h=>(by cases h),?_⟩
    gi_wp2
    apply bodyPost_ret (results_none rfl _ _ _) rfl;have e:chain ds i0=pre:=(by rw[HC,zA2 F,List.append_nil]);rw[e];exact⟨⟨_,rfl⟩,V,HJ⟩
   | some d=>
    have F:=zh hlk;clear hlk;have b6:chain ds i0=pre++d::chainK ds ((ds:C)-(pre:C)-1) d.parent:=by
     rw[HC,show (ds:C)-(pre:C)=((ds:C)-(pre:C)-1)+1 from by omega,zEj F];rfl
    have b7:=zh b6;clear b6
    gi_wp2_with (gi_at_call 242;refine(callsIn_wide.2 (zGT a z ds m1 m2 m _ u.devs u.maps b1)).mono ?_;rintro e w1 ⟨hF,I⟩;obtain rfl:=hF.yes F.out;unfold be;obtain⟨fn,e4,d4,e5,hy,hR⟩:=hY pre V d _ (hJ _ _ _ _ Y ((I.mono zn).alloc (am d.vals 48)) (λb h1 N=>by unfold Is at N;subst N;exact nV _ X hV.1 h1)) ⟨chainK ds ((ds:C)-(pre:C)-1) d.parent,by rw[b7.out];simp⟩;have a5:=zF w1 (am d.vals 48);have a6:=(I.alloc (am d.vals 48));unfold be at hy hR a5 a6)
    apply hR.mono;rintro e W3 ⟨rfl,V',a7,d9,Z⟩;have g4:=I.size;have b8:=a9 _ _ _ Y;have n3:∀ b,b<(w:C)->¬ V0 b->¬ (V b\/b=l):=λb h1 N h=>h.elim (nV b h1 N) (λe=>by omega)
    have b9:=((u.fr I (λ_ _ _=>id) id id id).fr ((bg No w1).alloc (am #[.int af d.index,.int af d.parent,.string d.name,.string d.orig,.string d.sub,.string d.drv,.string d.ali,.int af d.kind,.int af d.num,.slice d.aa d.an d.ac] 48)) (λ_ _ _=>id) id id id)
    have d1:=b9.fr Z (λv e y=>n3 _ (d7 v e y) (hV.2.2.2.2 v e y)) (n3 _ a8.1 hV.2.2.1) (n3 _ a8.2 hV.2.2.2.1) (n3 _ d6 hV.2.1);have p3:=Z.heap a5 (λh=>h.elim (λh=>by have:=b8 _ h;omega) (λh=>by omega));have e1:W3 ⟨w1,1,ab⟩=E (.int af d.parent):=zB p3 1;have b3:=Z.heap (a6.heap a4 id) (n3 _ X hV.1);have g0:W3 ⟨o,0,ab⟩=E (.int af m):=zB b3 0;have g1:W3.frozen? ⟨o,0,ab⟩=false:=zD b3 0;have U:Fr (Is o) W3 (W3.setCell ⟨o,0,ab⟩ (.int af d.parent)):=Fr.setAt (bg _ _) _;have a2:∀ b,b≠o->¬ Is o b:=λb h e=>h e
    have d2:=d1.fr U (λv e y=>a2 _ (A.2.2.2 v e y)) (a2 _ A.2.1.symm) (a2 _ A.2.2.1.symm) (a2 _ A.1.symm);have d3:=hJ _ _ _ _ d9 U (λb h1 N=>by unfold Is at N;subst N;exact(a7 _ h1).elim (nV _ X hV.1) (λh=>by omega));have b4:=zE b3 0 (.int af d.parent);have e0:=Z.size;have HF:=zg3 d2 d3 b4;have HV:ai (∀ b,V' b->V0 b\/(w:C)<=b):=λb h=>(a7 b h).elim (b2 b) (λh=>.inr (by omega))
    have e2:=hT.pwf (zAR F).1;clear b9 d1 p3 b3 U d2 d3 b4 a5 a6 a7 u a4 c0 c1 c2 d0
    gi_wp2
    go_roundw;case rel=>
     refine⟨pre++[d],d.parent,V',by simp;omega,by simp,e2,?_,HF.2.2,HF.1,HF.2.1,HV.out,by simp at e0 ⊢;omega⟩;unfold ai;rw[b7.out,show (ds:C)-(pre++[d]).length=(ds:C)-(pre:C)-1 from by simp;omega];simp
    case measure=>simp[bw];omega
  .gi_wp2
   go_end0;have e:chain ds i0=pre:=(by rw[HC.out,show (ds:C)-(pre:C)=0 from by omega];simp[chainK]);rw[e];exact⟨⟨_,rfl⟩,V,Y⟩
def zFw (l:ae ax):Bool:=l.all λo=>match o.op with | .defer _=>ar|_=>ap
theorem zO3 {o:ax}{a:aw}{K A F:aw->ah->Prop}(I:∀ c,o.op≠.defer c)(h:o.wp P a w K (OnlyN F))(u:∀ a w,K a w->A a w):o.wpIn (Fence.wide.inRound r) n P a w A (OnlyN F):=by
 refine⟨λ_ _=>trivial,?_⟩;unfold Oper.wp at h;rw[show (Fence.wide.inRound r).round=E r from rfl,cy r _ _ I];generalize (execOp a.eval o).run P w=x at *;cases x with
 | ok x w'=>
  cases x with
  | value v=>exact u _ _ h
  | skip=>exact u _ _ h
  | defer d=>exact u _ _ h
  | enter f args=>
   refine⟨(λe=>by cases e),(show cl (Fence.wide.inRound r) (n-1) P f args w' _ from(callsIn_wide.2 (Calls.mono h (λe y z=>?_)):cl bt (n-1) P f args w' _))⟩;cases e with
   | returned v=>exact u _ _ z
   | panicked c=>exact z
   | outgrown=>exact z
  | row row args=>
   refine⟨(λe=>by cases e),(show RowsIn (Fence.wide.inRound r) (n-1) P row args w' _ from λc cs _=>?_)⟩;obtain⟨v,y,J,N⟩:=h c cs;exact⟨v,y,u _ _ J,stepsIn_wide.2 N⟩
  | _=>exact h.elim
 | halt x w'=>cases x<;>first|exact h|exact h.elim
theorem zCA {P:bz}{r n:C}{v:bd ax}{F:aw->ah->Prop}(y:∀ (i:C) (o:ax),v[i]?=E o->∀ c,o.op≠dq c):∀ (I:ae C) (a:aw) (w:ah),wpOps P v (OnlyN F) I a w->wpOpsIn (Fence.wide.inRound r) n P v (OnlyN F) I a w
 | [],a,w,h=>h
 | i::u,a,w,h=>by
  unfold wpOps at h;unfold wpOpsIn;split
  .rename_i z;rw[z]at h;exact zCA y u _ _ h
  .rename_i o z;rw[z]at h;simp only at h;split
   .rename_i A;rw[bi A]at h;rcases h with h|⟨_,_,_,h⟩
    .exact zO3 (y i o z) h (λa w h=>zCA y u a w h)
    .exact h.elim
   .rename_i A;rw[az A]at h;exact⟨λ_ _=>trivial,zCA y u _ _ h⟩
theorem zBb {P:bz}{Q:bp->aw->ah->Prop}{l:ae ax}{a:aw}{w:ah}{r n:C}{I:C}(T:C->Prop)(σ:ae (C×Bool))
  (h:∀ y,Fr No w y->wpSig P l Q T σ a y) (v:P.follows .mixedOrders=true:=by kernel_rfl) (u:(fj l.toArray&&(σ.length==(l:C))&&schedB l.toArray σ (ep l.toArray.size ar)&&zFw l)=true:=by kernel_rfl):(ex I l.toArray ap).wpIn (Fence.wide.inRound r) n P Q a w:=by
 simp only[eu,ef]at u;have z:=zA5 (Q:=Q) u.1.1.1 σ _ a w.drew u.1.2 (h _ ((bg No w).drew));have J:l.toArray.size=σ.length:=by simp[u.1.1.2]
 rw[<-J]at z;have N:=wpAny_of_held _ _ _ _ z;have O:∀ (i:C) (o:ax),l.toArray[i]?=E o->∀ c,o.op≠dq c:=λi o A c U=>by
  have v:o∈l:=by rw[f9]at A;exact ct A
  have F:=List.all_eq_true.1 u.2 o v;rw[U]at F;cases F
 refine el (Q:=OnlyN (Q .normal)) (ft λt=>?_) λe a w h=>?_
 .simp only[fk,v,ev,if_true];exact zCA O _ _ _ (wpAny_sound l.toArray.size t _ a _ N)
 .cases e<;>first|exact h|exact h.elim
theorem zCJ {P:bz}{l:ae ax}{a:aw}{w:ah}{r n:C}{J:C}{Q:bp->aw->ah->Prop}(T:C->Prop)(σ:Sg)(M:aw->ah->Prop)
  (h:∀ y,Fr No w y->wpSg P l M T σ a y) (N:∀ z w',M z w'->Q .normal z w') (v:P.follows .mixedOrders=true:=by kernel_rfl) (u:(fj l.toArray&&(σ.size==(l:C))&&schedT l.toArray σ (ep l.toArray.size ar)&&zFw l)=true:=by kernel_rfl):(ex J l.toArray ap).wpIn (Fence.wide.inRound r) n P Q a w:=by
 simp only[eu,ef]at u;have A:=anyT (M:=M) u.1.1.1 σ _ a w.drew u.1.2 (h _ ((bg No w).drew));have O:l.toArray.size=σ.size:=by simp[u.1.1.2]
 rw[<-O]at A;have U:=wpAny_of_held _ _ _ _ A;have V:∀ (i:C) (o:ax),l.toArray[i]?=E o->∀ c,o.op≠dq c:=λi o F c X=>by
  have v:o∈l:=by rw[f9]at F;exact ct F
  have I:=List.all_eq_true.1 u.2 o v;rw[X]at I;cases I
 refine el (Q:=OnlyN M) (ft λt=>?_) λe a w h=>?_
 .simp only[fk,v,ev,if_true];exact zCA V _ _ _ (wpAny_sound l.toArray.size t _ a _ U)
 .cases e<;>first|exact N _ _ h|exact h.elim
attribute [local go_sem] cy
attribute [local go_sem] cy
structure PathI (w0:ah)(B6:C)(pre:ae Dev)(V:C->Prop)(W:ah):Prop where
 txt:∃ s,W.heap[B6]?=E (am #[.string s] 9)/\s.size<=1001*(pre:C)
 foot:∀ b,V b↔b=B6
 fr:Fr (From (w0:C)) w0 W
theorem zKQ (a:ao ba)(o a8:C)(ds:ae Dev)(n:ak)(w:ah)(hl:Tr w a8 a o ds)(hn:(ds:C)<=1000)(hx:(bf af n).wf=ap)(a4:∀ d∈ds,d.name.size<=1000):
  ay al 130 #[av #[.slice a ds o],.int af n] w λe w'=>(∃ s b,e=.returned (.tuple #[.string s,.bool b]))/\Fr No w w':=by
 have hT:=hl.wf.1;refine(eh (n:=12)).1 (callsIn_of_wp_marks Tryz.func130 rfl trivial (wpIn_wide.2 ?_));simp only[Tryz.ntmps130,cu,dl,fa,fg,fh,er,et,fd,ez,fc,di];obtain⟨W0,a9,hW,b2,b6⟩:=zw w (am #[.slice a ds o] 39) (am #[.string ()] 9);have t2:W0 ⟨w,0,ab⟩=E (.slice a ds o):=zB b2 0;go_upto_region 2 with(fail)
 rw[<-a9];clear a9;have y:=zCc a o ds W0 (hl.dv.no hW (λ_=>id)) hT hn;go_wp2_with fail;apply y.mono;rintro e u ⟨⟨U,X,rfl,d4,d5,d0,hI,hS⟩,z⟩;clear y t2;go_wp2_with fail;apply (zOU _ _ _ _ _).mono;rintro e w2 ⟨rfl,rfl⟩;have d7:=z.size;have d8:=zC b6;have F:Fr No u ((u.alloc (am #[.slice a ds o,.map (E U),.map (E X)] 153)).alloc (am #[.int af n] 3)):=((bg _ _).alloc _).alloc _;have a5:UpAt ((u.alloc (am #[.slice a ds o,.map (E U),.map (E X)] 153)).alloc (am #[.int af n] 3)) a o ds U X (u:C) ((u:C)+1):=
  ⟨((hl.dv.no hW (λ_=>id)).no z (λ_=>id)).no F (λ_=>id),VAt.fr ⟨hI,hS⟩ F id id,zP _ _ _⟩
 have a6:=zS u (am #[.slice a ds o,.map (E U),.map (E X)] 153) (am #[.int af n] 3);have b0:((u.alloc (am #[.slice a ds o,.map (E U),.map (E X)] 153)).alloc (am #[.int af n] 3)).heap.size=(u:C)+2:=by simp
 have d6:=F.heap (z.heap b6 id) id;have I:=(hW.step z zi).step F zi;have d1:U<(u:C):=hI.lt;have d2:X<(u:C):=hS.lt;have Y:∀ ad,a=E ad->ds≠[]->ad.block<(w:C):=λad e J=>(hl.dv.cell ad e J).2.1
 have b1:=hW.size;clear hI hS b2 b6 F z hW;go_wp2_with fail;generalize (u.alloc (am #[.slice a ds o,.map (E U),.map (E X)] 153)).alloc (am #[.int af n] 3)=W2 at *;refine(wpIn_wide (n:=12)).1 (zAs (α:=Dev) (T:=Is ((u:C)+1)) (V0:=Is ((w:C)+1)) rfl (by omega) (gf:=241) (lb:=#[bc (E ⟨u,0,ab⟩),bc (E ⟨(u:C)+1,0,ab⟩)]) rfl trivial (ej fl (by kernel_rfl) rfl) (encs:=λd:Dev=>#[av d.vals]) (λ_=>rfl) (λb h=>by omega) (λb h=>by omega)
  (zMT 11 (by omega) a o ds U X (u:C) ((u:C)+1) n W2 (Is ((w:C)+1)) a5 hT a6 hx ⟨by omega,by omega,by omega,λad e J h=>by have:=Y ad e J;omega⟩ ⟨by omega,by omega⟩ ⟨λh=>by omega,λh=>by omega,λh=>by omega,λh=>by omega,λad e J h=>by have:=Y ad e J;omega⟩)
  (PathI w ((w:C)+1)) (λ_ _ _ h b Z=>by obtain⟨s,v,_⟩:=h.txt;rw[(h.foot b).1 Z];exact zC v) (λs V A d9 S h hf hS=>by
   obtain⟨t,v,h2⟩:=h.txt;exact⟨⟨t,hf.heap v (λZ=>(hS _ Z).1 ((h.foot _).2 rfl)),h2⟩,h.foot,h.fr.step hf (λb Z hs=>by
    rcases(hS b hs).2 with h'|h'
    .omega
    .omega)⟩)
  ⟨⟨(),d6,Nat.zero_le _⟩,λb=>Iff.rfl,I.mono zn⟩
  (λx V a' W=>∃ Bx,(W2:C)+2<=Bx/\W.heap[Bx]?=E (am x.vals 48)/\¬ V Bx/\a'={ tmps:=#[av #[.slice a ds o],.int af n,bc (E ⟨w,0,ab⟩),bn,.string (),.bool ar,bc (E ⟨(w:C)+1,0,ab⟩),bc (E ⟨Bx,0,ab⟩),av #[.slice a ds o],av #[.slice a ds o,.map (E U),.map (E X)],.int af n,.func (.func 241) #[] #[bc (E ⟨u,0,ab⟩),bc (E ⟨(u:C)+1,0,ab⟩)],av x.vals,bn,bn,bn,bn,bn,bn,bn,bn],defers:=[] })
  (λx V a' A d9 h hf=>by obtain⟨Bx,v,h2,h3,h4⟩:=h;exact⟨Bx,v,hf.heap h2 (λe=>by omega),h3,h4⟩)
  ?assign ?body ?done)
 case assign=>
  intro l pre V x W K N a2 hK;have b7:∀ b,V b->b<(W:C):=λb Z=>by obtain⟨s,v,_⟩:=N.txt;rw[(N.foot b).1 Z];exact zC v
  have e0:=λa' W' (v:Fr No W W') h2=>hK a' W' v h2
  clear a4 Y b0 a6 a5 I b1 d6 hl hT;unfold be
  gi_wp2
  exact hK _ _ ((bg _ _).alloc _) ⟨(W:C),a2,zF _ _,λh=>by have:=b7 _ h;omega,rfl⟩
 case body=>
  rintro l pre V x a' W N ⟨Bx,e1,b3,e2,rfl⟩ O a2;obtain⟨s,v,h2⟩:=N.txt;have x2:W ⟨Bx,2,ab⟩=E (.string x.name):=zB b3 2;have x6:W ⟨(w:C)+1,0,ab⟩=E (.string s):=zB v 0;have y6:W.frozen? ⟨(w:C)+1,0,ab⟩=false:=zD v 0;have b4:x∈chain ds n:=fv O (by simp);have e3:=a4 x (zEi b4);have e4:(pre:C)<=1000:=by
   have h7:=O.length_le;have h8:=zCw ds n;simp at h7;omega
  have e5:s.size<=1001000:=by omega
  have h3:Fr V W (W.setCell ⟨(w:C)+1,0,ab⟩ (.string ((⟨#[47]⟩:ag)++x.name++s))):=Fr.setCell (bg _ _) (λ_=>(N.foot _).2 rfl) _;have h4:=zE v 0 (.string ((⟨#[47]⟩:ag)++x.name++s));have h5:((⟨#[47]⟩:ag)++x.name++s).size<=1001*(pre++[x]).length:=by
   rw[ByteArray.size_append,ByteArray.size_append,dk];show 1+x.name.size+s.size<=1001*((pre:C)+1)
   omega
  have H:=zg4 h3 h4 h5 N;clear h3 h4 h5 N O b4 v b3 a4 Y b0 a6 a5 I b1 d6 hl hT
  gi_wp2
  refine⟨V,λb h=>.inl h,⟨⟨_,H.2.1,H.2.2.1⟩,H.2.2.2.foot,H.2.2.2.fr.step H.1 (λb Z h=>by rw[(H.2.2.2.foot b).1 h];omega)⟩,H.1⟩
 case done=>
  rintro V W N hK e6;obtain⟨s,v,h2⟩:=N.txt;have d3:=I.size;have b8:=zh N.fr;clear N I;go_wp2_with fail;refine zO No [(0,ar),(1,ar),(2,ar),(3,ar),(4,ar)] (λW3 a7=>?_);have c6:∀ g:Gr No W3,g.W ⟨(w:C)+1,0,ab⟩=E (.string s):=λg=>g.fr.cell (zB (a7.heap v id) 0) id
  have a3:Fr (Is (W2:C)) W3 (W3.putObj (W2:C) (.deferred ab)):=Fr.putObj _ _ _ rfl;have b5:ai (Fr No w (W3.putObj (W2:C) (.deferred ab))):=((b8.step a7 zn).step a3 (λb Z e=>by omega)).mono (λb Z h=>by omega);have b9:=a7.heap hK id;clear a3;(repeat(first|apply zR rfl rfl rfl|apply zT rfl rfl rfl);intro K hK;go_big_quiet_op;go_big_quiet_on);apply zb;go_wp2_with fail;refine⟨by simp,.inl ⟨_,_,rfl,run_takeDeferred b9,?_⟩⟩;refine⟨.tuple #[.string s,.bool (!s.toList.isEmpty)],by simp[results,Tryz.results130,go_sem],⟨_,_,rfl⟩,b5.out⟩
def spl (c:au):ae au->ae (ae au)
 | []=>[[]]
 | x::t=>if x=c then []::spl c t else match spl c t with
  | []=>[[x]]
  | h::r=>(x::h)::r
theorem zN1 (c:au):∀ s,spl c s≠[]
 | []=>by simp[spl]
 | x::t=>by
  unfold spl;split;·simp
  .split<;>simp
theorem zE9 (c:au):∀ s:ae au,cg [c] 0 (s.count c) s=spl c s
 | []=>rfl
 | x::t=>by
  have y:=zE9 c t;by_cases u:x=c
  .subst u;have v:br (x::t) [x]=0:=by
    unfold br;rw[bi (by simp)]
   have e:spl x (x::t)=[]::spl x t:=(by rw[spl,bi rfl]);rw[List.count_cons_self,cg,v,e,<-y];rfl
  .have z:(x::t).count c=t.count c:=List.count_cons_of_ne u;have A:([c].isPrefixOf (x::t))=false:=by
    have o:(c==x)=false:=by simpa using λh=>u h.symm
    simp[List.isPrefixOf,o]
   have F:spl c (x::t)=(match spl c t with | []=>[[x]] | h::r=>(x::h)::r):=by
    rw[spl,az u]
   rw[z,F,<-y];cases hk:t.count c with
   | zero=>simp[cg]
   | succ k=>
    have v:br (x::t) [c]=if br t [c]==-1 then -1 else br t [c]+1:=by
     rw[br,az (by rw[A];simp)]
    rw[cg,cg,v];by_cases o:(br t [c]==-1)=ap;·simp[o]
    .have J:=Lib.index_ge t [c];have N:br t [c]≠-1:=(by simpa using o);obtain⟨n,I⟩:=Int.eq_ofNat_of_zero_le (show 0<=br t [c] by omega);rw[az o,az o,I];rw[az (by simp;omega)];rw[show ((n:ak)+1).toNat=n+1 by omega,show ((n:ak)).toNat=n by omega];simp
def sparts (s:ag):ae ag:=(spl 47 (cq s.data.toList [47])).map λx=>⟨x.toArray⟩
def zo (s:ag):Bool:=cp s.data.toList [47]&&(sparts s).all isName
theorem zKf (c:au):∀ (s:ae au),∀ x∈spl c s,x.length<=(s:C)
 | [],x,h=>by simp[spl]at h;subst h;simp
 | y::t,x,h=>by
  have o:=zKf c t;unfold spl at h;split at h
  .rcases List.mem_cons.1 h with rfl|h
   .simp
   .have:=o x h;simp;omega
  .split at h;·simp at h;subst h;simp
   .rename_i a r e;rcases List.mem_cons.1 h with rfl|h
    .have:=o a (by rw[e];simp);simp;omega
    .have:=o x (by rw[e];simp[h]);simp;omega
theorem zKP (s p:ae au):(cq s p).length<=(s:C):=by
 unfold cq;split<;>simp
theorem zHW (s:ag):∀ x∈sparts s,x.size<=s.size:=by
 intro x h;obtain⟨y,o,rfl⟩:=List.mem_map.1 h;have v:=zKf 47 _ y o;have z:=zKP s.data.toList [47];have u:s.data.toList.length=s.size:=(Lib.size_eq s).symm;simp only[ew,cu]at u ⊢;omega
theorem zCR (s:ag):Lib.splitB ⟨#[47]⟩ 0 (co s ⟨#[47]⟩) s=(spl 47 s.data.toList).map λx=>⟨x.toArray⟩:=by
 have h:=Lib.splitB_data ⟨#[47]⟩ 0 (co s ⟨#[47]⟩) s;have o:co s ⟨#[47]⟩=s.data.toList.count 47:=Lib.count_one 47 s.data.toList;have u:(⟨#[47]⟩:ag).data.toList=[47]:=rfl;rw[u]at h;rw[o]at h ⊢;rw[zE9]at h;rw[<-h,dm];symm;rw[List.map_congr_left (g:=id)];·simp
 .intro x _;simp
theorem zGd (s:ag):co s ⟨#[47]⟩+1=((spl 47 s.data.toList).map λx=>(⟨x.toArray⟩:ag)).length:=by
 rw[<-zCR,Lib.splitB_all ⟨#[47]⟩ (by decide) 0 _ _ rfl]
theorem Strs.new (w:ah)(l:ae ag)(T:bm)(h:(l:C)<=aq):Strs (w.alloc (am (l.map da).toArray T)) (E ⟨w,0,ab⟩) (l:C) l:=by
 refine⟨bs _,h,(λe=>by cases e),?_⟩;intro v e o;cases e;refine⟨rfl,by simp,λi x u=>?_⟩;rw[zB (zF _ _)];simp[u]
theorem zNn (o:C)(s:ag)(w:ah)(v:w ⟨o,0,ab⟩=E (.func (.func 39) #[] #[]))(u:s.size<=aq):
  ay al 274 #[s,bc (E ⟨o,0,ab⟩)] w λe w'=>e=.returned (.bool (!isName s))/\Fr No w w':=by
 go_enter Tryz.func274,Tryz.ntmps274;go_wp2_with fail;apply (zAU s _ u).mono;rintro e y ⟨rfl,h⟩;go_wp2;go_ret;exact⟨rfl,h⟩
theorem zKD (A:C)(O:ao ba)(U:C)(l:ae ag)(w:ah)(Y:w ⟨A,0,ab⟩=E (.func (.func 39) #[] #[]))(V:Strs w O U l)(Z:∀ x∈l,x.size<=aq):
  ay al 60 #[.slice O l U,.func (.func 274) #[] #[bc (E ⟨A,0,ab⟩)]] w λe w'=>(∃ r:ak,e=.returned r/\decide (0<=r)=!l.all isName)/\Fr No w w':=by
 have hm:=V.lenmax;go_enter Tryz.func60,Tryz.ntmps60;go_wp2_with fail;go_loopw [8] (λi wr=>∃ k:C,k<=(l:C)/\i=.int af k/\ai ((l.take k).all isName=ap)/\Fr No w wr) (λi _=>(l:C)-(bw i).toNat);case atStart=>exact⟨0,by omega,rfl,by unfold ai;simp,bg _ _⟩
 case round=>
  obtain⟨k,hk,rfl,v,o⟩:=hrel;by_cases F:k<(l:C)
  .have X:(k:ak)<(l:C):=by omega
   obtain⟨bb,a2,x,rfl,z,hc⟩:=(V.no o (λ_=>id)).at F;have I:=Z x (ct z);have J:ai (l.take (k+1)=l.take k++[x]):=(by unfold ai;rw[dn,z];rfl);have y:=zh (ct z);clear z;go_wp2_with fail;apply (zNn A x _ (o.cell Y id) I).mono;rintro e w1 ⟨rfl,N⟩;have u:=o.step N zi;clear hc;cases hp:isName x
   .have Hr:ai (l.all isName=ar):=(by unfold ai;rw[List.all_eq_false];exact⟨x,y.out,by rw[hp];simp⟩);clear hp;go_wp2;go_ret;exact⟨⟨(k:ak),rfl,by rw[Hr.out];simp⟩,u⟩
   .have Hn:ai ((l.take (k+1)).all isName=ap):=(by unfold ai;rw[J.out,List.all_append,v.out];simp[hp]);clear hp;go_wp2;go_roundw;case rel=>exact⟨k+1,by omega,by go_num,Hn,u⟩
    case measure=>simp[bw];omega
  .have h:=v.out;rw[List.take_of_length_le (by omega)]at h;have Hp:=zh h;clear h;go_wp2;go_ret;exact⟨⟨-1,rfl,by rw[Hp];rfl⟩,o⟩
theorem zM1 (o:ao ba)(u:C)(l:ae ag)(w:ah)(A:Strs w o u l)(F:∀ x∈l,x.size<=aq):
  ay al 236 #[.slice o l u,.func (.func 39) #[] #[]] w λe w'=>e=.returned (.bool (l.all isName))/\Fr No w w':=by
 have y:Fr No w (w.alloc (am #[.func (.func 39) #[] #[]] 97)):=(bg _ _).alloc _;have I:=zF w (am #[.func (.func 39) #[] #[]] 97);have v:=A.no y (λ_=>id);go_enter Tryz.func236,Tryz.ntmps236;go_wp2_with fail;generalize w.alloc (am #[.func (.func 39) #[] #[]] 97)=W0 at *;refine(show ay al 31 _ _ (λe w'=>e=.returned (.bool (!l.all isName))/\Fr No W0 w')from ?_).mono ?_
 .go_enter Tryz.func31,Tryz.ntmps31;go_wp2_with fail;apply (zKD (w:C) o u l _ (zB I 0) v F).mono;rintro e J ⟨⟨r,rfl,z⟩,h⟩;have N:=zh z;clear z;go_wp2;go_ret;exact⟨zN N,h⟩
 .rintro e J ⟨rfl,h⟩;go_wp2;go_ret;exact⟨zN (by simp),y.step h zi⟩
def SplitR (s:ag)(e:Ending)(w':ah)(B:C):Prop:=
 (zo s=ar/\e=.returned (.tuple #[.slice ab 0 0,.int af 10]))\/
 (zo s=ap/\∃ ad,e=.returned (.tuple #[.slice (E ad) (sparts s).length (sparts s).length,.int af 0])/\Strs w' (E ad) (sparts s).length (sparts s)/\B<=ad.block)
theorem zBr (s:ag)(m:ak)(w:ah)(hs:s.size<=1000000)(hm:w ⟨0,0,ab⟩=E (.int af m)):
  ay al 184 #[s] w λe w'=>SplitR s e w' (w:C)/\Fr No w w':=by
 have a6:(1000001:C)<=maxLen:=by unfold aq;omega
 have A:=Tryz.strings_CutPrefix s ⟨#[47]⟩ w;obtain⟨h,o⟩:=ε (⟨(cq s.data.toList [47]).toArray⟩:ag)
 have a7:h.size<=1000000:=by
  rw[o];have h2:=zKP s.data.toList [47];simp only[ew,cu];simp at h2;omega
 have O:sparts s=(spl 47 h.data.toList).map λx=>⟨x.toArray⟩:=by rw[o];rfl
 obtain⟨u,v⟩:=ε (sparts s)
 have hg:zo s=(cp s.data.toList [47]&&u.all isName):=by rw[v];rfl
 have U:∀ x∈u,x.size<=maxLen:=λx N=>by rw[v]at N;have:=zHW s x N;omega
 have y:=zGd h;have z:=zCR h;rw[<-O,<-v]at y z;have a3:=Lib.countB_le ⟨#[47]⟩ (by decide) h.size h (bs _);have a4:(u:C)<=maxLen:=by omega
 have F:ay al 117 #[s,.string ⟨#[47]⟩] w λe w'=>e=.returned (.tuple #[h,.bool (cp s.data.toList [47])])/\w'=w:=by rw[o];exact A
 have Hg:=zh hg;have V:=zh v;have X:=zh z;have Y:=zh y;clear A o O v hg y z;generalize cp s.data.toList [47]=pre at *;go_enter Tryz.func184,Tryz.ntmps184;go_wp2_with fail;apply F.mono;rintro e I ⟨rfl,rfl⟩;go_wp2_with fail;apply (Tryz.strings_Split h ⟨#[47]⟩ m _ (by omega) hm (by decide)).mono;rintro e w2 ⟨rfl,rfl⟩;rw[X,Y];have N:Fr No I (I.alloc (am ((u.map da).toArray) 9)):=(bg _ _).alloc _;have hS:=Strs.new I u 9 a4;have a8:(I:C)<(I.alloc (am ((u.map da).toArray) 9)).heap.size:=by simp
 clear hm a3;generalize I.alloc (am ((u.map da).toArray) 9)=W2 at *;cases pre with
 | false=>
  have Z:ai (zo s=ar):=by unfold ai;rw[Hg];rfl
  go_wp2;go_ret2;exact⟨.inl ⟨Z,rfl⟩,N⟩
 | true=>
  have Hx:=zh N;have HS:=zh hS;clear N;go_wp2_with fail;apply (zM1 _ _ u _ hS U).mono;rintro e w3 ⟨rfl,J⟩;have a5:=zh (HS.no J (λ_=>id));have a2:=zh (Hx.step J zi);clear hS U J;cases hal:u.all isName with
  | false=>
   have Z:ai (zo s=ar):=(by unfold ai;rw[Hg,hal];rfl);clear hal;go_wp2;go_ret2;exact⟨.inl ⟨Z,rfl⟩,a2⟩
  | true=>
   have Z:ai (zo s=ap):=(by unfold ai;rw[Hg,hal];rfl);clear hal;go_wp2;go_ret2;refine⟨.inr ⟨Z,⟨I,0,ab⟩,?_,?_,bs _⟩,a2⟩;·rw[<-V];rfl
   .rw[<-V];exact a5
def cmpI (x y:ak):ak:=if x<y then -1 else if y<x then 1 else 0
theorem zLF (x:ak)(w:ah):ay al 162 #[x] w λe w'=>e=.returned (.bool ar)/\w=w':=by
 go_enter Tryz.func162,Tryz.ntmps162;go_wp2;go_ret;simp
theorem zLE (x:ag)(w:ah):ay al 299 #[x] w λe w'=>e=.returned (.bool ar)/\w=w':=by
 have h:(!x.toList==x.toList)=false:=by simp
 go_enter Tryz.func299,Tryz.ntmps299;go_wp2;go_ret;simp
theorem zLv (x y:ak)(w:ah):ay al 112 #[x,y] w λe w'=>e=.returned (.int af (cmpI x y))/\w=w':=by
 obtain⟨r,o⟩:=ε (cmpI x y)
 rw[<-o];have u:=zh o;clear o;go_enter Tryz.func112,Tryz.ntmps112;go_wp2_with fail;apply (zLF x _).mono;rintro e F ⟨rfl,rfl⟩;go_wp2_with fail;apply (zLF y _).mono;rintro e F ⟨rfl,rfl⟩;by_cases v:x<y
 .have h:=zh v;go_wp2;go_ret;exact⟨by rw[u,cmpI,bi h.out];rfl,rfl⟩
 .by_cases A:y<x
  .have h:=zh v;have z:=zh A;go_wp2;go_ret;exact⟨by rw[u,cmpI,az (by have:=h.out;omega),bi z.out];rfl,rfl⟩
  .have h:=zh v;have z:=zh A;go_wp2;go_ret;exact⟨by rw[u,cmpI,az (by have:=h.out;omega),az (by have:=z.out;omega)];rfl,rfl⟩
def orI (x y:ak):ak:=if x=0 then y else x
theorem zP6 (b:C)(x y:ak)(w:ah)(I:w ⟨b,0,ab⟩=E (.int af x))(J:w ⟨b,1,ab⟩=E (.int af y)):ay al 247 #[.slice (E ⟨b,0,ab⟩) 2 2] w λe w'=>e=.returned (.int af (orI x y))/\w=w':=by
 obtain⟨r,u⟩:=ε (orI x y)
 rw[<-u];have v:=zh u;clear u;go_enter Tryz.func247,Tryz.ntmps247;go_wp2_with fail
 go_loop [8] (λi=>i=.int af 0\/(i=.int af 1/\ai (x=0))\/(i=.int af 2/\ai (x=0/\y=0))) (λi=>2-(bw i).toNat)
 case atStart=>exact .inl rfl
 case round=>
  rcases hrel with rfl|⟨rfl,h⟩|⟨rfl,o⟩
  .by_cases h:x=0
   .have z:=zh h;go_wp2_with fail
    go_round
    case rel=>exact .inr (.inl ⟨rfl,z⟩)
    case measure=>decide
   .have z:=zh h;go_wp2;go_ret;exact⟨by rw[v,orI,az z.out];rfl,rfl⟩
  .by_cases A:y=0
   .have F:=zh A;go_wp2_with fail
    go_round
    case rel=>exact .inr (.inr ⟨rfl,h,F⟩)
    case measure=>decide
   .have F:=zh A;go_wp2;go_ret;exact⟨by rw[v,orI,bi h.out];rfl,rfl⟩
  .go_wp2;go_ret;exact⟨by rw[v,orI,bi o.1,o.2];rfl,rfl⟩
theorem zBR : ∀ a:ae au,bh a a=0
 | []=>rfl
 | a::s=>by unfold bh;rw[az (dx _),az (dx _)];exact zBR s
theorem zDY : ∀ a b:ae au,bh a b=if bu a b=ap then -1 else if a=b then 0 else 1
 | [],[]=>by simp[bh,bu]
 | [],_::_=>by simp[bh,bu]
 | _::_,[]=>by simp[bh,bu]
 | a::s,b::t=>by
  have v:=zDY s t;by_cases h:a<b;·simp[bh,bu,h]
  .by_cases o:b<a
   .have u:a≠b:=λe=>by subst e;exact cf o (dx _)
    simp[bh,bu,h,o,u]
   .have u:a=b:=UInt8.le_antisymm (UInt8.not_lt.1 o) (UInt8.not_lt.1 h);subst u;simp only[bh,bu,az h,v];simp[h]
theorem zLu (x y:ag)(w:ah):ay al 270 #[x,y] w λe w'=>e=.returned (.int af (bh x.data.toList y.data.toList))/\w=w':=by
 obtain⟨r,u⟩:=ε (bh x.data.toList y.data.toList)
 rw[<-u];have F:=zh u;clear u;go_enter Tryz.func270,Tryz.ntmps270;go_wp2_with fail;apply (zLE x _).mono;rintro e I ⟨rfl,rfl⟩;go_wp2_with fail;apply (zLE y _).mono;rintro e I ⟨rfl,rfl⟩;have v:=zDY x.toList y.toList;rw[ByteArray.toList_eq,ByteArray.toList_eq,<-F,<-ByteArray.toList_eq,<-ByteArray.toList_eq]at v;have z:=zh v;clear v;cases hb:bu x.toList y.toList with
 | true=>
  have o:=zh hb;go_wp2;go_ret;exact⟨by rw[z,bi o.out];rfl,rfl⟩
 | false=>
  have o:=zh hb;cases he:(x.toList==y.toList)with
  | true=>
   have A:=zh he;go_wp2;go_ret;exact⟨by rw[z.out,az (by rw[o.out];simp),bi (eq_of_beq A.out)];rfl,rfl⟩
  | false=>
   have A:=zh he;go_wp2;go_ret;exact⟨by rw[z.out,az (by rw[o.out];simp),az (λe=>by have h:=A.out;rw[e]at h;simp at h)];rfl,rfl⟩
theorem zGc (a:ao ba)(F:C)(l:ae ag)(a':ao ba)(u:C)(l':ae ag)(w:ah)(hl:Strs w a F l)(I:Strs w a' u l'):
  ay al 228 #[.slice a l F,.slice a' l' u] w λe w'=>e=.returned (.int af (cmpN l l'))/\w=w':=by
 have hm:=hl.lenmax;have a9:=I.lenmax;obtain⟨r,hr⟩:=ε (cmpN l l')
 rw[<-hr];have X:=zh hr;clear hr;go_enter Tryz.func228,Tryz.ntmps228;go_wp2_with fail
 go_loop [11] (λi=>∃ k:C,k<=(l:C)/\k<=(l':C)/\i=.int af (k:ak)/\ai (l.take k=l'.take k)) (λi=>(l:C)-(bw i).toNat)
 case atStart=>exact⟨0,by omega,by omega,rfl,by unfold ai;simp⟩
 case round=>
  obtain⟨k,hk,b0,rfl,Ht⟩:=hrel;have Y:=zh (zLw Ht);by_cases a2:k<(l:C)
  .have J:(k:ak)<(l:C):=by omega
   obtain⟨b,b1,x,rfl,Z,c0⟩:=hl.at a2;have o:l.drop k=x::l.drop (k+1):=by
    obtain⟨A,h2⟩:=List.getElem?_eq_some_iff.1 Z;rw[<-h2];exact dj A
   by_cases N:k<(l':C)
   .have O:¬ ((l':C):ak)<=(k:ak):=(by omega);have a7:(k:ak)<(l':C):=(by omega);obtain⟨b',a8,v,rfl,z,c1⟩:=I.at N;have y:l'.drop k=v::l'.drop (k+1):=by
     obtain⟨A,h2⟩:=List.getElem?_eq_some_iff.1 z;rw[<-h2];exact dj A
    have a3:=zh o;have U:=zh y;have a4:ai (x=v->l.take (k+1)=l'.take (k+1)):=λe=>by rw[dn,dn,Z,z,Ht,e]
    clear o y Z z;go_wp2_with fail;apply (zLu x v _).mono;rintro e w1 ⟨rfl,rfl⟩;by_cases hz:bh x.data.toList v.data.toList=0
    .have a5:x=v:=by
      have A:=zAV _ _ hz;cases x;cases v;simp only at A
      congr 1
      exact Array.toList_inj.1 A
     have Hn:=zh (a4 a5);rw[hz];clear hz;go_wp2_with fail
     go_round
     case rel=>exact⟨k+1,by omega,by omega,by go_num,Hn⟩
     case measure=>simp[bw];omega
    .have h:ai (r=bh x.data.toList v.data.toList):=by
      unfold ai;rw[X,Y,a3,U,cmpN,az (λe=>hz (by rw[e];exact zBR _))]
     generalize bh x.data.toList v.data.toList=cb at *;go_wp2;go_ret;exact⟨by rw[h];rfl,rfl⟩
   .have O:((l':C):ak)<=(k:ak):=(by omega);have h:ai (r=1):=by
     unfold ai;rw[X,Y,o,f0 (by omega:(l':C)<=k)];rfl
    clear o Z;go_wp2;go_ret;exact⟨by rw[h];rfl,rfl⟩
  .have J:¬ (k:ak)<(l:C):=by omega
   obtain rfl:k=(l:C):=by omega
   by_cases a6:(l:C)<(l':C)
   .have V:((l:C):ak)<(l':C):=(by omega);have h:ai (r=-1):=by
     unfold ai;rw[X,Y,f1,dj a6];rfl
    go_wp2;go_ret;exact⟨by rw[h];rfl,rfl⟩
   .have V:¬ ((l:C):ak)<(l':C):=(by omega);have h:ai (r=0):=by
     unfold ai;rw[X,Y,f1,f0 (by omega:(l':C)<=(l:C))];rfl
    go_wp2;go_ret;exact⟨by rw[h];rfl,rfl⟩
def cmpP (s t:ag):ak×ak:=if zo s&&zo t then (cmpN (sparts s) (sparts t),0)else (0,10)
theorem zDX (s t:ag)(m:ak)(w:ah)(hs:s.size<=1000000)(ht:t.size<=1000000)(Z:w ⟨0,0,ab⟩=E (.int af m)):
  ay al 176 #[s,t] w λe w'=>e=.returned (.tuple #[.int af (cmpP s t).1,.int af (cmpP s t).2])/\Fr No w w':=by
 obtain⟨r1,h1⟩:=ε ((cmpP s t).1)
 obtain⟨r2,h2⟩:=ε ((cmpP s t).2)
 rw[<-h1,<-h2];have X:=zh h1;have Y:=zh h2;clear h1 h2;go_enter Tryz.func176,Tryz.ntmps176;go_wp2_with fail;apply (zBr s m _ hs Z).mono;rintro e w1 ⟨a2,F⟩;have z:=F.cell Z id;have J:=zh F;clear Z F;rcases a2 with⟨u,rfl⟩|⟨u,a3,rfl,N,_⟩
 .have O:=zh u;clear u;go_wp2_with fail;apply (zBr t m _ ht z).mono;rintro e w2 ⟨I,o⟩;have v:=zh (J.step o zi);clear z o;rcases I with⟨h,rfl⟩|⟨h,U,rfl,A,_⟩
  .clear h;go_wp2;go_ret2;exact⟨by rw[X,Y,cmpP,O];rfl,v⟩
  .clear h A;go_wp2;go_ret2;exact⟨by rw[X,Y,cmpP,O];rfl,v⟩
 .have O:=zh u;clear u;go_wp2_with fail;apply (zBr t m _ ht z).mono;rintro e w2 ⟨I,o⟩;have v:=zh (J.step o zi);have y:=N.no o (λ_=>id);clear z o N;rcases I with⟨h,rfl⟩|⟨h,U,rfl,A,_⟩
  .have G2:=zh h;clear h y;go_wp2;go_ret2;exact⟨by rw[X,Y,cmpP,O,G2];rfl,v⟩
  .have G2:=zh h;have V:=zGc (E a3) _ _ (E U) _ _ w2 y A;clear h y A;obtain⟨p1,e1⟩:=ε (sparts s)
   obtain⟨p2,e2⟩:=ε (sparts t)
   rw[<-e1,<-e2]at V ⊢;have E1:=zh e1;have E2:=zh e2;clear e1 e2;go_wp2_with fail;apply V.mono;rintro e w3 ⟨rfl,rfl⟩;have Hr:ai (r1=cmpN p1 p2/\r2=0):=(by unfold ai;rw[X,Y,cmpP,O,G2,<-E1,<-E2];exact⟨rfl,rfl⟩);generalize cmpN p1 p2=cn at *;go_wp2;go_ret2;exact⟨by rw[Hr.1,Hr.2];rfl,v⟩
def clB (d d':Dev):Bool:=(d.kind==4&&d'.kind==4&&(d.name.toList==d'.name.toList))||(numK d.kind&&numK d'.kind&&((d.kind==d'.kind&&d.num==d'.num)||((nodeOf d.orig).toList==(nodeOf d'.orig).toList)||benB (nodeOf d.orig) (nodeOf d'.orig)||benB (nodeOf d'.orig) (nodeOf d.orig)))
theorem zPW (d h:Dev)(m:ak)(w:ah)(hs:d.orig.size<=1000000)(J:h.orig.size<=1000000)(hm:w ⟨0,0,ab⟩=E (.int af m))(h0:0<(w:C)):
  ay al 187 #[av d.vals,av h.vals] w λe w'=>e=.returned (.bool (clB d h))/\Fr No w w':=by
 obtain⟨W0,N,hx,O,U⟩:=zw w (am d.vals 48) (am h.vals 48);have V:=hx.cell hm id;have d2:0<(W0:C):=by have:=hx.size;omega
 have N1:=zh (λ(W:ah) h1 h2=>zLr d m W hs h1 h2);have N2:=zh (λ(W:ah) h1 h2=>zLr h m W J h1 h2);obtain⟨F,X⟩:=ε (clB d h)
 rw[<-X];obtain⟨NB,o⟩:=ε (d.kind==4&&h.kind==4&&(d.name.toList==h.name.toList))
 have d3:ai (F=(NB||(numK d.kind&&numK h.kind&&((d.kind==h.kind&&d.num==h.num)||((nodeR d).toList==(nodeR h).toList)||benB (nodeR d) (nodeR h)||benB (nodeR h) (nodeR d))))):=by unfold ai;rw[X,o];unfold clB nodeR;cases numK d.kind<;>cases numK h.kind<;>simp
 have d7:=zh o;have Y:=zFE d hs;have Z:=zFE h J;have d8:=zh (λW=>zGq (nodeR d) (nodeR h) W Y Z);have d9:=zh (λW=>zGq (nodeR h) (nodeR d) W Z Y);generalize nodeR d=s at *;generalize nodeR h=u at *;clear X o hm Y Z hs J;obtain⟨a0,a1,a2,a3,a4,a5,a6,a7,a8,a9⟩:=DevB.of O;obtain⟨b0,b1,b2,b3,b4,b5,b6,b7,b8,b9⟩:=DevB.of U;unfold be at N N1 N2 ⊢;go_enter Tryz.func187,Tryz.ntmps187;go_upto_region 1 with(fail)
 rw[<-N];clear N;go_cut [23] (λv wx=>v=.bool NB/\W0=wx);case first=>
  rcases hk:(d.kind==4)with _|_
  all_goals rcases hk':(h.kind==4)with _|_
  all_goals have Hk:=zh hk
  all_goals have e0:=zh hk'
  all_goals
   go_wp2_with fail
   all_goals
    go_meet;exact⟨by rw[d7,Hk,e0];rfl,rfl⟩
 case rest=>
  obtain⟨rfl,rfl⟩:=hcut;cases o:NB with
  | true=>
   have Hv:ai (F=ap):=(by unfold ai;rw[d3,o];rfl);clear o;go_wp2;go_ret;exact⟨zN Hv.symm,hx⟩
  | false=>
   have Hv:ai (F=(numK d.kind&&numK h.kind&&((d.kind==h.kind&&d.num==h.num)||(s.toList==u.toList)||benB s u||benB u s))):=(by unfold ai;rw[d3,o];rfl);clear o;go_wp2_with fail;apply (N1 _ V d2).mono;rintro e w1 ⟨rfl,y⟩;have e1:=hx.step y zi;have I:=y.heap O id;have z:=y.heap U id;have e2:=y.cell V id;have e3:0<(w1:C):=(by have:=y.size;omega);clear a0 a1 a2 a3 a4 a5 a6 a7 a8 a9 b0 b1 b2 b3 b4 b5 b6 b7 b8 b9 O U V d2;obtain⟨b0,b1,b2,b3,b4,b5,b6,b7,b8,b9⟩:=DevB.of z;go_wp2_with fail;apply (N2 _ e2 e3).mono;rintro e w2 ⟨rfl,d0⟩;have A:=e1.step d0 zi;have d4:=d0.heap I id;have d5:=d0.heap z id;clear b0 b1 b2 b3 b4 b5 b6 b7 b8 b9 I z;obtain⟨a0,a1,a2,a3,a4,a5,a6,a7,a8,a9⟩:=DevB.of d4;obtain⟨b0,b1,b2,b3,b4,b5,b6,b7,b8,b9⟩:=DevB.of d5;rcases hg1:numK d.kind with _|_
   .have Hz:ai (F=ar):=(by unfold ai;rw[Hv,hg1];rfl);clear hg1;go_wp2;go_ret;exact⟨zN Hz.symm,A⟩
   have e4:=zh hg1;clear hg1;rcases hg2:numK h.kind with _|_
   .have Hz:ai (F=ar):=(by unfold ai;rw[Hv,hg2,Bool.and_false];rfl);clear hg2;go_wp2;go_ret;exact⟨zN Hz.symm,A⟩
   have Hw:ai (F=((d.kind==h.kind&&d.num==h.num)||(s.toList==u.toList)||benB s u||benB u s)):=(by unfold ai;rw[Hv,e4,hg2];rfl);clear hg2;rcases hk:(d.kind==h.kind)with _|_
   all_goals rcases hn:(d.num==h.num)with _|_
   all_goals rcases hsu:(s.toList==u.toList)with _|_
   all_goals have Hk:=zh hk
   all_goals have Hn:=zh hn
   all_goals have d1:=zh hsu
   all_goals
    go_wp2_with fail
   all_goals first
    | (go_ret;exact⟨zN (by rw[Hw,Hk,Hn,d1];rfl),A⟩)
    | skip
   all_goals
    apply (d8 _).mono;rintro e w3 ⟨rfl,rfl⟩;rcases hb1:benB s u with _|_
   all_goals have d6:=zh hb1
   all_goals clear hb1
   all_goals
    go_wp2_with fail
   all_goals first
    | (go_ret;exact⟨zN (by rw[Hw,Hk,Hn,d1,d6];rfl),A⟩)
    | skip
   all_goals
    apply (d9 _).mono;rintro e w3 ⟨rfl,rfl⟩;go_wp2;go_ret;exact⟨zN (by rw[Hw,Hk,Hn,d1,d6];rfl),A⟩
def clP (d:Dev)(x:Dev):Bool:=(x.index != d.index)&&clB x d
theorem zJ5 (x d:Dev)(b:C)(m:ak)(w:ah)(U:x.orig.size<=1000000)(u:d.orig.size<=1000000)(V:w.heap[b]?=E (am d.vals 48))(X:w ⟨0,0,ab⟩=E (.int af m))(h0:0<(w:C)):
  ay al 186 #[av x.vals,bc (E ⟨b,0,ab⟩)] w λe w'=>e=.returned (.bool (clP d x))/\Fr No w w':=by
 obtain⟨Y,h,v,y⟩:=zy w (am x.vals 48);have z:=v.heap V id;have A:=v.cell X id;have F:0<(Y:C):=by have:=v.size;omega
 have Z:=zPW x d m Y U u A F;obtain⟨I,o⟩:=ε (clP d x)
 rw[<-o];have J:ai (I=((x.index != d.index)&&clB x d)):=o;clear o X A F U u V;obtain⟨a0,a1,a2,a3,a4,a5,a6,a7,a8,a9⟩:=DevB.of y;obtain⟨b0,b1,b2,b3,b4,b5,b6,b7,b8,b9⟩:=DevB.of z;unfold be at h Z ⊢;go_enter Tryz.func186,Tryz.ntmps186;go_upto_region 1 with(fail)
 rw[<-h];clear h y z;rcases hi:(x.index != d.index)with _|_
 .have N:ai (I=ar):=by unfold ai;rw[J,hi];rfl
  go_wp2;go_ret;exact⟨zN N.symm,v⟩
 .have N:ai (I=clB x d):=by unfold ai;rw[J,hi];rfl
  go_wp2_with fail;apply Z.mono;rintro e w1 ⟨rfl,O⟩;go_wp2;go_ret;exact⟨zN N.symm,v.step O zi⟩
theorem zDU (a:ao ba)(h:C)(ds:ae Dev)(d:Dev)(m:ak)(w:ah)(V:Devs w a h ds)(X:∀ x∈ds,x.orig.size<=1000000)(z:d.orig.size<=1000000)(N:w ⟨0,0,ab⟩=E (.int af m))(Y:0<(w:C)):
  ay al 127 #[.slice a ds h,av d.vals] w λe w'=>e=.returned (.bool (ds.any (clP d)))/\Fr No w w':=by
 obtain⟨O,o,y,u⟩:=zy w (am d.vals 48);have v:=y.cell N id;have A:0<(O:C):=by have:=y.size;omega
 have U:=zPR 186 #[bc (E ⟨w,0,ab⟩)] (λ_ _=>rfl) (clP d) a h ds O (V.no y (λ_=>id)) (λx F W I=>zJ5 x d (w:C) m W (X x F) z (I.heap u id) (I.cell v id) (by have:=I.size;omega));clear N v A u;unfold be at o ⊢;go_enter Tryz.func127,Tryz.ntmps127;go_upto_region 1 with(fail)
 rw[<-o];clear o;go_wp2_with fail;apply U.mono;rintro e Z ⟨rfl,J⟩;clear U;go_wp2;go_ret;exact⟨rfl,y.step J zi⟩
theorem zJX (s t:ag)(m:ak)(w:ah)(u:s.size<=1000000)(v:t.size<=1000000)(y:w ⟨0,0,ab⟩=E (.int af m)):
  ay al 124 #[s,t] w λe w'=>e=.returned (.int af (cmpP s t).1)/\Fr No w w':=by
 have h:=zDX s t m w u v y;go_enter Tryz.func124,Tryz.ntmps124;go_wp2_with fail;apply h.mono;rintro e z ⟨rfl,o⟩;go_wp2;go_ret;exact⟨rfl,o⟩
def depthB (s:ag):C:=if zo s=ap then (sparts s).length else 0
theorem zJZ (s:ag)(m:ak)(w:ah)(z:s.size<=1000000)(A:w ⟨0,0,ab⟩=E (.int af m)):
  ay al 126 #[s] w λe w'=>e=.returned (.int af (depthB s:C))/\Fr No w w':=by
 have h:=zBr s m w z A;have y:ai (depthB s=if zo s=ap then (sparts s).length else 0):=rfl;generalize depthB s=D at *;go_enter Tryz.func126,Tryz.ntmps126;go_wp2_with fail;apply h.mono;rintro e F ⟨hR,o⟩;rcases hR with⟨u,rfl⟩|⟨u,I,rfl,J,N⟩
 .have v:ai (D=0):=by unfold ai;rw[y,u];rfl
  clear u;go_wp2;go_ret;exact⟨zBE (by rw[v];rfl),o⟩
 .have v:ai (D=(sparts s).length):=by unfold ai;rw[y,u];rfl
  clear u;generalize sparts s=P at *;go_wp2;go_ret;exact⟨zBE (by rw[v]),o⟩
end Go.Proofs.YtjohgekljmhheaaGreatDoor
