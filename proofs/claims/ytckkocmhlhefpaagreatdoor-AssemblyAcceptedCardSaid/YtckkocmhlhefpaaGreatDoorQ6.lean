import Derived.Test.YtckkocmhlhefpaaGreatDoorQ5
import Derived.Test.YtckkocmhlhefpaaGreatDoorStrs2
namespace Go.Proofs.YtckkocmhlhefpaaGreatDoor
open Go.RowKit Go.Maps
set_option linter.unusedVariables false
set_option maxRecDepth 100000
set_option maxHeartbeats 2000000
open Dev renaming vals->ah,zero->aq
open Fr renaming refl->ad,setAt->ai,of_below_size->av
open Go renaming World->m,Calls->a1,bodyPost_ret->be
open Go.Lib renaming hasPrefix->aj,atoiAll->ao,decDigits->ar,trimPrefix->aw
open Go.Proofs renaming intOf->am
open Go.Proofs.Tryz renaming prog->ab,func153->ba,ntmps153->bc,results100->bh
open Go.RowKit renaming Hid->E
open Go.World renaming size_alloc->bd
open IntKind renaming i64->q
open Obj renaming cells->G
open Rec renaming vals->ap,zero->az
open Value renaming string->Q,slice->B,int->f,agg->af,pointer->al
open _root_ renaming Nat->c,ByteArray->j,Int->a0,List->ag,Option->ak,if_neg->au
open _root_.Bool renaming false->M,true->ae
open _root_.ByteArray renaming size->bf
open _root_.List renaming take_add_one->ax,take_of_length_le->ay,size_toArray->bg
open _root_.Option renaming none->C,some->K
variable{w w':m}{p d:Dev}
theorem zNX {W:m}{b:c}{cs:Array Value}{T:TypeId}(h:W.heap[b]?=K (G cs T))(v:cs.size=12)(r:Rec):
  ((((((((((((W.setCell ⟨b,0,C⟩ (Q r.path)).setCell ⟨b,1,C⟩ (f q r.index)).setCell ⟨b,2,C⟩ (B r.pa r.props.length r.pc)).setCell ⟨b,3,C⟩ (B r.ta r.tags.length r.tc)).setCell ⟨b,4,C⟩ (B r.la r.ln r.lc)).setCell ⟨b,5,C⟩ (B r.ra r.rn r.rc)).setCell ⟨b,6,C⟩ (B r.oa r.on r.oc)).setCell ⟨b,7,C⟩ (Q r.name)).setCell ⟨b,8,C⟩ (f q r.prio)).setCell ⟨b,9,C⟩ (Q r.owner)).setCell ⟨b,10,C⟩ (Q r.group)).setCell ⟨b,11,C⟩ (f q r.mode)).heap[b]?=K (G r.vals T)/\Fr (Is b) W ((((((((((((W.setCell ⟨b,0,C⟩ (Q r.path)).setCell ⟨b,1,C⟩ (f q r.index)).setCell ⟨b,2,C⟩ (B r.pa r.props.length r.pc)).setCell ⟨b,3,C⟩ (B r.ta r.tags.length r.tc)).setCell ⟨b,4,C⟩ (B r.la r.ln r.lc)).setCell ⟨b,5,C⟩ (B r.ra r.rn r.rc)).setCell ⟨b,6,C⟩ (B r.oa r.on r.oc)).setCell ⟨b,7,C⟩ (Q r.name)).setCell ⟨b,8,C⟩ (f q r.prio)).setCell ⟨b,9,C⟩ (Q r.owner)).setCell ⟨b,10,C⟩ (Q r.group)).setCell ⟨b,11,C⟩ (f q r.mode)):=by
 refine⟨?_,ai (ai (ai (ai (ai (ai (ai (ai (ai (ai (ai (ai (ad _ _) _) _) _) _) _) _) _) _) _) _) _) _⟩;obtain⟨l⟩:=cs
 match l,v with
 | [_,_,_,_,_,_,_,_,_,_,_,_],_=>
  have y:=zE h 0 (Q r.path);have z:=zE y 1 (f q r.index);have A:=zE z 2 (B r.pa r.props.length r.pc);have D:=zE A 3 (B r.ta r.tags.length r.tc);have F:=zE D 4 (B r.la r.ln r.lc);have I:=zE F 5 (B r.ra r.rn r.rc);have J:=zE I 6 (B r.oa r.on r.oc);have N:=zE J 7 (Q r.name);have O:=zE N 8 (f q r.prio);have R:=zE O 9 (Q r.owner);have u:=zE R 10 (Q r.group);have o:=zE u 11 (f q r.mode);simp only[List.setIfInBounds_toArray,List.set_cons_zero,List.set_cons_succ]at o;exact o
theorem zOj (r:Rec)(o u:c)(n:a0)(p:j)(w:m)(v:w.cell? ⟨o,0,C⟩=K (f q n))(y:w.cell? ⟨u,0,C⟩=K (Q p)):
  a1 ab 153 #[af r.vals,al (K ⟨o,0,C⟩),al (K ⟨u,0,C⟩)] w λe w'=>e=.returned (.bool (r.is n p))/\Fr No w w':=by
 have h:Fr No w (w.alloc (G r.vals 91)):=(ad _ _).alloc _;have z:=h.cell v id;have A:=h.cell y id;clear v y;unfold ap at *;rcases h1:(r.index==n)with _|_
 .have H:E (r.is n p=M):=by unfold E Rec.is;simp at h1;simp[h1]
  go_enter ba,bc
  go_wp2_with fail
  all_goals (go_ret;exact⟨zN H.out.symm,h⟩)
 .rcases h2:(r.path.toList==p.toList)with _|_
  .have H:E (r.is n p=M):=by unfold E Rec.is;rw[h2,Bool.and_false]
   go_enter ba,bc
   go_wp2_with fail
   all_goals (go_ret;exact⟨zN H.out.symm,h⟩)
  .have H:E (r.is n p=ae):=by unfold E Rec.is;simp at h1;rw[h2,Bool.and_true];simp[h1]
   go_enter ba,bc
   go_wp2_with fail
   all_goals (go_ret;exact⟨zN H.out.symm,h⟩)
theorem zJ9 (a:ak Addr)(z:c)(l:ag Rec)(A D:c)(n:a0)(p:j)(w:m)(O:Recs w a z l)(Y:w.cell? ⟨A,0,C⟩=K (f q n))(Z:w.cell? ⟨D,0,C⟩=K (Q p)):
  a1 ab 152 #[B a l.length z,.func (.func 153) #[] #[al (K ⟨A,0,C⟩),al (K ⟨D,0,C⟩)]] w λe w'=>e=.returned (f q (rplace l n p))/\Fr No w w':=by
 have hm:=O.lenmax
 go_enter Tryz.func152,Tryz.ntmps152
 go_wp2_with fail
 go_loopw [8] (λi wr=>∃ k:c,k<=l.length/\i=f q k/\E (∀ x∈l.take k,x.is n p=M)/\Fr No w wr) (λi _=>l.length-(am i).toNat)
 case atStart=>exact⟨0,by omega,rfl,by unfold E;simp,ad _ _⟩
 case round=>
  obtain⟨k,hk,rfl,v,o⟩:=hrel;by_cases F:k<l.length
  .have R:(k:a0)<l.length:=by omega
   obtain⟨bb,a2,r,rfl,U,_,c0,c1,c2,c3,c4,c5,c6,c7,c8,c9,I,J⟩:=(O.no o (λ_=>id)).elem F;have V:=zh U;clear U
   go_wp2_with fail
   refine(zOj r A D n p _ (o.cell Y id) (o.cell Z id)).mono ?_;rintro e w1 ⟨rfl,N⟩;have u:=o.step N zi;clear c0 c1 c2 c3 c4 c5 c6 c7 c8 c9 I J;rcases hxn:r.is n p with _|_
   .have y:=zh hxn;clear hxn
    go_wp2_with fail
    go_roundw
    case rel=>
     refine⟨k+1,by omega,by go_num,?_,u⟩;unfold E;intro x X;rw[ax,V.out]at X;rcases List.mem_append.1 X with h|h
     .exact v.out x h
     .simp at h;subst h;exact y.out
    case measure=>simp[am];omega
   .have y:=zh hxn;clear hxn
    go_wp2_with fail
    go_ret;exact⟨zA7 (zDk l n p k r V.out y.out v.out).symm,u⟩
  .obtain rfl:k=l.length:=by omega
   have h:=v.out;rw[ay (by omega)]at h;have Hp:E (rplace l n p=-1):=zDl _ _ _ h;clear h
   go_wp2_with fail
   go_ret;exact⟨zA7 Hp.out.symm,o⟩
def FoundR (o:ak Rec)(e:Ending):Prop:=match o with
 | none=>e=.returned (.tuple #[af Rec.zero.vals,.bool M])
 | some r=>e=.returned (.tuple #[af r.vals,.bool ae])
theorem zLt (a:ak Addr)(y:c)(l:ag Rec)(n:a0)(p:j)(w:m)(O:Recs w a y l):
  a1 ab 100 #[B a l.length y,f q n,Q p] w λe w'=>FoundR (l.find? (Rec.is n p)) e/\Fr No w w':=by
 have hm:=O.lenmax;have R:Fr No w (((w.alloc (G #[f q n] 3)).alloc (G #[Q p] 9)).alloc (G #[Q ⟨#[]⟩,f q 0,B C 0 0,B C 0 0,B C 0 0,B C 0 0,B C 0 0,Q ⟨#[]⟩,f q 0,Q ⟨#[]⟩,Q ⟨#[]⟩,f q 0] 91)):=(((ad _ _).alloc _).alloc _).alloc _;have Z:=(((ad No _).alloc (G #[Q p] 9)).alloc (G #[Q ⟨#[]⟩,f q 0,B C 0 0,B C 0 0,B C 0 0,B C 0 0,B C 0 0,Q ⟨#[]⟩,f q 0,Q ⟨#[]⟩,Q ⟨#[]⟩,f q 0] 91)).heap (zF w (G #[f q n] 3)) id;have q5:=((ad No _).alloc (G #[Q ⟨#[]⟩,f q 0,B C 0 0,B C 0 0,B C 0 0,B C 0 0,B C 0 0,Q ⟨#[]⟩,f q 0,Q ⟨#[]⟩,Q ⟨#[]⟩,f q 0] 91)).heap (zR w (G #[f q n] 3) (G #[Q p] 9)) id;have U:=zR (w.alloc (G #[f q n] 3)) (G #[Q p] 9) (G #[Q ⟨#[]⟩,f q 0,B C 0 0,B C 0 0,B C 0 0,B C 0 0,B C 0 0,Q ⟨#[]⟩,f q 0,Q ⟨#[]⟩,Q ⟨#[]⟩,f q 0] 91);rw[bd]at U;have a3:(((w.alloc (G #[f q n] 3)).alloc (G #[Q p] 9)).alloc (G #[Q ⟨#[]⟩,f q 0,B C 0 0,B C 0 0,B C 0 0,B C 0 0,B C 0 0,Q ⟨#[]⟩,f q 0,Q ⟨#[]⟩,Q ⟨#[]⟩,f q 0] 91)).heap.size=(w:c)+3:=by simp
 go_enter Tryz.func100,Tryz.ntmps100
 go_upto_region 1 with(fail)
 generalize ((w.alloc (G #[f q n] 3)).alloc (G #[Q p] 9)).alloc (G #[Q ⟨#[]⟩,f q 0,B C 0 0,B C 0 0,B C 0 0,B C 0 0,B C 0 0,Q ⟨#[]⟩,f q 0,Q ⟨#[]⟩,Q ⟨#[]⟩,f q 0] 91)=W0 at *
 go_wp2_with fail
 refine(zJ9 a y l _ _ n p _ (O.no R (λ_=>id)) (zB Z 0) (zB q5 0)).mono ?_;rintro e w1 ⟨rfl,h⟩;have z:=(O.no R (λ_=>id)).no h (λ_=>id);have D:=R.step h zi;have A:=h.heap U id;have a4:=h.size;clear Z q5 U R h O;obtain⟨z0,z1,z2,z3,z4,z5,z6,z7,z8,z9,F,I⟩:=cl12 A;obtain⟨y0,y1,y2,y3,y4,y5,y6,y7,y8,y9,a5,a6⟩:=fl12 A;rcases zDm l n p with⟨J,N⟩|⟨k,r,J,N,V⟩
 .rw[N];have X:=zh J;have o:=zNX A rfl az;have u:=zh (D.step o.2 (λb hb e=>by omega));clear o A z J N
  go_wp2_with fail
  refine be (v:=.tuple #[af Rec.zero.vals,.bool M]) (by simp[results,bh,go_sem,ap,az,z0,z1,z2,z3,z4,z5,z6,z7,z8,z9,F,I];try rfl) rfl ?_;exact⟨by rw[X.out];rfl,u.out⟩
 .rw[N];have X:=zh J;have Y:k<l.length:=(List.getElem?_eq_some_iff.1 V).1;have a2:(k:a0)<l.length:=by omega
  obtain⟨bb,a7,r',rfl,hr,_,c0,c1,c2,c3,c4,c5,c6,c7,c8,c9,a8,a9⟩:=z.elem Y;rw[V]at hr;cases hr;have o:=zNX A rfl r;have u:=zh (D.step o.2 (λb hb e=>by omega));clear o A z J N V
  go_wp2_with fail
  refine be (v:=.tuple #[af r.vals,.bool ae]) (by simp[results,bh,go_sem,ap,z0,z1,z2,z3,z4,z5,z6,z7,z8,z9,F,I]) rfl ?_;exact⟨by rw[X.out];rfl,u.out⟩
def isKey (key:j)(x:j×j):Bool:=x.1.toList==key.toList
def getP (l:ag (j×j))(key:j):j:=((l.find? (isKey key)).map (·.2)).getD ⟨#[]⟩
theorem zEB {α:Type}(p:α->Bool):∀ (l:ag α) (k:c) (x:α),l[k]?=K x->p x=ae->(∀ y∈l.take k,p y=M)->l.find? p=K x
 | [],k,x,h,_,_=>by simp at h
 | y::t,0,x,h,e,_=>by simp at h;subst h;simp[e]
 | y::t,k+1,x,h,e,o=>by
  have u:p y=false:=o y (by simp);rw[List.find?_cons,u];exact zEB p t k x (by simpa using h) e (λz v=>o z (by simp[v]))
theorem zKi {α:Type}(p:α->Bool)(l:ag α)(h:∀ y∈l,p y=M):l.find? p=none:=by
 rw[List.find?_eq_none];intro y o;simp[h y o]
theorem zIw (r:Rec)(o:j)(w:m)(N:RecOk w r):
  a1 ab 101 #[af r.vals,Q o] w λe w'=>e=.returned (Q (getP r.props o))/\Fr No w w':=by
 have F:Fr No w (w.alloc (G r.vals 91)):=(ad _ _).alloc _;have O:=N.props.no F (λ_=>id);have X:=O.lenmax;unfold ap at *;clear N
 go_enter Tryz.func101,Tryz.ntmps101
 go_wp2_with fail
 generalize w.alloc (G _ 91)=W0 at *
 go_loopw [10] (λi wr=>∃ k:c,k<=r.props.length/\i=f q k/\E (∀ x∈r.props.take k,isKey o x=M)/\Fr No W0 wr) (λi _=>r.props.length-(am i).toNat)
 case atStart=>exact⟨0,by omega,rfl,by unfold E;simp,ad _ _⟩
 case round=>
  obtain⟨k,Y,rfl,v,u⟩:=hrel;by_cases I:k<r.props.length
  .have R:(k:a0)<r.props.length:=by omega
   obtain⟨Z,V,x,y,ha,A,-,-,c0,c1⟩:=(O.no u (λ_=>id)).at I;have D:=zh A;clear A;rcases he:(x.toList==o.toList)with _|_
   .go_wp2_with fail
    go_roundw
    case rel=>
     refine⟨k+1,by omega,by go_num,?_,u.alloc _⟩;unfold E;intro z U;rw[ax,D.out]at U;rcases List.mem_append.1 U with h|h
     .exact v.out z h
     .simp at h;subst h;exact he
    case measure=>simp[am];omega
   .have J:E (getP r.props o=y):=by unfold E getP;rw[zEB (isKey o) _ _ _ D.out he v.out];rfl
    go_wp2_with fail
    go_ret;exact⟨by rw[J.out];rfl,(F.step u zi).alloc _⟩
  .obtain rfl:k=r.props.length:=by omega
   have h:=v.out;rw[ay (by omega)]at h;have J:E (getP r.props o=⟨#[]⟩):=by unfold E getP;rw[zKi _ _ h];rfl
   go_wp2_with fail
   go_ret;exact⟨by rw[J.out];rfl,F.step u zi⟩
def GotS (s:j)(e:Ending):Prop:=∃ b,e=.returned (.tuple #[Q s,.bool b])
structure ErrV (w:m):Prop where
 s:∃ ev,w.cell? ⟨4,0,C⟩=K ev/\(ev=.nilIface\/∃ te pe,ev=.iface te pe)
 r:∃ ev,w.cell? ⟨5,0,C⟩=K ev/\(ev=.nilIface\/∃ te pe,ev=.iface te pe)
theorem ErrV.fr {S:c->Prop}(h:ErrV w)(o:Fr S w w')(u:¬ S 4)(v:¬ S 5):ErrV w':=by
 obtain⟨y,z,A⟩:=h.s;obtain⟨D,F,I⟩:=h.r;exact⟨⟨y,o.cell z u,A⟩,⟨D,o.cell F v,I⟩⟩
theorem ErrV.no (h:ErrV w)(o:Fr No w w'):ErrV w':=h.fr o id id
def zAd (p d:Dev):j:=⟨(aw d.orig.data.toList (p.orig++⟨#[112]⟩).data.toList).toArray⟩
def partB (p d:Dev):ak a0:=match ao (zAd p d).data.toList with
 | .ok v=>if aj d.orig.data.toList (p.orig++⟨#[112]⟩).data.toList=ae/\1<=v/\v<=16/\(ar v.toNat)=(zAd p d).data.toList/\d.kind=2/\p.kind=2 then K v else C
 | _=>C
def zAQ (o:ak a0)(e:Ending):Prop:=e=.returned (.tuple #[f q (o.getD 0),.bool o.isSome])
theorem zHL (h:d.orig.size<=32):(zAd p d).size<=32:=by
 unfold zAd aw;have o:d.orig.data.toList.length<=32:=by rw[<-Lib.size_eq];exact h
 split
 .simp only[bf,bg,List.length_drop];omega
 .simp only[bf,bg];exact o
def cutB (p d:Dev):Bool:=aj d.orig.data.toList (p.orig++⟨#[112]⟩).data.toList
theorem zOA (s o:j)(w:m):a1 ab 194 #[Q s,Q o] w λe w'=>e=.returned (.tuple #[Q ⟨(aw s.data.toList o.data.toList).toArray⟩,.bool (aj s.data.toList o.data.toList)])/\w=w':=
 (Tryz.strings_CutPrefix s o w).mono λe w' h=>⟨h.1,h.2.symm⟩
theorem zJF (p d:Dev)(w:m):a1 ab 194 #[Q d.orig,Q (p.orig++⟨#[112]⟩)] w λe w'=>e=.returned (.tuple #[Q (zAd p d),.bool (cutB p d)])/\w=w':=by
 unfold zAd cutB;exact zOA _ _ w
def AtoiR (s:j)(e:Ending):Prop:=
 (∃ v,ao s.data.toList=.ok v/\e=.returned (.tuple #[f q v,.nilIface]))\/((∀ v,ao s.data.toList≠.ok v)/\∃ (k:a0) (te:TypeId) (N:c),e=.returned (.tuple #[f q k,.iface te (al (K ⟨N,0,C⟩))]))
theorem zIY (s:j)(w:m)(O:s.size<=1000)(u:ErrV w):a1 ab 199 #[Q s] w λe w'=>AtoiR s e/\Fr No w w':=by
 obtain⟨y,z,A⟩:=u.s;obtain⟨D,F,I⟩:=u.r;rcases h:ao s.data.toList with v|_|_
 .refine(Tryz.strconv_Atoi_ok s (by omega) v h w).mono ?_;rintro e w' ⟨rfl,J⟩;refine⟨.inl ⟨v,h,rfl⟩,?_⟩;rcases J with rfl|⟨t,rfl⟩
  .exact ad _ _
  .exact av (Lib.bytesWorld_below _ _ _)
 .refine(Any.strconv_Atoi_syntax Tryz.laysC172 s (by omega) h y w z A).mono ?_;rintro e w' ⟨N,rfl,_,_,o⟩;exact⟨.inr ⟨λv e=>(by rw[h]at e;cases e),0,_,N,rfl⟩,av o⟩
 .refine(Tryz.strconv_Atoi_range s (by omega) h D w F I).mono ?_;rintro e w' ⟨N,rfl,_,_,o⟩;exact⟨.inr ⟨λv e=>(by rw[h]at e;cases e),_,_,N,rfl⟩,av o⟩
theorem zJ3 (h:cutB p d=M):partB p d=none:=by
 unfold cutB at h;unfold partB;split
 .rw[au (by rw[h];simp)]
 .rfl
theorem zJ2 (h:∀ v,ao (zAd p d).data.toList≠.ok v):partB p d=none:=by
 unfold partB;split
 .rename_i v e;exact absurd e (h v)
 .rfl
theorem zLr {v:a0}(h:ao (zAd p d).data.toList=.ok v):partB p d=if cutB p d=ae/\1<=v/\v<=16/\(ar v.toNat)=(zAd p d).data.toList/\d.kind=2/\p.kind=2 then K v else none:=by
 unfold partB cutB;rw[h]
theorem zG2 (p d:Dev)(w:m)(hE:ErrV w)(hd:d.orig.size<=32)(hp:p.orig.size<=32):
  a1 ab 154 #[af p.vals,af d.vals] w λe w'=>zAQ (partB p d) e/\Fr No w w':=by
 have hx:Fr No w ((w.alloc (G p.vals 36)).alloc (G d.vals 36)):=((ad _ _).alloc _).alloc _;have q2:=zO w (G p.vals 36) (G d.vals 36);have q3:=zR w (G p.vals 36) (G d.vals 36);have a8:=zHL (p:=p) hd;unfold ah at *
 go_enter Tryz.func154,Tryz.ntmps154
 go_upto_region 1 with(fail)
 generalize (w.alloc (G _ 36)).alloc (G _ 36)=W0 at *;have a2:W0.cell? ⟨w,3,C⟩=K (Q p.orig):=zB q2 3;have a3:W0.cell? ⟨(w:c)+1,3,C⟩=K (Q d.orig):=zB q3 3;have a9:(p.orig++(⟨#[112]⟩:j)).size<=9223372036854775807:=by rw[ByteArray.size_append];show p.orig.size+1<=_;omega
 go_wp2_with fail
 refine(zJF p d _).mono ?_;rintro e w1 ⟨rfl,rfl⟩;have J:E (cutB p d=M->partB p d=C):=λh=>zJ3 h
 have O:E ((∀ v,ao (zAd p d).data.toList≠.ok v)->partB p d=C):=λh=>zJ2 h
 have a4:E (∀ v,ao (zAd p d).data.toList=.ok v->partB p d=if cutB p d=ae/\1<=v/\v<=16/\(ar v.toNat)=(zAd p d).data.toList/\d.kind=2/\p.kind=2 then K v else C):=λv h=>zLr h
 generalize zAd p d=dg at *;generalize cutB p d=cb at *
 go_wp2_with fail
 refine(zIY dg _ (by omega) (hE.no hx)).mono ?_;rintro e w2 ⟨hR,y⟩;have a5:=y.heap q2 id;have a6:=y.heap q3 id;have z:=zh (hx.step y zi);clear a2 a3 q2 q3 hx y;have b0:w2.cell? ⟨(w:c)+1,7,C⟩=K (f q d.kind):=zB a6 7;have b1:w2.cell? ⟨w,7,C⟩=K (f q p.kind):=zB a5 7;cases cb with
 | false=>
  have u:E (partB p d=C):=J.out rfl;rcases hR with⟨v,F,rfl⟩|⟨F,k,te,N,rfl⟩
  .go_wp2_with fail
   go_ret2
   exact⟨by unfold zAQ;rw[u.out];rfl,z.out⟩
  .go_wp2_with fail
   go_ret2
   exact⟨by unfold zAQ;rw[u.out];rfl,z.out⟩
 | true=>
  rcases hR with⟨v,F,rfl⟩|⟨F,k,te,N,rfl⟩
  .have o:=zh (a4.out v F);clear F;by_cases h1:v<1
   .have u:E (partB p d=C):=by unfold E;rw[o.out,au (by omega)]
    go_wp2_with fail
    go_ret2
    exact⟨by unfold zAQ;rw[u.out];rfl,z.out⟩
   by_cases b2:16<v
   .have u:E (partB p d=C):=by unfold E;rw[o.out,au (by omega)]
    go_wp2_with fail
    go_ret2
    exact⟨by unfold zAQ;rw[u.out];rfl,z.out⟩
   obtain⟨i,rfl⟩:=Int.eq_ofNat_of_zero_le (show 0<=v by omega)
   go_wp2_with fail
   refine(Tryz.strconv_Itoa_small i (by omega) _).mono ?_;rintro e w3 ⟨rfl,rfl⟩;obtain⟨Z,I⟩:∃ Z,Z=(⟨(ar i).toArray⟩:j):=⟨_,rfl⟩
   rw[<-I];have R:E ((Z.toList==dg.toList)=decide (ar i=dg.data.toList)):=by
    unfold E;rw[I,Bool.eq_iff_iff,beq_iff_eq,decide_eq_true_iff,ByteArray.toList_eq,ByteArray.toList_eq]
   have U:((i:a0).toNat)=i:=by simp
   have V:=zh U;clear I U;rcases hie:(Z.toList==dg.toList)with _|_
   .have u:E (partB p d=C):=by
     unfold E;rw[o.out,au];rintro ⟨_,_,_,h,_⟩;rw[V.out]at h;have:=R.out;rw[hie,decide_eq_true h]at this;cases this
    go_wp2_with fail
    go_ret2
    exact⟨by unfold zAQ;rw[u.out];rfl,z.out⟩
   have a7:E (ar i=dg.data.toList):=by
    unfold E;have:=R.out;rw[hie]at this;exact of_decide_eq_true this.symm
   by_cases A:d.kind=2
   .have X:(d.kind != 2)=false:=by simpa using A
    by_cases D:p.kind=2
    .have Y:(p.kind != 2)=false:=by simpa using D
     have u:E (partB p d=K (i:a0)):=by unfold E;rw[o.out,if_pos ⟨by trivial,by omega,by omega,by rw[V.out];exact a7.out,A,D⟩]
     go_wp2_with fail
     go_ret2
     exact⟨by unfold zAQ;rw[u.out];rfl,z.out⟩
    .have Y:(p.kind != 2)=true:=by simpa using D
     have u:E (partB p d=C):=by unfold E;rw[o.out,au (λh=>D h.2.2.2.2.2)]
     go_wp2_with fail
     go_ret2
     exact⟨by unfold zAQ;rw[u.out];rfl,z.out⟩
   .have X:(d.kind != 2)=true:=by simpa using A
    have u:E (partB p d=C):=by unfold E;rw[o.out,au (λh=>A h.2.2.2.2.1)]
    go_wp2_with fail
    go_ret2
    exact⟨by unfold zAQ;rw[u.out];rfl,z.out⟩
  .have u:E (partB p d=C):=O.out F;clear F
   go_wp2_with fail
   go_ret2
   exact⟨by unfold zAQ;rw[u.out];rfl,z.out⟩
def partOf (ds:ag Dev)(n:a0):ak a0:=match look ds n with
 | none=>C
 | some d=>match look ds d.parent with
  | none=>C
  | some p=>partB p d
theorem zOb (a:ak Addr)(o:c)(ds:ag Dev)(y:c)(n:a0)(w:m)(hl:Tr w y a o ds)(hE:ErrV w):
  a1 ab 102 #[af #[B a ds.length o],f q n] w λe w'=>zAQ (partOf ds n) e/\Fr No w w':=by
 have hT:=hl.wf.1;have hx:Fr No w (w.alloc (G #[B a ds.length o] 47)):=(ad _ _).alloc _;have q2:=zF w (G #[B a ds.length o] 47)
 go_enter Tryz.func102,Tryz.ntmps102
 go_wp2_with fail
 refine(zBd a o ds y n _ (hl.no hx)).mono ?_;rintro e I ⟨U,J⟩;have V:=J.heap q2 id;have D:=hx.step J zi;clear q2 hx J;rcases U with⟨h,rfl⟩|⟨d,z,A,la,h,rfl,-⟩
 .have X:E (partOf ds n=C):=by unfold E partOf;rw[h]
  have F:Fr No I (I.alloc (G Dev.zero.vals 36)):=(ad _ _).alloc _;have N:=F.heap V id;have u:=D.step F zi;have c2:(I.alloc (G Dev.zero.vals 36)).cell? ⟨w,0,C⟩=K (B a ds.length o):=zB N 0;unfold ah aq at *;clear h
  go_wp2_with fail
  refine(zBd a o ds y 0 _ (hl.no u)).mono ?_;rintro e w2 ⟨U,v⟩;rcases U with⟨h,rfl⟩|⟨d,z,A,la,h,rfl,-⟩
  .have Y:=zh ((u.step v zi).alloc (G Dev.zero.vals 36));unfold ah aq at *;clear v u F h
   go_wp2_with fail
   go_ret2
   exact⟨by unfold zAQ;rw[X.out];rfl,Y.out⟩
  .rw[hT.zero]at h;cases h
 .have hd:=zAL h;have F:Fr No I (I.alloc (G ({ d with aa:=z,ac:=A }:Dev).vals 36)):=(ad _ _).alloc _;have N:=F.heap V id;have q6:=zF I (G ({ d with aa:=z,ac:=A }:Dev).vals 36);have u:=D.step F zi;have c2:(I.alloc (G ({ d with aa:=z,ac:=A }:Dev).vals 36)).cell? ⟨w,0,C⟩=K (B a ds.length o):=zB N 0;have Z:=zh h;have Hd:=zh hd.1;unfold ah at *;clear h hd
  go_wp2_with fail
  refine(zBd a o ds y d.parent _ (hl.no u)).mono ?_;rintro e w2 ⟨U,v⟩;rcases U with⟨h,rfl⟩|⟨p,O,R,lp,h,rfl,-⟩
  .have X:E (partOf ds n=C):=by unfold E partOf;rw[Z.out];simp only;rw[h]
   have Y:=zh ((u.step v zi).alloc (G Dev.zero.vals 36));unfold ah aq at *;clear v u F h
   go_wp2_with fail
   go_ret2
   exact⟨by unfold zAQ;rw[X.out];rfl,Y.out⟩
  .have X:E (partOf ds n=partB p d):=by unfold E partOf;rw[Z.out];simp only;rw[h]
   have a5:=(zAL h).1;have hz:Fr No w2 (w2.alloc (G ({ p with aa:=O,ac:=R }:Dev).vals 36)):=(ad _ _).alloc _;have a2:=hz.heap (v.heap q6 id) id;have a3:=(u.step v zi).step hz zi;obtain⟨d0,d1,d2,d3,d4,d5,d6,d7,d8,d9⟩:=cl10 a2;have hP:=zG2 ({ p with aa:=O,ac:=R }:Dev) ({ d with aa:=z,ac:=A }:Dev) _ (hE.no a3) (hT.sz d Hd.out) (hT.sz p a5);have e:partB ({ p with aa:=O,ac:=R }:Dev) ({ d with aa:=z,ac:=A }:Dev)=partB p d:=rfl;rw[e]at hP;have HP:=zh hP;have a6:=zh a3;unfold ah at *;clear hP e v u F hz h a2 q6 D;generalize partB p d=res at *
   go_wp2_with fail
   refine HP.out.mono ?_;rintro e w3 ⟨he,a4⟩;unfold zAQ at he;subst he;have Y:=zh (a6.out.step a4 zi);clear a4
   go_wp2_with fail
   go_ret2
   exact⟨by unfold zAQ;rw[X.out];rfl,Y.out⟩
def zAK : j:=⟨#[99,111,110,116,101,110,116]⟩
theorem zN8 (a:ak Addr)(A:c)(l:ag (j×j))(o:j)(w:m)(N:Atts w a A l):
  a1 ab 99 #[B a l.length A,Q o] w λe w'=>GotS (getP l o) e/\Fr No w w':=by
 have V:=N.lenmax
 go_enter Tryz.func99,Tryz.ntmps99
 go_wp2_with fail
 go_loopw [10] (λi wr=>∃ k:c,k<=l.length/\i=f q k/\E (∀ x∈l.take k,isKey o x=M)/\Fr No w wr) (λi _=>l.length-(am i).toNat)
 case atStart=>exact⟨0,by omega,rfl,by unfold E;simp,ad _ _⟩
 case round=>
  obtain⟨k,X,rfl,v,u⟩:=hrel;by_cases I:k<l.length
  .have O:(k:a0)<l.length:=by omega
   obtain⟨Y,U,x,y,Z,D,-,-,c0,c1⟩:=(N.no u (λ_=>id)).at I;have F:=zh D;clear D;rcases he:(x.toList==o.toList)with _|_
   .go_wp2_with fail
    go_roundw
    case rel=>
     refine⟨k+1,by omega,by go_num,?_,u.alloc _⟩;unfold E;intro z R;rw[ax,F.out]at R;rcases List.mem_append.1 R with h|h
     .exact v.out z h
     .simp at h;subst h;exact he
    case measure=>simp[am];omega
   .have J:E (getP l o=y):=by unfold E getP;rw[zEB (isKey o) _ _ _ F.out he v.out];rfl
    go_wp2_with fail
    go_ret2
    exact⟨⟨ae,by rw[J.out];rfl⟩,u.alloc _⟩
  .obtain rfl:k=l.length:=by omega
   have h:=v.out;rw[ay (by omega)]at h;have J:E (getP l o=⟨#[]⟩):=by unfold E getP;rw[zKi _ _ h];rfl
   go_wp2_with fail
   go_ret2
   exact⟨⟨M,by rw[J.out];rfl⟩,u⟩
theorem zLM (d:Dev)(l:ag (j×j))(w:m)(y:Atts w d.aa d.ac l)(o:d.an=l.length):
  a1 ab 72 #[af d.vals] w λe w'=>e=.returned (Q (getP l zAK))/\Fr No w w':=by
 obtain⟨D,h,z,A⟩:=zy w (G d.vals 36);have u:=zN8 d.aa d.ac l zAK D (y.no z (λ_=>id));rw[<-o]at u;have I:=(DevB.of A).c9;unfold ah at h ⊢;unfold zAK at u;clear A o y;have F:E (getP l zAK=getP l ⟨#[99,111,110,116,101,110,116]⟩):=rfl;rw[F.out];generalize getP l ⟨#[99,111,110,116,101,110,116]⟩=g at *
 go_enter Tryz.func72,Tryz.ntmps72
 go_upto_region 1 with(fail)
 rw[<-h];clear h
 go_wp2_with fail
 refine u.mono ?_;rintro e J ⟨⟨b,rfl⟩,v⟩;clear u
 go_wp2_with fail
 go_ret;exact⟨rfl,z.step v zi⟩
def preB (s:j):Bool:=aj s.data.toList [109,100,45]||Lib.hasPrefix s.data.toList [111,112,101,110,45]||Lib.hasPrefix s.data.toList [108,118,45]
def virB (ds:ag Dev)(n:a0):Bool:=match look ds n with
 | none=>M
 | some d=>(partOf ds n).isSome||(d.parent==0&&preB d.orig)
theorem zGr (h:c)(d:Dev)(s:j)(w:m)(o:w.heap[h]?=K (G d.vals 36)):
  a1 ab 103 #[Q s,al (K ⟨h,0,C⟩)] w λe w'=>e=.returned (.bool (aj d.orig.data.toList s.data.toList))/\w=w':=by
 have u:=(DevB.of o).c3;clear o
 go_enter Tryz.func103,Tryz.ntmps103
 go_wp2_with fail
 refine(Tryz.strings_HasPrefix d.orig s _).mono ?_;rintro e v ⟨rfl,rfl⟩
 go_wp2_with fail
 go_ret;exact⟨rfl,rfl⟩
theorem zNC (o b:c)(d:Dev)(w:m)(F:w.heap[o]?=K (G d.vals 36))(U:w.heap[b]?=K (G #[Q ⟨#[109,100,45]⟩,Q ⟨#[111,112,101,110,45]⟩,Q ⟨#[108,118,45]⟩] 9)):
  a1 ab 36 #[B (K ⟨b,0,C⟩) 3 3,.func (.func 103) #[] #[al (K ⟨o,0,C⟩)]] w λe w'=>e=.returned (.bool (preB d.orig))/\Fr No w w':=by
 obtain⟨e0,e1,e2⟩:=cl3 U;have V:=zh (zGr o d ⟨#[109,100,45]⟩ w F);have X:=zh (zGr o d ⟨#[111,112,101,110,45]⟩ w F);have Y:=zh (zGr o d ⟨#[108,118,45]⟩ w F);have I:E (preB d.orig=(aj d.orig.data.toList [109,100,45]||Lib.hasPrefix d.orig.data.toList [111,112,101,110,45]||Lib.hasPrefix d.orig.data.toList [108,118,45])):=rfl;generalize preB d.orig=pb at *;have J:E (a1 ab 103 #[Q ⟨#[109,100,45]⟩,al (K ⟨o,0,C⟩)] w λe w'=>e=.returned (.bool (aj d.orig.data.toList [109,100,45]))/\w=w'):=V.out;have N:E (a1 ab 103 #[Q ⟨#[111,112,101,110,45]⟩,al (K ⟨o,0,C⟩)] w λe w'=>e=.returned (.bool (aj d.orig.data.toList [111,112,101,110,45]))/\w=w'):=X.out;have O:E (a1 ab 103 #[Q ⟨#[108,118,45]⟩,al (K ⟨o,0,C⟩)] w λe w'=>e=.returned (.bool (aj d.orig.data.toList [108,118,45]))/\w=w'):=Y.out;clear V X Y F U;generalize aj d.orig.data.toList [109,100,45]=p0 at *;generalize aj d.orig.data.toList [111,112,101,110,45]=p1 at *;generalize aj d.orig.data.toList [108,118,45]=p2 at *;refine(show a1 ab 36 _ _ (λe w'=>e=.returned (.bool pb)/\w'=w)from ?_).mono (λe w' h=>⟨h.1,by rw[h.2];exact ad _ _⟩);have v:a1 ab 76 #[B (K ⟨b,0,C⟩) 3 3,.func (.func 103) #[] #[al (K ⟨o,0,C⟩)]] w λe w'=>(∃ r:a0,e=.returned (f q r)/\decide (0<=r)=pb)/\w'=w:=by
  go_enter Tryz.func76,Tryz.ntmps76
  go_wp2_with fail
  go_loopw [8] (λi wr=>wr=w/\((i=f q 0)\/(i=f q 1/\p0=M)\/(i=f q 2/\p0=M/\p1=M)\/(i=f q 3/\p0=M/\p1=M/\p2=M))) (λi _=>3-(am i).toNat)
  case atStart=>exact⟨rfl,.inl rfl⟩
  case round=>
   obtain⟨rfl,h⟩:=hrel;rcases h with rfl|⟨rfl,y⟩|⟨rfl,y,A⟩|⟨rfl,y,A,Z⟩
   .go_wp2_with fail
    refine J.out.mono ?_;rintro e R ⟨rfl,rfl⟩;cases hq:p0 with
    | true=>
     have z:E (pb=ae):=by unfold E;rw[I.out,hq];rfl
     clear hq
     go_wp2_with fail
     go_ret;exact⟨⟨0,rfl,by rw[z.out];rfl⟩,rfl⟩
    | false=>
     have D:=zh hq;clear hq
     go_wp2_with fail
     go_roundw
     case rel=>exact⟨trivial,.inr (.inl ⟨rfl,D.out⟩)⟩
     case measure=>simp[am]
   .have u:=zh y;clear y
    go_wp2_with fail
    refine N.out.mono ?_;rintro e R ⟨rfl,rfl⟩;cases hq:p1 with
    | true=>
     have z:E (pb=ae):=by unfold E;rw[I.out,hq];simp
     clear hq
     go_wp2_with fail
     go_ret;exact⟨⟨1,rfl,by rw[z.out];rfl⟩,rfl⟩
    | false=>
     have D:=zh hq;clear hq
     go_wp2_with fail
     go_roundw
     case rel=>exact⟨trivial,.inr (.inr (.inl ⟨rfl,u.out,D.out⟩))⟩
     case measure=>simp[am]
   .have u:=zg2 y A;clear y A
    go_wp2_with fail
    refine O.out.mono ?_;rintro e R ⟨rfl,rfl⟩;cases hq:p2 with
    | true=>
     have z:E (pb=ae):=by unfold E;rw[I.out,hq];simp
     clear hq
     go_wp2_with fail
     go_ret;exact⟨⟨2,rfl,by rw[z.out];rfl⟩,rfl⟩
    | false=>
     have D:=zh hq;clear hq
     go_wp2_with fail
     go_roundw
     case rel=>exact⟨trivial,.inr (.inr (.inr ⟨rfl,u.out.1,u.out.2,D.out⟩))⟩
     case measure=>simp[am]
   .have z:E (pb=M):=by unfold E;rw[I.out,y,A,Z];rfl
    clear y A Z
    go_wp2_with fail
    go_ret;exact⟨⟨-1,rfl,by rw[z.out];rfl⟩,rfl⟩
 clear e0 e1 e2
 go_enter Tryz.func36,Tryz.ntmps36
 go_wp2_with fail
 refine v.mono ?_;rintro e R ⟨⟨r,rfl,hr⟩,rfl⟩;have Hr:=zh hr;clear hr v
 go_wp2_with fail
 go_ret;exact⟨zN Hr.out,rfl⟩
theorem zER (a:ak Addr)(h:c)(ds:ag Dev)(o:c)(n:a0)(w:m)(hl:Tr w o a h ds)(hE:ErrV w):
  a1 ab 64 #[af #[B a ds.length h],f q n] w λe w'=>e=.returned (.bool (virB ds n))/\Fr No w w':=by
 obtain⟨W0,N,hx,q0⟩:=zy w (G #[B a ds.length h] 47);have t0:W0.cell? ⟨w,0,C⟩=K (B a ds.length h):=zB q0 0;have u:=zBd a h ds o n W0 (hl.no hx);have F:=zh (λ(W:m) (hf:Fr No w W)=>zOb a h ds o n W (hl.no hf) (hE.no hf));obtain⟨A,I⟩:∃ A,A=virB ds n:=⟨_,rfl⟩
 rw[<-I];have O:=zh I;clear I hl hE
 go_enter Tryz.func64,Tryz.ntmps64
 go_upto_region 1 with(fail)
 rw[<-N];clear N
 go_wp2_with fail
 refine u.mono ?_;rintro e w1 ⟨hF,R⟩;have q1:=R.heap q0 id;have x1:=hx.step R zi;clear t0 q0 u;rcases hF with⟨v,rfl⟩|⟨d,U,V,la,v,rfl,-⟩
 .have Hv:E (A=M):=by unfold E;rw[O.out];unfold virB;rw[v]
  have X:Fr No w (w1.alloc (G (ah aq) 36)):=x1.alloc _;have Hx:=zh X;clear X v;unfold ah aq at *
  go_wp2_with fail
  go_ret;exact⟨zN Hv.out.symm,Hx.out⟩
 .have Hv:E (A=((partOf ds n).isSome||(d.parent==0&&preB d.orig))):=by unfold E;rw[O.out];unfold virB;rw[v]
  obtain⟨W2,J,f2,b2⟩:=zy w1 (G (ah { d with aa:=U,ac:=V }) 36);have q2:=f2.heap q1 id;have x2:=x1.step f2 zi;have t0:W2.cell? ⟨w,0,C⟩=K (B a ds.length h):=zB q2 0;have y:=F.out W2 x2;clear v q1;unfold ah at J ⊢
  go_upto_region 4 with(fail)
  rw[<-J];clear J
  go_wp2_with fail
  refine y.mono ?_;rintro e w3 ⟨hP,Y⟩;unfold zAQ at hP;subst hP;have b3:=Y.heap b2 id;have x3:=x2.step Y zi;clear t0 y b2 q2;obtain⟨c0,c1,c2,c3,c4,c5,c6,c7,c8,c9⟩:=DevB.of b3;simp only at c1;generalize (partOf ds n).getD 0=pv at *;rcases hp:(partOf ds n).isSome with _|_
  .have Z:E (A=(d.parent==0&&preB d.orig)):=by unfold E;rw[Hv.out,hp];rfl
   rcases hq:(d.parent==0)with _|_
   .have z:E (A=M):=by unfold E;rw[Z.out,hq];rfl
    go_wp2_with fail
    go_ret;exact⟨zN z.out.symm,x3⟩
   .have z:E (A=preB d.orig):=by unfold E;rw[Z.out,hq];rfl
    obtain⟨W4,a2,f4,b4⟩:=zy w3 (G #[Q ⟨#[109,100,45]⟩,Q ⟨#[111,112,101,110,45]⟩,Q ⟨#[108,118,45]⟩] 9);have D:=zNC (w1:c) (w3:c) { d with aa:=U,ac:=V } W4 (f4.heap b3 id) b4;clear b3
    go_wp2_with fail
    rw[<-a2];clear a2;refine D.mono ?_;rintro e w5 ⟨rfl,a3⟩;have Hx:=zh ((x3.step f4 zi).step a3 zi);clear D f4 a3 b4
    go_wp2_with fail
    go_ret;exact⟨zN z.out.symm,Hx.out⟩
  .have z:E (A=ae):=by unfold E;rw[Hv.out,hp];rfl
   go_wp2_with fail
   go_ret;exact⟨zN z.out.symm,x3⟩
def ignB : j:=⟨#[83,84,79,82,65,71,69,95,73,71,78,79,82,69]⟩
def cntB (ds:ag Dev)(L:ag Rec)(n:a0):Bool:=match look ds n with
 | none=>M
 | some d=>match L.find? (Rec.is n (pathOf (origin ds n)))with
  | none=>M
  | some r=>d.kind==2&&!((getP r.props ignB).toList==[49])
theorem zMf (a ra:ak Addr)(h rc:c)(ds:ag Dev)(L:ag Rec)(A:c)(n:a0)(w:m)(hl:Tr w A a h ds)(hn:ds.length<=1000)(hx:(Lit.int q n).wf=ae)(hr:Recs w ra rc L):
  a1 ab 63 #[af #[.slice a ds.length h],.slice ra L.length rc,.int q n] w λe w'=>e=.returned (.bool (cntB ds L n))/\Fr No w w':=by
 obtain⟨W0,a2,x0,q0⟩:=zy w (G #[.slice a ds.length h] 47);have t0:W0.cell? ⟨w,0,C⟩=K (.slice a ds.length h):=zB q0 0;have v:=zBd a h ds A n W0 (hl.no x0);have a3:=zh (λ(W:m) (hf:Fr No w W)=>zAu a h ds n W (hl.dv.no hf (λ_=>id)) hl.wf.ok hn hx);have a4:=zh (λ(W:m) (hf:Fr No w W) (p:j)=>zLt ra rc L n p W (hr.no hf (λ_=>id)));have a8:=zh (λ(W:m) (hf:Fr No w W)=>hr.no hf (λ_=>id));have d0:=hr.lenmax;obtain⟨D,F⟩:∃ D,D=cntB ds L n:=⟨_,rfl⟩
 rw[<-F];have a9:=zh F;clear F hl hr hx
 go_enter Tryz.func63,Tryz.ntmps63
 go_upto_region 1 with(fail)
 rw[<-a2];clear a2
 go_wp2_with fail
 refine v.mono ?_;rintro e w1 ⟨hF,I⟩;clear t0 v;obtain⟨X,Y,rfl,a5⟩:∃ X Y,e=.returned (.tuple #[af (ah X),.bool Y])/\((look ds n=C/\Y=M)\/∃ d,look ds n=K d/\Y=ae/\X.kind=d.kind):=by
  rcases hF with⟨J,rfl⟩|⟨d,b0,b1,la,J,rfl,-⟩
  .exact⟨aq,M,rfl,.inl ⟨J,rfl⟩⟩
  .exact⟨{ d with aa:=b0,ac:=b1 },ae,rfl,.inr ⟨d,J,rfl,rfl⟩⟩
 have b6:=zh a5;clear a5 hF;obtain⟨W2,N,f2,b2⟩:=zy w1 (G (ah X) 36);have q2:=f2.heap (I.heap q0 id) id;have x2:=(x0.step I zi).step f2 zi;have t0:W2.cell? ⟨w,0,C⟩=K (.slice a ds.length h):=zB q2 0;have y:=a3.out W2 x2;have b7:E (plc ds n=((look ds n).map λ_=>pathOf (origin ds n)).getD ⟨#[]⟩):=rfl;rw[<-b7.out]at y;clear q0 I f2;unfold ah at N ⊢
 go_upto_region 2 with(fail)
 rw[<-N];clear N
 go_wp2_with fail
 refine y.mono ?_;rintro e w3 ⟨rfl,O⟩;have b3:=O.heap b2 id;have x3:=x2.step O zi;have z:=a4.out w3 x3 (plc ds n);clear t0 y b2 q2;generalize (look ds n).isSome=lks at *;obtain⟨P,hP⟩:∃ P,P=plc ds n:=⟨_,rfl⟩
 rw[<-hP]at z ⊢;have HP:=zh hP;clear hP
 go_wp2_with fail
 refine z.mono ?_;rintro e w4 ⟨hR,R⟩;have b4:=R.heap b3 id;have x4:=x3.step R zi;clear z b3;obtain⟨r,Z,rfl,a6,a7⟩:∃ r Z,e=.returned (.tuple #[af (ap r),.bool Z])/\RecOk w4 r/\((L.find? (Rec.is n P)=C/\Z=M)\/(L.find? (Rec.is n P)=K r/\Z=ae)):=by
  cases hq:L.find? (Rec.is n P)with
  | none=>rw[hq]at hR;exact⟨az,M,hR,RecOk.zero w4,.inl ⟨rfl,rfl⟩⟩
  | some r=>rw[hq]at hR;exact⟨r,ae,hR,((a8.out w4 x4).ok r (List.mem_of_find?_eq_some hq)),.inr ⟨rfl,rfl⟩⟩
 obtain⟨W5,U,f5,r5⟩:=zy w4 (G (ap r) 91);have b5:=f5.heap b4 id;have x5:=x4.step f5 zi;have o:=zIw r ignB W5 (a6.no f5 (λ_=>id));have b8:=zh a7;clear hR a7 a6 b4 R f5 O;unfold ap at U o ⊢;unfold ignB at o;have Hg:E (getP r.props ignB=getP r.props ⟨#[83,84,79,82,65,71,69,95,73,71,78,79,82,69]⟩):=rfl;rw[<-Hg.out]at o
 go_upto_region 4 with(fail)
 rw[<-U];clear U;obtain⟨c0,c1,c2,c3,c4,c5,c6,c7,c8,c9⟩:=DevB.of b5;obtain⟨e0,e1,e2,e3,e4,e5,e6,e7,e8,e9,d1,d2⟩:=cl12 r5;have u:E (D=(Y&&Z&&(X.kind==2)&&!((getP r.props ignB).toList==[49]))):=by
  unfold E;rw[a9.out];unfold cntB;rcases b6.out with⟨h1,h2⟩|⟨d,h1,h2,h3⟩
  .rw[h1,h2];rfl
  .have hp:P=pathOf (origin ds n):=by rw[HP.out];unfold plc;rw[h1];rfl
   rw[h1,h2,<-hp];simp only;rcases b8.out with⟨k1,k2⟩|⟨k1,k2⟩
   .rw[k1,k2];rfl
   .rw[k1,k2,h3];simp
 generalize getP r.props ignB=g at *;clear b5 r5;cases Y with
 | false=>
  have V:E (D=M):=by unfold E;rw[u.out];rfl
  go_wp2_with fail
  go_ret;exact⟨zN V.out.symm,x5⟩
 | true=>
  cases Z with
  | false=>
   have V:E (D=M):=by unfold E;rw[u.out];rfl
   go_wp2_with fail
   go_ret;exact⟨zN V.out.symm,x5⟩
  | true=>
   rcases hk:(X.kind==2)with _|_
   .have V:E (D=M):=by unfold E;rw[u.out,hk];rfl
    go_wp2_with fail
    go_ret;exact⟨zN V.out.symm,x5⟩
   .have V:E (D=!(g.toList==[49])):=by unfold E;rw[u.out,hk];rfl
    go_wp2_with fail
    refine o.mono ?_;rintro e w6 ⟨rfl,b9⟩
    go_wp2_with fail
    go_ret;exact⟨zN V.out.symm,x5.step b9 zi⟩
theorem zHX (a:ak Addr)(o:c)(ds:ag Dev)(d:Dev)(w:m)(U:Devs w a o ds)(V:TreeOk ds)(hn:ds.length<=1000)(X:(Lit.int q d.parent).wf=ae):
  a1 ab 70 #[af #[.slice a ds.length o],af d.vals] w λe w'=>e=.returned (af #[.string (plc ds d.parent),.string d.orig])/\Fr No w w':=by
 obtain⟨z,u⟩:∃ z,z=((w.alloc (G #[.slice a ds.length o] 47)).alloc (G d.vals 36)).alloc (G #[.string ⟨#[]⟩,.string ⟨#[]⟩] 99):=⟨_,rfl⟩
 have F:Fr No ((w.alloc (G #[.slice a ds.length o] 47)).alloc (G d.vals 36)) z:=by rw[u];exact(ad _ _).alloc _
 have D:Fr No w z:=by rw[u];exact(((ad _ _).alloc _).alloc _).alloc _
 have Y:=F.heap (zO w (G #[.slice a ds.length o] 47) (G d.vals 36)) id;have I:=F.heap (zR w (G #[.slice a ds.length o] 47) (G d.vals 36)) id;have Z:z.heap[(w:c)+1+1]?=K (G #[.string ⟨#[]⟩,.string ⟨#[]⟩] 99):=by
  have:=zF ((w.alloc (G #[.slice a ds.length o] 47)).alloc (G d.vals 36)) (G #[.string ⟨#[]⟩,.string ⟨#[]⟩] 99);rw[bd,bd]at this;rw[u];exact this
 have t0:z.cell? ⟨w,0,C⟩=K (.slice a ds.length o):=zB Y 0;have c1:=(DevB.of I).c1;have y:=zAu a o ds d.parent z (U.no D (λ_=>id)) V hn X;have J:E (plc ds d.parent=((look ds d.parent).map λ_=>pathOf (origin ds d.parent)).getD ⟨#[]⟩):=rfl;rw[<-J.out]at y;generalize plc ds d.parent=P at *;generalize (look ds d.parent).isSome=lks at *;clear F U V X;unfold ah at u ⊢
 go_enter Tryz.func70,Tryz.ntmps70
 go_upto_region 1 with(fail)
 rw[<-u];clear u
 go_wp2_with fail
 refine y.mono ?_;rintro e w1 ⟨rfl,A⟩;have r1:=A.heap I id;have N:=A.heap Z id;have c3:=(DevB.of r1).c3;obtain⟨z0,z1⟩:=cl2 N;obtain⟨y0,y1⟩:=fl2 N;have x1:=D.step A zi;have Hx:E (∀ O R,Fr No w ((w1.setCell ⟨(w:c)+1+1,0,C⟩ O).setCell ⟨(w:c)+1+1,1,C⟩ R)):=λO R=>x1.step (T:=Is ((w:c)+1+1)) (((ad _ _).setAt O).setAt R) (λb hb h=>by omega)
 clear y t0 c1 Y I Z r1 N
 go_wp2_with fail
 refine be (v:=af #[.string P,.string d.orig]) (by simp[results,Tryz.results70,go_sem,z0,z1]) rfl ?_;exact⟨rfl,Hx.out _ _⟩
end Go.Proofs.YtckkocmhlhefpaaGreatDoor
