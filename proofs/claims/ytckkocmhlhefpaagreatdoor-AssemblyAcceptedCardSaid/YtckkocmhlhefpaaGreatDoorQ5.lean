import Derived.Test.YtckkocmhlhefpaaGreatDoorQ4
import Derived.Lib.SliceRun
namespace Go.Proofs.YtckkocmhlhefpaaGreatDoor
open Go.RowKit Go.Maps
set_option linter.unusedVariables false
set_option maxRecDepth 100000
set_option maxHeartbeats 1000000
open And renaming intro->au
open Atts renaming nil->az
open Dev renaming vals->ae,zero->ao
open Fr renaming refl->af
open Go renaming World->m,Addr->a1,Calls->ag,Value->aj,bodyPost_ret->al,results->am,maxLen->ar
open Go.Proofs.Tryz renaming prog->ab,results60->ax,func25->bf,func60->bg,func83->bh,ntmps25->bi,ntmps60->bj,ntmps83->bm,results23->bn,results46->bo,underlying34->bp
open Go.World renaming size_alloc->ay
open IntKind renaming i64->Q
open Obj renaming cells->P
open Value renaming string->C,int->E,slice->G,agg->M,pointer->ap
open _root_ renaming Nat->q,List->T,ByteArray->K,Int->L,Option->a0,Bool->ak
open _root_.Array renaming getElem?_toList->bc
open _root_.Bool renaming false->ah,true->ai
open _root_.ByteArray renaming empty->av
open _root_.List renaming getElem?_eq_getElem->aq,eq_nil_of_length_eq_zero->b7,find?->b8,mem_of_getElem?->b9,take_of_length_le->ba,take_add_one->bd
open _root_.Nat renaming le_refl->aw,zero_add->be
open _root_.Option renaming none->B,some->f
variable{a:a0 a1}{y o:q}{l:T (K×K)}{w w':m}{S:q->Prop}
theorem zN3 (d:Dev)(b:q)(n:L)(w:m)(h:w.cell? ⟨b,0,B⟩=f (E Q n)):
  ag ab 95 #[M d.vals,ap (f ⟨b,0,B⟩)] w λe w'=>e=.returned (.bool (d.index==n))/\Fr No w w':=by
 have o:Fr No w (w.alloc (P d.vals 36)):=(af _ _).alloc _;have u:=o.cell h id;clear h;unfold ae at *
 go_enter Tryz.func95,Tryz.ntmps95
 go_wp2_with fail
 go_ret;exact⟨rfl,o⟩
theorem zJB (a:a0 a1)(A:q)(ds:T Dev)(b:q)(n:L)(w:m)(J:Devs w a A ds)(V:w.cell? ⟨b,0,B⟩=f (E Q n)):
  ag ab 83 #[G a ds.length A,.func (.func 95) #[] #[ap (f ⟨b,0,B⟩)]] w λe w'=>e=.returned (E Q (place ds n))/\Fr No w w':=by
 have hm:=J.lenmax
 go_enter bh,bm
 go_wp2_with fail
 go_loopw [8] (λi wr=>∃ k:q,k<=ds.length/\i=E Q k/\Hid (∀ x∈ds.take k,x.index≠n)/\Fr No w wr) (λi _=>ds.length-(intOf i).toNat)
 case atStart=>exact⟨0,by omega,rfl,by unfold Hid;simp,af _ _⟩
 case round=>
  obtain⟨k,hk,rfl,y,u⟩:=hrel;by_cases D:k<ds.length
  .have N:(k:L)<ds.length:=by omega
   obtain⟨bb,X,d,rfl,O,Y,c1,Z,c3,c4,c5,c6,c7,c8,c9⟩:=(J.no u (λ_=>id)).dev D;have R:=zh O;clear O
   go_wp2_with fail
   refine(zN3 d b n _ (u.cell V id)).mono ?_;rintro e w1 ⟨rfl,F⟩;have v:=u.step F zi;clear Y c1 Z c3 c4 c5 c6 c7 c8 c9;by_cases o:d.index=n
   .have I:(d.index==n)=true:=by simpa using o
    have z:=zh o;clear o
    go_wp2_with fail
    go_ret;exact⟨zA7 (zCu ds n k d R.out z.out y.out).symm,v⟩
   .have I:(d.index==n)=false:=by simpa using o
    have z:=zh o;clear o
    go_wp2_with fail
    go_roundw
    case rel=>
     refine⟨k+1,by omega,by go_num,?_,v⟩;unfold Hid;intro x U;rw[bd,R.out]at U;rcases List.mem_append.1 U with h|h
     .exact y.out x h
     .simp at h;subst h;exact z.out
    case measure=>simp[intOf];omega
  .obtain rfl:k=ds.length:=by omega
   have h:=y.out;rw[ba (by omega)]at h;have Hp:Hid (place ds n=-1):=zCv _ _ h;clear h
   go_wp2_with fail
   go_ret;exact⟨zA7 Hp.out.symm,u⟩
theorem zFf (W:m)(a:a0 a1)(n c:q):(binOp .eql 34 (G a n c) (G B 0 0)).run ab W=.ok (.bool a.isNone) W:=Lib.run_eql_slice_nil W 34 78 a n c 0 0 bp
theorem infoA: (Tryz.prog.info? 78).map (λi=>(i.zero,i.size,i.bytes))=f (f (M #[C av,C av]),2,32):=by kernel_rfl
def aflat (l:T (K×K)):T aj:=l.flatMap (λx=>[C x.1,C x.2])
theorem zBp (l:T (K×K)):(aflat l).length=l.length*2:=by
 induction l with
 | nil=>rfl
 | cons d t h=>
  have:aflat (d::t)=[C d.1,C d.2]++aflat t:=by simp[aflat]
  rw[this,List.length_append,h];simp;omega
theorem zFq : ∀ (l:T (K×K)) (i:q) (x:K×K),l[i]?=f x->(aflat l)[i*2]?=f (C x.1)/\(aflat l)[i*2+1]?=f (C x.2)
 | [],i,d,h=>by simp at h
 | y::t,0,x,h=>by
  simp at h;subst h;exact⟨rfl,rfl⟩
 | y::t,i+1,x,h=>by
  have e:aflat (y::t)=C y.1::C y.2::aflat t:=by simp[aflat]
  have o:=zFq t i x (by simpa using h);rw[e,show (i+1)*2=i*2+1+1 from by omega];exact o
theorem zLJ (l:T (K×K))(j:q)(u:aj)(h:(aflat l)[j]?=f u):∃ i x,l[i]?=f x/\((j=i*2/\u=C x.1)\/(j=i*2+1/\u=C x.2)):=by
 have o:j<(aflat l).length:=(List.getElem?_eq_some_iff.1 h).1;rw[zBp]at o;have v:j / 2<l.length:=by omega
 have y:=zFq l (j / 2) l[j / 2] (aq v);refine⟨j / 2,l[j / 2],aq v,?_⟩;rcases(by omega:j=j / 2*2\/j=j / 2*2+1)with e|e
 .left;refine⟨e,?_⟩;rw[e,y.1]at h;exact(Option.some.inj h).symm
 .right;refine⟨e,?_⟩;rw[e,y.2]at h;exact(Option.some.inj h).symm
theorem zBo (l:T (K×K)):∀ u∈aflat l,u.oneCell'=true:=by
 intro u h;obtain⟨x,_,h⟩:=List.mem_flatMap.1 h;simp at h;rcases h with rfl|rfl<;>rfl
theorem Atts.src {W:m}(h:Atts W a y l):∀ v,a=f v->∀ j u,(aflat l)[j]?=f u->W.cell? (v.add j)=f u:=by
 intro v e j u F;obtain⟨i,x,z,I⟩:=zLJ _ _ _ F;obtain⟨A,_,J⟩:=h.cell v e (by intro e;subst e;simp at z);obtain⟨b,o,N⟩:=v;simp only at A;subst A;have D:=J i x z;rw[Addr.add_lit];rcases I with⟨rfl,rfl⟩|⟨rfl,rfl⟩
 .exact D.1
 .exact D.2
theorem Atts.of_own {u:q}{e:TypeId}{v:aj}(h:w.ownsRow u e 2 v l.length (aflat l))(J:∀ x∈l,x.1.size<=ar/\x.2.size<=ar):
  ∃ a o,v=G a l.length o/\Atts w a o l/\∀ y,a=f y->u<=y.block:=by
 obtain⟨_,⟨rfl,z⟩|⟨g,o,A,rfl,N,D,O,z,Z,R⟩⟩:=h
 .have:l=[]:=b7 z;subst this;exact⟨B,0,rfl,az w,λ_ e=>by cases e⟩
 .refine⟨f ⟨g,0,B⟩,o,rfl,⟨O,z,(λe=>by cases e),J,?_⟩,λy e=>by cases e;exact N⟩;intro y e U;cases e;refine⟨rfl,zC D,λi x F=>?_⟩;have V:i<l.length:=(List.getElem?_eq_some_iff.1 F).1;have X:=zFq l i x F;rw[zB D,zB D];simp only[be];rw[<-bc,<-bc];have I:∀ j,j<l.length*2->A.toList[j]?=(aflat l)[j]?:=λj Y=>by
   rw[<-R,List.getElem?_take_of_lt Y]
  rw[I _ (by omega),I _ (by omega)];exact X
theorem zHQ (a:a0 a1)(v:q)(l:T (K×K))(w:m)(D:Atts w a v l)(U:l.length<=1000000):
  ag ab 25 #[G a l.length v] w λe w'=>(∃ y z,e=.returned (G y l.length z)/\Atts w' y z l/\∀ A,y=f A->(w:q)<=A.block)/\Fr No w w':=by
 obtain⟨V,X,F,I,J⟩:=info_parts infoA;cases a with
 | none=>
  obtain⟨rfl,rfl⟩:=D.isNil rfl;have Y:=zFf
  go_enter bf,bi
  go_wp2_with fail
  go_ret;exact⟨⟨B,0,rfl,az _,λ_ e=>by cases e⟩,af _ _⟩
 | some A=>
  have Z:Fr No w (w.alloc (P #[] 78)):=(af _ _).alloc _;have N:=D.no Z (λ_=>id);have Y:=zFf
  go_enter bf,bi
  have o:(w.alloc (P #[] 78)).ownsRow (w:q) 78 2 (G (f ⟨w,0,B⟩) 0 0) 0 []:=
   ⟨rfl,.inr ⟨(w:q),0,#[],rfl,aw _,zF _ _,aw _,by unfold ar;omega,rfl,rfl⟩⟩
  go_wp2_with (at_builtin;refine zx rfl _ _ 34 rfl (w:q) 78 V (M #[C av,C av]) 2 32 bp X F I J rfl (by decide) _ 0 [] rfl o (f A) l.length _ (aflat l) rfl (λe=>by cases e) (zBp l) (λO e=>N.src O e) (zBo l) (by unfold ar;omega) (by omega) (by simp) ?_;intro v' w1 u R)
  go_ret;simp only[be,List.nil_append]at u;obtain⟨y,z,hv,h1,h2⟩:=Atts.of_own u D.wf;exact⟨⟨y,z,by rw[<-hv];rfl,h1,h2⟩,((af No w).alloc _).step (zEl o R) (λb U h=>by omega)⟩
theorem zEx (d:Dev)(l:T (K×K))(w:m)(hl:Atts w d.aa d.ac l)(Y:d.an=l.length)(hb:l.length<=1000000):
  ag ab 91 #[M d.vals] w λe w'=>(∃ u y,e=.returned (M ({ d with aa:=u,ac:=y }:Dev).vals)/\Atts w' u y l/\∀ A,u=f A->(w:q)<=A.block)/\Fr No w w':=by
 obtain⟨ix,D,nm,F,I,J,N,O,R,aa,an,ac⟩:=d;dsimp only at Y hl;subst Y;have hx:Fr No w ((w.alloc (P #[E Q ix,E Q D,C nm,C F,C I,C J,C N,E Q O,E Q R,G aa l.length ac] 36)).alloc (P #[E Q 0,E Q 0,C ⟨#[]⟩,C ⟨#[]⟩,C ⟨#[]⟩,C ⟨#[]⟩,C ⟨#[]⟩,E Q 0,E Q 0,G B 0 0] 36)):=((af _ _).alloc _).alloc _;have q0:=zO w (P #[E Q ix,E Q D,C nm,C F,C I,C J,C N,E Q O,E Q R,G aa l.length ac] 36) (P #[E Q 0,E Q 0,C ⟨#[]⟩,C ⟨#[]⟩,C ⟨#[]⟩,C ⟨#[]⟩,C ⟨#[]⟩,E Q 0,E Q 0,G B 0 0] 36);have q1:=zR w (P #[E Q ix,E Q D,C nm,C F,C I,C J,C N,E Q O,E Q R,G aa l.length ac] 36) (P #[E Q 0,E Q 0,C ⟨#[]⟩,C ⟨#[]⟩,C ⟨#[]⟩,C ⟨#[]⟩,C ⟨#[]⟩,E Q 0,E Q 0,G B 0 0] 36);show ag ab 91 #[M #[E Q ix,E Q D,C nm,C F,C I,C J,C N,E Q O,E Q R,G aa l.length ac]] w _
 go_enter Tryz.func91,Tryz.ntmps91
 go_upto_region 1 with(fail)
 have a3:(w:q)+2<=((w.alloc (P #[E Q ix,E Q D,C nm,C F,C I,C J,C N,E Q O,E Q R,G aa l.length ac] 36)).alloc (P #[E Q 0,E Q 0,C ⟨#[]⟩,C ⟨#[]⟩,C ⟨#[]⟩,C ⟨#[]⟩,C ⟨#[]⟩,E Q 0,E Q 0,G B 0 0] 36)).heap.size:=by simp
 generalize (w.alloc (P #[E Q ix,E Q D,C nm,C F,C I,C J,C N,E Q O,E Q R,G aa l.length ac] 36)).alloc (P #[E Q 0,E Q 0,C ⟨#[]⟩,C ⟨#[]⟩,C ⟨#[]⟩,C ⟨#[]⟩,C ⟨#[]⟩,E Q 0,E Q 0,G B 0 0] 36)=W0 at *;have c9:W0.cell? ⟨w,9,B⟩=f (G aa l.length ac):=zB q0 9;have a4:(w:q)<=(W0:q):=hx.size
 go_wp2_with fail
 refine(zHQ aa ac l _ (hl.no hx (λ_=>id)) hb).mono ?_;rintro e Z ⟨⟨u,y,rfl,hA,o⟩,V⟩;have p0:=V.heap q0 id;have p1:=V.heap q1 id;clear c9 q0 q1;have c9:Z.cell? ⟨w,9,B⟩=f (G aa l.length ac):=zB p0 9;have f9:Z.frozen? ⟨w,9,B⟩=false:=zD p0 9
 go_upto_region 2 with(fail)
 have z:Fr (Is (w:q)) Z (Z.setCell ⟨w,9,B⟩ (G u l.length y)):=Fr.setAt (af _ _) _;have r0:=zE p0 9 (G u l.length y);have r1:=z.heap p1 (λe=>by omega);have a2:=hA.fr z (λA e _ h=>by have:=o A e;omega);clear p0 p1 c9 f9;generalize Z.setCell ⟨w,9,B⟩ (G u l.length y)=W1 at *;obtain⟨c0,c1,c2,c3,c4,c5,c6,c7,c8,c9⟩:=cl10 r0;obtain⟨z0,z1,z2,z3,z4,z5,z6,z7,z8,z9⟩:=cl10 r1;obtain⟨y0,y1,y2,y3,y4,y5,y6,y7,y8,y9⟩:=fl10 r1;have X:=zBA r1 rfl ⟨ix,D,nm,F,I,J,N,O,R,u,l.length,y⟩;have U:Hid _:=au (a2.fr X.2 (λA e _ h=>by have:=o A e;omega)) ((((hx.step V zi).step z (λb hb e=>by omega)).step X.2 (λb hb e=>by omega)));clear X a2 hA r0 r1 z
 go_wp2_with fail
 refine al (v:=M #[E Q ix,E Q D,C nm,C F,C I,C J,C N,E Q O,E Q R,G u l.length y]) (by simp[am,Tryz.results91,go_sem,z0,z1,z2,z3,z4,z5,z6,z7,z8,z9]) rfl ?_;exact⟨⟨u,y,rfl,U.out.1,λA e=>by have:=o A e;omega⟩,U.out.2⟩
def FoundD (w w':m)(ds:T Dev)(n:L)(e:Ending):Prop:=
 (look ds n=B/\e=.returned (.tuple #[M Dev.zero.vals,.bool ah]))\/
 ∃ d a' c' l,look ds n=f d/\e=.returned (.tuple #[M ({ d with aa:=a',ac:=c' }:Dev).vals,.bool ai])/\Atts w' a' c' l/\d.an=l.length/\l.length<=24/\∀ ad,a'=f ad->(w:q)<=ad.block
theorem zIk (a:a0 a1)(o:q)(ds:T Dev)(b V:q)(n:L)(w:m)(hl:Tr w V a o ds)(hb:w.cell? ⟨b,0,B⟩=f (E Q n)):
  ag ab 60 #[M #[G a ds.length o],.func (.func 95) #[] #[ap (f ⟨b,0,B⟩)]] w λe w'=>FoundD w w' ds n e/\Fr No w w':=by
 have hx:Fr No w ((w.alloc (P #[G a ds.length o] 47)).alloc (P #[E Q 0,E Q 0,C ⟨#[]⟩,C ⟨#[]⟩,C ⟨#[]⟩,C ⟨#[]⟩,C ⟨#[]⟩,E Q 0,E Q 0,G B 0 0] 36)):=((af _ _).alloc _).alloc _;have q0:=zO w (P #[G a ds.length o] 47) (P #[E Q 0,E Q 0,C ⟨#[]⟩,C ⟨#[]⟩,C ⟨#[]⟩,C ⟨#[]⟩,C ⟨#[]⟩,E Q 0,E Q 0,G B 0 0] 36);have q1:=zR w (P #[G a ds.length o] 47) (P #[E Q 0,E Q 0,C ⟨#[]⟩,C ⟨#[]⟩,C ⟨#[]⟩,C ⟨#[]⟩,C ⟨#[]⟩,E Q 0,E Q 0,G B 0 0] 36);have a6:(w:q)+2<=((w.alloc (P #[G a ds.length o] 47)).alloc (P #[E Q 0,E Q 0,C ⟨#[]⟩,C ⟨#[]⟩,C ⟨#[]⟩,C ⟨#[]⟩,C ⟨#[]⟩,E Q 0,E Q 0,G B 0 0] 36)).heap.size:=by simp
 have hm:=hl.dv.lenmax
 go_enter bg,bj
 go_upto_region 1 with(fail)
 generalize (w.alloc (P #[G a ds.length o] 47)).alloc (P #[E Q 0,E Q 0,C ⟨#[]⟩,C ⟨#[]⟩,C ⟨#[]⟩,C ⟨#[]⟩,C ⟨#[]⟩,E Q 0,E Q 0,G B 0 0] 36)=W0 at *;have t0:W0.cell? ⟨w,0,B⟩=f (G a ds.length o):=zB q0 0
 go_wp2_with fail
 refine(zJB a o ds b n _ (hl.dv.no hx (λ_=>id)) (hx.cell hb id)).mono ?_;rintro e w1 ⟨rfl,J⟩;have p0:=J.heap q0 id;have N:=J.heap q1 id;have F:=hx.step J zi;have X:=hl.no F;have a7:(w:q)+1<(w1:q):=zC N;clear t0 q0 q1;rcases zAq ds n with⟨A,D⟩|⟨k,d,A,D,I⟩
 .rw[D];have O:=zh A;clear A D;obtain⟨z0,z1,z2,z3,z4,z5,z6,z7,z8,z9⟩:=cl10 N;obtain⟨y0,y1,y2,y3,y4,y5,y6,y7,y8,y9⟩:=fl10 N;have z:=zBA N rfl ⟨0,0,⟨#[]⟩,⟨#[]⟩,⟨#[]⟩,⟨#[]⟩,⟨#[]⟩,0,0,B,0,0⟩;have u:=zh (F.step z.2 (λb hb e=>by omega));clear z N F p0
  go_wp2_with fail
  refine al (v:=.tuple #[M Dev.zero.vals,.bool ah]) (by simp[am,ax,go_sem,ae,ao,z0,z1,z2,z3,z4,z5,z6,z7,z8,z9];rfl) rfl ?_;exact⟨.inl ⟨O.out,rfl⟩,u.out⟩
 .rw[D];have O:=zh A;have hk:k<ds.length:=(List.getElem?_eq_some_iff.1 I).1;obtain⟨l,hA,R,a3⟩:=(X.el d (b9 I)).att;obtain⟨bb,a4,d',rfl,hd,c0,c1,c2,c3,c4,c5,c6,c7,c8,c9⟩:=X.dv.dev hk;obtain rfl:d=d':=by rw[I]at hd;exact Option.some.inj hd
  have U:=zh (zEx d l w1 hA R (by omega));have t0:w1.cell? ⟨w,0,B⟩=f (G (f ⟨bb,a4,B⟩) ds.length o):=zB p0 0;have a5:=zh R;clear A D I hd R
  go_wp2_with fail
  refine U.out.mono ?_;rintro e w2 ⟨⟨a',c',rfl,Y,y⟩,Z⟩;have p2:=Z.heap N id;have a2:=F.step Z zi;clear p0 N c0 c1 c2 c3 c4 c5 c6 c7 c8 c9 t0;have a8:(w:q)+1<(w2:q):=zC p2;obtain⟨z0,z1,z2,z3,z4,z5,z6,z7,z8,z9⟩:=cl10 p2;obtain⟨y0,y1,y2,y3,y4,y5,y6,y7,y8,y9⟩:=fl10 p2;have z:=zBA p2 rfl { d with aa:=a',ac:=c' };have u:Hid _:=au (Y.fr z.2 (λad e _ h=>by have:=y ad e;omega)) (a2.step z.2 (λb hb e=>by omega));clear z Y p2 a2;unfold ae
  go_wp2_with fail
  refine al (v:=.tuple #[M ({ d with aa:=a',ac:=c' }:Dev).vals,.bool ai]) (by simp[am,ax,go_sem,ae,z0,z1,z2,z3,z4,z5,z6,z7,z8,z9]) rfl ?_;exact⟨.inr ⟨d,a',c',l,O.out,rfl,u.out.1,a5.out,a3,λad e=>by have:=y ad e;omega⟩,u.out.2⟩
theorem zBd (a:a0 a1)(o:q)(ds:T Dev)(D:q)(n:L)(w:m)(hl:Tr w D a o ds):
  ag ab 46 #[M #[G a ds.length o],E Q n] w λe w'=>FoundD w w' ds n e/\Fr No w w':=by
 have R:Fr No w (((w.alloc (P #[G a ds.length o] 47)).alloc (P #[E Q n] 3)).alloc (P #[E Q 0,E Q 0,C ⟨#[]⟩,C ⟨#[]⟩,C ⟨#[]⟩,C ⟨#[]⟩,C ⟨#[]⟩,E Q 0,E Q 0,G B 0 0] 36)):=(((af _ _).alloc _).alloc _).alloc _;have U:Fr No ((w.alloc (P #[G a ds.length o] 47)).alloc (P #[E Q n] 3)) (((w.alloc (P #[G a ds.length o] 47)).alloc (P #[E Q n] 3)).alloc (P #[E Q 0,E Q 0,C ⟨#[]⟩,C ⟨#[]⟩,C ⟨#[]⟩,C ⟨#[]⟩,C ⟨#[]⟩,E Q 0,E Q 0,G B 0 0] 36)):=(af _ _).alloc _;have q0:=U.heap (zO w (P #[G a ds.length o] 47) (P #[E Q n] 3)) id;have q1:=U.heap (zR w (P #[G a ds.length o] 47) (P #[E Q n] 3)) id;have O:=zF ((w.alloc (P #[G a ds.length o] 47)).alloc (P #[E Q n] 3)) (P #[E Q 0,E Q 0,C ⟨#[]⟩,C ⟨#[]⟩,C ⟨#[]⟩,C ⟨#[]⟩,C ⟨#[]⟩,E Q 0,E Q 0,G B 0 0] 36);rw[ay,ay]at O;clear U
 go_enter Tryz.func46,Tryz.ntmps46
 go_upto_region 1 with(fail)
 generalize ((w.alloc (P #[G a ds.length o] 47)).alloc (P #[E Q n] 3)).alloc (P #[E Q 0,E Q 0,C ⟨#[]⟩,C ⟨#[]⟩,C ⟨#[]⟩,C ⟨#[]⟩,C ⟨#[]⟩,E Q 0,E Q 0,G B 0 0] 36)=W0 at *;have t0:W0.cell? ⟨w,0,B⟩=f (G a ds.length o):=zB q0 0;have t1:W0.cell? ⟨(w:q)+1,0,B⟩=f (E Q n):=zB q1 0;have a2:=R.size;have a3:=zC O
 go_wp2_with fail
 refine(zIk a o ds ((w:q)+1) D n _ (hl.no R) t1).mono ?_;rintro e w2 ⟨hF,I⟩;have F:=I.heap O id;have A:=R.step I zi;have a4:(w:q)+2<(w2:q):=zC F;clear t0 t1 q0 q1 O;obtain⟨z0,z1,z2,z3,z4,z5,z6,z7,z8,z9⟩:=cl10 F;obtain⟨y0,y1,y2,y3,y4,y5,y6,y7,y8,y9⟩:=fl10 F;rcases hF with⟨z,rfl⟩|⟨d,V,X,l,z,rfl,hA,J,Y,N⟩
 .have y:=zBA F rfl ao;have u:=zg2 z (A.step y.2 (λb hb e=>by omega));clear y F A z;unfold ae ao
  go_wp2_with fail
  refine al (v:=.tuple #[M Dev.zero.vals,.bool ah]) (by simp[am,bo,go_sem,ae,ao,z0,z1,z2,z3,z4,z5,z6,z7,z8,z9]) rfl ?_;exact⟨.inl ⟨u.out.1,rfl⟩,u.out.2⟩
 .have y:=zBA F rfl { d with aa:=V,ac:=X };have u:=zg4 z J (hA.fr y.2 (λZ e _ h=>by have:=N Z e;omega)) (A.step y.2 (λb hb e=>by omega));clear y F A z J hA;unfold ae
  go_wp2_with fail
  refine al (v:=.tuple #[M ({ d with aa:=V,ac:=X }:Dev).vals,.bool ai]) (by simp[am,bo,go_sem,ae,z0,z1,z2,z3,z4,z5,z6,z7,z8,z9]) rfl ?_;exact⟨.inr ⟨d,V,X,l,u.out.1,rfl,u.out.2.2.1,u.out.2.1,Y,λZ e=>by have:=N Z e;omega⟩,u.out.2.2.2⟩
def fidx {α:Type}(p:α->ak):T α->L
 | []=>-1
 | x::t=>if p x then 0 else if fidx p t<0 then -1 else fidx p t+1
theorem zHK {α:Type}(p:α->ak):∀ (l:T α) (k:q) (x:α),l[k]?=f x->p x=ai->(∀ y∈l.take k,p y=ah)->fidx p l=k
 | [],k,x,h,_,_=>by simp at h
 | y::t,0,x,h,e,_=>by simp at h;subst h;simp[fidx,e]
 | y::t,k+1,x,h,e,o=>by
  have u:p y=false:=o y (by simp);have v:=zHK p t k x (by simpa using h) e (λz A=>o z (by simp[A]));unfold fidx;rw[u,v];simp;omega
theorem zGX {α:Type}(p:α->ak):∀ l:T α,(∀ y∈l,p y=ah)->fidx p l=-1
 | [],_=>rfl
 | y::t,h=>by
  unfold fidx;rw[h y (by simp),zGX p t (λz o=>h z (by simp[o]))];simp
theorem zAj {α:Type}(p:α->ak):∀ l:T α,(fidx p l=-1/\l.find? p=B/\l.any p=ah)\/∃ (k:q) (x:α),fidx p l=(k:L)/\l[k]?=f x/\l.find? p=f x/\p x=ai/\l.any p=ai
 | []=>.inl ⟨rfl,rfl,rfl⟩
 | x::t=>by
  cases hp:p x
  .rcases zAj p t with⟨h,o,u⟩|⟨k,y,h,o,u,v,z⟩
   .exact .inl ⟨by simp[fidx,hp,h],by simp[b8,hp,o],by simp[hp,u]⟩
   .refine .inr ⟨k+1,y,?_,by simpa using o,by simp[b8,hp,u],v,by simp[hp,z]⟩;have:¬ ((k:L)<0):=by omega
    simp[fidx,hp,h,this]
  .exact .inr ⟨0,x,by simp[fidx,hp],rfl,by simp[b8,hp],hp,by simp[hp]⟩
def Tells (g:q)(cb:Array aj)(p:Dev->ak)(ds:T Dev)(w:m):Prop:=
 ∀ d∈ds,∀ W,Fr No w W->ag ab g (#[M d.vals]++cb) W λe w'=>e=.returned (.bool (p d))/\Fr No W w'
theorem zBk (g:q)(J:Array aj)(eg:∀ args w,(callFunc g args).run ab w=.ok (.enter g args) w)(p:Dev->ak)(a:a0 a1)(A:q)(ds:T Dev)(w:m)(N:Devs w a A ds)(O:Tells g J p ds w):
  ag ab 83 #[G a ds.length A,.func (.func g) #[] J] w λe w'=>e=.returned (E Q (fidx p ds))/\Fr No w w':=by
 have hm:=N.lenmax;have X:=zh O;clear O
 go_enter bh,bm
 go_wp2_with fail
 go_loopw [5,8] (λj i wr=>∃ k:q,k<=ds.length/\i=E Q k/\Hid (∀ x∈ds.take k,p x=ah)/\Fr No w wr) (λ_ i _=>ds.length-(intOf i).toNat)
 case atStart=>exact⟨0,by omega,rfl,by unfold Hid;simp,af _ _⟩
 case round=>
  obtain⟨k,hk,rfl,y,u⟩:=hrel;by_cases D:k<ds.length
  .have R:(k:L)<ds.length:=by omega
   obtain⟨bb,Y,d,rfl,F,c0,c1,c2,c3,c4,c5,c6,c7,c8,c9⟩:=(N.no u (λ_=>id)).dev D;have o:=X.out d (b9 F) wr u;have U:=zh F;clear F;cases hq:p d with
   | true=>
    rw[hq]at o;have I:=zh hq;clear hq
    go_wp2_with (go_at_fn g;refine o.mono ?_;rintro e Z ⟨rfl,z⟩)
    have v:=u.step z zi;go_ret;exact⟨zA7 (zHK p ds k d U.out I.out y.out).symm,v⟩
   | false=>
    rw[hq]at o;have I:=zh hq;clear hq
    go_wp2_with (go_at_fn g;refine o.mono ?_;rintro e Z ⟨rfl,z⟩)
    have v:=u.step z zi
    go_roundw
    case rel=>
     refine⟨k+1,by omega,by go_num,?_,v⟩;unfold Hid;intro x V;rw[bd,U.out]at V;rcases List.mem_append.1 V with h|h
     .exact y.out x h
     .simp at h;subst h;exact I.out
    case measure=>simp[intOf];omega
  .obtain rfl:k=ds.length:=by omega
   have h:=y.out;rw[ba (by omega)]at h;have H:=zh (zGX p ds h);clear h
   go_wp2_with fail
   go_ret;exact⟨zA7 H.out.symm,u⟩
theorem zN4 (g:q)(u:Array aj)(D:∀ args w,(callFunc g args).run ab w=.ok (.enter g args) w)(p:Dev->ak)(a:a0 a1)(o:q)(ds:T Dev)(w:m)(F:Devs w a o ds)(I:Tells g u p ds w):
  ag ab 145 #[G a ds.length o,.func (.func g) #[] u] w λe w'=>e=.returned (.bool (ds.any p))/\Fr No w w':=by
 have h:=zBk g u D p a o ds w F I;have A:decide (0<=fidx p ds)=ds.any p:=by
  rcases zAj p ds with⟨v,_,y⟩|⟨k,x,v,_,_,_,y⟩
  .rw[v,y];rfl
  .rw[v,y];simp
 have J:=zh A;clear A
 go_enter Tryz.func145,Tryz.ntmps145
 go_wp2_with fail
 refine h.mono ?_;rintro e N ⟨rfl,z⟩
 go_wp2_with fail
 go_ret;exact⟨zN J.out,z⟩
def FoundP (w w':m)(ds:T Dev)(p:Dev->ak)(e:Ending):Prop:=
 (ds.find? p=B/\e=.returned (.tuple #[M Dev.zero.vals,.bool ah]))\/
 ∃ d a' c' l,ds.find? p=f d/\e=.returned (.tuple #[M ({ d with aa:=a',ac:=c' }:Dev).vals,.bool ai])/\Atts w' a' c' l/\Atts w d.aa d.ac l/\d.an=l.length/\l.length<=24/\∀ ad,a'=f ad->(w:q)<=ad.block
theorem Atts.det {c I:q}{l':T (K×K)}(h:Atts w a c l)(J:Atts w a I l')(u:l.length=l'.length):l=l':=by
 by_cases o:l=[]
 .subst o;exact(b7 u.symm).symm
 .have v:l'≠[]:=λe=>by subst e;exact o (b7 u)
  cases a with
  | none=>exact absurd (h.isNil rfl).1 o
  | some y=>
   obtain⟨_,_,N⟩:=h.cell y rfl o;obtain⟨_,_,O⟩:=J.cell y rfl v;refine List.ext_getElem u λi R U=>?_
   have z:=N i l[i] (aq R);have A:=O i l'[i] (aq U);have D:=z.1.symm.trans A.1;have F:=z.2.symm.trans A.2;simp only[Option.some.injEq,Value.string.injEq]at D F;exact Prod.ext D F
theorem zFz (g:q)(cb:Array aj)(eg:∀ args w,(callFunc g args).run ab w=.ok (.enter g args) w)(p:Dev->ak)(a:a0 a1)(y:q)(ds:T Dev)(Y:q)(w:m)(hl:Tr w Y a y ds)(hp:Tells g cb p ds w):
  ag ab 60 #[M #[G a ds.length y],.func (.func g) #[] cb] w λe w'=>FoundP w w' ds p e/\Fr No w w':=by
 obtain⟨W0,Z,hx,q0,q1⟩:=zw w (P #[G a ds.length y] 47) (P #[E Q 0,E Q 0,C ⟨#[]⟩,C ⟨#[]⟩,C ⟨#[]⟩,C ⟨#[]⟩,C ⟨#[]⟩,E Q 0,E Q 0,G B 0 0] 36);have hm:=hl.dv.lenmax;have J:=zBk g cb eg p a y ds W0 (hl.dv.no hx (λ_=>id)) (λd hd W hf=>hp d hd W (hx.step hf zi));clear hp
 go_enter bg,bj
 go_upto_region 1 with(fail)
 rw[<-Z];clear Z;have t0:W0.cell? ⟨w,0,B⟩=f (G a ds.length y):=zB q0 0
 go_wp2_with fail
 refine J.mono ?_;rintro e w1 ⟨rfl,N⟩;clear J;have p0:=N.heap q0 id;have O:=N.heap q1 id;have A:=hx.step N zi;have a5:=hl.no A;have b0:(w:q)+1<(w1:q):=zC O;clear t0 q0 q1;rcases zAj p ds with⟨D,F,-⟩|⟨k,d,D,I,F,-,-⟩
 .rw[D];have R:=zh F;clear F D;obtain⟨z0,z1,z2,z3,z4,z5,z6,z7,z8,z9⟩:=DevB.of (d:=⟨0,0,⟨#[]⟩,⟨#[]⟩,⟨#[]⟩,⟨#[]⟩,⟨#[]⟩,0,0,B,0,0⟩) O;obtain⟨y0,y1,y2,y3,y4,y5,y6,y7,y8,y9⟩:=DevF.of O;have z:=zBA O rfl ⟨0,0,⟨#[]⟩,⟨#[]⟩,⟨#[]⟩,⟨#[]⟩,⟨#[]⟩,0,0,B,0,0⟩;have o:=zh (A.step z.2 (λb hb e=>by omega));clear z O A p0
  go_wp2_with fail
  refine al (v:=.tuple #[M Dev.zero.vals,.bool ah]) (by simp[am,ax,go_sem,ae,ao,z0,z1,z2,z3,z4,z5,z6,z7,z8,z9];rfl) rfl ?_;exact⟨.inl ⟨R.out,rfl⟩,o.out⟩
 .rw[D];have R:=zh F;have hk:k<ds.length:=(List.getElem?_eq_some_iff.1 I).1;obtain⟨l,U,V,a6⟩:=(hl.el d (b9 I)).att;have hA:=U.no A (λ_=>id);have a7:=zh U;clear U;obtain⟨bb,a8,d',rfl,hd,c0,c1,c2,c3,c4,c5,c6,c7,c8,c9⟩:=a5.dv.dev hk;obtain rfl:d=d':=by rw[I]at hd;exact Option.some.inj hd
  have X:=zh (zEx d l w1 hA V (by omega));have t0:w1.cell? ⟨w,0,B⟩=f (G (f ⟨bb,a8,B⟩) ds.length y):=zB p0 0;have a9:=zh V;clear F D I hd V
  go_wp2_with fail
  refine X.out.mono ?_;rintro e w2 ⟨⟨a',c',rfl,a2,u⟩,a3⟩;have p2:=a3.heap O id;have a4:=A.step a3 zi;clear p0 O c0 c1 c2 c3 c4 c5 c6 c7 c8 c9 t0;have b1:(w:q)+1<(w2:q):=zC p2;obtain⟨z0,z1,z2,z3,z4,z5,z6,z7,z8,z9⟩:=DevB.of (d:=⟨0,0,⟨#[]⟩,⟨#[]⟩,⟨#[]⟩,⟨#[]⟩,⟨#[]⟩,0,0,B,0,0⟩) p2;obtain⟨y0,y1,y2,y3,y4,y5,y6,y7,y8,y9⟩:=DevF.of p2;have z:=zBA p2 rfl { d with aa:=a',ac:=c' };have o:Hid _:=au (a2.fr z.2 (λad e _ h=>by have:=u ad e;omega)) (a4.step z.2 (λb hb e=>by omega));clear z a2 p2 a4;unfold ae
  go_wp2_with fail
  refine al (v:=.tuple #[M ({ d with aa:=a',ac:=c' }:Dev).vals,.bool ai]) (by simp[am,ax,go_sem,ae,z0,z1,z2,z3,z4,z5,z6,z7,z8,z9]) rfl ?_;exact⟨.inr ⟨d,a',c',l,R.out,rfl,o.out.1,a7.out,a9.out,a6,λad e=>by have:=u ad e;omega⟩,o.out.2⟩
def plc (ds:T Dev)(n:L):K:=((look ds n).map λ_=>pathOf (origin ds n)).getD ⟨#[]⟩
def atP (ds:T Dev)(s:K)(d:Dev):Bool:=(plc ds d.index).toList==s.toList
theorem zC0 {ds:T Dev}(h:TreeOk ds)(n:L):(ogs ds n).getD ⟨#[]⟩=plc ds n:=by
 have:=zHy h ds.length (aw _) n;rw[ba (aw _)]at this;rw[this];rfl
theorem zPT (d:Dev)(ds:T Dev)(a:a0 a1)(u O v A D:q)(s:K)(w:m)(F:TreeOk ds)(R:d∈ds)(I:w.heap[A]?=f (P #[G a ds.length u,.map (f O),.map (f v)] 126))(J:SMap w v (ogs ds) ds.length)(N:w.cell? ⟨D,0,B⟩=f (C s)):
  ag ab 61 #[M d.vals,ap (f ⟨A,0,B⟩),ap (f ⟨D,0,B⟩)] w λe w'=>e=.returned (.bool (atP ds s d))/\Fr No w w':=by
 have o:Fr No w (w.alloc (P d.vals 36)):=(af _ _).alloc _;have U:=o.cell N id;have h:=o.heap I id;have X:=zB h 2;have y:=J.fr o id;have z:=F.iwf R;have V:=zh (zC0 F d.index);clear N I J h;unfold ae at *
 go_enter Tryz.func61,Tryz.ntmps61
 go_wp2_with (at_lookup;refine zGo rfl _ _ 124 rfl rfl v _ _ d.index z rfl y rfl ?_)
 go_ret;exact⟨by unfold atP;rw[<-V.out];rfl,o⟩
theorem zDd (a:a0 a1)(o:q)(ds:T Dev)(R:q)(s:K)(w:m)(hl:Tr w R a o ds)(hn:ds.length<=1000):
  ag ab 23 #[M #[G a ds.length o],C s] w λe w'=>FoundP w w' ds (atP ds s) e/\Fr No w w':=by
 have hT:=hl.wf.ok;obtain⟨U,F⟩:∃ U,U=((w.alloc (P #[G a ds.length o] 47)).alloc (P #[C s] 9)).alloc (P #[E Q 0,E Q 0,C ⟨#[]⟩,C ⟨#[]⟩,C ⟨#[]⟩,C ⟨#[]⟩,C ⟨#[]⟩,E Q 0,E Q 0,G B 0 0] 36):=⟨_,rfl⟩
 have fx:Fr No ((w.alloc (P #[G a ds.length o] 47)).alloc (P #[C s] 9)) U:=by rw[F];exact(af _ _).alloc _
 have hx:Fr No w U:=by rw[F];exact(((af _ _).alloc _).alloc _).alloc _
 have q0:=fx.heap (zO w (P #[G a ds.length o] 47) (P #[C s] 9)) id;have q1:=fx.heap (zR w (P #[G a ds.length o] 47) (P #[C s] 9)) id;have q2:U.heap[(w:q)+1+1]?=f (P #[E Q 0,E Q 0,C ⟨#[]⟩,C ⟨#[]⟩,C ⟨#[]⟩,C ⟨#[]⟩,C ⟨#[]⟩,E Q 0,E Q 0,G B 0 0] 36):=by
  have:=zF ((w.alloc (P #[G a ds.length o] 47)).alloc (P #[C s] 9)) (P #[E Q 0,E Q 0,C ⟨#[]⟩,C ⟨#[]⟩,C ⟨#[]⟩,C ⟨#[]⟩,C ⟨#[]⟩,E Q 0,E Q 0,G B 0 0] 36);rw[ay,ay]at this;rw[F];exact this
 clear fx;have t0:U.cell? ⟨w,0,B⟩=f (G a ds.length o):=zB q0 0;have I:=zCO a o ds U (hl.dv.no hx (λ_=>id)) hT hn;have a8:=zC q2
 go_enter Tryz.func23,Tryz.ntmps23
 go_upto_region 1 with(fail)
 rw[<-F];clear F
 go_wp2_with fail
 refine I.mono ?_;rintro e w1 ⟨⟨m1,m2,rfl,a9,b0,b2,hI,hS⟩,J⟩;clear I hI;have a5:=hx.step J zi;obtain⟨W1,X,z,b1⟩:=zy w1 (P #[G a ds.length o,.map (f m1),.map (f m2)] 126);have p0:=z.heap (J.heap q0 id) id;have p1:=z.heap (J.heap q1 id) id;have p2:=z.heap (J.heap q2 id) id;have a6:=hS.fr z id;have N:=a5.step z zi;have b3:=J.size;clear q0 q1 q2 t0;have t0:W1.cell? ⟨w,0,B⟩=f (G a ds.length o):=zB p0 0;have t1:W1.cell? ⟨(w:q)+1,0,B⟩=f (C s):=zB p1 0;have y:=zFz 61 #[ap (f ⟨w1,0,B⟩),ap (f ⟨(w:q)+1,0,B⟩)] (λ_ _=>rfl) (atP ds s) a o ds R W1 (hl.no N) (λd hd W hf=>zPT d ds a o m1 m2 _ _ s W hT hd (hf.heap b1 id) (a6.fr hf id) (hf.cell t1 id))
 go_upto_region 2 with(fail)
 rw[<-X];clear X
 go_wp2_with fail
 refine y.mono ?_;rintro e w2 ⟨hF,Y⟩;clear y;have V:=Y.heap p2 id;have O:=N.step Y zi;have b4:(w:q)+1+1<(w2:q):=zC V;clear t0 t1 p0 p1 p2;obtain⟨z0,z1,z2,z3,z4,z5,z6,z7,z8,z9⟩:=DevB.of (d:=⟨0,0,⟨#[]⟩,⟨#[]⟩,⟨#[]⟩,⟨#[]⟩,⟨#[]⟩,0,0,B,0,0⟩) V;obtain⟨y0,y1,y2,y3,y4,y5,y6,y7,y8,y9⟩:=DevF.of V;have b5:=N.size;have b6:=z.size;rcases hF with⟨A,rfl⟩|⟨d,a',c',l,A,rfl,hA,Z,a2,a7,a3⟩
 .have D:=zBA V rfl ao;have u:=zg2 A (O.step D.2 (λb hb e=>by omega));clear D V O A;unfold ae ao
  go_wp2_with fail
  refine al (v:=.tuple #[M Dev.zero.vals,.bool ah]) (by simp[am,bn,go_sem,ae,ao,z0,z1,z2,z3,z4,z5,z6,z7,z8,z9]) rfl ?_;exact⟨.inl ⟨u.out.1,rfl⟩,u.out.2⟩
 .have D:=zBA V rfl { d with aa:=a',ac:=c' };have a4:Atts w d.aa d.ac l:=by
   obtain⟨l0,g1,g2,_⟩:=(hl.el d (List.mem_of_find?_eq_some A)).att;have e:l0=l:=(g1.no N (λ_=>id)).det Z (by omega);rw[<-e];exact g1
  have u:=zg4 A a2 (au (hA.fr D.2 (λad e _ h=>by have:=a3 ad e;omega)) a4) (O.step D.2 (λb hb e=>by omega));clear D V O A a2 hA Z a4;unfold ae
  go_wp2_with fail
  refine al (v:=.tuple #[M ({ d with aa:=a',ac:=c' }:Dev).vals,.bool ai]) (by simp[am,bn,go_sem,ae,z0,z1,z2,z3,z4,z5,z6,z7,z8,z9]) rfl ?_;exact⟨.inr ⟨d,a',c',l,u.out.1,rfl,u.out.2.2.1.1,u.out.2.2.1.2,u.out.2.1,a7,λad e=>by have:=a3 ad e;omega⟩,u.out.2.2.2⟩
structure Rec where
 path:K
 index:L
 props:T (K×K)
 tags:T K
 pa:a0 a1
 pc:q
 ta:a0 a1
 tc:q
 la:a0 a1
 ln:q
 lc:q
 ra:a0 a1
 rn:q
 rc:q
 oa:a0 a1
 on:q
 oc:q
 name:K
 prio:L
 owner:K
 group:K
 mode:L
def Rec.cell (r:Rec):q->aj
 | 0=>C r.path
 | 1=>E Q r.index
 | 2=>G r.pa r.props.length r.pc
 | 3=>G r.ta r.tags.length r.tc
 | 4=>G r.la r.ln r.lc
 | 5=>G r.ra r.rn r.rc
 | 6=>G r.oa r.on r.oc
 | 7=>C r.name
 | 8=>E Q r.prio
 | 9=>C r.owner
 | 10=>C r.group
 | _=>E Q r.mode
def Rec.vals (r:Rec):Array aj:=#[C r.path,E Q r.index,G r.pa r.props.length r.pc,G r.ta r.tags.length r.tc,G r.la r.ln r.lc,G r.ra r.rn r.rc,G r.oa r.on r.oc,C r.name,E Q r.prio,C r.owner,C r.group,E Q r.mode]
def Rec.zero : Rec:=⟨⟨#[]⟩,0,[],[],B,0,B,0,B,0,0,B,0,0,B,0,0,⟨#[]⟩,0,⟨#[]⟩,⟨#[]⟩,0⟩
structure RecOk (w:m)(r:Rec):Prop where
 props:Atts w r.pa r.pc r.props
 tags:Strs w r.ta r.tc r.tags
theorem RecOk.no {r:Rec}(h:RecOk w r)(o:Fr S w w')(u:∀ k,¬ S k):RecOk w' r:=⟨h.props.no o u,h.tags.no o u⟩
theorem RecOk.zero (w:m):RecOk w Rec.zero:=⟨az w,Strs.nil w⟩
structure Recs (w:m)(a:a0 a1)(cap:q)(l:T Rec):Prop where
 len:l.length<=cap
 max:cap<=ar
 isNil:a=B->l=[]/\cap=0
 ok:∀ r∈l,RecOk w r
 cell:∀ ad,a=f ad->l≠[]->ad.spot=B/\ad.block<(w:q)/\∀ i r,l[i]?=f r->∀ j,j<12->w.cell? ⟨ad.block,ad.off+(i*12+j),B⟩=f (r.cell j)
structure RecAt (w:m)(b o:q)(r:Rec):Prop where
 c0:w.cell? ⟨b,o,B⟩=f (C r.path)
 c1:w.cell? ⟨b,o+1,B⟩=f (E Q r.index)
 c2:w.cell? ⟨b,o+2,B⟩=f (G r.pa r.props.length r.pc)
 c3:w.cell? ⟨b,o+3,B⟩=f (G r.ta r.tags.length r.tc)
 c4:w.cell? ⟨b,o+4,B⟩=f (G r.la r.ln r.lc)
 c5:w.cell? ⟨b,o+5,B⟩=f (G r.ra r.rn r.rc)
 c6:w.cell? ⟨b,o+6,B⟩=f (G r.oa r.on r.oc)
 c7:w.cell? ⟨b,o+7,B⟩=f (C r.name)
 c8:w.cell? ⟨b,o+8,B⟩=f (E Q r.prio)
 c9:w.cell? ⟨b,o+9,B⟩=f (C r.owner)
 c10:w.cell? ⟨b,o+10,B⟩=f (C r.group)
 c11:w.cell? ⟨b,o+11,B⟩=f (E Q r.mode)
theorem Recs.elem {l:T Rec}(h:Recs w a y l){k:q}(v:k<l.length):
  ∃ b u r,a=f ⟨b,u,B⟩/\l[k]?=f r/\RecOk w r/\RecAt w b (u+k*12) r:=by
 cases a with
 | none=>obtain⟨rfl,_⟩:=h.isNil rfl;simp at v
 | some A=>
  obtain⟨b,u,F⟩:=A;obtain⟨z,I,D⟩:=h.cell _ rfl (by intro e;subst e;simp at v);simp at z;subst z;have o:=D k _ (aq v);exact⟨b,u,l[k],rfl,aq v,h.ok _ (List.getElem_mem v),⟨o 0 (by omega),o 1 (by omega),o 2 (by omega),o 3 (by omega),o 4 (by omega),o 5 (by omega),o 6 (by omega),o 7 (by omega),o 8 (by omega),o 9 (by omega),o 10 (by omega),o 11 (by omega)⟩⟩
theorem Recs.lenmax {l:T Rec}(h:Recs w a o l):l.length<=9223372036854775807:=by
 have v:=h.len;have u:=h.max;unfold ar at u;omega
theorem Recs.no {l:T Rec}(h:Recs w a o l)(u:Fr S w w')(y:∀ k,¬ S k):Recs w' a o l:=
 ⟨h.len,h.max,h.isNil,λr z=>(h.ok r z).no u y,λA e v=>by
  obtain⟨D,F,I⟩:=h.cell A e v;exact⟨D,Nat.lt_of_lt_of_le F u.size,λi r J j N=>u.cell (I i r J j N) (y _)⟩⟩
theorem Recs.nil (w:m):Recs w B 0 []:=⟨by simp,by simp,λ_=>⟨rfl,rfl⟩,by simp,λ_ e _=>by cases e⟩
def Rec.is (n:L)(p:K)(r:Rec):Bool:=decide (r.index=n)&&(r.path.toList==p.toList)
def rplace : T Rec->L->K->L
 | [],_,_=>-1
 | r::t,n,p=>if r.is n p then 0 else if rplace t n p<0 then -1 else rplace t n p+1
theorem zDm : ∀ (l:T Rec) (n:L) (p:K),(l.find? (Rec.is n p)=B/\rplace l n p=-1)\/∃ (k:q) (r:Rec),l.find? (Rec.is n p)=f r/\rplace l n p=(k:L)/\l[k]?=f r
 | [],n,p=>.inl ⟨rfl,rfl⟩
 | r::t,n,p=>by
  unfold rplace;rw[List.find?_cons];cases hr:r.is n p with
  | true=>exact .inr ⟨0,r,rfl,rfl,rfl⟩
  | false=>
   rcases zDm t n p with⟨h,o⟩|⟨k,x,h,o,u⟩
   .left;refine⟨h,?_⟩;simp[o]
   .right;refine⟨k+1,x,h,?_,by simpa using u⟩;rw[o,if_neg (by simp),if_neg (by omega)];rfl
theorem zDk : ∀ (l:T Rec) (n:L) (p:K) (k:q) (r:Rec),l[k]?=f r->r.is n p=ai->(∀ x∈l.take k,x.is n p=ah)->rplace l n p=k
 | [],n,p,k,r,h,_,_=>by simp at h
 | x::t,n,p,0,r,h,e,_=>by simp at h;subst h;simp[rplace,e]
 | x::t,n,p,k+1,r,h,e,o=>by
  have u:x.is n p=false:=o x (by simp);have v:=zDk t n p k r (by simpa using h) e (λy z=>o y (by simp[z]));unfold rplace;rw[u,v];simp;omega
theorem zDl : ∀ (l:T Rec) (n:L) (p:K),(∀ x∈l,x.is n p=ah)->rplace l n p=-1
 | [],n,p,_=>rfl
 | x::t,n,p,h=>by
  unfold rplace;rw[h x (by simp),zDl t n p (λy o=>h y (by simp[o]))];simp
end Go.Proofs.YtckkocmhlhefpaaGreatDoor
