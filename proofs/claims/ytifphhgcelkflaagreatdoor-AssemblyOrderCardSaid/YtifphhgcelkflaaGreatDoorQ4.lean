import Derived.Test.YtifphhgcelkflaaGreatDoorQ3
import Derived.Shelf.Spec.SlicesInsert
import Derived.Lib.AppendZerosOnto
import Derived.Laws.CopyOwn
namespace Go.Proofs.YtifphhgcelkflaaGreatDoor
open Go.RowKit Go.Maps
set_option linter.unusedVariables false
set_option maxRecDepth 100000
set_option maxHeartbeats 4000000
open Dev renaming vals->bg
open Fr renaming refl->ap,setAt->ci,of_grown->db
open Go renaming World->ab,splice->ao,Act->aq,Addr->au,Value->aw,Calls->ax,Oper->bc,maxLen->bd,Program->bu,TypeId->cf,setRow_heap->cg,wpList->ch,bodyPost_ret->cn,info_parts->co,length_splice->cx,results->cy,ready_mono->dn,setRow_other->dp,wpOp_mono->dq,wpList_store_row->fd
open Go.Addr renaming add_lit->bx
open Go.Builtin renaming copy_->ca,zeroCells->da,firstCells->du
open Go.Code renaming region->dw
open Go.Extern.SlicesOverlaps renaming overlaps->fe
open Go.Instr renaming lookup->dd
open Go.Lit renaming int->cj
open Go.Oper renaming quietAt->er
open Go.Proofs renaming intOf->bt,wpList_copy_runI->cz
open Go.Proofs.Tryz renaming prog->am,underlying51->br,zeroCells147->bw,func93->dl,ntmps93->dm,func195->ey,func33->ez,ntmps195->f1,ntmps33->f4,results43->f5,underlying147->f7,underlying3->fa,underlying9->fb
open Go.Region renaming ready->bj,binds->cd,noSelect->dk,Mode->et,free_spec->eu,noSelect_spec->ew,wanted->ex
open Go.RowKit renaming Hid->ai
open Go.Value renaming slice->bf
open Go.World renaming size_alloc->cw,shape?->fc
open IntKind renaming i64->G
open Obj renaming cells->ae
open OnlyN renaming mk->cl
open Value renaming int->R,string->a0,slice->a1,agg->ay,pointer->be
open _root_ renaming Nat->E,Int->ah,List->aj,ByteArray->ak,Option->ar,Array->az,Bool->bh,beq_iff_eq->cm
open _root_.Array renaming length_toList->bz,getElem?_toList->dr,replicate->dt
open _root_.Bool renaming false->af,true->ag,and_eq_true->bi
open _root_.ByteArray renaming empty->ba
open _root_.List renaming length_take->bm,mem_of_getElem?->bn,take_of_length_le->bo,length_append->cc,append_assoc->cp,getElem?_toArray->cq,size_toArray->cr,getElem?_drop->de,getElem?_take_of_lt->df,length_drop->dg,take_add_one->dh,take_append_of_le_length->di,take_take->dj,all_append->dx,all_eq_false->dy,getElem?_append_left->dz,getElem?_append_right->ea,getElem?_cons_succ->ed,mem_of_mem_drop->ee,nil_append->ef,take_append->eg,take_left'->eh
open _root_.Nat renaming le_refl->bq,lt_of_lt_of_le->ck,min_def->ct,min_eq_left->cu,add_mul->ei,le_trans->ej,one_mul->ek,sub_mul->em,zero_add->ep
open _root_.Option renaming some->C,none->B
variable{w w' y:ab}{u ds:aj Dev}{o z base' n b i k:E}{d:Dev}{S T:E->Prop}{v:aw}{A L cs:aj aw}{a:aq}{Q:Exit->aq->ab->Prop}{e:cf}{l:aj (ak×ak)}
theorem zDS (a:ar au)(y:E)(l:aj (ak×ak))(w:ab)(F:Atts w a y l)(X:l.length<=1000000):
  ax am 33 #[a1 a l.length y] w λe w'=>(∃ v z,e=.returned (a1 v l.length z)/\Atts w' v z l/\BlkT w' v 68/\∀ A,v=C A->(w:E)<=A.block)/\Fr No w w':=by
 obtain⟨Y,Z,I,J,N⟩:=co infoA;cases a with
 | none=>
  obtain⟨rfl,rfl⟩:=F.isNil rfl;have hq:=zFx;go_enter ez,f4;go_wp2;go_ret;exact⟨⟨B,0,rfl,Atts.nil _,BlkT.none _ _,λ_ e=>by cases e⟩,ap _ _⟩
 | some A=>
  have hx:Fr No w (w.alloc (ae #[] 68)):=(ap _ _).alloc _;have O:=F.no hx (λ_=>id);have hq:=zFx;go_enter ez,f4;have u:(w.alloc (ae #[] 68)).ownsRow (w:E) 68 2 (a1 (C ⟨w,0,B⟩) 0 0) 0 []:=
   ⟨rfl,.inr ⟨(w:E),0,#[],rfl,bq _,zF _ _,bq _,by unfold bd;omega,rfl,rfl⟩⟩
  go_wp2_with (at_builtin;refine zx rfl _ _ 38 rfl (w:E) 68 Y (ay #[a0 ba,a0 ba]) 2 32 Tryz.underlying38 Z I J N rfl (by decide) _ 0 [] rfl u (C A) l.length _ (aflat l) rfl (λe=>by cases e) (zBu l) (λU e=>O.src U e) (zBt l) (by unfold bd;omega) (by omega) (by simp) ?_;intro v' w1 o V)
  go_ret;simp only[ep,ef]at o;obtain⟨v,z,hv,h1,h2⟩:=Atts.of_own o F.wf;subst hv;exact⟨⟨v,z,rfl,h1,zAP o,h2⟩,((ap No w).alloc _).step (zE3 u V) (λb X h=>by omega)⟩
theorem zBf (d:Dev)(l:aj (ak×ak))(w:ab)(hl:Atts w d.aa d.ac l)(a3:d.an=l.length)(hb:l.length<=1000000):
  ax am 95 #[ay d.vals] w λe w'=>(∃ y F,e=.returned (ay ({ d with aa:=y,ac:=F }:Dev).vals)/\Atts w' y F l/\BlkT w' y 68/\∀ u,y=C u->(w:E)<=u.block)/\Fr No w w':=by
 obtain⟨J,N,nm,O,U,V,X,Y,Z,aa,an,ac⟩:=d;dsimp only at a3 hl;subst a3;have hx:Fr No w ((w.alloc (ae #[R G J,R G N,a0 nm,a0 O,a0 U,a0 V,a0 X,R G Y,R G Z,a1 aa l.length ac] 40)).alloc (ae #[R G 0,R G 0,a0 (),a0 (),a0 (),a0 (),a0 (),R G 0,R G 0,a1 B 0 0] 40)):=((ap _ _).alloc _).alloc _;have q0:=zP w (ae #[R G J,R G N,a0 nm,a0 O,a0 U,a0 V,a0 X,R G Y,R G Z,a1 aa l.length ac] 40) (ae #[R G 0,R G 0,a0 (),a0 (),a0 (),a0 (),a0 (),R G 0,R G 0,a1 B 0 0] 40);have q1:=zS w (ae #[R G J,R G N,a0 nm,a0 O,a0 U,a0 V,a0 X,R G Y,R G Z,a1 aa l.length ac] 40) (ae #[R G 0,R G 0,a0 (),a0 (),a0 (),a0 (),a0 (),R G 0,R G 0,a1 B 0 0] 40);show ax am 95 #[ay #[R G J,R G N,a0 nm,a0 O,a0 U,a0 V,a0 X,R G Y,R G Z,a1 aa l.length ac]] w _
 go_enter Tryz.func95,Tryz.ntmps95;go_upto_region 1 with(fail)
 have a6:(w:E)+2<=((w.alloc (ae #[R G J,R G N,a0 nm,a0 O,a0 U,a0 V,a0 X,R G Y,R G Z,a1 aa l.length ac] 40)).alloc (ae #[R G 0,R G 0,a0 (),a0 (),a0 (),a0 (),a0 (),R G 0,R G 0,a1 B 0 0] 40)).heap.size:=by simp
 generalize (w.alloc (ae #[R G J,R G N,a0 nm,a0 O,a0 U,a0 V,a0 X,R G Y,R G Z,a1 aa l.length ac] 40)).alloc (ae #[R G 0,R G 0,a0 (),a0 (),a0 (),a0 (),a0 (),R G 0,R G 0,a1 B 0 0] 40)=W0 at *;have c9:W0.cell? ⟨w,9,B⟩=C (a1 aa l.length ac):=zB q0 9;have a7:(w:E)<=(W0:E):=hx.size;go_wp2_with fail;apply (zDS aa ac l _ (hl.no hx (λ_=>id)) hb).mono;rintro e w1 ⟨⟨y,F,rfl,hA,hB,o⟩,a2⟩;have p0:=a2.heap q0 id;have p1:=a2.heap q1 id;clear c9 q0 q1;have c9:w1.cell? ⟨w,9,B⟩=C (a1 aa l.length ac):=zB p0 9;have f9:w1.frozen? ⟨w,9,B⟩=false:=zD p0 9;go_upto_region 2 with(fail)
 have z:Fr (Is (w:E)) w1 (w1.setCell ⟨w,9,B⟩ (a1 y l.length F)):=ci (ap _ _) _;have r0:=zE p0 9 (a1 y l.length F);have r1:=z.heap p1 (λe=>by omega);have a4:=hA.fr z (λu e _ h=>by have:=o u e;omega);have a5:=hB.fr z (λu e h=>by have:=o u e;omega);clear p0 p1 c9 f9;generalize w1.setCell ⟨w,9,B⟩ (a1 y l.length F)=W1 at *;obtain⟨c0,c1,c2,c3,c4,c5,c6,c7,c8,c9⟩:=cl10 r0;obtain⟨z0,z1,z2,z3,z4,z5,z6,z7,z8,z9⟩:=cl10 r1;obtain⟨y0,y1,y2,y3,y4,y5,y6,y7,y8,y9⟩:=fl10 r1;have I:=zBG r1 rfl ⟨J,N,nm,O,U,V,X,Y,Z,y,l.length,F⟩;have A:ai _:=And.intro (And.intro (a4.fr I.2 (λu e _ h=>by have:=o u e;omega)) (a5.fr I.2 (λu e h=>by have:=o u e;omega))) ((((hx.step a2 zi).step z (λb hb e=>by omega)).step I.2 (λb hb e=>by omega)));clear I a4 hA hB a5 r0 r1 z;go_wp2_with fail;refine cn (v:=ay #[R G J,R G N,a0 nm,a0 O,a0 U,a0 V,a0 X,R G Y,R G Z,a1 y l.length F]) (by simp[cy,Tryz.results95,go_sem,z0,z1,z2,z3,z4,z5,z6,z7,z8,z9]) rfl ?_;exact⟨⟨y,F,rfl,A.1.1,A.1.2,λu e=>by have:=o u e;omega⟩,A.2⟩
structure Cop1 (w w':ab)(base:E)(d d':Dev):Prop where
 eq:d'={ d with aa:=d'.aa,ac:=d'.ac }
 att:∃ l,Atts w d.aa d.ac l/\Atts w' d'.aa d'.ac l/\d.an=l.length/\l.length<=24
 typ:BlkT w' d'.aa 68
 fresh:∀ ad,d'.aa=C ad->base<=ad.block
structure Cop (w w':ab)(base:E)(ds ds':aj Dev):Prop where
 len:ds'.length=ds.length
 el:∀ (i:E) (d d':Dev),ds[i]?=C d->ds'[i]?=C d'->Cop1 w w' base d d'
theorem Cop1.fr {u:ab}{y:Dev}(h:Cop1 w w' o d y)(z:Fr S w' u)(A:∀ v,y.aa=C v->¬ S v.block):Cop1 w u o d y:=by
 obtain⟨l,F,I,J⟩:=h.att;exact⟨h.eq,⟨l,F,I.fr z (λv e _=>A v e),J⟩,h.typ.fr z A,h.fresh⟩
theorem Cop.fr {v:ab}(h:Cop w w' o ds u)(F:Fr S w' v)(I:∀ d∈u,∀ y,d.aa=C y->¬ S y.block):Cop w v o ds u:=
 ⟨h.len,λi d z J A=>(h.el i d z J A).fr F (I z (bn A))⟩
theorem Cop.nil (w w':ab)(o:E):Cop w w' o [] []:=⟨rfl,λi d u h=>by simp at h⟩
theorem Cop.snoc {z:Dev}(h:Cop w w' o ds u)(F:Cop1 w w' o d z):Cop w w' o (ds++[d]) (u++[z]):=by
 have A:=h.len;refine⟨by simp[A],λi x I e v=>?_⟩;by_cases J:i<ds.length
 .rw[dz J]at e;rw[dz (by omega)]at v;exact h.el i x I e v
 .have y:i=ds.length:=by
   have:=(List.getElem?_eq_some_iff.1 e).1;simp at this;omega
  subst y;rw[ea (bq _)]at e;rw[ea (by omega),A]at v;simp at e v;subst e;subst v;exact F
theorem Cop.mem (h:Cop w w' o ds u){v:Dev}(A:v∈u):∃ d∈ds,Cop1 w w' o d v:=by
 obtain⟨i,y⟩:=List.getElem?_of_mem A;have z:i<ds.length:=by have:=(List.getElem?_eq_some_iff.1 y).1;have:=h.len;omega
 exact⟨ds[i],List.getElem_mem z,h.el i _ _ (List.getElem?_eq_getElem z) y⟩
theorem Cop.own {z:ab}(h:Cop w y o ds u)(F:y.ownsRow base' 40 10 v n A)(I:Fr (λb=>v.ownBlock=C b) y z):Cop w z o ds u:=
 h.fr I (λd J N e O=>by
  obtain⟨x,_,U⟩:=h.mem J;exact U.typ.ne F (by decide) N e O)
theorem zCM (a:ar au)(b1:E)(ds:aj Dev)(w:ab)(hl:Devs w a b1 ds)(hn:ds.length<=1000)(b2:∀ d∈ds,∃ l,Atts w d.aa d.ac l/\d.an=l.length/\l.length<=24):
  ax am 94 #[a1 a ds.length b1] w λe w'=>(∃ v Z,e=.returned v/\w'.ownsRow (w:E) 40 10 v Z.length (flat Z)/\Cop w w' (w:E) ds Z)/\Fr No w w':=by
 obtain⟨i0,d0,d1,d2,d3⟩:=co infoD;have e4:=hl.lenmax;have d4:=zh b2;have Hn:=zh hn;clear b2 hn;go_enter Tryz.func94,Tryz.ntmps94;go_wp2_with fail;go_loopw [3,8] (λv i wr=>∃ (j:E) (O:aj Dev) (av:ar au) (cv:E),j<=ds.length/\O.length<=j/\v=a1 av O.length cv/\i=R G (j:ah)/\wr.ownsRow (w:E) 40 10 (a1 av O.length cv) O.length (flat O)/\Cop w wr (w:E) (ds.take j) O/\Fr (From (w:E)) w wr) (λ_ i _=>ds.length-(bt i).toNat);case atStart=>exact⟨0,[],B,0,by omega,by simp,rfl,rfl,World.ownsRow_nil _ _ _ _,by simpa using Cop.nil _ _ _,ap _ _⟩
 case round=>
  obtain⟨j,O,av,cv,hj,e5,rfl,rfl,y,hC,hf⟩:=hrel;by_cases d5:j<ds.length
  .have e2:(j:ah)<ds.length:=by omega
   have d6:∀ U,a=C U->ds≠[]->¬ From (w:E) U.block:=λU e a2 h=>by have:=(hl.cell U e a2).2.1;omega
   obtain⟨bb,e6,d,rfl,hd,c0,c1,c2,c3,c4,c5,c6,c7,c8,c9⟩:=(hl.fr hf d6).dev d5;have V:=bn hd;obtain⟨l,J,a3,b3⟩:=d4.out d V;have hA:Atts wr d.aa d.ac l:=J.fr hf (λU e a2 h=>by have:=(J.cell U e a2).2.1;omega);have d7:ai (ds.take (j+1)=ds.take j++[d]):=(by unfold ai;rw[dh,hd];rfl);have a4:=zg3 J a3 b3;clear hd V J;obtain⟨W1,a5,N,q1⟩:=zy wr (ae d.vals 40);have a6:=zBf d l W1 (hA.no N (λ_=>id)) a3 (by omega);obtain⟨z0,z1,z2,z3,z4,z5,z6,z7,z8,z9⟩:=DevB.of q1;have e7:=hf.size;have e8:=N.size;have e3:=zC q1;unfold bg at a5;clear a3 b3 hA;unfold bg at a6;go_upto_region 5 with(fail)
   rw[<-a5];clear a5 c0 c1 c2 c3 c4 c5 c6 c7 c8 c9;go_wp2_with fail;apply a6.mono;rintro e w2 ⟨⟨X,Y,rfl,b4,b5,z⟩,a7⟩;clear a6 z0 z1 z2 z3 z4 z5 z6 z7 z8 z9 q1;have A:Fr No wr w2:=N.step a7 zi;have o:=zG y A (λ_ _=>id);have b6:=hC.fr A (λ_ _ _ _=>id);have e9:=a7.size;have d8:ai (Cop1 w w2 (w:E) d { d with aa:=X,ac:=Y }):=⟨rfl,⟨l,a4.1,b4,a4.2.1,a4.2.2⟩,b5,λU e=>by have:=z U e;omega⟩
   have g0:O.length<=1000:=(by have:=Hn.out;omega);have a8:=zh o;have d9:=zh b6;have Hf:=zh hf;have b7:=zh A;clear hC b6 y hf A N a7 b4 b5 z;go_wp2_with (at_builtin;refine wpList_append_own _ rfl _ _ 51 rfl (w:E) 40 i0 (ay #[R G 0,R G 0,a0 ba,a0 ba,a0 ba,a0 ba,a0 ba,R G 0,R G 0,a1 B 0 0]) 10 136 br d0 d1 d2 d3 rfl (by decide) _ _ _ rfl (o.alloc _) ⟨w2,0,B⟩ 1 1 (bg { d with aa:=X,ac:=Y }).toList rfl rfl (ze _ (bg { d with aa:=X,ac:=Y }) _ rfl) (zAb _) (by unfold bd;omega) (by omega) (by first|omega|(simp;done)|(simp;omega)) ?_;intro v' w6 u F _;obtain⟨e0,e1,rfl⟩:=zJ u)
   have a9:Fr No w2 (w2.alloc (ae (bg { d with aa:=X,ac:=Y }) 40)):=(ap _ _).alloc _;have I:=a8.alloc (ae (bg { d with aa:=X,ac:=Y }) 40);have b0:Fr (λb=>(bf av O.length cv).ownBlock=C b) (w2.alloc (ae (bg { d with aa:=X,ac:=Y }) 40)) w6:=db F;have b8:Cop w w6 (w:E) (ds.take (j+1)) (O++[{ d with aa:=X,ac:=Y }]):=by
    rw[d7];exact((d9.snoc d8).fr a9 (λ_ _ _ _=>id)).own I b0
   have b9:Fr (From (w:E)) w w6:=((Hf.step b7 (λb _ h=>h.elim)).step a9 zn).step b0 (λb _ h=>zQ I h);have HF:=zg3 u b8 b9;clear u b8 b9 F b0 I a9 o;go_roundw;case rel=>exact⟨j+1,O++[{ d with aa:=X,ac:=Y }],e0,e1,by omega,by simp;omega,by simp,by go_num,by rw[cc,zCp];exact HF.1,HF.2.1,HF.2.2⟩
   case measure=>simp[bt];omega
  .obtain rfl:j=ds.length:=by omega
   rw[List.take_length]at hC;have H:=zg3 y hC (hf.mono (T:=No) (λb hb h=>by omega));clear y hC hf;go_wp2;go_ret;exact⟨⟨_,O,rfl,H.1,H.2.1⟩,H.2.2⟩
def goodF : UInt8->Bool:=λc=>zA0 c||(⟨#[64,35,61,37]⟩:ak).data.toList.contains c
theorem zOt (w:ab):
  ax am 192 #[] w λe w'=>e=.returned (ay (bits goodF))/\Fr No w w':=by
 have y:(Tryz.prog.info? 147).map (·.size)=C 256:=by kernel_rfl
 have O:Tryz.zeroCells147.size=256:=by kernel_rfl
 have z:Fr No w (w.alloc (ae bw 147)):=(ap _ _).alloc _;have A:=zF w (ae bw 147);have F:=zg2 A z;clear A z;have I:=λW=>zBL zA0 ⟨#[64,35,61,37]⟩ W (by decide)
 have U:=zh I;clear I;go_enter Tryz.func192,Tryz.ntmps192;go_wp2_with fail;apply (zEC _).mono;rintro e Y ⟨rfl,h⟩;go_wp2_with fail;apply (U _).mono;rintro e V ⟨rfl,o⟩;have u:=(F.2.step h zi).step o zi;have J:=o.heap (h.heap F.1 id) id;go_wp2_with (refine fd rfl 147 _ _ rfl (w:E) (bits goodF) rfl rfl 147 _ J (by rw[zAC];exact y) (by rw[zAC];exact O) (zDg _) ?_)
 have X:=cg V (w:E) _ (bits goodF) 147 (0,0) J;refine cn (v:=ay (bits goodF)) (results_cell_row rfl _ _ (w:E) 147 _ (0,0) _ rfl X f7 rfl (by rw[zAC];exact y)) rfl ?_;exact⟨rfl,u.step (T:=Is (w:E)) ⟨rfl,rfl,rfl,by simp,λb _ N=>dp _ _ _ _ (λe=>N e)⟩ (λb N e=>by omega)⟩
def dotsB (s:ak):Bool:=decide (s.toList=[46])||decide (s.toList=[46,46])
def zBi (s:ak):Bool:=!s.toList.isEmpty&&!dotsB s&&allB goodF s
theorem zK8 (z:E)(s:ak)(w:ab)(I:w.heap[z]?=C (ae (bits goodF) 147))(N:s.size<=bd):
  ax am 195 #[a0 s,be (C ⟨z,0,B⟩)] w λe w'=>e=.returned (.bool (zBi s))/\Fr No w w':=by
 have O:(Tryz.prog.info? 147).map (·.size)=C 256:=by kernel_rfl
 obtain⟨u,h⟩:∃ u,u=zBi s:=⟨_,rfl⟩
 rw[<-h];have o:ai (u=(!s.toList.isEmpty&&!dotsB s&&allB goodF s)):=h;have U:=zh I;clear h I;rcases he:s.toList.isEmpty with _|_
 .have A:=zGg s w;have F:ai ((decide (s.toList=[46])||decide (s.toList=[46,46]))=dotsB s):=rfl;rw[F]at A;have V:=zh he;go_enter ey,f1;go_wp2_with fail;apply A.mono;rintro e Z ⟨rfl,rfl⟩;clear A;rcases hq:dotsB s with _|_
  .have v:ai (u=allB goodF s):=by unfold ai;rw[o,V,hq];rfl
   clear hq;have J:=zIU goodF s w N;go_wp2_with fail;rename_i X;refine wp_load_row 147 _ rfl z rfl 147 _ (0,0) _ U f7 rfl (by rw[zAC];exact O) ?_;apply X _ _;go_wp2_with fail;apply J.mono;rintro e w2 ⟨rfl,y⟩;have Y:=zh y;clear y J;go_wp2;go_ret;exact⟨zL v.symm,Y⟩
  .have v:ai (u=af):=by unfold ai;rw[o.out,hq];simp
   clear hq;go_wp2;go_ret;exact⟨zL v.symm,ap _ _⟩
 .have v:ai (u=af):=by unfold ai;rw[o,he];rfl
  go_enter ey,f1;go_wp2;go_ret;exact⟨zL v.symm,ap _ _⟩
theorem zNW (v o:E)(s:ak)(w:ab)(A:w.cell? ⟨v,0,B⟩=C (.func (.func 195) #[] #[be (C ⟨o,0,B⟩)]))(y:w.heap[o]?=C (ae (bits goodF) 147))(z:s.size<=bd):
  ax am 234 #[a0 s,be (C ⟨v,0,B⟩)] w λe w'=>e=.returned (.bool (!zBi s))/\Fr No w w':=by
 have h:=zK8 o s w y z;clear y;go_enter Tryz.func234,Tryz.ntmps234;go_wp2_with fail;apply h.mono;rintro e F ⟨rfl,u⟩;go_wp2;go_ret;exact⟨rfl,u⟩
theorem zJ1 (F I:E)(V:ar au)(X:E)(l:aj ak)(w:ab)(hb:w.cell? ⟨F,0,B⟩=C (.func (.func 195) #[] #[be (C ⟨I,0,B⟩)]))(Y:w.heap[I]?=C (ae (bits goodF) 147))(Z:Strs w V X l)(hs:∀ x∈l,x.size<=bd):
  ax am 76 #[a1 V l.length X,.func (.func 234) #[] #[be (C ⟨F,0,B⟩)]] w λe w'=>(∃ r:ah,e=.returned (R G r)/\decide (0<=r)=!l.all zBi)/\Fr No w w':=by
 have hm:=Z.lenmax;have Hg:=zh Y;clear Y;go_enter Tryz.func76,Tryz.ntmps76;go_wp2_with fail;go_loopw [8] (λi wr=>∃ k:E,k<=l.length/\i=R G k/\ai ((l.take k).all zBi=ag)/\Fr No w wr) (λi _=>l.length-(bt i).toNat);case atStart=>exact⟨0,by omega,rfl,by unfold ai;simp,ap _ _⟩
 case round=>
  obtain⟨k,hk,rfl,y,o⟩:=hrel;by_cases J:k<l.length
  .have a2:(k:ah)<l.length:=by omega
   obtain⟨bb,a3,x,rfl,A,hc⟩:=(Z.no o (λ_=>id)).at J;have N:=hs x (bn A);have O:ai (l.take (k+1)=l.take k++[x]):=(by unfold ai;rw[dh,A];rfl);have z:=zh (bn A);clear A;have v:=zNW F I x wr (o.cell hb id) (o.heap Hg id) N;go_wp2_with fail;apply v.mono;rintro e w1 ⟨rfl,U⟩;have u:=o.step U zi;clear hc v;cases v:zBi x
   .have Hr:ai (l.all zBi=af):=(by unfold ai;rw[dy];exact⟨x,z.out,by rw[v];simp⟩);clear v;go_wp2;go_ret;exact⟨⟨(k:ah),rfl,by rw[Hr.out];simp⟩,u⟩
   .have Hn:ai ((l.take (k+1)).all zBi=ag):=(by unfold ai;rw[O.out,dx,y.out];simp[v]);clear v;go_wp2;go_roundw;case rel=>exact⟨k+1,by omega,by go_num,Hn,u⟩
    case measure=>simp[bt];omega
  .have h:=y.out;rw[bo (by omega)]at h;have Hp:=zh h;clear h;go_wp2;go_ret;exact⟨⟨-1,rfl,by rw[Hp];rfl⟩,o⟩
theorem zMr (o:E)(u:ar au)(v:E)(l:aj ak)(w:ab)(A:w.heap[o]?=C (ae (bits goodF) 147))(I:Strs w u v l)(J:∀ x∈l,x.size<=bd):
  ax am 193 #[a1 u l.length v,.func (.func 195) #[] #[be (C ⟨o,0,B⟩)]] w λe w'=>e=.returned (.bool (l.all zBi))/\Fr No w w':=by
 have y:Fr No w (w.alloc (ae #[.func (.func 195) #[] #[be (C ⟨o,0,B⟩)]] 94)):=(ap _ _).alloc _;have N:=zF w (ae #[.func (.func 195) #[] #[be (C ⟨o,0,B⟩)]] 94);have z:=I.no y (λ_=>id);have O:=zh (y.heap A id);clear A;go_enter Tryz.func193,Tryz.ntmps193;go_wp2_with fail;generalize w.alloc (ae #[.func (.func 195) #[] #[be (C ⟨o,0,B⟩)]] 94)=W0 at *;refine(show ax am 36 _ _ (λe w'=>e=.returned (.bool (!l.all zBi))/\Fr No W0 w')from ?_).mono ?_
 .go_enter Tryz.func36,Tryz.ntmps36;go_wp2_with fail;apply (zJ1 (w:E) o u v l _ (zB N 0) O z J).mono;rintro e U ⟨⟨r,rfl,F⟩,h⟩;have V:=zh F;clear F;go_wp2;go_ret;exact⟨zL V,h⟩
 .rintro e U ⟨rfl,h⟩;go_wp2;go_ret;exact⟨zL (by simp),y.step h zi⟩
def lparts (s:ak):aj ak:=(spl 47 s.data.toList).map λx=>⟨x.toArray⟩
def zEJ (s:ak):Bool:=decide (s.size<=256)&&(lparts s).all zBi
theorem zHa (s:ak):∀ x∈lparts s,x.size<=s.size:=by
 intro x h;unfold lparts at h;obtain⟨y,o,rfl⟩:=List.mem_map.1 h;have:=zKU 47 s.data.toList y o;have e:s.data.toList.length=s.size:=bz;show (y.toArray).size<=_
 rw[cr];omega
theorem zPw (s:ak)(m:ah)(w:ab)(hs:s.size<=3000000)(hm:w.cell? ⟨3,0,B⟩=C (R G m))(h0:3<(w:E)):
  ax am 136 #[a0 s] w λe w'=>e=.returned (.bool (zEJ s))/\Fr No w w':=by
 have hi:(Tryz.prog.info? 147).map (·.size)=C 256:=by kernel_rfl
 have hz:Tryz.zeroCells147.size=256:=by kernel_rfl
 obtain⟨U,F⟩:∃ U,U=zEJ s:=⟨_,rfl⟩
 rw[<-F];have V:ai (U=(decide (s.size<=256)&&(lparts s).all zBi)):=F;clear F;have y:Lib.countB s ⟨#[47]⟩+1=(lparts s).length:=zGR s;have o:Lib.splitB ⟨#[47]⟩ 0 (Lib.countB s ⟨#[47]⟩) s=lparts s:=zCO s;have X:=Lib.countB_le ⟨#[47]⟩ (by decide) s.size s (bq _);have Y:(lparts s).length<=maxLen:=by unfold bd;omega
 have Z:=zHa s;have hp:∀ W:ab,W.cell? ⟨3,0,B⟩=C (R G m)->_:=λW h=>Tryz.strings_Split s ⟨#[47]⟩ m W (by omega) h (by decide)
 rw[o,y]at hp;have Hp:=zh hp;have a5:=zh Y;have a6:=zh Z;clear hp Y Z o y X;generalize lparts s=L at *;go_enter Tryz.func136,Tryz.ntmps136;go_wp2_with fail;apply (zOt _).mono;rintro e u ⟨rfl,I⟩;have a7:=I.cell hm id;have x1:Fr No w (u.alloc (ae bw 147)):=I.alloc _;have p1:=zF u (ae bw 147);have b0:=I.size;have a2:(u.alloc (ae bw 147)).cell? ⟨3,0,B⟩=C (R G m):=((ap No u).alloc _).cell a7 id;obtain⟨z,v⟩:∃ z,z=(u.alloc (ae bw 147)).setRow (u:E) (bits goodF):=⟨_,rfl⟩
 have hg:z.heap[(u:E)]?=C (ae (bits goodF) 147):=by rw[v];exact cg _ (u:E) _ (bits goodF) 147 (0,0) p1
 have x2:Fr (Is (u:E)) (u.alloc (ae bw 147)) z:=by rw[v];exact⟨rfl,rfl,rfl,by simp,λb _ hb=>dp _ _ _ _ (λe=>hb e)⟩
 have a3:=zh (x1.step x2 (λb hb e=>by omega));have a8:=x2.cell a2 (λe=>by unfold Is at e;dsimp only at e;omega);go_upto_region 2 with(refine fd rfl 147 _ _ rfl (u:E) (bits goodF) rfl rfl 147 _ p1 (by rw[zAC];exact hi) (by rw[zAC];exact hz) (zDg _) ?_)
 rw[<-v];clear v p1 x1 x2 a2;by_cases A:s.size<=256
 .have J:(s.size:ah)<=256:=by omega
  have Hv:ai (U=L.all zBi):=by unfold ai;rw[V,decide_eq_true A];rfl
  have N:=Hp.out z a8;obtain⟨W4,O,x4,-⟩:=zy z (ae (L.map Value.string).toArray 9);have a9:Strs W4 (C ⟨z,0,B⟩) L.length L:=by rw[O];exact Strs.new z L 9 a5
  rw[<-O]at N;have o:=zMr (u:E) _ _ L W4 (x4.heap hg id) a9 (λx hx=>ej (a6 x hx) (by unfold bd;omega));clear O hg;go_wp2_with fail;apply N.mono;rintro e w3 ⟨rfl,rfl⟩;clear N;go_wp2_with fail;apply o.mono;rintro e w4 ⟨rfl,a4⟩;clear o;have Hf:=zh ((a3.step x4 zi).step a4 zi);clear a4 x4;go_wp2;go_ret;exact⟨zL Hv.symm,Hf⟩
 .have J:¬ (s.size:ah)<=256:=by omega
  have Hv:ai (U=af):=by unfold ai;rw[V,decide_eq_false A];rfl
  clear hg;go_wp2;go_ret;exact⟨zL Hv.symm,a3⟩
def attrOk (x:ak×ak):Bool:=isName x.1&&!x.2.toList.isEmpty&&zBD x.2
theorem zNT (x y:ak)(w:ab)(V:x.size<=bd)(X:y.size<=bd):
  ax am 190 #[ay #[a0 x,a0 y]] w λe w'=>e=.returned (.bool (!attrOk (x,y)))/\Fr No w w':=by
 obtain⟨Y,v,F,I⟩:=zy w (ae #[a0 x,a0 y] 68);obtain⟨N,c1⟩:=cl2 I;have O:=zAS x Y V;obtain⟨u,h⟩:∃ u,u=attrOk (x,y):=⟨_,rfl⟩
 rw[<-h];have o:ai (u=(isName x&&!y.toList.isEmpty&&zBD y)):=h;clear h;go_enter Tryz.func190,Tryz.ntmps190;go_upto_region 1 with(fail)
 rw[<-v];clear v;go_wp2_with fail;apply O.mono;rintro e w1 ⟨rfl,z⟩;have Z:=z.heap I id;have J:=F.step z zi;clear N c1 I O;obtain⟨N,c1⟩:=cl2 Z;rcases h1:isName x with _|_
 .have A:ai (u=af):=by unfold ai;rw[o,h1];rfl
  clear h1;go_wp2;go_ret;exact⟨zL (by rw[A];rfl),J⟩
 have U:=zh h1;clear h1;rcases h2:y.toList.isEmpty with _|_
 .have A:ai (u=zBD y):=by unfold ai;rw[o,U,h2];rfl
  go_wp2_with fail;apply (zGf y _ X).mono;rintro e w2 ⟨rfl,rfl⟩;go_wp2;go_ret;exact⟨zL (by rw[A]),J⟩
 .have A:ai (u=af):=by unfold ai;rw[o,U,h2];rfl
  go_wp2;go_ret;exact⟨zL (by rw[A];rfl),J⟩
theorem zLs (a:ar au)(u:E)(l:aj (ak×ak))(w:ab)(Z:Atts w a u l):
  ax am 189 #[a1 a l.length u,.func (.func 190) #[] #[]] w λe w'=>e=.returned (.bool (!l.all attrOk))/\Fr No w w':=by
 have hm:=Z.lenmax;have F:ax am 232 #[a1 a l.length u,.func (.func 190) #[] #[]] w λe w'=>(∃ r:ah,e=.returned (R G r)/\decide (0<=r)=!l.all attrOk)/\Fr No w w':=by
  go_enter Tryz.func232,Tryz.ntmps232;go_wp2_with fail;go_loopw [8] (λi wr=>∃ k:E,k<=l.length/\i=R G k/\ai ((l.take k).all attrOk=ag)/\Fr No w wr) (λi _=>l.length-(bt i).toNat);case atStart=>exact⟨0,by omega,rfl,by unfold ai;simp,ap _ _⟩
  case round=>
   obtain⟨k,hk,rfl,I,v⟩:=hrel;by_cases N:k<l.length
   .have a2:(k:ah)<l.length:=(by omega);obtain⟨bb,a3,x,y,rfl,O,U,V,hc,hd⟩:=(Z.no v (λ_=>id)).at N;have X:ai (l.take (k+1)=l.take k++[(x,y)]):=(by unfold ai;rw[dh,O];rfl);have J:=zh (bn O);clear O;have z:=zNT x y wr U V;go_wp2_with fail;apply z.mono;rintro e w1 ⟨rfl,A⟩;have o:=v.step A zi;clear hc hd z;cases z:attrOk (x,y)
    .have Y:ai (l.all attrOk=af):=(by unfold ai;rw[dy];exact⟨_,J.out,by rw[z];simp⟩);clear z;go_wp2;go_ret;exact⟨⟨(k:ah),rfl,by rw[Y.out];simp⟩,o⟩
    .have Hn:ai ((l.take (k+1)).all attrOk=ag):=(by unfold ai;rw[X.out,dx,I.out];simp[z]);clear z;go_wp2;go_roundw;case rel=>exact⟨k+1,by omega,by go_num,Hn,o⟩
     case measure=>simp[bt];omega
   .have h:=I.out;rw[bo (by omega)]at h;have Hp:=zh h;clear h;go_wp2;go_ret;exact⟨⟨-1,rfl,by rw[Hp];rfl⟩,v⟩
 go_enter Tryz.func189,Tryz.ntmps189;go_wp2_with fail;apply F.mono;rintro e w1 ⟨⟨r,rfl,hr⟩,A⟩;have Y:=zh hr;clear hr;go_wp2;go_ret;exact⟨zL Y,A⟩
theorem zLW (a:ar au)(h:E)(l:aj (ak×ak))(w:ab)(u:Atts w a h l)(v:l.length<=1):
  ax am 188 #[a1 a l.length h] w λe w'=>e=.returned (.bool ag)/\Fr No w w':=by
 have o:¬ (1:ah)<l.length:=by omega
 go_enter Tryz.func188,Tryz.ntmps188;go_wp2_with fail;go_loopw [3] (λi wr=>i=R G 1/\wr=w) (λi _=>0);case atStart=>exact⟨rfl,rfl⟩
 case round=>
  obtain⟨rfl,rfl⟩:=hrel;go_wp2;go_ret;exact⟨rfl,ap _ _⟩
theorem zF0 (a:ar au)(h:E)(l:aj (ak×ak))(w:ab)(v:Atts w a h l)(z:l.length<=1):
  ax am 134 #[a1 a l.length h] w λe w'=>e=.returned (.bool (l.all attrOk))/\Fr No w w':=by
 have y:=zLW a h l w v z;go_enter Tryz.func134,Tryz.ntmps134;go_wp2_with fail;apply y.mono;rintro e A ⟨rfl,o⟩;have F:=zLs a h l A (v.no o (λ_=>id));clear y;go_wp2_with fail;apply F.mono;rintro e I ⟨rfl,u⟩;go_wp2;go_ret;exact⟨zL (by simp),o.step u zi⟩
theorem zDi {w:ab}{u:az bc}{h:aj bc}{o:bc}{a:aq}{Q:Exit->aq->ab->Prop}(A:o.guard=B)(m x:Operand)(t:cf)(y:o.op=Op.lookup t m x ag)(F:Tryz.prog.underlying t=C (.map 3 9))
  (z:E) (g:ah->ar ak) (N:E) (k:ah) (I:(cj G k).wf=ag) (J:a.eval m=.map (C z)) (v:SMap w z g N) (O:a.eval x=.int G k)
  (s:ak) (U:(g k).getD ⟨#[]⟩=s) (b:bh) (V:(g k).isSome=b)
  (X:ch am u Q h (a.put o.dst (.tuple #[.string s,.bool b])) w):ch am u Q (o::h) a w:=by
 subst U V;exact zEp A m x t y F z g N k I J v O X
theorem zFh (h:TreeOk ds)(n:ah):ogs ds n=(look ds n).map λ_=>pathOf (origin ds n):=by
 have:=zIS h ds.length (bq _) n
 rwa [bo (bq _)]at this
def newO (ds:aj Dev)(d:Dev):ak:=plc ds d.parent++⟨#[47]⟩++d.orig
def zAB (ds:aj Dev)(og:ak)(x:Dev):Bool:=decide (0<=(cmpP (plc ds x.index) og).1)
theorem zIN (o:TreeOk ds)(u:ds.length<=1000)(n:ah):(plc ds n).size<=33000:=by
 have h:=zCA o.sz ds.length n;rw[bo (bq _),zC9 o]at h;omega
theorem zLD (d:Dev)(ds:aj Dev)(a:ar au)(v m1 y N O:E)(s:ak)(m:ah)(w:ab)(A:TreeOk ds)(hn:ds.length<=1000)(hs:s.size<=1000000)(hd:d∈ds)(U:w.heap[N]?=C (ae #[a1 a ds.length v,.map (C m1),.map (C y)] 112))(V:SMap w y (ogs ds) ds.length)(X:w.cell? ⟨O,0,B⟩=C (a0 s))(Y:w.cell? ⟨3,0,B⟩=C (R G m)):
  ax am 88 #[ay d.vals,be (C ⟨N,0,B⟩),be (C ⟨O,0,B⟩)] w λe w'=>e=.returned (.bool (zAB ds s d))/\Fr No w w':=by
 obtain⟨W0,h,o,Z⟩:=zy w (ae d.vals 40);have a2:=o.cell X id;have u:=o.heap U id;have v2:=zB u 2;have c0:=(DevB.of Z).c0;have F:=V.fr o id;have I:=A.iwf hd;have hp:(ogs ds d.index).getD ⟨#[]⟩=plc ds d.index:=zC9 A d.index;have hc:=zJI (plc ds d.index) s m W0 (by have:=zIN A hn d.index;omega) hs (o.cell Y id);have Hr:ai (zAB ds s d=decide (0<=(cmpP (plc ds d.index) s).1)):=rfl;generalize zAB ds s d=rb at *;generalize hz:(cmpP (plc ds d.index) s).1=z at *;generalize plc ds d.index=P at *;clear hz;clear X U V u Z Y;unfold bg at h ⊢;go_enter Tryz.func88,Tryz.ntmps88;go_upto_region 1 with(fail)
 rw[<-h];clear h;go_wp2_with (at_lookup;refine zHB rfl _ _ 110 rfl rfl y _ _ d.index I rfl F rfl ?_)
 apply hc.mono;rintro e w1 ⟨rfl,J⟩;go_wp2;go_ret;exact⟨zL Hr.symm,o.step J zi⟩
theorem zEl (o b:E)(a:ar au)(n h:E)(Z:aj aw)(d:Dev)(w:ab)(v:w.ownsRow o 40 10 (a1 a n h) n Z)(hn:n<=100000)(hb:w.heap[b]?=C (ae d.vals 40))(A:o<=(w:E)):
  ax am 93 #[a1 a n h,R G (n:ah),a1 (C ⟨b,0,B⟩) 1 1] w λe w'=>(∃ a' c',e=.returned (a1 a' (n+1) c')/\w'.ownsRow o 40 10 (a1 a' (n+1) c') (n+1) (Z++d.vals.toList))/\Fr (λb=>(bf a n h).ownBlock=C b) w w':=by
 obtain⟨i0,I,J,N,O⟩:=co infoD;have y:∀ j u,d.vals.toList[j]?=C u->w.cell? ((⟨b,0,B⟩:au).add j)=C u:=by
  intro j u hu;rw[bx,zB hb]
  simpa using hu
 have a2:n<=h:=by
  obtain⟨_,⟨F,h2⟩|⟨g,c,U,F,_,_,h3,_⟩⟩:=v;·cases F;omega
  .cases F;exact h3
 have a3:h<=9223372036854775807:=by
  obtain⟨_,⟨F,h2⟩|⟨g,c,U,F,_,_,h3,h4,_⟩⟩:=v;·cases F;omega
  .cases F;unfold bd at h4;omega
 have V:(n:ah)<=h:=by omega
 go_enter dl,dm;go_wp2_with (at_builtin;refine zx rfl _ _ 51 rfl o 40 i0 (ay #[R G 0,R G 0,a0 ba,a0 ba,a0 ba,a0 ba,a0 ba,R G 0,R G 0,a1 B 0 0]) 10 136 br I J N O rfl (by decide) _ _ _ rfl v (C ⟨b,0,B⟩) 1 1 d.vals.toList rfl (λe=>by cases e) rfl (λa4 e=>by cases e;exact y) (zAb _) (by unfold bd;omega) (by omega) A ?_;intro v3 w3 z X;have Y:w.grownBy w3 (bf a n h).ownBlock:=X;obtain⟨av,cv,rfl⟩:=zJ z)
 all_goals (go_ret;subst_vars;exact⟨⟨av,cv,rfl,z⟩,db Y⟩)
section
variable {K:aq->ab->Prop}{T:E->Prop}{w w':ab}{a:aq}
theorem zf (o:Fr T w w')(h:K a w'):OnlyN (λa w'=>Fr T w w'/\K a w') .normal a w':=⟨o,h⟩
theorem zm (o:Fr No w w')(h:K a w'):OnlyN (λa w'=>Fr T w w'/\K a w') .normal a w':=⟨o.mono λ_ _ h=>h.elim,h⟩
theorem zp {o:Obj}(h:K a (w.alloc o)):OnlyN (λa w'=>Fr T w w'/\K a w') .normal a (w.alloc o):=⟨(ap _ _).alloc _,h⟩
theorem zq (h:K a w):OnlyN (λa w'=>Fr T w w'/\K a w') .normal a w:=⟨ap _ _,h⟩
end
theorem zAF {u:E}{z:aj aw}(h:w.ownsRow o e u v n z)(y:v.ownBlock=C b):o<=b/\b<(w:E):=by
 obtain⟨_,⟨rfl,_⟩|⟨g,A,F,rfl,I,J,_⟩⟩:=h;·cases y
 .cases y;exact⟨I,zC J⟩
theorem zBY {P:bu}(w:ab)(U Y Z h:cf)(N g o y A:E)(a:au)(z F:E)(u:az aw)(t:cf)(cs:aj aw)
  (hu:P.underlying U=C (.slice h)) (V:(P.info? h).map (·.size)=C N) (hg:w.heap[g]?=C (ae u t (0,0))) (k:E) (hk:k=Nat.min z y) (hn:cs.length=k*N)
  (I:∀ j v,cs[j]?=C v->w.cell? (a.add j)=C v) (J:o+cs.length<=u.size) (h1:∀ v∈cs,v.oneCell'=ag):
  (ca #[U,Y] Z #[a1 (C ⟨g,o,B⟩) y A,a1 (C a) z F]).run P w=.ok (goInt k) (w.setRow g (ao u.toList o cs).toArray):=by
 have X:=run_loadCells_list (P:=P) w a cs I;have O:=run_storeCells_at P g o t cs 0 u w hg (by simpa using J) h1;subst hk;cases hq:P.info? h with
 | none=>simp[hq]at V
 | some i=>
  have hi:i.size=N:=by simpa [hq]using V
  rw[hn]at X;simp[ca,run_underlying hu,Builtin.lenOf,du,sizeOf,typeInfo,hq,hi,X,O,ao]
theorem zGS {α:Type}(L:aj α)(o:E)(cs:aj α):ao L o cs=L.take o++(cs++L.drop (o+cs.length)):=rfl
theorem zJP {d:aj aw}(h:d.length=z)(v:cs.length=n)(y:(i*z)+n+z<=L.length):
  (ao (ao L ((i+1)*z) cs) (i*z) d).take (i*z+n+z)=L.take (i*z)++(d++cs):=by
 have e:(i+1)*z=i*z+z:=by rw[ei,ek]
 have o:(ao L ((i+1)*z) cs).take (i*z)=L.take (i*z):=by
  unfold ao;rw[di (by rw[bm];omega),dj,cu (by omega)]
 have u:(ao L ((i+1)*z) cs).drop (i*z+z)=cs++L.drop ((i+1)*z+cs.length):=by
  unfold ao;rw[List.drop_append_of_le_length (by rw[bm];omega),List.drop_take,e,Nat.sub_self,List.take_zero,ef]
 rw[zGS _ (i*z) d,o,h,u,eg,bm,cu (by omega),bo (by rw[bm];omega)]
 congr 1
 rw[show i*z+n+z-i*z=z+n by omega,eg,h,bo (by omega),show z+n-z=n by omega,di (by omega),bo (by omega)]
theorem Fr.setRow (w:ab)(g:E)(cs:az aw)(h:S g):Fr S w (w.setRow g cs):=
 ⟨rfl,rfl,rfl,by simp[World.setRow],λk _ o=>dp w g k cs (λe=>o (e▸h))⟩
theorem zDG: (Tryz.prog.info? 40).map (·.size)=C 10:=by kernel_rfl
theorem zER (b5 g b y n i:E)(o:az aw)(A:aj aw)(d:Dev)(w:ab)(hg:w.heap[g]?=C (ae o 40))(X:o.toList.take (n*10)=A)(a3:A.length=n*10)(a4:∀ u∈A,u.oneCell'=ag)
  (b0:o.size=y*10) (b1:n+1<=y) (b3:y<=bd) (b7:i<n) (hb:w.heap[b]?=C (ae d.vals 40)) (a5:b≠g):
  ax am 93 #[a1 (C ⟨g,0,B⟩) n y,R G (i:ah),a1 (C ⟨b,0,B⟩) 1 1] w λe w'=>e=.returned (a1 (C ⟨g,0,B⟩) (n+1) y)/\
   (∃ F,w'.heap[g]?=C (ae F 40)/\F.toList.take ((n+1)*10)=A.take (i*10)++(d.vals.toList++A.drop (i*10))/\F.size=y*10)/\Fr (Is g) w w':=by
 have b8:¬ ((i:ah)=(n:ah)):=by omega
 unfold bd at b3;have hr:(n:ah)+1<=(y:ah):=by omega
 have b6:i<=n:=by omega
 have b9:=zC hb;have d0:=zC hg;have b4:∀ Y lb cb,(callFunc 141 #[a1 (C ⟨b,0,B⟩) 1 1,a1 (C ⟨g,Y,B⟩) lb cb]).run am w=.ok (.value (.bool af)) w:=λY lb cb=>by
  rw[run_callFunc_extern (f:=141) (P:=am) (fn:=Tryz.f141) (by kernel_rfl) (by kernel_rfl) (by kernel_rfl) (by kernel_rfl) (e:=fe #[51,51] #[4]) (by kernel_rfl),
   Lib.run_overlaps_apart w 51 4 40 br 10 (λw=>by kernel_rfl) ⟨b,0,B⟩ ⟨g,Y,B⟩ 1 1 lb cb a5 40 40 10 o.size (by simp[fc,hb,bg]) (by simp[fc,hg]) (by omega) (zD hb 0) (zD hb 10)]
  rfl
 have I:(A.drop (i*10)).length=(n-i)*10:=by rw[dg,a3,<-em]
 have a6:∀ j v,A[j]?=C v->o[j]?=C v:=λj v h=>by
  have hj:=(List.getElem?_eq_some_iff.1 h).1;rw[<-X,df (by omega)]at h;rw[<-dr];exact h
 have V:∀ (W:ab),Fr No w W->∀ Z N dc sl sc,N=n-i->sl=n+1-i->(ca #[51,51] Z #[a1 (C ⟨g,(i+1)*10,B⟩) N dc,a1 (C ⟨g,i*10,B⟩) sl sc]).run am W=.ok (goInt (n-i:E)) (W.setRow g (ao o.toList ((i+1)*10) (A.drop (i*10))).toArray):=λW hW Z N dc sl sc e1 e2=>
  zBY W 51 51 Z 40 10 g ((i+1)*10) N dc ⟨g,i*10,B⟩ sl sc o 40 (A.drop (i*10)) br zDG (hW.heap hg id) (n-i) (by simp only[ct];split<;>omega) I
   (λj v hj=>by
    rw[de]at hj;rw[bx,zB (hW.heap hg id)];exact a6 _ v hj)
   (by rw[I];omega) (λv hv=>a4 v (ee hv))
 go_enter dl,dm;go_upto_region 15 with(simp only[b4])
 refine zO (Is g) [(0,af),(1,af),(2,af),(3,af),(4,af),(5,af),(6,af),(7,af),(8,ag)] (by kernel_rfl) (by kernel_rfl) (λw1 O=>?_);have h1:=V w1 O;(repeat apply zR rfl rfl rfl;intro d1 hK;go_big_quiet_op;go_big_quiet_on);apply zt rfl;go_wp2_with (at_builtin;refine cz _ rfl _ _ 51 51 rfl _ _ rfl rfl (h1 _ _ _ _ _ (by omega) (by omega)) ?_)
 have f2:Fr (Is g) w1 (w1.setRow g (ao o.toList ((i+1)*10) (A.drop (i*10))).toArray):=Fr.setRow _ _ _ rfl;apply zf f2;apply zb;have g2:=cg w1 g o (ao o.toList ((i+1)*10) (A.drop (i*10))).toArray 40 (0,0) (O.heap hg id);have b2:=f2.heap (O.heap hb id) a5;have F2:=zh ((O.mono zn).step f2 zi:Fr (Is g) w _);generalize (w1.setRow g (ao o.toList ((i+1)*10) (A.drop (i*10))).toArray)=w2 at *;have U:(ao o.toList ((i+1)*10) (A.drop (i*10))).length=o.size:=(cx _ _ _ (by rw[I,bz];omega)).trans bz;have a2:d.vals.toList.length=10:=rfl;obtain⟨row,J⟩:∃ row,row=ao o.toList ((i+1)*10) (A.drop (i*10)):=⟨_,rfl⟩
 rw[<-J]at g2 U;have a7:∀ Z N dc,N=n+1-i->(ca #[51,51] Z #[a1 (C ⟨g,i*10,B⟩) N dc,a1 (C ⟨b,0,B⟩) 1 1]).run am w2=.ok (goInt (1:E)) (w2.setRow g (ao row (i*10) d.vals.toList).toArray):=λZ N dc e1=>
  zBY w2 51 51 Z 40 10 g (i*10) N dc ⟨b,0,B⟩ 1 1 row.toArray 40 d.vals.toList br zDG g2 1 (by subst e1;simp only[ct];split<;>omega) rfl
   (λj v hj=>by rw[bx,zB b2];simpa using hj) (by rw[a2,cr,U];omega) (zAb d)
 have g3:=cg w2 g row.toArray (ao row (i*10) d.vals.toList).toArray 40 (0,0) g2;have F3:=zh (F2.step (Fr.setRow (S:=Is g) w2 g (ao row (i*10) d.vals.toList).toArray rfl) zi);have a8:ai ((ao row (i*10) d.vals.toList).toArray.toList.take ((n+1)*10)=A.take (i*10)++(d.vals.toList++A.drop (i*10))):=by
  unfold ai;have h:=zJP (L:=o.toList) (cs:=A.drop (i*10)) (d:=d.vals.toList) (i:=i) (n:=(n-i)*10) (z:=10) a2 I (by rw[bz];omega);rw[show (n+1)*10=i*10+(n-i)*10+10 by omega,List.toList_toArray,J,h,<-X,dj,cu (by omega)]
 have a9:ai ((ao row (i*10) d.vals.toList).toArray.size=y*10):=by
  unfold ai;rw[cr,cx _ _ _ (by rw[a2,U];omega),U];exact b0
 have H3:=zh g3;clear J X I a6 V a4 g2 b2 g3 a3;generalize ao row (i*10) d.vals.toList=row2 at *;go_wp2_with (at_builtin;refine cz _ rfl _ _ 51 51 rfl _ _ rfl rfl (a7 _ _ _ (by omega)) ?_)
 go_ret;exact⟨rfl,⟨_,H3,a8,a9⟩,F3⟩
theorem zHL {d:aj aw}(h:d.length=z)(u:cs.length=n)(y:(i*z)+n+z<=L.length):
  (ao (ao L (i*z) d) ((i+1)*z) cs).take (i*z+n+z)=L.take (i*z)++(d++cs):=by
 have e:(i+1)*z=i*z+z:=by rw[ei,ek]
 have o:(L.take (i*z)).length=i*z:=by rw[bm];omega
 have v:(ao L (i*z) d).take (i*z+z)=L.take (i*z)++d:=by
  unfold ao;rw[<-cp];exact eh (by rw[cc,o,h])
 rw[zGS _ ((i+1)*z) cs,e,v,<-cp,cp (L.take (i*z)) d cs];exact eh (by rw[cc,cc,o,h,u];omega)
theorem zES (g b A n i:E)(a6:az aw)(y:aj aw)(d:Dev)(w:ab)(hg:w.heap[g]?=C (ae a6 40))(d2:a6.toList.take (n*10)=y)(b3:y.length=n*10)(b4:∀ u∈y,u.oneCell'=ag)
  (d8:n<=A) (a7:A<n+1) (hn:n<=100000) (d9:i<n) (hb:w.heap[b]?=C (ae d.vals 40)):
  ax am 93 #[a1 (C ⟨g,0,B⟩) n A,R G (i:ah),a1 (C ⟨b,0,B⟩) 1 1] w λe w'=>∃ F N,e=.returned (a1 (C ⟨w,0,B⟩) (n+1) F)/\
   w'.heap[(w:E)]?=C (ae N 40)/\N.toList.take ((n+1)*10)=y.take (i*10)++(d.vals.toList++y.drop (i*10))/\N.size=F*10/\n+1<=F/\F<=bd/\Fr No w w':=by
 obtain⟨i0,d3,d4,d5,b5⟩:=co infoD;have e0:¬ ((i:ah)=(n:ah)):=by omega
 have hr:(A:ah)<(n:ah)+1:=by omega
 have d7:i<=n:=by omega
 have e3:=zC hb;have e4:=zC hg;have X:(y.drop (i*10)).length=(n-i)*10:=by rw[dg,b3,<-em]
 have a8:∀ j v,y[j]?=C v->a6[j]?=C v:=λj v h=>by
  have V:=(List.getElem?_eq_some_iff.1 h).1;rw[<-d2,df (by omega)]at h;rw[<-dr];exact h
 have b6:(y.take (i*10)).length=i*10:=by rw[bm,b3];omega
 have a3:(du i0.size i (a1 (C ⟨g,0,B⟩) i A)).run am w.drew=.ok (y.take (i*10)).toArray w.drew:=by
  rw[d5];exact run_firstCells_some (P:=am) w.drew 10 i ⟨g,0,B⟩ i A (y.take (i*10)) b6 (λj v V=>by
   rw[bx,ep];rw[List.getElem?_take]at V;split at V;·exact(zB (show w.drew.heap[g]?=_ from hg) j).trans (a8 _ _ V)
   .cases V)
 have b7:(n:ah)+1-(i:ah)=((n+1-i:E):ah):=by omega
 have a9:i+(n+1-i)=n+1:=by omega
 obtain⟨F,hG⟩:∃ F,F=grownCap w (n+1) A 40:=⟨_,rfl⟩
 obtain⟨Z,hZ⟩:∃ Z:aw,Z=ay #[R G 0,R G 0,a0 ba,a0 ba,a0 ba,a0 ba,a0 ba,R G 0,R G 0,a1 B 0 0]:=⟨_,rfl⟩
 obtain⟨o,I⟩:∃ o:az aw,o=(y.take (i*10)).toArray++da Z.cells (n+1-i)++da Z.cells (F-(n+1)):=⟨_,rfl⟩
 have b8:∀ O J,J=(n:ah)+1-(i:ah)->(Builtin.append_ #[51,3] O #[a1 (C ⟨g,0,B⟩) i A,R G J]).run am w=.ok (a1 (C ⟨w,0,B⟩) (n+1) F) (w.drew.alloc (ae o 40)):=λO J e=>by
  have h:=Lib.run_append_grow_zeros (P:=am) w 51 3 O 40 i0 _ G G br fa d3 d4 (C ⟨g,0,B⟩) i A (y.take (i*10)) a3 (n+1-i) (by omega) (by omega) (by omega) (by omega) (by rw[b5];omega) (by rw[b5,a9];exact growslice_fits a7 (by omega));rw[a9]at h;rw[e,b7,I,hG,hZ];exact h
 have d6:n+1<=F:=by rw[hG];exact grownCap_ge w _ _ _
 have b9:F<=maxLen:=by rw[hG];exact grownCap_le_maxLen w (n+1) A 40 (by unfold bd;omega)
 have b0:o.size=F*10:=by
  rw[I,hZ];simp[da,Value.cells,b6];omega
 have d0:o.toList.take (i*10)=y.take (i*10):=by
  rw[I];simp only[Array.toList_append,cp];rw[di (by omega),dj,Nat.min_self]
 clear I hZ b7 a9 hG a3;obtain⟨U,Y⟩:∃ U,U=(w.alloc (ae o 40)).drew:=⟨_,rfl⟩
 have F1:Fr No w U:=by rw[Y];exact((ap No w).alloc _).drew
 have n1:U.heap[(w:E)]?=C (ae o 40):=by rw[Y];exact zF w.drew _
 have b1:d.vals.toList.length=10:=rfl;have a4:∀ O J dc,J=n+1-i->(ca #[51,51] O #[a1 (C ⟨w,i*10,B⟩) J dc,a1 (C ⟨b,0,B⟩) 1 1]).run am U=.ok (goInt (1:E)) (U.setRow (w:E) (ao o.toList (i*10) d.vals.toList).toArray):=λO J dc e1=>
  zBY U 51 51 O 40 10 (w:E) (i*10) J dc ⟨b,0,B⟩ 1 1 o 40 d.vals.toList br zDG n1 1 (by subst e1;simp only[ct];split<;>omega) rfl
   (λj v V=>by rw[bx,zB (F1.heap hb id)];simpa using V) (by rw[b1,b0];omega) (zAb d)
 have n2:=cg U (w:E) o (ao o.toList (i*10) d.vals.toList).toArray 40 (0,0) n1;have f2:=Fr.setRow (S:=Is (w:E)) U (w:E) (ao o.toList (i*10) d.vals.toList).toArray rfl;have b2:(ao o.toList (i*10) d.vals.toList).length=F*10:=(cx _ _ _ (by rw[b1,bz];omega)).trans (Array.length_toList.trans b0);have hF:ai ((ao (ao o.toList (i*10) d.vals.toList) ((i+1)*10) (y.drop (i*10))).take ((n+1)*10)=y.take (i*10)++(d.vals.toList++y.drop (i*10))):=by
  unfold ai;rw[show (n+1)*10=i*10+(n-i)*10+10 by omega,zHL (L:=o.toList) (cs:=y.drop (i*10)) (d:=d.vals.toList) (i:=i) (n:=(n-i)*10) (z:=10) b1 X (by rw[bz];omega),d0]
 have F2:Fr No w (U.setRow (w:E) (ao o.toList (i*10) d.vals.toList).toArray):=F1.step f2 (λb hb h=>by omega);generalize (U.setRow (w:E) (ao o.toList (i*10) d.vals.toList).toArray)=W2 at *;generalize ao o.toList (i*10) d.vals.toList=row2 at *;have a5:∀ (W:ab),Fr No W2 W->∀ O J dc sl sc,J=n-i->sl=n-i->(ca #[51,51] O #[a1 (C ⟨w,(i+1)*10,B⟩) J dc,a1 (C ⟨g,i*10,B⟩) sl sc]).run am W=.ok (goInt (n-i:E)) (W.setRow (w:E) (ao row2 ((i+1)*10) (y.drop (i*10))).toArray):=λW hW O J dc sl sc e1 e2=>
  zBY W 51 51 O 40 10 (w:E) ((i+1)*10) J dc ⟨g,i*10,B⟩ sl sc row2.toArray 40 (y.drop (i*10)) br zDG (hW.heap n2 id) (n-i) (by simp only[ct];split<;>omega) X
   (λj v V=>by
    rw[de]at V;rw[bx,zB (hW.heap (F2.heap hg id) id)];exact a8 _ v V)
   (by rw[X,cr,b2];omega) (λv hv=>b4 v (ee hv))
 have HN:=zg3 n2 F2 b2;clear n1 n2 f2 F1 F2 b2 d0 b0 a8 b4;go_enter dl,dm;go_upto_region 10 with(at_builtin;refine Lib.wpList_append_run _ rfl _ _ _ _ rfl _ _ rfl rfl _ _ (b8 _ _ (by omega)) ?_)
 rw[<-Y];clear Y b8;go_upto_region 11 with(at_builtin;refine cz _ rfl _ _ 51 51 rfl _ _ rfl rfl (a4 _ _ _ (by omega)) ?_)
 refine zO (Is (w:E)) [(0,af),(1,af),(2,af),(3,af),(4,af),(5,af),(6,af),(7,af),(8,ag)] (by kernel_rfl) (by kernel_rfl) (λw3 a2=>?_);have h3:=a5 w3 a2;have F3:=HN.2.1.step a2 zi;have n3:=cg w3 (w:E) row2.toArray (ao row2 ((i+1)*10) (y.drop (i*10))).toArray 40 (0,0) (a2.heap HN.1 id);have f3:=Fr.setRow (S:=Is (w:E)) w3 (w:E) (ao row2 ((i+1)*10) (y.drop (i*10))).toArray rfl;have d1:(ao row2 ((i+1)*10) (y.drop (i*10))).toArray.size=F*10:=(cx _ _ _ (by have:=HN.2.2;rw[X];omega)).trans HN.2.2;have H3:=zg4 n3 f3 d1 (F3.step f3 (λb hb h=>by omega));clear n3 f3 d1 F3 a4 a5 a2;(repeat apply zR rfl rfl rfl;intro e5 hK;go_big_quiet_op;go_big_quiet_on);apply zt rfl;go_wp2_with (at_builtin;refine cz _ rfl _ _ 51 51 rfl _ _ rfl rfl (h3 _ _ _ _ _ (by omega) (by omega)) ?_)
 apply zf H3.2.1;apply zb;clear h3;generalize ao row2 ((i+1)*10) (y.drop (i*10))=row3 at *;go_wp2;go_ret;exact⟨F,_,rfl,H3.1,hF,H3.2.2.1,d6,b9,H3.2.2.2⟩
theorem zFy (o b:E)(a:ar au)(n v i:E)(F:aj aw)(d:Dev)(w:ab)(y:w.ownsRow o 40 10 (a1 a n v) n F)(I:∀ u∈F,u.oneCell'=ag)(hn:n<=100000)(hi:i<=n)(V:w.heap[b]?=C (ae d.vals 40))(z:o<=(w:E))(X:∀ ad,a=C ad->b≠ad.block):
  ax am 93 #[a1 a n v,R G (i:ah),a1 (C ⟨b,0,B⟩) 1 1] w λe w'=>(∃ O U,e=.returned (a1 O (n+1) U)/\w'.ownsRow o 40 10 (a1 O (n+1) U) (n+1) (F.take (i*10)++(d.vals.toList++F.drop (i*10))))/\Fr (λb=>(bf a n v).ownBlock=C b) w w':=by
 by_cases he:i=n
 .subst he;apply (zEl o b a i v F d w y hn V z).mono;rintro e w' ⟨⟨O,U,rfl,h⟩,J⟩;refine⟨⟨O,U,rfl,?_⟩,J⟩;rw[bo (by rw[y.1];omega),List.drop_of_length_le (by rw[y.1];omega),List.append_nil];exact h
 .have Y:=y.1;have hL:(F.take (i*10)++(d.vals.toList++F.drop (i*10))).length=(n+1)*10:=by
   rw[cc,cc,bm,dg,Y,show d.vals.toList.length=10 from rfl];omega
  obtain⟨_,⟨_,h2⟩|⟨g,c,N,h1,hg,hk,h3,h4,h5,h6⟩⟩:=y;·omega
  .cases h1;by_cases hr:n+1<=v
   .apply (zER o g b v n i N F d w hk h6 Y I h5 hr h4 (by omega) V (X _ rfl)).mono;rintro e w' ⟨rfl,⟨A,Z,k2,k3⟩,J⟩;exact⟨⟨_,_,rfl,hL,.inr ⟨g,v,A,rfl,hg,Z,hr,h4,k3,k2⟩⟩,J.mono (λb _ h=>by unfold Is at h;rw[h];rfl)⟩
   .apply (zES g b v n i N F d w hk h6 Y I h3 (by omega) hn (by omega) V).mono;rintro e w' ⟨a2,A,rfl,Z,k2,k3,k4,k5,J⟩;exact⟨⟨_,_,rfl,hL,.inr ⟨_,a2,A,rfl,z,Z,k4,k5,k3,k2⟩⟩,J.mono (λb _ h=>h.elim)⟩
def rngB (d:Dev):Bool:=decide (1<=d.index)&&decide (d.index<=1073741824)&&(decide (0<=d.parent)&&decide (d.parent<=1073741824))&&!(d.parent==d.index)
structure Sound (d:Dev)(l:aj (ak×ak)):Prop where
 rng:rngB d=ag
 named:namedB d=ag
 same:(d.name.toList==d.orig.toList)=ag
 num:(decide (1<=d.num)&&decide (d.num<=1073741824))=ag
 attrs:l.all attrOk=ag
 link:zEJ (nodeOf d.orig)=ag
theorem Sound.orig (h:Sound d l):isName d.orig=true:=by
 have:=h.named;unfold namedB at this;simp only[bi]at this;exact this.1.1.2
theorem Sound.oklen (h:Sound d l):d.orig.size<=32:=(zAg h.orig).1
theorem zFH (d:Dev)(l:aj (ak×ak))(m:ah)(w:ab)(hs:Sized d)(hl:Atts w d.aa d.ac l)(h1:l.length<=1)(u:d.an=l.length)(hk:d.kind=2)(hd:d.drv=())(h:Sound d l)(hm:w.cell? ⟨3,0,B⟩=C (R G m))(h0:3<(w:E)):
  ax am 90 #[ay d.vals] w λe w'=>e=.returned (R G 0)/\Fr No w w':=by
 obtain⟨W0,v,hx,q0⟩:=zy w (ae d.vals 40);have b0:=h.oklen;have K1:=zh (λW=>zPG d W hs hd);have K2:=zh (λW=>zPH d W hk);have K3:=zh (λW=>zLX d W hk);have K4:=zh (λ(W:ab) (V:Fr No w W)=>zF0 d.aa d.ac l W (hl.no V (λ_=>id)) h1);have K5:=zh (λ(W:ab) (V:Fr No w W)=>zLY d m W (by omega) (V.cell hm id) (ck h0 V.size));have K6:=zh (λ(W:ab) (V:Fr No w W)=>zPw (nodeOf d.orig) m W (zEE _ (by omega)) (V.cell hm id) (ck h0 V.size));have X:numK d.kind=true:=by rw[hk];rfl
 have Z:nodeR d=nodeOf d.orig:=by unfold nodeR;rw[X];rfl
 rw[Z,X]at K5;rw[h.named]at K1;rw[h.same]at K2;rw[h.num]at K3;rw[h.attrs]at K4;rw[h.link]at K6;have Y:=h.rng;unfold rngB at Y;simp only[bi]at Y;have a2:(decide (1<=d.index)&&decide (d.index<=1073741824))=true:=by simp only[bi];exact Y.1.1
 have a3:(decide (0<=d.parent)&&decide (d.parent<=1073741824))=true:=by simp only[bi];exact Y.1.2
 have b1:(d.parent==d.index)=false:=by simpa using Y.2
 have K7:=zh (λW=>zFz d.index 1 1073741824 W);have K8:=zh (λW=>zFz d.parent 0 1073741824 W);rw[a2]at K7;rw[a3]at K8;have b2:=hl.lenmax;have b3:¬ (24:ah)<l.length:=by omega
 generalize nodeOf d.orig=nd at *;obtain⟨y,c1,z,A,F,I,J,N,O,o⟩:=DevB.of q0;have U:=zh u;rw[u]at o;unfold bg at v K1 K2 K3 K5 ⊢;rw[u]at v K1 K2 K3 K5 ⊢;clear Y a2 a3 h X Z hm hl hs hk hd u;go_enter Tryz.func90,Tryz.ntmps90;go_upto_region 1 with(fail)
 rw[<-v];clear v;go_wp2_with fail;apply (K7 _).mono;rintro e w1 ⟨rfl,rfl⟩;go_wp2_with fail;apply (K8 _).mono;rintro e w1 ⟨rfl,rfl⟩;go_wp2_with fail;apply (K1 _).mono;rintro e w1 ⟨rfl,a4⟩;have q1:=a4.heap q0 id;have x1:=hx.step a4 zi;clear y c1 z A F I J N O o q0;obtain⟨y,c1,z,A,F,I,J,N,O,o⟩:=DevB.of q1;rw[U]at o;go_wp2_with fail;apply (K2 _).mono;rintro e w2 ⟨rfl,a5⟩;have q2:=a5.heap q1 id;have x2:=x1.step a5 zi;clear y c1 z A F I J N O o q1;obtain⟨y,c1,z,A,F,I,J,N,O,o⟩:=DevB.of q2;rw[U]at o;go_wp2_with fail;apply (K3 _).mono;rintro e w3 ⟨rfl,a6⟩;have q3:=a6.heap q2 id;have x3:=x2.step a6 zi;clear y c1 z A F I J N O o q2;obtain⟨y,c1,z,A,F,I,J,N,O,o⟩:=DevB.of q3;rw[U]at o;go_wp2_with fail;apply (K4 _ x3).mono;rintro e w4 ⟨rfl,a7⟩;have q4:=a7.heap q3 id;have x4:=x3.step a7 zi;clear y c1 z A F I J N O o q3;obtain⟨y,c1,z,A,F,I,J,N,O,o⟩:=DevB.of q4;rw[U]at o;go_wp2_with fail;apply (K5 _ x4).mono;rintro e w5 ⟨rfl,a8⟩;have q5:=a8.heap q4 id;have x5:=x4.step a8 zi;clear y c1 z A F I J N O o q4;go_wp2_with fail;apply (K6 _ x5).mono;rintro e w6 ⟨rfl,a9⟩;have x6:=x5.step a9 zi;go_wp2;go_ret;exact⟨rfl,x6⟩
structure InsPre (ds:aj Dev)(d:Dev)(l:aj (ak×ak)):Prop where
 snd:Sound d l
 new:look ds d.index=B
 par:((d.parent==0)||(look ds d.parent).isSome)=ag
 len:ds.length<256
 dep:depthB (newO ds d)<=7
def insK (ds:aj Dev)(d:Dev):E:=if fidx (zAB ds (newO ds d)) ds<0 then ds.length else (fidx (zAB ds (newO ds d)) ds).toNat
def sameO (ds:aj Dev)(d:Dev):Bool:=match ds[insK ds d]? with|some x=>(plc ds x.index).toList==(newO ds d).toList|none=>af
def zGB (w w':ab)(ds:aj Dev)(d:Dev)(e:Ending):Prop:=
 ∃ a' c' ds',e=.returned (.tuple #[ay #[a1 a' ds'.length c'],R G 0])/\Devs w' a' c' ds'/\BlkT w' a' 40/\(∀ ad,a'=C ad->(w:E)<=ad.block)/\Cop w w' (w:E) (insAt ds (insK ds d) d) ds'
def InsTk (w w':ab)(ds:aj Dev)(d:Dev)(e:Ending):Prop:=(sameO ds d||ds.any (clP d))=ag/\e=.returned (.tuple #[ay #[a1 B 0 0],R G 44])
theorem zCl (ds:aj Dev)(d:Dev):(fidx (zAB ds (newO ds d)) ds=-1/\insK ds d=ds.length)\/(fidx (zAB ds (newO ds d)) ds=(insK ds d:ah)/\insK ds d<ds.length):=by
 unfold insK;rcases zAp (zAB ds (newO ds d)) ds with⟨h,_⟩|⟨k,x,h,o,_⟩
 .left;rw[h];exact⟨rfl,rfl⟩
 .right;have:=(List.getElem?_eq_some_iff.1 o).1;rw[h,if_neg (by omega)];exact⟨by simp,by simpa using this⟩
theorem zIp (a b:aj Dev):flat (a++b)=flat a++flat b:=List.flatMap_append
theorem zEP (k:E):∀ l:aj Dev,(flat l).take (k*10)=flat (l.take k)/\(flat l).drop (k*10)=flat (l.drop k):=by
 induction k with
 | zero=>intro l;simp[flat]
 | succ k h=>
  intro l;cases l with
  | nil=>simp[flat]
  | cons x t=>
   have e:(k+1)*10=x.vals.toList.length+k*10:=(by rw[show x.vals.toList.length=10 from rfl];omega);have f:flat (x::t)=x.vals.toList++flat t:=rfl;rw[f,e,List.take_length_add_append,List.drop_length_add_append,(h t).1,(h t).2];exact⟨rfl,rfl⟩
theorem zLO (cs:aj Dev)(k:E)(d:Dev):(flat cs).take (k*10)++(d.vals.toList++(flat cs).drop (k*10))=flat (insAt cs k d):=by
 unfold insAt;rw[zIp,(zEP k cs).1,(zEP k cs).2];rfl
theorem zGo (h:k<=ds.length)(d:Dev)(i:E):(insAt ds k d)[i]?=if i<k then ds[i]? else if i=k then C d else ds[i-1]?:=by
 unfold insAt;rw[List.getElem?_append,bm,cu h];split;·rename_i o;rw[df o]
 .rename_i o;split;·rename_i e;subst e;simp
  .rename_i u;obtain⟨j,rfl⟩:∃ j,i=k+1+j:=⟨i-k-1,by omega⟩
   rw[show k+1+j-k=j+1 by omega,ed,de,show k+1+j-1=k+j by omega]
theorem Cop.ins {y:aj Dev}{A:Dev}(h:Cop w w' o ds y)(I:Cop1 w w' o d A)(J:k<=ds.length):Cop w w' o (insAt ds k d) (insAt y k A):=by
 have N:=h.len;refine⟨by rw[zCm,zCm,N],λi x F e u=>?_⟩;rw[zGo J]at e;rw[zGo (by omega)]at u;split at e;·rename_i z;rw[if_pos z]at u;exact h.el i x F e u
 .rename_i z;rw[if_neg z]at u;split at e;·rename_i v;rw[if_pos v]at u;cases e;cases u;exact I
  .rename_i v;rw[if_neg v]at u;exact h.el (i-1) x F e u
theorem SMap.look {u:E}{g:ah->ar ak}{N:E}(h:SMap w u g N){k:ah}(z:(cj G k).wf=ag):(dd 110 (.map (C u)) (.int G k) af).run am w=.ok (.string ((g k).getD ⟨#[]⟩)) w:=by
 obtain⟨D,n,_,A,_,F⟩:=h;obtain⟨v,J,o,I⟩:=A.lookup lawI Tryz.underlying110 (zeroS w) (plainElem_string fb (by unfold bd;show 0<=_;omega)) (keyOf_int_mk fa z);obtain⟨s,rfl,y,_⟩:=plainElem_string_inv fb I;simp only[Prod.mk.injEq]at y;have e:=(F k).symm.trans y.1;obtain rfl:s=(g k).getD ⟨#[]⟩:=zDe (by simpa using e.symm);exact o
theorem zD3 {o:bc}{S:ab->Prop}{y:aq->Prop}{z:bh}(m x:Operand)(t:cf)(u:o.op=Op.lookup t m x z)(A F v:aw)(I:a.eval m=A)(J:a.eval x=F)
  (h:∀ W,S W->(dd t A F z).run am W=.ok v W) (N:y (a.put o.dst v)):o.quiet am a S y:=by
 refine⟨v,λW O=>?_,N⟩;unfold er;simp[execOp,u,I,J,h W O,Result.andThen,Oper.quietUpon]
theorem Cop1.src {v:ab}{y:Dev}(h:Cop1 v w' o d y)(A:Fr No w v)(u:∃ l,Atts w d.aa d.ac l/\d.an=l.length)(V:base'<=o):Cop1 w w' base' d y:=by
 obtain⟨l,F,I,J,N⟩:=h.att;obtain⟨O,z,X⟩:=u;have e:O=l:=(z.no A (λ_=>id)).det F (by omega);exact⟨h.eq,⟨l,by rw[<-e];exact z,I,J,N⟩,h.typ,λU e=>by have:=h.fresh U e;omega⟩
theorem Cop.src (h:Cop y w' o ds u)(A:Fr No w y)(v:∀ d∈ds,∃ l,Atts w d.aa d.ac l/\d.an=l.length)(F:base'<=o):Cop w w' base' ds u:=
 ⟨h.len,λi d I z J=>(h.el i d I z J).src A (v d (bn z)) F⟩
theorem zDp (a:ar au)(o:E)(ds:aj Dev)(i4:E)(d:Dev)(l:aj (ak×ak))(m:ah)(w:ab)(hl:Tr w i4 a o ds)(hs:Sized d)(hA:Atts w d.aa d.ac l)(h1:l.length<=1)(d6:d.an=l.length)(hk:d.kind=2)(hd:d.drv=())(l1:(cj G d.parent).wf=ag)(l2:(cj G d.index).wf=ag)(A:InsPre ds d l)(hm:w.cell? ⟨3,0,B⟩=C (.int G m))(h0:3<(w:E)):
  ax am 43 #[ay #[.slice a ds.length o],ay d.vals] w λe w'=>(InsTk w w' ds d e\/(sameO ds d||ds.any (clP d))=af/\zGB w w' ds d e)/\Fr No w w':=by
 have hT:=hl.wf.ok;have hn:=A.len;obtain⟨W0,b0⟩:∃ W0,W0=((w.alloc (ae #[.slice a ds.length o] 53)).alloc (ae d.vals 40)).alloc (ae #[.slice B 0 0] 53):=⟨_,rfl⟩
 have fx:Fr No ((w.alloc (ae #[.slice a ds.length o] 53)).alloc (ae d.vals 40)) W0:=by rw[b0];exact(ap _ _).alloc _
 have O:Fr No w W0:=by rw[b0];exact(((ap _ _).alloc _).alloc _).alloc _
 have q0:=fx.heap (zP w (ae #[.slice a ds.length o] 53) (ae d.vals 40)) id;have q1:=fx.heap (zS w (ae #[.slice a ds.length o] 53) (ae d.vals 40)) id;have q2:W0.heap[(w:E)+1+1]?=C (ae #[.slice B 0 0] 53):=by
  have:=zF ((w.alloc (ae #[.slice a ds.length o] 53)).alloc (ae d.vals 40)) (ae #[.slice B 0 0] 53);rw[cw,cw]at this;rw[b0];exact this
 clear fx;have b6:=zCX a o ds W0 (hl.dv.no O (λ_=>id)) hT (by omega);have o0:=zC q2;have Z:W0.cell? ⟨w,0,B⟩=C (.slice a ds.length o):=zB q0 0
 -- what the callees answer
 have i5:(ogs ds d.parent).getD ⟨#[]⟩=plc ds d.parent:=zC9 hT d.parent;have i6:(ogs ds d.parent).isSome=(look ds d.parent).isSome:=by rw[zFh hT];exact Option.isSome_map
 have l3:(ogs ds d.index).getD ⟨#[]⟩=():=by rw[zFh hT,A.new];rfl
 have l4:(ogs ds d.index).isSome=false:=by rw[zFh hT,A.new];rfl
 have i7:=zIN hT (by omega) d.parent;have n5:=A.snd.oklen;have n6:(newO ds d).size<=33100:=by
  unfold newO;rw[ByteArray.size_append,ByteArray.size_append];show _+1+_<=_
  omega
 have K1:=zh (λ(W:ab) (U:Fr No w W)=>zFH d l m W hs (hA.no U (λ_=>id)) h1 d6 hk hd A.snd (U.cell hm id) (ck h0 U.size));have K2:=zh (λ(W:ab) (U:Fr No w W)=>zJK (newO ds d) m W (by omega) (U.cell hm id));have K3:=zh (λ(W:ab) (U:Fr No w W)=>zDM a o ds d m W (hl.dv.no U (λ_=>id)) (λx O=>by have:=hT.sz x O;omega) (by omega) (U.cell hm id) (ck h0 U.size));have K4:=zh (λ(W:ab) (U:Fr No w W)=>zCM a o ds W (hl.dv.no U (λ_=>id)) (by omega) (λx O=>by
  obtain⟨l',g1,g2,g3⟩:=(hl.el x O).att;exact⟨l',g1.no U (λ_=>id),g2,g3⟩))
 have K5:=zh (λ(W:ab) (U:Fr No w W)=>zBf d l W (hA.no U (λ_=>id)) d6 (by omega));obtain⟨F,hF⟩:∃ F,F=fidx (zAB ds (newO ds d)) ds:=⟨_,rfl⟩
 obtain⟨z,b7⟩:∃ z,z=insK ds d:=⟨_,rfl⟩
 have g8:=zCl ds d;rw[<-hF,<-b7]at g8;have K6:ai (∀ (m1 m2 bv bs:E) (W:ab),Fr No w W->W.heap[bv]?=C (ae #[.slice a ds.length o,.map (C m1),.map (C m2)] 112)->SMap W m2 (ogs ds) ds.length->W.cell? ⟨bs,0,B⟩=C (.string (newO ds d))->ax am 87 #[.slice a ds.length o,.func (.func 88) #[] #[be (C ⟨bv,0,B⟩),be (C ⟨bs,0,B⟩)]] W λe w'=>e=.returned (.int G F)/\Fr No W w'):=by
  intro m1 m2 bv bs W U hv hS hb;have:=zBr 88 #[be (C ⟨bv,0,B⟩),be (C ⟨bs,0,B⟩)] (λ_ _=>rfl) (zAB ds (newO ds d)) a o ds W (hl.dv.no U (λ_=>id)) (λx O W' d7=>zLD x ds a o m1 m2 bv bs (newO ds d) m W' hT (by omega) (by omega) O (d7.heap hv id) (hS.fr d7 id) (d7.cell hb id) ((U.step d7 zi).cell hm id));rw[<-hF]at this;exact this
 have n7:¬ (7:ah)<(depthB (newO ds d):E):=by have:=A.dep;omega
 have n8:¬ (256:ah)<=ds.length:=by omega
 obtain⟨SB,b8⟩:∃ SB,SB=sameO ds d:=⟨_,rfl⟩
 obtain⟨CB,d8⟩:∃ CB,CB=ds.any (clP d):=⟨_,rfl⟩
 rw[<-d8]at K3;have i8:ai ((z=ds.length->SB=af)/\∀ x,ds[z]?=C x->∀ P,P=plc ds x.index->SB=(P.toList==(newO ds d).toList)):=⟨λe=>by
  rw[b8];unfold sameO;rw[<-b7,e,List.getElem?_eq_none (bq _)],λx O P e=>by rw[b8];unfold sameO;rw[<-b7,O,e]⟩
 have e8:ai (∀ w' e,InsTk w w' ds d e\/(SB||CB)=af/\zGB w w' ds d e->InsTk w w' ds d e\/(sameO ds d||ds.any (clP d))=af/\zGB w w' ds d e):=λw' e h=>by rw[<-b8,<-d8];exact h
 have l5:ai (∀ w' e,(SB||CB)=ag->e=Ending.returned (.tuple #[ay #[.slice B 0 0],.int G 44])->InsTk w w' ds d e):=λw' e h1 h2=>⟨by rw[<-b8,<-d8];exact h1,h2⟩
 have l6:=zh b7;have i9:z<=ds.length:=by rcases g8 with h|h<;>omega
 clear b8 d8 hF b7;have b9:=A.par;have e9:ai (newO ds d=plc ds d.parent++⟨#[47]⟩++d.orig):=rfl;have o1:=hl.dv.lenmax;obtain⟨P,hP⟩:∃ P,P=plc ds d.parent:=⟨_,rfl⟩
 obtain⟨bp,g9⟩:∃ bp,bp=(look ds d.parent).isSome:=⟨_,rfl⟩
 rw[<-hP]at i5 e9 i7;rw[<-g9]at i6 b9;generalize newO ds d=og at *;generalize hD:depthB og=D at *;have HT:=zh hT;have HL:=zh hl;have o2:=zh A;have HA:=zh hA;have j0:=zh d6;clear hP g9 hD hl hT A hA hs hk hd hm d6;unfold bg at b0 K1 K3 K5 ⊢;go_enter Tryz.func43,Tryz.ntmps43;go_upto_region 1 with(fail)
 rw[<-b0];clear b0;go_wp2_with fail;apply b6.mono;rintro e w1 ⟨⟨m1,m2,rfl,o3,o4,o5,hI,hS⟩,h4⟩;clear b6 hI Z;obtain⟨W1,j1,h5,b1⟩:=zy w1 (ae #[.slice a ds.length o,.map (C m1),.map (C m2)] 112);have d9:Fr No W0 W1:=h4.step h5 zi;have p0:=d9.heap q0 id;have p1:=d9.heap q1 id;have p2:=d9.heap q2 id;have e4:=hS.fr h5 id;have x1:Fr No w W1:=O.step d9 zi;have o6:=h4.size;clear q0 q1 q2 h4 h5 hS;have Z:W1.cell? ⟨w,0,B⟩=C (.slice a ds.length o):=zB p0 0;have v2:W1.cell? ⟨w1,2,B⟩=C (.map (C m2)):=zB b1 2;obtain⟨c0,c1,V,c3,c4,c5,c6,c7,c8,c9⟩:=DevB.of p1;go_upto_region 2 with(fail)
 rw[<-j1];clear j1;obtain⟨W2,h6,I,b2⟩:=zy W1 (ae #[.string og] 9);have x2:Fr No w W2:=x1.step I zi;have k6:=K6.out m1 m2 (w1:E) (W1:E) W2 x2 (I.heap b1 id) (e4.fr I id) (zB b2 0);have r0:=I.heap p0 id;have r1:=I.heap p1 id;have r2:=I.heap p2 id;rw[e9]at h6;go_upto_region 5 with(first
  | (at_lookup;refine zDi rfl _ _ 110 rfl rfl m2 _ _ d.parent l1 rfl e4 rfl P i5 bp i6 ?_)
  | (at_lookup;refine zDi rfl _ _ 110 rfl rfl m2 _ _ d.index l2 rfl e4 rfl () l3 af l4 ?_))
 rw[<-h6];have HV:=zg2 (I.heap b1 id) (e4.fr I id);clear h6 c0 c1 V c3 c4 c5 c6 c7 c8 c9 Z v2 p0 p1 p2 I b1;have Z:W2.cell? ⟨w,0,B⟩=C (.slice a ds.length o):=zB r0 0;go_wp2_with fail;apply k6.mono;rintro e w3 ⟨rfl,b3⟩;have x3:Fr No w w3:=x2.step b3 zi;have s0:=b3.heap r0 id;have s1:=b3.heap r1 id;have s2:=b3.heap r2 id;have s4:=b3.heap b2 id;clear Z k6 r0 r1 r2 b2;have Z:w3.cell? ⟨w,0,B⟩=C (.slice a ds.length o):=zB s0 0;obtain⟨c0,c1,V,c3,c4,c5,c6,c7,c8,c9⟩:=DevB.of s1;go_upto_if 41 with(fail)
 go_cut [12] (λv wx=>v=.int G (z:ah)/\w3=wx);case first=>
  rcases g8 with⟨h1,h2⟩|⟨h1,h2⟩
  .have H2:=zh h2;have l7:F<0:=(by omega);clear h2 h1;go_wp2;go_meet;exact⟨by rw[H2],rfl⟩
  .have l7:¬ F<0:=by omega
   have H1:=zh h1;clear h1;go_wp2;go_meet;exact⟨by rw[H1],rfl⟩
 case rest=>
  obtain⟨rfl,rfl⟩:=hcut;go_wp2_with fail;apply (K1 _ x3).mono;rintro e w4 ⟨rfl,b4⟩;have x4:Fr No w w4:=x3.step b4 zi;have r0:=b4.heap s0 id;have r1:=b4.heap s1 id;have r2:=b4.heap s2 id;have r4:=b4.heap s4 id;clear c0 c1 V c3 c4 c5 c6 c7 c8 c9 Z s0 s1 s2 s4;have Z:w4.cell? ⟨w,0,B⟩=C (.slice a ds.length o):=zB r0 0;have t4:w4.cell? ⟨W1,0,B⟩=C (.string og):=zB r4 0;obtain⟨c0,c1,V,c3,c4,c5,c6,c7,c8,c9⟩:=DevB.of r1;go_upto_region 12 with(fail)
  go_cut [53] (λv wx=>v=.bool af/\w4=wx);case first=>
   rcases hq:(d.parent==0)with _|_
   .rw[hq]at b9;have l8:(d.parent != 0)=true:=(by simp[bne,hq]);have g9:bp=true:=(by simpa using b9);go_wp2;go_meet;exact⟨rfl,rfl⟩
   .have l8:(d.parent != 0)=false:=(by simp[bne,hq]);go_wp2;go_meet;exact⟨rfl,rfl⟩
  case rest=>
   obtain⟨rfl,rfl⟩:=hcut;go_wp2_with fail;apply (K2 _ x4).mono;rintro e w5 ⟨rfl,b5⟩;have x5:Fr No w w5:=x4.step b5 zi;have s0:=b5.heap r0 id;have s1:=b5.heap r1 id;have s2:=b5.heap r2 id;have s4:=b5.heap r4 id;clear c0 c1 V c3 c4 c5 c6 c7 c8 c9 Z t4 r0 r1 r2 r4;have Z:w5.cell? ⟨w,0,B⟩=C (.slice a ds.length o):=zB s0 0;have fV:Fr No W2 w5:=(b3.step b4 zi).step b5 zi;have j2:=zg2 (fV.heap HV.1 id) (HV.2.fr fV id);go_upto_region 18 with(fail)
   go_cut [73] (λv wx=>v=.bool SB/\ai (Fr No w5 wx));case first=>
    refine zO No [(0,af),(1,af),(2,af),(3,af),(4,af),(5,af),(6,af),(7,af),(8,af),(9,af),(10,af),(11,af),(12,af),(13,af),(14,af),(15,af),(16,af),(17,af),(18,af)] (by kernel_rfl) (by kernel_rfl) (λw6 u=>?_);have e0:=u.heap s0 id;have Z:∀ g:Gr No w6,g.W.cell? ⟨w,0,B⟩=C (.slice a ds.length o):=λg=>g.fr.cell (zB e0 0) id
    have j3:=zh u;by_cases l9:z<ds.length
    .obtain⟨bb,m0,x,m3,O,y0,_⟩:=(HL.dv.no (x5.step u zi) (λ_=>id)).dev l9;have j4:=bn O;have j5:=HT.iwf j4;obtain⟨Px,h7⟩:∃ Px,Px=plc ds x.index:=⟨_,rfl⟩
     have m4:=zh (i8.2 x O Px h7);have j6:=u.heap j2.1 id;have j7:=j2.2.fr u id;have m5:∀ W,(∃ g:Gr No w6,W=g.W)->(dd 110 (.map (C m2)) (.int G x.index) af).run am W=.ok (.string Px) W:=λW hW=>by
      obtain⟨g,rfl⟩:=hW;rw[(j7.fr g.fr id).look j5,h7,zC9 HT]
     have n9:(z:ah)<ds.length:=(by omega);have z0:∀ g:Gr No w6,g.W.cell? ⟨bb,m0+z*10,B⟩=C (.int G x.index):=λg=>g.fr.cell y0 id
     have z2:∀ g:Gr No w6,g.W.cell? ⟨w1,2,B⟩=C (.map (C m2)):=λg=>g.fr.cell (zB j6 2) id
     have z4:∀ g:Gr No w6,g.W.cell? ⟨W1,0,B⟩=C (.string og):=λg=>g.fr.cell (zB (u.heap s4 id) 0) id
     clear O j4 h7 y0 j7 j6 e0 u;subst m3;(repeat(first|apply zR rfl rfl rfl|apply zT rfl rfl rfl);intro i3 hK;go_big_quiet_op;go_big_quiet_on);apply zR rfl rfl rfl;intro i3 hK;refine zD3 _ _ 110 rfl (.map (C m2)) (.int G x.index) _ rfl rfl m5 ?_
     go_frame
     go_big_quiet_on;(repeat(first|apply zR rfl rfl rfl|apply zT rfl rfl rfl);intro i3 hK;go_big_quiet_op;go_big_quiet_on);apply zb;go_wp2;go_meet;exact⟨by rw[m4],j3⟩
    .have j8:z=ds.length:=(by omega);have m6:=zh (i8.1 j8);have o7:¬ (z:ah)<ds.length:=(by omega);clear j8 e0 u;(repeat(first|apply zR rfl rfl rfl|apply zT rfl rfl rfl);intro i3 hK;go_big_quiet_op;go_big_quiet_on);apply zb;go_wp2;go_meet;exact⟨by rw[m6],j3⟩
   case rest=>
    obtain⟨rfl,u⟩:=hcut;obtain⟨w6,j9⟩:∃ w6,w6=wc:=⟨_,rfl⟩
    rw[<-j9]at u ⊢;clear j9;have x6:Fr No w w6:=x5.step u zi;have r0:=u.heap s0 id;have r1:=u.heap s1 id;have r2:=u.heap s2 id;clear Z s0 s1 s2 s4;go_upto_if 73 with(fail)
    go_cut [73] (λv wx=>v=.bool (SB||CB)/\ai (Fr No w6 wx));case first=>
     have Z:w6.cell? ⟨w,0,B⟩=C (.slice a ds.length o):=zB r0 0;obtain⟨c0,c1,V,c3,c4,c5,c6,c7,c8,c9⟩:=DevB.of r1;cases SB with
     | true=>
      go_wp2;go_meet;exact⟨rfl,ap _ _⟩
     | false=>
      go_wp2_with fail;apply (K3 _ x6).mono;rintro e w7 ⟨rfl,J⟩;have H7:=zh J;clear J;go_wp2;go_meet;exact⟨rfl,H7⟩
    case rest=>
     obtain⟨rfl,J⟩:=hcut;obtain⟨w7,k0⟩:∃ w7,w7=wc:=⟨_,rfl⟩
     rw[<-k0]at J ⊢;clear k0;have x7:Fr No w w7:=x6.step J zi;have s0:=J.heap r0 id;have s1:=J.heap r1 id;have s2:=J.heap r2 id;clear r0 r1 r2 J;rcases hsc:(SB||CB)with _|_
     .skip;go_wp2_with fail;refine zO (λb=>(w7:E)<=b\/b=(w:E)+1+1) [(0,af),(1,af),(3,af),(4,af),(2,ag),(5,ag),(6,ag),(7,ag),(8,af),(9,ag),(10,af)] (by kernel_rfl) (by kernel_rfl) (λw8 d0=>?_);have x8:Fr No w w8:=x7.step d0 zi;have u0:=d0.heap s0 id;have u1:=d0.heap s1 id;have u2:=d0.heap s2 id;have o8:=d0.size;have o9:=zC s2;clear s0 s1 s2;have Z:∀ g:Gr (λb=>(w7:E)<=b\/b=(w:E)+1+1) w8,g.W.cell? ⟨w,0,B⟩=C (.slice a ds.length o):=λg=>zB (g.fr.heap u0 (λh=>by omega)) 0
      have cB:∀ g:Gr (λb=>(w7:E)<=b\/b=(w:E)+1+1) w8,DevB g.W ((w:E)+1) d:=λg=>DevB.of (g.fr.heap u1 (λh=>by omega))
      have c0:=λg=>(cB g).c0
      have c1:=λg=>(cB g).c1
      have V:=λg=>(cB g).c2
      have c3:=λg=>(cB g).c3
      have c4:=λg=>(cB g).c4
      have c5:=λg=>(cB g).c5
      have c6:=λg=>(cB g).c6
      have c7:=λg=>(cB g).c7
      have c8:=λg=>(cB g).c8
      have c9:=λg=>(cB g).c9
      clear cB;(repeat(first|apply zR rfl rfl rfl|apply zT rfl rfl rfl);intro i3 hK;go_big_quiet_op;go_big_quiet_on);clear c0 c1 V c3 c4 c5 c6 c7 c8 c9 Z;apply zt rfl;go_wp2_with fail;apply (K4 _ x8).mono;rintro e w9 ⟨⟨v,cs,rfl,a5,d1⟩,d2⟩;have h8:=d1.len;rw[h8]at a5;obtain⟨av,cv,rfl⟩:=zJ a5;have x9:Fr No w w9:=x8.step d2 zi;have m7:=zh h8;have k3:=zh d1;have a6:=zh a5;clear h8 d1 a5;go_wp2_with fail;apply zm d2;apply zt rfl;go_wp2_with fail;apply (K5 _ x9).mono;rintro e e5 ⟨⟨a',c',rfl,k4,k5,g4⟩,X⟩;have h9:=zg3 k4 k5 g4;clear k4 k5 g4;go_wp2_with fail;apply zm X;apply zt rfl;obtain⟨e6,d3,d4,m8⟩:=zy e5 (ae (bg { d with aa:=a',ac:=c' }) 40);unfold bg at d3;go_wp2_with fail;apply zp;rw[<-d3];clear d3;have Y:Fr No w9 e6:=X.step d4 zi;have g5:=zFy (w8:E) (e5:E) av ds.length cv z (flat cs) { d with aa:=a',ac:=c' } e6 (zG a6 Y (λ_ _=>id)) (zNA cs) (by omega) i9 m8 (by have h1:=d2.size;have h2:=X.size;have h3:=d4.size;omega) (λad e h=>by have h1:=(zAF a6 (by rw[e];rfl:(bf av ds.length cv).ownBlock=C ad.block)).2;have h2:=X.size;omega);apply zt rfl;go_wp2_with fail;apply g5.mono;rintro e d5 ⟨⟨a2,V,rfl,N⟩,a7⟩;rw[zLO]at N;have i0:∀ b,(bf av ds.length cv).ownBlock=C b->(w8:E)<=b:=λb hb=>zQ a6 hb
      have a8:=zh N;have y2:=a7.heap (Y.heap (d2.heap u2 id) id) (λh=>by have:=i0 _ h;omega);have f0:=zD y2 0;have g0:d5.cell? ⟨(w:E)+1+1,0,B⟩=C (.slice B 0 0):=zB y2 0;clear g5 N;go_wp2_with fail;refine cl ⟨a7.mono (λb _ h=>by have:=i0 b h;omega),?_⟩;(repeat(first|apply zR rfl rfl rfl|apply zT rfl rfl rfl);intro i3 hK;go_big_quiet_op;go_big_quiet_on);apply zt rfl;go_wp2_with fail;have e7:Fr (Is ((w:E)+1+1)) d5 (d5.setCell ⟨(w:E)+1+1,0,B⟩ (.slice a2 (ds.length+1) V)):=ci (ap _ _) _;refine cl ⟨e7.mono (λb _ h=>by omega),?_⟩;(repeat(first|apply zR rfl rfl rfl|apply zT rfl rfl rfl);intro i3 hK;go_big_quiet_op;go_big_quiet_on);apply zb;have y3:=zE y2 0 (.slice a2 (ds.length+1) V);have g3:(d5.setCell ⟨(w:E)+1+1,0,B⟩ (.slice a2 (ds.length+1) V)).cell? ⟨(w:E)+1+1,0,B⟩=C (.slice a2 (ds.length+1) V):=zB y3 0;have zz:(w8:E)<=(w9:E)/\(w9:E)<=(e5:E)/\(e5:E)<=(e6:E):=⟨d2.size,X.size,d4.size⟩
      generalize d5.setCell ⟨(w:E)+1+1,0,B⟩ (.slice a2 (ds.length+1) V)=W13 at *;clear g0 f0 y2 y3;go_wp2_with fail;refine cn (v:=.tuple #[ay #[.slice a2 (ds.length+1) V],.int G 0]) (by simp[cy,f5,go_sem,g3]) rfl ?_;have a4:(insAt cs z { d with aa:=a',ac:=c' }).length=ds.length+1:=(by rw[zCm,m7]);have a9:W13.ownsRow (w8:E) 40 10 (.slice a2 (ds.length+1) V) (insAt cs z { d with aa:=a',ac:=c' }).length (flat (insAt cs z { d with aa:=a',ac:=c' })):=by
       rw[a4];exact zG a8 e7 (λb hb h=>by have:=zQ a8 hb;omega)
      obtain⟨a3,c3,hv,hD,k7⟩:=Devs.of_own a9;have m9:=zAP a9;injection hv with e1 e2 e3
      subst e1;subst e3;have k8:Cop w8 e6 (w8:E) (insAt ds z d) (insAt cs z { d with aa:=a',ac:=c' }):=by
       refine(k3.fr Y (λ_ _ _ _=>id)).ins ⟨rfl,⟨l,HA.no x8 (λ_=>id),h9.1.no d4 (λ_=>id),j0,by omega⟩,h9.2.1.fr d4 (λ_ _=>id),λad e=>by have:=h9.2.2 ad e;omega⟩ i9
      have g6:=k8.own (zG a6 Y (λ_ _=>id)) a7;have g7:Cop w8 W13 (w8:E) (insAt ds z d) (insAt cs z { d with aa:=a',ac:=c' }):=g6.fr e7 (λx O ad e h=>by
       obtain⟨y,_,hy⟩:=g6.mem O;have:=hy.fresh ad e;unfold Is at h;omega)
      have n3:=x8.size;have k9:∀ x∈insAt ds z d,∃ l,Atts w x.aa x.ac l/\x.an=l.length:=by
       intro x O;rcases zV.1 O with h|h
       .subst h;exact⟨l,HA,j0⟩
       .obtain⟨l',g1,g2,_⟩:=(HL.el x h).att;exact⟨l',g1,g2⟩
      rw[l6]at g7 k9 a4 hD;refine⟨e8 _ _ (.inr ⟨hsc,⟨a2,V,insAt cs (insK ds d) { d with aa:=a',ac:=c' },by rw[a4],hD,m9,λad e=>by have:=k7 ad e;omega,g7.src x8 k9 n3⟩⟩),?_⟩;have l0:Fr No w W13:=(((x9.step Y zi).step a7 (λb hb h=>by have:=i0 b h;omega)).step e7 (λb hb h=>by omega))
      exact l0
     .have n4:=zh hsc;have z2:w7.cell? ⟨(w:E)+1+1,0,B⟩=C (.slice B 0 0):=zB s2 0;have f2:=zD s2 0;have f8:Fr (Is ((w:E)+1+1)) w7 (w7.setCell ⟨(w:E)+1+1,0,B⟩ (.slice B 0 0)):=ci (ap _ _) _;have z3:(w7.setCell ⟨(w:E)+1+1,0,B⟩ (.slice B 0 0)).cell? ⟨(w:E)+1+1,0,B⟩=C (.slice B 0 0):=zB (zE s2 0 (.slice B 0 0)) 0;have H8:=zh (x7.step f8 (λb hb h=>by omega));clear f8 hsc;go_wp2_with fail;refine cn (v:=.tuple #[ay #[.slice B 0 0],.int G 44]) (by simp[cy,f5,go_sem,z3]) rfl ?_;exact⟨e8 _ _ (.inl (l5 _ _ n4 rfl)),H8⟩
section
variable {P:bu}{ops:az bc}{Q:Exit->aq->ab->Prop}{md:et}{S S':ab->Prop}{n:E}
def wpAnyX (P:bu)(md:et)(ops:az bc)(Q:Exit->aq->ab->Prop)(S:ab->Prop)(n:E):E->az bh->aq->ab->Prop
 | 0,listed,a,w=>bj md ops listed=[]/\Q .normal a w
 | fuel+1,listed,a,w=>(bj md ops listed=[]->Q .normal a w)/\
  ∀ i∈bj md ops listed,wpOp P ops Q i (λa' w'=>(i≠n->S w')/\wpAnyX P md ops Q S n fuel (listed.setIfInBounds i ag) a' w') a w
theorem zC3 : ∀ (fuel:E) (o:az bh) (a:aq) (w:ab),wpAnyX P md ops Q S n fuel o a w->wpAny P md ops Q fuel o a w
 | 0,_,_,_,h=>h
 | fuel+1,_,_,_,h=>⟨h.1,λi u=>dq (λv w' y=>zC3 fuel _ v w' y.2) (h.2 i u)⟩
theorem zC1 (h:∀ W,S W->S' W):∀ (fuel:E) (o:az bh) (a:aq) (w:ab),wpAnyX P md ops Q S n fuel o a w->wpAnyX P md ops Q S' n fuel o a w
 | 0,_,_,_,u=>u
 | fuel+1,_,_,_,u=>⟨u.1,λi y=>dq (λz w' v=>⟨λe=>h _ (v.1 e),zC1 h fuel _ z w' v.2⟩) (u.2 i y)⟩
theorem zDL {U:bc}{v:aw}(hi:ops[i]?=C U)(J:∀ (j:E) (o:bc) cs b,ops[j]?=C o->o.op≠.select cs b)
  (hQ:∀ c a w,Q (.panic c) (a.put U.dst v) w->Q (.panic c) a w) (hn:∃ o,ops[n]?=C o/\∃ e∈o.after,cd md e=ag/\e.on=i):
  ∀ (y:E) (u:az bh) (a:aq) (w:ab),
   (∀ j V,ops[j]?=C V->j≠i->u.getD j ag=af->(∀ e∈V.after,cd md e=ag->e.on≠i)->U.apart ops V=ag)->
   i∈bj md ops u->YieldsIf P ops S U v a->S w->
   wpAnyX P md ops Q S n y (u.setIfInBounds i ag) (a.put U.dst v) w->wpAnyX P md ops Q S n (y+1) u a w:=by
 intro y
 induction y with
 | zero=>
  intro u a w _ X hy hS H;refine⟨λh=>(by rw[h]at X;cases X),λj hj=>?_⟩;by_cases z:j=i;·subst z;exact hy.wpOp hi hS ⟨λ_=>hS,H⟩
  .have:=dn hj z;rw[H.1]at this;cases this
 | succ y ih=>
  intro u a w A X hy hS H;refine⟨λh=>(by rw[h]at X;cases X),λj hj=>?_⟩;by_cases z:j=i;·subst z;exact hy.wpOp hi hS ⟨λ_=>hS,H⟩
  .have Y:=H.2 j (dn hj z);obtain⟨N,V,F,a2⟩:=mem_ready.1 hj;have O:∀ e∈V.after,cd md e=ag->e.on≠i:=λe he hb a5=>by
    have Y:=a2 e he hb;have h0:=(mem_ready.1 X).1;rw[a5]at Y;rcases Nat.lt_or_ge i u.size with h'|h'
    .simp[h']at h0 Y;rw[h0]at Y;cases Y
    .simp[Array.getElem?_eq_none h']at Y
   have a6:j≠n:=λe=>by
    obtain⟨o,h2,d,Z,h4,h5⟩:=hn;rw[e,h2]at F;cases F;exact O d Z h4 h5
   have h2:=wpOp_putIf F (A j V F z N O) (λcs b=>J i U cs b hi) (λcs b=>J j V cs b F) hQ hy Y;have I:∀ k ok,ops[k]?=C ok->k≠i->(u.setIfInBounds j ag).getD k ag=af->
     (∀ e∈ok.after,cd md e=ag->e.on≠i)->U.apart ops ok=true:=λk ok hk a7 a3 a8=>by
    refine A k ok hk a7 ?_ a8;by_cases a4:j=k;·subst a4;exact N
    .rw[getD_set_ne ag a4]at a3;exact a3
   refine dq (λa' w' Z=>⟨Z.2.1,ih (u.setIfInBounds j ag) a' w' I (dn X (Ne.symm z)) Z.1 (Z.2.1 a6) ?_⟩) h2;rw[Array.setIfInBounds_comm _ _ z];exact Z.2.2
end
def onLast (ops:az bc)(n i:E):Bool:=match ops[n]? with|none=>af|some o=>o.after.any λe=>cd .any e&&e.on==i
theorem zEB {u:az bc}(h:onLast u n i=ag):∃ o,u[n]?=C o/\∃ e∈o.after,cd .any e=ag/\e.on=i:=by
 unfold onLast at h;split at h;·cases h
 .rename_i o v;simp only[Array.any_eq_true,bi,cm]at h;obtain⟨k,y,z,A⟩:=h;exact⟨o,v,_,Array.getElem_mem y,z,A⟩
def schedX (ops:az bc)(n:E):Sg->az bh->bh
 | .fin,listed=>(bj .any ops listed).isEmpty
 | .q i s,listed=>(bj .any ops listed).contains i&&Region.free .any ops listed i&&onLast ops n i&&schedX ops n s (listed.setIfInBounds i ag)
 | .m1 i s,listed=>(bj .any ops listed==[i])&&(i != n||s.size==0)&&schedX ops n s (listed.setIfInBounds i ag)
 | .m2 i s j s',listed=>(bj .any ops listed==[i,j])&&i != n&&j != n&&(s'.size==s.size)&&schedX ops n s (listed.setIfInBounds i ag)&&schedX ops n s' (listed.setIfInBounds j ag)
 | .m3 ..,_=>af
def wpMx (P:bu)(l:aj bc)(T:E->Prop)(n i:E)(K:aq->ab->Prop)(a:aq)(w:ab):Prop:=
 match nth l i with
 | none=>False
 | some o=>ch P l.toArray (OnlyN λa' w'=>(i≠n->Fr T w w')/\K a' w') [o] a w
def wpSx (P:bu)(l:aj bc)(M:aq->ab->Prop)(T:E->Prop)(n:E):Sg->aq->ab->Prop
 | .fin,a,w=>M a w
 | .q i s,a,w=>match nth l i with
  | none=>False
  | some o=>zBB o.op=ag/\(if ex o (yielded l.toArray a.tmps)=ag then ∃ v,zG9 P o a (Cls T w) v/\wpSx P l M T n s (a.put o.dst v) w else wpSx P l M T n s (a.put o.dst undef) w)
 | .m1 i s,a,w=>wpMx P l T n i (wpSx P l M T n s) a w
 | .m2 i s j s',a,w=>wpMx P l T n i (wpSx P l M T n s) a w/\wpMx P l T n j (wpSx P l M T n s') a w
 | .m3 ..,_,_=>False
section
variable {P:bu}{M:aq->ab->Prop}
theorem zHY {l:aj bc}{F:aq->ab->Prop}{v:E}{u:az bh}(h:wpMx P l T n i F a w)
  (I:∀ y w',F y w'->(i≠n->Fr T w w')->wpAnyX P .any l.toArray (OnlyN M) (Fr T w) n v (u.setIfInBounds i ag) y w'):
  wpOp P l.toArray (OnlyN M) i (λy w'=>(i≠n->Fr T w w')/\wpAnyX P .any l.toArray (OnlyN M) (Fr T w) n v (u.setIfInBounds i ag) y w') a w:=by
 unfold wpMx at h;cases ho':nth l i with
 | none=>rw[ho']at h;exact h.elim
 | some o=>
  rw[ho']at h;dsimp only at h;have J:l.toArray[i]?=C o:=by rw[cq,<-zE5];exact ho'
  unfold wpOp;simp only[J];unfold ch at h;split
  .rename_i z;rw[if_pos z]at h;rcases h with h|⟨_,h⟩
   .exact .inl (Oper.wp_mono (λy w' A=>⟨A.1,I _ _ A.2 A.1⟩) (zHC h))
   .obtain⟨_,_,h⟩:=h;exact h.elim
  .rename_i z;rw[if_neg z]at h;exact⟨h.1,I _ _ h.2 h.1⟩
theorem zLy {l:aj bc}{o:az bh}(v:bj .any l.toArray o=[])(h:M a w):∀ u,wpAnyX P .any l.toArray (OnlyN M) (Fr T w) n u o a w
 | 0=>⟨v,h⟩
 | _+1=>⟨λ_=>h,by rw[v];simp⟩
theorem anyTX {l:aj bc}{T:E->Prop}{n:E}(I:dk l.toArray=ag):∀ (σ:Sg) (u:az bh) (a:aq) (w:ab),
  schedX l.toArray n σ u=ag->wpSx P l M T n σ a w->wpAnyX P .any l.toArray (OnlyN M) (Fr T w) n σ.size u a w
 | .fin,u,a,w,z,h=>zLy (by simpa [schedX]using z) h 0
 | .q i s,u,a,w,z,h=>by
  simp only[schedX,bi]at z;obtain⟨⟨⟨A,F⟩,hl⟩,y⟩:=z;simp only[wpSx]at h;cases hn:nth l i with
  | none=>rw[hn]at h;exact h.elim
  | some o=>
   rw[hn]at h;have V:l.toArray[i]?=C o:=(by rw[cq,<-zE5];exact hn);obtain⟨hv,h⟩:=h;split at h
   .rename_i Y;obtain⟨v,hy,h⟩:=h;exact zDL V (ew I) (λ_ _ _ h=>h.elim) (zEB hl) _ _ _ _ (eu V F) (by simpa using A) (.inl ⟨Y,λW J=>hy W ⟨⟨W,J⟩,rfl⟩⟩) (ap _ _) (anyTX I s _ _ w y h)
   .rename_i Y;exact zDL V (ew I) (λ_ _ _ h=>h.elim) (zEB hl) _ _ _ _ (eu V F) (by simpa using A) (.inr ⟨by simpa using Y,rfl⟩) (ap _ _) (anyTX I s _ _ w y h)
 | .m1 i s,u,a,w,z,h=>by
  simp only[schedX,bi,cm]at z;obtain⟨⟨A,Z⟩,y⟩:=z;refine⟨λO=>(by rw[A]at O;cases O),λj X=>?_⟩;rw[A]at X;obtain rfl:j=i:=by simpa using X
  refine zHY h (λU w' N F=>?_);by_cases e:j=n
  .cases s with
   | fin=>exact⟨by simpa [schedX]using y,N⟩
   | _=>simp[e,Sg.size]at Z
  .exact zC1 (λW J=>(F e).step J zi) _ _ _ _ (anyTX I s _ U w' y N)
 | .m2 i s j s',u,a,w,z,h=>by
  simp only[schedX,bi,cm,bne_iff_ne]at z;obtain⟨⟨⟨⟨⟨A,hi⟩,X⟩,Z⟩,y⟩,a2⟩:=z;refine⟨λO=>(by rw[A]at O;cases O),λx hx=>?_⟩;rw[A]at hx;simp only[List.mem_cons,List.not_mem_nil,or_false]at hx;by_cases e:x=i;·subst e;exact zHY h.1 (λU w' N F=>zC1 (λW J=>(F hi).step J zi) _ _ _ _ (anyTX I s _ U w' y N))
  .obtain rfl:x=j:=hx.resolve_left e;refine zHY h.2 (λU w' N F=>?_);have:=anyTX I s' _ U w' a2 N;rw[Z]at this;exact zC1 (λW J=>(F X).step J zi) _ _ _ _ this
end
section
variable {P:bu}{M:aq->ab->Prop}{T:E->Prop}{l:aj bc}{σ σ':Sg}{a:aq}{w:ab}{n:E}
theorem zIL {z:E}{Q:Exit->aq->ab->Prop}(n:E)(T:E->Prop)(σ:Sg)(M:aq->ab->Prop)(A:P.follows .mixedOrders=ag)
  (o:(dk l.toArray&&(σ.size==l.length)&&schedX l.toArray n σ (dt l.toArray.size af))=ag)
  (h:∀ u,Fr No w u->wpSx P l M T n σ a u) (F:∀ v w',M v w'->Q .normal v w'):(dw z l.toArray ag).wp P Q a w:=by
 simp only[bi,cm]at o;have y:=anyTX (M:=M) o.1.1 σ _ a w.drew o.2 (h _ ((ap No w).drew));have I:l.toArray.size=σ.size:=by simp[o.1.2]
 rw[<-I]at y;refine wp_mono (wp_region_any A (zC3 _ _ _ _ y)) λe a w h=>?_
 cases e<;>first|exact F _ _ h|exact h.elim
theorem zCP {r m:E}{J:E}{Q:Exit->aq->ab->Prop}(n:E)(T:E->Prop)(σ:Sg)(M:aq->ab->Prop)(v:P.follows .mixedOrders=ag)
  (u:(dk l.toArray&&(σ.size==l.length)&&schedX l.toArray n σ (dt l.toArray.size af)&&zFi l)=ag)
  (h:∀ y,Fr No w y->wpSx P l M T n σ a y) (N:∀ z w',M z w'->Q .normal z w'):(dw J l.toArray ag).wpIn (Fence.wide.inRound r) m P Q a w:=by
 simp only[bi,cm]at u;have A:=anyTX (M:=M) u.1.1.1 σ _ a w.drew u.1.2 (h _ ((ap No w).drew));have O:l.toArray.size=σ.size:=by simp[u.1.1.2]
 rw[<-O]at A;have U:=zC3 _ _ _ _ A;have V:∀ (i:E) (o:bc),l.toArray[i]?=C o->∀ c,o.op≠Op.defer c:=λi o F c X=>by
  have v:o∈l:=by rw[cq]at F;exact bn F
  have I:=List.all_eq_true.1 u.2 o v;rw[X]at I;cases I
 refine wpIn_mono (Q:=OnlyN M) (wpIn_region_draw λt=>?_) λe a w h=>?_
 .simp only[Region.schedule,v,Bool.true_or,if_true];exact zB9 V _ _ _ (wpAny_sound l.toArray.size t _ a _ U)
 .cases e<;>first|exact N _ _ h|exact h.elim
theorem zGI (h:M a w):wpSx P l M T n .fin a w:=h
theorem tx_q {o:bc}(I:nth l i=C o)(A:zBB o.op=ag)(J:ex o (yielded l.toArray a.tmps)=ag)
  (h:∀ F:aq->Prop,(∀ z,wpSx P l M T n σ z w->F z)->o.quiet P a (λW=>∃ g:Gr T w,W=g.W) F):wpSx P l M T n (.q i σ) a w:=by
 obtain⟨v,N,O⟩:=h (λz=>wpSx P l M T n σ z w) (λ_ h=>h);simp only[wpSx,I,J,if_true];refine⟨A,v,λW U=>?_,O⟩;have y:=N W U;unfold er at y;cases hr:(execOp a.eval o).run P W with
 | halt x V=>rw[hr]at y;exact y.elim
 | ok n V=>
  obtain⟨u,rfl⟩:=zBT a.eval o A hr;rw[hr]at y;obtain⟨X,Y⟩:=y;rw[X,Y]
theorem zQT {o:bc}{u:aq->ab->Prop}(v:nth l i=C o)(h:ch P l.toArray (OnlyN λy w'=>(i≠n->Fr T w w')/\u y w') [o] a w):wpMx P l T n i u a w:=by
 unfold wpMx;rw[v];exact h
theorem zBE {o:bc}(u:nth l i=C o)(h:ch P l.toArray (OnlyN λv w'=>(i≠n->Fr T w w')/\wpSx P l M T n σ v w') [o] a w):wpSx P l M T n (.m1 i σ) a w:=zQT u h
end
theorem zI {T:cf}{u:E}(F:w.ownsRow o e u v n A){cs:az aw}(I:w.heap[b]?=C (ae cs T))(z:T≠e):¬ v.ownBlock=C b:=by
 intro h;obtain⟨_,⟨rfl,_⟩|⟨g,J,N,rfl,O,y,_⟩⟩:=F;·cases h
 .cases h;rw[I]at y;cases y;exact z rfl
def kcs (a:ar au)(n cap:E)(ev:ar au)(en ec:E)(ix:ah):az aw:=#[a1 a n cap,a1 B 0 0,a1 B 0 0,a1 ev en ec,R G ix]
theorem zHg (F:E)(a:ar au)(h o:E)(ds:aj Dev)(ev:ar au)(en ec:E)(ix u n:ah)(w:ab)(Y:w.heap[F]?=C (ae (kcs a ds.length h ev en ec ix) 60))(Z:Tr w o a h ds)(hn:ds.length<=1000)(hx:(cj G n).wf=ag)(y:∀ d∈ds,d.name.size<=1000):
  ax am 45 #[be (C ⟨F,0,B⟩),.int G u,.int G n] w λe w'=>(∃ s,e=.returned (ay #[.int G 0,.int G u,.int G n,.string s,.string ()]))/\Fr No w w':=by
 obtain⟨W0,z,I,b0⟩:=zy w (ae #[.int G 0,.int G 0,.int G 0,.string (),.string ()] 101);have k0:W0.cell? ⟨F,0,B⟩=C (.slice a ds.length h):=zB (I.heap Y id) 0;have hp:=zKF a h o ds n W0 (Z.no I) hn hx y;clear y Z Y hx;go_enter Tryz.func45,Tryz.ntmps45;go_upto_region 1 with(fail)
 rw[<-z];clear z;go_wp2_with fail;apply hp.mono;rintro e w1 ⟨⟨s,b,rfl⟩,A⟩;have J:=A.heap b0 id;obtain⟨z0,z1,z2,z3,z4⟩:=cl5 J;obtain⟨y0,y1,y2,y3,y4⟩:=fl5 J;have hf:∀ N O U V X,Fr No w (((((w1.setCell ⟨w,0,B⟩ N).setCell ⟨w,1,B⟩ O).setCell ⟨w,2,B⟩ U).setCell ⟨w,3,B⟩ V).setCell ⟨w,4,B⟩ X):=λN O U V X=>
  (I.step A zi).step (T:=Is (w:E)) (((((ap _ _).setAt N).setAt O).setAt U).setAt V |>.setAt X) (λb hb e=>by omega)
 have Hf:=zh hf;clear hf hp b0 J k0;go_wp2_with fail;refine cn (v:=ay #[.int G 0,.int G u,.int G n,.string s,.string ()]) (by simp[cy,Tryz.results45,go_sem,z0,z1,z2,z3,z4]) rfl ?_;exact⟨⟨s,rfl⟩,Hf _ _ _ _ _⟩
theorem infoE: (Tryz.prog.info? 101).map (λi=>(i.zero,i.size,i.bytes))=C (C (ay #[R G 0,R G 0,R G 0,a0 ba,a0 ba]),5,56):=by kernel_rfl
structure Evs (w:ab)(a:ar au)(n:E)(xs:aj aw):Prop where
 isNil:a=B->n=0
 src:∀ ad,a=C ad->ad.spot=B/\ad.block<(w:E)/\∀ j u,xs[j]?=C u->w.cell? ⟨ad.block,ad.off+j,B⟩=C u
 el:∀ i,i<n->∃ (q c x:ah) (p y:ak),xs[i*5]?=C (R G q)/\xs[i*5+1]?=C (R G c)/\xs[i*5+2]?=C (R G x)/\xs[i*5+3]?=C (a0 p)/\xs[i*5+4]?=C (a0 y)
theorem Evs.fr {a:ar au}{v:aj aw}(h:Evs w a n v)(y:Fr S w w')(z:∀ o,a=C o->¬ S o.block):Evs w' a n v:=
 ⟨h.isNil,λo e=>⟨(h.src o e).1,ck (h.src o e).2.1 y.size,λj u A=>y.cell ((h.src o e).2.2 j u A) (z o e)⟩,h.el⟩
def KFr (kb:E)(v:aw)(w w':ab):Prop:=Fr (λb=>b=kb\/v.ownBlock=C b) w w'/\∀ v' b,w'.cell? ⟨kb,3,B⟩=C v'->v'.ownBlock=C b->v.ownBlock=C b\/(w:E)<=b
theorem KFr.src {W:ab}(u:Fr No w W)(h:KFr o v W w'):KFr o v w w':=
 ⟨(u.mono zn).step h.1 zi,λy b z A=>(h.2 y b z A).imp id (λF=>ej u.size F)⟩
def EmRes (w':ab)(kb base:E)(a:ar au)(n cap en:E)(ix:ah):Prop:=∃ ev' ec' xs',w'.heap[kb]?=C (ae (kcs a n cap ev' en ec' ix) 60)/\w'.ownsRow base 101 5 (a1 ev' en ec') en xs'
theorem zLC (A F:E)(a:ar au)(n Z:E)(ev:ar au)(J ec:E)(ix:ah)(es:ar au)(ne ce:E)(us:aj aw)(xs:aj aw)(w:ab)(hk:w.heap[A]?=C (ae (kcs a n Z ev J ec ix) 60))(a6:w.ownsRow F 101 5 (a1 ev J ec) J xs)(e5:J<=100000000)(e6:ne<=10000)(hE:Evs w es ne us)(d2:F<=(w:E))
  (b5:∀ O,es=C O->O.block≠A/\¬ (bf ev J ec).ownBlock=C O.block):
  ax am 44 #[be (C ⟨A,0,B⟩),a1 es ne ce] w λe w'=>e=.returned (.tuple #[])/\EmRes w' A F a n Z (J+ne) ix/\KFr A (a1 ev J ec) w w':=by
 obtain⟨i0,d3,d4,d5,d6⟩:=co infoE;have e7:=zC hk;have HE:=zg2 hE b5;have HO:=zh a6;have HK:=zh hk;clear hE b5;go_enter Tryz.func44,Tryz.ntmps44;go_wp2_with fail;go_loopw [8] (λv wr=>∃ (j M:E) (o:ar au) (z:E) (a9:aj aw),j<=ne/\v=R G (j:ah)/\ai (M=J+j)/\ai (wr.heap[A]?=C (ae (kcs a n Z o M z ix) 60))/\ai (wr.ownsRow F 101 5 (a1 o M z) M a9)/\ai (∀ b,(bf o M z).ownBlock=C b->(bf ev J ec).ownBlock=C b\/(w:E)<=b)/\ai (Fr (λb=>b=A\/(bf ev J ec).ownBlock=C b) w wr)) (λv _=>ne-(bt v).toNat);case atStart=>exact⟨0,J,ev,ec,xs,by omega,rfl,rfl,HK,HO,λb h=>.inl h,ap _ _⟩
 case round=>
  obtain⟨j,M,o,z,a9,hj,rfl,hM,U,b0,b4,a2⟩:=hrel;clear a6 hk;by_cases d7:j<ne
  .have b6:(j:ah)<ne:=by omega
   have e8:M<=200000000:=(by have:=hM.out;omega);have a3:=HE.1.fr a2 (λO e h=>h.elim (HE.2 O e).1 (HE.2 O e).2);obtain⟨q,c,x,p,y,u0,u1,u2,u3,u4⟩:=a3.el j d7;obtain⟨O,rfl⟩:∃ O,es=C O:=by
    cases es with
    | none=>have:=a3.isNil rfl;omega
    | some O=>exact⟨O,rfl⟩
   obtain⟨eb,eo,e9⟩:=O;obtain⟨b7,d8,hs⟩:=a3.src _ rfl;dsimp only at b7 d8 hs;subst b7;have e0:=hs _ _ u0;have e1:=hs _ _ u1;have e2:=hs _ _ u2;have e3:=hs _ _ u3;have e4:=hs _ _ u4;rw[<-Nat.add_assoc]at e1 e2 e3 e4;have k3:wr.cell? ⟨A,3,B⟩=C (a1 o M z):=zB U 3;clear hs u0 u1 u2 u3 u4 a3;obtain⟨W1,b8,x1,b1⟩:=zy wr (ae #[R G q,R G c,R G x,a0 p,a0 y] 101);go_upto_region 3 with(fail)
   rw[<-b8];clear b8 e0 e1 e2 e3 e4 k3;have k3:W1.cell? ⟨A,3,B⟩=C (a1 o M z):=zB (x1.heap U id) 3;have e0:W1.cell? ⟨wr,0,B⟩=C (R G q):=zB b1 0;have f0:W1.frozen? ⟨wr,0,B⟩=false:=zD b1 0;obtain⟨W2,a4⟩:∃ W2,W2=W1.setCell ⟨wr,0,B⟩ (R G ((M:ah)+1)):=⟨_,rfl⟩
   have x2:Fr (Is (wr:E)) W1 W2:=(by rw[a4];exact ci (ap _ _) _);have b2:W2.heap[(wr:E)]?=C (ae #[R G ((M:ah)+1),R G c,R G x,a0 p,a0 y] 101):=(by rw[a4];exact zE b1 0 _);have a5:ai (Fr No wr W2):=x1.step x2 (λb hb e=>by omega);go_upto_region 4 with(fail)
   rw[<-a4];clear a4 k3 e0 f0 b1 x1 x2;have g0:(w:E)<=(wr:E):=a2.size;have g1:(wr:E)<=(W2:E):=a5.size;refine zIL 10 (λb=>(bf o M z).ownBlock=C b) (.q 0 (.q 1 (.q 2 (.q 3 (.q 4 (.q 5 (.m1 6 (.m1 7 (.m1 8 (.q 9 (.m1 10 .fin))))))))))) _ (by kernel_rfl) (by kernel_rfl) (λW3 N=>?_) zj;have g2:=N.size;have k4:=N.heap (a5.heap U id) id;have V:=(zG b0 a5 (λ_ _=>id)) |> λh=>zG h N (λ_ _=>id)
   have b3:=N.heap b2 id;have nk:=zI V k4 (by decide);have nb:¬ (bf o M z).ownBlock=C (wr:E):=λh=>by have:=(zAF b0 h).2;omega
   have z3:∀ g:Gr (λb=>(bf o M z).ownBlock=C b) W3,g.W.cell? ⟨A,3,B⟩=C (a1 o M z):=λg=>zB (g.fr.heap k4 nk) 3
   have bB:=λg:Gr (λb=>(bf o M z).ownBlock=C b) W3=>g.fr.heap b3 nb
   have e0:=λg=>zB (bB g) 0
   have e1:=λg=>zB (bB g) 1
   have e2:=λg=>zB (bB g) 2
   have e3:=λg=>zB (bB g) 3
   have e4:=λg=>zB (bB g) 4
   simp only[cq,List.getElem?_cons_zero,ed]at e0 e1 e2 e3 e4;have d9:=zh N;clear bB N b2 b3;(repeat apply tx_q rfl rfl rfl;intro g3 hK;go_big_quiet_op;go_big_quiet_on);clear e0 e1 e2 e3 e4;have al:=(ap No W3).alloc (ae #[R G ((M:ah)+1),R G c,R G x,a0 p,a0 y] 101);have a7:=zG V al (λ_ _=>id);have k5:=al.heap k4 id;have b9:=zh al;clear V k4 al;apply zBE rfl;go_wp2_with fail;refine cl ⟨λ_=>b9.mono zn,?_⟩;apply zBE rfl;go_wp2_with (at_builtin;refine wpList_append_own_at _ rfl _ _ 58 rfl F 101 i0 (ay #[R G 0,R G 0,R G 0,a0 ba,a0 ba]) 5 56 Tryz.underlying58 d3 d4 d5 d6 rfl (by decide) _ _ _ rfl a7 ⟨W3,0,B⟩ 1 1 [R G ((M:ah)+1),R G c,R G x,a0 p,a0 y] rfl rfl (ze _ #[R G ((M:ah)+1),R G c,R G x,a0 p,a0 y] _ rfl) (λu hu=>by simp at hu;rcases hu with rfl|rfl|rfl|rfl|rfl<;>rfl) (by unfold bd;omega) (by omega) (by rw[cw];omega) ?_;intro v' w6 I d0 _ d1;obtain⟨X,Y,rfl⟩:=zJ I)
   have gf:Fr (λb=>(bf o M z).ownBlock=C b) (W3.alloc (ae #[R G ((M:ah)+1),R G c,R G x,a0 p,a0 y] 101)) w6:=db d0;apply zf gf;have k6:=gf.heap k5 nk;have n6:=zI I k6 (by decide);have t6:w6.cell? ⟨A,3,B⟩=C (a1 o M z):=zB k6 3;have f6:w6.frozen? ⟨A,3,B⟩=false:=zD k6 3;have x7:Fr (Is A) w6 (w6.setCell ⟨A,3,B⟩ (a1 X (M+1) Y)):=ci (ap _ _) _;have k7:(w6.setCell ⟨A,3,B⟩ (a1 X (M+1) Y)).heap[A]?=C (ae (kcs a n Z X (M+1) Y ix) 60):=zE k6 3 _;have a8:=zG I x7 (λb hb h=>by unfold Is at h;subst h;exact n6 hb);have ff:Fr (λb=>b=A\/(bf o M z).ownBlock=C b) wr (w6.setCell ⟨A,3,B⟩ (a1 X (M+1) Y)):=((((a5.step d9 zi).step b9 zi).mono zn).step gf (λb _ h=>.inr h)).step x7 (λb _ h=>.inl h);have HR:=zg4 k7 a8 d1 ff;clear a7 I d0 gf k5 k6 n6 x7 k7 a8 ff d1 nk nb;apply zBE rfl;go_wp2_with fail;refine cl ⟨λ_=>ap _ _,?_⟩;(repeat apply tx_q rfl rfl rfl;intro g3 hK;go_big_quiet_op;go_big_quiet_on);apply zBE rfl;go_wp2_with fail;refine cl ⟨λh=>(h rfl).elim,?_⟩;apply zGI;clear z3 t6 f6;go_wp2;go_roundw;case rel=>exact⟨j+1,M+1,X,Y,_,by omega,by go_num,by have:=hM.out;show M+1=J+(j+1);omega,HR.1,HR.2.1,λb hb=>by
    rcases HR.2.2.1 with h|h
    .exact b4.out b (h▸hb)
    .right;have h5:=hb.symm.trans h;simp only[Option.some.injEq,cw]at h5;omega,a2.step HR.2.2.2 (λb hb h=>by
    rcases h with h|h
    .exact .inl h
    .rcases b4.out b h with h6|h6
     .exact .inr h6
     .omega)⟩
   case measure=>simp[bt];omega
  .obtain rfl:j=ne:=by omega
   have b6:¬ (j:ah)<j:=(by omega);go_wp2;go_end0;have e:=hM.out;subst e;exact⟨rfl,⟨o,z,a9,U.out,b0.out⟩,a2.out,λv' b h hb=>b4.out b (by rw[show wr.cell? ⟨A,3,B⟩=C (a1 o (J+j) z)from zB U.out 3]at h;cases h;exact hb)⟩
theorem zNr (A V o:E)(a:ar au)(n y:E)(F:ar au)(v I:E)(Y J i:ah)(s:ak)(xs:aj aw)(w:ab)(hk:w.heap[A]?=C (ae (kcs a n y F v I Y) 60))(N:w.ownsRow o 101 5 (a1 F v I) v xs)(Z:v<=100000000)(X:w.heap[V]?=C (ae #[R G 0,R G J,R G i,a0 s,a0 ()] 101))(z:o<=(w:E))(a2:¬ (bf F v I).ownBlock=C V):
  ax am 44 #[be (C ⟨A,0,B⟩),a1 (C ⟨V,0,B⟩) 1 1] w λe w'=>e=.returned (.tuple #[])/\
   (∃ O U a3,w'.heap[A]?=C (ae (kcs a n y O (v+1) U Y) 60)/\w'.ownsRow o 101 5 (a1 O (v+1) U) (v+1) a3)/\KFr A (a1 F v I) w w':=
 zLC A o a n y F v I Y (C ⟨V,0,B⟩) 1 1 [R G 0,R G J,R G i,a0 s,a0 ()] xs w hk N Z (by omega)
  ⟨λe=>(by cases e),λad e=>by cases e;exact⟨rfl,zC X,λj u hu=>by rw[zB X];simpa using hu⟩,λj hj=>match j,hj with|0,_=>⟨_,_,_,_,_,rfl,rfl,rfl,rfl,rfl⟩⟩ z (λad e=>by
   cases e;refine⟨λh=>?_,a2⟩;dsimp only at h;rw[h,hk]at X;cases X)
end Go.Proofs.YtifphhgcelkflaaGreatDoor
