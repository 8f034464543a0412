import Derived.Test.YtjohgekljmhheaaGreatDoorQ3
import Derived.Shelf.Spec.SlicesInsert
import Derived.Lib.AppendZerosOnto
import Derived.Laws.CopyOwn
namespace Go.Proofs.YtjohgekljmhheaaGreatDoor
open Go.RowKit Go.Maps
set_option linter.unusedVariables false
set_option maxRecDepth 100000
set_option maxHeartbeats 4000000
open Dev renaming vals->bf
open Fr renaming refl->ao,setAt->ci,of_grown->db
open Go renaming World->a1,splice->am,Addr->aq,Value->ar,Act->au,Calls->aw,Oper->ba,maxLen->bc,Program->bu,TypeId->cf,setRow_heap->cg,wpList->ch,bodyPost_ret->cn,info_parts->co,length_splice->cx,results->cy,ready_mono->dn,setRow_other->dp,wpOp_mono->dq,wpList_store_row->fd
open Go.Addr renaming add_lit->bx
open Go.Builtin renaming copy_->ca,zeroCells->da,firstCells->du
open Go.Code renaming region->dw
open Go.Extern.SlicesOverlaps renaming overlaps->fe
open Go.Instr renaming lookup->dd
open Go.Lit renaming int->cj
open Go.Oper renaming quietAt->er
open Go.Proofs renaming intOf->br,wpList_copy_runI->cz
open Go.Proofs.Tryz renaming prog->ak,underlying37->bq,zeroCells135->bw,func128->dl,ntmps128->dm,func238->ey,func24->ez,ntmps238->f1,ntmps24->f4,results68->f5,underlying135->f7,underlying3->fa,underlying9->fb
open Go.Region renaming ready->bi,binds->cd,noSelect->dk,Mode->et,free_spec->eu,noSelect_spec->ew,wanted->ex
open Go.RowKit renaming Hid->ag
open Go.Value renaming slice->be
open Go.World renaming size_alloc->cw,shape?->fc
open IntKind renaming i64->B
open Obj renaming cells->a0
open OnlyN renaming mk->cl
open Value renaming slice->R,int->ab,agg->ax,pointer->bd,string->bt
open _root_ renaming Nat->C,Int->af,List->ai,ByteArray->aj,Option->ap,Array->ay,Bool->bg,beq_iff_eq->cm
open _root_.Array renaming length_toList->bz,getElem?_toList->dr,replicate->dt
open _root_.Bool renaming false->ae,true->ah,and_eq_true->bh
open _root_.ByteArray renaming empty->az
open _root_.List renaming length_take->bj,mem_of_getElem?->bm,take_of_length_le->bn,length_append->cc,append_assoc->cp,getElem?_toArray->cq,size_toArray->cr,getElem?_drop->de,getElem?_take_of_lt->df,length_drop->dg,take_add_one->dh,take_append_of_le_length->di,take_take->dj,all_append->dx,all_eq_false->dy,getElem?_append_left->dz,getElem?_append_right->ea,getElem?_cons_succ->ed,mem_of_mem_drop->ee,nil_append->ef,take_append->eg,take_left'->eh
open _root_.Nat renaming le_refl->bo,lt_of_lt_of_le->ck,min_def->ct,min_eq_left->cu,add_mul->ei,le_trans->ej,one_mul->ek,sub_mul->em,zero_add->ep
open _root_.Option renaming some->E,none->G
variable{w w' y:a1}{u ds:ai Dev}{o z base' n b i k:C}{d:Dev}{S T:C->Prop}{v:ar}{A L cs:ai ar}{a:au}{Q:Exit->au->a1->Prop}{e:cf}{l:ai (aj×aj)}{K:au->a1->Prop}
theorem zDb (a:ap aq)(y:C)(l:ai (aj×aj))(w:a1)(F:Atts w a y l)(X:(l:C)<=1000000):
  aw ak 24 #[R a l y] w λe w'=>(∃ v z,e=.returned (R v l z)/\Atts w' v z l/\BlkT w' v 78/\∀ A,v=E A->(w:C)<=A.block)/\Fr No w w':=by
 obtain⟨Y,Z,I,J,N⟩:=co infoA;cases a with
 | none=>
  obtain⟨rfl,rfl⟩:=F.isNil rfl;have hq:=zGB;go_enter ez,f4;go_wp2;go_ret;exact⟨⟨G,0,rfl,Atts.nil _,BlkT.none _ _,λ_ e=>by cases e⟩,ao _ _⟩
 | some A=>
  have hx:Fr No w (w.alloc (a0 #[] 78)):=(ao _ _).alloc _;have O:=F.no hx (λ_=>id);have hq:=zGB;go_enter ez,f4;have u:(w.alloc (a0 #[] 78)).ownsRow (w:C) 78 2 (R (E ⟨w,0,G⟩) 0 0) 0 []:=
   ⟨rfl,.inr ⟨(w:C),0,#[],rfl,bo _,zF _ _,bo _,by unfold bc;omega,rfl,rfl⟩⟩
  go_wp2_with (at_builtin;refine zAC rfl _ _ 46 rfl (w:C) 78 Y (ax #[az,az]) 2 32 Tryz.underlying46 Z I J N rfl (by decide) _ 0 [] rfl u (E A) (l:C) _ (aflat l) rfl (λe=>by cases e) (zBx l) (λU e=>O.src U e) (zBw l) (by unfold bc;omega) (by omega) (by simp) ?_;intro v' w1 o V)
  go_ret;simp only[ep,ef]at o;obtain⟨v,z,hv,h1,h2⟩:=Atts.of_own o F.wf;subst hv;exact⟨⟨v,z,rfl,h1,zAI o,h2⟩,((ao No w).alloc _).step (zFB u V) (λb X h=>by omega)⟩
theorem zBg (d:Dev)(l:ai (aj×aj))(w:a1)(hl:Atts w d.aa d.ac l)(a3:d.an=(l:C))(hb:(l:C)<=1000000):
  aw ak 116 #[ax d.vals] w λe w'=>(∃ y F,e=.returned (ax ({ d with aa:=y,ac:=F }:Dev).vals)/\Atts w' y F l/\BlkT w' y 78/\∀ u,y=E u->(w:C)<=u.block)/\Fr No w w':=by
 obtain⟨J,N,nm,O,U,V,X,Y,Z,aa,an,ac⟩:=d;dsimp only at a3 hl;subst a3;have hx:Fr No w ((w.alloc (a0 #[J,N,nm,O,U,V,X,Y,Z,R aa l ac] 48)).alloc (a0 #[ab B 0,ab B 0,(),(),(),(),(),ab B 0,ab B 0,R G 0 0] 48)):=((ao _ _).alloc _).alloc _;have q0:=zP w (a0 #[J,N,nm,O,U,V,X,Y,Z,R aa l ac] 48) (a0 #[ab B 0,ab B 0,(),(),(),(),(),ab B 0,ab B 0,R G 0 0] 48);have q1:=zS w (a0 #[J,N,nm,O,U,V,X,Y,Z,R aa l ac] 48) (a0 #[ab B 0,ab B 0,(),(),(),(),(),ab B 0,ab B 0,R G 0 0] 48);show aw ak 116 #[ax #[J,N,nm,O,U,V,X,Y,Z,R aa l ac]] w _
 go_enter Tryz.func116,Tryz.ntmps116;go_upto_region 1 with(fail)
 have a6:(w:C)+2<=((w.alloc (a0 #[J,N,nm,O,U,V,X,Y,Z,R aa l ac] 48)).alloc (a0 #[ab B 0,ab B 0,(),(),(),(),(),ab B 0,ab B 0,R G 0 0] 48)).heap.size:=by simp
 generalize (w.alloc (a0 #[J,N,nm,O,U,V,X,Y,Z,R aa l ac] 48)).alloc (a0 #[ab B 0,ab B 0,(),(),(),(),(),ab B 0,ab B 0,R G 0 0] 48)=W0 at *;have c9:W0 ⟨w,9,G⟩=E (R aa l ac):=zB q0 9;have a7:(w:C)<=(W0:C):=hx.size;go_wp2_with fail;apply (zDb aa ac l _ (hl.no hx (λ_=>id)) hb).mono;rintro e w1 ⟨⟨y,F,rfl,hA,hB,o⟩,a2⟩;have p0:=a2.heap q0 id;have p1:=a2.heap q1 id;clear c9 q0 q1;have c9:w1 ⟨w,9,G⟩=E (R aa l ac):=zB p0 9;have f9:w1.frozen? ⟨w,9,G⟩=false:=zD p0 9;go_upto_region 2 with(fail)
 have z:Fr (Is (w:C)) w1 (w1.setCell ⟨w,9,G⟩ (R y l F)):=ci (ao _ _) _;have r0:=zE p0 9 (R y l F);have r1:=z.heap p1 (λe=>by omega);have a4:=hA.fr z (λu e _ h=>by have:=o u e;omega);have a5:=hB.fr z (λu e h=>by have:=o u e;omega);clear p0 p1 c9 f9;generalize w1.setCell ⟨w,9,G⟩ (R y l F)=W1 at *;obtain⟨c0,c1,c2,c3,c4,c5,c6,c7,c8,c9⟩:=cl10 r0;obtain⟨z0,z1,z2,z3,z4,z5,z6,z7,z8,z9⟩:=cl10 r1;obtain⟨y0,y1,y2,y3,y4,y5,y6,y7,y8,y9⟩:=fl10 r1;have I:=zA6 r1 rfl ⟨J,N,nm,O,U,V,X,Y,Z,y,(l:C),F⟩;have A:ag _:=And.intro (And.intro (a4.fr I.2 (λu e _ h=>by have:=o u e;omega)) (a5.fr I.2 (λu e h=>by have:=o u e;omega))) ((((hx.step a2 zi).step z (λb hb e=>by omega)).step I.2 (λb hb e=>by omega)));clear I a4 hA hB a5 r0 r1 z;go_wp2_with fail;refine cn (v:=ax #[J,N,nm,O,U,V,X,Y,Z,R y l F]) (by simp[cy,Tryz.results116,go_sem,z0,z1,z2,z3,z4,z5,z6,z7,z8,z9]) rfl ?_;exact⟨⟨y,F,rfl,A.1.1,A.1.2,λu e=>by have:=o u e;omega⟩,A.2⟩
structure Cop1 (w w':a1)(base:C)(d d':Dev):Prop where
 eq:d'={ d with aa:=d'.aa,ac:=d'.ac }
 att:∃ l,Atts w d.aa d.ac l/\Atts w' d'.aa d'.ac l/\d.an=l.length/\l.length<=24
 typ:BlkT w' d'.aa 78
 fresh:∀ ad,d'.aa=E ad->base<=ad.block
structure Cop (w w':a1)(base:C)(ds ds':ai Dev):Prop where
 len:(ds':C)=(ds:C)
 el:∀ (i:C) (d d':Dev),ds[i]?=E d->ds'[i]?=E d'->Cop1 w w' base d d'
theorem Cop1.fr {u:a1}{y:Dev}(h:Cop1 w w' o d y)(z:Fr S w' u)(A:∀ v,y.aa=E v->¬ S v.block):Cop1 w u o d y:=by
 obtain⟨l,F,I,J⟩:=h.att;exact⟨h.eq,⟨l,F,I.fr z (λv e _=>A v e),J⟩,h.typ.fr z A,h.fresh⟩
theorem Cop.fr {v:a1}(h:Cop w w' o ds u)(F:Fr S w' v)(I:∀ d∈u,∀ y,d.aa=E y->¬ S y.block):Cop w v o ds u:=
 ⟨h.len,λi d z J A=>(h.el i d z J A).fr F (I z (bm A))⟩
theorem Cop.nil (w w':a1)(o:C):Cop w w' o [] []:=⟨rfl,λi d u h=>by simp at h⟩
theorem Cop.snoc {z:Dev}(h:Cop w w' o ds u)(F:Cop1 w w' o d z):Cop w w' o (ds++[d]) (u++[z]):=by
 have A:=h.len;refine⟨by simp[A],λi x I e v=>?_⟩;by_cases J:i<(ds:C)
 .rw[dz J]at e;rw[dz (by omega)]at v;exact h.el i x I e v
 .have y:i=(ds:C):=by
   have:=(List.getElem?_eq_some_iff.1 e).1;simp at this;omega
  subst y;rw[ea (bo _)]at e;rw[ea (by omega),A]at v;simp at e v;subst e;subst v;exact F
theorem Cop.mem (h:Cop w w' o ds u){v:Dev}(A:v∈u):∃ d∈ds,Cop1 w w' o d v:=by
 obtain⟨i,y⟩:=List.getElem?_of_mem A;have z:i<(ds:C):=by have:=(List.getElem?_eq_some_iff.1 y).1;have:=h.len;omega
 exact⟨ds[i],List.getElem_mem z,h.el i _ _ (List.getElem?_eq_getElem z) y⟩
theorem Cop.own {z:a1}(h:Cop w y o ds u)(F:y.ownsRow base' 48 10 v n A)(I:Fr (λb=>v.ownBlock=E b) y z):Cop w z o ds u:=
 h.fr I (λd J N e O=>by
  obtain⟨x,_,U⟩:=h.mem J;exact U.typ.ne F (by decide) N e O)
theorem zCP (a:ap aq)(b1:C)(ds:ai Dev)(w:a1)(hl:Devs w a b1 ds)(hn:(ds:C)<=1000)(b2:∀ d∈ds,∃ l,Atts w d.aa d.ac l/\d.an=l.length/\l.length<=24):
  aw ak 129 #[R a ds b1] w λe w'=>(∃ v Z,e=.returned v/\w'.ownsRow (w:C) 48 10 v Z.length (flat Z)/\Cop w w' (w:C) ds Z)/\Fr No w w':=by
 obtain⟨i0,d0,d1,d2,d3⟩:=co infoD;have e4:=hl.lenmax;have d4:=zh b2;have Hn:=zh hn;clear b2 hn;go_enter Tryz.func129,Tryz.ntmps129;go_wp2_with fail;go_loopw [3,8] (λv i wr=>∃ (j:C) (O:ai Dev) (av:ap aq) (cv:C),j<=(ds:C)/\(O:C)<=j/\v=R av O cv/\i=ab B (j:af)/\wr.ownsRow (w:C) 48 10 (R av O cv) (O:C) (flat O)/\Cop w wr (w:C) (ds.take j) O/\Fr (From (w:C)) w wr) (λ_ i _=>(ds:C)-(br i).toNat);case atStart=>exact⟨0,[],G,0,by omega,by simp,rfl,rfl,World.ownsRow_nil _ _ _ _,by simpa using Cop.nil _ _ _,ao _ _⟩
 case round=>
  obtain⟨j,O,av,cv,hj,e5,rfl,rfl,y,hC,hf⟩:=hrel;by_cases d5:j<(ds:C)
  .have e2:(j:af)<(ds:C):=by omega
   have d6:∀ U,a=E U->ds≠[]->¬ From (w:C) U.block:=λU e a2 h=>by have:=(hl.cell U e a2).2.1;omega
   obtain⟨bb,e6,d,rfl,hd,c0,c1,c2,c3,c4,c5,c6,c7,c8,c9⟩:=(hl.fr hf d6).dev d5;have V:=bm hd;obtain⟨l,J,a3,b3⟩:=d4.out d V;have hA:Atts wr d.aa d.ac l:=J.fr hf (λU e a2 h=>by have:=(J.cell U e a2).2.1;omega);have d7:ag (ds.take (j+1)=ds.take j++[d]):=(by unfold ag;rw[dh,hd];rfl);have a4:=zg3 J a3 b3;clear hd V J;obtain⟨W1,a5,N,q1⟩:=zy wr (a0 d.vals 48);have a6:=zBg d l W1 (hA.no N (λ_=>id)) a3 (by omega);obtain⟨z0,z1,z2,z3,z4,z5,z6,z7,z8,z9⟩:=DevB.of q1;have e7:=hf.size;have e8:=N.size;have e3:=zC q1;unfold bf at a5;clear a3 b3 hA;unfold bf at a6;go_upto_region 5 with(fail)
   rw[<-a5];clear a5 c0 c1 c2 c3 c4 c5 c6 c7 c8 c9;go_wp2_with fail;apply a6.mono;rintro e w2 ⟨⟨X,Y,rfl,b4,b5,z⟩,a7⟩;clear a6 z0 z1 z2 z3 z4 z5 z6 z7 z8 z9 q1;have A:Fr No wr w2:=N.step a7 zi;have o:=zG y A (λ_ _=>id);have b6:=hC.fr A (λ_ _ _ _=>id);have e9:=a7.size;have d8:ag (Cop1 w w2 (w:C) d { d with aa:=X,ac:=Y }):=⟨rfl,⟨l,a4.1,b4,a4.2.1,a4.2.2⟩,b5,λU e=>by have:=z U e;omega⟩
   have g0:(O:C)<=1000:=(by have:=Hn.out;omega);have a8:=zh o;have d9:=zh b6;have Hf:=zh hf;have b7:=zh A;clear hC b6 y hf A N a7 b4 b5 z;go_wp2_with (at_builtin;refine wpList_append_own _ rfl _ _ 37 rfl (w:C) 48 i0 (ax #[ab B 0,ab B 0,az,az,az,az,az,ab B 0,ab B 0,R G 0 0]) 10 136 bq d0 d1 d2 d3 rfl (by decide) _ _ _ rfl (o.alloc _) ⟨w2,0,G⟩ 1 1 (bf { d with aa:=X,ac:=Y }).toList rfl rfl (zl _ (bf { d with aa:=X,ac:=Y }) _ rfl) (zAd _) (by unfold bc;omega) (by omega) (by first|omega|(simp;done)|(simp;omega)) ?_;intro v' w6 u F _;obtain⟨e0,e1,rfl⟩:=zI u)
   have a9:Fr No w2 (w2.alloc (a0 (bf { d with aa:=X,ac:=Y }) 48)):=(ao _ _).alloc _;have I:=a8.alloc (a0 (bf { d with aa:=X,ac:=Y }) 48);have b0:Fr (λb=>(be av O cv).ownBlock=E b) (w2.alloc (a0 (bf { d with aa:=X,ac:=Y }) 48)) w6:=db F;have b8:Cop w w6 (w:C) (ds.take (j+1)) (O++[{ d with aa:=X,ac:=Y }]):=by
    rw[d7];exact((d9.snoc d8).fr a9 (λ_ _ _ _=>id)).own I b0
   have b9:Fr (From (w:C)) w w6:=((Hf.step b7 (λb _ h=>h.elim)).step a9 zn).step b0 (λb _ h=>zQ I h);have HF:=zg3 u b8 b9;clear u b8 b9 F b0 I a9 o;go_roundw;case rel=>exact⟨j+1,O++[{ d with aa:=X,ac:=Y }],e0,e1,by omega,by simp;omega,by simp,by go_num,by rw[cc,zCt];exact HF.1,HF.2.1,HF.2.2⟩
   case measure=>simp[br];omega
  .obtain rfl:j=(ds:C):=by omega
   rw[List.take_length]at hC;have H:=zg3 y hC (hf.mono (T:=No) (λb hb h=>by omega));clear y hC hf;go_wp2;go_ret;exact⟨⟨_,O,rfl,H.1,H.2.1⟩,H.2.2⟩
def goodF : UInt8->Bool:=λc=>zA1 c||(⟨#[64,35,61,37]⟩:aj).data.toList.contains c
theorem zO7 (w:a1):
  aw ak 235 #[] w λe w'=>e=.returned (ax (bits goodF))/\Fr No w w':=by
 have y:(Tryz.prog.info? 135).map (·.size)=E 256:=by kernel_rfl
 have O:Tryz.zeroCells135.size=256:=by kernel_rfl
 have z:Fr No w (w.alloc (a0 bw 135)):=(ao _ _).alloc _;have A:=zF w (a0 bw 135);have F:=zg2 A z;clear A z;have I:=λW=>zBK zA1 ⟨#[64,35,61,37]⟩ W (by decide)
 have U:=zh I;clear I;go_enter Tryz.func235,Tryz.ntmps235;go_wp2_with fail;apply (zEK _).mono;rintro e Y ⟨rfl,h⟩;go_wp2_with fail;apply (U _).mono;rintro e V ⟨rfl,o⟩;have u:=(F.2.step h zi).step o zi;have J:=o.heap (h.heap F.1 id) id;go_wp2_with (refine fd rfl 135 _ _ rfl (w:C) (bits goodF) rfl rfl 135 _ J (by rw[zAE];exact y) (by rw[zAE];exact O) (zDp _) ?_)
 have X:=cg V (w:C) _ (bits goodF) 135 (0,0) J;refine cn (v:=ax (bits goodF)) (results_cell_row rfl _ _ (w:C) 135 _ (0,0) _ rfl X f7 rfl (by rw[zAE];exact y)) rfl ?_;exact⟨rfl,u.step (T:=Is (w:C)) ⟨rfl,rfl,rfl,by simp,λb _ N=>dp _ _ _ _ (λe=>N e)⟩ (λb N e=>by omega)⟩
def dotsB (s:aj):Bool:=decide (s.toList=[46])||decide (s.toList=[46,46])
def zBj (s:aj):Bool:=!s.toList.isEmpty&&!dotsB s&&allB goodF s
theorem zLO (z:C)(s:aj)(w:a1)(I:w.heap[z]?=E (a0 (bits goodF) 135))(N:s.size<=bc):
  aw ak 238 #[s,bd (E ⟨z,0,G⟩)] w λe w'=>e=.returned (.bool (zBj s))/\Fr No w w':=by
 have O:(Tryz.prog.info? 135).map (·.size)=E 256:=by kernel_rfl
 obtain⟨u,h⟩:=ε (zBj s)
 rw[<-h];have o:ag (u=(!s.toList.isEmpty&&!dotsB s&&allB goodF s)):=h;have U:=zh I;clear h I;rcases he:s.toList.isEmpty with _|_
 .have A:=zGp s w;have F:ag ((decide (s.toList=[46])||decide (s.toList=[46,46]))=dotsB s):=rfl;rw[F]at A;have V:=zh he;go_enter ey,f1;go_wp2_with fail;apply A.mono;rintro e Z ⟨rfl,rfl⟩;clear A;rcases hq:dotsB s with _|_
  .have v:ag (u=allB goodF s):=by unfold ag;rw[o,V,hq];rfl
   clear hq;have J:=zIj goodF s w N;go_wp2_with fail;rename_i X;refine wp_load_row 135 _ rfl z rfl 135 _ (0,0) _ U f7 rfl (by rw[zAE];exact O) ?_;apply X _ _;go_wp2_with fail;apply J.mono;rintro e w2 ⟨rfl,y⟩;have Y:=zh y;clear y J;go_wp2;go_ret;exact⟨zN v.symm,Y⟩
  .have v:ag (u=ae):=by unfold ag;rw[o.out,hq];simp
   clear hq;go_wp2;go_ret;exact⟨zN v.symm,ao _ _⟩
 .have v:ag (u=ae):=by unfold ag;rw[o,he];rfl
  go_enter ey,f1;go_wp2;go_ret;exact⟨zN v.symm,ao _ _⟩
theorem zNo (v o:C)(s:aj)(w:a1)(A:w ⟨v,0,G⟩=E (.func (.func 238) #[] #[bd (E ⟨o,0,G⟩)]))(y:w.heap[o]?=E (a0 (bits goodF) 135))(z:s.size<=bc):
  aw ak 274 #[s,bd (E ⟨v,0,G⟩)] w λe w'=>e=.returned (.bool (!zBj s))/\Fr No w w':=by
 have h:=zLO o s w y z;clear y;go_enter Tryz.func274,Tryz.ntmps274;go_wp2_with fail;apply h.mono;rintro e F ⟨rfl,u⟩;go_wp2;go_ret;exact⟨rfl,u⟩
theorem zKE (F I:C)(V:ap aq)(X:C)(l:ai aj)(w:a1)(hb:w ⟨F,0,G⟩=E (.func (.func 238) #[] #[bd (E ⟨I,0,G⟩)]))(Y:w.heap[I]?=E (a0 (bits goodF) 135))(Z:Strs w V X l)(hs:∀ x∈l,x.size<=bc):
  aw ak 60 #[R V l X,.func (.func 274) #[] #[bd (E ⟨F,0,G⟩)]] w λe w'=>(∃ r:af,e=.returned r/\decide (0<=r)=!l.all zBj)/\Fr No w w':=by
 have hm:=Z.lenmax;have Hg:=zh Y;clear Y;go_enter Tryz.func60,Tryz.ntmps60;go_wp2_with fail;go_loopw [8] (λi wr=>∃ k:C,k<=(l:C)/\i=ab B k/\ag ((l.take k).all zBj=ah)/\Fr No w wr) (λi _=>(l:C)-(br i).toNat);case atStart=>exact⟨0,by omega,rfl,by unfold ag;simp,ao _ _⟩
 case round=>
  obtain⟨k,hk,rfl,y,o⟩:=hrel;by_cases J:k<(l:C)
  .have a2:(k:af)<(l:C):=by omega
   obtain⟨bb,a3,x,rfl,A,hc⟩:=(Z.no o (λ_=>id)).at J;have N:=hs x (bm A);have O:ag (l.take (k+1)=l.take k++[x]):=(by unfold ag;rw[dh,A];rfl);have z:=zh (bm A);clear A;have v:=zNo F I x wr (o.cell hb id) (o.heap Hg id) N;go_wp2_with fail;apply v.mono;rintro e w1 ⟨rfl,U⟩;have u:=o.step U zi;clear hc v;cases v:zBj x
   .have Hr:ag (l.all zBj=ae):=(by unfold ag;rw[dy];exact⟨x,z.out,by rw[v];simp⟩);clear v;go_wp2;go_ret;exact⟨⟨(k:af),rfl,by rw[Hr.out];simp⟩,u⟩
   .have Hn:ag ((l.take (k+1)).all zBj=ah):=(by unfold ag;rw[O.out,dx,y.out];simp[v]);clear v;go_wp2;go_roundw;case rel=>exact⟨k+1,by omega,by go_num,Hn,u⟩
    case measure=>simp[br];omega
  .have h:=y.out;rw[bn (by omega)]at h;have Hp:=zh h;clear h;go_wp2;go_ret;exact⟨⟨-1,rfl,by rw[Hp];rfl⟩,o⟩
theorem zM5 (o:C)(u:ap aq)(v:C)(l:ai aj)(w:a1)(A:w.heap[o]?=E (a0 (bits goodF) 135))(I:Strs w u v l)(J:∀ x∈l,x.size<=bc):
  aw ak 236 #[R u l v,.func (.func 238) #[] #[bd (E ⟨o,0,G⟩)]] w λe w'=>e=.returned (.bool (l.all zBj))/\Fr No w w':=by
 have y:Fr No w (w.alloc (a0 #[.func (.func 238) #[] #[bd (E ⟨o,0,G⟩)]] 97)):=(ao _ _).alloc _;have N:=zF w (a0 #[.func (.func 238) #[] #[bd (E ⟨o,0,G⟩)]] 97);have z:=I.no y (λ_=>id);have O:=zh (y.heap A id);clear A;go_enter Tryz.func236,Tryz.ntmps236;go_wp2_with fail;generalize w.alloc (a0 #[.func (.func 238) #[] #[bd (E ⟨o,0,G⟩)]] 97)=W0 at *;refine(show aw ak 31 _ _ (λe w'=>e=.returned (.bool (!l.all zBj))/\Fr No W0 w')from ?_).mono ?_
 .go_enter Tryz.func31,Tryz.ntmps31;go_wp2_with fail;apply (zKE (w:C) o u v l _ (zB N 0) O z J).mono;rintro e U ⟨⟨r,rfl,F⟩,h⟩;have V:=zh F;clear F;go_wp2;go_ret;exact⟨zN V,h⟩
 .rintro e U ⟨rfl,h⟩;go_wp2;go_ret;exact⟨zN (by simp),y.step h zi⟩
def lparts (s:aj):ai aj:=(spl 47 s.data.toList).map λx=>⟨x.toArray⟩
def zES (s:aj):Bool:=decide (s.size<=256)&&(lparts s).all zBj
theorem zHl (s:aj):∀ x∈lparts s,x.size<=s.size:=by
 intro x h;unfold lparts at h;obtain⟨y,o,rfl⟩:=List.mem_map.1 h;have:=zKf 47 s.data.toList y o;have e:s.data.toList.length=s.size:=bz;show (y.toArray).size<=_
 rw[cr];omega
theorem zP8 (s:aj)(m:af)(w:a1)(hs:s.size<=3000000)(hm:w ⟨0,0,G⟩=E (ab B m))(h0:0<(w:C)):
  aw ak 183 #[s] w λe w'=>e=.returned (.bool (zES s))/\Fr No w w':=by
 have hi:(Tryz.prog.info? 135).map (·.size)=E 256:=by kernel_rfl
 have hz:Tryz.zeroCells135.size=256:=by kernel_rfl
 obtain⟨U,F⟩:=ε (zES s)
 rw[<-F];have V:ag (U=(decide (s.size<=256)&&(lparts s).all zBj)):=F;clear F;have y:Lib.countB s ⟨#[47]⟩+1=(lparts s).length:=zGd s;have o:Lib.splitB ⟨#[47]⟩ 0 (Lib.countB s ⟨#[47]⟩) s=lparts s:=zCR s;have X:=Lib.countB_le ⟨#[47]⟩ (by decide) s.size s (bo _);have Y:(lparts s).length<=maxLen:=by unfold bc;omega
 have Z:=zHl s;have hp:∀ W:a1,W ⟨0,0,G⟩=E (ab B m)->_:=λW h=>Tryz.strings_Split s ⟨#[47]⟩ m W (by omega) h (by decide)
 rw[o,y]at hp;have Hp:=zh hp;have a5:=zh Y;have a6:=zh Z;clear hp Y Z o y X;generalize lparts s=L at *;go_enter Tryz.func183,Tryz.ntmps183;go_wp2_with fail;apply (zO7 _).mono;rintro e u ⟨rfl,I⟩;have a7:=I.cell hm id;have x1:Fr No w (u.alloc (a0 bw 135)):=I.alloc _;have p1:=zF u (a0 bw 135);have b0:=I.size;have a2:(u.alloc (a0 bw 135)) ⟨0,0,G⟩=E (ab B m):=((ao No u).alloc _).cell a7 id;obtain⟨z,v⟩:=ε ((u.alloc (a0 bw 135)).setRow (u:C) (bits goodF))
 have hg:z.heap[(u:C)]?=E (a0 (bits goodF) 135):=by rw[v];exact cg _ (u:C) _ (bits goodF) 135 (0,0) p1
 have x2:Fr (Is (u:C)) (u.alloc (a0 bw 135)) z:=by rw[v];exact⟨rfl,rfl,rfl,by simp,λb _ hb=>dp _ _ _ _ (λe=>hb e)⟩
 have a3:=zh (x1.step x2 (λb hb e=>by omega));have a8:=x2.cell a2 (λe=>by unfold Is at e;dsimp only at e;omega);go_upto_region 2 with(refine fd rfl 135 _ _ rfl (u:C) (bits goodF) rfl rfl 135 _ p1 (by rw[zAE];exact hi) (by rw[zAE];exact hz) (zDp _) ?_)
 rw[<-v];clear v p1 x1 x2 a2;by_cases A:s.size<=256
 .have J:(s.size:af)<=256:=by omega
  have Hv:ag (U=L.all zBj):=by unfold ag;rw[V,decide_eq_true A];rfl
  have N:=Hp.out z a8;obtain⟨W4,O,x4,-⟩:=zy z (a0 (L.map Value.string).toArray 9);have a9:Strs W4 (E ⟨z,0,G⟩) (L:C) L:=by rw[O];exact Strs.new z L 9 a5
  rw[<-O]at N;have o:=zM5 (u:C) _ _ L W4 (x4.heap hg id) a9 (λx hx=>ej (a6 x hx) (by unfold bc;omega));clear O hg;go_wp2_with fail;apply N.mono;rintro e w3 ⟨rfl,rfl⟩;clear N;go_wp2_with fail;apply o.mono;rintro e w4 ⟨rfl,a4⟩;clear o;have Hf:=zh ((a3.step x4 zi).step a4 zi);clear a4 x4;go_wp2;go_ret;exact⟨zN Hv.symm,Hf⟩
 .have J:¬ (s.size:af)<=256:=by omega
  have Hv:ag (U=ae):=by unfold ag;rw[V,decide_eq_false A];rfl
  clear hg;go_wp2;go_ret;exact⟨zN Hv.symm,a3⟩
def attrOk (x:aj×aj):Bool:=isName x.1&&!x.2.toList.isEmpty&&zBF x.2
theorem zNl (x y:aj)(w:a1)(V:x.size<=bc)(X:y.size<=bc):
  aw ak 233 #[ax #[x,y]] w λe w'=>e=.returned (.bool (!attrOk (x,y)))/\Fr No w w':=by
 obtain⟨Y,v,F,I⟩:=zy w (a0 #[x,y] 78);obtain⟨N,c1⟩:=cl2 I;have O:=zAU x Y V;obtain⟨u,h⟩:=ε (attrOk (x,y))
 rw[<-h];have o:ag (u=(isName x&&!y.toList.isEmpty&&zBF y)):=h;clear h;go_enter Tryz.func233,Tryz.ntmps233;go_upto_region 1 with(fail)
 rw[<-v];clear v;go_wp2_with fail;apply O.mono;rintro e w1 ⟨rfl,z⟩;have Z:=z.heap I id;have J:=F.step z zi;clear N c1 I O;obtain⟨N,c1⟩:=cl2 Z;rcases h1:isName x with _|_
 .have A:ag (u=ae):=by unfold ag;rw[o,h1];rfl
  clear h1;go_wp2;go_ret;exact⟨zN (by rw[A];rfl),J⟩
 have U:=zh h1;clear h1;rcases h2:y.toList.isEmpty with _|_
 .have A:ag (u=zBF y):=by unfold ag;rw[o,U,h2];rfl
  go_wp2_with fail;apply (zGo y _ X).mono;rintro e w2 ⟨rfl,rfl⟩;go_wp2;go_ret;exact⟨zN (by rw[A]),J⟩
 .have A:ag (u=ae):=by unfold ag;rw[o,U,h2];rfl
  go_wp2;go_ret;exact⟨zN (by rw[A];rfl),J⟩
theorem zMA (a:ap aq)(u:C)(l:ai (aj×aj))(w:a1)(Z:Atts w a u l):
  aw ak 232 #[R a l u,.func (.func 233) #[] #[]] w λe w'=>e=.returned (.bool (!l.all attrOk))/\Fr No w w':=by
 have hm:=Z.lenmax;have F:aw ak 272 #[R a l u,.func (.func 233) #[] #[]] w λe w'=>(∃ r:af,e=.returned r/\decide (0<=r)=!l.all attrOk)/\Fr No w w':=by
  go_enter Tryz.func272,Tryz.ntmps272;go_wp2_with fail;go_loopw [8] (λi wr=>∃ k:C,k<=(l:C)/\i=ab B k/\ag ((l.take k).all attrOk=ah)/\Fr No w wr) (λi _=>(l:C)-(br i).toNat);case atStart=>exact⟨0,by omega,rfl,by unfold ag;simp,ao _ _⟩
  case round=>
   obtain⟨k,hk,rfl,I,v⟩:=hrel;by_cases N:k<(l:C)
   .have a2:(k:af)<(l:C):=(by omega);obtain⟨bb,a3,x,y,rfl,O,U,V,hc,hd⟩:=(Z.no v (λ_=>id)).at N;have X:ag (l.take (k+1)=l.take k++[(x,y)]):=(by unfold ag;rw[dh,O];rfl);have J:=zh (bm O);clear O;have z:=zNl x y wr U V;go_wp2_with fail;apply z.mono;rintro e w1 ⟨rfl,A⟩;have o:=v.step A zi;clear hc hd z;cases z:attrOk (x,y)
    .have Y:ag (l.all attrOk=ae):=(by unfold ag;rw[dy];exact⟨_,J.out,by rw[z];simp⟩);clear z;go_wp2;go_ret;exact⟨⟨(k:af),rfl,by rw[Y.out];simp⟩,o⟩
    .have Hn:ag ((l.take (k+1)).all attrOk=ah):=(by unfold ag;rw[X.out,dx,I.out];simp[z]);clear z;go_wp2;go_roundw;case rel=>exact⟨k+1,by omega,by go_num,Hn,o⟩
     case measure=>simp[br];omega
   .have h:=I.out;rw[bn (by omega)]at h;have Hp:=zh h;clear h;go_wp2;go_ret;exact⟨⟨-1,rfl,by rw[Hp];rfl⟩,v⟩
 go_enter Tryz.func232,Tryz.ntmps232;go_wp2_with fail;apply F.mono;rintro e w1 ⟨⟨r,rfl,hr⟩,A⟩;have Y:=zh hr;clear hr;go_wp2;go_ret;exact⟨zN Y,A⟩
theorem zLp (a:ap aq)(h:C)(l:ai (aj×aj))(w:a1)(u:Atts w a h l)(v:(l:C)<=1):
  aw ak 231 #[R a l h] w λe w'=>e=.returned (.bool ah)/\Fr No w w':=by
 have o:¬ (1:af)<(l:C):=by omega
 go_enter Tryz.func231,Tryz.ntmps231;go_wp2_with fail;go_loopw [3] (λi wr=>i=ab B 1/\wr=w) (λi _=>0);case atStart=>exact⟨rfl,rfl⟩
 case round=>
  obtain⟨rfl,rfl⟩:=hrel;go_wp2;go_ret;exact⟨rfl,ao _ _⟩
theorem zGE (a:ap aq)(h:C)(l:ai (aj×aj))(w:a1)(v:Atts w a h l)(z:(l:C)<=1):
  aw ak 181 #[R a l h] w λe w'=>e=.returned (.bool (l.all attrOk))/\Fr No w w':=by
 have y:=zLp a h l w v z;go_enter Tryz.func181,Tryz.ntmps181;go_wp2_with fail;apply y.mono;rintro e A ⟨rfl,o⟩;have F:=zMA a h l A (v.no o (λ_=>id));clear y;go_wp2_with fail;apply F.mono;rintro e I ⟨rfl,u⟩;go_wp2;go_ret;exact⟨zN (by simp),o.step u zi⟩
theorem zDs {w:a1}{u:ay ba}{h:ai ba}{o:ba}{a:au}{Q:Exit->au->a1->Prop}(A:o.guard=G)(m x:Operand)(t:cf)(y:o.op=Op.lookup t m x ah)(F:Tryz.prog.underlying t=E (.map 3 9))
  (z:C) (g:af->ap aj) (N:C) (k:af) (I:(cj B k).wf=ah) (J:a.eval m=.map (E z)) (v:SMap w z g N) (O:a.eval x=.int B k)
  (s:aj) (U:(g k).getD ⟨#[]⟩=s) (b:bg) (V:(g k).isSome=b)
  (X:ch ak u Q h (a.put o.dst (.tuple #[.string s,.bool b])) w):ch ak u Q (o::h) a w:=by
 subst U V;exact zEz A m x t y F z g N k I J v O X
theorem zFv (h:TreeOk ds)(n:af):ogs ds n=(look ds n).map λ_=>pathOf (origin ds n):=by
 have:=zIh h (ds:C) (bo _) n
 rwa [bn (bo _)]at this
def newO (ds:ai Dev)(d:Dev):aj:=plc ds d.parent++⟨#[47]⟩++d.orig
def zAD (ds:ai Dev)(og:aj)(x:Dev):Bool:=decide (0<=(cmpP (plc ds x.index) og).1)
theorem zId (o:TreeOk ds)(u:(ds:C)<=1000)(n:af):(plc ds n).size<=33000:=by
 have h:=zCB o.sz (ds:C) n;rw[bn (bo _),zDH o]at h;omega
theorem zLW (d:Dev)(ds:ai Dev)(a:ap aq)(v m1 y N O:C)(s:aj)(m:af)(w:a1)(A:TreeOk ds)(hn:(ds:C)<=1000)(hs:s.size<=1000000)(hd:d∈ds)(U:w.heap[N]?=E (a0 #[R a ds v,.map (E m1),.map (E y)] 153))(V:SMap w y (ogs ds) (ds:C))(X:w ⟨O,0,G⟩=E (bt s))(Y:w ⟨0,0,G⟩=E (ab B m)):
  aw ak 123 #[ax d.vals,bd (E ⟨N,0,G⟩),bd (E ⟨O,0,G⟩)] w λe w'=>e=.returned (.bool (zAD ds s d))/\Fr No w w':=by
 obtain⟨W0,h,o,Z⟩:=zy w (a0 d.vals 48);have a2:=o.cell X id;have u:=o.heap U id;have v2:=zB u 2;have c0:=(DevB.of Z).c0;have F:=V.fr o id;have I:=A.iwf hd;have hp:(ogs ds d.index).getD ⟨#[]⟩=plc ds d.index:=zDH A d.index;have hc:=zJX (plc ds d.index) s m W0 (by have:=zId A hn d.index;omega) hs (o.cell Y id);have Hr:ag (zAD ds s d=decide (0<=(cmpP (plc ds d.index) s).1)):=rfl;generalize zAD ds s d=rb at *;generalize hz:(cmpP (plc ds d.index) s).1=z at *;generalize plc ds d.index=P at *;clear hz;clear X U V u Z Y;unfold bf at h ⊢;go_enter Tryz.func123,Tryz.ntmps123;go_upto_region 1 with(fail)
 rw[<-h];clear h;go_wp2_with (at_lookup;refine zHL rfl _ _ 151 rfl rfl y _ _ d.index I rfl F rfl ?_)
 apply hc.mono;rintro e w1 ⟨rfl,J⟩;go_wp2;go_ret;exact⟨zN Hr.symm,o.step J zi⟩
theorem zEv (o b:C)(a:ap aq)(n h:C)(Z:ai ar)(d:Dev)(w:a1)(v:w.ownsRow o 48 10 (R a n h) n Z)(hn:n<=100000)(hb:w.heap[b]?=E (a0 d.vals 48))(A:o<=(w:C)):
  aw ak 128 #[R a n h,ab B (n:af),R (E ⟨b,0,G⟩) 1 1] w λe w'=>(∃ a' c',e=.returned (R a' (n+1) c')/\w'.ownsRow o 48 10 (R a' (n+1) c') (n+1) (Z++d.vals.toList))/\Fr (λb=>(be a n h).ownBlock=E b) w w':=by
 obtain⟨i0,I,J,N,O⟩:=co infoD;have y:∀ j u,d.vals.toList[j]?=E u->w ((⟨b,0,G⟩:aq).add j)=E u:=by
  intro j u hu;rw[bx,zB hb]
  simpa using hu
 have a2:n<=h:=by
  obtain⟨_,⟨F,h2⟩|⟨g,c,U,F,_,_,h3,_⟩⟩:=v;·cases F;omega
  .cases F;exact h3
 have a3:h<=9223372036854775807:=by
  obtain⟨_,⟨F,h2⟩|⟨g,c,U,F,_,_,h3,h4,_⟩⟩:=v;·cases F;omega
  .cases F;unfold bc at h4;omega
 have V:(n:af)<=h:=by omega
 go_enter dl,dm;go_wp2_with (at_builtin;refine zAC rfl _ _ 37 rfl o 48 i0 (ax #[ab B 0,ab B 0,az,az,az,az,az,ab B 0,ab B 0,R G 0 0]) 10 136 bq I J N O rfl (by decide) _ _ _ rfl v (E ⟨b,0,G⟩) 1 1 d.vals.toList rfl (λe=>by cases e) rfl (λa4 e=>by cases e;exact y) (zAd _) (by unfold bc;omega) (by omega) A ?_;intro v3 w3 z X;have Y:w.grownBy w3 (be a n h).ownBlock:=X;obtain⟨av,cv,rfl⟩:=zI z)
 all_goals (go_ret;subst_vars;exact⟨⟨av,cv,rfl,z⟩,db Y⟩)
section
variable {K:au->a1->Prop}{T:C->Prop}{w w':a1}{a:au}
theorem zf (o:Fr T w w')(h:K a w'):OnlyN (λa w'=>Fr T w w'/\K a w') .normal a w':=⟨o,h⟩
theorem zm (o:Fr No w w')(h:K a w'):OnlyN (λa w'=>Fr T w w'/\K a w') .normal a w':=⟨o.mono λ_ _ h=>h.elim,h⟩
theorem zp {o:Obj}(h:K a (w.alloc o)):OnlyN (λa w'=>Fr T w w'/\K a w') .normal a (w.alloc o):=⟨(ao _ _).alloc _,h⟩
theorem zq (h:K a w):OnlyN (λa w'=>Fr T w w'/\K a w') .normal a w:=⟨ao _ _,h⟩
end
theorem zAF {u:C}{z:ai ar}(h:w.ownsRow o e u v n z)(y:v.ownBlock=E b):o<=b/\b<(w:C):=by
 obtain⟨_,⟨rfl,_⟩|⟨g,A,F,rfl,I,J,_⟩⟩:=h;·cases y
 .cases y;exact⟨I,zC J⟩
theorem zBa {P:bu}(w:a1)(U Y Z h:cf)(N g o y A:C)(a:aq)(z F:C)(u:ay ar)(t:cf)(cs:ai ar)
  (hu:P.underlying U=E (.slice h)) (V:(P.info? h).map (·.size)=E N) (hg:w.heap[g]?=E (a0 u t (0,0))) (k:C) (hk:k=Nat.min z y) (hn:(cs:C)=k*N)
  (I:∀ j v,cs[j]?=E v->w (a.add j)=E v) (J:o+(cs:C)<=u.size) (h1:∀ v∈cs,v.oneCell'=ah):
  (ca #[U,Y] Z #[R (E ⟨g,o,G⟩) y A,R (E a) z F]).run P w=.ok (goInt k) (w.setRow g (am u.toList o cs).toArray):=by
 have X:=run_loadCells_list (P:=P) w a cs I;have O:=run_storeCells_at P g o t cs 0 u w hg (by simpa using J) h1;subst hk;cases hq:P.info? h with
 | none=>simp[hq]at V
 | some i=>
  have hi:i.size=N:=by simpa [hq]using V
  rw[hn]at X;simp[ca,run_underlying hu,Builtin.lenOf,du,sizeOf,typeInfo,hq,hi,X,O,am]
theorem zGe {α:Type}(L:ai α)(o:C)(cs:ai α):am L o cs=L.take o++(cs++L.drop (o+(cs:C))):=rfl
theorem zJe {d:ai ar}(h:(d:C)=z)(v:(cs:C)=n)(y:(i*z)+n+z<=(L:C)):
  (am (am L ((i+1)*z) cs) (i*z) d).take (i*z+n+z)=L.take (i*z)++(d++cs):=by
 have e:(i+1)*z=i*z+z:=by rw[ei,ek]
 have o:(am L ((i+1)*z) cs).take (i*z)=L.take (i*z):=by
  unfold am;rw[di (by rw[bj];omega),dj,cu (by omega)]
 have u:(am L ((i+1)*z) cs).drop (i*z+z)=cs++L.drop ((i+1)*z+(cs:C)):=by
  unfold am;rw[List.drop_append_of_le_length (by rw[bj];omega),List.drop_take,e,Nat.sub_self,List.take_zero,ef]
 rw[zGe _ (i*z) d,o,h,u,eg,bj,cu (by omega),bn (by rw[bj];omega)]
 congr 1
 rw[show i*z+n+z-i*z=z+n by omega,eg,h,bn (by omega),show z+n-z=n by omega,di (by omega),bn (by omega)]
theorem Fr.setRow (w:a1)(g:C)(cs:ay ar)(h:S g):Fr S w (w.setRow g cs):=
 ⟨rfl,rfl,rfl,by simp[World.setRow],λk _ o=>dp w g k cs (λe=>o (e▸h))⟩
theorem zDO: (Tryz.prog.info? 48).map (·.size)=E 10:=by kernel_rfl
theorem zEb (b5 g b y n i:C)(o:ay ar)(A:ai ar)(d:Dev)(w:a1)(hg:w.heap[g]?=E (a0 o 48))(X:o.toList.take (n*10)=A)(a3:(A:C)=n*10)(a4:∀ u∈A,u.oneCell'=ah)
  (b0:o.size=y*10) (b1:n+1<=y) (b3:y<=bc) (b7:i<n) (hb:w.heap[b]?=E (a0 d.vals 48)) (a5:b≠g):
  aw ak 128 #[R (E ⟨g,0,G⟩) n y,ab B (i:af),R (E ⟨b,0,G⟩) 1 1] w λe w'=>e=.returned (R (E ⟨g,0,G⟩) (n+1) y)/\
   (∃ F,w'.heap[g]?=E (a0 F 48)/\F.toList.take ((n+1)*10)=A.take (i*10)++(d.vals.toList++A.drop (i*10))/\F.size=y*10)/\Fr (Is g) w w':=by
 have b8:¬ ((i:af)=(n:af)):=by omega
 unfold bc at b3;have hr:(n:af)+1<=(y:af):=by omega
 have b6:i<=n:=by omega
 have b9:=zC hb;have d0:=zC hg;have b4:∀ Y lb cb,(callFunc 188 #[R (E ⟨b,0,G⟩) 1 1,R (E ⟨g,Y,G⟩) lb cb]).run ak w=.ok (.value (.bool ae)) w:=λY lb cb=>by
  rw[run_callFunc_extern (f:=188) (P:=ak) (fn:=Tryz.f188) (by kernel_rfl) (by kernel_rfl) (by kernel_rfl) (by kernel_rfl) (e:=fe #[37,37] #[4]) (by kernel_rfl),
   Lib.run_overlaps_apart w 37 4 48 bq 10 (λw=>by kernel_rfl) ⟨b,0,G⟩ ⟨g,Y,G⟩ 1 1 lb cb a5 48 48 10 o.size (by simp[fc,hb,bf]) (by simp[fc,hg]) (by omega) (zD hb 0) (zD hb 10)]
  rfl
 have I:(A.drop (i*10)).length=(n-i)*10:=by rw[dg,a3,<-em]
 have a6:∀ j v,A[j]?=E v->o[j]?=E v:=λj v h=>by
  have hj:=(List.getElem?_eq_some_iff.1 h).1;rw[<-X,df (by omega)]at h;rw[<-dr];exact h
 have V:∀ (W:a1),Fr No w W->∀ Z N dc sl sc,N=n-i->sl=n+1-i->(ca #[37,37] Z #[R (E ⟨g,(i+1)*10,G⟩) N dc,R (E ⟨g,i*10,G⟩) sl sc]).run ak W=.ok (goInt (n-i:C)) (W.setRow g (am o.toList ((i+1)*10) (A.drop (i*10))).toArray):=λW hW Z N dc sl sc e1 e2=>
  zBa W 37 37 Z 48 10 g ((i+1)*10) N dc ⟨g,i*10,G⟩ sl sc o 48 (A.drop (i*10)) bq zDO (hW.heap hg id) (n-i) (by simp only[ct];split<;>omega) I
   (λj v hj=>by
    rw[de]at hj;rw[bx,zB (hW.heap hg id)];exact a6 _ v hj)
   (by rw[I];omega) (λv hv=>a4 v (ee hv))
 go_enter dl,dm;go_upto_region 15 with(simp only[b4])
 refine zO (Is g) [(0,ae),(1,ae),(2,ae),(3,ae),(4,ae),(5,ae),(6,ae),(7,ae),(8,ah)] (λw1 O=>?_);have h1:=V w1 O;(repeat apply zR rfl rfl rfl;intro K hK;go_big_quiet_op;go_big_quiet_on);apply zu rfl;go_wp2_with (at_builtin;refine cz _ rfl _ _ 37 37 rfl _ _ rfl rfl (h1 _ _ _ _ _ (by omega) (by omega)) ?_)
 have f2:Fr (Is g) w1 (w1.setRow g (am o.toList ((i+1)*10) (A.drop (i*10))).toArray):=Fr.setRow _ _ _ rfl;apply zf f2;apply zb;have g2:=cg w1 g o (am o.toList ((i+1)*10) (A.drop (i*10))).toArray 48 (0,0) (O.heap hg id);have b2:=f2.heap (O.heap hb id) a5;have F2:=zh ((O.mono zn).step f2 zi:Fr (Is g) w _);generalize (w1.setRow g (am o.toList ((i+1)*10) (A.drop (i*10))).toArray)=w2 at *;have U:(am o.toList ((i+1)*10) (A.drop (i*10))).length=o.size:=(cx _ _ _ (by rw[I,bz];omega)).trans bz;have a2:d.vals.toList.length=10:=rfl;obtain⟨row,J⟩:=ε (am o.toList ((i+1)*10) (A.drop (i*10)))
 rw[<-J]at g2 U;have a7:∀ Z N dc,N=n+1-i->(ca #[37,37] Z #[R (E ⟨g,i*10,G⟩) N dc,R (E ⟨b,0,G⟩) 1 1]).run ak w2=.ok (goInt (1:C)) (w2.setRow g (am row (i*10) d.vals.toList).toArray):=λZ N dc e1=>
  zBa w2 37 37 Z 48 10 g (i*10) N dc ⟨b,0,G⟩ 1 1 row.toArray 48 d.vals.toList bq zDO g2 1 (by subst e1;simp only[ct];split<;>omega) rfl
   (λj v hj=>by rw[bx,zB b2];simpa using hj) (by rw[a2,cr,U];omega) (zAd d)
 have g3:=cg w2 g row.toArray (am row (i*10) d.vals.toList).toArray 48 (0,0) g2;have F3:=zh (F2.step (Fr.setRow (S:=Is g) w2 g (am row (i*10) d.vals.toList).toArray rfl) zi);have a8:ag ((am row (i*10) d.vals.toList).toArray.toList.take ((n+1)*10)=A.take (i*10)++(d.vals.toList++A.drop (i*10))):=by
  unfold ag;have h:=zJe (L:=o.toList) (cs:=A.drop (i*10)) (d:=d.vals.toList) (i:=i) (n:=(n-i)*10) (z:=10) a2 I (by rw[bz];omega);rw[show (n+1)*10=i*10+(n-i)*10+10 by omega,List.toList_toArray,J,h,<-X,dj,cu (by omega)]
 have a9:ag ((am row (i*10) d.vals.toList).toArray.size=y*10):=by
  unfold ag;rw[cr,cx _ _ _ (by rw[a2,U];omega),U];exact b0
 have H3:=zh g3;clear J X I a6 V a4 g2 b2 g3 a3;generalize am row (i*10) d.vals.toList=row2 at *;go_wp2_with (at_builtin;refine cz _ rfl _ _ 37 37 rfl _ _ rfl rfl (a7 _ _ _ (by omega)) ?_)
 go_ret;exact⟨rfl,⟨_,H3,a8,a9⟩,F3⟩
theorem zHV {d:ai ar}(h:(d:C)=z)(u:(cs:C)=n)(y:(i*z)+n+z<=(L:C)):
  (am (am L (i*z) d) ((i+1)*z) cs).take (i*z+n+z)=L.take (i*z)++(d++cs):=by
 have e:(i+1)*z=i*z+z:=by rw[ei,ek]
 have o:(L.take (i*z)).length=i*z:=by rw[bj];omega
 have v:(am L (i*z) d).take (i*z+z)=L.take (i*z)++d:=by
  unfold am;rw[<-cp];exact eh (by rw[cc,o,h])
 rw[zGe _ ((i+1)*z) cs,e,v,<-cp,cp (L.take (i*z)) d cs];exact eh (by rw[cc,cc,o,h,u];omega)
theorem zEc (g b A n i:C)(a6:ay ar)(y:ai ar)(d:Dev)(w:a1)(hg:w.heap[g]?=E (a0 a6 48))(d2:a6.toList.take (n*10)=y)(b3:(y:C)=n*10)(b4:∀ u∈y,u.oneCell'=ah)
  (d8:n<=A) (a7:A<n+1) (hn:n<=100000) (d9:i<n) (hb:w.heap[b]?=E (a0 d.vals 48)):
  aw ak 128 #[R (E ⟨g,0,G⟩) n A,ab B (i:af),R (E ⟨b,0,G⟩) 1 1] w λe w'=>∃ F N,e=.returned (R (E ⟨w,0,G⟩) (n+1) F)/\
   w'.heap[(w:C)]?=E (a0 N 48)/\N.toList.take ((n+1)*10)=y.take (i*10)++(d.vals.toList++y.drop (i*10))/\N.size=F*10/\n+1<=F/\F<=bc/\Fr No w w':=by
 obtain⟨i0,d3,d4,d5,b5⟩:=co infoD;have e0:¬ ((i:af)=(n:af)):=by omega
 have hr:(A:af)<(n:af)+1:=by omega
 have d7:i<=n:=by omega
 have e3:=zC hb;have e4:=zC hg;have X:(y.drop (i*10)).length=(n-i)*10:=by rw[dg,b3,<-em]
 have a8:∀ j v,y[j]?=E v->a6[j]?=E v:=λj v h=>by
  have V:=(List.getElem?_eq_some_iff.1 h).1;rw[<-d2,df (by omega)]at h;rw[<-dr];exact h
 have b6:(y.take (i*10)).length=i*10:=by rw[bj,b3];omega
 have a3:(du i0.size i (R (E ⟨g,0,G⟩) i A)).run ak w.drew=.ok (y.take (i*10)).toArray w.drew:=by
  rw[d5];exact run_firstCells_some (P:=ak) w.drew 10 i ⟨g,0,G⟩ i A (y.take (i*10)) b6 (λj v V=>by
   rw[bx,ep];rw[List.getElem?_take]at V;split at V;·exact(zB (show w.drew.heap[g]?=_ from hg) j).trans (a8 _ _ V)
   .cases V)
 have b7:(n:af)+1-(i:af)=((n+1-i:C):af):=by omega
 have a9:i+(n+1-i)=n+1:=by omega
 obtain⟨F,hG⟩:=ε (grownCap w (n+1) A 48)
 obtain⟨Z,hZ⟩:∃ Z:ar,Z=ax #[ab B 0,ab B 0,az,az,az,az,az,ab B 0,ab B 0,R G 0 0]:=⟨_,rfl⟩
 obtain⟨o,I⟩:∃ o:ay ar,o=(y.take (i*10)).toArray++da Z.cells (n+1-i)++da Z.cells (F-(n+1)):=⟨_,rfl⟩
 have b8:∀ O J,J=(n:af)+1-(i:af)->(Builtin.append_ #[37,3] O #[R (E ⟨g,0,G⟩) i A,ab B J]).run ak w=.ok (R (E ⟨w,0,G⟩) (n+1) F) (w.drew.alloc (a0 o 48)):=λO J e=>by
  have h:=Lib.run_append_grow_zeros (P:=ak) w 37 3 O 48 i0 _ B B bq fa d3 d4 (E ⟨g,0,G⟩) i A (y.take (i*10)) a3 (n+1-i) (by omega) (by omega) (by omega) (by omega) (by rw[b5];omega) (by rw[b5,a9];exact growslice_fits a7 (by omega));rw[a9]at h;rw[e,b7,I,hG,hZ];exact h
 have d6:n+1<=F:=by rw[hG];exact grownCap_ge w _ _ _
 have b9:F<=maxLen:=by rw[hG];exact grownCap_le_maxLen w (n+1) A 48 (by unfold bc;omega)
 have b0:o.size=F*10:=by
  rw[I,hZ];simp[da,Value.cells,b6];omega
 have d0:o.toList.take (i*10)=y.take (i*10):=by
  rw[I];simp only[Array.toList_append,cp];rw[di (by omega),dj,Nat.min_self]
 clear I hZ b7 a9 hG a3;obtain⟨U,Y⟩:=ε ((w.alloc (a0 o 48)).drew)
 have F1:Fr No w U:=by rw[Y];exact((ao No w).alloc _).drew
 have n1:U.heap[(w:C)]?=E (a0 o 48):=by rw[Y];exact zF w.drew _
 have b1:d.vals.toList.length=10:=rfl;have a4:∀ O J dc,J=n+1-i->(ca #[37,37] O #[R (E ⟨w,i*10,G⟩) J dc,R (E ⟨b,0,G⟩) 1 1]).run ak U=.ok (goInt (1:C)) (U.setRow (w:C) (am o.toList (i*10) d.vals.toList).toArray):=λO J dc e1=>
  zBa U 37 37 O 48 10 (w:C) (i*10) J dc ⟨b,0,G⟩ 1 1 o 48 d.vals.toList bq zDO n1 1 (by subst e1;simp only[ct];split<;>omega) rfl
   (λj v V=>by rw[bx,zB (F1.heap hb id)];simpa using V) (by rw[b1,b0];omega) (zAd d)
 have n2:=cg U (w:C) o (am o.toList (i*10) d.vals.toList).toArray 48 (0,0) n1;have f2:=Fr.setRow (S:=Is (w:C)) U (w:C) (am o.toList (i*10) d.vals.toList).toArray rfl;have b2:(am o.toList (i*10) d.vals.toList).length=F*10:=(cx _ _ _ (by rw[b1,bz];omega)).trans (Array.length_toList.trans b0);have hF:ag ((am (am o.toList (i*10) d.vals.toList) ((i+1)*10) (y.drop (i*10))).take ((n+1)*10)=y.take (i*10)++(d.vals.toList++y.drop (i*10))):=by
  unfold ag;rw[show (n+1)*10=i*10+(n-i)*10+10 by omega,zHV (L:=o.toList) (cs:=y.drop (i*10)) (d:=d.vals.toList) (i:=i) (n:=(n-i)*10) (z:=10) b1 X (by rw[bz];omega),d0]
 have F2:Fr No w (U.setRow (w:C) (am o.toList (i*10) d.vals.toList).toArray):=F1.step f2 (λb hb h=>by omega);generalize (U.setRow (w:C) (am o.toList (i*10) d.vals.toList).toArray)=W2 at *;generalize am o.toList (i*10) d.vals.toList=row2 at *;have a5:∀ (W:a1),Fr No W2 W->∀ O J dc sl sc,J=n-i->sl=n-i->(ca #[37,37] O #[R (E ⟨w,(i+1)*10,G⟩) J dc,R (E ⟨g,i*10,G⟩) sl sc]).run ak W=.ok (goInt (n-i:C)) (W.setRow (w:C) (am row2 ((i+1)*10) (y.drop (i*10))).toArray):=λW hW O J dc sl sc e1 e2=>
  zBa W 37 37 O 48 10 (w:C) ((i+1)*10) J dc ⟨g,i*10,G⟩ sl sc row2.toArray 48 (y.drop (i*10)) bq zDO (hW.heap n2 id) (n-i) (by simp only[ct];split<;>omega) X
   (λj v V=>by
    rw[de]at V;rw[bx,zB (hW.heap (F2.heap hg id) id)];exact a8 _ v V)
   (by rw[X,cr,b2];omega) (λv hv=>b4 v (ee hv))
 have HN:=zg3 n2 F2 b2;clear n1 n2 f2 F1 F2 b2 d0 b0 a8 b4;go_enter dl,dm;go_upto_region 10 with(at_builtin;refine Lib.wpList_append_run _ rfl _ _ _ _ rfl _ _ rfl rfl _ _ (b8 _ _ (by omega)) ?_)
 rw[<-Y];clear Y b8;go_upto_region 11 with(at_builtin;refine cz _ rfl _ _ 37 37 rfl _ _ rfl rfl (a4 _ _ _ (by omega)) ?_)
 refine zO (Is (w:C)) [(0,ae),(1,ae),(2,ae),(3,ae),(4,ae),(5,ae),(6,ae),(7,ae),(8,ah)] (λw3 a2=>?_);have h3:=a5 w3 a2;have F3:=HN.2.1.step a2 zi;have n3:=cg w3 (w:C) row2.toArray (am row2 ((i+1)*10) (y.drop (i*10))).toArray 48 (0,0) (a2.heap HN.1 id);have f3:=Fr.setRow (S:=Is (w:C)) w3 (w:C) (am row2 ((i+1)*10) (y.drop (i*10))).toArray rfl;have d1:(am row2 ((i+1)*10) (y.drop (i*10))).toArray.size=F*10:=(cx _ _ _ (by have:=HN.2.2;rw[X];omega)).trans HN.2.2;have H3:=zg4 n3 f3 d1 (F3.step f3 (λb hb h=>by omega));clear n3 f3 d1 F3 a4 a5 a2;(repeat apply zR rfl rfl rfl;intro K hK;go_big_quiet_op;go_big_quiet_on);apply zu rfl;go_wp2_with (at_builtin;refine cz _ rfl _ _ 37 37 rfl _ _ rfl rfl (h3 _ _ _ _ _ (by omega) (by omega)) ?_)
 apply zf H3.2.1;apply zb;clear h3;generalize am row2 ((i+1)*10) (y.drop (i*10))=row3 at *;go_wp2;go_ret;exact⟨F,_,rfl,H3.1,hF,H3.2.2.1,d6,b9,H3.2.2.2⟩
theorem zGC (o b:C)(a:ap aq)(n v i:C)(F:ai ar)(d:Dev)(w:a1)(y:w.ownsRow o 48 10 (R a n v) n F)(I:∀ u∈F,u.oneCell'=ah)(hn:n<=100000)(hi:i<=n)(V:w.heap[b]?=E (a0 d.vals 48))(z:o<=(w:C))(X:∀ ad,a=E ad->b≠ad.block):
  aw ak 128 #[R a n v,ab B (i:af),R (E ⟨b,0,G⟩) 1 1] w λe w'=>(∃ O U,e=.returned (R O (n+1) U)/\w'.ownsRow o 48 10 (R O (n+1) U) (n+1) (F.take (i*10)++(d.vals.toList++F.drop (i*10))))/\Fr (λb=>(be a n v).ownBlock=E b) w w':=by
 by_cases he:i=n
 .subst he;apply (zEv o b a i v F d w y hn V z).mono;rintro e w' ⟨⟨O,U,rfl,h⟩,J⟩;refine⟨⟨O,U,rfl,?_⟩,J⟩;rw[bn (by rw[y.1];omega),List.drop_of_length_le (by rw[y.1];omega),List.append_nil];exact h
 .have Y:=y.1;have hL:(F.take (i*10)++(d.vals.toList++F.drop (i*10))).length=(n+1)*10:=by
   rw[cc,cc,bj,dg,Y,show d.vals.toList.length=10 from rfl];omega
  obtain⟨_,⟨_,h2⟩|⟨g,c,N,h1,hg,hk,h3,h4,h5,h6⟩⟩:=y;·omega
  .cases h1;by_cases hr:n+1<=v
   .apply (zEb o g b v n i N F d w hk h6 Y I h5 hr h4 (by omega) V (X _ rfl)).mono;rintro e w' ⟨rfl,⟨A,Z,k2,k3⟩,J⟩;exact⟨⟨_,_,rfl,hL,.inr ⟨g,v,A,rfl,hg,Z,hr,h4,k3,k2⟩⟩,J.mono (λb _ h=>by unfold Is at h;rw[h];rfl)⟩
   .apply (zEc g b v n i N F d w hk h6 Y I h3 (by omega) hn (by omega) V).mono;rintro e w' ⟨a2,A,rfl,Z,k2,k3,k4,k5,J⟩;exact⟨⟨_,_,rfl,hL,.inr ⟨_,a2,A,rfl,z,Z,k4,k5,k3,k2⟩⟩,J.mono (λb _ h=>h.elim)⟩
def rngB (d:Dev):Bool:=decide (1<=d.index)&&decide (d.index<=1073741824)&&(decide (0<=d.parent)&&decide (d.parent<=1073741824))&&!(d.parent==d.index)
structure Sound (d:Dev)(l:ai (aj×aj)):Prop where
 rng:rngB d=ah
 named:namedB d=ah
 same:(d.name.toList==d.orig.toList)=ah
 num:(decide (1<=d.num)&&decide (d.num<=1073741824))=ah
 attrs:l.all attrOk=ah
 link:zES (nodeOf d.orig)=ah
theorem Sound.orig (h:Sound d l):isName d.orig=true:=by
 have:=h.named;unfold namedB at this;simp only[bh]at this;exact this.1.1.2
theorem Sound.oklen (h:Sound d l):d.orig.size<=32:=(zAh h.orig).1
theorem zFQ (d:Dev)(l:ai (aj×aj))(m:af)(w:a1)(hs:Sized d)(hl:Atts w d.aa d.ac l)(h1:(l:C)<=1)(u:d.an=(l:C))(hk:d.kind=2)(hd:d.drv=())(h:Sound d l)(hm:w ⟨0,0,G⟩=E (ab B m))(h0:0<(w:C)):
  aw ak 125 #[ax d.vals] w λe w'=>e=.returned (ab B 0)/\Fr No w w':=by
 obtain⟨W0,v,hx,q0⟩:=zy w (a0 d.vals 48);have b0:=h.oklen;have K1:=zh (λW=>zPT d W hs hd);have K2:=zh (λW=>zPU d W hk);have K3:=zh (λW=>zLq d W hk);have K4:=zh (λ(W:a1) (V:Fr No w W)=>zGE d.aa d.ac l W (hl.no V (λ_=>id)) h1);have K5:=zh (λ(W:a1) (V:Fr No w W)=>zLr d m W (by omega) (V.cell hm id) (ck h0 V.size));have K6:=zh (λ(W:a1) (V:Fr No w W)=>zP8 (nodeOf d.orig) m W (zEM _ (by omega)) (V.cell hm id) (ck h0 V.size));have X:numK d.kind=true:=by rw[hk];rfl
 have Z:nodeR d=nodeOf d.orig:=by unfold nodeR;rw[X];rfl
 rw[Z,X]at K5;rw[h.named]at K1;rw[h.same]at K2;rw[h.num]at K3;rw[h.attrs]at K4;rw[h.link]at K6;have Y:=h.rng;unfold rngB at Y;simp only[bh]at Y;have a2:(decide (1<=d.index)&&decide (d.index<=1073741824))=true:=by simp only[bh];exact Y.1.1
 have a3:(decide (0<=d.parent)&&decide (d.parent<=1073741824))=true:=by simp only[bh];exact Y.1.2
 have b1:(d.parent==d.index)=false:=by simpa using Y.2
 have K7:=zh (λW=>zGD d.index 1 1073741824 W);have K8:=zh (λW=>zGD d.parent 0 1073741824 W);rw[a2]at K7;rw[a3]at K8;have b2:=hl.lenmax;have b3:¬ (24:af)<(l:C):=by omega
 generalize nodeOf d.orig=nd at *;obtain⟨y,c1,z,A,F,I,J,N,O,o⟩:=DevB.of q0;have U:=zh u;rw[u]at o;unfold bf at v K1 K2 K3 K5 ⊢;rw[u]at v K1 K2 K3 K5 ⊢;clear Y a2 a3 h X Z hm hl hs hk hd u;go_enter Tryz.func125,Tryz.ntmps125;go_upto_region 1 with(fail)
 rw[<-v];clear v;go_wp2_with fail;apply (K7 _).mono;rintro e w1 ⟨rfl,rfl⟩;go_wp2_with fail;apply (K8 _).mono;rintro e w1 ⟨rfl,rfl⟩;go_wp2_with fail;apply (K1 _).mono;rintro e w1 ⟨rfl,a4⟩;have q1:=a4.heap q0 id;have x1:=hx.step a4 zi;clear y c1 z A F I J N O o q0;obtain⟨y,c1,z,A,F,I,J,N,O,o⟩:=DevB.of q1;rw[U]at o;go_wp2_with fail;apply (K2 _).mono;rintro e w2 ⟨rfl,a5⟩;have q2:=a5.heap q1 id;have x2:=x1.step a5 zi;clear y c1 z A F I J N O o q1;obtain⟨y,c1,z,A,F,I,J,N,O,o⟩:=DevB.of q2;rw[U]at o;go_wp2_with fail;apply (K3 _).mono;rintro e w3 ⟨rfl,a6⟩;have q3:=a6.heap q2 id;have x3:=x2.step a6 zi;clear y c1 z A F I J N O o q2;obtain⟨y,c1,z,A,F,I,J,N,O,o⟩:=DevB.of q3;rw[U]at o;go_wp2_with fail;apply (K4 _ x3).mono;rintro e w4 ⟨rfl,a7⟩;have q4:=a7.heap q3 id;have x4:=x3.step a7 zi;clear y c1 z A F I J N O o q3;obtain⟨y,c1,z,A,F,I,J,N,O,o⟩:=DevB.of q4;rw[U]at o;go_wp2_with fail;apply (K5 _ x4).mono;rintro e w5 ⟨rfl,a8⟩;have q5:=a8.heap q4 id;have x5:=x4.step a8 zi;clear y c1 z A F I J N O o q4;go_wp2_with fail;apply (K6 _ x5).mono;rintro e w6 ⟨rfl,a9⟩;have x6:=x5.step a9 zi;go_wp2;go_ret;exact⟨rfl,x6⟩
structure InsPre (ds:ai Dev)(d:Dev)(l:ai (aj×aj)):Prop where
 snd:Sound d l
 new:look ds d.index=G
 par:((d.parent==0)||(look ds d.parent).isSome)=ah
 len:(ds:C)<256
 dep:depthB (newO ds d)<=7
def insK (ds:ai Dev)(d:Dev):C:=if fidx (zAD ds (newO ds d)) ds<0 then (ds:C) else (fidx (zAD ds (newO ds d)) ds).toNat
def sameO (ds:ai Dev)(d:Dev):Bool:=match ds[insK ds d]? with|some x=>(plc ds x.index).toList==(newO ds d).toList|none=>ae
def zGO (w w':a1)(ds:ai Dev)(d:Dev)(e:Ending):Prop:=
 ∃ a' c' ds',e=.returned (.tuple #[ax #[R a' ds'.length c'],ab B 0])/\Devs w' a' c' ds'/\BlkT w' a' 48/\(∀ ad,a'=E ad->(w:C)<=ad.block)/\Cop w w' (w:C) (insAt ds (insK ds d) d) ds'
def InsTk (w w':a1)(ds:ai Dev)(d:Dev)(e:Ending):Prop:=(sameO ds d||ds.any (clP d))=ah/\e=.returned (.tuple #[ax #[R G 0 0],ab B 44])
theorem zCp (ds:ai Dev)(d:Dev):(fidx (zAD ds (newO ds d)) ds=-1/\insK ds d=(ds:C))\/(fidx (zAD ds (newO ds d)) ds=(insK ds d:af)/\insK ds d<(ds:C)):=by
 unfold insK;rcases zAq (zAD ds (newO ds d)) ds with⟨h,_⟩|⟨k,x,h,o,_⟩
 .left;rw[h];exact⟨rfl,rfl⟩
 .right;have:=(List.getElem?_eq_some_iff.1 o).1;rw[h,if_neg (by omega)];exact⟨by simp,by simpa using this⟩
theorem zI5 (a b:ai Dev):flat (a++b)=flat a++flat b:=List.flatMap_append
theorem zEY (k:C):∀ l:ai Dev,(flat l).take (k*10)=flat (l.take k)/\(flat l).drop (k*10)=flat (l.drop k):=by
 induction k with
 | zero=>intro l;simp[flat]
 | succ k h=>
  intro l;cases l with
  | nil=>simp[flat]
  | cons x t=>
   have e:(k+1)*10=x.vals.toList.length+k*10:=(by rw[show x.vals.toList.length=10 from rfl];omega);have f:flat (x::t)=x.vals.toList++flat t:=rfl;rw[f,e,List.take_length_add_append,List.drop_length_add_append,(h t).1,(h t).2];exact⟨rfl,rfl⟩
theorem zLj (cs:ai Dev)(k:C)(d:Dev):(flat cs).take (k*10)++(d.vals.toList++(flat cs).drop (k*10))=flat (insAt cs k d):=by
 unfold insAt;rw[zI5,(zEY k cs).1,(zEY k cs).2];rfl
theorem zGx (h:k<=(ds:C))(d:Dev)(i:C):(insAt ds k d)[i]?=if i<k then ds[i]? else if i=k then E d else ds[i-1]?:=by
 unfold insAt;rw[List.getElem?_append,bj,cu h];split;·rename_i o;rw[df o]
 .rename_i o;split;·rename_i e;subst e;simp
  .rename_i u;obtain⟨j,rfl⟩:∃ j,i=k+1+j:=⟨i-k-1,by omega⟩
   rw[show k+1+j-k=j+1 by omega,ed,de,show k+1+j-1=k+j by omega]
theorem Cop.ins {y:ai Dev}{A:Dev}(h:Cop w w' o ds y)(I:Cop1 w w' o d A)(J:k<=(ds:C)):Cop w w' o (insAt ds k d) (insAt y k A):=by
 have N:=h.len;refine⟨by rw[zCq,zCq,N],λi x F e u=>?_⟩;rw[zGx J]at e;rw[zGx (by omega)]at u;split at e;·rename_i z;rw[if_pos z]at u;exact h.el i x F e u
 .rename_i z;rw[if_neg z]at u;split at e;·rename_i v;rw[if_pos v]at u;cases e;cases u;exact I
  .rename_i v;rw[if_neg v]at u;exact h.el (i-1) x F e u
theorem SMap.look {u:C}{g:af->ap aj}{N:C}(h:SMap w u g N){k:af}(z:(cj B k).wf=ah):(dd 151 (.map (E u)) (.int B k) ae).run ak w=.ok (.string ((g k).getD ⟨#[]⟩)) w:=by
 obtain⟨D,n,_,A,_,F⟩:=h;obtain⟨v,J,o,I⟩:=A.lookup lawI Tryz.underlying151 (zeroS w) (plainElem_string fb (by unfold bc;show 0<=_;omega)) (keyOf_int_mk fa z);obtain⟨s,rfl,y,_⟩:=plainElem_string_inv fb I;simp only[Prod.mk.injEq]at y;have e:=(F k).symm.trans y.1;obtain rfl:s=(g k).getD ⟨#[]⟩:=zDn (by simpa using e.symm);exact o
theorem zED {o:ba}{S:a1->Prop}{K:au->Prop}{y:bg}(m x:Operand)(t:cf)(u:o.op=Op.lookup t m x y)(z A v:ar)(F:a.eval m=z)(I:a.eval x=A)
  (h:∀ W,S W->(dd t z A y).run ak W=.ok v W) (J:K (a.put o.dst v)):o.quiet ak a S K:=by
 refine⟨v,λW N=>?_,J⟩;unfold er;simp[execOp,u,F,I,h W N,Result.andThen,Oper.quietUpon]
theorem Cop1.src {v:a1}{y:Dev}(h:Cop1 v w' o d y)(A:Fr No w v)(u:∃ l,Atts w d.aa d.ac l/\d.an=l.length)(V:base'<=o):Cop1 w w' base' d y:=by
 obtain⟨l,F,I,J,N⟩:=h.att;obtain⟨O,z,X⟩:=u;have e:O=l:=(z.no A (λ_=>id)).det F (by omega);exact⟨h.eq,⟨l,by rw[<-e];exact z,I,J,N⟩,h.typ,λU e=>by have:=h.fresh U e;omega⟩
theorem Cop.src (h:Cop y w' o ds u)(A:Fr No w y)(v:∀ d∈ds,∃ l,Atts w d.aa d.ac l/\d.an=l.length)(F:base'<=o):Cop w w' base' ds u:=
 ⟨h.len,λi d I z J=>(h.el i d I z J).src A (v d (bm z)) F⟩
theorem zD0 (a:ap aq)(o:C)(ds:ai Dev)(i3:C)(d:Dev)(l:ai (aj×aj))(m:af)(w:a1)(hl:Tr w i3 a o ds)(hs:Sized d)(hA:Atts w d.aa d.ac l)(h1:l.length<=1)(d6:d.an=l.length)(hk:d.kind=2)(hd:d.drv=())(l0:(cj B d.parent).wf=ah)(l1:(cj B d.index).wf=ah)(A:InsPre ds d l)(hm:w ⟨0,0,G⟩=E (.int B m))(h0:0<(w:C)):
  aw ak 68 #[ax #[.slice a ds o],ax d.vals] w λe w'=>(InsTk w w' ds d e\/(sameO ds d||ds.any (clP d))=ae/\zGO w w' ds d e)/\Fr No w w':=by
 have hT:=hl.wf.ok;have hn:=A.len;obtain⟨W0,b0⟩:=ε (((w.alloc (a0 #[.slice a ds o] 39)).alloc (a0 d.vals 48)).alloc (a0 #[.slice G 0 0] 39))
 have fx:Fr No ((w.alloc (a0 #[.slice a ds o] 39)).alloc (a0 d.vals 48)) W0:=by rw[b0];exact(ao _ _).alloc _
 have O:Fr No w W0:=by rw[b0];exact(((ao _ _).alloc _).alloc _).alloc _
 have q0:=fx.heap (zP w (a0 #[.slice a ds o] 39) (a0 d.vals 48)) id;have q1:=fx.heap (zS w (a0 #[.slice a ds o] 39) (a0 d.vals 48)) id;have q2:W0.heap[(w:C)+1+1]?=E (a0 #[.slice G 0 0] 39):=by
  have:=zF ((w.alloc (a0 #[.slice a ds o] 39)).alloc (a0 d.vals 48)) (a0 #[.slice G 0 0] 39);rw[cw,cw]at this;rw[b0];exact this
 clear fx;have b6:=zCc a o ds W0 (hl.dv.no O (λ_=>id)) hT (by omega);have n9:=zC q2;have Z:W0 ⟨w,0,G⟩=E (.slice a ds o):=zB q0 0
 -- what the callees answer
 have i4:(ogs ds d.parent).getD ⟨#[]⟩=plc ds d.parent:=zDH hT d.parent;have i5:(ogs ds d.parent).isSome=(look ds d.parent).isSome:=by rw[zFv hT];exact Option.isSome_map
 have l2:(ogs ds d.index).getD ⟨#[]⟩=():=by rw[zFv hT,A.new];rfl
 have l3:(ogs ds d.index).isSome=false:=by rw[zFv hT,A.new];rfl
 have i6:=zId hT (by omega) d.parent;have n4:=A.snd.oklen;have n5:(newO ds d).size<=33100:=by
  unfold newO;rw[ByteArray.size_append,ByteArray.size_append];show _+1+_<=_
  omega
 have K1:=zh (λ(W:a1) (U:Fr No w W)=>zFQ d l m W hs (hA.no U (λ_=>id)) h1 d6 hk hd A.snd (U.cell hm id) (ck h0 U.size));have K2:=zh (λ(W:a1) (U:Fr No w W)=>zJZ (newO ds d) m W (by omega) (U.cell hm id));have K3:=zh (λ(W:a1) (U:Fr No w W)=>zDU a o ds d m W (hl.dv.no U (λ_=>id)) (λx O=>by have:=hT.sz x O;omega) (by omega) (U.cell hm id) (ck h0 U.size));have K4:=zh (λ(W:a1) (U:Fr No w W)=>zCP a o ds W (hl.dv.no U (λ_=>id)) (by omega) (λx O=>by
  obtain⟨l',g1,g2,g3⟩:=(hl.el x O).att;exact⟨l',g1.no U (λ_=>id),g2,g3⟩))
 have K5:=zh (λ(W:a1) (U:Fr No w W)=>zBg d l W (hA.no U (λ_=>id)) d6 (by omega));obtain⟨F,hF⟩:=ε (fidx (zAD ds (newO ds d)) ds)
 obtain⟨z,b7⟩:=ε (insK ds d)
 have g8:=zCp ds d;rw[<-hF,<-b7]at g8;have K6:ag (∀ (m1 m2 bv bs:C) (W:a1),Fr No w W->W.heap[bv]?=E (a0 #[.slice a ds o,.map (E m1),.map (E m2)] 153)->SMap W m2 (ogs ds) (ds:C)->W ⟨bs,0,G⟩=E (.string (newO ds d))->aw ak 115 #[.slice a ds o,.func (.func 123) #[] #[bd (E ⟨bv,0,G⟩),bd (E ⟨bs,0,G⟩)]] W λe w'=>e=.returned (.int B F)/\Fr No W w'):=by
  intro m1 m2 bv bs W U hv hS hb;have:=zBt 123 #[bd (E ⟨bv,0,G⟩),bd (E ⟨bs,0,G⟩)] (λ_ _=>rfl) (zAD ds (newO ds d)) a o ds W (hl.dv.no U (λ_=>id)) (λx O W' d7=>zLW x ds a o m1 m2 bv bs (newO ds d) m W' hT (by omega) (by omega) O (d7.heap hv id) (hS.fr d7 id) (d7.cell hb id) ((U.step d7 zi).cell hm id));rw[<-hF]at this;exact this
 have n6:¬ (7:af)<(depthB (newO ds d):C):=by have:=A.dep;omega
 have n7:¬ (256:af)<=(ds:C):=by omega
 obtain⟨SB,b8⟩:=ε (sameO ds d)
 obtain⟨CB,d8⟩:=ε (ds.any (clP d))
 rw[<-d8]at K3;have i7:ag ((z=(ds:C)->SB=ae)/\∀ x,ds[z]?=E x->∀ P,P=plc ds x.index->SB=(P.toList==(newO ds d).toList)):=⟨λe=>by
  rw[b8];unfold sameO;rw[<-b7,e,List.getElem?_eq_none (bo _)],λx O P e=>by rw[b8];unfold sameO;rw[<-b7,O,e]⟩
 have e8:ag (∀ w' e,InsTk w w' ds d e\/(SB||CB)=ae/\zGO w w' ds d e->InsTk w w' ds d e\/(sameO ds d||ds.any (clP d))=ae/\zGO w w' ds d e):=λw' e h=>by rw[<-b8,<-d8];exact h
 have l4:ag (∀ w' e,(SB||CB)=ah->e=Ending.returned (.tuple #[ax #[.slice G 0 0],.int B 44])->InsTk w w' ds d e):=λw' e h1 h2=>⟨by rw[<-b8,<-d8];exact h1,h2⟩
 have l5:=zh b7;have i8:z<=(ds:C):=by rcases g8 with h|h<;>omega
 clear b8 d8 hF b7;have b9:=A.par;have e9:ag (newO ds d=plc ds d.parent++⟨#[47]⟩++d.orig):=rfl;have o0:=hl.dv.lenmax;obtain⟨P,hP⟩:=ε (plc ds d.parent)
 obtain⟨bp,g9⟩:=ε ((look ds d.parent).isSome)
 rw[<-hP]at i4 e9 i6;rw[<-g9]at i5 b9;generalize newO ds d=og at *;generalize hD:depthB og=D at *;have HT:=zh hT;have HL:=zh hl;have o1:=zh A;have HA:=zh hA;have i9:=zh d6;clear hP g9 hD hl hT A hA hs hk hd hm d6;unfold bf at b0 K1 K3 K5 ⊢;go_enter Tryz.func68,Tryz.ntmps68;go_upto_region 1 with(fail)
 rw[<-b0];clear b0;go_wp2_with fail;apply b6.mono;rintro e w1 ⟨⟨m1,m2,rfl,o2,o3,o4,hI,hS⟩,h4⟩;clear b6 hI Z;obtain⟨W1,j0,h5,b1⟩:=zy w1 (a0 #[.slice a ds o,.map (E m1),.map (E m2)] 153);have d9:Fr No W0 W1:=h4.step h5 zi;have p0:=d9.heap q0 id;have p1:=d9.heap q1 id;have p2:=d9.heap q2 id;have e4:=hS.fr h5 id;have x1:Fr No w W1:=O.step d9 zi;have o5:=h4.size;clear q0 q1 q2 h4 h5 hS;have Z:W1 ⟨w,0,G⟩=E (.slice a ds o):=zB p0 0;have v2:W1 ⟨w1,2,G⟩=E (.map (E m2)):=zB b1 2;obtain⟨c0,c1,V,c3,c4,c5,c6,c7,c8,c9⟩:=DevB.of p1;go_upto_region 2 with(fail)
 rw[<-j0];clear j0;obtain⟨W2,h6,I,b2⟩:=zy W1 (a0 #[.string og] 9);have x2:Fr No w W2:=x1.step I zi;have k6:=K6.out m1 m2 (w1:C) (W1:C) W2 x2 (I.heap b1 id) (e4.fr I id) (zB b2 0);have r0:=I.heap p0 id;have r1:=I.heap p1 id;have r2:=I.heap p2 id;rw[e9]at h6;go_upto_region 5 with(first
  | (at_lookup;refine zDs rfl _ _ 151 rfl rfl m2 _ _ d.parent l0 rfl e4 rfl P i4 bp i5 ?_)
  | (at_lookup;refine zDs rfl _ _ 151 rfl rfl m2 _ _ d.index l1 rfl e4 rfl () l2 ae l3 ?_))
 rw[<-h6];have HV:=zg2 (I.heap b1 id) (e4.fr I id);clear h6 c0 c1 V c3 c4 c5 c6 c7 c8 c9 Z v2 p0 p1 p2 I b1;have Z:W2 ⟨w,0,G⟩=E (.slice a ds o):=zB r0 0;go_wp2_with fail;apply k6.mono;rintro e w3 ⟨rfl,b3⟩;have x3:Fr No w w3:=x2.step b3 zi;have s0:=b3.heap r0 id;have s1:=b3.heap r1 id;have s2:=b3.heap r2 id;have s4:=b3.heap b2 id;clear Z k6 r0 r1 r2 b2;have Z:w3 ⟨w,0,G⟩=E (.slice a ds o):=zB s0 0;obtain⟨c0,c1,V,c3,c4,c5,c6,c7,c8,c9⟩:=DevB.of s1;go_upto_if 41 with(fail)
 go_cut [12] (λv wx=>v=.int B (z:af)/\w3=wx);case first=>
  rcases g8 with⟨h1,h2⟩|⟨h1,h2⟩
  .have H2:=zh h2;have l6:F<0:=(by omega);clear h2 h1;go_wp2;go_meet;exact⟨by rw[H2],rfl⟩
  .have l6:¬ F<0:=by omega
   have H1:=zh h1;clear h1;go_wp2;go_meet;exact⟨by rw[H1],rfl⟩
 case rest=>
  obtain⟨rfl,rfl⟩:=hcut;go_wp2_with fail;apply (K1 _ x3).mono;rintro e w4 ⟨rfl,b4⟩;have x4:Fr No w w4:=x3.step b4 zi;have r0:=b4.heap s0 id;have r1:=b4.heap s1 id;have r2:=b4.heap s2 id;have r4:=b4.heap s4 id;clear c0 c1 V c3 c4 c5 c6 c7 c8 c9 Z s0 s1 s2 s4;have Z:w4 ⟨w,0,G⟩=E (.slice a ds o):=zB r0 0;have t4:w4 ⟨W1,0,G⟩=E (.string og):=zB r4 0;obtain⟨c0,c1,V,c3,c4,c5,c6,c7,c8,c9⟩:=DevB.of r1;go_upto_region 12 with(fail)
  go_cut [53] (λv wx=>v=.bool ae/\w4=wx);case first=>
   rcases hq:(d.parent==0)with _|_
   .rw[hq]at b9;have l7:(d.parent != 0)=true:=(by simp[bne,hq]);have g9:bp=true:=(by simpa using b9);go_wp2;go_meet;exact⟨rfl,rfl⟩
   .have l7:(d.parent != 0)=false:=(by simp[bne,hq]);go_wp2;go_meet;exact⟨rfl,rfl⟩
  case rest=>
   obtain⟨rfl,rfl⟩:=hcut;go_wp2_with fail;apply (K2 _ x4).mono;rintro e w5 ⟨rfl,b5⟩;have x5:Fr No w w5:=x4.step b5 zi;have s0:=b5.heap r0 id;have s1:=b5.heap r1 id;have s2:=b5.heap r2 id;have s4:=b5.heap r4 id;clear c0 c1 V c3 c4 c5 c6 c7 c8 c9 Z t4 r0 r1 r2 r4;have Z:w5 ⟨w,0,G⟩=E (.slice a ds o):=zB s0 0;have fV:Fr No W2 w5:=(b3.step b4 zi).step b5 zi;have j1:=zg2 (fV.heap HV.1 id) (HV.2.fr fV id);go_upto_region 18 with(fail)
   go_cut [73] (λv wx=>v=.bool SB/\ag (Fr No w5 wx));case first=>
    refine zO No [(0,ae),(1,ae),(2,ae),(3,ae),(4,ae),(5,ae),(6,ae),(7,ae),(8,ae),(9,ae),(10,ae),(11,ae),(12,ae),(13,ae),(14,ae),(15,ae),(16,ae),(17,ae),(18,ae)] (λw6 u=>?_);have e0:=u.heap s0 id;have Z:∀ g:Gr No w6,g.W ⟨w,0,G⟩=E (.slice a ds o):=λg=>g.fr.cell (zB e0 0) id
    have j2:=zh u;by_cases l8:z<(ds:C)
    .obtain⟨bb,l9,x,m0,O,y0,_⟩:=(HL.dv.no (x5.step u zi) (λ_=>id)).dev l8;have j3:=bm O;have j4:=HT.iwf j3;obtain⟨Px,h7⟩:=ε (plc ds x.index)
     have m3:=zh (i7.2 x O Px h7);have j5:=u.heap j1.1 id;have j6:=j1.2.fr u id;have m4:∀ W,(∃ g:Gr No w6,W=g.W)->(dd 151 (.map (E m2)) (.int B x.index) ae).run ak W=.ok (.string Px) W:=λW hW=>by
      obtain⟨g,rfl⟩:=hW;rw[(j6.fr g.fr id).look j4,h7,zDH HT]
     have n8:(z:af)<(ds:C):=(by omega);have z0:∀ g:Gr No w6,g.W ⟨bb,l9+z*10,G⟩=E (.int B x.index):=λg=>g.fr.cell y0 id
     have z2:∀ g:Gr No w6,g.W ⟨w1,2,G⟩=E (.map (E m2)):=λg=>g.fr.cell (zB j5 2) id
     have z4:∀ g:Gr No w6,g.W ⟨W1,0,G⟩=E (.string og):=λg=>g.fr.cell (zB (u.heap s4 id) 0) id
     clear O j3 h7 y0 j6 j5 e0 u;subst m0;(repeat(first|apply zR rfl rfl rfl|apply zT rfl rfl rfl);intro K hK;go_big_quiet_op;go_big_quiet_on);apply zR rfl rfl rfl;intro K hK;refine zED _ _ 151 rfl (.map (E m2)) (.int B x.index) _ rfl rfl m4 ?_
     go_frame
     go_big_quiet_on;(repeat(first|apply zR rfl rfl rfl|apply zT rfl rfl rfl);intro K hK;go_big_quiet_op;go_big_quiet_on);apply zb;go_wp2;go_meet;exact⟨by rw[m3],j2⟩
    .have j7:z=(ds:C):=(by omega);have m5:=zh (i7.1 j7);have o6:¬ (z:af)<(ds:C):=(by omega);clear j7 e0 u;(repeat(first|apply zR rfl rfl rfl|apply zT rfl rfl rfl);intro K hK;go_big_quiet_op;go_big_quiet_on);apply zb;go_wp2;go_meet;exact⟨by rw[m5],j2⟩
   case rest=>
    obtain⟨rfl,u⟩:=hcut;obtain⟨w6,j8⟩:=ε wc
    rw[<-j8]at u ⊢;clear j8;have x6:Fr No w w6:=x5.step u zi;have r0:=u.heap s0 id;have r1:=u.heap s1 id;have r2:=u.heap s2 id;clear Z s0 s1 s2 s4;go_upto_if 73 with(fail)
    go_cut [73] (λv wx=>v=.bool (SB||CB)/\ag (Fr No w6 wx));case first=>
     have Z:w6 ⟨w,0,G⟩=E (.slice a ds o):=zB r0 0;obtain⟨c0,c1,V,c3,c4,c5,c6,c7,c8,c9⟩:=DevB.of r1;cases SB with
     | true=>
      go_wp2;go_meet;exact⟨rfl,ao _ _⟩
     | false=>
      go_wp2_with fail;apply (K3 _ x6).mono;rintro e w7 ⟨rfl,J⟩;have H7:=zh J;clear J;go_wp2;go_meet;exact⟨rfl,H7⟩
    case rest=>
     obtain⟨rfl,J⟩:=hcut;obtain⟨w7,j9⟩:=ε wc
     rw[<-j9]at J ⊢;clear j9;have x7:Fr No w w7:=x6.step J zi;have s0:=J.heap r0 id;have s1:=J.heap r1 id;have s2:=J.heap r2 id;clear r0 r1 r2 J;rcases hsc:(SB||CB)with _|_
     .skip;go_wp2_with fail;refine zO (λb=>(w7:C)<=b\/b=(w:C)+1+1) [(0,ae),(1,ae),(3,ae),(4,ae),(2,ah),(5,ah),(6,ah),(7,ah),(8,ae),(9,ah),(10,ae)] (λw8 d0=>?_);have x8:Fr No w w8:=x7.step d0 zi;have u0:=d0.heap s0 id;have u1:=d0.heap s1 id;have u2:=d0.heap s2 id;have o7:=d0.size;have o8:=zC s2;clear s0 s1 s2;have Z:∀ g:Gr (λb=>(w7:C)<=b\/b=(w:C)+1+1) w8,g.W ⟨w,0,G⟩=E (.slice a ds o):=λg=>zB (g.fr.heap u0 (λh=>by omega)) 0
      have cB:∀ g:Gr (λb=>(w7:C)<=b\/b=(w:C)+1+1) w8,DevB g.W ((w:C)+1) d:=λg=>DevB.of (g.fr.heap u1 (λh=>by omega))
      have c0:=λg=>(cB g).c0
      have c1:=λg=>(cB g).c1
      have V:=λg=>(cB g).c2
      have c3:=λg=>(cB g).c3
      have c4:=λg=>(cB g).c4
      have c5:=λg=>(cB g).c5
      have c6:=λg=>(cB g).c6
      have c7:=λg=>(cB g).c7
      have c8:=λg=>(cB g).c8
      have c9:=λg=>(cB g).c9
      clear cB;(repeat(first|apply zR rfl rfl rfl|apply zT rfl rfl rfl);intro K hK;go_big_quiet_op;go_big_quiet_on);clear c0 c1 V c3 c4 c5 c6 c7 c8 c9 Z;apply zu rfl;go_wp2_with fail;apply (K4 _ x8).mono;rintro e w9 ⟨⟨v,cs,rfl,a5,d1⟩,d2⟩;have h8:=d1.len;rw[h8]at a5;obtain⟨av,cv,rfl⟩:=zI a5;have x9:Fr No w w9:=x8.step d2 zi;have m6:=zh h8;have k0:=zh d1;have a6:=zh a5;clear h8 d1 a5;go_wp2_with fail;apply zm d2;apply zu rfl;go_wp2_with fail;apply (K5 _ x9).mono;rintro e e5 ⟨⟨a',c',rfl,k3,k4,g4⟩,X⟩;have h9:=zg3 k3 k4 g4;clear k3 k4 g4;go_wp2_with fail;apply zm X;apply zu rfl;obtain⟨e6,d3,d4,m7⟩:=zy e5 (a0 (bf { d with aa:=a',ac:=c' }) 48);unfold bf at d3;go_wp2_with fail;apply zp;rw[<-d3];clear d3;have Y:Fr No w9 e6:=X.step d4 zi;have g5:=zGC (w8:C) (e5:C) av (ds:C) cv z (flat cs) { d with aa:=a',ac:=c' } e6 (zG a6 Y (λ_ _=>id)) (zNP cs) (by omega) i8 m7 (by have h1:=d2.size;have h2:=X.size;have h3:=d4.size;omega) (λad e h=>by have h1:=(zAF a6 (by rw[e];rfl:(be av ds cv).ownBlock=E ad.block)).2;have h2:=X.size;omega);apply zu rfl;go_wp2_with fail;apply g5.mono;rintro e d5 ⟨⟨a2,V,rfl,N⟩,a7⟩;rw[zLj]at N;have i0:∀ b,(be av ds cv).ownBlock=E b->(w8:C)<=b:=λb hb=>zQ a6 hb
      have a8:=zh N;have y2:=a7.heap (Y.heap (d2.heap u2 id) id) (λh=>by have:=i0 _ h;omega);have f0:=zD y2 0;have g0:d5 ⟨(w:C)+1+1,0,G⟩=E (.slice G 0 0):=zB y2 0;clear g5 N;go_wp2_with fail;refine cl ⟨a7.mono (λb _ h=>by have:=i0 b h;omega),?_⟩;(repeat(first|apply zR rfl rfl rfl|apply zT rfl rfl rfl);intro K hK;go_big_quiet_op;go_big_quiet_on);apply zu rfl;go_wp2_with fail;have e7:Fr (Is ((w:C)+1+1)) d5 (d5.setCell ⟨(w:C)+1+1,0,G⟩ (.slice a2 ((ds:C)+1) V)):=ci (ao _ _) _;refine cl ⟨e7.mono (λb _ h=>by omega),?_⟩;(repeat(first|apply zR rfl rfl rfl|apply zT rfl rfl rfl);intro K hK;go_big_quiet_op;go_big_quiet_on);apply zb;have y3:=zE y2 0 (.slice a2 ((ds:C)+1) V);have g3:(d5.setCell ⟨(w:C)+1+1,0,G⟩ (.slice a2 ((ds:C)+1) V)) ⟨(w:C)+1+1,0,G⟩=E (.slice a2 ((ds:C)+1) V):=zB y3 0;have zz:(w8:C)<=(w9:C)/\(w9:C)<=(e5:C)/\(e5:C)<=(e6:C):=⟨d2.size,X.size,d4.size⟩
      generalize d5.setCell ⟨(w:C)+1+1,0,G⟩ (.slice a2 ((ds:C)+1) V)=W13 at *;clear g0 f0 y2 y3;go_wp2_with fail;refine cn (v:=.tuple #[ax #[.slice a2 ((ds:C)+1) V],.int B 0]) (by simp[cy,f5,go_sem,g3]) rfl ?_;have a4:(insAt cs z { d with aa:=a',ac:=c' }).length=(ds:C)+1:=(by rw[zCq,m6]);have a9:W13.ownsRow (w8:C) 48 10 (.slice a2 ((ds:C)+1) V) (insAt cs z { d with aa:=a',ac:=c' }).length (flat (insAt cs z { d with aa:=a',ac:=c' })):=by
       rw[a4];exact zG a8 e7 (λb hb h=>by have:=zQ a8 hb;omega)
      obtain⟨a3,c3,hv,hD,k5⟩:=Devs.of_own a9;have m8:=zAI a9;injection hv with e1 e2 e3
      subst e1;subst e3;have k7:Cop w8 e6 (w8:C) (insAt ds z d) (insAt cs z { d with aa:=a',ac:=c' }):=by
       refine(k0.fr Y (λ_ _ _ _=>id)).ins ⟨rfl,⟨l,HA.no x8 (λ_=>id),h9.1.no d4 (λ_=>id),i9,by omega⟩,h9.2.1.fr d4 (λ_ _=>id),λad e=>by have:=h9.2.2 ad e;omega⟩ i8
      have g6:=k7.own (zG a6 Y (λ_ _=>id)) a7;have g7:Cop w8 W13 (w8:C) (insAt ds z d) (insAt cs z { d with aa:=a',ac:=c' }):=g6.fr e7 (λx O ad e h=>by
       obtain⟨y,_,hy⟩:=g6.mem O;have:=hy.fresh ad e;unfold Is at h;omega)
      have m9:=x8.size;have k8:∀ x∈insAt ds z d,∃ l,Atts w x.aa x.ac l/\x.an=l.length:=by
       intro x O;rcases zV.1 O with h|h
       .subst h;exact⟨l,HA,i9⟩
       .obtain⟨l',g1,g2,_⟩:=(HL.el x h).att;exact⟨l',g1,g2⟩
      rw[l5]at g7 k8 a4 hD;refine⟨e8 _ _ (.inr ⟨hsc,⟨a2,V,insAt cs (insK ds d) { d with aa:=a',ac:=c' },by rw[a4],hD,m8,λad e=>by have:=k5 ad e;omega,g7.src x8 k8 m9⟩⟩),?_⟩;have k9:Fr No w W13:=(((x9.step Y zi).step a7 (λb hb h=>by have:=i0 b h;omega)).step e7 (λb hb h=>by omega))
      exact k9
     .have n3:=zh hsc;have z2:w7 ⟨(w:C)+1+1,0,G⟩=E (.slice G 0 0):=zB s2 0;have f2:=zD s2 0;have f8:Fr (Is ((w:C)+1+1)) w7 (w7.setCell ⟨(w:C)+1+1,0,G⟩ (.slice G 0 0)):=ci (ao _ _) _;have z3:(w7.setCell ⟨(w:C)+1+1,0,G⟩ (.slice G 0 0)) ⟨(w:C)+1+1,0,G⟩=E (.slice G 0 0):=zB (zE s2 0 (.slice G 0 0)) 0;have H8:=zh (x7.step f8 (λb hb h=>by omega));clear f8 hsc;go_wp2_with fail;refine cn (v:=.tuple #[ax #[.slice G 0 0],.int B 44]) (by simp[cy,f5,go_sem,z3]) rfl ?_;exact⟨e8 _ _ (.inl (l4 _ _ n3 rfl)),H8⟩
section
variable {P:bu}{ops:ay ba}{Q:Exit->au->a1->Prop}{md:et}{S S':a1->Prop}{n:C}
def wpAnyX (P:bu)(md:et)(ops:ay ba)(Q:Exit->au->a1->Prop)(S:a1->Prop)(n:C):C->ay bg->au->a1->Prop
 | 0,listed,a,w=>bi md ops listed=[]/\Q .normal a w
 | fuel+1,listed,a,w=>(bi md ops listed=[]->Q .normal a w)/\
  ∀ i∈bi md ops listed,wpOp P ops Q i (λa' w'=>(i≠n->S w')/\wpAnyX P md ops Q S n fuel (listed.setIfInBounds i ah) a' w') a w
theorem zC7 : ∀ (fuel:C) (o:ay bg) (a:au) (w:a1),wpAnyX P md ops Q S n fuel o a w->wpAny P md ops Q fuel o a w
 | 0,_,_,_,h=>h
 | fuel+1,_,_,_,h=>⟨h.1,λi u=>dq (λv w' y=>zC7 fuel _ v w' y.2) (h.2 i u)⟩
theorem zC4 (h:∀ W,S W->S' W):∀ (fuel:C) (o:ay bg) (a:au) (w:a1),wpAnyX P md ops Q S n fuel o a w->wpAnyX P md ops Q S' n fuel o a w
 | 0,_,_,_,u=>u
 | fuel+1,_,_,_,u=>⟨u.1,λi y=>dq (λz w' v=>⟨λe=>h _ (v.1 e),zC4 h fuel _ z w' v.2⟩) (u.2 i y)⟩
theorem zDT {U:ba}{v:ar}(hi:ops[i]?=E U)(J:∀ (j:C) (o:ba) cs b,ops[j]?=E o->o.op≠.select cs b)
  (hQ:∀ c a w,Q (.panic c) (a.put U.dst v) w->Q (.panic c) a w) (hn:∃ o,ops[n]?=E o/\∃ e∈o.after,cd md e=ah/\e.on=i):
  ∀ (y:C) (u:ay bg) (a:au) (w:a1),
   (∀ j V,ops[j]?=E V->j≠i->u.getD j ah=ae->(∀ e∈V.after,cd md e=ah->e.on≠i)->U.apart ops V=ah)->
   i∈bi md ops u->YieldsIf P ops S U v a->S w->
   wpAnyX P md ops Q S n y (u.setIfInBounds i ah) (a.put U.dst v) w->wpAnyX P md ops Q S n (y+1) u a w:=by
 intro y
 induction y with
 | zero=>
  intro u a w _ X hy hS H;refine⟨λh=>(by rw[h]at X;cases X),λj hj=>?_⟩;by_cases z:j=i;·subst z;exact hy.wpOp hi hS ⟨λ_=>hS,H⟩
  .have:=dn hj z;rw[H.1]at this;cases this
 | succ y ih=>
  intro u a w A X hy hS H;refine⟨λh=>(by rw[h]at X;cases X),λj hj=>?_⟩;by_cases z:j=i;·subst z;exact hy.wpOp hi hS ⟨λ_=>hS,H⟩
  .have Y:=H.2 j (dn hj z);obtain⟨N,V,F,a2⟩:=mem_ready.1 hj;have O:∀ e∈V.after,cd md e=ah->e.on≠i:=λe he hb a5=>by
    have Y:=a2 e he hb;have h0:=(mem_ready.1 X).1;rw[a5]at Y;rcases Nat.lt_or_ge i u.size with h'|h'
    .simp[h']at h0 Y;rw[h0]at Y;cases Y
    .simp[Array.getElem?_eq_none h']at Y
   have a6:j≠n:=λe=>by
    obtain⟨o,h2,d,Z,h4,h5⟩:=hn;rw[e,h2]at F;cases F;exact O d Z h4 h5
   have h2:=wpOp_putIf F (A j V F z N O) (λcs b=>J i U cs b hi) (λcs b=>J j V cs b F) hQ hy Y;have I:∀ k ok,ops[k]?=E ok->k≠i->(u.setIfInBounds j ah).getD k ah=ae->
     (∀ e∈ok.after,cd md e=ah->e.on≠i)->U.apart ops ok=true:=λk ok hk a7 a3 a8=>by
    refine A k ok hk a7 ?_ a8;by_cases a4:j=k;·subst a4;exact N
    .rw[getD_set_ne ah a4]at a3;exact a3
   refine dq (λa' w' Z=>⟨Z.2.1,ih (u.setIfInBounds j ah) a' w' I (dn X (Ne.symm z)) Z.1 (Z.2.1 a6) ?_⟩) h2;rw[Array.setIfInBounds_comm _ _ z];exact Z.2.2
end
def onLast (ops:ay ba)(n i:C):Bool:=match ops[n]? with|none=>ae|some o=>o.after.any λe=>cd .any e&&e.on==i
theorem zEJ {u:ay ba}(h:onLast u n i=ah):∃ o,u[n]?=E o/\∃ e∈o.after,cd .any e=ah/\e.on=i:=by
 unfold onLast at h;split at h;·cases h
 .rename_i o v;simp only[Array.any_eq_true,bh,cm]at h;obtain⟨k,y,z,A⟩:=h;exact⟨o,v,_,Array.getElem_mem y,z,A⟩
def schedX (ops:ay ba)(n:C):Sg->ay bg->bg
 | .fin,listed=>(bi .any ops listed).isEmpty
 | .q i s,listed=>(bi .any ops listed).contains i&&Region.free .any ops listed i&&onLast ops n i&&schedX ops n s (listed.setIfInBounds i ah)
 | .m1 i s,listed=>(bi .any ops listed==[i])&&(i != n||s.size==0)&&schedX ops n s (listed.setIfInBounds i ah)
 | .m2 i s j s',listed=>(bi .any ops listed==[i,j])&&i != n&&j != n&&(s'.size==s.size)&&schedX ops n s (listed.setIfInBounds i ah)&&schedX ops n s' (listed.setIfInBounds j ah)
 | .m3 ..,_=>ae
def wpMx (P:bu)(l:ai ba)(T:C->Prop)(n i:C)(K:au->a1->Prop)(a:au)(w:a1):Prop:=
 match nth l i with
 | none=>False
 | some o=>ch P l.toArray (OnlyN λa' w'=>(i≠n->Fr T w w')/\K a' w') [o] a w
def wpSx (P:bu)(l:ai ba)(M:au->a1->Prop)(T:C->Prop)(n:C):Sg->au->a1->Prop
 | .fin,a,w=>M a w
 | .q i s,a,w=>match nth l i with
  | none=>False
  | some o=>zBD o.op=ah/\(if ex o (yielded l.toArray a.tmps)=ah then ∃ v,zHJ P o a (Cls T w) v/\wpSx P l M T n s (a.put o.dst v) w else wpSx P l M T n s (a.put o.dst undef) w)
 | .m1 i s,a,w=>wpMx P l T n i (wpSx P l M T n s) a w
 | .m2 i s j s',a,w=>wpMx P l T n i (wpSx P l M T n s) a w/\wpMx P l T n j (wpSx P l M T n s') a w
 | .m3 ..,_,_=>False
section
variable {P:bu}{M:au->a1->Prop}
theorem zHi {l:ai ba}{v:C}{u:ay bg}(h:wpMx P l T n i K a w)
  (F:∀ y w',K y w'->(i≠n->Fr T w w')->wpAnyX P .any l.toArray (OnlyN M) (Fr T w) n v (u.setIfInBounds i ah) y w'):
  wpOp P l.toArray (OnlyN M) i (λy w'=>(i≠n->Fr T w w')/\wpAnyX P .any l.toArray (OnlyN M) (Fr T w) n v (u.setIfInBounds i ah) y w') a w:=by
 unfold wpMx at h;cases ho':nth l i with
 | none=>rw[ho']at h;exact h.elim
 | some o=>
  rw[ho']at h;dsimp only at h;have I:l.toArray[i]?=E o:=by rw[cq,<-zFD];exact ho'
  unfold wpOp;simp only[I];unfold ch at h;split
  .rename_i z;rw[if_pos z]at h;rcases h with h|⟨_,h⟩
   .exact .inl (Oper.wp_mono (λy w' A=>⟨A.1,F _ _ A.2 A.1⟩) (zHM h))
   .obtain⟨_,_,h⟩:=h;exact h.elim
  .rename_i z;rw[if_neg z]at h;exact⟨h.1,F _ _ h.2 h.1⟩
theorem zMG {l:ai ba}{o:ay bg}(v:bi .any l.toArray o=[])(h:M a w):∀ u,wpAnyX P .any l.toArray (OnlyN M) (Fr T w) n u o a w
 | 0=>⟨v,h⟩
 | _+1=>⟨λ_=>h,by rw[v];simp⟩
theorem anyTX {l:ai ba}{T:C->Prop}{n:C}(I:dk l.toArray=ah):∀ (σ:Sg) (u:ay bg) (a:au) (w:a1),
  schedX l.toArray n σ u=ah->wpSx P l M T n σ a w->wpAnyX P .any l.toArray (OnlyN M) (Fr T w) n σ.size u a w
 | .fin,u,a,w,z,h=>zMG (by simpa [schedX]using z) h 0
 | .q i s,u,a,w,z,h=>by
  simp only[schedX,bh]at z;obtain⟨⟨⟨A,F⟩,hl⟩,y⟩:=z;simp only[wpSx]at h;cases hn:nth l i with
  | none=>rw[hn]at h;exact h.elim
  | some o=>
   rw[hn]at h;have V:l.toArray[i]?=E o:=(by rw[cq,<-zFD];exact hn);obtain⟨hv,h⟩:=h;split at h
   .rename_i Y;obtain⟨v,hy,h⟩:=h;exact zDT V (ew I) (λ_ _ _ h=>h.elim) (zEJ hl) _ _ _ _ (eu V F) (by simpa using A) (.inl ⟨Y,λW J=>hy W ⟨⟨W,J⟩,rfl⟩⟩) (ao _ _) (anyTX I s _ _ w y h)
   .rename_i Y;exact zDT V (ew I) (λ_ _ _ h=>h.elim) (zEJ hl) _ _ _ _ (eu V F) (by simpa using A) (.inr ⟨by simpa using Y,rfl⟩) (ao _ _) (anyTX I s _ _ w y h)
 | .m1 i s,u,a,w,z,h=>by
  simp only[schedX,bh,cm]at z;obtain⟨⟨A,Z⟩,y⟩:=z;refine⟨λO=>(by rw[A]at O;cases O),λj X=>?_⟩;rw[A]at X;obtain rfl:j=i:=by simpa using X
  refine zHi h (λU w' N F=>?_);by_cases e:j=n
  .cases s with
   | fin=>exact⟨by simpa [schedX]using y,N⟩
   | _=>simp[e,Sg.size]at Z
  .exact zC4 (λW J=>(F e).step J zi) _ _ _ _ (anyTX I s _ U w' y N)
 | .m2 i s j s',u,a,w,z,h=>by
  simp only[schedX,bh,cm,bne_iff_ne]at z;obtain⟨⟨⟨⟨⟨A,hi⟩,X⟩,Z⟩,y⟩,a2⟩:=z;refine⟨λO=>(by rw[A]at O;cases O),λx hx=>?_⟩;rw[A]at hx;simp only[List.mem_cons,List.not_mem_nil,or_false]at hx;by_cases e:x=i;·subst e;exact zHi h.1 (λU w' N F=>zC4 (λW J=>(F hi).step J zi) _ _ _ _ (anyTX I s _ U w' y N))
  .obtain rfl:x=j:=hx.resolve_left e;refine zHi h.2 (λU w' N F=>?_);have:=anyTX I s' _ U w' a2 N;rw[Z]at this;exact zC4 (λW J=>(F X).step J zi) _ _ _ _ this
end
section
variable {P:bu}{M:au->a1->Prop}{T:C->Prop}{l:ai ba}{σ σ':Sg}{a:au}{w:a1}{n:C}
theorem zIa {z:C}{Q:Exit->au->a1->Prop}(n:C)(T:C->Prop)(σ:Sg)(M:au->a1->Prop)
  (h:∀ u,Fr No w u->wpSx P l M T n σ a u) (A:∀ v w',M v w'->Q .normal v w') (F:P.follows .mixedOrders=true:=by kernel_rfl) (o:(dk l.toArray&&(σ.size==(l:C))&&schedX l.toArray n σ (dt l.toArray.size ae))=true:=by kernel_rfl):(dw z l.toArray ah).wp P Q a w:=by
 simp only[bh,cm]at o;have y:=anyTX (M:=M) o.1.1 σ _ a w.drew o.2 (h _ ((ao No w).drew));have I:l.toArray.size=σ.size:=by simp[o.1.2]
 rw[<-I]at y;refine wp_mono (wp_region_any F (zC7 _ _ _ _ y)) λe a w h=>?_
 cases e<;>first|exact A _ _ h|exact h.elim
theorem zCS {r m:C}{J:C}{Q:Exit->au->a1->Prop}(n:C)(T:C->Prop)(σ:Sg)(M:au->a1->Prop)
  (h:∀ y,Fr No w y->wpSx P l M T n σ a y) (N:∀ z w',M z w'->Q .normal z w') (v:P.follows .mixedOrders=true:=by kernel_rfl) (u:(dk l.toArray&&(σ.size==(l:C))&&schedX l.toArray n σ (dt l.toArray.size ae)&&zFw l)=true:=by kernel_rfl):(dw J l.toArray ah).wpIn (Fence.wide.inRound r) m P Q a w:=by
 simp only[bh,cm]at u;have A:=anyTX (M:=M) u.1.1.1 σ _ a w.drew u.1.2 (h _ ((ao No w).drew));have O:l.toArray.size=σ.size:=by simp[u.1.1.2]
 rw[<-O]at A;have U:=zC7 _ _ _ _ A;have V:∀ (i:C) (o:ba),l.toArray[i]?=E o->∀ c,o.op≠Op.defer c:=λi o F c X=>by
  have v:o∈l:=by rw[cq]at F;exact bm F
  have I:=List.all_eq_true.1 u.2 o v;rw[X]at I;cases I
 refine wpIn_mono (Q:=OnlyN M) (wpIn_region_draw λt=>?_) λe a w h=>?_
 .simp only[Region.schedule,v,Bool.true_or,if_true];exact zCA V _ _ _ (wpAny_sound l.toArray.size t _ a _ U)
 .cases e<;>first|exact N _ _ h|exact h.elim
theorem zGU (h:M a w):wpSx P l M T n .fin a w:=h
theorem tx_q {o:ba}(F:nth l i=E o)(A:zBD o.op=ah)(I:ex o (yielded l.toArray a.tmps)=ah)
  (h:∀ K:au->Prop,(∀ z,wpSx P l M T n σ z w->K z)->o.quiet P a (λW=>∃ g:Gr T w,W=g.W) K):wpSx P l M T n (.q i σ) a w:=by
 obtain⟨v,J,N⟩:=h (λz=>wpSx P l M T n σ z w) (λ_ h=>h);simp only[wpSx,F,I,if_true];refine⟨A,v,λW O=>?_,N⟩;have y:=J W O;unfold er at y;cases hr:(execOp a.eval o).run P W with
 | halt x U=>rw[hr]at y;exact y.elim
 | ok n U=>
  obtain⟨u,rfl⟩:=zBU a.eval o A hr;rw[hr]at y;obtain⟨V,X⟩:=y;rw[V,X]
theorem zQq {o:ba}(u:nth l i=E o)(h:ch P l.toArray (OnlyN λv w'=>(i≠n->Fr T w w')/\K v w') [o] a w):wpMx P l T n i K a w:=by
 unfold wpMx;rw[u];exact h
theorem zBG {o:ba}(u:nth l i=E o)(h:ch P l.toArray (OnlyN λv w'=>(i≠n->Fr T w w')/\wpSx P l M T n σ v w') [o] a w):wpSx P l M T n (.m1 i σ) a w:=zQq u h
end
theorem zK {T:cf}{u:C}(F:w.ownsRow o e u v n A){cs:ay ar}(I:w.heap[b]?=E (a0 cs T))(z:T≠e):¬ v.ownBlock=E b:=by
 intro h;obtain⟨_,⟨rfl,_⟩|⟨g,J,N,rfl,O,y,_⟩⟩:=F;·cases h
 .cases h;rw[I]at y;cases y;exact z rfl
def kcs (a:ap aq)(n cap:C)(ev:ap aq)(en ec:C)(ix:af):ay ar:=#[R a n cap,R G 0 0,R G 0 0,R ev en ec,ab B ix]
theorem zHq (F:C)(a:ap aq)(h o:C)(ds:ai Dev)(ev:ap aq)(en ec:C)(ix u n:af)(w:a1)(Y:w.heap[F]?=E (a0 (kcs a (ds:C) h ev en ec ix) 59))(Z:Tr w o a h ds)(hn:(ds:C)<=1000)(hx:(cj B n).wf=ah)(y:∀ d∈ds,d.name.size<=1000):
  aw ak 70 #[bd (E ⟨F,0,G⟩),.int B u,.int B n] w λe w'=>(∃ s,e=.returned (ax #[.int B 0,.int B u,.int B n,.string s,.string ()]))/\Fr No w w':=by
 obtain⟨W0,z,I,b0⟩:=zy w (a0 #[.int B 0,.int B 0,.int B 0,.string (),.string ()] 143);have k0:W0 ⟨F,0,G⟩=E (.slice a ds h):=zB (I.heap Y id) 0;have hp:=zKQ a h o ds n W0 (Z.no I) hn hx y;clear y Z Y hx;go_enter Tryz.func70,Tryz.ntmps70;go_upto_region 1 with(fail)
 rw[<-z];clear z;go_wp2_with fail;apply hp.mono;rintro e w1 ⟨⟨s,b,rfl⟩,A⟩;have J:=A.heap b0 id;obtain⟨z0,z1,z2,z3,z4⟩:=cl5 J;obtain⟨y0,y1,y2,y3,y4⟩:=fl5 J;have hf:∀ N O U V X,Fr No w (((((w1.setCell ⟨w,0,G⟩ N).setCell ⟨w,1,G⟩ O).setCell ⟨w,2,G⟩ U).setCell ⟨w,3,G⟩ V).setCell ⟨w,4,G⟩ X):=λN O U V X=>
  (I.step A zi).step (T:=Is (w:C)) (((((ao _ _).setAt N).setAt O).setAt U).setAt V |>.setAt X) (λb hb e=>by omega)
 have Hf:=zh hf;clear hf hp b0 J k0;go_wp2_with fail;refine cn (v:=ax #[.int B 0,.int B u,.int B n,.string s,.string ()]) (by simp[cy,Tryz.results70,go_sem,z0,z1,z2,z3,z4]) rfl ?_;exact⟨⟨s,rfl⟩,Hf _ _ _ _ _⟩
theorem infoE: (Tryz.prog.info? 143).map (λi=>(i.zero,i.size,i.bytes))=E (E (ax #[ab B 0,ab B 0,ab B 0,az,az]),5,56):=by kernel_rfl
structure Evs (w:a1)(a:ap aq)(n:C)(xs:ai ar):Prop where
 isNil:a=G->n=0
 src:∀ ad,a=E ad->ad.spot=G/\ad.block<(w:C)/\∀ j u,xs[j]?=E u->w ⟨ad.block,ad.off+j,G⟩=E u
 el:∀ i,i<n->∃ (q c x:af) (p y:aj),xs[i*5]?=E (ab B q)/\xs[i*5+1]?=E (ab B c)/\xs[i*5+2]?=E (ab B x)/\xs[i*5+3]?=E (bt p)/\xs[i*5+4]?=E (bt y)
theorem Evs.fr {a:ap aq}{v:ai ar}(h:Evs w a n v)(y:Fr S w w')(z:∀ o,a=E o->¬ S o.block):Evs w' a n v:=
 ⟨h.isNil,λo e=>⟨(h.src o e).1,ck (h.src o e).2.1 y.size,λj u A=>y.cell ((h.src o e).2.2 j u A) (z o e)⟩,h.el⟩
def KFr (kb:C)(v:ar)(w w':a1):Prop:=Fr (λb=>b=kb\/v.ownBlock=E b) w w'/\∀ v' b,w' ⟨kb,3,G⟩=E v'->v'.ownBlock=E b->v.ownBlock=E b\/(w:C)<=b
theorem KFr.src {W:a1}(u:Fr No w W)(h:KFr o v W w'):KFr o v w w':=
 ⟨(u.mono zn).step h.1 zi,λy b z A=>(h.2 y b z A).imp id (λF=>ej u.size F)⟩
def EmRes (w':a1)(kb base:C)(a:ap aq)(n cap en:C)(ix:af):Prop:=∃ ev' ec' xs',w'.heap[kb]?=E (a0 (kcs a n cap ev' en ec' ix) 59)/\w'.ownsRow base 143 5 (R ev' en ec') en xs'
theorem zLV (A F:C)(a:ap aq)(n Z:C)(ev:ap aq)(J ec:C)(ix:af)(es:ap aq)(ne ce:C)(us:ai ar)(xs:ai ar)(w:a1)(hk:w.heap[A]?=E (a0 (kcs a n Z ev J ec ix) 59))(a6:w.ownsRow F 143 5 (R ev J ec) J xs)(e5:J<=100000000)(e6:ne<=10000)(hE:Evs w es ne us)(d2:F<=(w:C))
  (b5:∀ O,es=E O->O.block≠A/\¬ (be ev J ec).ownBlock=E O.block):
  aw ak 69 #[bd (E ⟨A,0,G⟩),R es ne ce] w λe w'=>e=.returned (.tuple #[])/\EmRes w' A F a n Z (J+ne) ix/\KFr A (R ev J ec) w w':=by
 obtain⟨i0,d3,d4,d5,d6⟩:=co infoE;have e7:=zC hk;have HE:=zg2 hE b5;have HO:=zh a6;have HK:=zh hk;clear hE b5;go_enter Tryz.func69,Tryz.ntmps69;go_wp2_with fail;go_loopw [8] (λv wr=>∃ (j M:C) (o:ap aq) (z:C) (a9:ai ar),j<=ne/\v=ab B (j:af)/\ag (M=J+j)/\ag (wr.heap[A]?=E (a0 (kcs a n Z o M z ix) 59))/\ag (wr.ownsRow F 143 5 (R o M z) M a9)/\ag (∀ b,(be o M z).ownBlock=E b->(be ev J ec).ownBlock=E b\/(w:C)<=b)/\ag (Fr (λb=>b=A\/(be ev J ec).ownBlock=E b) w wr)) (λv _=>ne-(br v).toNat);case atStart=>exact⟨0,J,ev,ec,xs,by omega,rfl,rfl,HK,HO,λb h=>.inl h,ao _ _⟩
 case round=>
  obtain⟨j,M,o,z,a9,hj,rfl,hM,U,b0,b4,a2⟩:=hrel;clear a6 hk;by_cases d7:j<ne
  .have b6:(j:af)<ne:=by omega
   have e8:M<=200000000:=(by have:=hM.out;omega);have a3:=HE.1.fr a2 (λO e h=>h.elim (HE.2 O e).1 (HE.2 O e).2);obtain⟨q,c,x,p,y,u0,u1,u2,u3,u4⟩:=a3.el j d7;obtain⟨O,rfl⟩:∃ O,es=E O:=by
    cases es with
    | none=>have:=a3.isNil rfl;omega
    | some O=>exact⟨O,rfl⟩
   obtain⟨eb,eo,e9⟩:=O;obtain⟨b7,d8,hs⟩:=a3.src _ rfl;dsimp only at b7 d8 hs;subst b7;have e0:=hs _ _ u0;have e1:=hs _ _ u1;have e2:=hs _ _ u2;have e3:=hs _ _ u3;have e4:=hs _ _ u4;rw[<-Nat.add_assoc]at e1 e2 e3 e4;have k3:wr ⟨A,3,G⟩=E (R o M z):=zB U 3;clear hs u0 u1 u2 u3 u4 a3;obtain⟨W1,b8,x1,b1⟩:=zy wr (a0 #[q,c,x,p,y] 143);go_upto_region 3 with(fail)
   rw[<-b8];clear b8 e0 e1 e2 e3 e4 k3;have k3:W1 ⟨A,3,G⟩=E (R o M z):=zB (x1.heap U id) 3;have e0:W1 ⟨wr,0,G⟩=E (ab B q):=zB b1 0;have f0:W1.frozen? ⟨wr,0,G⟩=false:=zD b1 0;obtain⟨W2,a4⟩:=ε (W1.setCell ⟨wr,0,G⟩ (ab B ((M:af)+1)))
   have x2:Fr (Is (wr:C)) W1 W2:=(by rw[a4];exact ci (ao _ _) _);have b2:W2.heap[(wr:C)]?=E (a0 #[ab B ((M:af)+1),c,x,p,y] 143):=(by rw[a4];exact zE b1 0 _);have a5:ag (Fr No wr W2):=x1.step x2 (λb hb e=>by omega);go_upto_region 4 with(fail)
   rw[<-a4];clear a4 k3 e0 f0 b1 x1 x2;have g0:(w:C)<=(wr:C):=a2.size;have g1:(wr:C)<=(W2:C):=a5.size;refine zIa 10 (λb=>(be o M z).ownBlock=E b) (.q 0 (.q 1 (.q 2 (.q 3 (.q 4 (.q 5 (.m1 6 (.m1 7 (.m1 8 (.q 9 (.m1 10 .fin))))))))))) _ (λW3 N=>?_) zj;have g2:=N.size;have k4:=N.heap (a5.heap U id) id;have V:=(zG b0 a5 (λ_ _=>id)) |> λh=>zG h N (λ_ _=>id)
   have b3:=N.heap b2 id;have nk:=zK V k4 (by decide);have nb:¬ (be o M z).ownBlock=E (wr:C):=λh=>by have:=(zAF b0 h).2;omega
   have z3:∀ g:Gr (λb=>(be o M z).ownBlock=E b) W3,g.W ⟨A,3,G⟩=E (R o M z):=λg=>zB (g.fr.heap k4 nk) 3
   have bB:=λg:Gr (λb=>(be o M z).ownBlock=E b) W3=>g.fr.heap b3 nb
   have e0:=λg=>zB (bB g) 0
   have e1:=λg=>zB (bB g) 1
   have e2:=λg=>zB (bB g) 2
   have e3:=λg=>zB (bB g) 3
   have e4:=λg=>zB (bB g) 4
   simp only[cq,List.getElem?_cons_zero,ed]at e0 e1 e2 e3 e4;have d9:=zh N;clear bB N b2 b3;(repeat apply tx_q rfl rfl rfl;intro K hK;go_big_quiet_op;go_big_quiet_on);clear e0 e1 e2 e3 e4;have al:=(ao No W3).alloc (a0 #[ab B ((M:af)+1),c,x,p,y] 143);have a7:=zG V al (λ_ _=>id);have k5:=al.heap k4 id;have b9:=zh al;clear V k4 al;apply zBG rfl;go_wp2_with fail;refine cl ⟨λ_=>b9.mono zn,?_⟩;apply zBG rfl;go_wp2_with (at_builtin;refine wpList_append_own_at _ rfl _ _ 57 rfl F 143 i0 (ax #[ab B 0,ab B 0,ab B 0,az,az]) 5 56 Tryz.underlying57 d3 d4 d5 d6 rfl (by decide) _ _ _ rfl a7 ⟨W3,0,G⟩ 1 1 [ab B ((M:af)+1),ab B c,ab B x,bt p,bt y] rfl rfl (zl _ #[ab B ((M:af)+1),c,x,p,y] _ rfl) (λu hu=>by simp at hu;rcases hu with rfl|rfl|rfl|rfl|rfl<;>rfl) (by unfold bc;omega) (by omega) (by rw[cw];omega) ?_;intro v' w6 I d0 _ d1;obtain⟨X,Y,rfl⟩:=zI I)
   have gf:Fr (λb=>(be o M z).ownBlock=E b) (W3.alloc (a0 #[ab B ((M:af)+1),c,x,p,y] 143)) w6:=db d0;apply zf gf;have k6:=gf.heap k5 nk;have n6:=zK I k6 (by decide);have t6:w6 ⟨A,3,G⟩=E (R o M z):=zB k6 3;have f6:w6.frozen? ⟨A,3,G⟩=false:=zD k6 3;have x7:Fr (Is A) w6 (w6.setCell ⟨A,3,G⟩ (R X (M+1) Y)):=ci (ao _ _) _;have k7:(w6.setCell ⟨A,3,G⟩ (R X (M+1) Y)).heap[A]?=E (a0 (kcs a n Z X (M+1) Y ix) 59):=zE k6 3 _;have a8:=zG I x7 (λb hb h=>by unfold Is at h;subst h;exact n6 hb);have ff:Fr (λb=>b=A\/(be o M z).ownBlock=E b) wr (w6.setCell ⟨A,3,G⟩ (R X (M+1) Y)):=((((a5.step d9 zi).step b9 zi).mono zn).step gf (λb _ h=>.inr h)).step x7 (λb _ h=>.inl h);have HR:=zg4 k7 a8 d1 ff;clear a7 I d0 gf k5 k6 n6 x7 k7 a8 ff d1 nk nb;apply zBG rfl;go_wp2_with fail;refine cl ⟨λ_=>ao _ _,?_⟩;(repeat apply tx_q rfl rfl rfl;intro K hK;go_big_quiet_op;go_big_quiet_on);apply zBG rfl;go_wp2_with fail;refine cl ⟨λh=>(h rfl).elim,?_⟩;apply zGU;clear z3 t6 f6;go_wp2;go_roundw;case rel=>exact⟨j+1,M+1,X,Y,_,by omega,by go_num,by have:=hM.out;show M+1=J+(j+1);omega,HR.1,HR.2.1,λb hb=>by
    rcases HR.2.2.1 with h|h
    .exact b4.out b (h▸hb)
    .right;have h5:=hb.symm.trans h;simp only[Option.some.injEq,cw]at h5;omega,a2.step HR.2.2.2 (λb hb h=>by
    rcases h with h|h
    .exact .inl h
    .rcases b4.out b h with h6|h6
     .exact .inr h6
     .omega)⟩
   case measure=>simp[br];omega
  .obtain rfl:j=ne:=by omega
   have b6:¬ (j:af)<j:=(by omega);go_wp2;go_end0;have e:=hM.out;subst e;exact⟨rfl,⟨o,z,a9,U.out,b0.out⟩,a2.out,λv' b h hb=>b4.out b (by rw[show wr ⟨A,3,G⟩=E (R o (J+j) z)from zB U.out 3]at h;cases h;exact hb)⟩
theorem zN8 (A V o:C)(a:ap aq)(n y:C)(F:ap aq)(v I:C)(Y J i:af)(s:aj)(xs:ai ar)(w:a1)(hk:w.heap[A]?=E (a0 (kcs a n y F v I Y) 59))(N:w.ownsRow o 143 5 (R F v I) v xs)(Z:v<=100000000)(X:w.heap[V]?=E (a0 #[ab B 0,J,i,s,()] 143))(z:o<=(w:C))(a2:¬ (be F v I).ownBlock=E V):
  aw ak 69 #[bd (E ⟨A,0,G⟩),R (E ⟨V,0,G⟩) 1 1] w λe w'=>e=.returned (.tuple #[])/\
   (∃ O U a3,w'.heap[A]?=E (a0 (kcs a n y O (v+1) U Y) 59)/\w'.ownsRow o 143 5 (R O (v+1) U) (v+1) a3)/\KFr A (R F v I) w w':=
 zLV A o a n y F v I Y (E ⟨V,0,G⟩) 1 1 [ab B 0,ab B J,ab B i,bt s,bt ()] xs w hk N Z (by omega)
  ⟨λe=>(by cases e),λad e=>by cases e;exact⟨rfl,zC X,λj u hu=>by rw[zB X];simpa using hu⟩,λj hj=>match j,hj with|0,_=>⟨_,_,_,_,_,rfl,rfl,rfl,rfl,rfl⟩⟩ z (λad e=>by
   cases e;refine⟨λh=>?_,a2⟩;dsimp only at h;rw[h,hk]at X;cases X)
end Go.Proofs.YtjohgekljmhheaaGreatDoor
