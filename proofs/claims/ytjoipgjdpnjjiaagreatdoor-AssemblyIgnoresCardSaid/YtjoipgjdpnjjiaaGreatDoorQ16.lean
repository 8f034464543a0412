import Derived.Test.YtjoipgjdpnjjiaaGreatDoorQ15
import Derived.Lib.SlBytesRow
import Derived.Test.YtjoipgjdpnjjiaaGreatDoorRows
import Derived.Shelf.Vars
import Derived.Stop.LaidErr
import Derived.MakeChecks
import Derived.Lib.LaidTab
import Derived.OpenShut
import Derived.LaidMore
import Derived.Lay
import Derived.HandedShaped
import Derived.Handed
namespace Go.Proofs.YtjoipgjdpnjjiaaGreatDoor
open Go.RowKit Go.Maps Go.ChangeShapes Go.WideShapes Go
set_option linter.unusedVariables false
set_option maxRecDepth 100000
set_option maxHeartbeats 8000000
open AttOf renaming fr->cb
open BlkT renaming none->cr
open Dev renaming vals->cd
open EvF renaming bt->ce,own->cu,trans->cw
open EvG renaming trans->cx
open Fr renaming refl->bf,size->bu,of_grown->cy,setAt->cz
open Go renaming Addr->aq,World->ar,Calls->be,maxLen->bj,Value->bm,info_parts->dk,wpList_append_own->f8
open Go.IntKind renaming i64->ao
open Go.Obj renaming cells->am
open Go.OpenSpec renaming ofChange->dh
open Go.Proofs renaming intOf->az
open Go.Proofs.Tryz renaming prog->ax,underlying9->di,underlying229->eu,underlying30->ew,underlying405->ex,underlying407->ey
open Go.RowKit renaming Hid->ah
open Go.Value renaming slice->ai,int->al,string->aw,agg->bh,pointer->bn,string->bs,slice->bv
open Go.World renaming ownsRow_nil->ez,var?_cell->f7
open KSt renaming new->db
open Ne renaming symm->cn
open Rec renaming vals->ca,zero->cp
open Recs renaming of_own->ep
open Strs renaming nil->bi,of_block->cq,of_own->er
open UOk renaming nil->dj
open _root_ renaming Nat->Q,ByteArray->B,Int->af,List->ag,Option->ap,congrArg->au,if_pos->ay,if_neg->ba,absurd->bc,of_decide_eq_true->dl
open _root_.Array renaming getElem?_eq_getElem->dm,getElem?_setIfInBounds_ne->dp
open _root_.Bool renaming true->aj,false->ak
open _root_.ByteArray renaming empty->bq,ext->dq
open _root_.Int renaming eq_ofNat_of_zero_le->da
open _root_.List renaming mem_map_of_mem->bd,mem_of_getElem?->bg,length->bo,length_map->bp,getElem?_eq_getElem->cf,getElem?_of_mem->cg,length_append->ch,length_set->ci,map_cons->cl,map_map->cm,filterMap_cons->dc,map_append->dd,map_nil->de,take_add_one->df,take_length->dg,append_nil->dr,filter_congr->dt,filter_cons_of_neg->du,filter_eq_nil_iff->dw,find?_eq_none->dx,getElem?_map->dy,getElem?_set_ne->dz,getElem?_set_self->eb,getElem?_take_of_lt->ec,getElem_map->ed,length_take->eg,mem_cons_of_mem->eh,mem_of_find?_eq_some->ei,mem_of_mem_take->ej,mem_or_eq_of_mem_set->ek,range_succ_eq_map->em
open _root_.Nat renaming le_succ->br,le_refl->bw,le_trans->en,zero_add->eo
open _root_.Option renaming none->ab,some->ae
variable{I u:ag B}{o z p:B}{R:ag Rec}{j k m i:Q}{r b rd:af}{ds L:ag Dev}{ct:af->B}{d h:Dev}{D:ag (B×af×B)}{s:Src}{C A:ag Src}{tx:Dev->B}{M:ag Vir}{W:ar}
def keysE : ag B:=[⟨#[99]⟩,⟨#[100]⟩]
def expE : ag B:=[⟨#[114]⟩,⟨#[115]⟩]
theorem zO4 (w:ar):be ax 5 #[] w λe w'=>(∃ k x,e=.returned (.tuple #[bh #[ai (ae ⟨k,0,ab⟩) 2 2,al ao 0],ai (ae ⟨x,0,ab⟩) 2 2])/\Strs w' (ae ⟨k,0,ab⟩) 2 keysE/\Strs w' (ae ⟨x,0,ab⟩) 2 expE/\BlkT w' (ae ⟨k,0,ab⟩) 9/\BlkT w' (ae ⟨x,0,ab⟩) 9/\(w:Q)<=k/\(w:Q)<=x)/\Fr No w w':=by
 obtain⟨u,z,f0,U⟩:=zy w (am #[ai ab 0 0,al ao 0] 32);obtain⟨A,F,V,X⟩:=zy u (am #[aw ⟨#[99]⟩,aw ⟨#[100]⟩] 9);obtain⟨W2,Y,J,b2⟩:=zy A (am #[aw ⟨#[114]⟩,aw ⟨#[115]⟩] 9);have l0:=zC U;have Z:ah ((u:Q)+1=(A:Q)):=by rw[F];unfold ah;simp
 have l1:=zC X;have N:=J.heap (V.heap U id) id;have c1:=J.heap X id;obtain⟨z0,z1⟩:=cl2 N;obtain⟨y0,y1⟩:=fl2 N;obtain⟨y,o⟩:=ε ((W2.setCell ⟨w,0,ab⟩ (ai (ae ⟨u,0,ab⟩) 2 2)).setCell ⟨w,1,ab⟩ (al ao 0))
 have c3:y.heap[(w:Q)]?=ae (am #[ai (ae ⟨u,0,ab⟩) 2 2,al ao 0] 32):=by rw[o];exact zE (zE N 0 _) 1 _
 have O:Fr (Is (w:Q)) W2 y:=by rw[o];exact cz (cz (bf _ _) _) _
 have g1:=O.heap c1 (λh=>by omega);have g2:=O.heap b2 (λh=>by omega);obtain⟨x0,x1⟩:=cl2 c3;have I:=zg5 (cq (l:=keysE) g1 (by decide)) (cq (l:=expE) g2 (by decide)) (show BlkT y (ae ⟨u,0,ab⟩) 9 from λad e=>by cases e;exact⟨_,g1⟩) (show BlkT y (ae ⟨A,0,ab⟩) 9 from λad e=>by cases e;exact⟨_,g2⟩) (((f0.step V zi).step J zi).step O (λb hb h=>by omega));have HL:=zg2 l0 l1;clear U X b2 N c1 c3 g1 g2 f0 V J O l0 l1;go_enter Tryz.func5,Tryz.ntmps5;go_upto_region 1 with(fail)
 rw[<-z];clear z;rw[Y,F]at o z0 z1 y0 y1;go_wp2_with fail;rw[<-o,Z];refine bodyPost_ret (v:=.tuple #[bh #[ai (ae ⟨u,0,ab⟩) 2 2,al ao 0],ai (ae ⟨A,0,ab⟩) 2 2]) (by simp[results,Tryz.results5,go_sem,x0,x1]) rfl ?_;exact⟨⟨(u:Q),(A:Q),rfl,I.1,I.2.1,I.2.2.1,I.2.2.2.1,Nat.le_of_lt HL.1,by have:=HL.out;omega⟩,I.2.2.2.2⟩
theorem zOR (u:Q)(a:ap aq)(y:Q)(ds:ag Dev)(ct:af->B)(M:ag Vir)(U:ap aq)(V:Q)(h:af)(w:ar)(hl:Tr w u a y ds)(hU:UOk (ds.map strip) ct h)(X:MustOk ds M)(hx:0<=h/\h<=900000)(hE:Env w)(F:TrT w a ds)(hC:CtO w ds ct)(hV:Virs w U V M)(I:u<=(w:Q)):
  be ax 31 #[bh #[ai a ds y],ai U M V] w λe w'=>(∃ (o:ag OpA) (z:ap aq) (A:Q),e=.returned (ai z o A)/\(o=[]/\DoneP M (ds.map strip) ct h\/¬ DoneP M (ds.map strip) ct h/\∃ (J:ag Dev) (N:af->B) (O:af),KRun 44 (ds.map strip) ct h o J N O/\DoneP M J N O/\(∀ D,DskP D (ds.map strip) ct->DskP D J N)/\O<=h+44/\(o:Q)<=132/\w'.ownsRow (w:Q) 43 14 (ai z o A) (o:Q) (opF o)/\OpsOk w' (w:Q) o))/\Fr No w w':=by
 by_cases Y:DoneP M (ds.map strip) ct h
 .apply (zPp u a y ds ct M U V h w hl Y X.v X.d (by omega) hE F hC hV I).mono;rintro e w' ⟨⟨z,A,rfl⟩,Z⟩;exact⟨⟨[],z,A,rfl,.inl ⟨rfl,Y⟩⟩,Z⟩
 .apply (zNo u a y ds ct M U V h w hl hU X hx hE F hC hV I (λ_ _ _=>True) trivial (λ_ _ _ _ _ _ _ _ _ _ _=>trivial)).mono;rintro e w' ⟨⟨o,z,A,J,N,O,h1,h2,h3,h4,h5,_,rfl,h6,h7⟩,Z⟩;exact⟨⟨o,z,A,rfl,.inr ⟨Y,J,N,O,h1,h2,h3,h4,h5,h6,h7⟩⟩,Z⟩
def igI (I:ag B)(o:B):Bool:=hasS I (pathOf (orgOf o))
def igR (r:Rec)(pa:ap aq):Rec:={ r with pa:=pa,props:=[(ignB,⟨#[49]⟩)],pc:=1 }
def RI (I:ag B)(R0:ag Rec)(j:Q)(R:ag Rec):Prop:=(R:Q)=(R0:Q)/\∀ k r,R0[k]?=ae r->∃ pa,R[k]?=ae (if k<j/\hasS I r.path=aj then igR r pa else r)
theorem RI.zero (I:ag B)(o:ag Rec):RI I o 0 o:=⟨rfl,λk r h=>⟨ab,by rw[ba (by omega)];exact h⟩⟩
theorem RI.skip {o:ag Rec}(h:RI I o j R){r:Rec}(v:o[j]?=ae r)(y:hasS I r.path=ak):RI I o (j+1) R:=⟨h.1,λk x u=>by
 obtain⟨z,A⟩:=h.2 k x u;refine⟨z,?_⟩;rw[A];by_cases e:k=j
 .subst e;rw[v]at u;cases u;rw[ba (by omega),ba (by rw[y];simp)]
 .have:(k<j/\hasS I x.path=aj)↔(k<j+1/\hasS I x.path=aj):=by constructor<;>rintro ⟨a,b⟩<;>exact⟨by omega,b⟩
  simp only[this]⟩
theorem RI.put {o:ag Rec}(h:RI I o j R){r:Rec}(v:o[j]?=ae r)(z:hasS I r.path=aj)(y:ap aq):RI I o (j+1) (R.set j (igR r y)):=⟨by rw[ci];exact h.1,λk x u=>by
 obtain⟨A,F⟩:=h.2 k x u;by_cases e:k=j
 .subst e;rw[v]at u;cases u;exact⟨y,by rw[ay ⟨by omega,z⟩,eb (by rw[h.1];exact(List.getElem?_eq_some_iff.1 v).1)]⟩
 .refine⟨A,?_⟩;rw[dz (cn e),F];have:(k<j/\hasS I x.path=aj)↔(k<j+1/\hasS I x.path=aj):=by constructor<;>rintro ⟨a,b⟩<;>exact⟨by omega,b⟩
  simp only[this]⟩
theorem zQM (O:UOk (ds.map strip) ct b)(h:RI I (recL ds ds) (recL ds ds).length R):CntOk ds R (igI I):=λd U=>by
 have hT:TreeOk (ds.map strip):=O.wf.ok;have hm:=bd (f:=strip) U;have J:look ds d.index=ae d:=by
  have o:=hT.nd;rw[cm]at o;exact zo o U
 have v:origin ds d.index=orgOf d.orig:=by rw[<-zBL];exact O.org (d:=strip d) hm
 have u:∀ r∈R,r.index=d.index->(getP r.props ignB).toList=(if igI I d.orig=aj then [49]else [])/\Rec.is d.index (pathOf (origin ds d.index)) r=true:=λr A V=>by
  obtain⟨k,N⟩:=cg A;have y:k<(recL ds ds).length:=by rw[<-h.1];exact(List.getElem?_eq_some_iff.1 N).1
  obtain⟨pa,F⟩:=h.2 k _ (cf y);rw[N]at F;obtain⟨x,X,e⟩:∃ x∈ds,(recL ds ds)[k]=recA (pathOf (origin ds x.index)) x.index ab []:=by
   obtain⟨x,X,e⟩:=List.mem_map.1 (List.getElem_mem y);exact⟨x,X,e.symm⟩
  rw[e]at F;have Y:x.index=d.index:=by
   have:r.index=x.index:=by rw[Option.some.inj F];split<;>rfl
   rw[<-this];exact V
  have Z:x=d:=by
   have o:=hT.nd;rw[cm]at o;have h1:=zo o X;rw[Y,J]at h1;exact(Option.some.inj h1).symm
  subst Z;rw[Option.some.inj F,v];unfold igI;cases hs:hasS I (pathOf (orgOf x.orig))with
  | true=>
   rw[ay ⟨y,hs⟩,ay rfl];refine⟨?_,?_⟩
   .have:getP [(ignB,(⟨#[49]⟩:B))] ignB=⟨#[49]⟩:=(by kernel_rfl);show (getP [(ignB,(⟨#[49]⟩:B))] ignB).toList=_
    rw[this,ByteArray.toList_eq]
   .unfold Rec.is igR recA;simp
  | false=>
   rw[ba (λhh=>by have h9:hasS I (pathOf (orgOf x.orig))=true:=hh.2;rw[hs]at h9;cases h9),ba (by simp)];refine⟨?_,?_⟩
   .show (():B).toList=_
    rw[ByteArray.toList_eq]
   .unfold Rec.is recA;simp
 unfold cntB;rw[J];dsimp only;cases hf:R.find? (Rec.is d.index (pathOf (origin ds d.index)))with
 | none=>
  exfalso;rw[dx]at hf;obtain⟨k,N⟩:=cg U;have h0:(recL ds ds)[k]?=ae (recA (pathOf (origin ds d.index)) d.index ab []):=by unfold recL;rw[dy,N];rfl
  obtain⟨pa,F⟩:=h.2 k _ h0;have A:=bg F;refine hf _ A (u _ A ?_).2;split<;>rfl
 | some r=>
  have A:=ei hf;have z:=List.find?_some hf;have V:r.index=d.index:=by
   unfold Rec.is at z;rw[Bool.and_eq_true]at z;exact dl z.1
  dsimp only;rw[(u r A V).1,show d.kind=2 from(O.dv (strip d) hm).1.kind];cases igI I d.orig<;>rfl
theorem Recs.put {w:ar}{a:ap aq}{y b o:Q}{l:ag Rec}{r r':Rec}(h:Recs w a y l)(hT:BlkT w a 56)(J:a=ae ⟨b,o,ab⟩)(N:l[k]?=ae r)(hr:∀ j,j≠2->r'.cell j=r.cell j)(V:∀ x∈l,RecOk (w.setCell ⟨b,o+k*12+2,ab⟩ (r'.cell 2)) x)(z:RecOk (w.setCell ⟨b,o+k*12+2,ab⟩ (r'.cell 2)) r'):Recs (w.setCell ⟨b,o+k*12+2,ab⟩ (r'.cell 2)) a y (l.set k r'):=by
 obtain⟨cs,O⟩:=hT _ J;have O:w.heap[b]?=ae (am cs 56 (0,0)):=O;have X:=(List.getElem?_eq_some_iff.1 N).1;refine⟨by rw[ci];exact h.len,h.max,λe=>(by rw[J]at e;cases e),λx Y=>?_,λad e a2=>?_⟩
 .rcases ek Y with Y|rfl
  .exact V x Y
  .exact z
 .rw[J]at e;cases e;obtain⟨h1,h2,h3⟩:=h.cell _ J (by intro e;rw[e]at N;simp at N);have Z:=zE O (o+k*12+2) (r'.cell 2);have u:∀ i x,l[i]?=ae x->∀ j,j<12->cs[o+(i*12+j)]?=ae (x.cell j):=λi x v j U=>by
   have:=h3 i x v j U
   rwa [zB O]at this
  refine⟨rfl,zC Z,λi x v j U=>?_⟩;rw[zB Z];show (cs.setIfInBounds (o+k*12+2) (r'.cell 2))[o+(i*12+j)]?=ae (x.cell j)
  by_cases A:i=k
  .subst A;rw[eb X]at v;cases v;have ho:=u i r N;by_cases F:j=2
   .subst F;have I:=(Array.getElem?_eq_some_iff.1 (ho 2 (by omega))).1;rw[<-Nat.add_assoc]at I ⊢;rw[Array.getElem?_setIfInBounds_self_of_lt I]
   .rw[dp (by omega),hr j F];exact ho j U
  .rw[dz (cn A)]at v;rw[dp (by omega)];exact u i x v j U
theorem zEH (ia:ap aq)(ic:Q)(I:ag B)(tb sb N z n:Q)(L:ag Dev)(ct:af->B)(ix:af)(D:ag (B×af×B))(ka ea:ap aq)(kc xc:Q)(E X:ag B)(w:ar)(hK:KA w N z L ct ix n)(hU:UOk L ct ix)(hD:DskP D L ct)(h8:8<N)(b9:N<=z)(hb:z<=(w:Q))(hn:n<=40000000)(r2:0<=ix/\ix<=800000)
  (hE:Env w) (hS:StK w tb sb ka ea kc xc X E) (r3:(X:Q)<=1000000) (r4:∀ x∈X,x.size<=bj) (j9:AllE E) (hI:Strs w ia ic I) (k0:BlkT w ia 9) (r5:∀ o,isDk o=ak->igI I o=ak):
  be ax 13 #[bn (ae ⟨N,0,ab⟩),bh #[ai ka X kc,al ao 0],ai ea E xc,ai ia I ic] w λe w'=>e=.returned (.bool aj)/\(∃ L' k3 A n',KA w' N z L' k3 A n'/\SetE E X (igI I) D L' k3 A/\0<=A/\A<=ix+1400/\n'<=n+200000)/\EvF N z w w'/\EvG N w w':=by
 obtain⟨W0,k4,x0,b0⟩:=zy w (am #[ai ka X kc,al ao 0] 32);have k5:ah (KA W0 N z L ct ix n):=hK.no b9 x0;have r6:tb<(w:Q):=by have:=hS.sf;have:=zC hS.box;omega
 have a7:=hS.no x0;have k6:ah (StK W0 tb (w:Q) ka ea kc xc X E):=⟨b0,a7.ks,a7.es,a7.kt,a7.et,a7.kf,a7.ef,r6⟩
 have k7:ah (SetS E X (igI I) D (((0:Q):af)+1) L ct ix):=by rw[show ((0:Q):af)+1=1 from rfl];exact SetS.one hU hD
 have HE:=zh hE;obtain⟨v8,k8⟩:=hK.blk;have b1:=zg3 hI k0 k8;have r7:=zh j9;have X0:=zh x0;have x4:=x0.size;clear hK hU hD hE hS a7 x0 b0 j9 hI k0 k8;go_enter Tryz.func13,Tryz.ntmps13;go_upto_region 1 with(fail)
 rw[<-k4];clear k4;go_wp2_with fail;go_loopw [9] (λx wr=>∃ (r nn:Q) (L:ag Dev) (ct:af->B) (A:af),r<=31/\x=al ao (r:af)/\nn<=n+5940*r/\0<=A/\A<=ix+44*r/\ah (SetS E X (igI I) D ((r:af)+1) L ct A)/\ah (KA wr N z L ct A nn)/\ah (StK wr tb (w:Q) ka ea kc xc X E)/\ah (EvF N z w wr)/\ah (EvG N w wr)) (λx _=>40-(az x).toNat);case atStart=>exact⟨0,n,L,ct,ix,by omega,rfl,by omega,r2.1,by omega,k7,k5,k6,EvF.no X0,EvG.no X0⟩
 case round=>
  clear k7 k5 k6;obtain⟨r,nn,L,ct,A,v9,rfl,x5,k9,x6,HI,HK,HS,Z,HG⟩:=hrel;obtain⟨wA,rfl⟩:=ε wr
  have w2:(r:af)<40:=by omega
  have x7:=HI.u.len;have x8:=bu Z;have d0:=zBs N z nn L ct A wA HK (by omega);go_wp2_with fail;apply d0.mono;rintro e w1 ⟨⟨ta,tc,ds,rfl,e6,h6,l0,e7⟩,h7⟩;have x9:(ds:Q)<=44:=by have h:=au bo e7;rw[bp]at h;omega
  obtain⟨W2,l3,f2,b2⟩:=zy w1 (am #[ai ta ds tc] 48);have t2:W2 ⟨w1,0,ab⟩=ae (ai ta ds tc):=zB b2 0;obtain⟨Y,hR⟩:=ε (recL ds ds)
  have h9:ah (UOk (ds.map strip) ct A):=by rw[e7];exact HI.u
  have l4:=zh hR;have d1:=zJq (bn ab) ta tc ds W2 (e6.no f2).dv e6.wf.ok (by omega);rw[<-hR]at d1;have s1:=h7.size;have e8:=zg4 (e6.no f2) (h6.fr f2 (λ_ _=>id)) (AttOf.no l0 f2) b2;have b3:=zh e7;have l5:=zh (h7.step f2 zi);have l2:=zC b2;have l6:∀ b,TrF ta ds b->b<(W2:Q):=λb hb=>by
   obtain⟨x,T,hx,_⟩:=h6 b hb;have:=zC hx;omega
  have i0:=zh l6;have s2:=f2.size;clear e6 h6 l0 f2 b2 e7 h7 d0 hR l6;go_upto_region 5 with(fail)
  rw[<-l3];clear l3;go_wp2_with fail;apply d1.mono;rintro e w3 ⟨⟨ra,rc,rfl,hR,l7,i3⟩,a3⟩;have d3:ah (∀ r∈Y,BlkT w3 r.pa 79/\r.ta=ab/\r.tc=0/\r.tags=[]):=λr hr=>by
   rw[l4]at hr;obtain⟨d,_,rfl⟩:=List.mem_map.1 hr;exact⟨cr _ _,rfl,rfl,rfl⟩
  have l8:=zg2 hR i3;have l9:=zh l7;have m0:ah (∀ W,Fr (λb=>∃ F,ra=ae F/\b=F.block) w3 W->Strs W ia ic I):=λW hf=>by
   have f1:=(Z:Fr _ w wA)
   have g1:=b1.1.fr Z (λF e _=>ce Z b1.2.1 b1.2.2 (by decide) (by decide) F e);have g2:=b1.2.1.fr Z (ce Z b1.2.1 b1.2.2 (by decide) (by decide));have g3:=l5.step a3 zi;have g4:=g2.fr g3 (λ_ _=>id);exact(g1.no g3 (λ_=>id)).fr hf (λF e _ hs=>by
    obtain⟨a2,e2,hb⟩:=hs;obtain⟨x,hx⟩:=g4 F e;obtain⟨y,hy⟩:=i3 a2 e2;rw[hb,hy]at hx;cases hx)
  have y0:=hR.lenmax;have w9:=a3.size;have r8:=zh (l5.step a3 zi);have e9:=zg4 (e8.1.no a3) (e8.2.1.fr a3 (λ_ _=>id)) (AttOf.no e8.2.2.1 a3) (a3.heap e8.2.2.2 id);clear hR l7 i3 a3 d1 t2;go_wp2_with fail;go_loopw [12] (λx wi=>∃ (j:Q) (R:ag Rec),j<=(Y:Q)/\x=al ao (j:af)/\(R:Q)<=(Y:Q)/\ah ((R:Q)=(Y:Q))/\ah (RI I Y j R)/\ah (Recs wi ra rc R/\BlkT wi ra 56/\∀ r∈R,BlkT wi r.pa 79/\r.ta=ab/\r.tc=0/\r.tags=[])/\ah (Fr (λb=>∃ F,ra=ae F/\b=F.block) w3 wi)) (λx _=>(Y:Q)-(az x).toNat);case atStart=>exact⟨0,Y,by omega,rfl,by omega,rfl,RI.zero _ _,⟨l8.1,l8.2,d3⟩,bf _ _⟩
  case round=>
   obtain⟨j,R,hj,rfl,m1,d4,g0,b4,U⟩:=hrel;obtain⟨wi,rfl⟩:=ε wr
   have si:=U.size;by_cases i4:j<(Y:Q)
   .have m2:(j:af)<(Y:Q):=(by omega);have m3:j<(R:Q):=(by rw[d4];exact i4);obtain⟨bb,a4,rr,m4,i5,r9,i6⟩:=b4.1.elem m3;have q0:=i6.c0;have i7:=zMh ia ic I rr.path wi (m0 wi U);have m5:ah (Y[j]?=ae rr):=by
     obtain⟨pa,hp⟩:=g0.2 j _ (cf i4);rw[i5,ba (by omega)]at hp;rw[cf i4,Option.some.inj hp];exact rfl
    have d5:((Y:Q):af)=((R:Q):af):=(by have:=d4.out;omega);have d3:=zg4 m4 i5 i6 d5;obtain⟨hs,i8⟩:=ε (hasS I rr.path)
    rw[<-i8]at i7;have m6:=zh i8;subst m4;clear i5 r9 i6 i8 d5;go_wp2_with fail;apply i7.mono;rintro e w4 ⟨rfl,b7⟩;have m7:=zh (U.step b7 zn);have O:ah (Recs w4 (ae ⟨bb,a4,ab⟩) rc R/\BlkT w4 (ae ⟨bb,a4,ab⟩) 56/\∀ r∈R,BlkT w4 r.pa 79/\r.ta=ab/\r.tc=0/\r.tags=[]):=⟨b4.1.no b7 (λ_=>id),b4.2.1.fr b7 (λ_ _=>id),λr hr=>⟨(b4.2.2 r hr).1.fr b7 (λ_ _=>id),(b4.2.2 r hr).2⟩⟩
    have q2:=b7.cell d3.2.2.1.c2 id;clear i7 b7 q0;cases hs with
    | false=>
     clear q2;go_wp2;go_roundw;case rel=>exact⟨j+1,R,by omega,by go_num,m1,d4,g0.skip m5 m6.symm,O,m7⟩
     case measure=>simp[az];omega
    | true=>
     obtain⟨cs,hb⟩:=O.2.1 _ rfl;have hb:w4.heap[bb]?=ae (am cs 56 (0,0)):=hb;obtain⟨W5,j0,f5,b5⟩:=zy w4 (am #[ignB,aw ⟨#[49]⟩] 79);have c5:=f5.heap hb id;have q5:=f5.cell q2 id;have y5:W5.frozen? ⟨bb,a4+j*12+2,ab⟩=false:=zD c5 _;obtain⟨W6,b8⟩:=ε (W5.setCell ⟨bb,a4+j*12+2,ab⟩ (ai (ae ⟨w4,0,ab⟩) 1 1))
     have f6:Fr (Is bb) W5 W6:=(by rw[b8];exact cz (bf _ _) _);have s0:=zh (zC hb);have b6:=f6.heap b5 (λh=>by have:=s0.out;omega);have j1:∀ {a:ap aq},BlkT W5 a 79->∀ F,a=ae F->¬ Is bb F.block:=λht F e h=>by
      obtain⟨x,hx⟩:=ht F e;unfold Is at h;rw[h,c5]at hx;cases hx
     have m8:Atts W6 (ae ⟨w4,0,ab⟩) 1 [(ignB,⟨#[49]⟩)]:=⟨bw _,by unfold bj;omega,(λe=>by cases e),(λx hx=>by simp at hx;subst hx;exact⟨(by decide:ignB.size<=bj),(by decide:(⟨#[49]⟩:B).size<=bj)⟩),λF e _=>by
      cases e;refine⟨rfl,zC b6,λi x hi=>?_⟩;rcases i with _|i
      .simp at hi;subst hi;exact⟨zB b6 0,zB b6 1⟩
      .simp at hi⟩
     have m9:ah (Recs W6 (ae ⟨bb,a4,ab⟩) rc (R.set j (igR rr (ae ⟨w4,0,ab⟩)))/\BlkT W6 (ae ⟨bb,a4,ab⟩) 56/\∀ r∈R.set j (igR rr (ae ⟨w4,0,ab⟩)),BlkT W6 r.pa 79/\r.ta=ab/\r.tc=0/\r.tags=[]):=by
      have n3:∀ r∈R,BlkT W6 r.pa 79/\r.ta=ab/\r.tc=0/\r.tags=[]:=λr hr=>by
       obtain⟨g1,g2⟩:=O.2.2 r hr;have g3:=g1.fr f5 (λ_ _=>id);exact⟨g3.fr f6 (j1 g3),g2⟩
      have n4:=bg d3.2.1;have n5:=O.1.no f5 (λ_=>id);have s3:=O.2.1.fr f5 (λ_ _=>id);have g8:∀ x∈R,RecOk W6 x:=λx hx=>by
       obtain⟨g1,g2,g3,g4⟩:=O.2.2 x hx;refine⟨(n5.ok x hx).props.fr f6 (λF e _=>j1 (g1.fr f5 (λ_ _=>id)) F e),?_⟩;rw[g2,g3,g4];exact bi _
      have g9:RecOk W6 (igR rr (ae ⟨w4,0,ab⟩)):=by
       obtain⟨g1,g2,g3,g4⟩:=O.2.2 rr n4;refine⟨m8,?_⟩;show Strs W6 rr.ta rr.tc rr.tags
       rw[g2,g3,g4];exact bi _
      rw[b8]at g8 g9;have n6:=n5.put s3 rfl d3.2.1 (r':=igR rr (ae ⟨w4,0,ab⟩)) (λj hj=>by match j,hj with|0,_=>rfl|1,_=>rfl|2,h=>exact bc rfl h|3,_=>rfl|4,_=>rfl|5,_=>rfl|6,_=>rfl|7,_=>rfl|8,_=>rfl|9,_=>rfl|10,_=>rfl|n+11,_=>rfl) g8 g9;refine⟨by rw[b8];exact n6,λF e=>by cases e;exact⟨_,by rw[b8];exact zE c5 _ _⟩,λr hr=>?_⟩;rcases ek hr with hr|rfl
      .exact n3 r hr
      .exact⟨λF e=>by cases e;exact⟨_,b6⟩,(O.2.2 rr n4).2⟩
     have s4:ah (Fr (λb=>∃ F,(ae ⟨bb,a4,ab⟩:ap aq)=ae F/\b=F.block) w3 W6):=(m7.step f5 zn).step f6 (λb hb h=>⟨_,rfl,h⟩);have s8:ah ((R.set j (igR rr (ae ⟨w4,0,ab⟩))).length=(Y:Q)):=by
      have h:=d4.out;exact(ci).trans h
     have s9:(R.set j (igR rr (ae ⟨w4,0,ab⟩))).length<=(Y:Q):=(by rw[ci];exact m1);unfold ignB at j0;rw[j0]at q5 y5 b8;clear f5 b5 c5 f6 b6 m8 q2 hb j1 j0;go_wp2_with fail;rw[<-b8];go_roundw;case rel=>exact⟨j+1,R.set j (igR rr (ae ⟨w4,0,ab⟩)),by omega,by go_num,s9,s8,g0.put m5 m6.symm _,m9,s4⟩
     case measure=>simp[az];omega
   .obtain rfl:j=(Y:Q):=by omega
    have m2:¬ ((Y:Q):af)<(Y:Q):=(by omega);have j2:ah (CntOk ds R (igI I)):=by
     have h:=g0.out;rw[l4]at h;exact zQM h9 h
    have g5:∀ b,b<(W2:Q)->¬ ∃ F,ra=ae F/\b=F.block:=λb h1 ⟨F,e,h2⟩=>by have:=l9.out F e;omega
    have g6:=zg4 (e9.1.foot U (λb hb=>g5 b (i0 b hb))) (e9.2.1.fr U (λb hb=>g5 b (i0 b hb))) (cb e9.2.2.1 U (λd hd F e=>g5 _ (i0 _ (.inr ⟨d,hd,F,e,rfl⟩)))) (U.heap e9.2.2.2 (g5 _ l2));have t0:ah (Fr No wA wi):=r8.step U (λb hb h=>by
     obtain⟨F,e,h2⟩:=h;have:=l9.out F e;omega)
    have t7:ah (Recs wi ra rc R):=b4.1;have U:=t0;go_upto_region 11 with(fail)
    rw[<-d4];refine zO No [(0,ak),(1,ak),(2,ak),(3,ak),(4,ak),(5,aj),(6,aj),(7,ak)] (λw5 a8=>?_);have d2:=a8.heap g6.2.2.2 id;have F5:=zh (U.step a8 zi);have S5:ah (StK w5 tb (w:Q) ka ea kc xc X E):=HS.no F5;have t2:∀ g:Gr No w5,g.W ⟨w1,0,ab⟩=ae (ai ta ds tc):=λg=>zB (g.fr.heap d2 id) 0
    have t5:∀ g:Gr No w5,g.W ⟨w,0,ab⟩=ae (ai ka X kc):=λg=>zB (g.fr.heap S5.box id) 0
    have t6:∀ g:Gr No w5,g.W ⟨w,1,ab⟩=ae (al ao 0):=λg=>zB (g.fr.heap S5.box id) 1
    have E5:ah (Env w5):=HE.from h8 ((EvF.from (tb:=N) Z (bw _) b9).step F5 zn);have T5:=zg3 (g6.1.no a8) (g6.2.1.fr a8 (λ_ _=>id)) (AttOf.no g6.2.2.1 a8);have d6:=zPo ta ra ka ea tc rc kc xc (wA:Q) 0 ds R E X ct A w5 T5.1 h9 T5.2.2 (t7.no a8 (λ_=>id)) E5 S5.es S5.ks r3 r4;have s5:=F5.size;clear d2 a8;(repeat apply zR rfl rfl rfl;intro X hK;go_big_quiet_op;go_big_quiet_on);clear t2 t5 t6;apply zu rfl;go_wp2_with fail;apply d6.mono;rintro e w6 ⟨⟨ma,mc,M,rfl,hV,t8,t9,hM,re,n7⟩,a5⟩;have s6:=a5.size;have F6:=zh (F5.step a5 zi);have d7:=zOR (wA:Q) ta tc ds ct M ma mc A w6 (T5.1.no a5) h9 hM ⟨k9,by omega⟩ (E5.fr a5 (λ_ _=>id)) (T5.2.1.fr a5 (λ_ _=>id)) (AttOf.no T5.2.2 a5) hV (by omega);have HM:=zg2 hM n7;clear d6 hV t8 t9 hM n7;go_wp2_with fail;apply zf a5;clear a5;apply zu rfl;go_wp2_with fail;apply d7.mono;rintro e w7 ⟨⟨J,av,cv,rfl,hP⟩,g7⟩;have F7:=zh (F6.step g7 zi);have HP:=zh hP;have s7:=g7.size;clear d7 hP;go_wp2_with fail;apply zf g7;clear g7;(repeat apply zR rfl rfl rfl;intro X hK;go_big_quiet_op;go_big_quiet_on);apply zY;have K7:ah (KA w7 N z L ct A nn):=HK.no b9 F7;have S7:ah (StK w7 tb (w:Q) ka ea kc xc X E):=HS.no F7;have G7:ah (EvF N z w w7/\EvG N w w7):=⟨cw Z (EvF.no F7),cx HG (EvG.no F7) HK.v⟩
    by_cases h0:(J:Q)=0
    .have he:(((J:Q):af)==0)=true:=(by simp[h0]);have d8:ah (DoneP M L ct A):=by
      rcases HP.out with⟨_,h⟩|⟨_,K2,ck,j3,V,hd,_⟩
      .rw[b3]at h;exact h
      .have ho:J=[]:=List.eq_nil_of_length_eq_zero h0;subst ho;rw[b3]at V;cases V;exact hd
     go_wp2;go_ret;exact⟨rfl,⟨L,ct,A,nn,K7,⟨HI.u,HI.d,ds,R,re,M,b3,j2,HM.2,HM.1,d8⟩,k9,by omega,by omega⟩,G7⟩
    .have he:(((J:Q):af)==0)=false:=(by simp[h0]);obtain⟨j4,K2,ck,j3,V,hD,j5,x2,y1,h3,h4⟩:=HP.resolve_left (λh=>h0 (by rw[h.1];rfl));rw[b3]at j4 V j5;have ht:(r:af)+1<=31:=by
      rcases HI.f with h|h
      .exact h
      .exact bc (h ds R re M b3 j2 HM.2) j4
     have n8:ah (KRun 44 L ct A (J.drop 0) K2 ck j3):=V;have d8:=zg2 hD (j5 D HI.d);have n9:=zg2 h3 h4;obtain⟨x3,p0⟩:=K7.blk;have d9:=zh p0;clear HP j4 V hD j5 h3 h4 p0;go_wp2_with fail;go_loopw [14] (λx wj=>∃ (jj nj:Q) (Lj:ag Dev) (cj:af->B) (a6:af),jj<=(J:Q)/\x=al ao (jj:af)/\nj<=nn+45*jj/\ah (KRun 44 Lj cj a6 (J.drop jj) K2 ck j3)/\ah (KA wj N z Lj cj a6 nj)/\ah (EvF N z w7 wj)/\ah (EvG N w7 wj)) (λx _=>(J:Q)-(az x).toNat);case atStart=>exact⟨0,nn,L,ct,A,by omega,rfl,by omega,n8,K7,EvF.no (bf _ _),EvG.no (bf _ _)⟩
     case round=>
      obtain⟨jj,nj,Lj,cj,a6,y2,rfl,y3,p1,j6,a9,p2⟩:=hrel;obtain⟨wj,rfl⟩:=ε wr
      have sj:=bu a9;by_cases p3:jj<(J:Q)
      .have j7:(jj:af)<(J:Q):=(by omega);obtain⟨o,ho⟩:∃ o,J[jj]?=ae o:=⟨_,cf p3⟩
       obtain⟨l1,x1,L1,c1,p4,h5,e0⟩:=KRun.step ho p1;have e4:=cu a9 n9.1 d9 (by decide) (by decide);have e5:=OpsOk.ev n9.2 a9 d9;obtain⟨b,a4,v0,⟨o0,o1,o2,o3,o4,o5,o6,o7,o8,o9,v1,v2,v3,v4⟩⟩:=zP4 e4 rfl ho;obtain⟨p5,p6,_⟩:=e5 o (bg ho);have p7:Env wj:=HE.from h8 ((EvF.from (tb:=N) G7.1 (bw _) b9).step (EvF.from (tb:=N) a9 (bw _) b9) zi);have j8:=zQi N z nj Lj L1 cj c1 a6 p4 o wj j6 p7 h8 (by omega) (by omega) x1 (by omega) ⟨p5,p6⟩ h5;have v5:=zh e0;subst v0;unfold OpA.vals ocs at j8;clear h5 e0 e4 e5 ho p5 p6 p7;go_wp2_with fail;apply j8.mono;rintro e w8 ⟨⟨i9,rfl⟩,p8,p9,r0⟩;have v6:=zh p8;have r1:ah (EvF N z w7 w8/\EvG N w7 w8):=⟨cw a9 p9,cx p2 r0 j6.v⟩
       clear j8 p8 p9 r0 o0 o1 o2 o3 o4 o5 o6 o7 o8 o9 v1 v2 v3 v4;go_wp2;go_roundw;case rel=>exact⟨jj+1,nj+(Lj:Q)+1,L1,c1,p4,by omega,by go_num,by omega,v5,v6,r1.1,r1.2⟩
       case measure=>simp[az];omega
      .obtain rfl:jj=(J:Q):=by omega
       have j7:¬ ((J:Q):af)<(J:Q):=(by omega);obtain⟨e1,e2,e3⟩:=KRun.done p1;have v7:ah (SetS E X (igI I) D (((r+1:Q):af)+1) Lj cj a6):=by
        rw[<-e1,<-e2,<-e3,show ((r+1:Q):af)+1=(r:af)+1+1 by omega];exact SetS.step HI r7 r5 b3 j2 HM.2 HM.1 d8.1 d8.2
       have hp:0<=a6/\a6<=A+44:=by
        have:=d8.1.p;omega
       have GJ:ah (EvF N z w wj/\EvG N w wj):=⟨cw G7.1 a9,cx G7.2 p2 K7.v⟩
       have SJ:ah (StK wj tb (w:Q) ka ea kc xc X E):=S7.ev a9 d9;clear e1 e2 e3;go_wp2;go_roundw;case rel=>exact⟨r+1,nj,Lj,cj,a6,by omega,by go_num,by omega,hp.1,by omega,v7,j6,SJ,GJ.1,GJ.2⟩
       case measure=>simp[az];omega
section
variable {ds:ag Dev}{tx:Dev->B}{E K:ag B}{C S S':ag Src}{r:af}{M M':ag Vir}{G G':ag (B×B)}
theorem zK6 (h:NextR ds tx E K C r [] [] G S' M' G'):M'=[]:=by
 obtain⟨⟨J,z,L4,A,N,⟨L2,F,O,U,L3,I,a1,V,X,Y,Z,a6,a7⟩,c2,c3,c4,c5⟩,_⟩:=h;have v:∀ {L:ag Mem},L.map Mem.k=[]->L=[]:=λh=>List.map_eq_nil_iff.1 h
 obtain rfl:=v a1;obtain rfl:=v Z;obtain rfl:=v c2;have y:∀ {l:ag B},(∀ x,x∉l)->l=[]:=λh=>List.eq_nil_iff_forall_not_mem.2 h
 obtain rfl:=y λx o=>by obtain⟨s,u⟩:=(V.mem x).1 o;cases u
 obtain rfl:=y λx o=>by have u:=(a6.mem x).1 o;cases u
 obtain rfl:=y λx o=>by obtain⟨s,u⟩:=(c3.mem x).1 o;cases u
 obtain rfl:O=[]:=List.map_eq_nil_iff.1 X;obtain rfl:N=[]:=List.map_eq_nil_iff.1 c4;obtain⟨rfl,_⟩:=Prod.mk.inj (Y:(U,z)=([],G));obtain rfl:J=[]:=a7;exact(Prod.mk.inj (c5:(M',G')=([],z))).1
theorem zLr (u:(C.filter λs=>!virB ds s.d.index)=[])(h:Chain ds tx E K C r S M G):S=[]/\M=[]:=by
 induction h with
 | base=>exact⟨u,rfl⟩
 | step z v o y=>
  obtain⟨rfl,rfl⟩:=y;rw[zK6 v]at o;exact bc o (by simp)
theorem SetE.none {y:B->Bool}{z:af}(h:SetE E K y [] L ct z):L=[]:=by
 obtain⟨ds,R,r,M,rfl,hR,A,O,F⟩:=h.e;have v:∀ d∈ds.map strip,virB (ds.map strip) d.index=true:=λd o=>by
  rw[h.u.vir o];cases hx:isDk d.orig with
  | false=>rfl
  | true=>exact bc (h.d.a d o hx) (by simp)
 have I:((cntL ds R 0 ds).filter λs=>!virB ds s.d.index)=[]:=by
  rw[dw];intro s J;have:=v (strip s.d) (bd (zAw ds R ds 0 s J).1);have e:virB (ds.map strip) (strip s.d).index=virB ds s.d.index:=zAM;rw[<-e,this];simp
 obtain⟨S,U,_,_,N,_⟩:=A;obtain⟨_,rfl⟩:=zLr I N;refine List.eq_nil_iff_forall_not_mem.2 λd o=>?_
 have:=(F.w d o (v d o)).1;cases this
end
structure PJ (w0 W:ar)(tb sb k1 k2:Q)(ka ea:ap aq)(kc xc:Q)(K E:ag B)(kt:Q)(L1:ag Dev)(c1:af->B)(i1:af)(n1:Q)(L2:ag Dev)(c2:af->B)(i2:af)(n2:Q):Prop where
 a:KA W k1 (k1+1) L1 c1 i1 n1
 b:KA W k2 (k2+1) L2 c2 i2 n2
 s:KSep W k1 k2
 st:StK W tb sb ka ea kc xc K E
 tp:Tape W tb tb kt
 fr:Fr (From tb) w0 W
 lt:tb<k1/\tb<k2/\k1≠k2/\k1<(W:Q)/\k2<(W:Q)
section
variable {w0 W W':ar}{tb sb k1 k2:Q}{ka ea:ap aq}{kc xc:Q}{K E:ag B}{kt kt':Q}{L1 L1' L2:ag Dev}{c1 c1' c2:af->B}{i1 i1' i2:af}{n1 n1' n2:Q}
theorem PJ.swap (h:PJ w0 W tb sb k1 k2 ka ea kc xc K E kt L1 c1 i1 n1 L2 c2 i2 n2):PJ w0 W tb sb k2 k1 ka ea kc xc K E kt L2 c2 i2 n2 L1 c1 i1 n1:=
 ⟨h.b,h.a,h.s.symm,h.st,h.tp,h.fr,h.lt.2.1,h.lt.1,cn h.lt.2.2.1,h.lt.2.2.2.2,h.lt.2.2.2.1⟩
theorem PJ.ev (h:PJ w0 W tb sb k1 k2 ka ea kc xc K E kt L1 c1 i1 n1 L2 c2 i2 n2)(z:KA W' k1 (k1+1) L1' c1' i1' n1')(o:EvF k1 (k1+1) W W')(A:EvG k1 W W'):PJ w0 W' tb sb k1 k2 ka ea kc xc K E kt L1' c1' i1' n1' L2 c2 i2 n2:=by
 obtain⟨u,F,v,J,N⟩:=h.lt;obtain⟨cs,I⟩:=h.a.blk;have y:=KA.other h.b h.a (cn v) h.s.symm A;have O:=bu o;exact⟨z,y.1,y.2.symm,h.st.ev o I,EvF.tape o u (by omega) h.tp,h.fr.step (EvF.from o (by omega) (by omega)) zi,u,F,v,by omega,by omega⟩
theorem PJ.tape (h:PJ w0 W tb sb k1 k2 ka ea kc xc K E kt L1 c1 i1 n1 L2 c2 i2 n2)(u:Fr (Is tb) W W')(y:Tape W' tb tb kt'):PJ w0 W' tb sb k1 k2 ka ea kc xc K E kt' L1 c1 i1 n1 L2 c2 i2 n2:=by
 obtain⟨z,A,F,J,N⟩:=h.lt;have O:=u.size;have v:∀ b,Is tb b->b=tb:=λb o=>o
 exact⟨h.a.low (br _) u (λb I _ o=>by have:=v b o;omega),h.b.low (br _) u (λb I _ o=>by have:=v b o;omega),h.s.fr u (λo=>by have:=v _ o;omega) (λo=>by have:=v _ o;omega) h.a h.b,h.st.tape u,y,
  h.fr.step u (λb _ o=>by have:=v b o;omega),z,A,F,by omega,by omega⟩
theorem PJ.no (h:PJ w0 W tb sb k1 k2 ka ea kc xc K E kt L1 c1 i1 n1 L2 c2 i2 n2)(o:Fr No W W'):PJ w0 W' tb sb k1 k2 ka ea kc xc K E kt L1 c1 i1 n1 L2 c2 i2 n2:=
 h.tape (o.mono λ_ _ h=>h.elim) (h.tp.fr o (λ_ _=>id) id)
theorem PJ.env (h:PJ w0 W tb sb k1 k2 ka ea kc xc K E kt L1 c1 i1 n1 L2 c2 i2 n2)(o:Env w0)(u:8<tb):Env W:=o.from u h.fr
theorem PJ.row {F:Q}{v:bm}{U:ag bm}(h:PJ w0 W tb sb k1 k2 ka ea kc xc K E kt L1 c1 i1 n1 L2 c2 i2 n2)(A:W.ownsRow F 9 1 v m U)(y:Fr (λb=>v.ownBlock=ae b) W W')(Z:tb<F)(O:∀ u,ka=ae u->u.block<F)(z:∀ u,ea=ae u->u.block<F):PJ w0 W' tb sb k1 k2 ka ea kc xc K E kt L1 c1 i1 n1 L2 c2 i2 n2:=by
 obtain⟨V,X,Y,l4,l5⟩:=h.lt;have hs:=y.size;have o:∀ b,v.ownBlock=ae b->F<=b:=λb I=>(zAH A I).1
 obtain⟨x1,J⟩:=h.a.blk;obtain⟨x2,N⟩:=h.b.blk;exact⟨h.a.row A (by decide) y,h.b.row A (by decide) y,h.s.fr y (zJ A J (by decide)) (zJ A N (by decide)) h.a h.b,h.st.fr y (zJ A h.st.box (by decide)) (λu e I=>by have:=O u e;have:=o _ I;omega) (λu e I=>by have:=z u e;have:=o _ I;omega),h.tp.fr y (λb O z=>by have:=o b z;omega) (λz=>by have:=o _ z;omega),h.fr.step y (λb _ z=>by have:=o b z;omega),V,X,Y,by omega,by omega⟩
theorem StK.low (h:StK W tb sb ka ea kc xc K E):(∀ o,ka=ae o->o.block<(W:Q))/\∀ o,ea=ae o->o.block<(W:Q):=
 ⟨λo e=>by obtain⟨x,u⟩:=h.kt o e;exact zC u,λo e=>by obtain⟨x,u⟩:=h.et o e;exact zC u⟩
end
def DkT (z:B)(ct:af->B):ag Dev->ag (B×af×B)
 | []=>[]
 | d::t=>DkT z ct t++(if eqB d.orig z=aj then []else [(d.orig,d.num,ct d.index)])
theorem zI4 {z:B}{ct:af->B}:∀ {l:ag Dev} {d:Dev},DkT z ct (l++[d])=(if eqB d.orig z=aj then []else [(d.orig,d.num,ct d.index)])++DkT z ct l
 | [],d=>by simp[DkT]
 | x::t,d=>by
  show DkT z ct (t++[d])++_=_
  rw[zI4 (l:=t),List.append_assoc];rfl
theorem zDG {z:B}{ct:af->B}{x:B×af×B}:∀ {l:ag Dev},x∈DkT z ct l↔∃ d∈l,d.orig≠z/\x=(d.orig,d.num,ct d.index)
 | []=>by simp[DkT]
 | y::t=>by
  unfold DkT;rw[List.mem_append,zDG (l:=t)];have v:x∈(if eqB y.orig z=aj then []else [(y.orig,y.num,ct y.index)])↔y.orig≠z/\x=(y.orig,y.num,ct y.index):=by
   by_cases e:y.orig=z
   .rw[ay (zAD.2 e)];simp[e]
   .rw[ba (λh=>e (zAD.1 h))];simp[e]
  rw[v];constructor
  .rintro (⟨d,o,u⟩|h);·exact⟨d,eh _ o,u⟩
   .exact⟨y,List.mem_cons_self,h⟩
  .rintro ⟨d,o,u⟩;rcases List.mem_cons.1 o with rfl|o
   .exact .inr u
   .exact .inl ⟨d,o,u⟩
theorem zNP (h:UOk L ct b)(v:L[k]?=ae d):∀ x∈DkT z ct (L.take k),x.1≠d.orig/\x.2.1≠d.num:=λx N=>by
 obtain⟨e,y,_,rfl⟩:=zDG.1 N;have I:=bg v;have o:e≠d:=λu=>by
  subst u;obtain⟨i,A⟩:=cg y;have F:=(List.getElem?_eq_some_iff.1 A).1;rw[eg]at F;rw[ec (by omega)]at A;have J:=List.pairwise_iff_getElem.1 h.wf.ok.nd i k (by rw[bp];omega) (by rw[bp];exact(List.getElem?_eq_some_iff.1 v).1) (by omega);rw[ed,ed,(List.getElem?_eq_some_iff.1 A).2,(List.getElem?_eq_some_iff.1 v).2]at J;exact J rfl
 exact⟨λu=>o (h.inj (ej y) I u),λu=>o (h.nu _ (ej y) _ I u)⟩
structure DkN (D:ag (B×af×B))(ns:ag B)(i:Q)(dn:Q->B):Prop where
 el:∀ x∈D,∃ k:Q,i<k/\k<=4/\x.1=dn k/\x.2.1=k
 nm:D.map (λx=>x.1)=ns.reverse
 nd:ns.Nodup
theorem DkN.step {z:ag B}{o:Q->B}(h:DkN D z (i+1) o)(O:i<4)(v:∀ k,i+1<k->k<=4->o k≠o (i+1))(c:B):DkN ((o (i+1),((i+1:Q):af),c)::D) (z++[o (i+1)]) i o:=by
 refine⟨λx u=>?_,by rw[cl,h.nm,List.reverse_append];rfl,?_⟩
 .rcases List.mem_cons.1 u with rfl|u
  .exact⟨i+1,by omega,by omega,rfl,rfl⟩
  .obtain⟨k,A,y⟩:=h.el x u;exact⟨k,by omega,y⟩
 .rw[List.nodup_append];refine⟨h.nd,by simp,λa F b I=>?_⟩;obtain rfl:=List.mem_singleton.1 I;have J:a∈D.map (λx=>x.1):=by rw[h.nm];exact List.mem_reverse.2 F
  obtain⟨x,u,rfl⟩:=List.mem_map.1 J;obtain⟨k,A,y,N,_⟩:=h.el x u;rw[N];exact v k A y
def Dr (D:ag (B×af×B))(ns:ag B)(j:Q):ag (B×af×B):=D.filter λx=>!(ns.take j).any (eqB x.1)
theorem zPK (D:ag (B×af×B))(h:ag B):Dr D h 0=D:=by
 unfold Dr;exact List.filter_eq_self.2 λx _=>rfl
theorem zPL (h:u[j]?=ae o):(Dr D u j).filter (λx=>!eqB x.1 o)=Dr D u (j+1):=by
 unfold Dr;rw[List.filter_filter,df,h];refine dt λx _=>?_
 rw[List.any_append];simp[Bool.and_comm]
theorem zQJ {c:B}{n:af}(A:u.Nodup)(h:u[j]?=ae o)(F:(o,n,c)∈D):(o,n,c)∈Dr D u j:=by
 refine List.mem_filter.2 ⟨F,?_⟩;cases hb:(u.take j).any (eqB o)with
 | false=>rfl
 | true=>
  obtain⟨x,I,J⟩:=List.any_eq_true.1 hb;obtain rfl:=zAD.1 J;obtain⟨i,v⟩:=cg I;have y:=(List.getElem?_eq_some_iff.1 v).1;rw[eg]at y;rw[ec (by omega)]at v;have z:=List.pairwise_iff_getElem.1 A i j (by omega) (List.getElem?_eq_some_iff.1 h).1 (by omega);rw[(List.getElem?_eq_some_iff.1 v).2,(List.getElem?_eq_some_iff.1 h).2]at z;exact bc rfl z
theorem zQK {o:ag B}(h:∀ x∈D,x.1∈o):Dr D o (o:Q)=[]:=by
 unfold Dr;rw[dw];intro x u;rw[dg,List.any_eq_true.2 ⟨x.1,h x u,zAD.2 rfl⟩];simp
def diskN (i:Q):B:=⟨#[115,100,UInt8.ofNat (97+i)]⟩
theorem zFG (h:1<=i)(o:i<=4):isDk (diskN i)=true:=by
 rcases(by omega:i=1\/i=2\/i=3\/i=4)with rfl|rfl|rfl|rfl<;>kernel_rfl
theorem zG1 (o:i<=4)(u:j<=4)(e:diskN i=diskN j):i=j:=by
 have h:=au (λb:B=>b.data.toList[2]?.map UInt8.toNat) e;simp[diskN]at h;omega
def sdzB : B:=⟨#[115,100,122]⟩
def sdzP : B:=⟨#[47,115,100,122]⟩
theorem zFa: isDk sdzB=true:=by kernel_rfl
theorem zIq {x s:B}:hasS [x] s=eqB x s:=by
 unfold hasS eqB;rw[List.any_cons,ByteArray.toList_eq,ByteArray.toList_eq];simp
theorem igD (h:isDk o=aj):igI [sdzP] o=eqB o sdzB:=by
 have u:=List.all_eq_true.1 (show (dskN.all λo=>eqB sdzP (pathOf (orgOf o))==eqB o sdzB)=aj by kernel_rfl) o (zIk.1 h);unfold igI;rw[zIq]
 simpa using u
theorem igZ: ∀ o,isDk o=ak->igI [sdzP] o=false:=λo h=>by
 unfold igI;rw[zIq];cases hb:eqB sdzP (pathOf (orgOf o))with
 | false=>rfl
 | true=>
  exfalso;have e:=zAD.1 hb;unfold orgOf at e;cases hp:parOf o with
  | none=>
   rw[hp]at e;have v:sdzP=(():B)++⟨#[47]⟩++o:=e;have u:=au (λb:B=>b.data.toList) v;simp only[ByteArray.data_append,Array.toList_append]at u;have y:o.data.toList=[115,100,122]:=by
    have:([47,115,100,122]:ag UInt8)=47::o.data.toList:=u;injection this with _ this
    exact this.symm
   have z:o=sdzB:=dq (Array.toList_inj.1 y);rw[z,zFa]at h;cases h
  | some n=>
   rw[hp]at e;have A:n∈rootN:=ei hp;have F:3<=n.size:=by
    have:=List.all_eq_true.1 (show (rootN.all λn=>decide (3<=n.size))=aj by kernel_rfl) n A
    simpa using this
   have v:sdzP=(():B)++⟨#[47]⟩++n++⟨#[47]⟩++o:=e;have u:=au ByteArray.size v;rw[ByteArray.size_append,ByteArray.size_append,ByteArray.size_append,ByteArray.size_append]at u;have y:sdzP.size=4:=rfl;have z:(⟨#[47]⟩:B).size=1:=rfl;omega
theorem igN: ∀ o,isDk o=ak->igI [] o=false:=λo _=>rfl
theorem zMz (N:DskP D (ds.map strip) ct)(U:∀ d∈ds.map strip,isDk d.orig=aj)(o c:B):Live D (igI [sdzP]) o c↔Live (DkT sdzB ct ds) (igI []) o c:=by
 constructor
 .rintro ⟨n,v,z⟩;obtain⟨A,d,V,h,F,I⟩:=N.b _ v;obtain⟨y,u,rfl⟩:=List.mem_map.1 V;have h:y.orig=o:=h;have F:y.num=n:=F;have I:ct y.index=c:=I;refine⟨n,zDG.2 ⟨y,u,λe=>?_,by rw[h,F,I]⟩,rfl⟩;rw[igD A]at z;rw[<-h,e,zAD.2 rfl]at z;cases z
 .rintro ⟨n,v,_⟩;obtain⟨y,u,J,e⟩:=zDG.1 v;have O:isDk y.orig=true:=U (strip y) (bd u);have A:=N.a (strip y) (bd u) O;cases e;refine⟨_,A,?_⟩;rw[igD O];cases hb:eqB y.orig sdzB with
  | false=>rfl
  | true=>exact bc (zAD.1 hb) J
structure XT (W:ar)(xb base:Q)(a:ap aq)(cap:Q)(ds:ag Dev)(ct:af->B):Prop where
 tr:Tr W base a cap ds
 tt:TrT W a ds
 ct:CtO W ds ct
 bx:W.heap[xb]?=ae (am #[ai a ds cap] 48)
def NS (W:ar)(a:ap aq)(c:Q)(ns:ag B):Prop:=Strs W a c ns/\BlkT W a 9
section
variable {W W':ar}{xb base kb c:Q}{a:ap aq}{cap:Q}{ds:ag Dev}{ct:af->B}{ns:ag B}{kcs:Array bm}
theorem XT.fr {S:Q->Prop}(h:XT W xb base a cap ds ct)(o:Fr S W W')(u:∀ b,TrF a ds b->¬ S b)(v:¬ S xb):XT W' xb base a cap ds ct:=
 ⟨h.tr.foot o u,h.tt.fr o u,cb h.ct o (λd y z e=>u _ (.inr ⟨d,y,z,e,rfl⟩)),o.heap h.bx v⟩
theorem XT.no (h:XT W xb base a cap ds ct)(o:Fr No W W'):XT W' xb base a cap ds ct:=h.fr o (λ_ _=>id) id
theorem XT.ev (h:XT W xb base a cap ds ct)(y:W.heap[kb]?=ae (am kcs 62))(z:EvF kb m W W'):XT W' xb base a cap ds ct:=by
 refine h.fr z (λb o u=>?_) (λu=>?_)
 .rcases u with u|⟨_,x,v⟩
  .exact h.tt.ne o y (by decide) (by decide) u
  .exact h.tt.ne o v (by decide) (by decide) rfl
 .rcases u with u|⟨_,x,v⟩
  .have o:=h.bx;rw[u,y]at o;cases o
  .have o:=h.bx;rw[v]at o;cases o
theorem NS.no (h:NS W a c ns)(o:Fr No W W'):NS W' a c ns:=⟨h.1.no o (λ_=>id),h.2.fr o (λ_ _=>id)⟩
theorem NS.ev (h:NS W a c ns)(u:W.heap[kb]?=ae (am kcs 62))(o:EvF kb m W W'):NS W' a c ns:=
 ⟨h.1.fr o (λv e _=>ce o h.2 u (by decide) (by decide) v e),h.2.fr o (ce o h.2 u (by decide) (by decide))⟩
theorem NS.tape {tb:Q}(h:NS W a c ns)(v:Fr (Is tb) W W')(u:∀ o,a=ae o->tb<o.block):NS W' a c ns:=
 ⟨h.1.fr v (λo e _ y=>by have:=u o e;omega),h.2.fr v (λo e y=>by have:=u o e;omega)⟩
end
theorem zLd {z:B}{ct:af->B}:∀ {l:ag Dev},DkT z ct (l.map strip)=DkT z ct l
 | []=>rfl
 | d::t=>by
  show DkT z ct (t.map strip)++_=DkT z ct t++_
  rw[zLd (l:=t)];rfl
theorem zLe (h:UOk (ds.map strip) ct b)(u:ds[k]?=ae d):∀ x∈DkT z ct (ds.take k),x.1≠d.orig/\x.2.1≠d.num:=by
 have o:=zNP h (z:=z) (k:=k) (d:=strip d) (by rw[dy,u];rfl);rw[<-List.map_take,zLd]at o;exact o
theorem zI3 (h:ds[k]?=ae d):DkT z ct (ds.take (k+1))=(if eqB d.orig z=aj then []else [(d.orig,d.num,ct d.index)])++DkT z ct (ds.take k):=by
 rw[df,h];exact zI4
theorem zLf (h:1<=i)(o:i<=4):(⟨#[47]⟩:B)++diskN i=pathOf [diskN i]:=by
 rcases(by omega:i=1\/i=2\/i=3\/i=4)with rfl|rfl|rfl|rfl<;>kernel_rfl
theorem zI5 (o:1<=i)(u:i<=4):diskN i≠sdzB:=λe=>by
 have h:=zAD.2 e;rcases(by omega:i=1\/i=2\/i=3\/i=4)with rfl|rfl|rfl|rfl<;>exact bc h (by decide)
section
variable {D:ag (B×af×B)}{ns:ag B}{ds:ag Dev}{ct:af->B}{c:B}
theorem zPF (v:DkN D ns 0 diskN)(y:DskP ((sdzB,60,c)::D) (ds.map strip) ct)(z:∀ d∈ds.map strip,isDk d.orig=aj)(o:d∈ds)(A:d.orig≠sdzB):1<=d.num/\d.num<1048576:=by
 have h:=y.a (strip d) (bd o) (z _ (bd o));rcases List.mem_cons.1 h with e|h
 .exact bc (au (λx=>x.1) e) A
 .obtain⟨k,F,I,_,u⟩:=v.el _ h;have u:d.num=k:=u;omega
theorem zQI (u:DkN D ns 0 diskN)(v:DskP ((sdzB,60,c)::D) (ds.map strip) ct)(y:∀ d∈ds.map strip,isDk d.orig=aj):∀ x∈DkT sdzB ct ds,x.1∈ns:=λx z=>by
 obtain⟨d,o,A,rfl⟩:=zDG.1 z;have h:=v.a (strip d) (bd o) (y _ (bd o));rcases List.mem_cons.1 h with e|h
 .exact bc (au (λx=>x.1) e) A
 .have:=bd (f:=λx:B×af×B=>x.1) h;rw[u.nm]at this;exact List.mem_reverse.1 this
theorem zQH (A:DkN D ns 0 diskN)(N:DskP ((sdzB,60,c)::D) (ds.map strip) ct)(O:o∈ns):∃ (i:Q) (U:B),1<=i/\i<=4/\o=diskN i/\(o,(i:af),U)∈DkT sdzB ct ds:=by
 have h:o∈D.map λx=>x.1:=by rw[A.nm];exact List.mem_reverse.2 O
 obtain⟨x,F,rfl⟩:=List.mem_map.1 h;obtain⟨k,I,J,v,V⟩:=A.el x F;obtain⟨_,d,X,u,z,Z⟩:=N.b x (eh _ F);obtain⟨y,Y,rfl⟩:=List.mem_map.1 X;have u:y.orig=x.1:=u;have z:y.num=x.2.1:=z;refine⟨k,ct y.index,I,J,v,zDG.2 ⟨y,Y,λe=>?_,by rw[u,z,V]⟩⟩;rw[<-u,e]at v;exact zI5 I J v.symm
end
theorem zEl (w:ar):
  be ax 7 #[] w λe w'=>e=.returned (ai (ae ⟨w,0,ab⟩) 16 16)/\Strs w' (ae ⟨w,0,ab⟩) 16 zAA/\BlkT w' (ae ⟨w,0,ab⟩) 9/\Fr No w w':=by
 have h:=zF w (am (zAA.map bs).toArray 9);have o:=cq h (by rw[zAb];unfold bj;omega);rw[zAb]at o;have u:BlkT (w.alloc (am (zAA.map bs).toArray 9)) (ae ⟨w,0,ab⟩) 9:=λv e=>by cases e;exact⟨_,h⟩
 have H:=zg3 o u ((bf No w).alloc (am (zAA.map bs).toArray 9));clear h o u;go_enter Tryz.func7,Tryz.ntmps7;go_wp2;go_ret;exact⟨rfl,H⟩
theorem zOx (u n:Q)(L:ag Dev)(ct:af->B)(v:af)(D:ag (B×af×B))(nm c:B)(o:af)(I:ap aq)(J:Q)(w:ar)(X:KA w u (u+1) L ct v n)(O:UOk L ct v)(V:DskP D L ct)(z:isDk nm=aj)(y:1<=o/\o<1048576)(A:∀ x∈D,x.1≠nm/\x.2.1≠o)(Y:InU c)(Z:Atts w I J (cAtt c))(hE:Env w)(h8:8<u)(hn:n<=50000000)(U:0<=v/\v<=900000)(hb:u+1<=(w:Q)):
  be ax 8 #[bn (ae ⟨u,0,ab⟩),bh (ocs 1 () ⟨0,0,(),nm,zV,(),(),2,o,I,(cAtt c).length,J⟩ () ())] w λe w'=>e=.returned (.tuple #[al ao (v+1),al ao 0])/\(∃ N F,KA w' u (u+1) N F (v+1) (n+1)/\UOk N F (v+1)/\DskP ((nm,o,c)::D) N F/\∀ d∈N,d∈L\/d.orig=nm)/\EvF u (u+1) w w'/\EvG u w w':=
 (zLK u (u+1) n L ct v 0 () () () c ⟨0,0,(),nm,zV,(),(),2,o,I,(cAtt c).length,J⟩ w X O hE h8 hn U hb Z rfl ⟨rfl,rfl,rfl,y.1,by show o<=2000000;omega⟩ (.inl ⟨zL5 O,rfl,rfl⟩) (.inl ⟨rfl,zNO z⟩) Y (λh=>bc rfl h) (V.free z y.2 A)).mono λe w' h=>⟨h.1,⟨_,_,h.2.1,h.2.2.1,V.put O (x:=⟨0,0,(),nm,zV,(),(),2,o,I,(cAtt c).length,J⟩) z,λd hd=>(zU.1 hd).elim (λe=>.inr (by rw[e];rfl)) .inl⟩,h.2.2.2.1,h.2.2.2.2⟩
theorem zQe (o n:Q)(L:ag Dev)(ct:af->B)(u:af)(D:ag (B×af×B))(nm c z:B)(v:af)(w:ar)(I:KA w o (o+1) L ct u n)(A:UOk L ct u)(J:DskP D L ct)(N:(nm,v,c)∈D)(O:z=pathOf [nm])(hn:n<=50000000)(U:o+1<=(w:Q)):
  be ax 8 #[bn (ae ⟨o,0,ab⟩),bh (ocs 2 z ZD () ())] w λe w'=>e=.returned (.tuple #[al ao 0,al ao 0])/\(∃ y F,F<=n+44/\KA w' o (o+1) y ct u F/\UOk y ct u/\DskP (D.filter λx=>!eqB x.1 nm) y ct)/\EvF o (o+1) w w'/\EvG o w w':=by
 obtain⟨d,V,X,Y,Z⟩:=zMf A J N;have hl:=A.len;subst O;exact(zN0 o (o+1) n L ct u _ _ _ ZD d w I (by omega) (by omega) U V X).mono λe w' h=>⟨h.1,⟨_,n+(L:Q),by omega,h.2.1,Y,Z⟩,h.2.2.1,h.2.2.2⟩
theorem zNT (W:ar)(x:UInt8)(n:af)(h:n=(x.toNat:af)):(convert 69 9 (ai (ae ⟨W,0,ab⟩) 1 1)).run ax (W.alloc (am #[al .u8 n] 5))=.ok (aw ⟨#[x]⟩) (W.alloc (am #[al .u8 n] 5)):=by
 subst h;refine Lib.run_convert_whole (P:=ax) _ 69 5 9 Tryz.underlying69 Tryz.underlying5 di (W:Q) 0 ⟨#[x]⟩ (λi o=>?_) 1;have:i=0:=by have u:i<1:=o;omega
 subst this;rw[zB (zF _ _)];rfl
theorem zM3 (w0 w:ar)(tb sb k1 k2:Q)(ka ea:ap aq)(kc xc:Q)(e4 E:ag B)(kk:Q)(c1:af->B)(L2:ag Dev)(c2:af->B)(i2:af)(n2:Q)(h:PJ w0 w tb sb k1 k2 ka ea kc xc e4 E kk [] c1 0 0 L2 c2 i2 n2)(hE:Env w0)(h8:8<tb)(i7:kk<=1000):
  be ax 6 #[bn (ae ⟨tb,0,ab⟩),bn (ae ⟨k1,0,ab⟩),al ao 4] w λe w'=>∃ (a:ap aq) (c:Q) (o:ag B) (D:ag (B×af×B)) (L:ag Dev) (ct:af->B) (z:af) (n u:Q),e=.returned (ai a o c)/\Strs w' a c o/\BlkT w' a 9/\(∀ ad,a=ae ad->(w:Q)<=ad.block)/\(o:Q)<=4/\UOk L ct z/\DskP D L ct/\DkN D o 0 diskN/\(∀ d∈L,isDk d.orig=aj)/\0<=z/\z<=4/\n<=4/\u<=kk+9/\PJ w0 w' tb sb k1 k2 ka ea kc xc e4 E u L ct z n L2 c2 i2 n2:=by
 obtain⟨i0,e5,e6,e7,e8⟩:=dk infoS;have F:=zDp tb tb kk 4 w h.tp (by omega) (by omega) (by omega);have i8:=h.lt;have b0:=zg2 h.st.low.1 h.st.low.2;have HP:=zh h;have HE:=zh hE;clear h hE;go_enter Tryz.func6,Tryz.ntmps6;go_wp2_with fail;apply F.mono;rintro e w1 ⟨q,rfl,e9,i9,b1,a2⟩;obtain⟨q,rfl⟩:=da e9;have b2:=zh (HP.tape a2 b1);have s1:=a2.size;clear F b1 a2;obtain⟨m,hm⟩:=ε (q+1)
 have j0:m<=4:=by omega
 go_wp2_with fail;go_loopw [7,8] (λv x wr=>∃ (i n u:Q) (L:ag Dev) (ct:af->B) (z:af) (av:ap aq) (cv:Q) (o:ag B) (D:ag (B×af×B)),i<=m/\x=al ao (i:af)/\v=ai av o cv/\(o:Q)+i<=m/\n+i<=m/\0<=z/\z+i<=m/\u+2*i<=kk+9/\(w:Q)<=(wr:Q)/\ah (UOk L ct z/\DskP D L ct/\DkN D o i diskN/\∀ d∈L,isDk d.orig=aj)/\ah (PJ w0 wr tb sb k1 k2 ka ea kc xc e4 E u L ct z n L2 c2 i2 n2)/\ah (wr.ownsRow (w:Q) 9 1 (ai av o cv) (o:Q) (o.map bs))) (λ_ x _=>(az x).toNat);case atStart=>exact⟨m,0,kk+1,[],c1,0,ab,0,[],[],by omega,by rw[hm];first|rfl|(go_num;done)|(simp;done)|(simp;omega),rfl,by simp,by omega,by omega,by omega,by omega,by omega,⟨dj _ _,DskP.nil _,⟨λx hx=>by simp at hx,rfl,.nil⟩,λd hd=>by simp at hd⟩,b2,ez _ _ _ _⟩
 case round=>
  clear b2;obtain⟨i,n,u,L,ct,z,av,cv,o,D,j1,rfl,rfl,j2,hn,j3,j4,h9,j5,O,b3,HO⟩:=hrel;obtain⟨wA,rfl⟩:=ε wr
  by_cases i3:0<i
  .obtain⟨j,rfl⟩:∃ j,i=j+1:=⟨i-1,by omega⟩
   have i4:(0:af)<((j+1:Q):af):=(by omega);go_upto_region 5 with(fail)
   go_cut [9] (λv wx=>v=aw (diskN (j+1))/\Fr No wA wx);case first=>
    have c1:=zNT wA 98 98 (by decide);have c2:=zNT wA 99 99 (by decide);have c3:=zNT wA 100 100 (by decide);have c4:=zNT wA 101 101 (by decide);rcases(by omega:j=0\/j=1\/j=2\/j=3)with rfl|rfl|rfl|rfl
    all_goals
     go_wp2;go_meet;exact⟨rfl,(bf _ _).alloc _⟩
   case rest=>
    obtain⟨rfl,U⟩:=hcut;obtain⟨wB,rfl⟩:=ε wc
    have a3:=zh (b3.no U);have g0:=zh (zG HO U (λ_ _=>id));have sB:=U.size;clear U;obtain⟨nm,a4⟩:=ε (diskN (j+1))
    rw[<-a4];have V:=zh a4;clear a4;go_wp2_with fail;apply (zFr wB).mono;rintro e w3 ⟨rfl,b4,X⟩;have b5:=zh b4;have b6:=zh (a3.no X);have b7:=zh (zG g0 X (λ_ _=>id));have s3:=X.size;clear b4 X;have b8:=zDp tb tb u 16 w3 b6.tp (by omega) (by omega) (by omega);go_wp2_with fail;apply b8.mono;rintro e w5 ⟨q5,rfl,b9,i5,d0,I⟩;obtain⟨q5,rfl⟩:=da b9;have g5:q5<(zAA:Q):=(by rw[zAb];omega);have s5:=I.size;have S5:Strs w5 (ae ⟨wB,0,ab⟩) 16 zAA:=b5.fr I (λad e _ h=>by cases e;unfold Is at h;dsimp only at h;have:=a3.lt;omega);obtain⟨b,j6,c,he,d1,d2⟩:=S5.at g5;cases he;rw[eo]at d2;have a5:=zDP c (bg d1);have g6:=zh (b6.tape I d0);have g7:=zh (zG b7 I (λb hb h=>by have:=(zAH b7 hb).1;have:=a3.lt;have:=HP.lt;omega));have d3:=zFw nm c ((j+1:Q):af) w5 a5;have g8:=zh a5;clear b8 d0 I S5 d1 b5 a5;go_wp2_with fail;apply d3.mono;rintro e w6 ⟨⟨aa,ac,rfl,hA,_,_⟩,Y⟩;have s6:=Y.size;have J:=zh (g6.no Y);have g9:=zh (zG g7 Y (λ_ _=>id));have d4:∀ x∈D,x.1≠nm/\x.2.1≠((j+1:Q):af):=λx hx=>by
     obtain⟨k,g1,g2,g3,g4⟩:=O.2.2.1.el x hx;refine⟨λe=>?_,by omega⟩;rw[g3,V]at e;have:=zG1 g2 (by omega) e;omega
    have a6:=zOx k1 n L ct z D nm c ((j+1:Q):af) aa ac w6 J.a O.1 O.2.1 (by rw[V];exact zFG (by omega) (by omega)) ⟨by omega,by omega⟩ d4 g8 hA (J.env HE h8) (by omega) (by omega) ⟨by omega,by omega⟩ (by have:=J.lt;omega);obtain⟨i6,d5⟩:=J.a.blk;have h0:=zh d5;clear d3 hA Y d2 d5 d4;unfold ocs at a6;go_wp2_with fail;apply a6.mono;rintro e w7 ⟨rfl,⟨L',a7,d6,d7,d8,d9⟩,Z,e0⟩;have s7:=bu Z;have h3:=zh (J.ev d6 Z e0);have h4:=zh (cu Z g9 h0 (by decide) (by decide));have h5:ah (UOk L' a7 (z+1)/\DskP ((nm,((j+1:Q):af),c)::D) L' a7/\DkN ((nm,((j+1:Q):af),c)::D) (o++[nm]) j diskN/\∀ d∈L',isDk d.orig=aj):=⟨d7,d8,by have h:=O.2.2.1.step (by omega) (λk h1 h2 e=>by have:=zG1 h2 (by omega) e;omega) c;rw[<-V]at h;exact h,λd hd=>by
     rcases d9 d hd with h|h
     .exact O.2.2.2 d h
     .rw[h,V];exact zFG (by omega) (by omega)⟩
    clear a6 d6 d7 d8 d9 Z e0;have N:=h4.out;go_wp2_with (at_builtin;refine f8 _ rfl _ _ 30 rfl (w:Q) 9 i0 (aw bq) 1 16 ew e5 e6 e7 e8 rfl (by decide) _ _ _ rfl (N.alloc _) ⟨w7,0,ab⟩ 1 1 [aw nm] rfl rfl (cell_one_new _ _ _) (zB2 [nm]) (by unfold bj;omega) (by omega) (by first|omega|(simp;done)|(simp;omega)) ?_;intro v' w9 y A _;obtain⟨e1,e2,rfl⟩:=zI y;skip)
    have a8:Fr No w7 (w7.alloc (am #[nm] 9)):=(bf _ _).alloc _;have a9:Fr (λb=>(bv av o cv).ownBlock=ae b) (w7.alloc (am #[nm] 9)) w9:=cy A;have h6:=zh ((h3.no a8).row (N.alloc _) a9 (by omega) b0.1 b0.2);have h7:ah (w9.ownsRow (w:Q) 9 1 (ai e1 (o++[nm]).length e2) (o++[nm]).length ((o++[nm]).map bs)):=(by rw[ch,dd];exact y);have s9:=a9.size;have j7:=a8.size;clear y A a9 a8 N;go_roundw;case rel=>exact⟨j,n+1,u+1,L',a7,z+1,e1,e2,o++[nm],_,by omega,by first|(go_num;done)|(simp;done)|(simp;omega),by rw[ch];rfl,by rw[ch];show (o:Q)+1+j<=m;omega,by omega,by omega,by omega,by omega,by omega,h5,h6,h7⟩
    case measure=>simp[az]
  .obtain rfl:i=0:=by omega
   obtain⟨ra,rc,ee,hR,e3⟩:=er HO;cases ee;have HR:=zg3 hR (zAO HO) e3;clear hR e3;go_wp2;go_ret;exact⟨_,_,o,D,L,ct,z,n,u,rfl,HR.1,HR.2.1,HR.2.2,by omega,O.1,O.2.1,O.2.2.1,O.2.2.2,by omega,by omega,by omega,by omega,b3⟩
theorem infoSt: (Tryz.prog.info? 9).map (λi=>(i.zero,i.size,i.bytes))=ae (ae (aw bq),1,16):=by kernel_rfl
theorem zD2 (d:Dev)(c:B)(w:ar)(z:Atts w d.aa d.ac (cAtt c))(h:d.an=(cAtt c).length):
  be ax 12 #[bh d.vals] w λe w'=>e=.returned c/\Fr No w w':=by
 obtain⟨J,o,u,A⟩:=zy w (am d.vals 41);have F:=(DevB.of A).c9;rw[h]at F;have v:=zIQ d.aa d.ac (cAtt c) zM J (z.no u (λ_=>id));rw[zCn]at v;have O:=zh u;have U:=zh h;obtain⟨N,I⟩:=ε ((cAtt c).length)
 rw[<-I]at F v;clear u A z h I;unfold cd at o ⊢;go_enter Tryz.func12,Tryz.ntmps12;go_upto_region 1 with(fail)
 rw[<-o];clear o;go_wp2_with fail;apply v.mono;rintro e V ⟨⟨X,rfl⟩,y⟩;go_wp2;go_ret;exact⟨rfl,O.step y zi⟩
def virT (ds:ag Dev)(ct:af->B)(l:ag Dev):ag B:=(l.filter λd=>virB ds d.index).map λd=>pathOf (origin ds d.index)++⟨#[32]⟩++ct d.index
theorem zKK (ds:ag Dev)(ct:af->B){l:ag Dev}(h:l[k]?=ae d):virT ds ct (l.take (k+1))=virT ds ct (l.take k)++(if virB ds d.index=aj then [pathOf (origin ds d.index)++⟨#[32]⟩++ct d.index]else []):=by
 unfold virT;rw[df,h,List.filter_append,dd]
 congr 1
 cases hb:virB ds d.index<;>simp[hb]
theorem zE9 (a:ap aq)(y a7:Q)(ds:ag Dev)(ct:af->B)(w:ar)(hl:Tr w a7 a y ds)(d3:TrT w a ds)(hC:CtO w ds ct)(hn:(ds:Q)<=250)(d4:∀ d∈ds,(ct d.index).size<=1000):
  be ax 15 #[bh #[ai a ds y]] w λe w'=>(∃ ra rc,e=.returned (ai ra (virT ds ct ds).length rc)/\Strs w' ra rc (virT ds ct ds))/\Fr No w w':=by
 obtain⟨i0,e9,g0,g1,g2⟩:=dk infoSt;obtain⟨U,d5,x0,b0⟩:=zy w (am #[ai a ds y] 48);have b1:ah (∀ b,TrF a ds b->b<(U:Q)):=λb hb=>by
  obtain⟨x,T,hx,_⟩:=d3 b hb;exact Nat.lt_of_lt_of_le (zC hx) x0.size
 have b2:=zg3 (hl.no x0) (AttOf.no hC x0) b0;have d6:=zh x0;have g3:=zh d4;have hm:=hl.dv.lenmax;have s0:=zC b0;clear hl hC x0 b0 d4 d3;go_enter Tryz.func15,Tryz.ntmps15;go_upto_region 1 with(fail)
 rw[<-d5];clear d5;go_wp2_with fail;go_loopw [3,4] (λv i wr=>∃ (k:Q) (O:ag B) (av:ap aq) (cv:Q),k<=(ds:Q)/\v=ai av O cv/\i=al ao (k:af)/\ah (O=virT ds ct (ds.take k))/\(O:Q)<=k/\ah (wr.ownsRow (U:Q) 9 1 (ai av O cv) (O:Q) (O.map bs))/\ah (Fr (From (U:Q)) U wr)) (λ_ i _=>(ds:Q)-(az i).toNat);case atStart=>exact⟨0,[],ab,0,by omega,rfl,rfl,by unfold ah virT;simp,by simp,ez _ _ _ _,bf _ _⟩
 case round=>
  obtain⟨k,O,av,cv,hk,rfl,rfl,HO,h5,a8,HF⟩:=hrel;obtain⟨wA,rfl⟩:=ε wr
  have b4:∀ b,b<(U:Q)->¬ From (U:Q) b:=λb h1 h2=>by omega
  have bA:=HF.heap b2.2.2 (b4 _ s0);have cA:wA ⟨w,0,ab⟩=ae (ai a ds y):=zB bA 0;have sA:=HF.size;by_cases g4:k<(ds:Q)
  .have d7:(k:af)<(ds:Q):=by omega
   have TA:Tr wA a7 a y ds:=b2.1.foot HF (λb hb=>b4 b (b1 b hb));have CA:CtO wA ds ct:=cb b2.2.1 HF (λd hd ad e=>b4 _ (b1 _ (.inr ⟨d,hd,ad,e,rfl⟩)));obtain⟨bb,b5,x,a2,b6,d8⟩:=TA.dv.dev g4;have d9:=bg b6;have g5:=b1.out bb (.inl ⟨_,a2,rfl⟩);have HS:=zh (zKK ds ct b6);have o:=zg3 TA CA d8;have a3:=zh d9;have e0:=zh a2;rw[a2]at cA bA;have e1:=zh bA;clear TA CA b6 d9 d8 a2 bA;go_upto_region 5 with(fail)
   clear cA;refine zO No [(0,ak),(1,ak),(2,ak),(3,ak),(4,ak),(5,ak),(6,ak),(7,aj)] (λw1 X=>?_);have t1:∀ g:Gr No w1,g.W ⟨w,0,ab⟩=ae (ai (ae ⟨bb,b5,ab⟩) ds y):=λg=>zB (g.fr.heap (X.heap e1 id) id) 0
   have t2:∀ g:Gr No w1,g.W ⟨bb,b5+k*10,ab⟩=ae (al ao x.index):=λg=>g.fr.cell (X.cell o.2.2.c0 id) id
   have Y:=zHX a y ds x.index w1 (o.1.no X).dv o.1.wf.ok;rw[e0]at Y;have g6:=zh X;clear X;(repeat(first|apply zR rfl rfl rfl|apply zS rfl rfl rfl);intro e8 hK;go_big_quiet_op;go_big_quiet_on);clear t1 t2;apply zu rfl;go_wp2_with fail;apply Y.mono;rintro e w2 ⟨rfl,b7⟩;have F2:=zh (g6.step b7 zi);clear Y;go_wp2_with fail;apply zf b7;clear b7;apply zY;have I:ah (w2.ownsRow (U:Q) 9 1 (ai av O cv) (O:Q) (O.map bs)):=zG a8 F2 (λ_ _=>id);have e2:ah (Fr (From (U:Q)) U w2):=HF.step F2 zn;have s2:=F2.size;cases hvb:virB ds x.index with
   | false=>
    have b8:=zh hvb;go_wp2;go_roundw;case rel=>exact⟨k+1,O,av,cv,by omega,rfl,by go_num,by show O=_;rw[HS.out,b8.out,<-HO.out];simp,by omega,I,e2⟩
    case measure=>simp[az];omega
   | true=>
    have b8:=zh hvb;have e4:=zBI o.1.wf.ok hn x.index;have e5:plc ds x.index=pathOf (origin ds x.index):=(by unfold plc;rw[o.1.wf.ok.lk a3];rfl);rw[e5]at e4;obtain⟨J,b9⟩:=ε (pathOf (origin ds x.index))
    obtain⟨V,d0⟩:=ε (ct x.index)
    have g7:=g3.out x a3;rw[<-d0]at g7;rw[<-b9]at e4;have Z:=zg2 b9 d0;have g8:(J++(⟨#[32]⟩:B)).size=J.size+1:=(by rw[ByteArray.size_append];rfl);have h1:(J++(⟨#[32]⟩:B)).size<=9223372036854775807:=(by omega);have h3:(J++(⟨#[32]⟩:B)++V).size<=9223372036854775807:=(by rw[ByteArray.size_append];omega);have h6:¬ 9223372036854775807<(J++(⟨#[32]⟩:B)).size+V.size:=(by omega);have h7:(J++(⟨#[32]⟩:B)).size+V.size<=9223372036854775807:=(by omega);have h8:¬ 9223372036854775807<J.size+1+V.size:=(by omega);clear g8 e5 b9 d0 hvb;go_upto_region 6 with(fail)
    refine zO (λb=>(bv av O cv).ownBlock=ae b) [(0,ak),(1,ak),(2,ak),(3,ak),(4,ak),(5,ak),(6,ak),(7,ak),(10,ak),(11,ak),(12,ak),(13,ak),(14,ak),(8,aj),(9,ak),(15,aj),(16,ak),(17,aj),(18,aj),(19,ak)] (λw3 a4=>?_);have no:∀ b,b<(U:Q)->¬ (bv av O cv).ownBlock=ae b:=λb h1 h2=>by have:=(zAH I h2).1;omega
    have b3:=a4.heap (F2.heap e1 id) id;have e3:=F2.step a4 zi;have t1:∀ g:Gr (λb=>(bv av O cv).ownBlock=ae b) w3,g.W ⟨w,0,ab⟩=ae (ai (ae ⟨bb,b5,ab⟩) ds y):=λg=>zB (g.fr.heap b3 (no _ s0)) 0
    have tc:∀ (g:Gr (λb=>(bv av O cv).ownBlock=ae b) w3) (i:Q) (u:bm),wA ⟨bb,i,ab⟩=ae u->g.W ⟨bb,i,ab⟩=ae u:=λg i u h=>g.fr.cell (e3.cell h id) (no _ g5)
    have y0:=λg=>tc g _ _ o.2.2.c0
    have y1:=λg=>tc g _ _ o.2.2.c1
    have y2:=λg=>tc g _ _ o.2.2.c2
    have y3:=λg=>tc g _ _ o.2.2.c3
    have y4:=λg=>tc g _ _ o.2.2.c4
    have y5:=λg=>tc g _ _ o.2.2.c5
    have y6:=λg=>tc g _ _ o.2.2.c6
    have y7:=λg=>tc g _ _ o.2.2.c7
    have y8:=λg=>tc g _ _ o.2.2.c8
    have y9:=λg=>tc g _ _ o.2.2.c9
    have z:=zD1 a y ds x.index w3 (o.1.no e3).dv o.1.wf.ok (by omega);rw[e0,<-Z.1]at z;have E3:=zh e3;have F3:=zh a4;clear a4 e3 tc b3;(repeat(first|apply zR rfl rfl rfl|apply zS rfl rfl rfl);intro e8 hK;go_big_quiet_op;go_big_quiet_on);clear t1 y0 y1 y2 y3 y4 y5 y6 y7 y8 y9;apply zu rfl;go_wp2_with fail;apply z.mono;rintro e w4 ⟨rfl,a5⟩;have E4:=zh (E3.step a5 zi);have F4:=zh (F3.step a5 zi);have A:=zD2 x V w4 (by rw[Z.2];exact(o.2.1 x a3).1.no E4 (λ_=>id)) (by rw[Z.2];exact(o.2.1 x a3).2);unfold cd at A;clear z;go_wp2_with fail;apply zm a5;clear a5;(repeat(first|apply zR rfl rfl rfl|apply zS rfl rfl rfl);intro e8 hK;go_big_quiet_op;go_big_quiet_on);apply zu rfl;go_wp2_with fail;apply A.mono;rintro e w5 ⟨rfl,a6⟩;have F5:=zh (F4.step a6 zi);have a9:=zG (zG I F4 (λ_ _=>id)) a6 (λ_ _=>id);have s5:=F5.size;clear A;go_wp2_with fail;apply zm a6;clear a6;(repeat(first|apply zR rfl rfl rfl|apply zS rfl rfl rfl);intro e8 hK;go_big_quiet_op;go_big_quiet_on);have e6:Fr No w5 (w5.alloc (am #[aw (J++(⟨#[32]⟩:B)++V)] 9)):=(bf _ _).alloc _;have e7:=zh e6;apply zu rfl;go_wp2_with fail;apply zm e7;apply zu rfl;go_wp2_with (at_builtin;refine f8 _ rfl _ _ 30 rfl (U:Q) 9 i0 (aw bq) 1 16 ew e9 g0 g1 g2 rfl (by decide) _ _ _ rfl (a9.alloc _) ⟨w5,0,ab⟩ 1 1 [aw (J++(⟨#[32]⟩:B)++V)] rfl rfl (cell_one_new _ _ _) (zB2 [(J++(⟨#[32]⟩:B)++V)]) (by unfold bj;omega) (by omega) (by first|omega|(simp;done)|(simp;omega)) ?_;intro v' w9 F N _;obtain⟨g9,h0,rfl⟩:=zI F)
    have d1:Fr (λb=>(bv av O cv).ownBlock=ae b) (w5.alloc (am #[aw (J++(⟨#[32]⟩:B)++V)] 9)) w9:=cy N;have h4:ah (Fr (From (U:Q)) U w9):=(e2.step (F5.step e7 zi) zn).step d1 (λb hb h=>by have:=(zAH I h).1;omega);have d2:=zh F;apply zf d1;clear e6 F N d1 a9;(repeat(first|apply zR rfl rfl rfl|apply zS rfl rfl rfl);intro e8 hK;go_big_quiet_op;go_big_quiet_on);apply zY;go_wp2;go_roundw;case rel=>exact⟨k+1,O++[J++(⟨#[32]⟩:B)++V],g9,h0,by omega,by simp,by go_num,by show O++_=_;rw[HS.out,b8.out,<-HO.out,Z.1,Z.2];simp,by simp;omega,by rw[ch,dd];exact d2.out,h4⟩
    case measure=>simp[az];omega
  .obtain rfl:k=(ds:Q):=by omega
   have d7:¬ ((ds:Q):af)<(ds:Q):=(by omega);have hO:=HO.out;rw[dg]at hO;subst hO;obtain⟨ra,rc,ee,hR,_⟩:=er a8;cases ee;have HR:=zg2 hR (d6.step HF (λb hb h=>by unfold From at h;have:=d6.size;omega));clear hR;go_wp2;go_ret;exact⟨⟨_,_,rfl,HR.1⟩,HR.2⟩
theorem zM2 (w:ar):be ax 5 #[] w λe w'=>(∃ u v z A y E,y=keysE/\E=expE/\e=.returned (.tuple #[bh #[ai u (bo y) z,al ao 0],ai v (bo E) A])/\Strs w' u z y/\Strs w' v A E/\BlkT w' u 9/\BlkT w' v 9/\(∀ o,u=ae o->(w:Q)<=o.block)/\∀ o,v=ae o->(w:Q)<=o.block)/\Fr No w w':=
 (zO4 w).mono λe w' h=>by
  obtain⟨⟨k,x,rfl,F,I,J,N,O,U⟩,V⟩:=h;exact⟨⟨_,_,_,_,keysE,expE,rfl,rfl,rfl,F,I,J,N,λo e=>by cases e;exact O,λo e=>by cases e;exact U⟩,V⟩
theorem zHk: ∀ x∈keysE,x.size<=maxLen:=λx h=>by
 have o:x.size<=1:=dl (List.all_eq_true.1 (show (keysE.all λx=>decide (x.size<=1))=aj by kernel_rfl) x h);unfold bj;omega
theorem zNi: AllE expE:=λi h=>by rcases h with rfl|rfl<;>kernel_rfl
theorem zKL (h:UOk (ds.map strip) ct b):virT ds ct ds=(VL (ds.map strip) ct).map λx=>x.1++(⟨#[32]⟩:B)++x.2:=by
 unfold virT VL;rw[cm,List.filter_map,cm];have e:(ds.filter λd=>virB ds d.index)=ds.filter ((λd=>!isDk d.orig)∘strip):=dt λd o=>by
  have u:virB (ds.map strip) d.index=!isDk d.orig:=h.vir (d:=strip d) (bd (f:=strip) o);rw[zAM]at u;exact u
 rw[e];refine List.map_congr_left λd o=>?_
 have v:=bd (f:=strip) (List.mem_filter.1 o).1;have y:plc (ds.map strip) d.index=pathOf (origin (ds.map strip) d.index):=by
  unfold plc;rw[show look (ds.map strip) d.index=ae (strip d)from h.wf.ok.lk v];rfl
 show _=plc (ds.map strip) d.index++_++_
 rw[y,zBL];rfl
def sxT : B:=⟨#[116,97,98,108,101,58,116,40,114,97,105,100,58,114,58,49,47,49,47,49,40,102,115,58,120,58,41,41]⟩
def sxR : B:=⟨#[114,97,105,100,58,114,58,49,47,49,47,49,40,102,115,58,120,58,41]⟩
def sxX : B:=⟨#[102,115,58,120,58]⟩
def sxA : B:=⟨#[115,100,97]⟩
def sxB : B:=⟨#[115,100,97,112,49]⟩
def sxPA : B:=⟨#[47,115,100,97]⟩
def sxPB : B:=⟨#[47,115,100,97,47,115,100,97,112,49]⟩
def sxI : B:=⟨#[114]⟩
def sxM : B:=⟨#[109,100,45,114]⟩
def sxCR : Ct:=.mk 2 sxI () 1 1 1 [.mk 1 ⟨#[120]⟩ () 0 0 0 []]
def sxCT : Ct:=.mk 5 ⟨#[116]⟩ () 0 0 0 [sxCR]
theorem zNt: Lib.itoa 1=[49]:=by kernel_rfl
theorem sxPR: parseC sxR=ae sxCR:=(zBJ _ _).2 ⟨by decide,by decide,by rw[sxCR,zJU];simp[zKQ,commas,sxR,sxI,zNt];rfl⟩
theorem sxPT: parseC sxT=ae sxCT:=(zBJ _ _).2 ⟨by decide,by decide,by rw[sxCT,zKP];simp[sxCR,zJU,zKQ,commas,sxT,sxI,zNt];rfl⟩
theorem sx_x: sxCR.inner.map Ct.txt=[sxX]:=by simp[sxCR,Ct.inner,txt1,sxX];rfl
theorem zQV: sxCR.txt=sxR:=zDR (by rw[zCI];exact((zBJ _ _).1 sxPR).2.2)
theorem sx_r: sxCT.inner.map Ct.txt=[sxR]:=by simp[sxCT,Ct.inner,zQV]
def sxV (r:af):Vir:=⟨sxPA,sxB,sxR,r⟩
def sxW (r:af):Vir:=⟨(),sxM,sxX,r⟩
theorem zDa {L:ag Mem}(h:L.map Mem.k=[]):L=[]:=by simpa using h
theorem zIp {u:Mem->Bool}{o:ag B}(h:IsIds2 (zr u []) o):o=[]:=by
 cases o with
 | nil=>rfl
 | cons x t=>
  obtain⟨s,v⟩:=(h.mem x).1 (by simp);cases v
theorem zLQ {o:ag B}(h:IsIds [] o):o=[]:=by
 cases o with
 | nil=>rfl
 | cons x t=>exact bc ((h.mem x).1 (by simp)) (by simp[best])
section
variable {ds:ag Dev}{tx:Dev->B}{E K:ag B}{r:af}{S:ag Src}{M M3:ag Vir}{G G2:ag (B×B)}
theorem zO1 (h:MidR ds tx E K r S M G M3 G2)(A:S.filterMap (λs=>ofK 2 mk2 s.o s.r (tx s.d))=[])(F:S.filterMap (λs=>ofK 3 mk3 s.o s.r (tx s.d))=[]):M3=wantS tx S M r (S:Q)/\G2=G:=by
 obtain⟨X,u,I,Y,Z,v,y,J,N,O,z,U,V⟩:=h;rw[A]at y;obtain rfl:=zDa y;obtain rfl:=zIp J;obtain rfl:I=[]:=by simpa using N
 rw[F]at z;obtain rfl:=zDa z;obtain rfl:=zLQ U;injection O with b1 b2
 exact⟨by rw[V,b1];rfl,b2⟩
theorem zIZ {u:ag Vir}{v:ag (B×B)}(h:NextR ds tx E K C r S M G A u v)(F:S.filterMap (λs=>ofK 4 mk4 s.o s.r (tx s.d))=[]):MidR ds tx E K r S M G u v:=by
 obtain⟨⟨V,X,Y,y,I,J,z,N,O,U⟩,-⟩:=h;rw[F]at z;obtain rfl:=zDa z;obtain rfl:=zIp N;obtain rfl:I=[]:=by simpa using O
 injection U with b1 b2
 rw[b1,b2];exact J
theorem zMi {L:ag Mem}{O:ag ArrM}(Z:p.toList.isEmpty=ak)(I:L.map Mem.k=[mk2 p rd sxCR])(N:IsIds2 (zr soundA L) u)(v:O.map ArrM.toArr=u.map (buildA (zr soundA L))):
  ∃ o,O=[o]/\o.i=sxI/\o.t=1/\o.e=1/\o.n=1/\o.l=[sxX]:=by
 obtain⟨m,rfl⟩:∃ m,L=[m]:=by
  cases L with
  | nil=>simp at I
  | cons m t=>cases t with
   | nil=>exact⟨m,rfl⟩
   | cons m' t=>simp at I
 have y:m.k=mk2 p rd sxCR:=by simpa using I
 have U:m.p=p:=au Mem.p y;have k2:m.i=sxI:=au Mem.i y;have V:m.s=1:=au Mem.s y;have X:m.t=1:=au Mem.t y;have k5:m.e=1:=au Mem.e y;have Y:m.l=[sxX]:=(au Mem.l y).trans sx_x;have hs:soundA m=true:=by
  unfold soundA soundB;rw[U,V,X,Y,Z];decide
 have hb:zr soundA [m]=λx=>if x=(sxI,1)then ae m else none:=by
  show zAs soundA (λ_=>ab) m=_
  rw[zCT hs (λo h=>by cases h),k2,V]
 rw[hb]at N v;have z:u=[sxI]:=N.unique ⟨by unfold AscS;decide,λx=>⟨λh=>by
  obtain rfl:x=sxI:=by simpa using h
  exact⟨1,by rw[ay rfl];rfl⟩,λ⟨s,h⟩=>by
  split at h
  .rename_i e;simp at e;simp[e.1]
  .cases h⟩⟩
 rw[z]at v;have F:(λx:B×af=>if x=(sxI,1)then ae m else ab) (sxI,1)=ae m:=ay rfl;obtain⟨b,J⟩:∃ b:B×af->ap Mem,b=λx=>if x=(sxI,1)then ae m else none:=⟨_,rfl⟩
 rw[<-J]at v F;have hl:zAY b sxI=1:=by unfold zAY;simp[em,F]
 have hf:zAJ b sxI=m:=by unfold zAJ;rw[hl,F];rfl
 have hB:buildA b sxI=⟨sxI,[p],1,1,1,[sxX]⟩:=by
  unfold buildA;rw[hf,X,k5,Y];simp[pathAt,F,U,em]
 simp only[cl,de,hB]at v;cases O with
 | nil=>simp at v
 | cons o t=>
  cases t with
  | cons o' t=>simp at v
  | nil=>
   have A:o.toArr=⟨sxI,[p],1,1,1,[sxX]⟩:=(by simpa using v);exact⟨o,rfl,au Arr.i A,au Arr.t A,au Arr.e A,au Arr.n A,au Arr.l A⟩
theorem zLD (U:p.toList.isEmpty=ak)(h:MidR ds tx E K r S M G M3 G2)(V:S.filterMap (λs=>ofK 2 mk2 s.o s.r (tx s.d))=[mk2 p rd sxCR])(X:S.filterMap (λs=>ofK 3 mk3 s.o s.r (tx s.d))=[]):
  (M3,G2)=(if (G.any λy=>decide (y=(mdK,sxI)))=aj then (wantS tx S M r (S:Q),G++[(mdK,sxI)])else (zAG (wantS tx S M r (S:Q)) (sxW r),G++[(mdK,sxI)])):=by
 obtain⟨L2,z,O2,Y,L3,A,F,Z,o2,u,I,i3,a3⟩:=h;rw[V]at F;obtain⟨o,rfl,J,q2,q3,q4,q5⟩:=zMi U F Z o2;rw[X]at I;obtain rfl:=zDa I;obtain rfl:=zLQ i3;have hv:mdOf o.i o.l r=sxW r:=by rw[J,q5];rfl
 have ha:arrAll ds E r (wantS tx S M r (S:Q),G) [o] [o].length=zAW ds E r (wantS tx S M r (S:Q),G) o:=rfl;rw[ha]at u;unfold zAW at u;have v:∀ N O,mustB o.t o.e o.n N O=true:=λN O=>by rw[q2,q3,q4];unfold mustB;simp
 rw[ay (v _ _),hv,J]at u;have:M3=Y:=by rw[a3];rfl
 rw[this];exact u
end
structure SxD (d0:Dev)(tx:Dev->B):Prop where
 h0:d0.orig=sxA
 hk:d0.kind=2
 ht:tx d0=sxT
 hp:d0.parent=0
 hi:d0.index=1
structure SxP (d1:Dev)(tx:Dev->B):Prop where
 g0:d1.orig=sxB
 gt:tx d1=sxR
 gp:d1.parent=1
 gi:d1.index=2
theorem zPr (D:SxD h tx)(r:af):pwL sxPA h (tx h) r=[sxV r]:=by
 have ⟨u,v,y,A,F⟩:=D;unfold pwL;rw[y,sxPT];show (if sxCT.kind=5/\h.kind=2 then pwF sxPA h.orig r (sxCT.inner.map Ct.txt) (sxCT.inner:Q) else [])=_
 rw[ay ⟨rfl,v⟩,sx_r,u];have:(sxCT.inner:Q)=0+1:=rfl;rw[this,zFe];have o:partOk sxA 1=true:=by kernel_rfl
 have z:partT sxA 1=sxB:=by kernel_rfl
 simp[pwF,zAl,o,z,sxV]
theorem zQW {v:Dev}(D:SxD v tx){k:af}(u:k≠5)(y:B->af->Ct->Mem)(p:B)(rd:af):ofK k y p rd (tx v)=none:=by
 have ⟨A,F,z,I,J⟩:=D;refine zIX (λc o=>?_);rw[z,sxPT]at o;injection o with o
 subst o;exact λh=>u h.symm
theorem sx_f {v:Dev}(D:SxD v tx){k:af}(h:k≠5)(u:B->af->Ct->Mem)(y:af)(p:B)(rd:af)(t:ag Src):(⟨y,v,p,rd⟩::t:ag Src).filterMap (λs=>ofK k u s.o s.r (tx s.d))=t.filterMap (λs=>ofK k u s.o s.r (tx s.d)):=by
 have ⟨z,A,F,I,J⟩:=D;rw[dc,zQW D h u p rd]
theorem zOW (D:SxD h tx)(M:ag Vir)(r:af):wantS tx [⟨0,h,sxPA,0⟩] M r [(⟨0,h,sxPA,0⟩:Src)].length=zAG M (sxV r):=by
 have ⟨o,u,v,y,z⟩:=D;show zv M (pwL sxPA h (tx h) r)=_
 rw[zPr D];rfl
theorem zIB {u:Dev}(D:SxD u tx){v:ag Vir}{y z:ag (B×B)}(h:NextR ds tx [] [] C r [⟨0,u,sxPA,0⟩] M y A v z):v=zAG M (sxV r)/\z=y:=by
 have ⟨N,O,U,V,X⟩:=D;have F:[(⟨0,u,sxPA,0⟩:Src)].filterMap (λs=>ofK 4 mk4 s.o s.r (tx s.d))=[]:=by rw[sx_f D (by decide)];rfl
 obtain⟨I,J⟩:=zO1 (zIZ h F) (by rw[sx_f D (by decide)];rfl) (by rw[sx_f D (by decide)];rfl);exact⟨by rw[I,zOW D],J⟩
theorem zQX: inW [sxV 1] sxPA sxB=true:=by unfold inW sxV;simp
theorem zNr: zAG [] (sxV 1)=[sxV 1]:=by unfold zAG inW;simp
theorem zNq (r:af):zAG [sxV 1] (sxV r)=[sxV 1]:=by unfold zAG;rw[ay];exact zQX
theorem zMQ (r:af):zAG [sxV 1,sxW 2] (sxV r)=[sxV 1,sxW 2]:=by unfold zAG;rw[ay];unfold inW sxV;simp
theorem zOZ: zAG [sxV 1] (sxW 2)=[sxV 1,sxW 2]:=by
 unfold zAG;rw[ba];·rfl
 .unfold inW sxV sxW;simp[sxPA]
theorem zKU {a b:Src}{l:ag Src}(h:l.Perm [a,b])(A:l.Pairwise λx y=>x.at_<=y.at_)(F:a.at_<b.at_):l=[a,b]:=by
 have I:=h.length_eq
 match l,I with
 | [x,y],_=>
  have u:x∈[a,b]:=h.mem_iff.1 (by simp);have o:y∈[a,b]:=h.mem_iff.1 (by simp);have v:a∈[x,y]:=h.mem_iff.2 (by simp);have z:b∈[x,y]:=h.mem_iff.2 (by simp);have J:x.at_<=y.at_:=by simpa using A
  simp at u o v z;rcases u with rfl|rfl
  .rcases o with rfl|rfl
   .rcases z with rfl|rfl<;>omega
   .rfl
  .rcases o with rfl|rfl
   .omega
   .rcases v with rfl|rfl<;>omega
theorem zOY (h:M.find? (λv=>decide ((v.q,v.o)=(plc ds s.d.parent,s.d.orig)))=ab):againB ds tx M r s=false:=by
 unfold againB;rw[h]
theorem zNs (D:SxD h tx)(ds:ag Dev)(u:∀ d∈ds,d.index≠0)(M:ag Vir)(y:∀ v∈M,v.o≠sxA)(r:af)(z:af)(p:B)(rd:af):againB ds tx M r ⟨z,h,p,rd⟩=false:=by
 have ⟨A,I,J,N,O⟩:=D;apply zOY;rw[dx];intro v F;have:=y v F;rw[A];simp;exact λ_=>this
theorem zOa {o:Dev}(D:SxD o tx){F:ag Src}{u:ag Vir}{I:ag (B×B)}(J:M=[]/\r=1\/M=[sxV 1])(h:NextR [o] tx [] [] [⟨0,o,sxPA,0⟩] r [⟨0,o,sxPA,0⟩] M [] F u I):F=[⟨0,o,sxPA,0⟩]/\u=[sxV 1]/\I=[]:=by
 have ⟨U,V,X,Y,N⟩:=D;obtain⟨v,O⟩:=zIB D h;have y:u=[sxV 1]:=by
  rcases J with⟨rfl,rfl⟩|rfl
  .rw[v,zNr]
  .rw[v,zNq]
 refine⟨?_,y,O⟩;have z:=h.2.1;have A:=zNs D [o] (by simp[N]) u (by rw[y];unfold sxV sxB sxA;simp) r 0 sxPA 0;have:moreS [o] tx u r [⟨0,o,sxPA,0⟩] [(⟨0,o,sxPA,0⟩:Src)].length=[]:=by
  unfold moreS;simp[A]
 rw[this,dr]at z;exact List.perm_singleton.1 z
theorem zOX {o:Dev}(D:SxD h tx)(P:SxP o tx):plc [h,o] o.parent=sxPA:=by
 have ⟨z,J,N,A,v⟩:=D;have ⟨O,U,F,I⟩:=P;have y:look [h,o] 1=ae h:=by unfold look;simp[v]
 have u:look [h,o] 0=none:=zx.2 (by simp[v,I]);unfold plc origin chain;rw[F,y];show pathOf ((chainK [h,o] (1+1) 1).map Dev.orig).reverse=sxPA
 unfold chainK;rw[y];show pathOf ((h::chainK [h,o] (0+1) h.parent).map Dev.orig).reverse=sxPA
 unfold chainK;rw[A,u];show pathOf [h.orig]=sxPA
 rw[z];kernel_rfl
theorem zMS {u:Dev}(D:SxD u tx)(P:SxP h tx)(M:ag Vir)(r:af):againB [u,h] tx (sxV 1::M) r ⟨1,h,sxPB,0⟩=(1==r):=by
 have ⟨A,F,I,J,N⟩:=D;have ⟨y,z,O,U⟩:=P;have e:plc [u,h] (Src.d ⟨1,h,sxPB,0⟩).parent=sxPA:=zOX D P;unfold againB;have:(sxV 1::M).find? (λv=>decide ((v.q,v.o)=(plc [u,h] (Src.d ⟨1,h,sxPB,0⟩).parent,(Src.d ⟨1,h,sxPB,0⟩).orig)))=ae (sxV 1):=by
  rw[List.find?_cons_of_pos];rw[e];show decide ((sxPA,sxB)=(sxPA,h.orig))=aj
  rw[y];simp
 rw[this];show ((1==r)&&(sxR.toList==(tx h).toList))=_
 rw[z];simp
theorem zKV {y u:Dev}(D:SxD y tx)(P:SxP u tx)(F:∀ v∈M,v.o≠sxA):moreS [y,u] tx (sxV 1::M) r [⟨0,y,sxPA,0⟩,⟨1,u,sxPB,0⟩] [(⟨0,y,sxPA,0⟩:Src),⟨1,u,sxPB,0⟩].length=if r=1 then [⟨1,u,sxPB,r⟩]else []:=by
 have ⟨O,U,V,X,I⟩:=D;have ⟨Y,Z,gp,J⟩:=P;have N:=zNs D [y,u] (by simp[I,J]) (sxV 1::M) (by
  intro v z;rcases List.mem_cons.1 z with rfl|z
  .show sxB≠sxA
   decide
  .exact F v z) r 0 sxPA 0
 have a1:=zMS D P M r;unfold moreS;show (([(⟨0,y,sxPA,0⟩:Src),⟨1,u,sxPB,0⟩]).filter _).map _=_
 rw[du (by rw[N];simp)];by_cases A:r=1
 .subst A;rw[List.filter_cons_of_pos (by rw[a1];rfl),ay rfl];rfl
 .rw[du (by rw[a1];simpa using λh=>A h.symm),ba A];rfl
theorem zMR {u y:Dev}(D:SxD u tx)(P:SxP y tx){z:ag Src}{A:ag Vir}{F:ag (B×B)}(h:NextR [u,y] tx [] [] [⟨0,u,sxPA,0⟩,⟨1,y,sxPB,0⟩] 1 [⟨0,u,sxPA,0⟩] [] [] z A F):z=[⟨0,u,sxPA,0⟩,⟨1,y,sxPB,1⟩]/\A=[sxV 1]/\F=[]:=by
 have ⟨J,N,O,U,V⟩:=D;have ⟨X,Y,Z,gi⟩:=P;obtain⟨o,I⟩:=zIB D h;rw[zNr]at o;refine⟨?_,o,I⟩;have v:=h.2.1;rw[o,zKV D P (by simp),ay rfl]at v;exact zKU v h.2.2 (by show (0:af)<1;omega)
theorem zIC {F A:Dev}(D:SxD F tx)(P:SxP A tx){S':ag Src}{Z:ag Vir}{O G':ag (B×B)}(hr:(r=2/\M=[sxV 1]/\O=[])\/(3<=r/\M=[sxV 1,sxW 2]/\(O.any λy=>decide (y=(mdK,sxI)))=aj))(h:NextR [F,A] tx [] [] [⟨0,F,sxPA,0⟩,⟨1,A,sxPB,0⟩] r [⟨0,F,sxPA,0⟩,⟨1,A,sxPB,1⟩] M O S' Z G'):
  S'=[⟨0,F,sxPA,0⟩,⟨1,A,sxPB,1⟩]/\Z=[sxV 1,sxW 2]/\G'=O++[(mdK,sxI)]:=by
 have ⟨h0,hk,ht,hp,hi⟩:=D;have ⟨g0,gt,gp,gi⟩:=P;have I:∀ (k:af) (J:B->af->Ct->Mem),[(⟨0,F,sxPA,0⟩:Src),⟨1,A,sxPB,1⟩].filterMap (λs=>ofK k J s.o s.r (tx s.d))=if k=2 then [J sxPB 1 sxCR]else if k=5 then [J sxPA 0 sxCT]else []:=by
  intro k J;have e0:ofK k J sxPA 0 (tx F)=if k=5 then ae (J sxPA 0 sxCT)else none:=by
   unfold ofK;rw[ht,sxPT];show (if (5:af)=k then ae (J sxPA 0 sxCT)else ab)=_
   by_cases u:k=5;·rw[ay u.symm,ay u]
   .rw[ba (λh=>u h.symm),ba u]
  have e1:ofK k J sxPB 1 (tx A)=if k=2 then ae (J sxPB 1 sxCR)else none:=by
   unfold ofK;rw[gt,sxPR];show (if (2:af)=k then ae (J sxPB 1 sxCR)else ab)=_
   by_cases u:k=2;·rw[ay u.symm,ay u]
   .rw[ba (λh=>u h.symm),ba u]
  rw[dc,e0,dc,e1];by_cases U:k=2;·subst U;rfl
  .by_cases u:k=5;·subst u;rfl
   .simp[U,u]
 have V:=zIZ h (by rw[I];rfl);have z:=zLD (p:=sxPB) (rd:=1) (by simp[ByteArray.toList_eq,sxPB]) V (by rw[I];rfl) (by rw[I];rfl);have hw:wantS tx [(⟨0,F,sxPA,0⟩:Src),⟨1,A,sxPB,1⟩] M r [(⟨0,F,sxPA,0⟩:Src),⟨1,A,sxPB,1⟩].length=zAG M (sxV r):=by
  show zv (zv M (pwL sxPA F (tx F) r)) (pwL sxPB A (tx A) r)=_
  rw[zPr D,zNv (s:=tx A) (λc Y=>by
   rw[gt,sxPR]at Y;injection Y with Y
   subst Y;decide)]
  rfl
 rw[hw]at z;have N:Z=[sxV 1,sxW 2]/\G'=O++[(mdK,sxI)]:=by
  rcases hr with⟨rfl,rfl,rfl⟩|⟨-,rfl,hg⟩
  .rw[ba (by simp),zNq,zOZ]at z;injection z with b1 b2
   exact⟨b1,b2⟩
  .rw[ay hg,zMQ]at z;injection z with b1 b2
   exact⟨b1,b2⟩
 refine⟨?_,N.1,N.2⟩;have X:=h.2.1;have a2:r≠1:=by rcases hr with⟨h,_⟩|⟨h,_⟩<;>omega
 rw[N.1,zKV D P (by intro v hv;simp at hv;subst hv;show sxM≠sxA;decide),ba a2,dr]at X;exact zKU X h.2.2 (by show (0:af)<1;omega)
def D0 (aa:ap aq)(an ac:Q):Dev:=⟨1,0,sxA,sxA,zV,(),(),2,1,aa,an,ac⟩
def D1 (aa:ap aq)(an ac:Q):Dev:=⟨2,1,sxB,sxB,zV,(),(),2,1048576,aa,an,ac⟩
def sxL0 : Rec:={ cp with path:=sxPA,index:=1 }
def sxL1 : Rec:={ cp with path:=sxPB,index:=2 }
def ct1 : af->B:=updC (λ_=>()) 1 sxT
def ct2 : af->B:=updC ct1 2 sxR
section
variable (a0 a1:ap aq)(n0 c0 n1 c1:Q)
theorem vir0: virB [D0 a0 n0 c0] 1=false:=by kernel_rfl
theorem zQU: virB [D0 a0 n0 c0,D1 a1 n1 c1] 1=false:=by kernel_rfl
theorem vir1: virB [D0 a0 n0 c0,D1 a1 n1 c1] 2=true:=by kernel_rfl
theorem zQa: plc [D0 a0 n0 c0] 1=sxPA:=by kernel_rfl
theorem zQZ: plc [D0 a0 n0 c0,D1 a1 n1 c1] 1=sxPA:=by kernel_rfl
theorem zQY: plc [D0 a0 n0 c0,D1 a1 n1 c1] 2=sxPB:=by kernel_rfl
theorem zPV: cntL [D0 a0 n0 c0] [sxL0] 0 [D0 a0 n0 c0]=[⟨0,D0 a0 n0 c0,sxPA,0⟩]:=by
 have h:cntB [D0 a0 n0 c0] [sxL0] 1=true:=by kernel_rfl
 have e:=zBu [D0 a0 n0 c0] [sxL0] [] 0 (D0 a0 n0 c0);rw[show (D0 a0 n0 c0).index=1 from rfl,h,zQa]at e;exact e
theorem zPU: cntL [D0 a0 n0 c0,D1 a1 n1 c1] [sxL0,sxL1] 0 [D0 a0 n0 c0,D1 a1 n1 c1]=[⟨0,D0 a0 n0 c0,sxPA,0⟩,⟨1,D1 a1 n1 c1,sxPB,0⟩]:=by
 have u:cntB [D0 a0 n0 c0,D1 a1 n1 c1] [sxL0,sxL1] 1=true:=by kernel_rfl
 have v:cntB [D0 a0 n0 c0,D1 a1 n1 c1] [sxL0,sxL1] 2=true:=by kernel_rfl
 have o:=zBu [D0 a0 n0 c0,D1 a1 n1 c1] [sxL0,sxL1] [] 0 (D0 a0 n0 c0);rw[show (D0 a0 n0 c0).index=1 from rfl,u,zQZ]at o;have h:=zBu [D0 a0 n0 c0,D1 a1 n1 c1] [sxL0,sxL1] [D0 a0 n0 c0] 0 (D1 a1 n1 c1);rw[show (D1 a1 n1 c1).index=2 from rfl,v,zQY]at h;have y:([D0 a0 n0 c0]:ag Dev)=[]++[D0 a0 n0 c0]:=rfl;rw[y,o]at h;exact h
theorem src0: (cntL [D0 a0 n0 c0] [sxL0] 0 [D0 a0 n0 c0]).filter (λs=>!virB [D0 a0 n0 c0] s.d.index)=[⟨0,D0 a0 n0 c0,sxPA,0⟩]:=by
 rw[zPV];have h:virB [D0 a0 n0 c0] (D0 a0 n0 c0).index=false:=vir0 a0 n0 c0;simp[h]
theorem src1: (cntL [D0 a0 n0 c0,D1 a1 n1 c1] [sxL0,sxL1] 0 [D0 a0 n0 c0,D1 a1 n1 c1]).filter (λs=>!virB [D0 a0 n0 c0,D1 a1 n1 c1] s.d.index)=[⟨0,D0 a0 n0 c0,sxPA,0⟩]:=by
 rw[zPU];have h:virB [D0 a0 n0 c0,D1 a1 n1 c1] (D0 a0 n0 c0).index=false:=zQU a0 a1 n0 c0 n1 c1;have o:virB [D0 a0 n0 c0,D1 a1 n1 c1] (D1 a1 n1 c1).index=true:=vir1 a0 a1 n0 c0 n1 c1;simp[h,o]
end
def sxI0 (d:Dev)(r:af)(S:ag Src)(M:ag Vir)(G:ag (B×B)):Prop:=
 S=[⟨0,d,sxPA,0⟩]/\G=[]/\((r=1/\M=[])\/M=[sxV 1])
def sxI1 (d e:Dev)(r:af)(S:ag Src)(M:ag Vir)(G:ag (B×B)):Prop:=
 (r=1/\S=[⟨0,d,sxPA,0⟩]/\M=[]/\G=[])\/
 (r=2/\S=[⟨0,d,sxPA,0⟩,⟨1,e,sxPB,1⟩]/\M=[sxV 1]/\G=[])\/
 (r=3/\S=[⟨0,d,sxPA,0⟩,⟨1,e,sxPB,1⟩]/\M=[sxV 1,sxW 2]/\G=[(mdK,sxI)])
section
variable {d e:Dev}{tx:Dev->B}{r:af}{S S':ag Src}{M M':ag Vir}{G G':ag (B×B)}
theorem zGU (D:SxD d tx)(h:sxI0 d r S M G)(o:NextR [d] tx [] [] [⟨0,d,sxPA,0⟩] r S M G S' M' G'):S'=[⟨0,d,sxPA,0⟩]/\M'=[sxV 1]/\G'=[]:=by
 obtain⟨rfl,rfl,u⟩:=h;exact zOa D (u.imp (λh=>⟨h.2,h.1⟩) id) o
theorem zGT (D:SxD d tx)(P:SxP e tx)(h:sxI1 d e r S M G)(y:NextR [d,e] tx [] [] [⟨0,d,sxPA,0⟩,⟨1,e,sxPB,0⟩] r S M G S' M' G'):((M:Q)<(M':Q)->sxI1 d e (r+1) S' M' G')/\(¬ (M:Q)<(M':Q)->M'=[sxV 1,sxW 2]):=by
 rcases h with⟨rfl,rfl,rfl,rfl⟩|⟨rfl,rfl,rfl,rfl⟩|⟨rfl,rfl,rfl,rfl⟩
 .obtain⟨u,o,v⟩:=zMR D P y;exact⟨λ_=>.inr (.inl ⟨rfl,u,o,v⟩),λh=>bc (by rw[o];simp) h⟩
 .obtain⟨u,o,v⟩:=zIC D P (.inl ⟨rfl,rfl,rfl⟩) y;exact⟨λ_=>.inr (.inr ⟨rfl,u,o,v⟩),λ_=>o⟩
 .obtain⟨u,o,v⟩:=zIC D P (.inr ⟨by omega,rfl,by simp⟩) y;exact⟨λh=>bc h (by rw[o];simp),λ_=>o⟩
theorem zMY (h:s∈[(⟨0,d,sxPA,0⟩:Src),⟨1,e,sxPB,1⟩]):(s.d=d\/s.d=e)/\s.o.size<=1000000:=by
 rcases List.mem_cons.1 h with rfl|h
 .exact⟨.inl rfl,by show sxPA.size<=_;decide⟩
 .obtain rfl:s=⟨1,e,sxPB,1⟩:=by simpa using h
  exact⟨.inr rfl,by show sxPB.size<=_;decide⟩
theorem zOc (h:sxI0 d r S M G):SmR [d] r S M G:=by
 obtain⟨rfl,rfl,o⟩:=h;refine⟨λs u=>?_,by simp,?_,by simp⟩
 .obtain rfl:s=⟨0,d,sxPA,0⟩:=by simpa using u
  exact⟨by simp,by show sxPA.size<=_;decide⟩
 .rcases o with⟨_,rfl⟩|rfl<;>simp
theorem zOb (h:sxI1 d e r S M G):SmR [d,e] r S M G:=by
 rcases h with⟨rfl,rfl,rfl,rfl⟩|⟨rfl,rfl,rfl,rfl⟩|⟨rfl,rfl,rfl,rfl⟩
 all_goals
  refine⟨λs o=>?_,by simp,by simp,by simp⟩;have h:=zMY (d:=d) (e:=e) (s:=s) (by first|exact o|(simp at o;simp[o]));exact⟨by simpa using h.1,h.2⟩
end
theorem zDr {x:Dev}(h:strip x=strip d):x={ d with aa:=x.aa,an:=x.an,ac:=x.ac }:=by
 obtain⟨z,A,F,I,J,N,O,U,V,X,o,u⟩:=x;obtain⟨Y,Z,d2,d3,d4,d5,d6,d7,d8,d9,v,y⟩:=d;simp only[strip,Dev.mk.injEq]at h ⊢;simp[h]
theorem zID (h:ds.map strip=[strip d]):∃ aa an ac,ds=[{ d with aa:=aa,an:=an,ac:=ac }]:=by
 have o:=au bo h;rw[bp]at o
 match ds,o with
 | [x],_=>
  simp only[cl,de]at h;injection h with h _
  exact⟨_,_,_,by rw[<-zDr h]⟩
theorem zMV {e:Dev}(h:ds.map strip=[strip d,strip e]):∃ aa an ac u v z,ds=[{ d with aa:=aa,an:=an,ac:=ac },{ e with aa:=u,an:=v,ac:=z }]:=by
 have o:=au bo h;rw[bp]at o
 match ds,o with
 | [x,y],_=>
  simp only[cl,de]at h;injection h with h1 h2
  injection h2 with h2 _
  exact⟨_,_,_,_,_,_,by rw[<-zDr h1,<-zDr h2]⟩
theorem zFT: InU sxT:=.inr (.inr ⟨taC ⟨#[116]⟩ [rX1],bg (i:=29) rfl,zAD.1 (by kernel_rfl)⟩)
theorem zHN: InU sxR:=.inr (.inr ⟨rX1,bg (i:=28) rfl,zAD.1 (by kernel_rfl)⟩)
theorem zGS: NoTab sxR:=λc h=>by rw[sxPR]at h;cases h;decide
theorem zFU: sxA∈rootN:=bg (i:=10) rfl
theorem zKX: sxB∈parN sxA:=bg (i:=0) (by kernel_rfl)
theorem zKW: sxPA=pathOf [sxA]:=zAD.1 (by kernel_rfl)
theorem zNp (w:ar):∀ r∈[sxL0,sxL1],RecOk w r:=λr h=>by
 rcases List.mem_cons.1 h with rfl|h
 .exact⟨Atts.nil w,bi w⟩
 .obtain rfl:r=sxL1:=by simpa using h
  exact⟨Atts.nil w,bi w⟩
theorem zPq (o:ap aq)(u y:Q):MustOk [D0 o u y] [sxV 1]:=by
 refine⟨λv z=>?_,by unfold DistP;simp,λv z _=>?_⟩
 .obtain rfl:v=sxV 1:=by simpa using z
  exact⟨zHN,.inr ⟨sxA,zFU,zKW,zKX,zGS⟩,by kernel_rfl⟩
 .obtain rfl:v=sxV 1:=by simpa using z
  refine⟨D0 o u y,by simp,rfl,zKW,λh=>?_⟩;rw[show (D0 o u y).index=1 from rfl,vir0]at h;cases h
def sxQ (j:Q)(L:ag Dev)(ops:ag OpA):Prop:=(j=0->L=[D0 ab 0 0]/\ops=[])/\(j=1->∃ aa,ops=[⟨1,sxPA,opG sxB 1048576 sxR aa,(),(),sxR⟩])
theorem zMT (o:ap aq)(u v:Q)(ct:af->B):sxQ 0 (remF [sxV 1] [D0 o u v] (revR [D0 o u v])).1 (setF [sxV 1] (remF [sxV 1] [D0 o u v] (revR [D0 o u v])).1 ct (remF [sxV 1] [D0 o u v] (revR [D0 o u v])).2 (remF [sxV 1] [D0 o u v] (revR [D0 o u v])).1.length).2:=by
 have h:=zGh (M:=[sxV 1]) (ds:=[D0 o u v]) (λd y h=>by
  obtain rfl:d=D0 o u v:=by simpa using y
  rw[show (D0 o u v).index=1 from rfl,vir0]at h;cases h) (pre:=revR [D0 o u v]) (λx A=>zB4 A)
 rw[h];have F:=zGc (M:=[sxV 1]) (L:=[D0 o u v].map strip) (ct:=ct) (λd y h=>by
  obtain rfl:d=D0 ab 0 0:=by simpa [strip,D0]using y
  have z:virB [D0 ab 0 0] 1=true:=h;rw[vir0]at z;cases z) [] ([D0 o u v].map strip).length
 dsimp only;rw[F];exact⟨λ_=>⟨rfl,rfl⟩,λh=>by cases h⟩
theorem zMU {v:Vir}{y:ag OpA}{J:ag Dev}{A:af->B}{u:ag OpA}(N:[sxV 1][j]?=ae v)(h:sxQ j L y)(U:zBx L ct y v J A u):sxQ (j+1) J u:=by
 have F:j=0:=by have:=(List.getElem?_eq_some_iff.1 N).1;simp at this;exact this
 subst F;obtain rfl:sxV 1=v:=by simpa using N
 obtain⟨rfl,rfl⟩:=h.1 rfl;refine⟨(λh=>by cases h),λ_=>?_⟩;have I:[D0 ab 0 0].find? (atP [D0 ab 0 0] ((sxV 1).q++(⟨#[47]⟩:B)++(sxV 1).o))=none:=by kernel_rfl
 rcases U with⟨⟨Z,z⟩,_⟩|⟨_,k,V,p,X,hu,hp,_,_,rfl⟩
 .rw[I]at z;cases z
 .obtain rfl:k=0:=by
   cases k with
   | zero=>rfl
   | succ k=>
    have O:=X.2 0 (by omega);have Y:usedF [D0 ab 0 0] (1048576+((0:Q):af))=false:=(by kernel_rfl);rw[Y]at O;cases O
  exact⟨V,rfl⟩
theorem zO7 (w:ar)(hE:Env w):be ax 17 #[] w λe w'=>e=.returned (.bool aj)/\Fr No w w':=by
 have h9:=hE.sz;have HE:=zh hE;clear hE;go_enter Tryz.func17,Tryz.ntmps17;go_wp2_with fail;apply (zO9 w).mono;rintro e w1 ⟨rfl,Z⟩;have e3:ah (KA w1 (w:Q) ((w:Q)+1) [] (λ_=>()) 0 0):=⟨ab,0,[],ab,0,0,by rw[Z];exact db w _,rfl,(λd hd=>by simp at hd),by omega⟩
 have k4:ah (Fr No w w1):=by unfold ah;rw[Z];exact(bf _ _).alloc _
 have s1:(w1:Q)=(w:Q)+1:=by rw[Z];simp
 obtain⟨o,d3⟩:=ε (w:Q)
 rw[<-d3]at e3 ⊢;have h8:8<o:=by omega
 have p0:o+1<=(w1:Q):=by omega
 have k5:=zh d3;clear Z d3 s1;have e4:=zFw sxA sxT 1 w1 zFT;go_wp2_with fail;apply e4.mono;rintro e w2 ⟨⟨aa,ac,rfl,e5,_⟩,a2⟩;have e6:=zh (k4.step a2 zi);have s2:=a2.size;have A:=zLK o (o+1) 0 [] (λ_=>()) 0 0 () () () sxT ⟨0,0,(),sxA,zV,(),(),2,1,aa,(cAtt sxT).length,ac⟩ w2 (e3.no (by omega) a2) (dj _ _) (HE.no e6.out) h8 (by omega) (by omega) (by omega) e5 rfl ⟨rfl,rfl,rfl,by show (1:af)<=1;decide,by show (1:af)<=2000000;decide⟩ (.inl ⟨rfl,rfl,rfl⟩) (.inl ⟨rfl,zFU⟩) zFT (λh=>bc rfl h) (by simp);clear e4 e5 a2;unfold ocs at A;go_wp2_with fail;apply A.mono;rintro e N ⟨rfl,e7,e8,d4,_⟩;have k6:ah (KA N o (o+1) [D0 ab 0 0] ct1 1 1):=e7;have e9:ah (UOk [D0 ab 0 0] ct1 1):=e8;have s3:=bu d4;have k7:ah (Fr (From o) w N):=(e6.mono zn).step (EvF.from d4 (by omega) (by omega)) zi;clear A e7 e8 d4;obtain⟨W4,a3,f4,b4⟩:=zy N (am sxL0.vals 56);unfold sxL0 ca cp sxPA at a3;simp only[List.length_nil]at a3;go_upto_region 8 with(fail)
 rw[<-a3];clear a3;have O:W4.ownsRow (o+1) 56 12 (ai (ae ⟨N,0,ab⟩) 1 1) [sxL0].length (rflat [sxL0]):=⟨rfl,.inr ⟨(N:Q),1,_,rfl,by omega,b4,bw _,by decide,rfl,rfl⟩⟩
 have k8:=zh O;have k9:ah (Fr (From o) w W4):=k7.step f4 zn;have a4:ah (KA W4 o (o+1) [D0 ab 0 0] ct1 1 1):=k6.no (by omega) f4;have g0:ah (∀ W,Fr No W4 W->Recs W (ae ⟨N,0,ab⟩) 1 [sxL0]):=λW hW=>by
  obtain⟨x,y,hv,hr,_⟩:=ep (zG O hW (λ_ _=>id)) (λr hr=>zNp W r (by simp at hr;simp[hr]));cases hv;exact hr
 have F:=zBs o (o+1) 1 [D0 ab 0 0] ct1 1 W4 a4.out (by simp);have s4:=zC b4;clear O f4 b4;go_wp2_with fail;apply F.mono;rintro e w5 ⟨⟨a5,c5,p1,rfl,g4,_,g5,b6⟩,a6⟩;obtain⟨x5,n5,y5,rfl⟩:=zID (d:=D0 ab 0 0) b6;have g6:ah (Fr (From o) w w5):=k9.step a6 zn;have z:=zH0 a5 (ae ⟨N,0,ab⟩) ab ab c5 1 0 0 (W4:Q) 0 [D0 x5 n5 y5] [sxL0] (λd=>ct1 d.index) [] [] w5 g4 (by simp) (g0.out w5 a6) (HE.from h8 g6.out) (bi _) (bi _) (by simp) (by simp) (g5.txs (λd hd=>by
  obtain rfl:d=D0 x5 n5 y5:=List.mem_singleton.1 hd;exact zFT)) (sxI0 (D0 x5 n5 y5))
  (λr S M l0 S' M' G' h1 h2 h3=>by
   rw[zPV]at h2;obtain⟨g1,g2,g3⟩:=zGU ⟨rfl,rfl,rfl,rfl,rfl⟩ h1 h2;exact⟨g1,g3,.inr g2⟩) (λr S M l0 h=>zOc h) ⟨src0 x5 n5 y5,rfl,.inl ⟨rfl,rfl⟩⟩
 have b7:=zh a6;clear F g4 g5 b6 a6;go_wp2_with fail;apply z.mono;rintro e w6 ⟨⟨ma,mc,r6,S6,M6,G6,p2,p3,p4,rfl,g7,_,g8,d5,_⟩,a8⟩;rw[zPV]at d5;obtain⟨-,rfl,-⟩:=zGU ⟨rfl,rfl,rfl,rfl,rfl⟩ g8 d5;have l1:=zh g7;have b8:=zh (b7.step a8 zi);have l2:ah (Fr (From o) w w6):=g6.step a8 zn;have s6:=a8.size;have s5:=b7.size;clear z g7 g8 d5 a8;have F:=zBs o (o+1) 1 [D0 ab 0 0] ct1 1 w6 (a4.no (by omega) b8.out) (by simp);go_wp2_with fail;apply F.mono;rintro e w7 ⟨⟨a7,c7,p5,rfl,g9,b9,h0,d0⟩,U⟩;obtain⟨x7,n7,y7,rfl⟩:=zID (d:=D0 ab 0 0) d0;have h4:ah (Fr (From o) w w7):=l2.step U zn;have h5:=zh (b8.step U zi);have h6:=zh (l1.no U (λ_=>id));have s7:=U.size;have V:=zNo (w6:Q) a7 c7 [D0 x7 n7 y7] ct1 [sxV 1] ma mc 1 w7 g9 e9 (zPq x7 n7 y7) (by decide) (HE.from h8 h4) b9 h0 h6 (by omega) sxQ (zMT x7 n7 y7 ct1) (λj v L ct l3 L' p6 n4 hj h hs=>zMU hj h hs);clear F g9 b9 h0 d0 U;go_wp2_with fail;apply V.mono;rintro e w8 ⟨⟨l3,av,cv,_,_,_,_,_,_,_,_,⟨_,_,hQ⟩,rfl,h7,i3⟩,X⟩;obtain⟨a9,rfl⟩:=hQ rfl;have i4:ah (Fr (From o) w w8):=h4.step X zn;have Y:=zh (h5.step X zi);obtain⟨i5,_⟩:=i3 _ (List.mem_singleton.2 rfl);obtain⟨g,p7,rfl,⟨o0,o1,o2,o3,o4,o5,o6,o7,o8,o9,b0,b1,d6,d7⟩⟩:=zP4 (j:=0) h7 rfl rfl;obtain⟨mb,n6,u,rfl,i6,⟨m0,m1,m2,m3⟩,p8⟩:=(h6.no X (λ_=>id)).elem (k:=0) (by simp);obtain rfl:u=sxV 1:=by simpa using i6.symm
 simp only[Nat.zero_mul,Nat.add_zero]at m0 m1 m2 m3 o0 o1 o2 o3 o4 o5 o6 o7 o8 o9 b0 b1 d6 d7;unfold sxV sxB at m1;dsimp only at m1;have l4:=zh i5;have s8:=X.size;unfold sxPA at o1;unfold opG at o2 o3 o4 o5 o6 o7 o8 o9 b0 b1;dsimp only at o2 o3 o4 o5 o6 o7 o8 o9 b0 b1 o0 o1 d6 d7;clear V h7 i3 X i6 m0 m2 m3 i5 hQ;go_upto_region 12 with(fail)
 clear m1;have eL:insAt [D0 ab 0 0] (insK [D0 ab 0 0] (addD (opG sxB 1048576 sxR a9) 1 1)) (strip (addD (opG sxB 1048576 sxR a9) 1 1))=[D0 ab 0 0,D1 ab 0 0]:=by kernel_rfl
 have A:=(zLK o (o+1) 1 [D0 ab 0 0] ct1 1 1 sxPA () () sxR (opG sxB 1048576 sxR a9) w8 (a4.no (by omega) Y.out) e9.out (HE.from h8 i4.out) h8 (by omega) (by omega) (by omega) l4.out rfl ⟨rfl,rfl,rfl,by show (1:af)<=1048576;decide,by show (1048576:af)<=2000000;decide⟩ (.inr ⟨D0 ab 0 0,by kernel_rfl,rfl⟩) (.inr ⟨D0 ab 0 0,by simp,rfl,rfl,zFU,zKX⟩) zHN (λ_=>zGS) (λe he=>by
  obtain rfl:e=D0 ab 0 0:=List.mem_singleton.1 he;exact⟨by show sxA≠sxB;decide,by show (1:af)≠1048576;decide⟩)).mono (λe w' h=>(⟨h.1,by have:=h.2.1;rw[eL]at this;exact this,h.2.2.2.1⟩:e=.returned (.tuple #[al ao 2,al ao 0])/\KA w' o (o+1) [D0 ab 0 0,D1 ab 0 0] ct2 2 2/\EvF o (o+1) w8 w'))
 unfold sxPA opG ocs at A;dsimp only at A;clear eL;go_wp2_with fail;apply A.mono;rintro e w9 ⟨rfl,i7,b2⟩;have l5:=zh i7;have l6:ah (Fr (From o) w w9):=i4.step (EvF.from (tb:=o) b2 (by omega) (by omega)) zi;obtain⟨n8,i8⟩:=(a4.no (by omega) Y).blk;have l7:ah (w9.ownsRow (o+1) 56 12 (ai (ae ⟨N,0,ab⟩) 1 1) [sxL0].length (rflat [sxL0])):=cu b2 (zG k8 Y (λ_ _=>id)) i8 (by decide) (by decide);have s9:=bu b2;clear A i7 b2 i8 o0 o1 o2 o3 o4 o5 o6 o7 o8 o9 b0 b1 d6 d7;have F:=zBs o (o+1) 2 [D0 ab 0 0,D1 ab 0 0] ct2 2 w9 l5.out (by simp);go_wp2_with fail;apply F.mono;rintro e wA ⟨⟨aA,cA,p9,rfl,i9,_,j0,d1⟩,b3⟩;obtain⟨xA,nA,yA,zA,kA,uA,rfl⟩:=zMV (d:=D0 ab 0 0) (e:=D1 ab 0 0) d1;have d8:=zg2 i9 j0;have l8:ah (Fr (From o) w wA):=l6.step b3 zn;have l9:=zh (zG l7 b3 (λ_ _=>id));have sA:=b3.size;clear F i9 j0 d1 b3;obtain⟨i0,m4,m5,m6,m7⟩:=dk infoR;have m8:wA.ownsRow (o+1) 56 12 (ai (ae ⟨N,0,ab⟩) 1 1) 1 (rflat [sxL0]):=l9.out;have r0:(N:Q)<(w9:Q):=by omega
 go_wp2_with (at_builtin;refine wpList_append_own_at _ rfl _ _ 84 rfl (o+1) 56 i0 (bh #[bq,al ao 0,ai ab 0 0,ai ab 0 0,ai ab 0 0,ai ab 0 0,ai ab 0 0,bq,al ao 0,bq,bq,al ao 0]) 12 208 Tryz.underlying84 m4 m5 m6 m7 rfl (by decide) _ _ _ rfl (m8.alloc _) ⟨wA,0,ab⟩ 1 1 (ca sxL1).toList rfl rfl (zk _ (ca sxL1) _ rfl) (zGd _) (by decide) (by decide) (by rw[World.size_alloc];omega) ?_;intro v' wB I J _ j1;obtain⟨d9,e0,rfl⟩:=zI I)
 have j2:Fr No wA (wA.alloc (am (ca sxL1) 56)):=(bf _ _).alloc _;have b5:Fr (Is (N:Q)) wA wB:=(j2.mono zn).step (cy J) (λb _ h=>by injection h with h;exact h.symm);have j3:ah (Fr (From o) w wB):=l8.step b5 (λb hb h=>by omega);have e1:∀ b,(w9:Q)<=b->¬ Is (N:Q) b:=λb hb h=>by omega
 have j4:Tr wB (w9:Q) aA cA [D0 xA nA yA,D1 zA kA uA]:=d8.1.fr b5 e1;have j5:CtO wB [D0 xA nA yA,D1 zA kA uA] ct2:=cb d8.2 b5 (λd hd ad e=>e1 _ ((d8.1.el d hd).fresh ad e));have j6:Recs wB d9 e0 [sxL0,sxL1]:=by
  obtain⟨x,y,hv,hr,_⟩:=ep (l:=[sxL0,sxL1]) (v:=ai d9 2 e0) I (zNp wB);cases hv;exact hr
 have z:=zH0 aA d9 ab ab cA e0 0 0 (w9:Q) 0 [D0 xA nA yA,D1 zA kA uA] [sxL0,sxL1] (λd=>ct2 d.index) [] [] wB j4 (by simp) j6 (HE.from h8 j3.out) (bi _) (bi _) (by simp) (by simp) (j5.txs (λd hd=>by
  rcases List.mem_cons.1 hd with rfl|hd
  .exact zFT
  .obtain rfl:=List.mem_singleton.1 hd;exact zHN)) (sxI1 (D0 xA nA yA) (D1 zA kA uA))
  (λr S M l0 S' M' G' h1 h2 h3=>by
   rw[zPU]at h2;exact(zGT ⟨rfl,rfl,rfl,rfl,rfl⟩ ⟨rfl,rfl,rfl,rfl⟩ h1 h2).1 h3) (λr S M l0 h=>zOb h) (.inl ⟨rfl,src1 xA zA nA yA kA uA,rfl,rfl⟩)
 clear I J j1 j2 b5 e1 j4 j5 j6;apply z.mono;rintro e wC ⟨⟨mC,cC,rC,SC,MC,GC,r1,r2,r3,rfl,j7,j8,j9,e2,d2⟩,k0⟩;rw[zPU]at e2;obtain rfl:=(zGT ⟨rfl,rfl,rfl,rfl,rfl⟩ ⟨rfl,rfl,rfl,rfl⟩ j9 e2).2 d2;have m9:ah (Fr No w wC):=(j3.step k0 zn).mono (λb hb h=>by unfold From at h;have:=k5.out;omega);obtain⟨r4,n3,u2,rfl,k3,⟨m0,m1,m2,m3⟩,n9⟩:=j7.elem (k:=1) (by simp);obtain rfl:u2=sxW 2:=by simpa using k3.symm
 unfold sxW sxM sxX at m0 m1 m2 m3;simp only[Nat.one_mul]at m0 m1 m2 m3;clear z j7 j8 j9 e2 d2 k0 k3;go_wp2;go_ret;exact⟨by simp,m9.out⟩
theorem zMd (l:ag B):sameT l l=true:=by unfold sameT;simp
theorem ignores_walk (la:ap aq)(lc:Q)(l:ag af)(w:ar)(hl:Ints w la lc l)(hE:Env w):
  be ax 3 #[ai la l lc] w λe w'=>e=.returned (.bool aj)/\Fr No w w':=by
 have h9:=hE.sz;obtain⟨W1,g6,f1,-⟩:=zy w (am #[ai la l lc,al ao 0] 25);have n5:Tape W1 (w:Q) (w:Q) 0:=by rw[g6];exact Tape.make hl 25
 have A6:(W1:Q)=(w:Q)+1:=by rw[g6];simp
 have b7:=zh hE;have I1:(l:Q)<=9223372036854775807:=by have h1:=hl.len;have h2:=hl.max;unfold bj at h2;omega
 obtain⟨Z,g7,f2,-⟩:=zy W1 (am (kcs ab 0 0 ab 0 0 0) 62);obtain⟨w3,g8,f3,-⟩:=zy Z (am (kcs ab 0 0 ab 0 0 0) 62);have A7:(Z:Q)=(W1:Q)+1:=by rw[g7];simp
 have A8:(w3:Q)=(Z:Q)+1:=by rw[g8];simp
 have n6:KSt Z (W1:Q) ((W1:Q)+1) ab 0 [] ab 0 0 0:=by rw[g7];exact db W1 _
 have n7:KSt w3 (Z:Q) ((Z:Q)+1) ab 0 [] ab 0 0 0:=by rw[g8];exact db Z _
 have j4:=n6.no f3;have g9:ah (KA w3 (W1:Q) ((W1:Q)+1) [] (λ_=>()) 0 0):=⟨ab,0,[],ab,0,0,j4,rfl,(λd hd=>by simp at hd),by omega⟩
 have z:ah (KA w3 (Z:Q) ((Z:Q)+1) [] (λ_=>()) 0 0):=⟨ab,0,[],ab,0,0,n7,rfl,(λd hd=>by simp at hd),by omega⟩
 have h0:ah (KSep w3 (W1:Q) (Z:Q)):=λu v b g1 _ g2 _=>by
  rw[show w3 ⟨W1,3,ab⟩=ae (ai ab 0 0)from zB j4.blk 3]at g1;cases g1;cases g2
 have j5:ah (Tape w3 (w:Q) (w:Q) 0):=(n5.fr f2 (λ_ _=>id) id).fr f3 (λ_ _=>id) id;have n8:ah (Fr No w w3):=(f1.step f2 zi).step f3 zi;have h3:=zO9 W1;have h4:=zO9 Z;rw[<-g7]at h3;rw[<-g8]at h4;obtain⟨ka,n9⟩:=ε (W1:Q)
 obtain⟨U,o0⟩:=ε (Z:Q)
 obtain⟨tb,h5⟩:=ε (w:Q)
 rw[<-n9]at h3 g9 h0;rw[<-o0]at h4 z h0;rw[<-h5]at j5;have l1:tb<ka/\tb<U/\ka≠U/\ka<(w3:Q)/\U<(w3:Q)/\8<tb:=by omega
 have A9:=zh h5;clear hl hE f1 n5 g7 g8 f2 f3 A7 A8 n6 n7 j4 n9 o0 A6;go_enter Tryz.func3,Tryz.ntmps3;go_upto_region 2 with(fail)
 rw[<-g6,<-h5];clear g6 h5;go_wp2_with fail;apply h3.mono;rintro e x2 ⟨rfl,D2⟩;subst D2;go_wp2_with fail;apply h4.mono;rintro e x3 ⟨rfl,D3⟩;subst D3;clear h3 h4;have o1:=zM2 x3;go_wp2_with fail;apply o1.mono;rintro e w4 ⟨⟨sa,ea,kc,xc,a6,E,hK,hE,rfl,o2,o3,j6,o4,o5,o6⟩,N⟩;obtain⟨W5,o7,f5,b5⟩:=zy w4 (am #[ai sa a6 kc,al ao 0] 32);have s4:=N.size;have s5:=zC b5;have j7:ah (StK W5 tb (w4:Q) sa ea kc xc a6 E):=⟨b5,o2.no f5 (λ_=>id),o3.no f5 (λ_=>id),j6.fr f5 (λ_ _=>id),o4.fr f5 (λ_ _=>id),λad e=>by have:=o5 ad e;omega,λad e=>by have:=o6 ad e;omega,by omega⟩
 have h6:ah (Fr No x3 W5):=N.step f5 zi;have j8:(a6:Q)<=1000000:=by rw[hK];decide
 have b8:ah ((∀ x∈a6,x.size<=bj)/\AllE E):=by rw[hK,hE];exact⟨zHk,zNi⟩
 obtain⟨sb,j9⟩:=ε (w4:Q)
 rw[<-j9]at j7;clear o1 hK hE o2 o3 j6 o4 o5 o6 N f5 b5;go_upto_region 7 with(fail)
 rw[<-o7,<-j9];clear o7 j9;have k0:ah (PJ w W5 tb sb ka U sa ea kc xc a6 E 0 [] (λ_=>()) 0 0 [] (λ_=>()) 0 0):=by
  have hX:=h6.out;have hs:=hX.size;exact⟨g9.no (br _) hX,z.no (br _) hX,h0.fr hX id id g9 z,j7,j5.fr hX (λ_ _=>id) id,(n8.step hX zi).mono zn,l1.1,l1.2.1,l1.2.2.1,by omega,by omega⟩
 have l5:=k0.lt;have O:=zM3 w W5 tb sb ka U sa ea kc xc a6 E 0 (λ_=>()) [] (λ_=>()) 0 0 k0 b7 l1.2.2.2.2.2 (by omega);clear g9 z h0 j7 j5 n8 h6 k0;go_wp2_with fail;apply O.mono;rintro e w6 ⟨na,nc,ns,D,L,ct,ix,n,kt,rfl,o8,o9,p0,I9,hU,hD,hN,d2,J0,J1,J2,j6,p1⟩;have p2:ah (NS w6 na nc ns):=⟨o8,o9⟩
 have D4:ah (∀ ad,na=ae ad->tb<ad.block):=λad e=>by have:=p0 ad e;omega
 have d3:ah (UOk L ct ix/\DskP D L ct/\DkN D ns 0 diskN/\∀ d∈L,isDk d.orig=aj):=⟨hU,hD,hN,d2⟩
 have k3:=zh p1;clear O o8 o9 p0 hU hD hN d2 p1;go_wp2_with fail;apply (zEl w6).mono;rintro e w7 ⟨rfl,p3,p4,h7⟩;have k4:=zh (k3.no h7);have p5:=zh (p2.no h7);have p6:=zg2 p3 p4;have s7:=h7.size;have l7:=k3.lt;clear p3 p4 h7 k3 p2;have p7:=zDp tb tb kt 16 w7 k4.tp (by omega) (by omega) (by omega);go_wp2_with fail;apply p7.mono;rintro e wC ⟨q,rfl,D5,J3,d7,h8⟩;obtain⟨q,rfl⟩:=da D5;have D6:q<(zAA:Q):=by rw[zAb];omega
 have p8:Strs wC (ae ⟨w6,0,ab⟩) 16 zAA:=p6.1.fr h8 (λad e _ hs=>by cases e;unfold Is at hs;dsimp only at hs;omega);obtain⟨b,p9,c,he,r0,a2⟩:=p8.at D6;cases he;rw[eo]at a2;have d4:=zDP c (bg r0);have i0:=zh d4;have d5:=zh (k4.tape h8 d7);have r1:=zh (p5.tape h8 D4);have O:=zFw ⟨#[115,100,122]⟩ c 60 wC d4;unfold ocs at O;dsimp only at O;clear p7 d7 h8 r0 d4 k4 p5 p6 p8;go_wp2_with fail;apply O.mono;rintro e wD ⟨⟨aa,ac,rfl,hA,hT,hb⟩,k5⟩;have d6:=zh (d5.no k5);have r2:=zh (r1.no k5);have a3:=zOx ka n L ct ix D ⟨#[115,100,122]⟩ c 60 aa ac wD d6.a d3.1 d3.2.1 zFa (by decide) (λx hx=>by
  obtain⟨k,g1,g2,g3,g4⟩:=d3.2.2.1.el x hx;exact⟨λe=>zI5 (i:=k) (by omega) g2 (g3.symm.trans e),by omega⟩) i0 hA (d6.env b7 l1.2.2.2.2.2) (by omega) (by omega) ⟨by omega,by omega⟩ (by have:=d6.lt;omega)
 unfold ocs at a3;dsimp only at a3;clear O hA hT hb k5 a2 d5 r1;go_wp2_with fail;apply a3.mono;rintro e wE ⟨rfl,⟨L1,c1,r3,k6,r4,r5⟩,k7,r6⟩;obtain⟨kcs,hk⟩:=d6.a.blk;have r7:=zh (r2.ev hk k7);have k8:=zh (d6.ev r3 k7 r6);have A:ah (UOk L1 c1 (ix+1)/\DskP ((sdzB,60,c)::D) L1 c1/\DkN D ns 0 diskN/\∀ d∈L1,isDk d.orig=aj):=⟨k6,r4,d3.2.2.1,λd hd=>by
  rcases r5 d hd with h|h
  .exact d3.2.2.2 d h
  .rw[h];exact zFa⟩
 have J4:=k6.len;have r8:=zBs ka (ka+1) (n+1) L1 c1 (ix+1) wE k8.a (by omega);clear a3 r3 k6 r4 r5 k7 r6 hk d6 r2 d3;go_wp2_with fail;apply r8.mono;rintro e w1 ⟨⟨ta,tc,ds,rfl,a7,a8,a9,F⟩,I⟩;have J5:(ds:Q)<=44:=by have h:=au bo F;rw[bp]at h;omega
 subst F;obtain⟨W2,r9,f2,b2⟩:=zy w1 (am #[ai ta ds tc] 48);have k9:ah (XT W2 (w1:Q) (wE:Q) ta tc ds c1):=⟨a7.no f2,a8.fr f2 (λ_ _=>id),AttOf.no a9 f2,b2⟩
 have s2:=zh (I.step f2 zi);have a4:=zh (k8.no s2);have d8:=zh (r7.no s2);obtain⟨xb,l0⟩:=ε (w1:Q)
 obtain⟨xs,s3⟩:=ε (wE:Q)
 rw[<-l0,<-s3]at k9;clear r8 a7 a8 a9 I f2 b2 k8 r7;go_upto_region 13 with(fail)
 rw[<-r9,<-l0];clear r9 l0 s3;go_wp2_with fail;go_loopw [13] (λx wr=>∃ (k n2:Q) (L2:ag Dev) (c2:af->B) (i2:af),k<=(ds:Q)/\x=al ao (k:af)/\n2<=k/\0<=i2/\i2<=k/\ah (UOk L2 c2 i2/\DskP (DkT sdzB c1 (ds.take k)) L2 c2)/\ah (XT wr xb xs ta tc ds c1)/\ah (NS wr na nc ns)/\ah (PJ w wr tb sb ka U sa ea kc xc a6 E (kt+1) (ds.map strip) c1 (ix+1) (n+1) L2 c2 i2 n2)) (λx _=>(ds:Q)-(az x).toNat);case atStart=>exact⟨0,0,[],_,0,by omega,rfl,by omega,by omega,by omega,⟨dj _ _,DskP.nil _⟩,k9,d8,a4⟩
 case round=>
  clear k9 d8 a4;obtain⟨k,n2,L2,c2,i2,hk,rfl,J6,s6,I2,d9,HX,HN,X⟩:=hrel;obtain⟨Y,rfl⟩:=ε wr
  have cA:Y ⟨xb,0,ab⟩=ae (ai ta ds tc):=zB HX.bx 0;by_cases b0:k<(ds:Q)
  .have e0:(k:af)<(ds:Q):=by omega
   obtain⟨bb,p9,x,D7,l2,s8⟩:=HX.tr.dv.dev b0;have s9:=bg l2;have b1:=zg3 l2 s9 s8;subst D7;obtain⟨y0,y1,y2,y3,y4,y5,y6,y7,y8,y9⟩:=s8;obtain⟨W3,l4,f3,b3⟩:=zy Y (am x.vals 41);have i3:=zh (HX.no f3);have e1:=zh (HN.no f3);have e2:=zh (X.no f3);have lA:=X.lt;have l3:=zC b3;obtain⟨zb,l6⟩:=ε (Y:Q)
   rw[<-l6]at b3 l3;have z:=zh b3;have lz:U<zb:=(by omega);have z3:W3 ⟨zb,3,ab⟩=ae (aw x.orig):=(DevB.of b3).c3;unfold cd at l4;clear f3 b3 l2 s9;go_upto_region 17 with(fail)
   rw[<-l4,<-l6];clear l6 l4 y0 y1 y2 y3 y4 y5 y6 y7 y8 y9 cA;rcases hb:(x.orig.toList==([115,100,122]:ag UInt8))with _|_
   case true=>
    have e:x.orig=sdzB:=by
     have h:=eq_of_beq hb;rw[ByteArray.toList_eq]at h;exact dq (Array.toList_inj.1 h)
    have e3:ah (UOk L2 c2 i2/\DskP (DkT sdzB c1 (ds.take (k+1))) L2 c2):=(by rw[zI3 b1.1,ay (zAD.2 e)];exact d9);clear e;go_wp2;go_roundw;case rel=>exact⟨k+1,n2,L2,c2,i2,by omega,by go_num,by omega,s6,by omega,e3,i3,e1,e2⟩
    case measure=>simp[az];omega
   case false=>
    have e:x.orig≠sdzB:=λe=>by
     rw[e,ByteArray.toList_eq]at hb;exact bc hb (by decide)
    have t0:=zh e;clear e;go_upto_region 18 with(fail)
    clear z3 hb;obtain⟨S,hS⟩:∃ S:Q->Prop,S=λb=>b=U\/(W3:Q)<=b\/∃ x,W3.heap[b]?=ae (am x 104 (0,0)):=⟨_,rfl⟩
    have t7:¬ S zb:=λh=>by
     rw[hS]at h;rcases h with h|h|⟨y,hy⟩
     .omega
     .omega
     .rw[z]at hy;cases hy
    have D8:=zh t7;have HS:=zh hS;clear t7 hS;refine zO S [(0,ak),(1,ak),(2,ak),(3,ak),(4,ak),(5,ak),(6,aj),(7,aj),(8,aj)] (λw1 I=>?_);have tc:∀ (g:Gr S w1) (i:Q) (u:bm),W3 ⟨zb,i,ab⟩=ae u->g.W ⟨zb,i,ab⟩=ae u:=λg i u h=>g.fr.cell (I.cell h id) D8
    have y0:=λg=>tc g _ _ (DevB.of z).c0
    have y1:=λg=>tc g _ _ (DevB.of z).c1
    have y2:=λg=>tc g _ _ (DevB.of z).c2
    have y3:=λg=>tc g _ _ (DevB.of z).c3
    have y4:=λg=>tc g _ _ (DevB.of z).c4
    have y5:=λg=>tc g _ _ (DevB.of z).c5
    have y6:=λg=>tc g _ _ (DevB.of z).c6
    have y7:=λg=>tc g _ _ (DevB.of z).c7
    have y8:=λg=>tc g _ _ (DevB.of z).c8
    have y9:=λg=>tc g _ _ (DevB.of z).c9
    obtain⟨cc,a2⟩:=ε (c1 x.index)
    have D9:=zh a2;have d4:InU cc:=(by rw[a2];exact(A.1.co (strip x) (bd b1.2.1)).1);have b9:=zD2 x cc w1 (by rw[a2];exact(i3.ct x b1.2.1).1.no I (λ_=>id)) (by rw[a2];exact(i3.ct x b1.2.1).2);have i0:=zh d4;have F0:=zh I;unfold cd at b9;clear I tc a2 d4;(repeat(first|apply zR rfl rfl rfl|apply zS rfl rfl rfl);intro a6 hK;go_big_quiet_op;go_big_quiet_on);clear y0 y1 y2 y3 y4 y5 y6 y7 y8 y9;apply zu rfl;go_wp2_with fail;apply b9.mono;rintro e Z ⟨rfl,V⟩;have t8:=zh (F0.step V zi);have O:=zFw x.orig cc x.num Z i0;unfold ocs at O;dsimp only at O;clear b9;go_wp2_with fail;apply zm V;clear V;(repeat(first|apply zR rfl rfl rfl|apply zS rfl rfl rfl);intro a6 hK;go_big_quiet_op;go_big_quiet_on);apply zu rfl;go_wp2_with fail;apply O.mono;rintro e w4 ⟨⟨aa,ac,rfl,hA,hT,hb⟩,N⟩;have i4:=zh (t8.step N zi);have b4:=zh (e2.no i4);have F1:=zh (i3.no i4);have i5:=zh (e1.no i4);have t9:=zPF A.2.2.1 A.2.1 A.2.2.2 b1.2.1 t0;have a3:=zOx U n2 L2 c2 i2 (DkT sdzB c1 (ds.take k)) x.orig cc x.num aa ac w4 b4.b d9.1 d9.2 (A.2.2.2 (strip x) (bd b1.2.1)) t9 (zLe A.1 b1.1) i0 hA (b4.env b7 l1.2.2.2.2.2) (by omega) (by omega) ⟨by omega,by omega⟩ (by have:=b4.lt;omega);unfold ocs at a3;dsimp only at a3;clear O hA hT hb t9;go_wp2_with fail;apply zm N;clear N;(repeat(first|apply zR rfl rfl rfl|apply zS rfl rfl rfl);intro a6 hK;go_big_quiet_op;go_big_quiet_on);apply zu rfl;go_wp2_with fail;apply a3.mono;rintro e w5 ⟨rfl,⟨L3,c3,v0,v1,v2,_⟩,e4,v3⟩;obtain⟨kcs,hk⟩:=b4.b.blk;have i6:=zh (b4.swap.ev v0 e4 v3).swap;have h6:=zh (F1.ev hk e4);have i7:=zh (i5.ev hk e4);have F2:ah (UOk L3 c3 (i2+1)/\DskP (DkT sdzB c1 (ds.take (k+1))) L3 c3):=⟨v1,by rw[zI3 b1.1,ba (λh=>t0 (zAD.1 h)),<-D9];exact v2⟩
    have v4:Fr S w4 w5:=Fr.mono e4 (λb _ h=>by
     rw[HS];rcases h with h|⟨_,y,hy⟩
     .exact .inl h
     .by_cases b0:b<(W3:Q)
      .have h1:=i4.heap (dm b0) id;rw[hy]at h1;exact .inr (.inr ⟨y,by rw[dm b0];exact h1.symm⟩)
      .exact .inr (.inl (by omega)))
    clear a3 v0 v1 v2 e4 v3 hk;go_wp2_with fail;apply zf v4;clear v4;apply zY;go_wp2;go_roundw;case rel=>exact⟨k+1,n2+1,L3,c3,i2+1,by omega,by go_num,by omega,by omega,by omega,F2,h6,i7,i6⟩
    case measure=>simp[az];omega
  .obtain rfl:(ds:Q)=k:=by omega
   clear b0;have e0:¬ ((ds:Q):af)<(ds:Q):=(by omega);have j2:ah (UOk L2 c2 i2/\DskP (DkT sdzB c1 ds) L2 c2):=(by have h:=d9.out;rw[dg]at h;exact h);have v5:ah (∀ o c',Live ((sdzB,60,c)::D) (igI [sdzP]) o c'↔Live (DkT sdzB c1 ds) (igI []) o c'):=λo c'=>zMz A.2.1 A.2.2.2 o c'
   have F3:=zh (zQI A.2.2.1 A.2.1 A.2.2.2);have F4:ah (∀ o∈ns,∃ (i:Q) (cc:B),1<=i/\i<=4/\o=diskN i/\(o,(i:af),cc)∈DkT sdzB c1 ds):=λo ho=>zQH A.2.2.1 A.2.1 ho
   have d2:Fr No Y (Y.alloc (am #[aw ⟨#[47,115,100,122]⟩] 9)):=(bf _ _).alloc _;have d0:=zh (X.no d2);have v6:=zh (HN.no d2);have bz:=zF Y (am #[aw ⟨#[47,115,100,122]⟩] 9);have hz:=cq (l:=[sdzP]) bz (by decide);have v7:BlkT (Y.alloc (am #[aw ⟨#[47,115,100,122]⟩] 9)) (ae ⟨Y,0,ab⟩) 9:=λad e=>by cases e;exact⟨_,bz⟩
   have s0:Y ⟨sb,0,ab⟩=ae (ai sa a6 kc):=zB X.st.box 0;have s1:Y ⟨sb,1,ab⟩=ae (al ao 0):=zB X.st.box 1;have J:=zEH (ae ⟨Y,0,ab⟩) 1 [sdzP] tb sb ka (ka+1) (n+1) (ds.map strip) c1 (ix+1) ((sdzB,60,c)::D) sa ea kc xc E a6 _ d0.a A.1 A.2.1 (by omega) (br _) (by have:=d0.lt;omega) (by omega) ⟨by omega,by omega⟩ (d0.env b7 l1.2.2.2.2.2) d0.st j8 b8.1 b8.2 hz v7 igZ;clear bz hz v7 HX d9;go_wp2_with fail;apply J.mono;rintro e wE ⟨rfl,⟨LA,cA,iA,nA,v8,v9,J7,I3,J8⟩,l8,w8⟩;obtain⟨kcs,hk⟩:=d0.a.blk;have w9:=zh (v6.ev hk l8);have a5:=zh (d0.ev v8 l8 w8);have i8:=zh v9;clear J v8 v9 l8 w8 s0 s1 X HN d0 v6 d2 hk;have s0:wE ⟨sb,0,ab⟩=ae (ai sa a6 kc):=zB a5.st.box 0;have s1:wE ⟨sb,1,ab⟩=ae (al ao 0):=zB a5.st.box 1;have J:=zEH ab 0 [] tb sb U (U+1) n2 L2 c2 i2 (DkT sdzB c1 ds) sa ea kc xc E a6 wE a5.b j2.1 j2.2 (by omega) (br _) (by have:=a5.lt;omega) (by omega) ⟨by omega,by omega⟩ (a5.env b7 l1.2.2.2.2.2) a5.st j8 b8.1 b8.2 (bi _) (cr _ _) igN;go_wp2_with fail;apply J.mono;rintro e wF ⟨rfl,⟨LB,cB,iB,nB,x0,l9,J9,I4,L0⟩,m0,x1⟩;obtain⟨kcs,hk⟩:=a5.b.blk;have x4:=zh (w9.ev hk m0);have m1:=zh (a5.swap.ev x0 m0 x1).swap;have e5:=zh l9;have L5:=i8.u.len;have L6:=l9.u.len;have x5:=zBs ka (ka+1) nA LA cA iA wF m1.a (by omega);clear J x0 l9 m0 x1 s0 s1 a5 w9 hk;go_wp2_with fail;apply x5.mono;rintro e w1 ⟨⟨ta,tc,e6,rfl,a7,a8,a9,F⟩,I⟩;have I5:(e6:Q)<=44:=(by have h:=au bo F;rw[bp]at h;omega);have m2:ah (UOk (e6.map strip) cA iA):=(by rw[F];exact i8.u);have m3:=zE9 ta tc (wF:Q) e6 cA w1 a7 a8 a9 (by omega) (λd hd=>by have:=zCE (m2.co (strip d) (bd hd)).1;exact en this (by decide));have e7:=zh (m1.no I);have x6:=zh (x4.no I);obtain⟨TA,m4⟩:=ε (virT e6 cA e6)
   rw[<-m4]at m3;have x7:ah (TA=(VL LA cA).map λx=>x.1++(⟨#[32]⟩:B)++x.2):=(by rw[m4,zKL m2,F];exact rfl);clear x5 a7 a8 a9 F I m4 m1 x4;go_wp2_with fail;apply m3.mono;rintro e Z ⟨⟨ra,rc,rfl,x8⟩,V⟩;have x9:=zh x8;have a4:=zh (e7.no V);have d8:=zh (x6.no V);have z0:=zBs U (U+1) nB LB cB iB Z a4.b (by omega);clear m3 x8 V e7 x6;go_wp2_with fail;apply z0.mono;rintro e w3 ⟨⟨F5,F6,e8,rfl,a7,a8,a9,F⟩,i9⟩;have I6:(e8:Q)<=44:=(by have h:=au bo F;rw[bp]at h;omega);have m5:ah (UOk (e8.map strip) cB iB):=(by rw[F];exact e5.u);have m6:=zE9 F5 F6 (Z:Q) e8 cB w3 a7 a8 a9 (by omega) (λd hd=>by have:=zCE (m5.co (strip d) (bd hd)).1;exact en this (by decide));have e2:=zh (a4.no i9);have e1:=zh (d8.no i9);have j3:=zh (x9.no i9 (λ_=>id));obtain⟨e9,g0⟩:=ε (virT e8 cB e8)
   rw[<-g0]at m6;have z1:ah (TA=e9):=by
    rw[g0,zKL m5,F];have h:TA=(VL LA cA).map λx=>x.1++(⟨#[32]⟩:B)++x.2:=x7.out
    rw[h,SetE.same i8 e5 b8.2 igZ igN v5];exact rfl
   clear z0 a7 a8 a9 F i9 g0 a4 d8 x9;go_wp2_with fail;apply m6.mono;rintro e w4 ⟨⟨rb,rd,rfl,z2⟩,N⟩;have b4:=zh (e2.no N);have i5:=zh (e1.no N);have m7:=zJa ra rb rc rd TA e9 w4 (j3.no N (λ_=>id)) z2;have z4:sameT TA e9=true:=(by rw[z1];exact zMd _);rw[z4]at m7;clear m6 N e2 e1 z4 z2;go_wp2_with fail;apply m7.mono;rintro e w5 ⟨rfl,m8⟩;have i6:=zh (b4.no m8);have i7:=zh (i5.no m8);have z5:ah (UOk LB cB iB/\DskP (Dr (DkT sdzB c1 ds) ns 0) LB cB):=(by rw[zPK];exact⟨e5.u,e5.d⟩);clear m7 m8 b4 i5 i8 e5 z1 x7 j3 m2 m5 v5;go_wp2_with fail;go_loopw [15] (λx wr=>∃ (j n3:Q) (L3:ag Dev),j<=(ns:Q)/\x=al ao (j:af)/\n3<=nB+44*j/\ah (UOk L3 cB iB/\DskP (Dr (DkT sdzB c1 ds) ns j) L3 cB)/\ah (NS wr na nc ns)/\ah (PJ w wr tb sb ka U sa ea kc xc a6 E (kt+1) LA cA iA nA L3 cB iB n3)) (λx _=>(ns:Q)-(az x).toNat);case atStart=>exact⟨0,nB,LB,by omega,rfl,by omega,z5,i7,i6⟩
   case round=>
    clear i7 i6 z5;obtain⟨j,n3,L3,hj,rfl,L7,e3,HN,X⟩:=hrel;obtain⟨Y,rfl⟩:=ε wr
    have L8:=HN.1.lenmax;by_cases b0:j<(ns:Q)
    .have e0:(j:af)<(ns:Q):=(by omega);obtain⟨b,p9,o,he,j0,a2⟩:=HN.1.at b0;cases he;obtain⟨i,cc,g1,g2,g3,g4⟩:=F4.out o (bg j0);have z6:(⟨#[47]⟩:B)++o=pathOf [o]:=(by rw[g3];exact zLf g1 g2);have L9:o.size=3:=(by rw[g3];rfl);have b6:=zQe U n3 L3 cB iB _ o cc ((⟨#[47]⟩:B)++o) i Y X.b e3.1 e3.2 (zQJ A.2.2.1.nd j0 g4) z6 (by omega) (by have:=X.lt;omega);rw[zPL j0]at b6;unfold ocs ZD at b6;dsimp only at b6;have h1:((⟨#[47]⟩:B)++o).size<=9223372036854775807:=by rw[ByteArray.size_append];show 1+o.size<=_;omega
     have M0:¬ 9223372036854775807<1+o.size:=(by omega);have M1:1+o.size<=9223372036854775807:=(by omega);clear j0 g4 z6 g3;go_wp2_with fail;apply b6.mono;rintro e wG ⟨rfl,⟨L4,n4,I7,z7,d1,z8⟩,m9,z9⟩;obtain⟨kcs,hk⟩:=X.b.blk;have F7:=zh (HN.ev hk m9);have F8:=zh (X.swap.ev z7 m9 z9).swap;have F9:=zg2 d1 z8;clear b6 z7 d1 z8 m9 z9 hk X HN;go_wp2;go_roundw;case rel=>exact⟨j+1,n4,L4,by omega,by go_num,by omega,F9,F7,F8⟩
     case measure=>simp[az];omega
    .obtain rfl:(ns:Q)=j:=by omega
     clear b0;have e0:¬ ((ns:Q):af)<(ns:Q):=(by omega);have d1:=e3.out;rw[zQK F3]at d1;have s0:Y ⟨sb,0,ab⟩=ae (ai sa a6 kc):=zB X.st.box 0;have s1:Y ⟨sb,1,ab⟩=ae (al ao 0):=zB X.st.box 1;have J:=zEH ab 0 [] tb sb U (U+1) n3 L3 cB iB [] sa ea kc xc E a6 Y X.b d1.1 d1.2 (by omega) (br _) (by have:=X.lt;omega) (by omega) ⟨by omega,by omega⟩ (X.env b7 l1.2.2.2.2.2) X.st j8 b8.1 b8.2 (bi _) (cr _ _) igN;clear d1;go_wp2_with fail;apply J.mono;rintro e wF ⟨rfl,⟨LC,cC,iC,nC,A0,A1,M2,I8,M4⟩,A2,A3⟩;have d5:=zh (X.swap.ev A0 A2 A3).swap;obtain rfl:=A1.none;have d7:=zBs U (U+1) nC [] cC iC wF d5.b (by simp);clear J A0 A1 A2 A3 s0 s1 X HN;go_wp2_with fail;apply d7.mono;rintro e w1 ⟨⟨tz,M5,I0,rfl,_,_,_,F⟩,I⟩;have A4:(I0:Q)=0:=(by rw[List.map_eq_nil_iff.1 F];rfl);rw[A4];have e7:=zh (d5.no I);have M6:∀ (a:ap aq) (n c:Q) (W:ar),(Instr.field 48 (bh #[ai a n c]) 0).run ax W=.ok (ai a n c) W:=(by intros;kernel_rfl);have j1:=zKo cp ⟨#[83,84,79,82,65,71,69,95,73,71,78,79,82,69]⟩ w1 (RecOk.zero w1);unfold ca at j1;rw[show getP Rec.zero.props ⟨#[83,84,79,82,65,71,69,95,73,71,78,79,82,69]⟩=(():B)from by kernel_rfl]at j1;clear d7 F I d5 A4;go_wp2_with fail;apply j1.mono;rintro e Z ⟨rfl,V⟩;have a4:=zh (e7.no V);have g5:=zO7 Z (a4.env b7 l1.2.2.2.2.2);clear j1 V e7;go_wp2_with fail;apply g5.mono;rintro e w6 ⟨rfl,A5⟩;have HR:ah (Fr No w w6):=(a4.fr.step A5 zn).mono (λb hb h=>by unfold From at h;have:=A9.out;omega);clear g5 A5;go_wp2;go_ret;exact⟨rfl,HR⟩
theorem gES: Tryz.prog.globalNamed "strconv.ErrSyntax" = ae 5:=by kernel_rfl
theorem zPG: (Tryz.prog.globals[5]?).map (·.type)=ae 229:=by kernel_rfl
theorem gER: Tryz.prog.globalNamed "strconv.ErrRange" = ae 6:=by kernel_rfl
theorem zPH: (Tryz.prog.globals[6]?).map (·.type)=ae 229:=by kernel_rfl
theorem cellsE: Tryz.prog.cellsOf 407=1:=by kernel_rfl
theorem cellsS: Tryz.prog.cellsOf 9=1:=by kernel_rfl
theorem starE: "*" ++ "errors.errorString" = "*errors.errorString" := by decide
theorem rowE (u:TypeId)(h:Tryz.prog.typeName? 3 u=ae "*errors.errorString"):u=405:=
 typeName_ptr_named (nm := "errors.errorString") (by rw[starE];kernel_rfl) (by kernel_rfl) (by decide) u (by rw[starE];exact h)
theorem gPow: Tryz.prog.globalNamed "internal/strconv.uint64pow10" = ae 4:=by kernel_rfl
theorem zNH: (Tryz.prog.globals[4]?).map (·.type)=ae 379:=by kernel_rfl
theorem gAcc: Tryz.prog.globalNamed "unicode.CaseRanges" = ae 1:=by kernel_rfl
theorem gD64: Tryz.prog.globalNamed "math/bits.deBruijn64tab" = ae 8:=by kernel_rfl
theorem cellsU: Tryz.prog.cellsOf 317=1:=by kernel_rfl
theorem cellsP: Tryz.prog.cellsOf 379=20:=by kernel_rfl
theorem zHj {P:Program}{n:String}{d:DataW Unit}{r:ag (String×DataW Unit)}{g:Q}(h:laidMet P ((n,d)::r) W)(v:P.globalNamed n=ae g):g<(W:Q):=by
 obtain⟨F,⟨I,J,y,N,O,U,z,A,u,_⟩,_⟩:=h;unfold World.var? at u;rw[v]at u;simp only[Option.bind_some]at u;cases hh:W.heap[g]? with
 | none=>simp[hh]at u
 | some o=>exact(Array.getElem?_eq_some_iff.1 hh).1
theorem env_of (u:W.ShapedOpen ax)(o:laidMet ax Rows.assemblyIgnoresRow.laid W):Env W:=by
 obtain⟨m,F⟩:=cell_of_shapedOpen_int (P:=ax) (g:=0) (t:=3) (zero:=#[al ao 0]) u (dl (by kernel_rfl)) (by kernel_rfl) rfl (by kernel_rfl) (by kernel_rfl) Tryz.underlying3;have h:=o.tail.tail.tail.tail;have U:=zHj o.tail.tail.tail.tail.tail.tail gAcc;have V:=zHj o.tail gD64;have X:=zHj h gER;obtain⟨I,Y,v,-,-,-⟩:=laid_sentinel h gER zPH eu rowE ex ey rfl rfl di cellsE cellsS;obtain⟨y,J,z,-,-,-⟩:=laid_sentinel h.tail gES zPG eu rowE ex ey rfl rfl di cellsE cellsS;have N:W ⟨5,0,ab⟩=ae (.iface 405 (bn (ae y))):=by have A:=f7 gES z 0;simpa using A
 have O:W ⟨6,0,ab⟩=ae (.iface 405 (bn (ae I))):=by have A:=f7 gER v 0;simpa using A
 exact⟨⟨m,F⟩,⟨⟨_,N,.inr ⟨_,_,rfl⟩⟩,⟨_,O,.inr ⟨_,_,rfl⟩⟩⟩,Lib.tabIs_of_head gPow zNH Tryz.underlying379 Tryz.underlying317 cellsU cellsP o.tail.tail,by omega⟩
section
variable {H:Type}{enc:TypeId×bm->H}
theorem returns_laid_sized {a:Assume}{C:Checked}{os:Os}{f:FuncId}{fn:Func}{s:ChangeSpec}{A:ag PathCond}{h F y I:Bool}{X:ar->Array bm->Prop}
  (hX:∀ (w w':ar) (args:Array bm),w.heap=w'.heap->X w args->X w' args)
  (a7:ownKnob C.prog.godebug=ab) (J:os.Started) (O:C.prog.inits.idxOf? f=ab) (a8:C.prog.funcs[f]?=ae fn)
  (N:∃ (w:ar) (o:Go.Tape) (i:Input),w.os=os/\(w.forCall o i).Shaped C.prog/\i.vars=[]/\Input.okWide C.prog (w.forCall o i) .any (w:Q) f i/\
   ((s.pre enc C.prog fn A h (w.forCall o i).memory i.args/\X (w.forCall o i).memory i.args)/\sizedMet enc C.prog fn (dh s) h (w.forCall o i).memory i.args)/\a.holds C.prog (lone (Frame.enter C.prog f i.args .normal) [] (w.forCall o i)))
  (z:∀ (W:ar) (Y:Q) (args:Array bm) (U V:ag (DataW H)) (u:ag MemPlace),
   (∀ (j:Q) t v,fn.params[j]?=ae t->args[j]?=ae v->Value.okWide C.prog W .any Y t v)->
   DataW.Whole enc C.prog fn.params.toList s.vars h W args.toList U V u->
   (DataW.weightsEach C.prog (fn.params.toList++(dh s).bare.plain.varTypes C.prog) (U++V)).all (·<=reachBytes)=aj->
   X W args->W.ShapedOpen C.prog->
   be C.prog f args W λe W'=>∃ v,e=.returned v/\s.post enc C.prog fn h F y I W args v W'):
  ReturnsInHanded a C os f .any (λw args=>(s.pre enc C.prog fn A h w args/\X w args)/\sizedMet enc C.prog fn (dh s) h w args) (s.post enc C.prog fn h F y I):=by
 apply returnsInHanded_of_calls a7 J O N;intro w o i _ a9 _ b0 Z a5;obtain⟨_,_,_,b1,a2,_,_,_,_,a3⟩:=b0;have e:b1=fn:=Option.some.inj (a2.symm.trans a8);subst e;obtain⟨⟨⟨ds,gs,a6,hw,hc⟩,hx⟩,_,U,V,u,b2,hz⟩:=Z;have a4:=DataW.Whole.of_heap (w':=w.forCall o i) (by rfl) b2;refine(z (w.forCall o i) (w:Q) i.args U V u a3 a4 hz (hX _ _ _ (by rfl) hx) a9).mono λe W' ⟨v,he,hp⟩=>?_
 subst he;exact ChangeSpec.post_blind hp
end
end Go.Proofs.YtjoipgjdpnjjiaaGreatDoor
