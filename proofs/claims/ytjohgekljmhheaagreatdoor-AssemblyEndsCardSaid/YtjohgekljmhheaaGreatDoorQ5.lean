import Derived.Test.YtjohgekljmhheaaGreatDoorQ4
import Derived.Test.YtjohgekljmhheaaGreatDoorShelf2
namespace Go.Proofs.YtjohgekljmhheaaGreatDoor
open Go.RowKit Go.Maps Go.Sort Go.Shelf
set_option linter.unusedVariables false
set_option maxRecDepth 100000
set_option maxHeartbeats 8000000
open Eq renaming symm->bw
open Fr renaming refl->ao,setCell->bz,of_grown->ci,setAt->cj
open Go renaming World->am,Addr->an,Value->aq,maxLen->az,Calls->ba,Oper->bh,TypeId->bo,madeCells->bv,Operand->cg,wpList_append_own_at->cy,zeroValue->cz
open Go.Fence renaming wide->bx
open Go.Instr renaming lookup->bq
open Go.Lib renaming compareBytes->bc,join->br,hasPrefix->da,trimPrefix->db
open Go.Lit renaming int->bu
open Go.Maps renaming size->cq
open Go.Op renaming lookup->ct
open Go.Oper renaming quietAt->dp,quietUpon->dq
open Go.Proofs renaming intOf->bd
open Go.Proofs.Tryz renaming prog->ap,func248->cu,ntmps248->cw,keysT->dr,results104->dt,underlying82->du,underlying83->dx,underlying9->dy
open Go.Result renaming andThen->ch
open Go.RowKit renaming Hid->ag
open Go.Value renaming slice->aj,string->bp
open Go.WideAt renaming sameKey_eq->eb
open Go.World renaming size_alloc->be,ownsRow_nil->cx
open IntKind renaming i64->ae
open Obj renaming cells->ab
open OnlyN renaming mk->bm
open Value renaming slice->af,int->ai,string->al,agg->ar,pointer->bn
open Vir renaming vals->bj
open _root_ renaming Nat->E,ByteArray->a0,Int->a1,List->aa,Option->ac,if_neg->au,UInt8->ax,if_pos->ay,absurd->bf,Bool->bi,decide_eq_false->ed
open _root_.Bool renaming true->ah,false->ak
open _root_.ByteArray renaming empty->aw
open _root_.List renaming range->bg,length_append->bs,take_add_one->bt,getElem?_map->cd,replicate->ce,take_length->cf,filter_append->ck,foldl_append->cl,getElem?_eq_none->cm,length_map->cn,map_map->co,mem_of_getElem?->cp,ext_getElem?->dc,filter_sublist->dd,getElem?_eq_getElem->de,length_filter_le->df,length_range->dg,map_congr_left->dh,map_id->di,not_mem_nil->dj
open _root_.Nat renaming le_trans->cr,add_zero->dk,le_refl->dl,lt_of_lt_of_le->dm,zero_add->dn
open _root_.Option renaming some->B,none->R
open _root_.UInt8 renaming le_antisymm->dz
variable{α:Type}{l:aa a0}{x:a0}{u o y N n b:E}{zs:aa a1}{w w' W:am}{a:ac an}{S:aa Src}{e T:bo}{h:aa bh}{Q:Exit->Act->am->Prop}{K:Act->Prop}{D:DataW aq}{f:aa ax->aa a1}{cs:Array aq}{g:a0×a0->ac aq}{M:aa Vir}
structure RC where
 ka:ac an
 kn:E
 kc:E
 wt:a1
 a:ac an
 n:E
 cap:E
 ea:ac an
 en:E
 ec:E
 ca:ac an
 cc:E
 C:aa Src
 wm:E
 sm:E
 xb:E
 b0:E
 b2:E
structure RSt (c:RC)(w:am)(S:aa Src)(M:aa Vir)(G:aa (a0×a0)):Prop where
 ex:∃ sa sc ma mc,w.heap[c.xb]?=B (ab (rcs c.ka c.kn c.kc c.wt c.a c.n c.cap c.ca c.C.length c.cc c.ea c.en c.ec sa (S:E) sc c.wm c.sm ma (M:E) mc) 86)/\
  w.ownsRow c.b2 123 13 (af sa S sc) (S:E) (sflat S)/\w.ownsRow c.b0 52 4 (af ma M mc) (M:E) (vflat M)
 cs:Srcs w c.ca c.cc c.C
 cb:∀ ad,c.ca=B ad->c.b0<=ad.block/\ad.block<c.b2/\BlkT w c.ca 123
 wmo:QMap w c.wm (wantG M) (M:E)
 smo:QMap w c.sm (seenG G) (G:E)
 ne:c.wm≠c.sm
 lo:c.b0<=c.xb/\c.b0<=c.wm/\c.b0<=c.sm/\c.b0<=c.b2/\c.xb<c.b2/\c.wm<c.b2/\c.sm<c.b2
theorem zPm (a ra ka ea:ac an)(u rc kn kc en ec d5:E)(wt:a1)(ds:aa Dev)(L:aa Rec)(w:am)(hl:Tr w d5 a u ds)(hn:(ds:E)<=250)(hr:Recs w ra rc L)(hE:ErrV w)(n4:2<(w:E)/\1<(w:E)):
  ba ap 25 #[ar #[.slice a ds u],.slice ra L rc,ar #[.slice ka kn kc,.int ae wt],.slice ea en ec] w λe w'=>
   (∃ Y cc b2,e=.returned (bn (B ⟨(w:E)+4,0,R⟩))/\RSt ⟨ka,kn,kc,wt,a,(ds:E),u,ea,en,ec,Y,cc,cntL ds L 0 ds,(w:E)+2,(w:E)+3,(w:E)+4,(w:E),b2⟩ w' ((cntL ds L 0 ds).filter λs=>!virB ds s.d.index) [] []/\b2<=(w':E))/\Fr No w w':=by
 obtain⟨i0,i5,i6,i7,i8⟩:=info_parts infoSr;have k6:=@run_makeMap ap;have hT:=hl.wf.ok;obtain⟨W0,a8⟩:=ε (((((w.alloc (ab #[.slice a ds u] 39)).alloc (ab #[.slice ka kn kc,.int ae wt] 33)).alloc (.map #[] 0)).alloc (.map #[] 0)).alloc (ab (rcs ka kn kc wt a (ds:E) u R 0 0 ea en ec R 0 0 ((w:E)+2) ((w:E)+3) R 0 0) 86))
 have x0:Fr No w W0:=by rw[a8];exact(((((ao _ _).alloc _).alloc _).alloc _).alloc _).alloc _
 have b4:W0.heap[(w:E)]?=B (ab #[.slice a ds u] 39):=by
  rw[a8];exact((((ao No _).alloc _).alloc _).alloc _).heap (zP w _ _) id
 have b9:W0.heap[(w:E)+4]?=B (ab (rcs ka kn kc wt a (ds:E) u R 0 0 ea en ec R 0 0 ((w:E)+2) ((w:E)+3) R 0 0) 86):=by
  rw[a8];have:=zF ((((w.alloc (ab #[.slice a ds u] 39)).alloc (ab #[.slice ka kn kc,.int ae wt] 33)).alloc (.map #[] 0)).alloc (.map #[] 0)) (ab (rcs ka kn kc wt a (ds:E) u R 0 0 ea en ec R 0 0 ((w:E)+2) ((w:E)+3) R 0 0) 86);rw[be,be,be,be]at this;exact this
 have m2:QMap W0 ((w:E)+2) (λ_=>R) 0:=by
  rw[a8];have:=QMap.made ((w.alloc (ab #[.slice a ds u] 39)).alloc (ab #[.slice ka kn kc,.int ae wt] 33));rw[be,be]at this;exact(this.fr ((ao No _).alloc _) id).fr ((ao No _).alloc _) id
 have m3:QMap W0 ((w:E)+3) (λ_=>R) 0:=by
  rw[a8];have:=QMap.made (((w.alloc (ab #[.slice a ds u] 39)).alloc (ab #[.slice ka kn kc,.int ae wt] 33)).alloc (.map #[] 0));rw[be,be,be]at this;exact this.fr ((ao No _).alloc _) id
 have s0:(W0:E)=(w:E)+5:=by rw[a8];simp
 have S0:ag ((w:E)+5<=(W0:E)):=by unfold ag;omega
 have t4:W0 ⟨w,0,R⟩=B (.slice a ds u):=zB b4 0;have n5:=hl.dv.lenmax;have i9:=zh (λ(W:am) (O:Fr (From (w:E)) w W) (n:a1) (hx:(bu ae n).wf=ah)=>zAz a u ds n W (hl.dv.fr O (λJ e b7 h=>by have:=(hl.dv.cell J e b7).2.1;omega)) hT (by omega) hx);have h6:ag (∀ W,Fr (From (w:E)) w W->Tr W d5 a u ds):=λW O=>hl.keep O (λb hb _ h=>by omega)
 have k7:ag (∀ W,Fr (From (w:E)) w W->Recs W ra rc L):=λW O=>⟨hr.len,hr.max,hr.isNil,λr k8=>by
   have h1:=hr.ok r k8;exact⟨h1.props.fr O (λJ e b7 h=>by have:=(h1.props.cell J e b7).2.1;omega),h1.tags.fr O (λJ e b7 h=>by have:=(h1.tags.cell J e b7).2.1;omega)⟩,λJ e b7=>by
   obtain⟨h1,h2,h3⟩:=hr.cell J e b7;exact⟨h1,dm h2 O.size,λi r hi j hj=>O.cell (h3 i r hi j hj) (λh=>by unfold From at h;dsimp only at h;omega)⟩⟩
 have HE:ag (∀ W,Fr (From (w:E)) w W->ErrV W):=λW O=>hE.fr O (λh=>by omega) (λh=>by omega)
 have HT:=zh hT;have Hn:=zh hn;clear hl hr hE hT hn;unfold rcs at a8;go_enter Tryz.func25,Tryz.ntmps25;go_upto_region 2 with(fail)
 rw[<-a8];clear a8;obtain⟨X,hX⟩:=ε ((w:E)+4)
 rw[<-hX]at b9;rw[show (w:E)+1+1+1+1=X from by omega];have HX:=zh hX;have n6:(w:E)<=X:=by omega
 have n7:(w:E)<X:=by omega
 have n8:X+1<=(W0:E):=by omega
 have HM:=zg2 m2 m3;have h7:=zh x0;have n9:=zh b4;clear hX s0 m2 m3 x0;go_wp2_with fail;clear t4 k6;go_loopw [26] (λi wr=>∃ (k:E) (Y:ac an) (cc:E),k<=(ds:E)/\i=.int ae (k:a1)/\(wr.heap[X]?=B (ab (rcs ka kn kc wt a (ds:E) u Y (cntL ds L 0 (ds.take k)).length cc ea en ec R 0 0 ((w:E)+2) ((w:E)+3) R 0 0) 86)/\wr.ownsRow (X+1) 123 13 (.slice Y (cntL ds L 0 (ds.take k)).length cc) (cntL ds L 0 (ds.take k)).length (sflat (cntL ds L 0 (ds.take k)))/\Fr (λb=>X<=b) W0 wr)) (λi _=>(ds:E)-(bd i).toNat);case atStart=>exact⟨0,R,0,by omega,rfl,by simpa [cntL]using b9,by simpa [cntL,sflat]using cx _ _ _ _,ao _ _⟩
 case round=>
  obtain⟨k,Y,cc,hk,rfl,kx,U,O⟩:=hrel;by_cases g3:k<(ds:E)
  .have j0:(k:a1)<(ds:E):=by omega
   have d6:Fr (From (w:E)) w wr:=(h7.mono zn).step O (λb _ h=>by omega);obtain⟨bb,g4,d,rfl,hd,c0,c1,c2,c3,c4,c5,c6,c7,c8,c9⟩:=(h6 _ d6).dv.dev g3;have a7:=cp hd;have h8:=HT.iwf a7;have m7:=HT.lk a7;have g5:ag (ds.take (k+1)=ds.take k++[d]):=(by unfold ag;rw[bt,hd];rfl);have j1:(ds.take k).length=k:=(by simp;omega);have j2:=zCv ds L (ds.take k) 0;rw[j1]at j2;obtain⟨W1,b8,a9,d1⟩:=zy wr (ab d.vals 48);have Z:Fr (From (w:E)) w W1:=d6.step a9 zn;have d7:=a9.heap (O.heap b4 (λh=>by omega)) id;have t4:W1 ⟨w,0,R⟩=B (.slice (B ⟨bb,g4,R⟩) ds u):=zB d7 0;have z0:=(DevB.of d1).c0;have d9:=i9.out W1 Z d.index h8;have k9:ag (plc ds d.index=((look ds d.index).map λ_=>pathOf (origin ds d.index)).getD ⟨#[]⟩):=rfl;rw[<-k9]at d9;have j3:X<(wr:E):=zC kx;unfold Dev.vals at b8;clear hd a7;go_upto_region 5 with(fail)
   rw[<-b8];clear b8 c0 c1 c2 c3 c4 c5 c6 c7 c8 c9;go_wp2_with fail;apply d9.mono;rintro e w2 ⟨rfl,g0⟩;clear d9 t4 z0;have g9:Fr No wr w2:=a9.step g0 zi;have d2:=g0.heap d1 id;have j4:=g0.heap d7 id;have t4:w2 ⟨w,0,R⟩=B (.slice (B ⟨bb,g4,R⟩) ds u):=zB j4 0;have z0:=(DevB.of d2).c0;have g1:=Z.step g0 zn;have h0:=zNr (B ⟨bb,g4,R⟩) ra u rc ds L d5 d.index w2 (h6 _ g1) (by have:=Hn.out;omega) h8 (k7 _ g1);generalize (look ds d.index).isSome=lks at *;go_wp2_with fail;apply h0.mono;rintro e w3 ⟨rfl,y⟩;clear h0 t4 z0;have z:Fr No wr w3:=g9.step y zi;have dw:=y.heap d2 id;have kw:=z.heap kx id;have a2:=zG U z (λ_ _=>id);have hS:=zBv ds L (ds.take k) 0 d;rw[<-g5,j1,dn]at hS;have HS:=zh hS;clear hS d7 j4 d1 d2 a9 g9 g0;have Hf:=zh (O.step z zn);have l0:=z.size;rcases hq:cntB ds L d.index with _|_
   .have A:ag (cntL ds L 0 (ds.take (k+1))=cntL ds L 0 (ds.take k)):=(by unfold ag;rw[HS.out,hq];simp);clear U kx;go_wp2;go_roundw;case rel=>exact⟨k+1,Y,cc,by omega,by go_num,by rw[A];exact kw,by rw[A];exact a2,Hf⟩
    case measure=>simp[bd];omega
   .have A:ag (cntL ds L 0 (ds.take (k+1))=cntL ds L 0 (ds.take k)++[⟨(k:a1),d,plc ds d.index,0⟩]):=(by unfold ag;rw[HS.out,hq];simp);clear hq;have h9:=λb (h:(aj Y (cntL ds L 0 (ds.take k)).length cc).ownBlock=B b)=>ze U h
    have i3:ag (∀ b,(aj Y (cntL ds L 0 (ds.take k)).length cc).ownBlock=B b->X+1<=b):=λb h=>zQ U h
    have l1:(wr:E)<(w3:E):=zC dw;have o0:k<=250:=(by have:=Hn.out;omega);generalize plc ds d.index=P at *;clear kx d6 z Z g1;go_upto_region 7 with(fail)
    refine zZ (λb=>b=X\/(aj Y (cntL ds L 0 (ds.take k)).length cc).ownBlock=B b\/(w3:E)<=b) (.q 0 (.q 1 (.q 2 (.q 3 (.q 5 (.q 6 (.q 7 (.q 8 (.m2 4 (.m1 9 (.m1 10 (.q 11 (.q 12 (.m1 13 .fin))))) 9 (.m1 4 (.m1 10 (.q 11 (.q 12 (.m1 13 .fin)))))))))))))) _ (λW3 y=>?_) zj;have b0:=y.heap kw id;have F:=zG a2 y (λ_ _=>id);have b3:=zK F b0 (by decide);have d3:=y.heap dw id;have s3:=y.size;have V:∀ g:Gr (λb=>b=X\/(aj Y (cntL ds L 0 (ds.take k)).length cc).ownBlock=B b\/(w3:E)<=b) W3,DevB g.W (wr:E) d:=λg=>DevB.of (g.fr.heap d3 (λh=>by
     rcases h with h|h|h
     .omega
     .have:=h9 _ h;omega
     .omega))
    have e0:=λg=>(V g).c0
    have e1:=λg=>(V g).c1
    have e2:=λg=>(V g).c2
    have e3:=λg=>(V g).c3
    have e4:=λg=>(V g).c4
    have e5:=λg=>(V g).c5
    have e6:=λg=>(V g).c6
    have e7:=λg=>(V g).c7
    have e8:=λg=>(V g).c8
    have e9:=λg=>(V g).c9
    clear V d3;(repeat(first|apply zL rfl rfl rfl|apply zJ rfl rfl rfl);intro K hK;go_big_quiet_op;go_big_quiet_on);clear e0 e1 e2 e3 e4 e5 e6 e7 e8 e9;have c3:W3 ⟨X,3,R⟩=B (.slice Y (cntL ds L 0 (ds.take k)).length cc):=zB b0 3;refine zAB rfl rfl ?_ ?_
    focus
     go_wp2_with fail;apply zq;apply zH rfl;go_wp2_with fail;apply zp;clear c3
    rotate_left 1
    focus
     go_wp2_with fail;apply zp;apply zH rfl;have c7:∀ o,(W3.alloc o) ⟨X,3,R⟩=B (.slice Y (cntL ds L 0 (ds.take k)).length cc):=λo=>((ao No W3).alloc o).cell c3 id
     clear c3;go_wp2_with fail;apply zq;clear c7
    all_goals (
     apply zH rfl;go_wp2_with (at_builtin;refine cy _ rfl _ _ 82 rfl (X+1) 123 i0 (ar #[.int ae 0,.int ae 0,.int ae 0,.string aw,.string aw,.string aw,.string aw,.string aw,.int ae 0,.int ae 0,.slice R 0 0,.string aw,.int ae 0]) 13 168 du i5 i6 i7 i8 rfl (by decide) _ _ _ rfl (F.alloc _) ⟨W3,0,R⟩ 1 1 (Src.vals ⟨(k:a1),d,P,0⟩).toList rfl rfl (zl _ (Src.vals ⟨(k:a1),d,P,0⟩) _ rfl) (zCe _) (by unfold az;omega) (by omega) (by first|omega|(simp;done)|(simp;omega)) ?_;intro v' w4 v N _ b5;obtain⟨a4,a5,rfl⟩:=zI v)
     have d0:Fr No W3 (W3.alloc (ab (Src.vals ⟨(k:a1),d,P,0⟩) 123)):=(ao _ _).alloc _;have b1:Fr (λb=>(aj Y (cntL ds L 0 (ds.take k)).length cc).ownBlock=B b) (W3.alloc (ab (Src.vals ⟨(k:a1),d,P,0⟩) 123)) w4:=ci N;have k4:=b1.heap (d0.heap b0 id) (λe=>b3 e);have c3:w4 ⟨X,3,R⟩=B (.slice Y (cntL ds L 0 (ds.take k)).length cc):=zB k4 3;have f3:w4.frozen? ⟨X,3,R⟩=false:=zD k4 3;have b6:=zK v k4 (by decide);refine bm ⟨b1.mono (λb _ h=>.inr (.inl h)),?_⟩;(repeat(first|apply zL rfl rfl rfl|apply zJ rfl rfl rfl);intro K hK;go_big_quiet_op;go_big_quiet_on);apply zH rfl;have f5:Fr (Is (X)) w4 (w4.setCell ⟨X,3,R⟩ (.slice a4 ((cntL ds L 0 (ds.take k)).length+1) a5)):=cj (ao _ _) _;have k5:((w4.setCell ⟨X,3,R⟩ (.slice a4 ((cntL ds L 0 (ds.take k)).length+1) a5))).heap[X]?=B (ab (rcs ka kn kc wt (B ⟨bb,g4,R⟩) (ds:E) u a4 ((cntL ds L 0 (ds.take k)).length+1) a5 ea en ec R 0 0 ((w:E)+2) ((w:E)+3) R 0 0) 86):=zE k4 3 _;have a6:=zG v f5 (λb hb h=>by unfold Is at h;subst h;exact b6 hb);have g2:Fr (λb=>b=X\/(aj Y (cntL ds L 0 (ds.take k)).length cc).ownBlock=B b) W3 (w4.setCell ⟨X,3,R⟩ (.slice a4 ((cntL ds L 0 (ds.take k)).length+1) a5)):=((d0.mono zn).step b1 (λb _ h=>.inr h)).step f5 (λb _ h=>.inl h);have HR:=zg3 k5 a6 g2;have l2:=zh b5;clear v N b1 k4 f5 k5 a6 g2 b6 d0 b5;go_wp2_with fail;refine bm ⟨bz (ao _ _) (λ_=>.inl rfl) _,?_⟩;apply zW;clear F b0 b3;have i4:ag (Fr (λb=>X<=b) W0 W3):=Hf.step y zn;go_wp2;go_roundw;case rel=>exact⟨k+1,a4,a5,by omega,by go_num,by rw[A,bs];exact HR.1,by rw[A,bs,zC9];exact HR.2.1,i4.step HR.2.2 (λb _ h=>by
      rcases h with h|h
      .omega
      .have:=i3.out _ h;omega)⟩
     case measure=>simp[bd];omega
     )
  .obtain rfl:k=(ds:E):=by omega
   have hC:cntL ds L 0 (ds.take (ds:E))=cntL ds L 0 ds:=(by rw[cf]);rw[hC]at kx U;have j2:=zCv ds L ds 0;have k3:wr ⟨X,3,R⟩=B (.slice Y (cntL ds L 0 ds).length cc):=zB kx 3;obtain⟨a3,c3,hv,j5,m8⟩:=Srcs.of_own U;have j6:=zAI U;injection hv with e1 e2 e3
   subst e1;subst e3;obtain⟨WL,l3⟩:=ε wr
   have g6:∀ J,Y=B J->J.block<(wr:E):=λJ e=>by obtain⟨cs,hc⟩:=j6 J e;exact zC hc
   have g7:∀ J,Y=B J->X+1<=J.block:=λJ e=>zQ U (by rw[e];rfl)
   have j7:ag (Fr (λb=>X<=b) W0 wr):=O;have j8:=zAm ds L ds 0;have l4:=zh j8;have m9:X<(wr:E):=zC kx;clear hC O j8 g3;go_wp2_with fail;subst l3;go_loopw [62] (λi wr=>∃ (j:E) (sa:ac an) (sc:E),j<=(cntL ds L 0 ds).length/\i=.int ae (j:a1)/\(wr.heap[X]?=B (ab (rcs ka kn kc wt a (ds:E) u Y (cntL ds L 0 ds).length cc ea en ec sa (((cntL ds L 0 ds).take j).filter λs=>!virB ds s.d.index).length sc ((w:E)+2) ((w:E)+3) R 0 0) 86)/\wr.ownsRow (WL:E) 123 13 (.slice sa (((cntL ds L 0 ds).take j).filter λs=>!virB ds s.d.index).length sc) (((cntL ds L 0 ds).take j).filter λs=>!virB ds s.d.index).length (sflat (((cntL ds L 0 ds).take j).filter λs=>!virB ds s.d.index))/\Fr (λb=>b=X\/(WL:E)<=b) WL wr)) (λi _=>(cntL ds L 0 ds).length-(bd i).toNat);case atStart=>exact⟨0,R,0,by omega,rfl,by simpa using kx,by simpa [sflat]using cx _ _ _ _,ao _ _⟩
   case round=>
    obtain⟨j,sa,sc,hj,rfl,d4,I,O⟩:=hrel;by_cases g3:j<(cntL ds L 0 ds).length
    .have j0:(j:a1)<(cntL ds L 0 ds).length:=(by omega);have g8:Srcs wr Y cc (cntL ds L 0 ds):=j5.fr O (λJ e _ h=>by
      have h1:=g6 J e;have h2:=g7 J e;rcases h with h|h<;>omega)
     obtain⟨cb,j9,s,rfl,hs,⟨c0,c1,c2,c3,c4,c5,c6,c7,c8,c9,l5,l6,l7⟩,n3⟩:=g8.elem g3;have a7:=l4.out s (cp hs);have h8:=HT.iwf a7.1;have g5:ag ((cntL ds L 0 ds).take (j+1)=(cntL ds L 0 ds).take j++[s]):=(by unfold ag;rw[bt,hs];rfl);have o1:(((cntL ds L 0 ds).take j).filter λs=>!virB ds s.d.index).length<=250:=by
      have h1:=df (λs:Src=>!virB ds s.d.index) ((cntL ds L 0 ds).take j);have h2:((cntL ds L 0 ds).take j).length<=j:=(by simp;omega);have:=Hn.out;omega
     have d8:Fr (λb=>X<=b) W0 wr:=j7.step O (λb _ h=>by rcases h with h|h<;>omega);have d6:Fr (From (w:E)) w wr:=(h7.mono zn).step d8 (λb _ h=>by omega);obtain⟨W1,b8,a9,d1⟩:=zy wr (ab s.vals 123);have Z:Fr (From (w:E)) w W1:=d6.step a9 zn;have d7:=a9.heap (d8.heap b4 (λh=>by omega)) id;have t4:W1 ⟨w,0,R⟩=B (.slice a ds u):=zB d7 0;have z1:=(SrcB0.of d1).c1;have h4:=zC6 a u ds d5 s.d.index W1 (h6 W1 Z) (HE W1 Z);unfold Src.vals at b8;clear hs a7;go_upto_region 12 with(fail)
     rw[<-b8];clear b8 c0 c1 c2 c3 c4 c5 c6 c7 c8 c9 l5 l6 l7;go_wp2_with fail;apply h4.mono;rintro e w3 ⟨rfl,y⟩;clear h4 t4 z1;have z:Fr No wr w3:=a9.step y zi;have dw:=y.heap d1 id;have kw:=z.heap d4 id;have a2:=zG I z (λ_ _=>id);have Hf:=zh (O.step z zn);have l0:=z.size;have o2:=O.size;clear d1 d7 a9;rcases hq:virB ds s.d.index with _|_
     .have A:ag ((((cntL ds L 0 ds).take (j+1)).filter λs=>!virB ds s.d.index)=(((cntL ds L 0 ds).take j).filter λs=>!virB ds s.d.index)++[s]  ):=(by unfold ag;rw[g5.out,ck];simp[hq]);clear hq;have h9:=λb (h:(aj sa (((cntL ds L 0 ds).take j).filter λs=>!virB ds s.d.index).length sc).ownBlock=B b)=>ze I h
      have i3:ag (∀ b,(aj sa (((cntL ds L 0 ds).take j).filter λs=>!virB ds s.d.index).length sc).ownBlock=B b->(WL:E)<=b):=λb h=>zQ I h
      have l1:(wr:E)<(w3:E):=zC dw;have j3:X<(wr:E):=zC d4;clear d4 d6 z Z;go_upto_region 13 with(fail)
      refine zZ (λb=>b=X\/(aj sa (((cntL ds L 0 ds).take j).filter λs=>!virB ds s.d.index).length sc).ownBlock=B b\/(w3:E)<=b) (.q 0 (.q 1 (.q 2 (.q 3 (.q 5 (.m2 4 (.m1 6 (.m1 7 (.q 8 (.q 9 (.m1 10 .fin))))) 6 (.m1 4 (.m1 7 (.q 8 (.q 9 (.m1 10 .fin))))))))))) _ (λW3 y=>?_) zj;have b0:=y.heap kw id;have F:=zG a2 y (λ_ _=>id);have b3:=zK F b0 (by decide);have d3:=y.heap dw id;have s3:=y.size;have V:∀ g:Gr (λb=>b=X\/(aj sa (((cntL ds L 0 ds).take j).filter λs=>!virB ds s.d.index).length sc).ownBlock=B b\/(w3:E)<=b) W3,SrcB0 g.W (wr:E) s:=λg=>SrcB0.of (g.fr.heap d3 (λh=>by
       rcases h with h|h|h
       .omega
       .have:=h9 _ h;omega
       .omega))
      have e0:=λg=>(V g).c0
      have e1:=λg=>(V g).c1
      have e2:=λg=>(V g).c2
      have e3:=λg=>(V g).c3
      have e4:=λg=>(V g).c4
      have e5:=λg=>(V g).c5
      have e6:=λg=>(V g).c6
      have e7:=λg=>(V g).c7
      have e8:=λg=>(V g).c8
      have e9:=λg=>(V g).c9
      have l8:=λg=>(V g).c10
      have l9:=λg=>(V g).c11
      have m0:=λg=>(V g).c12
      clear V d3;(repeat(first|apply zL rfl rfl rfl|apply zJ rfl rfl rfl);intro K hK;go_big_quiet_op;go_big_quiet_on);clear e0 e1 e2 e3 e4 e5 e6 e7 e8 e9 l8 l9 m0;have c3:W3 ⟨X,5,R⟩=B (.slice sa (((cntL ds L 0 ds).take j).filter λs=>!virB ds s.d.index).length sc):=zB b0 5;refine zAB rfl rfl ?_ ?_
      focus
       go_wp2_with fail;apply zq;apply zH rfl;go_wp2_with fail;apply zp;clear c3
      rotate_left 1
      focus
       go_wp2_with fail;apply zp;apply zH rfl;have c7:∀ o,(W3.alloc o) ⟨X,5,R⟩=B (.slice sa (((cntL ds L 0 ds).take j).filter λs=>!virB ds s.d.index).length sc):=λo=>((ao No W3).alloc o).cell c3 id
       clear c3;go_wp2_with fail;apply zq;clear c7
      all_goals (
       apply zH rfl;go_wp2_with (at_builtin;refine cy _ rfl _ _ 82 rfl (WL:E) 123 i0 (ar #[.int ae 0,.int ae 0,.int ae 0,.string aw,.string aw,.string aw,.string aw,.string aw,.int ae 0,.int ae 0,.slice R 0 0,.string aw,.int ae 0]) 13 168 du i5 i6 i7 i8 rfl (by decide) _ _ _ rfl (F.alloc _) ⟨W3,0,R⟩ 1 1 (Src.vals s).toList rfl rfl (zl _ (Src.vals s) _ rfl) (zCe _) (by unfold az;omega) (by omega) (by first|omega|(simp;done)|(simp;omega)) ?_;intro v' w4 v N _ b5;obtain⟨a4,a5,rfl⟩:=zI v)
       have d0:Fr No W3 (W3.alloc (ab (Src.vals s) 123)):=(ao _ _).alloc _;have b1:Fr (λb=>(aj sa (((cntL ds L 0 ds).take j).filter λs=>!virB ds s.d.index).length sc).ownBlock=B b) (W3.alloc (ab (Src.vals s) 123)) w4:=ci N;have k4:=b1.heap (d0.heap b0 id) (λe=>b3 e);have c3:w4 ⟨X,5,R⟩=B (.slice sa (((cntL ds L 0 ds).take j).filter λs=>!virB ds s.d.index).length sc):=zB k4 5;have f3:w4.frozen? ⟨X,5,R⟩=false:=zD k4 5;have b6:=zK v k4 (by decide);refine bm ⟨b1.mono (λb _ h=>.inr (.inl h)),?_⟩;(repeat(first|apply zL rfl rfl rfl|apply zJ rfl rfl rfl);intro K hK;go_big_quiet_op;go_big_quiet_on);apply zH rfl;have f5:Fr (Is (X)) w4 (w4.setCell ⟨X,5,R⟩ (.slice a4 ((((cntL ds L 0 ds).take j).filter λs=>!virB ds s.d.index).length+1) a5)):=cj (ao _ _) _;have k5:((w4.setCell ⟨X,5,R⟩ (.slice a4 ((((cntL ds L 0 ds).take j).filter λs=>!virB ds s.d.index).length+1) a5))).heap[X]?=B (ab (rcs ka kn kc wt a (ds:E) u (B ⟨cb,j9,R⟩) (cntL ds L 0 ds).length cc ea en ec a4 ((((cntL ds L 0 ds).take j).filter λs=>!virB ds s.d.index).length+1) a5 ((w:E)+2) ((w:E)+3) R 0 0) 86):=zE k4 5 _;have a6:=zG v f5 (λb hb h=>by unfold Is at h;subst h;exact b6 hb);have g2:Fr (λb=>b=X\/(aj sa (((cntL ds L 0 ds).take j).filter λs=>!virB ds s.d.index).length sc).ownBlock=B b) W3 (w4.setCell ⟨X,5,R⟩ (.slice a4 ((((cntL ds L 0 ds).take j).filter λs=>!virB ds s.d.index).length+1) a5)):=((d0.mono zn).step b1 (λb _ h=>.inr h)).step f5 (λb _ h=>.inl h);have HR:=zg3 k5 a6 g2;have l2:=zh b5;clear v N b1 k4 f5 k5 a6 g2 b6 d0 b5;go_wp2_with fail;refine bm ⟨bz (ao _ _) (λ_=>.inl rfl) _,?_⟩;apply zW;clear F b0 b3;have i4:ag (Fr (λb=>b=X\/(WL:E)<=b) WL W3):=Hf.step y zn;go_wp2;go_roundw;case rel=>exact⟨j+1,a4,a5,by omega,by go_num,by rw[A,bs];exact HR.1,by rw[A,bs,zC9];exact HR.2.1,i4.step HR.2.2 (λb _ h=>by
        rcases h with h|h
        .exact .inl h
        .exact .inr (i3 _ h))⟩
       case measure=>simp[bd];omega
       )
     .have A:ag ((((cntL ds L 0 ds).take (j+1)).filter λs=>!virB ds s.d.index)=(((cntL ds L 0 ds).take j).filter λs=>!virB ds s.d.index)):=(by unfold ag;rw[g5.out,ck];simp[hq]);clear I d4;go_wp2;go_roundw;case rel=>exact⟨j+1,sa,sc,by omega,by go_num,by rw[A];exact kw,by rw[A];exact a2,Hf⟩
      case measure=>simp[bd];omega
    .obtain rfl:j=(cntL ds L 0 ds).length:=by omega
     rw[cf]at d4 I;have g8:Srcs wr Y cc (cntL ds L 0 ds):=j5.fr O (λJ e _ h=>by
      have h1:=g6 J e;have h2:=g7 J e;rcases h with h|h<;>omega)
     have h5:BlkT wr Y 123:=j6.fr O (λJ e h=>by
      have h1:=g6 J e;have h2:=g7 J e;rcases h with h|h<;>omega)
     have d8:Fr (λb=>X<=b) W0 wr:=j7.step O (λb _ h=>by rcases h with h|h<;>omega);have k0:Fr No w wr:=(h7.step d8 (λb hb h=>by
      have:=HX.out;omega))
     have m4:=HX.out;obtain⟨m5,m6⟩:=HM.out;have hR:RSt ⟨ka,kn,kc,wt,a,(ds:E),u,ea,en,ec,Y,cc,cntL ds L 0 ds,(w:E)+2,(w:E)+3,(w:E)+4,(w:E),(WL:E)⟩ wr ((cntL ds L 0 ds).filter λs=>!virB ds s.d.index) [] []:=
      ⟨⟨sa,sc,R,0,by rw[<-m4];exact d4,I,cx _ _ _ _⟩,g8,λJ e=>⟨by have:=g7 J e;show (w:E)<=J.block;omega,g6 J e,h5⟩,m5.fr d8 (λh=>by omega),m6.fr d8 (λh=>by omega),by simp,by dsimp only;omega⟩
     have HR:=zg2 hR O.size;clear hR d4 I g8 h5 O;go_wp2;go_ret;exact⟨⟨Y,cc,(WL:E),by rw[HX];rfl,HR.1,HR.2⟩,k0⟩
def pathO (s t:a0):a1:=if zo s then (if zo t then cmpN (sparts s) (sparts t)else -1)else if zo t then 1 else bc s.data.toList t.data.toList
theorem zJm (s t:a0)(m:a1)(w:am)(hs:s.size<=1000000)(ht:t.size<=1000000)(Y:w ⟨0,0,R⟩=B (ai ae m)):
  ba ap 248 #[s,t] w λe w'=>e=.returned (ai ae (pathO s t))/\Fr No w w':=by
 obtain⟨r,h1⟩:=ε (pathO s t)
 rw[<-h1];have Hr:=zh h1;clear h1;have y:=zDX s t m w hs ht Y;cases hg1:zo s with
 | true=>
  have J:=zh hg1;clear hg1;cases hg2:zo t with
  | true=>
   have Z:=zh hg2;clear hg2;have O:cmpP s t=(r,0):=(by rw[cmpP,Hr,pathO,J,Z];rfl);rw[O]at y;clear O;go_enter cu,cw;go_wp2_with fail;apply y.mono;rintro e w1 ⟨rfl,h⟩;have z:=zh h;clear h;go_wp2;go_ret;exact⟨rfl,z⟩
  | false=>
   have Z:=zh hg2;clear hg2;have O:cmpP s t=(0,10):=(by rw[cmpP,J,Z];rfl);rw[O]at y;clear O;have A:ag (r=-1):=(by unfold ag;rw[Hr,pathO,J,Z];rfl);go_enter cu,cw;go_wp2_with fail;apply y.mono;rintro e w1 ⟨rfl,h⟩;have u:=h.cell Y id;have z:=zh h;clear h Y;go_wp2_with fail;apply (zBr s m _ hs u).mono;rintro e w2 ⟨U,v⟩;have F:=v.cell u id;have V:=zh (z.step v zi);clear v u;rcases U with⟨o,rfl⟩|⟨o,a2,rfl,_,_⟩
   .rw[J.out]at o;cases o
   .clear o;go_wp2_with fail;apply (zBr t m _ ht F).mono;rintro e w3 ⟨X,I⟩;have N:=zh (V.step I zi);clear I F;rcases X with⟨o,rfl⟩|⟨o,a3,rfl,_,_⟩
    .clear o;go_wp2;go_ret;exact⟨by rw[A];rfl,N⟩
    .rw[Z.out]at o;cases o
 | false=>
  have J:=zh hg1;clear hg1;have O:cmpP s t=(0,10):=by rw[cmpP,J];rfl
  rw[O]at y;clear O;go_enter cu,cw;go_wp2_with fail;apply y.mono;rintro e w1 ⟨rfl,h⟩;have u:=h.cell Y id;have z:=zh h;clear h Y;go_wp2_with fail;apply (zBr s m _ hs u).mono;rintro e w2 ⟨U,v⟩;have F:=v.cell u id;have V:=zh (z.step v zi);clear v u;rcases U with⟨o,rfl⟩|⟨o,a2,rfl,_,_⟩
  .clear o;go_wp2_with fail;apply (zBr t m _ ht F).mono;rintro e w3 ⟨X,I⟩;have N:=zh (V.step I zi);clear I F;rcases X with⟨o,rfl⟩|⟨o,a3,rfl,_,_⟩
   .have A:ag (r=bc s.data.toList t.data.toList):=(by unfold ag;rw[Hr,pathO,J,o];rfl);clear o;go_wp2_with fail;apply (zLu s t _).mono;rintro e w4 ⟨rfl,rfl⟩;rw[<-A];go_wp2;go_ret;exact⟨rfl,N⟩
   .have A:ag (r=1):=(by unfold ag;rw[Hr,pathO,J,o];rfl);clear o;go_wp2;go_ret;exact⟨by rw[A];rfl,N⟩
  .rw[J.out]at o;cases o
def aheadB (p:a0)(r:a1)(p':a0)(r':a1):Bool:=decide (orI (cmpI r r') (pathO p p')<0)
theorem zIs (p i u F:a0)(r s t e r' I J N:a1)(v O:aq)(m:a1)(w:am)(hs:p.size<=1000000)(ht:u.size<=1000000)(hm:w ⟨0,0,R⟩=B (ai ae m)):
  ba ap 197 #[ar #[p,i,r,s,t,e,v],ar #[u,F,r',I,J,N,O]] w λZ w'=>Z=.returned (.bool (aheadB p r u r'))/\Fr No w w':=by
 have h0:Fr No w ((w.alloc (ab #[p,i,r,s,t,e,v] 226)).alloc (ab #[u,F,r',I,J,N,O] 226)):=((ao _ _).alloc _).alloc _;have q1:=zP w (ab #[p,i,r,s,t,e,v] 226) (ab #[u,F,r',I,J,N,O] 226);have q2:=zS w (ab #[p,i,r,s,t,e,v] 226) (ab #[u,F,r',I,J,N,O] 226);obtain⟨W0,y⟩:=ε ((w.alloc (ab #[p,i,r,s,t,e,v] 226)).alloc (ab #[u,F,r',I,J,N,O] 226))
 rw[<-y]at h0 q1 q2;have U:=h0.cell hm id;have H0:=zh h0;obtain⟨rb,z⟩:=ε (aheadB p r u r')
 rw[<-z];have a2:=zh z;clear h0 hm z;go_enter Tryz.func197,Tryz.ntmps197;go_upto_region 1 with(fail)
 rw[<-y];clear y;refine zO No [(0,ak),(1,ak),(2,ak),(3,ak),(5,ak),(6,ak),(7,ak),(8,ak),(4,ah),(9,ah),(10,ah),(11,ah),(12,ak),(13,ak)] (λw0 h=>?_);have g0:∀ g:Gr No w0,g.W ⟨w,0,R⟩=B (al p):=λg=>g.fr.cell (h.cell (zB q1 0) id) id
 have g2:∀ g:Gr No w0,g.W ⟨w,2,R⟩=B (ai ae r):=λg=>g.fr.cell (h.cell (zB q1 2) id) id
 have k0:∀ g:Gr No w0,g.W ⟨(w:E)+1,0,R⟩=B (al u):=λg=>g.fr.cell (h.cell (zB q2 0) id) id
 have k2:∀ g:Gr No w0,g.W ⟨(w:E)+1,2,R⟩=B (ai ae r'):=λg=>g.fr.cell (h.cell (zB q2 2) id) id
 have V:=h.cell U id;have a3:=zh (H0.step h zi);clear q1 q2 U h;(repeat apply zR rfl rfl rfl;intro K hK;go_big_quiet_op;go_big_quiet_on);clear g0 g2 k0 k2;apply zu rfl;go_wp2_with fail;apply (zLv r r' _).mono;rintro Z w1 ⟨rfl,rfl⟩;generalize X:cmpI r r'=c1;go_wp2_with fail;apply zq;apply zu rfl;go_wp2_with fail;apply (zJm p u m _ hs ht V).mono;rintro Z w2 ⟨rfl,A⟩;generalize Y:pathO p u=c2;have a4:=zh (a3.step A zi);have Hc:ag (rb=decide (orI c1 c2<0)):=by unfold ag;rw[a2,aheadB,X,Y]
 clear X Y V;go_wp2_with fail;apply zf A;clear A;apply zu rfl;go_wp2_with fail;have hx:Fr No w2 (w2.alloc (ab #[c1,c2] 3)):=(ao _ _).alloc _;have qx:=zF w2 (ab #[c1,c2] 3);apply zf hx;have a5:=zh (a4.step hx zi);clear hx;apply zu rfl;go_wp2_with fail;apply (zP6 _ c1 c2 _ (zB qx 0) (zB qx 1)).mono;rintro Z w3 ⟨rfl,rfl⟩;generalize orI c1 c2=o at *;go_wp2_with fail;apply zq;(repeat apply zR rfl rfl rfl;intro K hK;go_big_quiet_op;go_big_quiet_on);apply zb;go_wp2;go_ret;exact⟨by rw[Hc];rfl,a5⟩
theorem zPB (p i h u:a0)(r s t e r' y z A:a1)(v F:aq)(m:a1)(w:am)(O:p.size<=1000000)(U:h.size<=1000000)(V:w ⟨0,0,R⟩=B (ai ae m)):
  ba ap 200 #[ar #[p,i,r,s,t,e,v],ar #[h,u,r',y,z,A,F]] w λN w'=>N=.returned (.bool (aheadB p r h r'))/\Fr No w w':=by
 have I:Fr No w ((w.alloc (ab #[p,i,r,s,t,e,v] 281)).alloc (ab #[h,u,r',y,z,A,F] 226)):=((ao _ _).alloc _).alloc _;have J:=I.cell V id;have X:=zIs p i h u r s t e r' y z A v F m _ O U J;have Y:=zh I;clear I;go_enter Tryz.func200,Tryz.ntmps200;go_wp2_with fail;apply X.mono;rintro N w1 ⟨rfl,o⟩;have Z:=zh (Y.step o zi);clear o;go_wp2;go_ret;exact⟨rfl,Z⟩
structure Mem where
 p:a0
 i:a0
 r:a1
 s:a1
 t:a1
 e:a1
 a:ac an
 l:aa a0
 c:E
def Mem.vals (m:Mem):Array aq:=#[al m.p,al m.i,ai ae m.r,ai ae m.s,ai ae m.t,ai ae m.e,af m.a m.l m.c]
def Mem.v (m:Mem):aq:=ar m.vals
def Mem.k (m:Mem):Mem:={ m with a:=R,c:=0 }
def Mem.zero : Mem:=⟨(),(),0,0,0,0,R,[],0⟩
def ahead (m o:Mem):Bool:=aheadB m.p m.r o.p o.r
def bestS (g:aa ax->ac Mem)(m:Mem):aa ax->ac Mem:=λx=>
 if ((m.l:E)==1&&x==kb m.i&&(match g x with|none=>ah|some o=>ahead m o))=ah then B m else g x
def best (L:aa Mem):aa ax->ac Mem:=L.foldl bestS λ_=>R
theorem zA4 (L:aa Mem)(m:Mem):best (L++[m])=bestS (best L) m:=by simp[best,cl]
theorem zJ8 {g:aa ax->ac Mem}{m:Mem}(h:(m.l:E)≠1):bestS g m=g:=by
 funext x;unfold bestS;rw[au (by simp[h])]
theorem zJ9 {g:aa ax->ac Mem}{m o:Mem}(u:g (kb m.i)=B o)(h:ahead m o=ak):bestS g m=g:=by
 funext x;unfold bestS
 by_cases e:x=kb m.i;·subst e;rw[u];simp[h]
 .rw[au (by simp[e])]
theorem zFV {g:aa ax->ac Mem}{m:Mem}(u:(m.l:E)=1)(h:∀ o,g (kb m.i)=B o->ahead m o=ah):bestS g m=λx=>if x=kb m.i then B m else g x:=by
 funext x;unfold bestS
 by_cases e:x=kb m.i
 .subst e;rw[ay rfl];rcases hg:g (kb m.i)with _|o
  .simp[u]
  .simp[u,h o hg]
 .rw[au (by simp[e]),au e]
theorem zDA {P:aa α->Prop}(h:P [])(o:∀ l x,P l->P (l++[x]))(l:aa α):P l:=by
 have:∀ l:aa α,P l.reverse:=by
  intro l
  induction l with
  | nil=>exact h
  | cons x t u=>rw[List.reverse_cons];exact o _ _ u
 simpa using this l.reverse
theorem zH5 (g:aa ax->ac Mem)(m:Mem)(x:aa ax):(bestS g m x=B m/\(m.l:E)=1/\x=kb m.i/\∀ o,g x=B o->ahead m o=ah)\/(bestS g m x=g x/\((m.l:E)=1->x=kb m.i->∃ o,g x=B o/\ahead m o=ak)):=by
 by_cases u:(m.l:E)=1
 .by_cases v:x=kb m.i
  .rcases hg:g x with _|o
   .refine .inl ⟨?_,u,v,λo y=>by cases y⟩;unfold bestS;rw[hg];simp[u,v]
   .cases ha:ahead m o with
    | true=>
     refine .inl ⟨?_,u,v,λz y=>by cases y;exact ha⟩;unfold bestS;rw[hg];simp[u,v,ha]
    | false=>
     refine .inr ⟨?_,λ_ _=>⟨o,rfl,ha⟩⟩;unfold bestS;rw[hg];simp[ha]
  .refine .inr ⟨?_,λ_ h=>bf h v⟩;unfold bestS;rw[au (by simp[v])]
 .refine .inr ⟨?_,λh=>bf h u⟩;unfold bestS;rw[au (by simp[u])]
theorem zCI (L:aa Mem):∀ x m,best L x=B m->m∈L/\m.l.length=1/\kb m.i=x:=by
 refine zDA (P:=λL=>∀ x m,best L x=B m->m∈L/\m.l.length=1/\kb m.i=x) ?_ ?_ L;·intro x m h;cases h
 .intro l y u x m h;rw[zA4]at h;rcases zH5 (best l) y x with⟨o,v,z,_⟩|⟨o,_⟩
  .rw[o]at h;cases h;exact⟨by simp,v,z.symm⟩
  .rw[o]at h;obtain⟨a,b⟩:=u x m h;exact⟨by simp[a],b⟩
structure IsIds (L:aa Mem)(ids:aa a0):Prop where
 asc:AscS (ids.map kb)
 mem:∀ x:a0,x∈ids↔(best L (kb x)).isSome=ah
theorem zBN : ∀ {l l':aa a0},l.map kb=l'.map kb->l=l'
 | [],[],_=>rfl
 | [],_::_,h=>by simp at h
 | _::_,[],h=>by simp at h
 | x::s,y::t,h=>by
  simp only[List.map_cons,List.cons.injEq]at h;rw[zGv h.1,zBN h.2]
theorem zIp {x:aa ax}:x∈l.map kb↔bk x∈l:=by
 constructor
 .intro h;obtain⟨y,o,rfl⟩:=List.mem_map.1 h
  rwa [zGL]
 .intro h;exact List.mem_map.2 ⟨_,h,zJv x⟩
theorem IsIds.unique {L v:aa Mem}{u o:aa a0}(h:IsIds L u)(y:IsIds v o)(z:∀ x,(best L x).isSome=(best v x).isSome):u=o:=by
 refine zBN (AscS.ext h.asc y.asc λx=>?_);rw[zIp,zIp,h.mem,y.mem,z]
def own1 (L:aa Mem)(ids:aa a0):aa Mem:=ids.map λx=>((best L (kb x)).getD Mem.zero).k
structure IsCmp {α:Type}(c:α->α->a1):Prop where
 zero:∀ x y,c x y=0->x=y
 turn:∀ x y,c y x=- c x y
 trans:∀ x y z,c x y<0->c y z<0->c x z<0
theorem IsCmp.self {c:α->α->a1}(h:IsCmp c)(x:α):c x x=0:=by have:=h.turn x x;omega
theorem zGI : ∀ a b:aa ax,bc b a=- bc a b
 | [],[]=>rfl
 | [],_::_=>rfl
 | _::_,[]=>rfl
 | a::s,b::t=>by
  have v:=zGI s t;unfold bc;by_cases o:a<b
  .have u:¬ b<a:=λh=>UInt8.lt_asymm o h
   simp[o,u]
  .by_cases u:b<a;·simp[o,u]
   .simp[o,u,v]
theorem zGJ : ∀ a b c:aa ax,bc a b<0->bc b c<0->bc a c<0
 | [],[],_,h,_=>by simp[bc]at h
 | [],_::_,[],_,h=>by simp[bc]at h
 | [],_::_,_::_,_,_=>by simp[bc]
 | _::_,[],_,h,_=>by simp[bc]at h
 | _::_,_::_,[],_,h=>by simp[bc]at h
 | a::s,b::t,c::u,h,o=>by
  have F:=zGJ s t u;unfold bc at h o ⊢;by_cases z:a<b
  .by_cases v:b<c;·rw[ay (UInt8.lt_trans z v)];decide
   .rw[au v]at o;by_cases y:c<b;·rw[ay y]at o;omega
    .have e:b=c:=dz (UInt8.not_lt.1 y) (UInt8.not_lt.1 v);subst e;rw[ay z];decide
  .rw[au z]at h;by_cases y:b<a;·rw[ay y]at h;omega
   .have e:a=b:=dz (UInt8.not_lt.1 y) (UInt8.not_lt.1 z);subst e;rw[au y]at h;by_cases v:a<c;·rw[ay v];decide
    .rw[au v]at o ⊢;by_cases A:c<a;·rw[ay A]at o;omega
     .rw[au A]at o ⊢;exact F h o
theorem zL8 {y:a0}(h:x.data.toList=y.data.toList):x=y:=by
 cases x;cases y;simp only at h
 congr 1
 exact Array.toList_inj.1 h
theorem zLt : ∀ a b:aa a0,cmpN b a=- cmpN a b
 | [],[]=>rfl
 | [],_::_=>rfl
 | _::_,[]=>rfl
 | a::s,b::t=>by
  have o:=zLt s t;unfold cmpN;by_cases h:a=b;·subst h;simp[o]
  .rw[au h,au (Ne.symm h)];exact zGI _ _
theorem zJH : ∀ a b c:aa a0,cmpN a b<0->cmpN b c<0->cmpN a c<0
 | [],[],_,h,_=>by simp[cmpN]at h
 | [],_::_,[],_,h=>by simp[cmpN]at h
 | [],_::_,_::_,_,_=>by simp[cmpN]
 | _::_,[],_,h,_=>by simp[cmpN]at h
 | _::_,_::_,[],_,h=>by simp[cmpN]at h
 | a::s,b::t,c::u,h,o=>by
  have A:=zJH s t u;unfold cmpN at h o ⊢;by_cases y:a=b
  .subst y;rw[ay rfl]at h;by_cases v:a=c
   .subst v;rw[ay rfl]at o ⊢;exact A h o
   .rw[au v]at o ⊢;exact o
  .rw[au y]at h;by_cases v:b=c
   .subst v;rw[au y];exact h
   .rw[au v]at o;have F:=zGJ _ _ _ h o;by_cases z:a=c
    .subst z;have:=zGI a.data.toList b.data.toList;omega
    .rw[au z];exact F
theorem zIQ (c:ax):∀ s:aa ax,br (spl c s) [c]=s
 | []=>rfl
 | x::t=>by
  have o:=zIQ c t;unfold spl;split
  .rename_i e;subst e;rcases h:spl x t with _|⟨a,r⟩
   .exact bf h (zN1 _ _)
   .rw[h]at o;simp[br]at o ⊢;exact o
  .rcases h:spl c t with _|⟨a,r⟩
   .exact bf h (zN1 _ _)
   .rw[h]at o;cases r with
    | nil=>simp[br]at o ⊢;exact o
    | cons b r=>simp[br]at o ⊢;exact o
theorem zNL {s t:a0}(v:zo s=ah)(A:zo t=ah)(h:sparts s=sparts t):s=t:=by
 unfold zo at v A;simp only[Bool.and_eq_true]at v A;have o:∀ x:a0,da x.data.toList [47]=ah->x.data.toList=47::br ((sparts x).map λy=>y.data.toList) [47]:=by
  intro x u;have F:(sparts x).map (λy=>y.data.toList)=spl 47 (db x.data.toList [47]):=by
   unfold sparts;rw[co];have:((λy:a0=>y.data.toList)∘λx:aa ax=>(⟨x.toArray⟩:a0))=id:=(by funext z;simp);rw[this,di]
  rw[F,zIQ];unfold db;rw[ay u];unfold da at u;rcases hl:x.data.toList with _|⟨a,r⟩
  .rw[hl]at u;simp at u
  .rw[hl]at u;simp at u;simp[<-u]
 apply zL8;rw[o s v.1,o t A.1,h]
theorem zB6: IsCmp pathO:=by
 refine⟨λs t h=>?_,λs t=>?_,λs t u h o=>?_⟩
 .unfold pathO at h;cases hs:zo s<;>cases ht:zo t<;>simp[hs,ht]at h;·exact zL8 (zAV _ _ h)
  .exact zNL hs ht (zHD _ _ h)
 .unfold pathO;cases hs:zo s<;>cases ht:zo t<;>simp;·exact zGI _ _
  .exact zLt _ _
 .unfold pathO at h o ⊢;cases hs:zo s<;>cases ht:zo t<;>cases hu:zo u<;>simp[hs,ht,hu]at h o ⊢;·exact zGJ _ _ _ h o
  .exact zJH _ _ _ h o
def zAr (good:Mem->bi)(g:a0×a1->ac Mem)(m:Mem):a0×a1->ac Mem:=λx=>
 if (good m&&decide (x=(m.i,m.s))&&(match g x with|none=>ah|some o=>ahead m o))=ah then B m else g x
def zU (good:Mem->bi)(L:aa Mem):a0×a1->ac Mem:=L.foldl (zAr good) λ_=>R
section
variable {good:Mem->bi}
theorem zAW (L:aa Mem)(m:Mem):zU good (L++[m])=zAr good (zU good L) m:=by simp[zU,cl]
theorem zDZ (g:a0×a1->ac Mem)(m:Mem)(x:a0×a1):(zAr good g m x=B m/\good m=ah/\x=(m.i,m.s)/\∀ o,g x=B o->ahead m o=ah)\/(zAr good g m x=g x/\(good m=ah->x=(m.i,m.s)->∃ o,g x=B o/\ahead m o=ak)):=by
 by_cases u:good m=ah
 .by_cases v:x=(m.i,m.s)
  .rcases hg:g x with _|o
   .refine .inl ⟨?_,u,v,λo y=>by cases y⟩;unfold zAr;rw[hg];simp[u,v]
   .cases ha:ahead m o with
    | true=>
     refine .inl ⟨?_,u,v,λz y=>by cases y;exact ha⟩;unfold zAr;rw[hg];simp[u,v,ha]
    | false=>
     refine .inr ⟨?_,λ_ _=>⟨o,rfl,ha⟩⟩;unfold zAr;rw[hg];simp[ha]
  .refine .inr ⟨?_,λ_ h=>bf h v⟩;unfold zAr;rw[au (by simp[v])]
 .refine .inr ⟨?_,λh=>bf h u⟩;unfold zAr;rw[au (by simp[u])]
theorem zEn {g:a0×a1->ac Mem}{m:Mem}(h:good m=ak):zAr good g m=g:=by
 funext x;unfold zAr;rw[au (by simp[h])]
theorem zH6 {g:a0×a1->ac Mem}{m o:Mem}(u:g (m.i,m.s)=B o)(h:ahead m o=ak):zAr good g m=g:=by
 funext x;unfold zAr
 by_cases e:x=(m.i,m.s)
 .subst e;rw[u];simp[h]
 .rw[au (by simp[e])]
theorem zCW {g:a0×a1->ac Mem}{m:Mem}(u:good m=ah)(h:∀ o,g (m.i,m.s)=B o->ahead m o=ah):zAr good g m=λx=>if x=(m.i,m.s)then B m else g x:=by
 funext x;unfold zAr
 by_cases e:x=(m.i,m.s)
 .subst e;rw[ay rfl];rcases hg:g (m.i,m.s)with _|o
  .simp[u]
  .simp[u,h o hg]
 .rw[au (by simp[e]),au e]
theorem zAN (L:aa Mem):∀ x m,zU good L x=B m->m∈L/\good m=ah/\(m.i,m.s)=x:=by
 refine zDA (P:=λL=>∀ x m,zU good L x=B m->m∈L/\good m=ah/\(m.i,m.s)=x) ?_ ?_ L;·intro x m h;cases h
 .intro l y u x m h;rw[zAW]at h;rcases zDZ (zU good l) y x with⟨o,v,z,_⟩|⟨o,_⟩
  .rw[o]at h;cases h;exact⟨by simp,v,z.symm⟩
  .rw[o]at h;obtain⟨a,b⟩:=u x m h;exact⟨by simp[a],b⟩
theorem zKA (L:aa Mem):∀ m∈L,good m=ah->∃ o,zU good L (m.i,m.s)=B o:=by
 refine zDA (P:=λL=>∀ m∈L,good m=ah->∃ o,zU good L (m.i,m.s)=B o) ?_ ?_ L;·intro m h;cases h
 .intro l y A m u z;rw[zAW];rcases zDZ (zU good l) y (m.i,m.s)with⟨v,_⟩|⟨v,F⟩
  .exact⟨y,v⟩
  .rw[v];rcases List.mem_append.1 u with u|u
   .exact A m u z
   .obtain rfl:m=y:=by simpa using u
    obtain⟨o,I,_⟩:=F z rfl;exact⟨o,I⟩
end
def soundB (m:Mem):Bool:=!m.p.toList.isEmpty&&(decide (1<=m.s)&&decide (m.s<=16))&&(decide (1<=m.t)&&decide (m.t<=16))
structure Arr where
 i:a0
 ps:aa a0
 t:a1
 e:a1
 n:a1
 l:aa a0
def zAS (b:a0×a1->ac Mem)(id:a0):a1:=(((bg 16).find? λ(k:E)=>(b (id,(k:a1)+1)).isSome).getD 0:E)+1
def zr (b:a0×a1->ac Mem)(id:a0):Mem:=(b (id,zAS b id)).getD Mem.zero
def pathAt (b:a0×a1->ac Mem)(id:a0)(k:E):a0:=match b (id,(k:a1)+1)with|some m=>m.p|none=>()
def buildA (b:a0×a1->ac Mem)(id:a0):Arr:=
 ⟨id,(bg (zr b id).t.toNat).map (pathAt b id),(zr b id).t,(zr b id).e,((bg (zr b id).t.toNat).filter λ(k:E)=>(b (id,(k:a1)+1)).isSome).length,(zr b id).l⟩
structure IsIds2 (b:a0×a1->ac Mem)(ids:aa a0):Prop where
 asc:AscS (ids.map kb)
 mem:∀ x:a0,x∈ids↔∃ s:a1,(b (x,s)).isSome=ah
theorem IsIds2.unique {b:a0×a1->ac Mem}{u o:aa a0}(h:IsIds2 b u)(v:IsIds2 b o):u=o:=by
 refine zBN (AscS.ext h.asc v.asc λx=>?_);rw[zIp,zIp,h.mem,v.mem]
structure IsSlots (b:a0×a1->ac Mem)(id:a0)(zs:aa a1):Prop where
 nodup:zs.Nodup
 mem:∀ s:a1,s∈zs↔(b (id,s)).isSome=ah
theorem zF3 {b:a0×a1->ac Mem}{u:a0}(h:IsSlots b u zs)(y:∀ s∈zs,1<=s/\s<=16){m:a1}(v:m∈zs)(o:∀ s∈zs,m<=s):zAS b u=m:=by
 unfold zAS;obtain⟨A,F⟩:=y m v;obtain⟨k,rfl⟩:∃ k:E,m=(k:a1)+1:=⟨(m-1).toNat,by omega⟩
 have z:(bg 16).find? (λ(k:E)=>(b (u,(k:a1)+1)).isSome)=B k:=by
  rw[List.find?_range_eq_some];refine⟨(h.mem _).1 v,List.mem_range.2 (by omega),λj I=>?_⟩;cases hb:(b (u,(j:a1)+1)).isSome with
  | false=>rfl
  | true=>
   have:=o _ ((h.mem _).2 hb);omega
 rw[z];rfl
def psJ (b:a0×a1->ac Mem)(id:a0)(T:E)(zs:aa a1):aa a0:=(bg T).map λ(k:E)=>if ((k:a1)+1)∈zs then pathAt b id k else ()
def cntJ (T:a1)(zs:aa a1):E:=(zs.filter λs=>decide (s<=T)).length
theorem zFq (b:a0×a1->ac Mem)(h:a0)(T:E)(zs:aa a1):(psJ b h T zs).length=T:=by simp[psJ]
theorem zOz (b:a0×a1->ac Mem)(h:a0)(T:E):psJ b h T []=ce T ⟨#[]⟩:=by
 unfold psJ;simp only[dj,if_false];rw[List.map_const',dg]
theorem zOy (b:a0×a1->ac Mem)(h:a0)(T:E)(zs:aa a1)(k:E)(v:k<T):psJ b h T (zs++[(k:a1)+1])=(psJ b h T zs).set k (pathAt b h k):=by
 apply dc;intro j;rw[List.getElem?_set];unfold psJ;by_cases o:j<T
 .simp only[cd,List.getElem?_range o,Option.map_some,cn,dg];by_cases e:k=j
  .subst e;simp[o]
  .have:((j:a1)+1∈zs++[(k:a1)+1])↔(j:a1)+1∈zs:=by
    simp;omega
   simp only[this,au e]
 .have u:(bg T)[j]?=none:=cm (by simp;omega);rw[cd,cd,u];have e:k≠j:=by omega
  simp[e]
theorem zMp (b:a0×a1->ac Mem)(h:a0)(T:E)(zs:aa a1)(s:a1)(v:¬ s<=T):psJ b h T (zs++[s])=psJ b h T zs:=by
 unfold psJ;refine dh (λk o=>?_);have u:=List.mem_range.1 o;have:((k:a1)+1∈zs++[s])↔(k:a1)+1∈zs:=by simp;omega
 simp only[this]
theorem zMq {b:a0×a1->ac Mem}{o:a0}(h:IsSlots b o zs)(T:E):psJ b o T zs=(bg T).map (pathAt b o):=by
 unfold psJ;refine dh (λk _=>?_);split;·rfl
 .rename_i u;rw[h.mem]at u;unfold pathAt;rcases hb:b (o,(k:a1)+1)with _|m
  .rfl
  .rw[hb]at u;simp at u
theorem zLs {b:a0×a1->ac Mem}{o:a0}(h:IsSlots b o zs)(z:∀ s∈zs,1<=s)(T:E):cntJ T zs=((bg T).filter λ(k:E)=>(b (o,(k:a1)+1)).isSome).length:=by
 unfold cntJ;have A:(zs.filter λs=>decide (s<=(T:a1))).Perm (((bg T).filter λ(k:E)=>(b (o,(k:a1)+1)).isSome).map λk:E=>(k:a1)+1):=by
  rw[List.perm_ext_iff_of_nodup]
  .intro s;simp only[List.mem_filter,List.mem_map,List.mem_range,decide_eq_true_eq];constructor
   .rintro ⟨u,y⟩;have F:=z s u;refine⟨(s-1).toNat,⟨by omega,?_⟩,by omega⟩;rw[show (((s-1).toNat:E):a1)+1=s by omega];exact(h.mem s).1 u
   .rintro ⟨k,⟨u,y⟩,rfl⟩;exact⟨(h.mem _).2 y,by omega⟩
  .exact h.nodup.sublist dd
  .refine List.pairwise_map.2 ((List.nodup_range.sublist dd).imp (fun {a b} v e=>v (by omega)))
 rw[A.length_eq,cn]
theorem zHC (T:a1)(zs:aa a1)(s:a1):cntJ T (zs++[s])=cntJ T zs+(if s<=T then 1 else 0):=by
 unfold cntJ;rw[ck,bs]
 congr 1
 by_cases h:s<=T<;>simp[h]
theorem zPa (T:a1)(zs:aa a1):cntJ T zs<=(zs:E):=df _ _
theorem zPw (a:ac an)(u:E)(l:aa a1)(w:am)(J:Ints w a u l)(N:1<=(l:E)):
  ba ap 199 #[af a l u] w λe w'=>(∃ m,e=.returned (ai ae m)/\m∈l/\∀ x∈l,m<=x)/\w=w':=by
 have hn:¬ ((l:E):a1)<1:=by omega
 have hm:=J.lenmax;have a4:(0:a1)<(l:E):=by omega
 obtain⟨b,a5,Z,rfl,z,O⟩:=J.at (k:=0) (by omega);rw[dk]at O;have U:=zh z;clear z;go_enter Tryz.func199,Tryz.ntmps199;go_wp2_with fail
 go_loop [3,4] (λv i=>∃ (k:E) (m:a1),1<=k/\k<=(l:E)/\v=ai ae m/\i=ai ae (k:a1)/\ag (m∈l.take k/\∀ x∈l.take k,m<=x)) (λ_ i=>(l:E)-(bd i).toNat)
 case atStart=>
  refine⟨1,Z,by omega,N,rfl,rfl,?_⟩;unfold ag;have:l.take 1=[Z]:=by rw[bt,U];rfl
  rw[this];simp
 case round=>
  obtain⟨k,m,a6,hk,rfl,rfl,I⟩:=hrel;by_cases V:k<(l:E)
  .have a2:(k:a1)<(l:E):=by omega
   obtain⟨b',a3,x,e,hx,hc⟩:=J.at V;cases e;have A:ag (l.take (k+1)=l.take k++[x]):=(by unfold ag;rw[bt,hx];rfl);clear hx;by_cases o:m<=x
   .have F:min m x=m:=(by omega);go_wp2_with fail
    go_round
    case rel=>
     refine⟨k+1,m,by omega,by omega,by first|rfl|(rw[ay o]),by go_num,?_⟩;unfold ag;rw[A];obtain⟨h1,X⟩:=I.out;refine⟨by simp[h1],λy Y=>?_⟩;rcases List.mem_append.1 Y with h|h
     .exact X y h
     .obtain rfl:y=x:=by simpa using h
      exact o
    case measure=>simp[bd];omega
   .have F:min m x=x:=(by omega);go_wp2_with fail
    go_round
    case rel=>
     refine⟨k+1,x,by omega,by omega,by first|rfl|(rw[au o]),by go_num,?_⟩;unfold ag;rw[A];obtain⟨h1,X⟩:=I.out;refine⟨by simp,λy Y=>?_⟩;rcases List.mem_append.1 Y with h|h
     .have:=X y h;omega
     .obtain rfl:y=x:=by simpa using h
      omega
    case measure=>simp[bd];omega
  .obtain rfl:k=(l:E):=by omega
   have h:=I.out;rw[cf]at h;have Hr:=zh h;clear h I;go_wp2;go_ret;exact⟨⟨m,rfl,Hr.1,Hr.2⟩,rfl⟩
theorem zOb (h:ac E)(w:am):ba ap 249 #[.map h] w λe w'=>e=.returned (.func (.func 286) #[] #[bn (B ⟨w,0,R⟩)])/\w'=w.alloc (ab #[.map h] 277):=
 (callsIn_wide (n:=5)).1 (AnyZ.keys_in dr bx 5 trivial rfl h w)
theorem zKT (mb U J:E)(f:aa ax->aa a1)(N:E)(w:am)(hs:GMap w J mb f N)(hN:N<=1099511627776)(hB:w ⟨U,0,R⟩=B (.map (B mb)))(a4:U<(w:E)):
  ba ap 201 #[.func (.func 286) #[] #[bn (B ⟨U,0,R⟩)]] w λe w'=>
   (∃ a F u,e=.returned (.slice a u.length F)/\Strs w' a F u/\AscS (u.map kb)/\(∀ x:a0,x∈u↔(f (kb x))≠[])/\u.length<=N/\∀ ad,a=B ad->(w:E)<=ad.block)/\Fr No w w':=by
 obtain⟨D,n,hn,hg,_,hf⟩:=hs;obtain⟨es,O,X,Ft,Y,hD,_⟩:=hg;have o:w.ownsMap ap 9 (rowElem w J 3 ae) mb n D:=⟨es,O,X,Ft,Y,hD⟩
 clear X Ft Y hD;have a8:=o.size_le;have Z:cq D<=maxLen:=by unfold az;omega
 have I:cq D*16<=140737488355328:=by omega
 have a2:=zEN o dy;have a5:=zCk o lawS dy;have a7:=zD4 D;have a3:SeqGives bx 2 ap 286 #[bn (B ⟨U,0,R⟩)] encStr (λV=>V.Perm (strKeys D)) (cq D) w:=
  AnyZ.keys_gives (ρ:=Tryz.keysT_ren) { dr with } bx _ trivial rfl (by omega) U mb n D _ a4 hB o
 have cS:=AnyZ.sorted_in Tryz.sortedS bx 5 trivial trivial trivial trivial rfl (by omega) (sortsS _) (enters_of Tryz.func251 (by kernel_rfl) rfl) 286 #[bn (B ⟨U,0,R⟩)] trivial (enters_of Tryz.func286 (by kernel_rfl) rfl) _ _ Z I _ a3;apply ((callsIn_wide (n:=5)).1 cS).mono;rintro e w' ⟨v,V,rfl,z,A,_,hb⟩;have hp:(V.mergeSort (λx y=>decide (x<=y))).Perm (strKeys D):=(List.mergeSort_perm V _).trans z;obtain⟨L,hL⟩:∃ L,L=(V.mergeSort (λx y=>decide (x<=y))):=⟨_,rfl⟩
 have hl:(L.map bk).length=V.length:=by rw[hL];simp
 have e1:L.map encStr=(L.map bk).map Value.string:=by rw[co];rfl
 rw[<-hL]at hp A;rw[<-hl,e1]at A;obtain⟨a,F,rfl,h1,h2⟩:=Strs.of_own A;have e2:(L.map bk).map kb=L:=by
  rw[co];have:kb∘bk=id:=by funext x;exact zJv x
  rw[this,di]
 refine⟨⟨a,F,L.map bk,rfl,h1,?_,λx=>?_,?_,h2⟩,Fr.of_below_size hb⟩;·rw[e2,hL];exact zEo (z.nodup_iff.2 a5)
 .have a6:f (kb x)≠[]↔has D (.string (kb x))=true:=by rw[hf];cases f (kb x)<;>simp
  rw[a6,<-a2,<-hp.mem_iff];constructor
  .intro h;obtain⟨y,hy,rfl⟩:=List.mem_map.1 h
   rwa [zJv]
  .intro h;exact List.mem_map.2 ⟨_,h,zGL x⟩
 .rw[cn,hp.length_eq];omega
theorem zJb (v u:E)(f:aa ax->aa a1)(N:E)(w:am)(V:GMap w u v f N)(hN:N<=1099511627776):
  ba ap 198 #[.map (B v)] w λe w'=>
   (∃ a A h,e=.returned (af a h.length A)/\Strs w' a A h/\AscS (h.map kb)/\(∀ x:a0,x∈h↔(f (kb x))≠[])/\h.length<=N/\∀ J,a=B J->(w:E)<=J.block)/\Fr No w w':=by
 have a2:v<(w:E):=V.lt;have X:Fr No w (w.alloc (ab #[.map (B v)] 277)):=(ao _ _).alloc _;have F:GMap (w.alloc (ab #[.map (B v)] 277)) u v f N:=V.grown (World.grownBy_alloc w _ R) (by simp) (λj hj=>by cases hj);have Y:=zF w (ab #[.map (B v)] 277);have O:(w:E)<(w.alloc (ab #[.map (B v)] 277)).heap.size:=by simp
 go_enter Tryz.func198,Tryz.ntmps198;go_wp2_with fail;apply (zOb _ _).mono;rintro en w1 ⟨rfl,rfl⟩;go_wp2_with fail;generalize w.alloc (ab #[.map (B v)] 277)=W1 at *;apply (zKT v (w:E) u f N W1 F hN (zB Y 0) O).mono;rintro en w2 ⟨⟨ia,ic,h,rfl,Z,y,z,U,o⟩,I⟩;have H:=zg5 Z y z o (X.step I zi);clear Z y z o I F Y X;go_wp2;go_ret;exact⟨⟨ia,ic,h,rfl,H.1,H.2.1,H.2.2.1,U,λJ e=>by have:=H.2.2.2.1 J e;omega⟩,H.2.2.2.2⟩
theorem zLh (p i:a0)(r s t e:a1)(v:aq)(w:am):
  ba ap 153 #[ar #[p,i,r,s,t,e,v]] w λA w'=>A=.returned (.bool (!p.toList.isEmpty&&(decide (1<=s)&&decide (s<=16))&&(decide (1<=t)&&decide (t<=16))))/\Fr No w w':=by
 have y:Fr No w (w.alloc (ab #[p,i,r,s,t,e,v] 226)):=(ao _ _).alloc _;have h:=zh y;clear y;obtain⟨b,u⟩:=ε (!p.toList.isEmpty&&(decide (1<=s)&&decide (s<=16))&&(decide (1<=t)&&decide (t<=16)))
 rw[<-u];have o:=zh u;clear u;go_enter Tryz.func153,Tryz.ntmps153;rcases h1:p.toList.isEmpty with _|_
 .by_cases F:1<=s
  .by_cases I:s<=16
   .by_cases J:1<=t
    .by_cases z:t<=16
     .go_wp2;go_ret;exact⟨by rw[o.out,h1];simp[F,I,J,z],h.out⟩
     .go_wp2;go_ret;exact⟨by rw[o.out,h1];simp[z],h.out⟩
    .go_wp2;go_ret;exact⟨by rw[o.out,h1];simp;omega,h.out⟩
   .go_wp2;go_ret;exact⟨by rw[o.out,h1];simp;omega,h.out⟩
  .go_wp2;go_ret;exact⟨by rw[o.out,h1];simp;omega,h.out⟩
 .go_wp2;go_ret;exact⟨by rw[o.out,h1];simp,h.out⟩
theorem zPr (p i:a0)(r s t e:a1)(v:aq)(w:am):
  ba ap 158 #[ar #[p,i,r,s,t,e,v]] w λu w'=>u=.returned (.bool (!p.toList.isEmpty&&(decide (1<=s)&&decide (s<=16))&&(decide (1<=t)&&decide (t<=16))))/\Fr No w w':=by
 have y:Fr No w (w.alloc (ab #[p,i,r,s,t,e,v] 226)):=(ao _ _).alloc _;have z:=zLh p i r s t e v (w.alloc (ab #[p,i,r,s,t,e,v] 226));have A:=zh y;clear y;go_enter Tryz.func158,Tryz.ntmps158;go_wp2_with fail;apply z.mono;rintro u I ⟨rfl,h⟩;have H:=zh (A.step h zi);clear h z;obtain⟨b,o⟩:=ε (!p.toList.isEmpty&&(decide (1<=s)&&decide (s<=16))&&(decide (1<=t)&&decide (t<=16)))
 rw[<-o];have F:=zh o;clear o;go_wp2;go_ret;exact⟨by rw[<-F];rfl,H⟩
structure ArrM extends Arr where
 pa:ac an
 pc:E
 la:ac an
 lc:E
def ArrM.vals (m:ArrM):Array aq:=#[al m.i,af m.pa m.ps m.pc,ai ae m.t,ai ae m.e,ai ae m.n,af m.la m.l m.lc]
structure Arrs (w:am)(a:ac an)(cap:E)(L:aa ArrM):Prop where
 len:(L:E)<=cap
 max:cap<=az
 isNil:a=R->L=[]/\cap=0
 ok:∀ m∈L,Strs w m.pa m.pc m.ps/\Strs w m.la m.lc m.l
 cell:∀ ad,a=B ad->L≠[]->ad.spot=R/\ad.block<(w:E)/\∀ i m,L[i]?=B m->∀ j,j<6->w ⟨ad.block,ad.off+(i*6+j),R⟩=m.vals[j]?
structure ArrAt (w:am)(b o:E)(m:ArrM):Prop where
 c0:w ⟨b,o,R⟩=B (al m.i)
 c1:w ⟨b,o+1,R⟩=B (af m.pa m.ps m.pc)
 c2:w ⟨b,o+2,R⟩=B (ai ae m.t)
 c3:w ⟨b,o+3,R⟩=B (ai ae m.e)
 c4:w ⟨b,o+4,R⟩=B (ai ae m.n)
 c5:w ⟨b,o+5,R⟩=B (af m.la m.l m.lc)
theorem Arrs.elem {L:aa ArrM}(h:Arrs w a y L){k:E}(v:k<(L:E)):
  ∃ b o m,a=B ⟨b,o,R⟩/\L[k]?=B m/\(Strs w m.pa m.pc m.ps/\Strs w m.la m.lc m.l)/\ArrAt w b (o+k*6) m/\b<(w:E):=by
 cases a with
 | none=>obtain⟨rfl,_⟩:=h.isNil rfl;simp at v
 | some A=>
  obtain⟨b,o,J⟩:=A;obtain⟨z,F,I⟩:=h.cell _ rfl (by intro e;subst e;simp at v);simp at z;subst z;have u:=I k _ (de v);exact⟨b,o,L[k],rfl,de v,h.ok _ (List.getElem_mem v),⟨u 0 (by omega),u 1 (by omega),u 2 (by omega),u 3 (by omega),u 4 (by omega),u 5 (by omega)⟩,F⟩
theorem Arrs.lenmax {L:aa ArrM}(h:Arrs w a o L):(L:E)<=9223372036854775807:=by
 have v:=h.len;have u:=h.max;unfold az at u;omega
theorem Arrs.fr {S:E->Prop}{L:aa ArrM}(h:Arrs w a u L)(y:Fr S w w')(I:∀ o,a=B o->L≠[]->¬ S o.block)(A:∀ m∈L,(∀ o,m.pa=B o->m.ps≠[]->¬ S o.block)/\∀ o,m.la=B o->m.l≠[]->¬ S o.block):Arrs w' a u L:=
 ⟨h.len,h.max,h.isNil,λm z=>⟨(h.ok m z).1.fr y (A m z).1,(h.ok m z).2.fr y (A m z).2⟩,λo e v=>by
  obtain⟨J,F,N⟩:=h.cell o e v;refine⟨J,dm F y.size,λi m O j U=>?_⟩;rw[<-N i m O j U];exact World.cell?_of_block (y.block _ F (I o e v))⟩
theorem Arrs.nil (w:am):Arrs w R 0 []:=⟨by simp,by simp,λ_=>⟨rfl,rfl⟩,by simp,λ_ e _=>by cases e⟩
theorem infoAr: (Tryz.prog.info? 176).map (λi=>(i.zero,i.size,i.bytes))=B (B (ar #[aw,af R 0 0,ai ae 0,ai ae 0,ai ae 0,af R 0 0]),6,88):=by kernel_rfl
def arflat (L:aa ArrM):aa aq:=L.flatMap (λm=>m.vals.toList)
theorem zIC (L:aa ArrM)(m:ArrM):arflat (L++[m])=arflat L++m.vals.toList:=by simp[arflat]
theorem zKB (m:ArrM):∀ u∈m.vals.toList,u.oneCell'=true:=by
 intro u h;simp[ArrM.vals]at h;rcases h with rfl|rfl|rfl|rfl|rfl|rfl<;>rfl
theorem zHG : ∀ (L:aa ArrM) (i:E) (m:ArrM),L[i]?=B m->∀ j,j<6->(arflat L)[i*6+j]?=m.vals[j]?
 | [],i,m,h,j,o=>by simp at h
 | x::t,0,m,h,j,o=>by
  simp at h;subst h;have:arflat (x::t)=x.vals.toList++arflat t:=by simp[arflat]
  rw[this,List.getElem?_append_left (by simp[ArrM.vals];omega)];simp
 | x::t,i+1,m,h,j,o=>by
  have:arflat (x::t)=x.vals.toList++arflat t:=by simp[arflat]
  rw[this,List.getElem?_append_right (by simp[ArrM.vals];omega),show (i+1)*6+j-x.vals.toList.length=i*6+j from by simp[ArrM.vals];omega];exact zHG t i m (by simpa using h) j o
theorem Arrs.of_own {v:aq}{L:aa ArrM}(h:w.ownsRow u e 6 v (L:E) (arflat L))(z:∀ m∈L,Strs w m.pa m.pc m.ps/\Strs w m.la m.lc m.l):
  ∃ a o,v=af a L o/\Arrs w a o L/\∀ y,a=B y->u<=y.block:=by
 obtain⟨_,⟨rfl,A⟩|⟨g,o,F,rfl,O,I,U,A,h3,V⟩⟩:=h
 .have:L=[]:=List.eq_nil_of_length_eq_zero A;subst this;exact⟨R,0,rfl,Arrs.nil w,λ_ e=>by cases e⟩
 .refine⟨B ⟨g,0,R⟩,o,rfl,⟨U,A,(λe=>by cases e),z,?_⟩,λy e=>by cases e;exact O⟩;intro y e X;cases e;refine⟨rfl,zC I,λi m J j Y=>?_⟩;rw[zB I];simp only[dn];have Z:i<(L:E):=(List.getElem?_eq_some_iff.1 J).1;have N:(F.toList.take ((L:E)*6))[i*6+j]?=(arflat L)[i*6+j]?:=by rw[V]
  rw[List.getElem?_take_of_lt (by omega),zHG L i m J j Y]at N;rw[<-Array.getElem?_toList,N]
def AFresh (w:am)(base:E)(L:aa ArrM):Prop:=∀ m∈L,(Strs w m.pa m.pc m.ps/\Strs w m.la m.lc m.l)/\(BlkT w m.pa 9/\BlkT w m.la 9)/\(∀ ad,m.pa=B ad->base<=ad.block)/\∀ ad,m.la=B ad->base<=ad.block
theorem AFresh.fr {S:E->Prop}{L:aa ArrM}(h:AFresh w u L)(y:Fr S w w')(A:∀ b,u<=b->b<(w:E)->¬ S b):AFresh w' u L:=λm U=>by
 obtain⟨⟨V,X⟩,⟨F,I⟩,J,N⟩:=h m U;have O:∀ o,m.pa=B o->¬ S o.block:=λo e=>by obtain⟨cs,z⟩:=F o e;exact A _ (J o e) (zC z)
 have v:∀ o,m.la=B o->¬ S o.block:=λo e=>by obtain⟨cs,z⟩:=I o e;exact A _ (N o e) (zC z)
 exact⟨⟨V.fr y (λo e _=>O o e),X.fr y (λo e _=>v o e)⟩,⟨F.fr y O,I.fr y v⟩,J,N⟩
theorem AFresh.own {L:aa ArrM}{v:aq}{O:aa aq}(h:AFresh w o L)(A:w.ownsRow N 176 6 v n O)(y:Fr (λb=>v.ownBlock=B b) w w'):AFresh w' o L:=λm U=>by
 obtain⟨⟨V,X⟩,⟨F,I⟩,Y,Z⟩:=h m U;have J:=BlkT.ne A F (by decide);have u:=BlkT.ne A I (by decide);exact⟨⟨V.fr y (λz e _=>J z e),X.fr y (λz e _=>u z e)⟩,⟨F.fr y J,I.fr y u⟩,Y,Z⟩
theorem AFresh.snoc {L:aa ArrM}{m:ArrM}(h:AFresh w o L)(y:Strs w m.pa m.pc m.ps/\Strs w m.la m.lc m.l)(z:BlkT w m.pa 9/\BlkT w m.la 9)(A:(∀ u,m.pa=B u->o<=u.block)/\∀ u,m.la=B u->o<=u.block):AFresh w o (L++[m]):=λx v=>by
 rcases List.mem_append.1 v with v|v
 .exact h x v
 .obtain rfl:x=m:=by simpa using v
  exact⟨y,z,A⟩
theorem zAx {w:am}{u:Array bh}{h:aa bh}{o:bh}{a:Act}{Q:Exit->Act->am->Prop}(J:o.guard=R)(m x:cg)(t:bo)(z:o.op=ct t m x ak)
  (F I v:aq) (N:a.eval m=F) (O:a.eval x=I) (y:(bq t F I ak).run ap w=.ok v w)
  (U:wpList ap u Q h (a.put o.dst v) w):wpList ap u Q (o::h) a w:=by
 refine wpList_plain J λV A=>?_
 unfold Oper.wp;simp[execOp,z,N,O,y,ch];exact A _ _ U
theorem zEy {w:am}{u:Array bh}{h:aa bh}{o:bh}{a:Act}{Q:Exit->Act->am->Prop}(O:o.guard=R)(m x v:cg)(t:bo)(z:o.op=Op.mapUpdate t m x v)
  (F I J:aq) (U:a.eval m=F) (V:a.eval x=I) (X:a.eval v=J) {N:am} (y:(Instr.mapUpdate t F I J).run ap w=.ok () N)
  (Y:wpList ap u Q h (a.put o.dst undef) N):wpList ap u Q (o::h) a w:=by
 refine wpList_plain O λZ A=>?_
 unfold Oper.wp;simp[execOp,z,U,V,X,y,ch];exact A _ _ Y
theorem zB5 {o:bh}{a:Act}{S:am->Prop}{K:Act->Prop}(N:o.guard=R)(m x:cg)(t:bo)(u:o.op=ct t m x ak)(y z v:aq)(A:a.eval m=y)(F:a.eval x=z)
  (h:∀ W,S W->(bq t y z ak).run ap W=.ok v W) (I:K (a.put o.dst v)):o.quiet ap a S K:=by
 refine⟨v,λW J=>?_,I⟩;unfold dp;simp[execOp,u,A,F,h W J,ch,dq]
theorem hfdM: ∀ (p i:a0) (r s t e:a1) (a:ac an) (n c:E) (W:am),(Instr.field 226 (ar #[p,i,r,s,t,e,af a n c]) 0).run ap W=.ok (al p) W:=by intros;kernel_rfl
theorem Fr.grownF (h:Fr (From (w:E)) w w'):w.grownBy w' none:=⟨h.os,h.tape,h.output,h.size,λk o _=>h.block k o (by omega)⟩
def mapP (g:a0×a1->ac Mem):a0×a1->ac aq:=λx=>(g x).map Mem.v
theorem zIq (g:a0×a1->ac Mem)(x:a0×a1)(m:Mem):updP (mapP g) x m.v=mapP (λy=>if y=x then B m else g y):=by
 funext y
 unfold updP mapP;by_cases h:y=x<;>simp[h]
theorem zQJ: (Tryz.prog.info? 3).map (λi=>(i.zero,i.size,i.bytes))=B (B (ai ae 0),1,8):=by kernel_rfl
structure Grp (D:DataW aq)(left:Lit->bi)(f:aa ax->aa a1):Prop where
 mem:∀ (x:a0) (s:a1),s∈f (kb x)↔(x.size<=az/\(bu ae s).wf=ah/\has D (plL (x,s))=ah/\left (plL (x,s))=ak)
 nodup:∀ x:a0,(f (kb x)).Nodup
theorem Grp.start (D:DataW aq):Grp D (has D) (λ_=>[]):=by
 constructor
 .intro x s;simp only[dj,false_iff];rintro ⟨_,_,o,h⟩;rw[o]at h;cases h
 .exact λ_=>List.nodup_nil
theorem Grp.step {o:Lit->bi}(h:Grp D o f){s:a1}(u:x.size<=az)(v:(bu ae s).wf=ah)(O:o (plL (x,s))=ah)(U:has D (plL (x,s))=ah):
  Grp D (λz=>o z&&!z.sameKey (plL (x,s))) (λz=>if z=kb x then f (kb x)++[s]else f z):=by
 constructor
 .intro y r;by_cases e:y=x
  .subst e;rw[ay rfl,List.mem_append,h.mem];by_cases A:r=s
   .subst A;rw[WideAt.sameKey_self (zHr _)];simp[u,v,U]
   .constructor
    .rintro (⟨a,b,c,d⟩|J);·exact⟨a,b,c,by rw[d];rfl⟩
     .simp at J;exact bf J A
    .rintro ⟨a,b,c,d⟩;refine .inl ⟨a,b,c,?_⟩;cases hk:(plL (y,r)).sameKey (plL (y,s))with
     | true=>
      have:=zHb a b u v (eb hk);simp at this;exact bf this A
     | false=>rw[hk]at d;simpa using d
  .rw[au (λF=>e (zGv F)),h.mem];constructor
   .rintro ⟨a,b,c,d⟩;exact⟨a,b,c,by rw[d];rfl⟩
   .rintro ⟨a,b,c,d⟩;refine⟨a,b,c,?_⟩;cases hk:(plL (y,r)).sameKey (plL (x,s))with
    | true=>
     have:=zHb a b u v (eb hk);simp at this;exact bf this.1 e
    | false=>rw[hk]at d;simpa using d
 .intro y;by_cases e:y=x
  .subst e;rw[ay rfl];refine List.nodup_append.2 ⟨h.nodup y,by simp,λa V b X=>?_⟩;obtain rfl:b=s:=by simpa using X
   intro I;subst I;obtain⟨_,_,_,N⟩:=(h.mem y a).1 V;rw[O]at N;cases N
  .rw[au (λF=>e (zGv F))];exact h.nodup y
theorem zLf {o:Lit}{d:DataW aq}(h:∀ zd,D.atKey o zd=d):has D o=true:=by
 cases hk:has D o with
 | true=>rfl
 | false=>
  have u:=h (.held (.bool ah));have v:=h (.held (.bool ak));rw[atKey_of_not_has hk]at u v;rw[<-v]at u;cases u
theorem Grp.slots {o:Lit->bi}(h:Grp D o f)(A:∀ F,o F=ak){b:a0×a1->ac Mem}
  (u:∀ x:a0×a1,x.1.size<=az->(bu ae x.2).wf=ah->has D (plL x)=(mapP b x).isSome) (I:∀ x s m,b (x,s)=B m->x.size<=az/\(bu ae s).wf=ah) (x:a0):IsSlots b x (f (kb x)):=by
 refine⟨h.nodup x,λs=>?_⟩;rw[h.mem];constructor
 .rintro ⟨a,b',c,_⟩;rw[u (x,s) a b']at c
  simpa [mapP]using c
 .intro J;obtain⟨m,v⟩:=Option.isSome_iff_exists.1 J;obtain⟨y,z⟩:=I x s m v;exact⟨y,z,by rw[u (x,s) y z];simp[mapP,v],A _⟩
theorem IsIds2.of_slots {b:a0×a1->ac Mem}{h:aa a0}(y:AscS (h.map kb))(z:∀ x:a0,x∈h↔f (kb x)≠[])(v:∀ x:a0,IsSlots b x (f (kb x))):IsIds2 b h:=by
 refine⟨y,λx=>?_⟩;rw[z];constructor
 .intro u;obtain⟨s,o⟩:=List.exists_mem_of_ne_nil _ u;exact⟨s,((v x).mem s).1 o⟩
 .rintro ⟨s,o⟩ e;have:=((v x).mem s).2 o;rw[e]at this;cases this
theorem set6 (h:W.heap[b]?=B (ab cs T))(N:cs.size=6)(u y z A F I:aq):
  (((((((W.setCell ⟨b,0,R⟩ u).setCell ⟨b,1,R⟩ y).setCell ⟨b,2,R⟩ z).setCell ⟨b,3,R⟩ A).setCell ⟨b,4,R⟩ F).setCell ⟨b,5,R⟩ I)).heap[b]?=B (ab #[u,y,z,A,F,I] T)/\Fr (Is b) W ((((((W.setCell ⟨b,0,R⟩ u).setCell ⟨b,1,R⟩ y).setCell ⟨b,2,R⟩ z).setCell ⟨b,3,R⟩ A).setCell ⟨b,4,R⟩ F).setCell ⟨b,5,R⟩ I):=by
 have o:∀ {a w:am} (h:Fr (Is b) a w) (i:E) (v:aq),Fr (Is b) a (w.setCell ⟨b,i,R⟩ v):=λh i v=>h.setCell (p:=⟨b,i,R⟩) (λ_=>rfl) v
 refine⟨?_,o (o (o (o (o (o (ao _ _) _ _) _ _) _ _) _ _) _ _) _ _⟩;obtain⟨l⟩:=cs
 match l,N with
 | [_,_,_,_,_,_],_=>
  have O:=zE h 0 u;have U:=zE O 1 y;have V:=zE U 2 z;have X:=zE V 3 A;have Y:=zE X 4 F;have J:=zE Y 5 I;simp only[List.setIfInBounds_toArray,List.set_cons_zero,List.set_cons_succ]at J;exact J
theorem zBO {T P:E}(h:W.ownsRow o 9 1 (af (B ⟨P,0,R⟩) T T) T (bv (bp aw).cells (T*1)).toList):
  W.heap[P]?=B (ab ((ce T (():a0)).map bp).toArray 9):=by
 obtain⟨_,⟨v,_⟩|⟨g,z,u,v,O,A,U,V,F,I⟩⟩:=h;·cases v
 .cases v;rw[A];have J:u.toList=(bv (bp aw).cells (T*1)).toList:=by
   rw[<-I,List.take_of_length_le];rw[Array.length_toList,F];exact dl _
  have N:(bv (bp aw).cells (T*1)).toList=(ce T (():a0)).map Value.string:=by
   apply dc;intro i;by_cases y:i<T
   .rw[cd,List.getElem?_replicate,ay y];simp[bv,Value.cells,y,Nat.mod_one];rfl
   .rw[cm (by simp[bv];omega),cm (by simp;omega)]
  rw[show u=((ce T (():a0)).map bp).toArray by rw[<-N,<-J]]
theorem zFd {P:E}(h:W.heap[P]?=B (ab (l.map bp).toArray 9))(o:(l:E)<=az):Strs W (B ⟨P,0,R⟩) (l:E) l:=by
 refine⟨dl _,o,(λe=>by cases e),λv e _=>?_⟩;cases e;refine⟨rfl,zC h,λi x u=>?_⟩;rw[zB h];simp[u]
theorem QMap.blk {v:E}(h:QMap w v g N):∃ u o,w.heap[v]?=B (.map u o):=by
 obtain⟨D,n,_,⟨u,o,h,_⟩,_⟩:=h;exact⟨u,o,h⟩
theorem QMap.ne_cells (h:QMap w u g N){y:E×E}(z:w.heap[b]?=B (ab cs T y)):b≠u:=by
 obtain⟨A,o,v⟩:=h.blk;intro e;subst e;rw[z]at v;cases v
theorem QMap.ne_own {z:E}(h:QMap w z g N){v:aq}{F:aa aq}(I:w.ownsRow o e u v n F):¬ v.ownBlock=B z:=by
 intro A;obtain⟨_,⟨rfl,_⟩|⟨U,J,O,rfl,V,y,_⟩⟩:=I;·cases A
 .cases A;exact h.ne_cells y rfl
theorem QMap.lookok (h:QMap w u g N){t:bo}{z:aq}(I:(cz e).run ap w=.ok z w)(J:Tryz.prog.underlying t=B (.map 114 e))
  {s:a0} {n:a0} (y:s.size<=az) (A:n.size<=az):(bq t (.map (B u)) (ar #[s,n]) ah).run ap w=.ok (.tuple #[(g (s,n)).getD z,.bool (g (s,n)).isSome]) w:=by
 obtain⟨D,m,_,O,U⟩:=h;obtain⟨F,V⟩:=U (s,n) y A;obtain⟨v,Y,o,X⟩:=O.look_ok lawQ J I (zd:=.held z) (zp:=[]) rfl (keyQ y A);rw[o,F,zF7 F V X]
theorem zAo {o:bh}{a:Act}{S:am->Prop}{K:Act->Prop}(N:o.guard=R)(m x:cg)(t:bo)(u:o.op=ct t m x ah)(y z v:aq)(A:a.eval m=y)(F:a.eval x=z)
  (h:∀ W,S W->(bq t y z ah).run ap W=.ok v W) (I:K (a.put o.dst v)):o.quiet ap a S K:=by
 refine⟨v,λW J=>?_,I⟩;unfold dp;simp[execOp,u,A,F,h W J,ch,dq]
def zFY : aq:=ar #[(),(),(),ai ae 0]
theorem zDr (w:am):(cz 52).run ap w=.ok zFY w:=by kernel_rfl
theorem zPp (w:am):(cz 4).run ap w=.ok (.bool ak) w:=by kernel_rfl
structure RS (c:RC)(w:am)(sa:ac an)(sc:E)(ma:ac an)(mc:E)(S:aa Src)(M:aa Vir)(G:aa (a0×a0)):Prop where
 k:w.heap[c.xb]?=B (ab (rcs c.ka c.kn c.kc c.wt c.a c.n c.cap c.ca c.C.length c.cc c.ea c.en c.ec sa (S:E) sc c.wm c.sm ma (M:E) mc) 86)
 so:w.ownsRow c.b2 123 13 (af sa S sc) (S:E) (sflat S)
 mo:w.ownsRow c.b0 52 4 (af ma M mc) (M:E) (vflat M)
 cs:Srcs w c.ca c.cc c.C
 cb:∀ ad,c.ca=B ad->c.b0<=ad.block/\ad.block<c.b2/\BlkT w c.ca 123
 wmo:QMap w c.wm (wantG M) (M:E)
 smo:QMap w c.sm (seenG G) (G:E)
 ne:c.wm≠c.sm
 lo:c.b0<=c.xb/\c.b0<=c.wm/\c.b0<=c.sm/\c.b0<=c.b2/\c.xb<c.b2/\c.wm<c.b2/\c.sm<c.b2
 b2l:c.b2<=(w:E)
theorem RSt.rs {c:RC}{F:aa (a0×a0)}(h:RSt c w S M F)(I:c.b2<=(w:E)):∃ o u v y,RS c w o u v y S M F:=by
 obtain⟨⟨o,u,v,y,k,J,N⟩,cs,O,z,A,U,V⟩:=h;exact⟨o,u,v,y,k,J,N,cs,O,z,A,U,V,I⟩
theorem RS.fr {T:E->Prop}{c:RC}{y:ac an}{z:E}{A:ac an}{F:E}{N:aa (a0×a0)}(h:RS c w y z A F S M N)(o:Fr T w w')
  (O:¬ T c.xb) (U:¬ T c.wm) (V:¬ T c.sm) (I:∀ b,(aj y S z).ownBlock=B b->¬ T b) (J:∀ b,(aj A M F).ownBlock=B b->¬ T b) (v:∀ u,c.ca=B u->¬ T u.block):RS c w' y z A F S M N:=
 ⟨o.heap h.k O,zG h.so o I,zG h.mo o J,h.cs.fr o (λu e _=>v u e),λu e=>⟨(h.cb u e).1,(h.cb u e).2.1,(h.cb u e).2.2.fr o v⟩,h.wmo.fr o U,h.smo.fr o V,h.ne,h.lo,cr h.b2l o.size⟩
theorem RS.no {c:RC}{o:ac an}{v:ac an}{z:aa (a0×a0)}(h:RS c w o u v y S M z)(A:Fr No w w'):RS c w' o u v y S M z:=
 h.fr A id id id (λ_ _=>id) (λ_ _=>id) (λ_ _=>id)
def inW (M:aa Vir)(q o:a0):Bool:=M.any λv=>decide ((v.q,v.o)=(q,o))
def zAA (M:aa Vir)(v:Vir):aa Vir:=if inW M v.q v.o=ah then M else M++[v]
def zg (M V:aa Vir):aa Vir:=V.foldl zAA M
theorem zGS (M V:aa Vir)(v:Vir):zg M (V++[v])=zAA (zg M V) v:=by unfold zg;rw[cl];rfl
theorem zDw (M:aa Vir)(v:Vir):(zAA M v).length<=(M:E)+1:=by unfold zAA;split<;>simp
theorem zAy : ∀ (V M:aa Vir),(zg M V).length<=(M:E)+(V:E)
 | [],M=>by simp[zg]
 | v::t,M=>by
  have h:=zAy t (zAA M v);have o:=zDw M v;unfold zg at h ⊢;rw[List.foldl_cons,List.length_cons];omega
theorem zE4 (M:aa Vir)(q o:a0):(wantG M (q,o)).isSome=inW M q o:=by
 unfold wantG inW;rw[Option.isSome_map,Bool.eq_iff_iff,List.find?_isSome,List.any_eq_true]
theorem zE5 {v:Vir}(h:inW M v.q v.o=ak):wantG (M++[v])=updQ (wantG M) (v.q,v.o) (ar v.vals):=by
 funext p
 unfold updQ wantG;rw[List.find?_append];by_cases y:p=(v.q,v.o)
 .subst y;rw[ay rfl];have:M.find? (λu=>decide ((u.q,u.o)=(v.q,v.o)))=none:=by
   rw[List.find?_eq_none];intro u z;unfold inW at h;have:=(List.any_eq_false.1 h) u z
   simpa using this
  rw[this];simp
 .rw[au y];have:[v].find? (λu=>decide ((u.q,u.o)=p))=none:=by simp;exact λe=>y (bw e)
  rw[this];simp
theorem zBc {c:E}(h:(aj a n c).ownBlock=B b):∃ o,a=B o/\o.block=b:=by
 cases a with
 | none=>cases h
 | some o=>exact⟨o,rfl,by injection h⟩
theorem zM0 (a:ac an)(n m c d:E):(aj a n c).ownBlock=(aj a m d).ownBlock:=by cases a<;>rfl
theorem RS.grow {c:RC}{w7 X:am}{w6:am}{sa:ac an}{sc:E}{ma:ac an}{mc:E}{a4:aa (a0×a0)}(h:RS c w6 sa sc ma mc S M a4)(O:Fr (Is c.wm) w6 w7){v:Vir}
  (hQ:QMap w7 c.wm (updQ (wantG M) (v.q,v.o) (ar v.vals)) ((M:E)+1)) (a2:inW M v.q v.o=ak) {av:ac an} {cv:E} (U:Fr (λb=>b=c.xb\/(aj ma M mc).ownBlock=B b) w7 X)
  (k5:X.heap[c.xb]?=B (ab (rcs c.ka c.kn c.kc c.wt c.a c.n c.cap c.ca c.C.length c.cc c.ea c.en c.ec sa (S:E) sc c.wm c.sm av ((M:E)+1) cv) 86))
  (h5:X.ownsRow c.b0 52 4 (af av ((M:E)+1) cv) ((M:E)+1) (vflat M++v.vals.toList)):RS c X sa sc av cv S (M++[v]) a4:=by
 have el:(M++[v]).length=(M:E)+1:=by simp
 have a3:∀ b,(aj sa S sc).ownBlock=B b->¬ Is c.wm b:=λb V e=>by unfold Is at e;subst e;exact h.wmo.ne_own h.so V
 have A:=zG h.so O a3;have z:=zG h.mo O (λb V e=>by unfold Is at e;subst e;exact h.wmo.ne_own h.mo V);have J:=O.heap h.k (λe=>h.wmo.ne_cells h.k e);have Z:∀ u,c.ca=B u->¬ Is c.wm u.block:=λu e y=>by
  obtain⟨cs,Y⟩:=(h.cb u e).2.2 u e;exact h.wmo.ne_cells Y y
 have F:∀ u,c.ca=B u->BlkT w7 c.ca 123:=λu e=>(h.cb u e).2.2.fr O Z
 have N:∀ u,c.ca=B u->¬ (u.block=c.xb\/(aj ma M mc).ownBlock=B u.block):=λu e y=>by
  rcases y with y|y
  .obtain⟨cs,Y⟩:=F u e u e;rw[y,J]at Y;injection Y with Y
   injection Y with _ e2
   exact bf e2 (by decide)
  .exact BlkT.ne z (F u e) (by decide) u e y
 have I:=h.smo.fr O (λe=>h.ne (bw e));refine⟨by rw[el];exact k5,zG A U (λb V y=>?_),by rw[el,zB1];exact h5,(h.cs.fr O (λu e _=>Z u e)).fr U (λu e _=>N u e),λu e=>⟨(h.cb u e).1,(h.cb u e).2.1,(F u e).fr U N⟩,?_,I.fr U (λy=>?_),h.ne,h.lo,cr h.b2l (cr O.size U.size)⟩
 .rcases y with y|y
  .subst y;exact zK A J (by decide) V
  .obtain⟨u,rfl,rfl⟩:=zBc V;exact BlkT.ne z (zAI A) (by decide) u rfl y
 .rw[el,zE5 a2];exact hQ.fr U (λy=>by
   rcases y with y|y
   .exact hQ.ne_cells J (bw y)
   .exact hQ.ne_own z y)
 .rcases y with y|y
  .exact I.ne_cells J (bw y)
  .exact I.ne_own z y
def mustB (t e n:a1)(ex xp:bi):Bool:=decide (n=t)||(decide (e<=n)&&(ex||xp))
def mdT : a0:=⟨#[109,100,45]⟩
def mdOf (gi:a0)(ins:aa a0)(r:a1):Vir:=⟨(),mdT++gi,ins.headD ⟨#[]⟩,r⟩
theorem set4 (h:W.heap[b]?=B (ab cs T))(F:cs.size=4)(o u y z:aq):
  ((((W.setCell ⟨b,0,R⟩ o).setCell ⟨b,1,R⟩ u).setCell ⟨b,2,R⟩ y).setCell ⟨b,3,R⟩ z).heap[b]?=B (ab #[o,u,y,z] T)/\Fr (Is b) W ((((W.setCell ⟨b,0,R⟩ o).setCell ⟨b,1,R⟩ u).setCell ⟨b,2,R⟩ y).setCell ⟨b,3,R⟩ z):=by
 have A:∀ {a w:am} (h:Fr (Is b) a w) (i:E) (v:aq),Fr (Is b) a (w.setCell ⟨b,i,R⟩ v):=λh i v=>h.setCell (p:=⟨b,i,R⟩) (λ_=>rfl) v
 refine⟨?_,A (A (A (A (ao _ _) _ _) _ _) _ _) _ _⟩;obtain⟨l⟩:=cs
 match l,F with
 | [_,_,_,_],_=>
  have I:=zE h 0 o;have J:=zE I 1 u;have N:=zE J 2 y;exact zE N 3 z
theorem zPi (v:a0)(t e n:a1)(y:ac an)(z A:E)(F:ac an)(I:E)(o:aa a0)(w:am):
  ba ap 154 #[ar #[v,af y z A,t,e,n,af F o I]] w λX w'=>X=.returned (.bool (decide (n=t)))/\Fr No w w':=by
 have J:Fr No w (w.alloc (ab #[v,af y z A,t,e,n,af F o I] 176)):=(ao _ _).alloc _;have N:=zF w (ab #[v,af y z A,t,e,n,af F o I] 176);obtain⟨U,u⟩:=ε (w.alloc (ab #[v,af y z A,t,e,n,af F o I] 176))
 rw[<-u]at J N;obtain⟨Z,y1,y2,y3,y4,y5⟩:=cl6 N;have V:=zh J;clear J N;go_enter Tryz.func154,Tryz.ntmps154;go_upto_region 1 with(fail)
 rw[<-u];clear u;by_cases h:n=t
 .have Y:(n==t)=true:=by simpa using h
  have O:ag (decide (n=t)=ah):=decide_eq_true h;clear h;go_wp2;go_ret;exact⟨by rw[O];rfl,V⟩
 .have Y:(n==t)=false:=by simpa using h
  have O:ag (decide (n=t)=ak):=ed h;clear h;go_wp2;go_ret;exact⟨by rw[O];rfl,V⟩
theorem zNq (v:a0)(t e n:a1)(y:ac an)(z A:E)(F:ac an)(I:E)(o:aa a0)(w:am):
  ba ap 155 #[ar #[v,af y z A,t,e,n,af F o I]] w λX w'=>X=.returned (.bool (decide (e<=n)))/\Fr No w w':=by
 have J:Fr No w (w.alloc (ab #[v,af y z A,t,e,n,af F o I] 176)):=(ao _ _).alloc _;have N:=zF w (ab #[v,af y z A,t,e,n,af F o I] 176);obtain⟨U,u⟩:=ε (w.alloc (ab #[v,af y z A,t,e,n,af F o I] 176))
 rw[<-u]at J N;obtain⟨Y,Z,y2,y3,y4,y5⟩:=cl6 N;have V:=zh J;clear J N;go_enter Tryz.func155,Tryz.ntmps155;go_upto_region 1 with(fail)
 rw[<-u];clear u;by_cases h:e<=n
 .have O:ag (decide (e<=n)=ah):=decide_eq_true h;go_wp2;go_ret;exact⟨by rw[O];rfl,V⟩
 .have O:ag (decide (e<=n)=ak):=ed h;go_wp2;go_ret;exact⟨by rw[O];rfl,V⟩
theorem zOL (o:a0)(t e n:a1)(u:ac an)(v y:E)(z:ac an)(A:E)(h:aa a0)(O U:bi)(w:am):
  ba ap 101 #[ar #[o,af u v y,t,e,n,af z h A],O,U] w λen w'=>en=.returned (.bool (mustB t e n O U))/\Fr No w w':=by
 have hx:Fr No w (w.alloc (ab #[o,af u v y,t,e,n,af z h A] 176)):=(ao _ _).alloc _;have q0:=zF w (ab #[o,af u v y,t,e,n,af z h A] 176);obtain⟨W0,F⟩:=ε (w.alloc (ab #[o,af u v y,t,e,n,af z h A] 176))
 rw[<-F]at hx q0;obtain⟨y0,y1,y2,y3,y4,y5⟩:=cl6 q0;have hw:=zPi o t e n u v y z A h W0;have X:∀ W:am,Fr No W0 W->W.heap[(w:E)]?=B (ab #[o,af u v y,t,e,n,af z h A] 176):=λW hf=>hf.heap q0 id
 have a4:=zh X;have Hx:=zh hx;obtain⟨V,I⟩:=ε (mustB t e n O U)
 rw[<-I];have Y:=zh I;clear hx q0 X I;go_enter Tryz.func101,Tryz.ntmps101;go_upto_region 1 with(fail)
 rw[<-F];clear F;go_wp2_with fail;apply hw.mono;rintro en w1 ⟨rfl,J⟩;clear y0 y1 y2 y3 y4 y5;have N:=a4.out w1 J;have y0:=zB N 0;have y1:=zB N 1;have y2:=zB N 2;have y3:=zB N 3;have y4:=zB N 4;have y5:=zB N 5;have Z:=zh (Hx.step J zi);have he:=zNq o t e n u v y z A h w1;clear hw J N;cases h1:decide (n=t)with
 | true=>
  have Hv:ag (V=ah):=by unfold ag;rw[Y,mustB,h1];rfl
  clear h1 he;go_wp2;go_ret;exact⟨by rw[Hv];rfl,Z⟩
 | false=>
  have Hm:ag (V=(decide (e<=n)&&(O||U))):=by unfold ag;rw[Y,mustB,h1];rfl
  clear h1;go_wp2_with fail;apply he.mono;rintro en w2 ⟨rfl,a2⟩;have a3:=zh (Z.step a2 zi);clear he a2 y0 y1 y2 y3 y4 y5;cases h2:decide (e<=n)with
  | false=>
   have Hv:ag (V=ak):=(by unfold ag;rw[Hm,h2];rfl);clear h2;go_wp2;go_ret;exact⟨by rw[Hv];rfl,a3⟩
  | true=>
   have Hv:ag (V=(O||U)):=(by unfold ag;rw[Hm,h2];rfl);clear h2;cases O<;>cases U <;>
    (go_wp2_with fail
     go_ret;exact⟨by rw[Hv];rfl,a3⟩)
theorem zQZ (u:a0)(t e n rd:a1)(pa:ac an)(pn pc:E)(I:ac an)(J:E)(o:aa a0)(w:am)(b8:u.size<=1000000)(hS:Strs w I J o):
  ba ap 104 #[ar #[u,af pa pn pc,t,ai ae e,n,af I o J],rd] w λen w'=>en=.returned (ar (mdOf u o rd).vals)/\Fr No w w':=by
 have N:Fr No w ((w.alloc (ab #[u,af pa pn pc,t,ai ae e,n,af I o J] 176)).alloc (ab #[(),(),(),ai ae 0] 52)):=((ao _ _).alloc _).alloc _;have q2:=zP w (ab #[u,af pa pn pc,t,ai ae e,n,af I o J] 176) (ab #[(),(),(),ai ae 0] 52);have q4:=zS w (ab #[u,af pa pn pc,t,ai ae e,n,af I o J] 176) (ab #[(),(),(),ai ae 0] 52);have a4:((w.alloc (ab #[u,af pa pn pc,t,ai ae e,n,af I o J] 176)).alloc (ab #[(),(),(),ai ae 0] 52)).heap.size=(w:E)+2:=by simp
 have b9:=hS.lenmax;have hz:¬ 9223372036854775807<3+u.size:=by omega
 have a5:ag (mdOf u o rd=⟨(),(⟨#[109,100,45]⟩:a0)++u,o.headD ⟨#[]⟩,rd⟩):=rfl;obtain⟨y,U⟩:=ε ((w.alloc (ab #[u,af pa pn pc,t,ai ae e,n,af I o J] 176)).alloc (ab #[(),(),(),ai ae 0] 52))
 rw[<-U]at N q2 q4 a4;have a6:=hS.no N (λ_=>id);have b6:(w:E)+2<=(y:E):=by omega
 have y0:y ⟨w,0,R⟩=B (al u):=zB q2 0;clear a4;go_enter Tryz.func104,Tryz.ntmps104;go_upto_region 1 with(fail)
 rw[<-U];clear U;have z:Fr No y (y.alloc (ab #[(),al ((⟨#[109,100,45]⟩:a0)++u),(),rd] 52)):=(ao _ _).alloc _;have V:=zF y (ab #[(),al ((⟨#[109,100,45]⟩:a0)++u),(),rd] 52);have X:=z.heap q2 id;have A:=z.heap q4 id;have a9:=zC V;obtain⟨F,Y⟩:=ε (y.alloc (ab #[(),al ((⟨#[109,100,45]⟩:a0)++u),(),rd] 52))
 rw[<-Y]at z V X A a9;have a7:=a6.no z (λ_=>id);have Hx:=zh (N.step z zi);go_upto_region 2 with(fail)
 rw[<-Y];clear Y y0 N z hS a6 q2 q4;have x5:F ⟨w,5,R⟩=B (af I o J):=zB X 5;rcases o with _|⟨c,ir⟩
 .have d0:F ⟨w,5,R⟩=B (af I 0 J):=x5;clear x5;obtain⟨u0,u1,u2,u3⟩:=cl4 V;obtain⟨b0,b1,b2,b3⟩:=cl4 A;obtain⟨f0,f1,f2,f3⟩:=fl4 A;have Z:=set4 A rfl (al ()) (al ((⟨#[109,100,45]⟩:a0)++u)) (al ()) (ai ae rd);have HF:=zh (((Hx.mono (T:=From (w:E)) zn).step Z.2 (λb _ h=>by omega)).mono (T:=No) (λb hb h=>by omega));have O:=zh Z.1;clear Z;go_wp2_with fail;have y0:=zB O 0;have y1:=zB O 1;have y2:=zB O 2;have y3:=zB O 3;refine bodyPost_ret (v:=ar #[(),al ((⟨#[109,100,45]⟩:a0)++u),(),rd]) (by simp[results,dt,go_sem,y0,y1,y2,y3]) rfl ?_;exact⟨by rw[a5];rfl,HF⟩
 .have d1:(0:a1)<((c::ir).length:E):=by first|(simp;done)|(simp;omega)
  obtain⟨b,d2,x,rfl,a8,hc⟩:=a7.at (k:=0) (by simp);obtain rfl:c=x:=by simpa using a8
  rw[dk]at hc;clear a8;have z2:F ⟨y,2,R⟩=B (al ()):=zB V 2;have f2:F.frozen? ⟨y,2,R⟩=false:=zD V 2;have a2:Fr (Is (y:E)) F (F.setCell ⟨y,2,R⟩ (al c)):=bz (S:=Is (y:E)) (p:=⟨y,2,R⟩) (ao _ _) (λ_=>rfl) _;have b4:(F.setCell ⟨y,2,R⟩ (al c)).heap[(y:E)]?=B (ab #[(),al ((⟨#[109,100,45]⟩:a0)++u),c,rd] 52):=zE V 2 (al c);have a3:=a2.heap A (λe=>by omega);have b5:=zh ((Hx.mono (T:=From (w:E)) zn).step a2 (λb _ h=>by omega));generalize b7:(c::ir).length=nl at *;clear a2 V A X a7 Hx;go_upto_region 4 with(fail)
  generalize F.setCell ⟨y,2,R⟩ (al c)=Wb at *;clear z2 f2 x5 hc;obtain⟨u0,u1,u2,u3⟩:=cl4 b4;obtain⟨b0,b1,b2,b3⟩:=cl4 a3;obtain⟨f0,f1,f2,f3⟩:=fl4 a3;have Z:=set4 a3 rfl (al ()) (al ((⟨#[109,100,45]⟩:a0)++u)) (al c) (ai ae rd);have HF:=zh ((b5.step Z.2 (λb _ h=>by omega)).mono (T:=No) (λb hb h=>by omega));have O:=zh Z.1;clear Z;go_wp2_with fail;have y0:=zB O 0;have y1:=zB O 1;have y2:=zB O 2;have y3:=zB O 3;refine bodyPost_ret (v:=ar #[(),al ((⟨#[109,100,45]⟩:a0)++u),c,rd]) (by simp[results,dt,go_sem,y0,y1,y2,y3]) rfl ?_;exact⟨by rw[a5];rfl,HF⟩
theorem zKJ (M:aa Vir)(p:a0×a0):∃ v:Vir,(wantG M p).getD zFY=ar #[al v.q,al v.o,al v.c,ai ae v.r]:=by
 unfold wantG;cases hq:M.find? (λv=>decide ((v.q,v.o)=p))with
 | none=>exact⟨⟨(),(),(),0⟩,rfl⟩
 | some v=>exact⟨v,rfl⟩
theorem zBT (c:RC)(sa:ac an)(sc:E)(ma:ac an)(mc:E)(S:aa Src)(M:aa Vir)(h8:aa (a0×a0))(va:ac an)(vc:E)(V:aa Vir)(w:am)(h:RS c w sa sc ma mc S M h8)(hv:Virs w va vc V)
  (h9:∀ ad,va=B ad->V≠[]->ad.block≠c.xb/\ad.block≠c.wm/\¬ (aj ma M mc).ownBlock=B ad.block) (e5:∀ v∈V,v.q.size<=az/\v.o.size<=az) (hM:(M:E)+(V:E)<=100000):
  ba ap 96 #[bn (B ⟨c.xb,0,R⟩),af va V vc] w λe w'=>e=.returned (.tuple #[])/\
   (∃ u z,RS c w' sa sc u z S (zg M V) h8/\(∀ b,(aj u (zg M V).length z).ownBlock=B b->(aj ma M mc).ownBlock=B b\/(w:E)<=b))/\Fr (λb=>b=c.xb\/b=c.wm\/(aj ma M mc).ownBlock=B b) w w':=by
 obtain⟨i0,i3,i4,i5,i6⟩:=info_parts infoV;have k3:=hv.lenmax;have k6:(V:E)<=100000:=by omega
 have Hh:=zh h;have i7:=zh e5;have e6:=zC h.k;have k8:=zh e6;clear h e5 e6;go_enter Tryz.func96,Tryz.ntmps96;go_wp2_with fail;go_loopw [11] (λx wr=>∃ (j:E) (A:aa Vir) (u:ac an) (z:E),j<=(V:E)/\x=ai ae (j:a1)/\ag (A=zg M (V.take j))/\RS c wr sa sc u z S A h8/\(∀ b,(aj u A z).ownBlock=B b->(aj ma M mc).ownBlock=B b\/(w:E)<=b)/\Fr (λb=>b=c.xb\/b=c.wm\/(aj ma M mc).ownBlock=B b) w wr) (λx _=>(V:E)-(bd x).toNat);case atStart=>exact⟨0,M,ma,mc,by omega,rfl,rfl,Hh,λb h=>.inl h,ao _ _⟩
 case round=>
  obtain⟨j,A,u,z,hj,rfl,d4,hR,a2,hf⟩:=hrel;by_cases i8:j<(V:E)
  .have e7:(j:a1)<(V:E):=by omega
   obtain⟨vb,j8,m,rfl,hm,⟨c0,c1,c2,c3⟩,k9⟩:=(hv.fr hf (λad e hn hs=>by
    obtain⟨h1,h2,h3⟩:=h9 ad e hn;rcases hs with hs|hs|hs
    .exact h1 hs
    .exact h2 hs
    .exact h3 hs)).elem i8
   have b5:=i7.out m (cp hm);have HN:ag (zAA A m=zg M (V.take (j+1))):=by
    unfold ag;rw[bt,hm,d4];exact(zGS _ _ _).symm
   have l0:(A:E)<=100000:=by
    have h1:=zAy (V.take j) M;rw[<-d4,List.length_take]at h1;omega
   obtain⟨W1,a4,e8,-,-⟩:=zw wr (ab m.vals 52) (ab #[m.q,m.o] 114);have d1:W1.heap[(wr:E)]?=B (ab m.vals 52):=(by rw[a4];exact((ao No _).alloc _).heap (zF _ _) id);have p1:W1.heap[(wr:E)+1]?=B (ab #[m.q,m.o] 114):=by
    rw[a4];have:=zF (wr.alloc (ab m.vals 52)) (ab #[m.q,m.o] 114)
    rwa [be]at this
   have s1:(W1:E)=(wr:E)+2:=(by rw[a4];simp);have b6:=hR.no e8;have e9:=zh b6;have a7:=zh a2;have Hf:=zh (hf.step e8 zn);have l1:=zC hR.k;have l2:=hR.wmo.lt;have i9:∀ b,(aj u A z).ownBlock=B b->b<(wr:E):=λb U=>ze hR.mo U
   unfold bj at a4;clear hm hR a2 hf;go_upto_region 4 with(fail)
   rw[<-a4];clear a4 c0 c1 c2 c3;obtain⟨y,hy⟩:=zKJ A (m.q,m.o);have g2:=zE4 A m.q m.o;refine zO (From (W1:E)) [(0,ak),(1,ak),(2,ak),(3,ak),(4,ak),(5,ak),(6,ak),(7,ak),(8,ak),(9,ah),(10,ah),(11,ak)] (λw0 Y=>?_);have k0:=Y.heap b6.k id;have q0:=b6.wmo.fr Y id;have j0:=Y.heap d1 id;have d7:=Y.heap p1 id;have d6:∀ g:Gr (From (W1:E)) w0,g.W ⟨c.xb,6,R⟩=B (.map (B c.wm)):=λg=>zB (g.fr.heap k0 (by omega)) 6
   have g0:∀ g:Gr (From (W1:E)) w0,g.W ⟨(wr:E)+1,0,R⟩=B (al m.q):=λg=>zB (g.fr.heap d7 (by omega)) 0
   have g1:∀ g:Gr (From (W1:E)) w0,g.W ⟨(wr:E)+1,1,R⟩=B (al m.o):=λg=>zB (g.fr.heap d7 (by omega)) 1
   have g3:∀ W,(∃ g:Gr (From (W1:E)) w0,W=g.W)->(bq 83 (.map (B c.wm)) (ar #[m.q,m.o]) ah).run ap W=.ok (.tuple #[ar #[y.q,y.o,y.c,y.r],.bool (inW A m.q m.o)]) W:=λW hW=>by
    obtain⟨g,rfl⟩:=hW;have:=(q0.fr g.fr (by omega)).lookok (zDr g.W) dx b5.1 b5.2;rw[this,hy,g2]
   clear hy g2;have j1:=Y.size;clear k0 q0 j0 d7;apply zR rfl rfl rfl;intro K N;go_big_quiet_op;go_big_quiet_on;apply zR rfl rfl rfl;intro K N;go_big_quiet_op;go_big_quiet_on;apply zR rfl rfl rfl;intro K N;go_big_quiet_op;go_big_quiet_on;apply zR rfl rfl rfl;intro K N;go_big_quiet_op;go_big_quiet_on;apply zR rfl rfl rfl;intro K N;go_big_quiet_op;go_big_quiet_on;apply zR rfl rfl rfl;intro K N;refine zAo rfl _ _ 83 rfl (.map (B c.wm)) (ar #[m.q,m.o]) _ rfl rfl g3 ?_
   go_frame
   go_big_quiet_on;clear g3;apply zR rfl rfl rfl;intro K N;go_big_quiet_op;go_big_quiet_on;apply zR rfl rfl rfl;intro K N;go_big_quiet_op;go_big_quiet_on;apply zR rfl rfl rfl;intro K N;go_big_quiet_op;go_big_quiet_on;apply zu rfl;obtain⟨I,g4,g5,q3⟩:=zy w0 (ab #[(),(),(),ai ae 0] 52);clear d6 g0 g1;go_wp2_with fail;apply zp;rw[<-g4];clear g4;apply zu rfl;obtain⟨z0,z1,z2,z3⟩:=cl4 q3;obtain⟨f0,f1,f2,f3⟩:=fl4 q3;have h4:=zh (set4 q3 rfl (al y.q) (al y.o) (al y.c) (ai ae y.r));clear q3;go_wp2_with fail;refine bm ⟨h4.2.mono (λb _ h=>by omega),?_⟩;apply zR rfl rfl rfl;intro K N;go_big_quiet_op;go_big_quiet_on;apply zb;have a5:=zh ((Y.step g5 zi).step h4.2 (T:=Is (w0:E)) (λb U h=>by omega));clear g5 h4 Y z0 z1 z2 z3 f0 f1 f2 f3;generalize ((((I.setCell ⟨w0,0,R⟩ (al y.q)).setCell ⟨w0,1,R⟩ (al y.o)).setCell ⟨w0,2,R⟩ (al y.c)).setCell ⟨w0,3,R⟩ (ai ae y.r))=w5 at *;have R5:=zh (e9.no a5);have d5:=a5.heap d1 id;have p5:=a5.heap p1 id;have g6:=zh (Hf.step a5 zn);have s5:=a5.size;clear d1 p1 b6 e9 a5 j1;rcases hin:inW A m.q m.o with _|_
   .have j2:ag (A++[m]=zg M (V.take (j+1))):=(by unfold ag;rw[<-HN];unfold zAA;rw[au (by rw[hin];decide)]);have j3:=zh hin;clear hin;have g7:=R5.out;go_upto_region 6 with(fail)
    refine zO (Is c.wm) [(0,ak),(1,ak),(2,ak),(3,ak),(4,ak),(5,ak),(6,ah)] (λw6 a6=>?_);have F:=g7.no a6;have d6:=a6.heap d5 id;have p6:=a6.heap p5 id;have g8:=zh (g6.step a6 zn);have s6:=a6.size;have m6:∀ g:Gr (Is c.wm) w6,g.W ⟨c.xb,6,R⟩=B (.map (B c.wm)):=λg=>zB (g.fr.heap F.k (λh=>F.wmo.ne_cells F.k h)) 6
    have g0:∀ g:Gr (Is c.wm) w6,g.W ⟨(wr:E)+1,0,R⟩=B (al m.q):=λg=>zB (g.fr.heap p6 (λh=>F.wmo.ne_cells p6 h)) 0
    have g1:∀ g:Gr (Is c.wm) w6,g.W ⟨(wr:E)+1,1,R⟩=B (al m.o):=λg=>zB (g.fr.heap p6 (λh=>F.wmo.ne_cells p6 h)) 1
    have e0:∀ g:Gr (Is c.wm) w6,g.W ⟨wr,0,R⟩=B (al m.q):=λg=>zB (g.fr.heap d6 (λh=>F.wmo.ne_cells d6 h)) 0
    have e1:∀ g:Gr (Is c.wm) w6,g.W ⟨wr,1,R⟩=B (al m.o):=λg=>zB (g.fr.heap d6 (λh=>F.wmo.ne_cells d6 h)) 1
    have e2:∀ g:Gr (Is c.wm) w6,g.W ⟨wr,2,R⟩=B (al m.c):=λg=>zB (g.fr.heap d6 (λh=>F.wmo.ne_cells d6 h)) 2
    have e3:∀ g:Gr (Is c.wm) w6,g.W ⟨wr,3,R⟩=B (ai ae m.r):=λg=>zB (g.fr.heap d6 (λh=>F.wmo.ne_cells d6 h)) 3
    apply zR rfl rfl rfl;intro K N;go_big_quiet_op;go_big_quiet_on;apply zR rfl rfl rfl;intro K N;go_big_quiet_op;go_big_quiet_on;apply zR rfl rfl rfl;intro K N;go_big_quiet_op;go_big_quiet_on;apply zR rfl rfl rfl;intro K N;go_big_quiet_op;go_big_quiet_on;apply zR rfl rfl rfl;intro K N;go_big_quiet_op;go_big_quiet_on;apply zR rfl rfl rfl;intro K N;go_big_quiet_op;go_big_quiet_on;clear m6 g0 g1 e0 e1 e2 e3;apply zu rfl;go_wp2_with (at_mapUpdate;refine zDu rfl _ _ _ 83 52 rfl dx c.wm _ (A:E) (by unfold az;omega) m.q m.o b5.1 b5.2 (ar #[m.q,m.o,m.c,m.r]) rfl F.wmo rfl rfl ?_;intro w7 g9 O)
    apply zf O;apply zb;have k7:=O.heap F.k (λh=>F.wmo.ne_cells F.k h);have h0:=zG F.mo O (λb U h=>by unfold Is at h;subst h;exact F.wmo.ne_own F.mo U);have d8:=O.heap d6 (λh=>F.wmo.ne_cells d6 h);have s7:=O.size;have j4:¬ (aj u A z).ownBlock=B (wr:E):=λh=>by have:=i9 _ h;omega
    have j9:c.b0<=(w7:E):=(by have:=F.lo.1;omega);have a8:ag (∀ I:am,Fr (λb=>b=c.xb\/(aj u A z).ownBlock=B b) w7 I->∀ (X:am) (av:ac an) (cv:E),X.heap[c.xb]?=B (ab (rcs c.ka c.kn c.kc c.wt c.a c.n c.cap c.ca c.C.length c.cc c.ea c.en c.ec sa (S:E) sc c.wm c.sm av ((A:E)+1) cv) 86)->
      X.ownsRow c.b0 52 4 (af av ((A:E)+1) cv) ((A:E)+1) (vflat A++(bj m).toList)->((aj av ((A:E)+1) cv).ownBlock=(aj u A z).ownBlock\/(aj av ((A:E)+1) cv).ownBlock=B (I.alloc (ab (bj m) 52)).heap.size)->
      Fr (λb=>b=c.xb\/(aj u A z).ownBlock=B b) I X->RS c X sa sc av cv S (A++[m]) h8/\(∀ b,(aj av (A++[m]).length cv).ownBlock=B b->(aj ma M mc).ownBlock=B b\/(w:E)<=b)/\Fr (λb=>b=c.xb\/b=c.wm\/(aj ma M mc).ownBlock=B b) w X):=by
     unfold ag;intro I h3 X av cv hk hx a9 j5;have h7:=h3.step j5 zi;refine⟨F.grow O g9 j3 h7 hk hx,λb U=>?_,?_⟩
     .rw[zM0 av _ ((A:E)+1) cv cv]at U;rcases a9 with a9|a9
      .rw[a9]at U;exact a7 b U
      .rw[a9]at U;injection U with U
       have h1:=h3.size;have h2:=g8.size;rw[be]at U;exact .inr (by omega)
     .exact(g8.step O (λb U h=>.inr (.inl h))).step h7 (λb U h=>by
       rcases h with h|h
       .exact .inl h
       .rcases a7.out b h with h|h
        .exact .inr (.inr h)
        .omega)
    clear g9 O F g7 a6 d6 p6 d5 p5;go_upto_region 7 with(fail)
    refine zZ (λb=>b=c.xb\/(aj u A z).ownBlock=B b\/(w7:E)<=b) (.q 0 (.q 1 (.q 2 (.q 3 (.q 5 (.m2 4 (.m1 6 (.m1 7 (.q 8 (.q 9 (.m1 10 .fin))))) 6 (.m1 4 (.m1 7 (.q 8 (.q 9 (.m1 10 .fin))))))))))) _ (λI b1=>?_) zj;have b7:=b1.heap k7 id;have Z:=zG h0 b1 (λ_ _=>id);have b9:=zK Z b7 (by decide);have d3:=b1.heap d8 id;have s3:=b1.size;have cB:∀ g:Gr (λb=>b=c.xb\/(aj u A z).ownBlock=B b\/(w7:E)<=b) I,g.W.heap[(wr:E)]?=B (ab (bj m) 52):=λg=>g.fr.heap d3 (λh=>by
     rcases h with h|h|h
     .omega
     .exact j4 h
     .omega)
    have e0:∀ g:Gr (λb=>b=c.xb\/(aj u A z).ownBlock=B b\/(w7:E)<=b) I,g.W ⟨wr,0,R⟩=B (al m.q):=λg=>zB (cB g) 0
    have e1:∀ g:Gr (λb=>b=c.xb\/(aj u A z).ownBlock=B b\/(w7:E)<=b) I,g.W ⟨wr,1,R⟩=B (al m.o):=λg=>zB (cB g) 1
    have e2:∀ g:Gr (λb=>b=c.xb\/(aj u A z).ownBlock=B b\/(w7:E)<=b) I,g.W ⟨wr,2,R⟩=B (al m.c):=λg=>zB (cB g) 2
    have e3:∀ g:Gr (λb=>b=c.xb\/(aj u A z).ownBlock=B b\/(w7:E)<=b) I,g.W ⟨wr,3,R⟩=B (ai ae m.r):=λg=>zB (cB g) 3
    clear cB d3;(repeat(first|apply zL rfl rfl rfl|apply zJ rfl rfl rfl);intro K N;go_big_quiet_op;go_big_quiet_on);clear e0 e1 e2 e3;have c3:I ⟨c.xb,8,R⟩=B (af u A z):=zB b7 8;refine zAB rfl rfl ?_ ?_
    focus
     go_wp2_with fail;apply zq;apply zH rfl;go_wp2_with fail;apply zp;clear c3
    rotate_left 1
    focus
     go_wp2_with fail;apply zp;apply zH rfl;have c7:∀ o,(I.alloc o) ⟨c.xb,8,R⟩=B (af u A z):=λo=>((ao No I).alloc o).cell c3 id
     clear c3;go_wp2_with fail;apply zq;clear c7
    all_goals (
     apply zH rfl;go_wp2_with (at_builtin;refine cy _ rfl _ _ 41 rfl c.b0 52 i0 (ar #[aw,aw,aw,ai ae 0]) 4 56 Tryz.underlying41 i3 i4 i5 i6 rfl (by decide) _ _ _ rfl (Z.alloc _) ⟨I,0,R⟩ 1 1 (bj m).toList rfl rfl (zl _ (bj m) _ rfl) (zCb _) (by unfold az;omega) (by omega) (by first|omega|(simp;done)|(simp;omega)) ?_;intro v' w4 J a3 _ d0;obtain⟨b2,b3,rfl⟩:=zI J)
     have d9:Fr No I (I.alloc (ab (bj m) 52)):=(ao _ _).alloc _;have b8:Fr (λb=>(aj u A z).ownBlock=B b) (I.alloc (ab (bj m) 52)) w4:=ci a3;have k4:=b8.heap (d9.heap b7 id) (λe=>b9 e);have c3:w4 ⟨c.xb,8,R⟩=B (af u A z):=zB k4 8;have f3:w4.frozen? ⟨c.xb,8,R⟩=false:=zD k4 8;have d2:=zK J k4 (by decide);refine bm ⟨b8.mono (λb _ h=>.inr (.inl h)),?_⟩;(repeat(first|apply zL rfl rfl rfl|apply zJ rfl rfl rfl);intro K N;go_big_quiet_op;go_big_quiet_on);apply zH rfl;have f5:Fr (Is (c.xb)) w4 (w4.setCell ⟨c.xb,8,R⟩ (af b2 ((A:E)+1) b3)):=cj (ao _ _) _;have k5:((w4.setCell ⟨c.xb,8,R⟩ (af b2 ((A:E)+1) b3))).heap[c.xb]?=B (ab (rcs c.ka c.kn c.kc c.wt c.a c.n c.cap c.ca c.C.length c.cc c.ea c.en c.ec sa (S:E) sc c.wm c.sm b2 ((A:E)+1) b3) 86):=zE k4 8 _;have b4:=zG J f5 (λb U h=>by unfold Is at h;subst h;exact d2 U);have h5:Fr (λb=>b=c.xb\/(aj u A z).ownBlock=B b) I (w4.setCell ⟨c.xb,8,R⟩ (af b2 ((A:E)+1) b3)):=((d9.mono zn).step b8 (λb _ h=>.inr h)).step f5 (λb _ h=>.inl h);have HR:=zg3 k5 b4 h5;have j6:=zh d0;clear J a3 b8 k4 f5 k5 b4 h5 d2 d9 d0;go_wp2_with fail;refine bm ⟨bz (ao _ _) (λ_=>.inl rfl) _,?_⟩;apply zW;clear Z b7 b9;have h6:=a8.out _ (b1.mono zn) _ _ _ HR.1 HR.2.1 j6 HR.2.2;have e4:=zh h6;clear h6 a8;go_wp2;go_roundw;case rel=>exact⟨j+1,A++[m],b2,b3,by omega,by go_num,j2,e4.1,e4.2.1,e4.2.2⟩
     case measure=>simp[bd];omega
     )
   .have j7:ag (A=zg M (V.take (j+1))):=(by unfold ag;rw[<-HN];unfold zAA;rw[ay hin]);clear hin;go_wp2;go_roundw;case rel=>exact⟨j+1,A,u,z,by omega,by go_num,j7,R5,a7,g6⟩
    case measure=>simp[bd];omega
  .obtain rfl:j=(V:E):=by omega
   have e7:¬ ((V:E):a1)<(V:E):=(by omega);have HE:ag (A=zg M V):=(by unfold ag;rw[d4,cf]);have hr:=HE.out;have H:=zg3 hR a2 hf;clear hR a2 hf;go_wp2;go_end0;rw[<-HE];exact⟨rfl,⟨u,z,H.1,H.2.1⟩,H.2.2⟩
end Go.Proofs.YtjohgekljmhheaaGreatDoor
