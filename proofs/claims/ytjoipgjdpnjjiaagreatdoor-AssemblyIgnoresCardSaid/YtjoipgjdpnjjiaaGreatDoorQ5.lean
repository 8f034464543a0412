import Derived.Test.YtjoipgjdpnjjiaaGreatDoorQ4
import Derived.Test.YtjoipgjdpnjjiaaGreatDoorShelf2
namespace Go.Proofs.YtjoipgjdpnjjiaaGreatDoor
open Go.RowKit Go.Maps Go.Sort Go.Shelf
set_option linter.unusedVariables false
set_option maxRecDepth 100000
set_option maxHeartbeats 8000000
open Eq renaming symm->bv
open Fr renaming refl->an,setCell->bx,of_grown->ch,setAt->ci
open Go renaming World->al,Addr->am,Value->ap,maxLen->ay,Calls->az,Oper->bg,TypeId->bn,madeCells->bu,Operand->cf,wpList_append_own_at->cx,zeroValue->cy
open Go.Fence renaming wide->bw
open Go.Instr renaming lookup->bp
open Go.Lib renaming compareBytes->ba,join->bq,hasPrefix->cz,trimPrefix->da
open Go.Lit renaming int->bt
open Go.Maps renaming size->cp
open Go.Op renaming lookup->cr
open Go.Oper renaming quietAt->dn,quietUpon->dp
open Go.Proofs renaming intOf->bc
open Go.Proofs.Tryz renaming prog->ao,func265->ct,ntmps265->cu,keysT->dq,results156->dr,underlying120->dt,underlying131->du,underlying9->dx
open Go.Result renaming andThen->cg
open Go.RowKit renaming Hid->af
open Go.Value renaming slice->ah,string->bo
open Go.WideAt renaming sameKey_eq->dz
open Go.World renaming size_alloc->bd,ownsRow_nil->cw
open IntKind renaming i64->ac
open Obj renaming cells->aa
open OnlyN renaming mk->bj
open Value renaming slice->ae,int->ag,string->ak,agg->aq,pointer->bm
open Vir renaming vals->bi
open _root_ renaming Nat->E,ByteArray->R,Int->a0,List->a1,Option->ab,if_neg->ar,UInt8->aw,if_pos->ax,absurd->be,Bool->bh,decide_eq_false->eb
open _root_.Bool renaming true->ai,false->aj
open _root_.ByteArray renaming empty->au
open _root_.List renaming range->bf,length_append->br,take_add_one->bs,getElem?_map->bz,replicate->cd,take_length->ce,filter_append->cj,foldl_append->ck,getElem?_eq_none->cl,length_map->cm,map_map->cn,mem_of_getElem?->co,ext_getElem?->db,filter_sublist->dc,getElem?_eq_getElem->dd,length_filter_le->de,length_range->df,map_congr_left->dg,map_id->dh,not_mem_nil->di
open _root_.Nat renaming le_trans->cq,add_zero->dj,le_refl->dk,lt_of_lt_of_le->dl,zero_add->dm
open _root_.Option renaming some->B,none->K
open _root_.UInt8 renaming le_antisymm->dy
variable{α:Type}{l:a1 R}{x:R}{u o N n b:E}{y:Act->Prop}{zs:a1 a0}{w w' W:al}{a:ab am}{S:a1 Src}{e T:bn}{h:a1 bg}{Q:Exit->Act->al->Prop}{D:DataW ap}{f:a1 aw->a1 a0}{cs:Array ap}{g:R×R->ab ap}{M:a1 Vir}
structure RC where
 ka:ab am
 kn:E
 kc:E
 wt:a0
 a:ab am
 n:E
 cap:E
 ea:ab am
 en:E
 ec:E
 ca:ab am
 cc:E
 C:a1 Src
 wm:E
 sm:E
 xb:E
 b0:E
 b2:E
structure RSt (c:RC)(w:al)(S:a1 Src)(M:a1 Vir)(G:a1 (R×R)):Prop where
 ex:∃ sa sc ma mc,w.heap[c.xb]?=B (aa (rcs c.ka c.kn c.kc c.wt c.a c.n c.cap c.ca c.C.length c.cc c.ea c.en c.ec sa (S:E) sc c.wm c.sm ma (M:E) mc) 134)/\
  w.ownsRow c.b2 174 13 (ae sa S sc) (S:E) (sflat S)/\w.ownsRow c.b0 94 4 (ae ma M mc) (M:E) (vflat M)
 cs:Srcs w c.ca c.cc c.C
 cb:∀ ad,c.ca=B ad->c.b0<=ad.block/\ad.block<c.b2/\BlkT w c.ca 174
 wmo:QMap w c.wm (wantG M) (M:E)
 smo:QMap w c.sm (seenG G) (G:E)
 ne:c.wm≠c.sm
 lo:c.b0<=c.xb/\c.b0<=c.wm/\c.b0<=c.sm/\c.b0<=c.b2/\c.xb<c.b2/\c.wm<c.b2/\c.sm<c.b2
theorem zPi (a ra ka ea:ab am)(u rc kn kc en ec d5:E)(wt:a0)(ds:a1 Dev)(L:a1 Rec)(w:al)(hl:Tr w d5 a u ds)(hn:(ds:E)<=250)(hr:Recs w ra rc L)(hE:ErrV w)(n5:6<(w:E)/\5<(w:E)):
  az ao 68 #[aq #[.slice a ds u],.slice ra L rc,aq #[.slice ka kn kc,.int ac wt],.slice ea en ec] w λe w'=>
   (∃ Y cc b2,e=.returned (bm (B ⟨(w:E)+4,0,K⟩))/\RSt ⟨ka,kn,kc,wt,a,(ds:E),u,ea,en,ec,Y,cc,cntL ds L 0 ds,(w:E)+2,(w:E)+3,(w:E)+4,(w:E),b2⟩ w' ((cntL ds L 0 ds).filter λs=>!virB ds s.d.index) [] []/\b2<=(w':E))/\Fr No w w':=by
 obtain⟨i0,i5,i6,i7,i8⟩:=info_parts infoSr;have k6:=@run_makeMap ao;have hT:=hl.wf.ok;obtain⟨W0,a8⟩:=ε (((((w.alloc (aa #[.slice a ds u] 48)).alloc (aa #[.slice ka kn kc,.int ac wt] 32)).alloc (.map #[] 0)).alloc (.map #[] 0)).alloc (aa (rcs ka kn kc wt a (ds:E) u K 0 0 ea en ec K 0 0 ((w:E)+2) ((w:E)+3) K 0 0) 134))
 have x0:Fr No w W0:=by rw[a8];exact(((((an _ _).alloc _).alloc _).alloc _).alloc _).alloc _
 have b4:W0.heap[(w:E)]?=B (aa #[.slice a ds u] 48):=by
  rw[a8];exact((((an No _).alloc _).alloc _).alloc _).heap (zP w _ _) id
 have b9:W0.heap[(w:E)+4]?=B (aa (rcs ka kn kc wt a (ds:E) u K 0 0 ea en ec K 0 0 ((w:E)+2) ((w:E)+3) K 0 0) 134):=by
  rw[a8];have:=zF ((((w.alloc (aa #[.slice a ds u] 48)).alloc (aa #[.slice ka kn kc,.int ac wt] 32)).alloc (.map #[] 0)).alloc (.map #[] 0)) (aa (rcs ka kn kc wt a (ds:E) u K 0 0 ea en ec K 0 0 ((w:E)+2) ((w:E)+3) K 0 0) 134);rw[bd,bd,bd,bd]at this;exact this
 have m2:QMap W0 ((w:E)+2) (λ_=>K) 0:=by
  rw[a8];have:=QMap.made ((w.alloc (aa #[.slice a ds u] 48)).alloc (aa #[.slice ka kn kc,.int ac wt] 32));rw[bd,bd]at this;exact(this.fr ((an No _).alloc _) id).fr ((an No _).alloc _) id
 have m3:QMap W0 ((w:E)+3) (λ_=>K) 0:=by
  rw[a8];have:=QMap.made (((w.alloc (aa #[.slice a ds u] 48)).alloc (aa #[.slice ka kn kc,.int ac wt] 32)).alloc (.map #[] 0));rw[bd,bd,bd]at this;exact this.fr ((an No _).alloc _) id
 have s0:(W0:E)=(w:E)+5:=by rw[a8];simp
 have S0:af ((w:E)+5<=(W0:E)):=by unfold af;omega
 have t4:W0 ⟨w,0,K⟩=B (.slice a ds u):=zB b4 0;have n6:=hl.dv.lenmax;have i9:=zh (λ(W:al) (O:Fr (From (w:E)) w W) (n:a0) (hx:(bt ac n).wf=ai)=>zA1 a u ds n W (hl.dv.fr O (λJ e b7 h=>by have:=(hl.dv.cell J e b7).2.1;omega)) hT (by omega) hx);have h6:af (∀ W,Fr (From (w:E)) w W->Tr W d5 a u ds):=λW O=>hl.keep O (λb hb _ h=>by omega)
 have k7:af (∀ W,Fr (From (w:E)) w W->Recs W ra rc L):=λW O=>⟨hr.len,hr.max,hr.isNil,λr k8=>by
   have h1:=hr.ok r k8;exact⟨h1.props.fr O (λJ e b7 h=>by have:=(h1.props.cell J e b7).2.1;omega),h1.tags.fr O (λJ e b7 h=>by have:=(h1.tags.cell J e b7).2.1;omega)⟩,λJ e b7=>by
   obtain⟨h1,h2,h3⟩:=hr.cell J e b7;exact⟨h1,dl h2 O.size,λi r hi j hj=>O.cell (h3 i r hi j hj) (λh=>by unfold From at h;dsimp only at h;omega)⟩⟩
 have HE:af (∀ W,Fr (From (w:E)) w W->ErrV W):=λW O=>hE.fr O (λh=>by omega) (λh=>by omega)
 have HT:=zh hT;have Hn:=zh hn;clear hl hr hE hT hn;unfold rcs at a8;go_enter Tryz.func68,Tryz.ntmps68;go_upto_region 2 with(fail)
 rw[<-a8];clear a8;obtain⟨X,hX⟩:=ε ((w:E)+4)
 rw[<-hX]at b9;rw[show (w:E)+1+1+1+1=X from by omega];have HX:=zh hX;have n7:(w:E)<=X:=by omega
 have n8:(w:E)<X:=by omega
 have n9:X+1<=(W0:E):=by omega
 have HM:=zg2 m2 m3;have h7:=zh x0;have o0:=zh b4;clear hX s0 m2 m3 x0;go_wp2_with fail;clear t4 k6;go_loopw [26] (λi wr=>∃ (k:E) (Y:ab am) (cc:E),k<=(ds:E)/\i=.int ac (k:a0)/\(wr.heap[X]?=B (aa (rcs ka kn kc wt a (ds:E) u Y (cntL ds L 0 (ds.take k)).length cc ea en ec K 0 0 ((w:E)+2) ((w:E)+3) K 0 0) 134)/\wr.ownsRow (X+1) 174 13 (.slice Y (cntL ds L 0 (ds.take k)).length cc) (cntL ds L 0 (ds.take k)).length (sflat (cntL ds L 0 (ds.take k)))/\Fr (λb=>X<=b) W0 wr)) (λi _=>(ds:E)-(bc i).toNat);case atStart=>exact⟨0,K,0,by omega,rfl,by simpa [cntL]using b9,by simpa [cntL,sflat]using cw _ _ _ _,an _ _⟩
 case round=>
  obtain⟨k,Y,cc,hk,rfl,kx,U,O⟩:=hrel;by_cases g3:k<(ds:E)
  .have j0:(k:a0)<(ds:E):=by omega
   have d6:Fr (From (w:E)) w wr:=(h7.mono zn).step O (λb _ h=>by omega);obtain⟨bb,g4,d,rfl,hd,c0,c1,c2,c3,c4,c5,c6,c7,c8,c9⟩:=(h6 _ d6).dv.dev g3;have a7:=co hd;have h8:=HT.iwf a7;have m8:=HT.lk a7;have g5:af (ds.take (k+1)=ds.take k++[d]):=(by unfold af;rw[bs,hd];rfl);have j1:(ds.take k).length=k:=(by simp;omega);have j2:=zCq ds L (ds.take k) 0;rw[j1]at j2;obtain⟨W1,b8,a9,d1⟩:=zy wr (aa d.vals 41);have Z:Fr (From (w:E)) w W1:=d6.step a9 zn;have d7:=a9.heap (O.heap b4 (λh=>by omega)) id;have t4:W1 ⟨w,0,K⟩=B (.slice (B ⟨bb,g4,K⟩) ds u):=zB d7 0;have z0:=(DevB.of d1).c0;have d9:=i9.out W1 Z d.index h8;have k9:af (plc ds d.index=((look ds d.index).map λ_=>pathOf (origin ds d.index)).getD ⟨#[]⟩):=rfl;rw[<-k9]at d9;have j3:X<(wr:E):=zC kx;unfold Dev.vals at b8;clear hd a7;go_upto_region 5 with(fail)
   rw[<-b8];clear b8 c0 c1 c2 c3 c4 c5 c6 c7 c8 c9;go_wp2_with fail;apply d9.mono;rintro e w2 ⟨rfl,g0⟩;clear d9 t4 z0;have g9:Fr No wr w2:=a9.step g0 zi;have d2:=g0.heap d1 id;have j4:=g0.heap d7 id;have t4:w2 ⟨w,0,K⟩=B (.slice (B ⟨bb,g4,K⟩) ds u):=zB j4 0;have z0:=(DevB.of d2).c0;have g1:=Z.step g0 zn;have h0:=zNl (B ⟨bb,g4,K⟩) ra u rc ds L d5 d.index w2 (h6 _ g1) (by have:=Hn.out;omega) h8 (k7 _ g1);generalize (look ds d.index).isSome=lks at *;go_wp2_with fail;apply h0.mono;rintro e w3 ⟨rfl,y⟩;clear h0 t4 z0;have z:Fr No wr w3:=g9.step y zi;have dw:=y.heap d2 id;have kw:=z.heap kx id;have a2:=zG U z (λ_ _=>id);have hS:=zBu ds L (ds.take k) 0 d;rw[<-g5,j1,dm]at hS;have HS:=zh hS;clear hS d7 j4 d1 d2 a9 g9 g0;have Hf:=zh (O.step z zn);have l0:=z.size;rcases hq:cntB ds L d.index with _|_
   .have A:af (cntL ds L 0 (ds.take (k+1))=cntL ds L 0 (ds.take k)):=(by unfold af;rw[HS.out,hq];simp);clear U kx;go_wp2;go_roundw;case rel=>exact⟨k+1,Y,cc,by omega,by go_num,by rw[A];exact kw,by rw[A];exact a2,Hf⟩
    case measure=>simp[bc];omega
   .have A:af (cntL ds L 0 (ds.take (k+1))=cntL ds L 0 (ds.take k)++[⟨(k:a0),d,plc ds d.index,0⟩]):=(by unfold af;rw[HS.out,hq];simp);clear hq;have h9:=λb (h:(ah Y (cntL ds L 0 (ds.take k)).length cc).ownBlock=B b)=>ze U h
    have i3:af (∀ b,(ah Y (cntL ds L 0 (ds.take k)).length cc).ownBlock=B b->X+1<=b):=λb h=>zQ U h
    have l1:(wr:E)<(w3:E):=zC dw;have o1:k<=250:=(by have:=Hn.out;omega);generalize plc ds d.index=P at *;clear kx d6 z Z g1;go_upto_region 7 with(fail)
    refine zZ (λb=>b=X\/(ah Y (cntL ds L 0 (ds.take k)).length cc).ownBlock=B b\/(w3:E)<=b) (.q 0 (.q 1 (.q 2 (.q 3 (.q 5 (.q 6 (.q 7 (.q 8 (.m2 4 (.m1 9 (.m1 10 (.q 11 (.q 12 (.m1 13 .fin))))) 9 (.m1 4 (.m1 10 (.q 11 (.q 12 (.m1 13 .fin)))))))))))))) _ (λW3 y=>?_) zj;have b0:=y.heap kw id;have F:=zG a2 y (λ_ _=>id);have b3:=zJ F b0 (by decide);have d3:=y.heap dw id;have s3:=y.size;have V:∀ g:Gr (λb=>b=X\/(ah Y (cntL ds L 0 (ds.take k)).length cc).ownBlock=B b\/(w3:E)<=b) W3,DevB g.W (wr:E) d:=λg=>DevB.of (g.fr.heap d3 (λh=>by
     rcases h with h|h|h
     .omega
     .have:=h9 _ h;omega
     .omega))
    have e0:=λg=>(V g).c0
    have e1:=λg=>(V g).c1
    have e2:=λg=>(V g).c2
    have e3:=λg=>(V g).c3
    have e4:=λg=>(V g).c4
    have e5:=λg=>(V g).c5
    have e6:=λg=>(V g).c6
    have e7:=λg=>(V g).c7
    have e8:=λg=>(V g).c8
    have e9:=λg=>(V g).c9
    clear V d3;(repeat(first|apply zN rfl rfl rfl|apply zK rfl rfl rfl);intro l2 hK;go_big_quiet_op;go_big_quiet_on);clear e0 e1 e2 e3 e4 e5 e6 e7 e8 e9;have c3:W3 ⟨X,3,K⟩=B (.slice Y (cntL ds L 0 (ds.take k)).length cc):=zB b0 3;refine zAC rfl rfl ?_ ?_
    focus
     go_wp2_with fail;apply zq;apply zH rfl;go_wp2_with fail;apply zp;clear c3
    rotate_left 1
    focus
     go_wp2_with fail;apply zp;apply zH rfl;have c7:∀ o,(W3.alloc o) ⟨X,3,K⟩=B (.slice Y (cntL ds L 0 (ds.take k)).length cc):=λo=>((an No W3).alloc o).cell c3 id
     clear c3;go_wp2_with fail;apply zq;clear c7
    all_goals (
     apply zH rfl;go_wp2_with (at_builtin;refine cx _ rfl _ _ 131 rfl (X+1) 174 i0 (aq #[.int ac 0,.int ac 0,.int ac 0,.string au,.string au,.string au,.string au,.string au,.int ac 0,.int ac 0,.slice K 0 0,.string au,.int ac 0]) 13 168 du i5 i6 i7 i8 rfl (by decide) _ _ _ rfl (F.alloc _) ⟨W3,0,K⟩ 1 1 (Src.vals ⟨(k:a0),d,P,0⟩).toList rfl rfl (zk _ (Src.vals ⟨(k:a0),d,P,0⟩) _ rfl) (zCZ _) (by unfold ay;omega) (by omega) (by first|omega|(simp;done)|(simp;omega)) ?_;intro v' w4 v N _ b5;obtain⟨a4,a5,rfl⟩:=zI v)
     have d0:Fr No W3 (W3.alloc (aa (Src.vals ⟨(k:a0),d,P,0⟩) 174)):=(an _ _).alloc _;have b1:Fr (λb=>(ah Y (cntL ds L 0 (ds.take k)).length cc).ownBlock=B b) (W3.alloc (aa (Src.vals ⟨(k:a0),d,P,0⟩) 174)) w4:=ch N;have k4:=b1.heap (d0.heap b0 id) (λe=>b3 e);have c3:w4 ⟨X,3,K⟩=B (.slice Y (cntL ds L 0 (ds.take k)).length cc):=zB k4 3;have f3:w4.frozen? ⟨X,3,K⟩=false:=zD k4 3;have b6:=zJ v k4 (by decide);refine bj ⟨b1.mono (λb _ h=>.inr (.inl h)),?_⟩;(repeat(first|apply zN rfl rfl rfl|apply zK rfl rfl rfl);intro l2 hK;go_big_quiet_op;go_big_quiet_on);apply zH rfl;have f5:Fr (Is (X)) w4 (w4.setCell ⟨X,3,K⟩ (.slice a4 ((cntL ds L 0 (ds.take k)).length+1) a5)):=ci (an _ _) _;have k5:((w4.setCell ⟨X,3,K⟩ (.slice a4 ((cntL ds L 0 (ds.take k)).length+1) a5))).heap[X]?=B (aa (rcs ka kn kc wt (B ⟨bb,g4,K⟩) (ds:E) u a4 ((cntL ds L 0 (ds.take k)).length+1) a5 ea en ec K 0 0 ((w:E)+2) ((w:E)+3) K 0 0) 134):=zE k4 3 _;have a6:=zG v f5 (λb hb h=>by unfold Is at h;subst h;exact b6 hb);have g2:Fr (λb=>b=X\/(ah Y (cntL ds L 0 (ds.take k)).length cc).ownBlock=B b) W3 (w4.setCell ⟨X,3,K⟩ (.slice a4 ((cntL ds L 0 (ds.take k)).length+1) a5)):=((d0.mono zn).step b1 (λb _ h=>.inr h)).step f5 (λb _ h=>.inl h);have HR:=zg3 k5 a6 g2;have l3:=zh b5;clear v N b1 k4 f5 k5 a6 g2 b6 d0 b5;go_wp2_with fail;refine bj ⟨bx (an _ _) (λ_=>.inl rfl) _,?_⟩;apply zW;clear F b0 b3;have i4:af (Fr (λb=>X<=b) W0 W3):=Hf.step y zn;go_wp2;go_roundw;case rel=>exact⟨k+1,a4,a5,by omega,by go_num,by rw[A,br];exact HR.1,by rw[A,br,zC3];exact HR.2.1,i4.step HR.2.2 (λb _ h=>by
      rcases h with h|h
      .omega
      .have:=i3.out _ h;omega)⟩
     case measure=>simp[bc];omega
     )
  .obtain rfl:k=(ds:E):=by omega
   have hC:cntL ds L 0 (ds.take (ds:E))=cntL ds L 0 ds:=(by rw[ce]);rw[hC]at kx U;have j2:=zCq ds L ds 0;have k3:wr ⟨X,3,K⟩=B (.slice Y (cntL ds L 0 ds).length cc):=zB kx 3;obtain⟨a3,c3,hv,j5,m9⟩:=Srcs.of_own U;have j6:=zAO U;injection hv with e1 e2 e3
   subst e1;subst e3;obtain⟨WL,l4⟩:=ε wr
   have g6:∀ J,Y=B J->J.block<(wr:E):=λJ e=>by obtain⟨cs,hc⟩:=j6 J e;exact zC hc
   have g7:∀ J,Y=B J->X+1<=J.block:=λJ e=>zQ U (by rw[e];rfl)
   have j7:af (Fr (λb=>X<=b) W0 wr):=O;have j8:=zAw ds L ds 0;have l5:=zh j8;have n3:X<(wr:E):=zC kx;clear hC O j8 g3;go_wp2_with fail;subst l4;go_loopw [62] (λi wr=>∃ (j:E) (sa:ab am) (sc:E),j<=(cntL ds L 0 ds).length/\i=.int ac (j:a0)/\(wr.heap[X]?=B (aa (rcs ka kn kc wt a (ds:E) u Y (cntL ds L 0 ds).length cc ea en ec sa (((cntL ds L 0 ds).take j).filter λs=>!virB ds s.d.index).length sc ((w:E)+2) ((w:E)+3) K 0 0) 134)/\wr.ownsRow (WL:E) 174 13 (.slice sa (((cntL ds L 0 ds).take j).filter λs=>!virB ds s.d.index).length sc) (((cntL ds L 0 ds).take j).filter λs=>!virB ds s.d.index).length (sflat (((cntL ds L 0 ds).take j).filter λs=>!virB ds s.d.index))/\Fr (λb=>b=X\/(WL:E)<=b) WL wr)) (λi _=>(cntL ds L 0 ds).length-(bc i).toNat);case atStart=>exact⟨0,K,0,by omega,rfl,by simpa using kx,by simpa [sflat]using cw _ _ _ _,an _ _⟩
   case round=>
    obtain⟨j,sa,sc,hj,rfl,d4,I,O⟩:=hrel;by_cases g3:j<(cntL ds L 0 ds).length
    .have j0:(j:a0)<(cntL ds L 0 ds).length:=(by omega);have g8:Srcs wr Y cc (cntL ds L 0 ds):=j5.fr O (λJ e _ h=>by
      have h1:=g6 J e;have h2:=g7 J e;rcases h with h|h<;>omega)
     obtain⟨cb,j9,s,rfl,hs,⟨c0,c1,c2,c3,c4,c5,c6,c7,c8,c9,l6,l7,l8⟩,n4⟩:=g8.elem g3;have a7:=l5.out s (co hs);have h8:=HT.iwf a7.1;have g5:af ((cntL ds L 0 ds).take (j+1)=(cntL ds L 0 ds).take j++[s]):=(by unfold af;rw[bs,hs];rfl);have o2:(((cntL ds L 0 ds).take j).filter λs=>!virB ds s.d.index).length<=250:=by
      have h1:=de (λs:Src=>!virB ds s.d.index) ((cntL ds L 0 ds).take j);have h2:((cntL ds L 0 ds).take j).length<=j:=(by simp;omega);have:=Hn.out;omega
     have d8:Fr (λb=>X<=b) W0 wr:=j7.step O (λb _ h=>by rcases h with h|h<;>omega);have d6:Fr (From (w:E)) w wr:=(h7.mono zn).step d8 (λb _ h=>by omega);obtain⟨W1,b8,a9,d1⟩:=zy wr (aa s.vals 174);have Z:Fr (From (w:E)) w W1:=d6.step a9 zn;have d7:=a9.heap (d8.heap b4 (λh=>by omega)) id;have t4:W1 ⟨w,0,K⟩=B (.slice a ds u):=zB d7 0;have z1:=(SrcB0.of d1).c1;have h4:=zEi a u ds d5 s.d.index W1 (h6 W1 Z) (HE W1 Z);unfold Src.vals at b8;clear hs a7;go_upto_region 12 with(fail)
     rw[<-b8];clear b8 c0 c1 c2 c3 c4 c5 c6 c7 c8 c9 l6 l7 l8;go_wp2_with fail;apply h4.mono;rintro e w3 ⟨rfl,y⟩;clear h4 t4 z1;have z:Fr No wr w3:=a9.step y zi;have dw:=y.heap d1 id;have kw:=z.heap d4 id;have a2:=zG I z (λ_ _=>id);have Hf:=zh (O.step z zn);have l0:=z.size;have o3:=O.size;clear d1 d7 a9;rcases hq:virB ds s.d.index with _|_
     .have A:af ((((cntL ds L 0 ds).take (j+1)).filter λs=>!virB ds s.d.index)=(((cntL ds L 0 ds).take j).filter λs=>!virB ds s.d.index)++[s]  ):=(by unfold af;rw[g5.out,cj];simp[hq]);clear hq;have h9:=λb (h:(ah sa (((cntL ds L 0 ds).take j).filter λs=>!virB ds s.d.index).length sc).ownBlock=B b)=>ze I h
      have i3:af (∀ b,(ah sa (((cntL ds L 0 ds).take j).filter λs=>!virB ds s.d.index).length sc).ownBlock=B b->(WL:E)<=b):=λb h=>zQ I h
      have l1:(wr:E)<(w3:E):=zC dw;have j3:X<(wr:E):=zC d4;clear d4 d6 z Z;go_upto_region 13 with(fail)
      refine zZ (λb=>b=X\/(ah sa (((cntL ds L 0 ds).take j).filter λs=>!virB ds s.d.index).length sc).ownBlock=B b\/(w3:E)<=b) (.q 0 (.q 1 (.q 2 (.q 3 (.q 5 (.m2 4 (.m1 6 (.m1 7 (.q 8 (.q 9 (.m1 10 .fin))))) 6 (.m1 4 (.m1 7 (.q 8 (.q 9 (.m1 10 .fin))))))))))) _ (λW3 y=>?_) zj;have b0:=y.heap kw id;have F:=zG a2 y (λ_ _=>id);have b3:=zJ F b0 (by decide);have d3:=y.heap dw id;have s3:=y.size;have V:∀ g:Gr (λb=>b=X\/(ah sa (((cntL ds L 0 ds).take j).filter λs=>!virB ds s.d.index).length sc).ownBlock=B b\/(w3:E)<=b) W3,SrcB0 g.W (wr:E) s:=λg=>SrcB0.of (g.fr.heap d3 (λh=>by
       rcases h with h|h|h
       .omega
       .have:=h9 _ h;omega
       .omega))
      have e0:=λg=>(V g).c0
      have e1:=λg=>(V g).c1
      have e2:=λg=>(V g).c2
      have e3:=λg=>(V g).c3
      have e4:=λg=>(V g).c4
      have e5:=λg=>(V g).c5
      have e6:=λg=>(V g).c6
      have e7:=λg=>(V g).c7
      have e8:=λg=>(V g).c8
      have e9:=λg=>(V g).c9
      have l9:=λg=>(V g).c10
      have m0:=λg=>(V g).c11
      have m4:=λg=>(V g).c12
      clear V d3;(repeat(first|apply zN rfl rfl rfl|apply zK rfl rfl rfl);intro l2 hK;go_big_quiet_op;go_big_quiet_on);clear e0 e1 e2 e3 e4 e5 e6 e7 e8 e9 l9 m0 m4;have c3:W3 ⟨X,5,K⟩=B (.slice sa (((cntL ds L 0 ds).take j).filter λs=>!virB ds s.d.index).length sc):=zB b0 5;refine zAC rfl rfl ?_ ?_
      focus
       go_wp2_with fail;apply zq;apply zH rfl;go_wp2_with fail;apply zp;clear c3
      rotate_left 1
      focus
       go_wp2_with fail;apply zp;apply zH rfl;have c7:∀ o,(W3.alloc o) ⟨X,5,K⟩=B (.slice sa (((cntL ds L 0 ds).take j).filter λs=>!virB ds s.d.index).length sc):=λo=>((an No W3).alloc o).cell c3 id
       clear c3;go_wp2_with fail;apply zq;clear c7
      all_goals (
       apply zH rfl;go_wp2_with (at_builtin;refine cx _ rfl _ _ 131 rfl (WL:E) 174 i0 (aq #[.int ac 0,.int ac 0,.int ac 0,.string au,.string au,.string au,.string au,.string au,.int ac 0,.int ac 0,.slice K 0 0,.string au,.int ac 0]) 13 168 du i5 i6 i7 i8 rfl (by decide) _ _ _ rfl (F.alloc _) ⟨W3,0,K⟩ 1 1 (Src.vals s).toList rfl rfl (zk _ (Src.vals s) _ rfl) (zCZ _) (by unfold ay;omega) (by omega) (by first|omega|(simp;done)|(simp;omega)) ?_;intro v' w4 v N _ b5;obtain⟨a4,a5,rfl⟩:=zI v)
       have d0:Fr No W3 (W3.alloc (aa (Src.vals s) 174)):=(an _ _).alloc _;have b1:Fr (λb=>(ah sa (((cntL ds L 0 ds).take j).filter λs=>!virB ds s.d.index).length sc).ownBlock=B b) (W3.alloc (aa (Src.vals s) 174)) w4:=ch N;have k4:=b1.heap (d0.heap b0 id) (λe=>b3 e);have c3:w4 ⟨X,5,K⟩=B (.slice sa (((cntL ds L 0 ds).take j).filter λs=>!virB ds s.d.index).length sc):=zB k4 5;have f3:w4.frozen? ⟨X,5,K⟩=false:=zD k4 5;have b6:=zJ v k4 (by decide);refine bj ⟨b1.mono (λb _ h=>.inr (.inl h)),?_⟩;(repeat(first|apply zN rfl rfl rfl|apply zK rfl rfl rfl);intro l2 hK;go_big_quiet_op;go_big_quiet_on);apply zH rfl;have f5:Fr (Is (X)) w4 (w4.setCell ⟨X,5,K⟩ (.slice a4 ((((cntL ds L 0 ds).take j).filter λs=>!virB ds s.d.index).length+1) a5)):=ci (an _ _) _;have k5:((w4.setCell ⟨X,5,K⟩ (.slice a4 ((((cntL ds L 0 ds).take j).filter λs=>!virB ds s.d.index).length+1) a5))).heap[X]?=B (aa (rcs ka kn kc wt a (ds:E) u (B ⟨cb,j9,K⟩) (cntL ds L 0 ds).length cc ea en ec a4 ((((cntL ds L 0 ds).take j).filter λs=>!virB ds s.d.index).length+1) a5 ((w:E)+2) ((w:E)+3) K 0 0) 134):=zE k4 5 _;have a6:=zG v f5 (λb hb h=>by unfold Is at h;subst h;exact b6 hb);have g2:Fr (λb=>b=X\/(ah sa (((cntL ds L 0 ds).take j).filter λs=>!virB ds s.d.index).length sc).ownBlock=B b) W3 (w4.setCell ⟨X,5,K⟩ (.slice a4 ((((cntL ds L 0 ds).take j).filter λs=>!virB ds s.d.index).length+1) a5)):=((d0.mono zn).step b1 (λb _ h=>.inr h)).step f5 (λb _ h=>.inl h);have HR:=zg3 k5 a6 g2;have l3:=zh b5;clear v N b1 k4 f5 k5 a6 g2 b6 d0 b5;go_wp2_with fail;refine bj ⟨bx (an _ _) (λ_=>.inl rfl) _,?_⟩;apply zW;clear F b0 b3;have i4:af (Fr (λb=>b=X\/(WL:E)<=b) WL W3):=Hf.step y zn;go_wp2;go_roundw;case rel=>exact⟨j+1,a4,a5,by omega,by go_num,by rw[A,br];exact HR.1,by rw[A,br,zC3];exact HR.2.1,i4.step HR.2.2 (λb _ h=>by
        rcases h with h|h
        .exact .inl h
        .exact .inr (i3 _ h))⟩
       case measure=>simp[bc];omega
       )
     .have A:af ((((cntL ds L 0 ds).take (j+1)).filter λs=>!virB ds s.d.index)=(((cntL ds L 0 ds).take j).filter λs=>!virB ds s.d.index)):=(by unfold af;rw[g5.out,cj];simp[hq]);clear I d4;go_wp2;go_roundw;case rel=>exact⟨j+1,sa,sc,by omega,by go_num,by rw[A];exact kw,by rw[A];exact a2,Hf⟩
      case measure=>simp[bc];omega
    .obtain rfl:j=(cntL ds L 0 ds).length:=by omega
     rw[ce]at d4 I;have g8:Srcs wr Y cc (cntL ds L 0 ds):=j5.fr O (λJ e _ h=>by
      have h1:=g6 J e;have h2:=g7 J e;rcases h with h|h<;>omega)
     have h5:BlkT wr Y 174:=j6.fr O (λJ e h=>by
      have h1:=g6 J e;have h2:=g7 J e;rcases h with h|h<;>omega)
     have d8:Fr (λb=>X<=b) W0 wr:=j7.step O (λb _ h=>by rcases h with h|h<;>omega);have k0:Fr No w wr:=(h7.step d8 (λb hb h=>by
      have:=HX.out;omega))
     have m5:=HX.out;obtain⟨m6,m7⟩:=HM.out;have hR:RSt ⟨ka,kn,kc,wt,a,(ds:E),u,ea,en,ec,Y,cc,cntL ds L 0 ds,(w:E)+2,(w:E)+3,(w:E)+4,(w:E),(WL:E)⟩ wr ((cntL ds L 0 ds).filter λs=>!virB ds s.d.index) [] []:=
      ⟨⟨sa,sc,K,0,by rw[<-m5];exact d4,I,cw _ _ _ _⟩,g8,λJ e=>⟨by have:=g7 J e;show (w:E)<=J.block;omega,g6 J e,h5⟩,m6.fr d8 (λh=>by omega),m7.fr d8 (λh=>by omega),by simp,by dsimp only;omega⟩
     have HR:=zg2 hR O.size;clear hR d4 I g8 h5 O;go_wp2;go_ret;exact⟨⟨Y,cc,(WL:E),by rw[HX];rfl,HR.1,HR.2⟩,k0⟩
def pathO (s t:R):a0:=if zl s then (if zl t then cmpN (sparts s) (sparts t)else -1)else if zl t then 1 else ba s.data.toList t.data.toList
theorem zJh (s t:R)(m:a0)(w:al)(hs:s.size<=1000000)(ht:t.size<=1000000)(Y:w ⟨0,0,K⟩=B (ag ac m)):
  az ao 265 #[s,t] w λe w'=>e=.returned (ag ac (pathO s t))/\Fr No w w':=by
 obtain⟨r,h1⟩:=ε (pathO s t)
 rw[<-h1];have Hr:=zh h1;clear h1;have y:=zDO s t m w hs ht Y;cases hg1:zl s with
 | true=>
  have J:=zh hg1;clear hg1;cases hg2:zl t with
  | true=>
   have Z:=zh hg2;clear hg2;have O:cmpP s t=(r,0):=(by rw[cmpP,Hr,pathO,J,Z];rfl);rw[O]at y;clear O;go_enter ct,cu;go_wp2_with fail;apply y.mono;rintro e w1 ⟨rfl,h⟩;have z:=zh h;clear h;go_wp2;go_ret;exact⟨rfl,z⟩
  | false=>
   have Z:=zh hg2;clear hg2;have O:cmpP s t=(0,10):=(by rw[cmpP,J,Z];rfl);rw[O]at y;clear O;have A:af (r=-1):=(by unfold af;rw[Hr,pathO,J,Z];rfl);go_enter ct,cu;go_wp2_with fail;apply y.mono;rintro e w1 ⟨rfl,h⟩;have u:=h.cell Y id;have z:=zh h;clear h Y;go_wp2_with fail;apply (zBr s m _ hs u).mono;rintro e w2 ⟨U,v⟩;have F:=v.cell u id;have V:=zh (z.step v zi);clear v u;rcases U with⟨o,rfl⟩|⟨o,a2,rfl,_,_⟩
   .rw[J.out]at o;cases o
   .clear o;go_wp2_with fail;apply (zBr t m _ ht F).mono;rintro e w3 ⟨X,I⟩;have N:=zh (V.step I zi);clear I F;rcases X with⟨o,rfl⟩|⟨o,a3,rfl,_,_⟩
    .clear o;go_wp2;go_ret;exact⟨by rw[A];rfl,N⟩
    .rw[Z.out]at o;cases o
 | false=>
  have J:=zh hg1;clear hg1;have O:cmpP s t=(0,10):=by rw[cmpP,J];rfl
  rw[O]at y;clear O;go_enter ct,cu;go_wp2_with fail;apply y.mono;rintro e w1 ⟨rfl,h⟩;have u:=h.cell Y id;have z:=zh h;clear h Y;go_wp2_with fail;apply (zBr s m _ hs u).mono;rintro e w2 ⟨U,v⟩;have F:=v.cell u id;have V:=zh (z.step v zi);clear v u;rcases U with⟨o,rfl⟩|⟨o,a2,rfl,_,_⟩
  .clear o;go_wp2_with fail;apply (zBr t m _ ht F).mono;rintro e w3 ⟨X,I⟩;have N:=zh (V.step I zi);clear I F;rcases X with⟨o,rfl⟩|⟨o,a3,rfl,_,_⟩
   .have A:af (r=ba s.data.toList t.data.toList):=(by unfold af;rw[Hr,pathO,J,o];rfl);clear o;go_wp2_with fail;apply (zLn s t _).mono;rintro e w4 ⟨rfl,rfl⟩;rw[<-A];go_wp2;go_ret;exact⟨rfl,N⟩
   .have A:af (r=1):=(by unfold af;rw[Hr,pathO,J,o];rfl);clear o;go_wp2;go_ret;exact⟨by rw[A];rfl,N⟩
  .rw[J.out]at o;cases o
def aheadB (p:R)(r:a0)(p':R)(r':a0):Bool:=decide (orI (cmpI r r') (pathO p p')<0)
theorem zIh (p i u F:R)(r s t e r' I J N:a0)(v O:ap)(m:a0)(w:al)(hs:p.size<=1000000)(ht:u.size<=1000000)(hm:w ⟨0,0,K⟩=B (ag ac m)):
  az ao 232 #[aq #[p,i,r,s,t,e,v],aq #[u,F,r',I,J,N,O]] w λZ w'=>Z=.returned (.bool (aheadB p r u r'))/\Fr No w w':=by
 have h0:Fr No w ((w.alloc (aa #[p,i,r,s,t,e,v] 266)).alloc (aa #[u,F,r',I,J,N,O] 266)):=((an _ _).alloc _).alloc _;have q1:=zP w (aa #[p,i,r,s,t,e,v] 266) (aa #[u,F,r',I,J,N,O] 266);have q2:=zT w (aa #[p,i,r,s,t,e,v] 266) (aa #[u,F,r',I,J,N,O] 266);obtain⟨W0,y⟩:=ε ((w.alloc (aa #[p,i,r,s,t,e,v] 266)).alloc (aa #[u,F,r',I,J,N,O] 266))
 rw[<-y]at h0 q1 q2;have U:=h0.cell hm id;have H0:=zh h0;obtain⟨rb,z⟩:=ε (aheadB p r u r')
 rw[<-z];have a2:=zh z;clear h0 hm z;go_enter Tryz.func232,Tryz.ntmps232;go_upto_region 1 with(fail)
 rw[<-y];clear y;refine zO No [(0,aj),(1,aj),(2,aj),(3,aj),(5,aj),(6,aj),(7,aj),(8,aj),(4,ai),(9,ai),(10,ai),(11,ai),(12,aj),(13,aj)] (λw0 h=>?_);have g0:∀ g:Gr No w0,g.W ⟨w,0,K⟩=B (ak p):=λg=>g.fr.cell (h.cell (zB q1 0) id) id
 have g2:∀ g:Gr No w0,g.W ⟨w,2,K⟩=B (ag ac r):=λg=>g.fr.cell (h.cell (zB q1 2) id) id
 have k0:∀ g:Gr No w0,g.W ⟨(w:E)+1,0,K⟩=B (ak u):=λg=>g.fr.cell (h.cell (zB q2 0) id) id
 have k2:∀ g:Gr No w0,g.W ⟨(w:E)+1,2,K⟩=B (ag ac r'):=λg=>g.fr.cell (h.cell (zB q2 2) id) id
 have V:=h.cell U id;have a3:=zh (H0.step h zi);clear q1 q2 U h;(repeat apply zR rfl rfl rfl;intro a6 hK;go_big_quiet_op;go_big_quiet_on);clear g0 g2 k0 k2;apply zu rfl;go_wp2_with fail;apply (zLo r r' _).mono;rintro Z w1 ⟨rfl,rfl⟩;generalize X:cmpI r r'=c1;go_wp2_with fail;apply zq;apply zu rfl;go_wp2_with fail;apply (zJh p u m _ hs ht V).mono;rintro Z w2 ⟨rfl,A⟩;generalize Y:pathO p u=c2;have a4:=zh (a3.step A zi);have Hc:af (rb=decide (orI c1 c2<0)):=by unfold af;rw[a2,aheadB,X,Y]
 clear X Y V;go_wp2_with fail;apply zf A;clear A;apply zu rfl;go_wp2_with fail;have hx:Fr No w2 (w2.alloc (aa #[c1,c2] 3)):=(an _ _).alloc _;have qx:=zF w2 (aa #[c1,c2] 3);apply zf hx;have a5:=zh (a4.step hx zi);clear hx;apply zu rfl;go_wp2_with fail;apply (zP3 _ c1 c2 _ (zB qx 0) (zB qx 1)).mono;rintro Z w3 ⟨rfl,rfl⟩;generalize orI c1 c2=o at *;go_wp2_with fail;apply zq;(repeat apply zR rfl rfl rfl;intro a6 hK;go_big_quiet_op;go_big_quiet_on);apply zY;go_wp2;go_ret;exact⟨by rw[Hc];rfl,a5⟩
theorem zO6 (p i h u:R)(r s t e r' y z A:a0)(v F:ap)(m:a0)(w:al)(O:p.size<=1000000)(U:h.size<=1000000)(V:w ⟨0,0,K⟩=B (ag ac m)):
  az ao 235 #[aq #[p,i,r,s,t,e,v],aq #[h,u,r',y,z,A,F]] w λN w'=>N=.returned (.bool (aheadB p r h r'))/\Fr No w w':=by
 have I:Fr No w ((w.alloc (aa #[p,i,r,s,t,e,v] 302)).alloc (aa #[h,u,r',y,z,A,F] 266)):=((an _ _).alloc _).alloc _;have J:=I.cell V id;have X:=zIh p i h u r s t e r' y z A v F m _ O U J;have Y:=zh I;clear I;go_enter Tryz.func235,Tryz.ntmps235;go_wp2_with fail;apply X.mono;rintro N w1 ⟨rfl,o⟩;have Z:=zh (Y.step o zi);clear o;go_wp2;go_ret;exact⟨rfl,Z⟩
structure Mem where
 p:R
 i:R
 r:a0
 s:a0
 t:a0
 e:a0
 a:ab am
 l:a1 R
 c:E
def Mem.vals (m:Mem):Array ap:=#[ak m.p,ak m.i,ag ac m.r,ag ac m.s,ag ac m.t,ag ac m.e,ae m.a m.l m.c]
def Mem.v (m:Mem):ap:=aq m.vals
def Mem.k (m:Mem):Mem:={ m with a:=K,c:=0 }
def Mem.zero : Mem:=⟨(),(),0,0,0,0,K,[],0⟩
def ahead (m o:Mem):Bool:=aheadB m.p m.r o.p o.r
def bestS (g:a1 aw->ab Mem)(m:Mem):a1 aw->ab Mem:=λx=>
 if ((m.l:E)==1&&x==kb m.i&&(match g x with|none=>ai|some o=>ahead m o))=ai then B m else g x
def best (L:a1 Mem):a1 aw->ab Mem:=L.foldl bestS λ_=>K
theorem zA6 (L:a1 Mem)(m:Mem):best (L++[m])=bestS (best L) m:=by simp[best,ck]
theorem zJ4 {g:a1 aw->ab Mem}{m:Mem}(h:(m.l:E)≠1):bestS g m=g:=by
 funext x;unfold bestS;rw[ar (by simp[h])]
theorem zJ5 {g:a1 aw->ab Mem}{m o:Mem}(u:g (kb m.i)=B o)(h:ahead m o=aj):bestS g m=g:=by
 funext x;unfold bestS
 by_cases e:x=kb m.i;·subst e;rw[u];simp[h]
 .rw[ar (by simp[e])]
theorem zFO {g:a1 aw->ab Mem}{m:Mem}(u:(m.l:E)=1)(h:∀ o,g (kb m.i)=B o->ahead m o=ai):bestS g m=λx=>if x=kb m.i then B m else g x:=by
 funext x;unfold bestS
 by_cases e:x=kb m.i
 .subst e;rw[ax rfl];rcases hg:g (kb m.i)with _|o
  .simp[u]
  .simp[u,h o hg]
 .rw[ar (by simp[e]),ar e]
theorem zDz {P:a1 α->Prop}(h:P [])(o:∀ l x,P l->P (l++[x]))(l:a1 α):P l:=by
 have:∀ l:a1 α,P l.reverse:=by
  intro l
  induction l with
  | nil=>exact h
  | cons x t u=>rw[List.reverse_cons];exact o _ _ u
 simpa using this l.reverse
theorem zHw (g:a1 aw->ab Mem)(m:Mem)(x:a1 aw):(bestS g m x=B m/\(m.l:E)=1/\x=kb m.i/\∀ o,g x=B o->ahead m o=ai)\/(bestS g m x=g x/\((m.l:E)=1->x=kb m.i->∃ o,g x=B o/\ahead m o=aj)):=by
 by_cases u:(m.l:E)=1
 .by_cases v:x=kb m.i
  .rcases hg:g x with _|o
   .refine .inl ⟨?_,u,v,λo y=>by cases y⟩;unfold bestS;rw[hg];simp[u,v]
   .cases ha:ahead m o with
    | true=>
     refine .inl ⟨?_,u,v,λz y=>by cases y;exact ha⟩;unfold bestS;rw[hg];simp[u,v,ha]
    | false=>
     refine .inr ⟨?_,λ_ _=>⟨o,rfl,ha⟩⟩;unfold bestS;rw[hg];simp[ha]
  .refine .inr ⟨?_,λ_ h=>be h v⟩;unfold bestS;rw[ar (by simp[v])]
 .refine .inr ⟨?_,λh=>be h u⟩;unfold bestS;rw[ar (by simp[u])]
theorem zCz (L:a1 Mem):∀ x m,best L x=B m->m∈L/\m.l.length=1/\kb m.i=x:=by
 refine zDz (P:=λL=>∀ x m,best L x=B m->m∈L/\m.l.length=1/\kb m.i=x) ?_ ?_ L;·intro x m h;cases h
 .intro l y u x m h;rw[zA6]at h;rcases zHw (best l) y x with⟨o,v,z,_⟩|⟨o,_⟩
  .rw[o]at h;cases h;exact⟨by simp,v,z.symm⟩
  .rw[o]at h;obtain⟨a,b⟩:=u x m h;exact⟨by simp[a],b⟩
structure IsIds (L:a1 Mem)(ids:a1 R):Prop where
 asc:AscS (ids.map kb)
 mem:∀ x:R,x∈ids↔(best L (kb x)).isSome=ai
theorem zBP : ∀ {l l':a1 R},l.map kb=l'.map kb->l=l'
 | [],[],_=>rfl
 | [],_::_,h=>by simp at h
 | _::_,[],h=>by simp at h
 | x::s,y::t,h=>by
  simp only[List.map_cons,List.cons.injEq]at h;rw[zGt h.1,zBP h.2]
theorem zIe {x:a1 aw}:x∈l.map kb↔bk x∈l:=by
 constructor
 .intro h;obtain⟨y,o,rfl⟩:=List.mem_map.1 h
  rwa [zGE]
 .intro h;exact List.mem_map.2 ⟨_,h,zJr x⟩
theorem IsIds.unique {L v:a1 Mem}{u o:a1 R}(h:IsIds L u)(y:IsIds v o)(z:∀ x,(best L x).isSome=(best v x).isSome):u=o:=by
 refine zBP (AscS.ext h.asc y.asc λx=>?_);rw[zIe,zIe,h.mem,y.mem,z]
def own1 (L:a1 Mem)(ids:a1 R):a1 Mem:=ids.map λx=>((best L (kb x)).getD Mem.zero).k
structure IsCmp {α:Type}(c:α->α->a0):Prop where
 zero:∀ x y,c x y=0->x=y
 turn:∀ x y,c y x=- c x y
 trans:∀ x y z,c x y<0->c y z<0->c x z<0
theorem IsCmp.self {c:α->α->a0}(h:IsCmp c)(x:α):c x x=0:=by have:=h.turn x x;omega
theorem zGB : ∀ a b:a1 aw,ba b a=- ba a b
 | [],[]=>rfl
 | [],_::_=>rfl
 | _::_,[]=>rfl
 | a::s,b::t=>by
  have v:=zGB s t;unfold ba;by_cases o:a<b
  .have u:¬ b<a:=λh=>UInt8.lt_asymm o h
   simp[o,u]
  .by_cases u:b<a;·simp[o,u]
   .simp[o,u,v]
theorem zGC : ∀ a b c:a1 aw,ba a b<0->ba b c<0->ba a c<0
 | [],[],_,h,_=>by simp[ba]at h
 | [],_::_,[],_,h=>by simp[ba]at h
 | [],_::_,_::_,_,_=>by simp[ba]
 | _::_,[],_,h,_=>by simp[ba]at h
 | _::_,_::_,[],_,h=>by simp[ba]at h
 | a::s,b::t,c::u,h,o=>by
  have F:=zGC s t u;unfold ba at h o ⊢;by_cases z:a<b
  .by_cases v:b<c;·rw[ax (UInt8.lt_trans z v)];decide
   .rw[ar v]at o;by_cases y:c<b;·rw[ax y]at o;omega
    .have e:b=c:=dy (UInt8.not_lt.1 y) (UInt8.not_lt.1 v);subst e;rw[ax z];decide
  .rw[ar z]at h;by_cases y:b<a;·rw[ax y]at h;omega
   .have e:a=b:=dy (UInt8.not_lt.1 y) (UInt8.not_lt.1 z);subst e;rw[ar y]at h;by_cases v:a<c;·rw[ax v];decide
    .rw[ar v]at o ⊢;by_cases A:c<a;·rw[ax A]at o;omega
     .rw[ar A]at o ⊢;exact F h o
theorem zL2 {y:R}(h:x.data.toList=y.data.toList):x=y:=by
 cases x;cases y;simp only at h
 congr 1
 exact Array.toList_inj.1 h
theorem zLm : ∀ a b:a1 R,cmpN b a=- cmpN a b
 | [],[]=>rfl
 | [],_::_=>rfl
 | _::_,[]=>rfl
 | a::s,b::t=>by
  have o:=zLm s t;unfold cmpN;by_cases h:a=b;·subst h;simp[o]
  .rw[ar h,ar (Ne.symm h)];exact zGB _ _
theorem zJA : ∀ a b c:a1 R,cmpN a b<0->cmpN b c<0->cmpN a c<0
 | [],[],_,h,_=>by simp[cmpN]at h
 | [],_::_,[],_,h=>by simp[cmpN]at h
 | [],_::_,_::_,_,_=>by simp[cmpN]
 | _::_,[],_,h,_=>by simp[cmpN]at h
 | _::_,_::_,[],_,h=>by simp[cmpN]at h
 | a::s,b::t,c::u,h,o=>by
  have A:=zJA s t u;unfold cmpN at h o ⊢;by_cases y:a=b
  .subst y;rw[ax rfl]at h;by_cases v:a=c
   .subst v;rw[ax rfl]at o ⊢;exact A h o
   .rw[ar v]at o ⊢;exact o
  .rw[ar y]at h;by_cases v:b=c
   .subst v;rw[ar y];exact h
   .rw[ar v]at o;have F:=zGC _ _ _ h o;by_cases z:a=c
    .subst z;have:=zGB a.data.toList b.data.toList;omega
    .rw[ar z];exact F
theorem zIF (c:aw):∀ s:a1 aw,bq (spl c s) [c]=s
 | []=>rfl
 | x::t=>by
  have o:=zIF c t;unfold spl;split
  .rename_i e;subst e;rcases h:spl x t with _|⟨a,r⟩
   .exact be h (zNu _ _)
   .rw[h]at o;simp[bq]at o ⊢;exact o
  .rcases h:spl c t with _|⟨a,r⟩
   .exact be h (zNu _ _)
   .rw[h]at o;cases r with
    | nil=>simp[bq]at o ⊢;exact o
    | cons b r=>simp[bq]at o ⊢;exact o
theorem zNG {s t:R}(v:zl s=ai)(A:zl t=ai)(h:sparts s=sparts t):s=t:=by
 unfold zl at v A;simp only[Bool.and_eq_true]at v A;have o:∀ x:R,cz x.data.toList [47]=ai->x.data.toList=47::bq ((sparts x).map λy=>y.data.toList) [47]:=by
  intro x u;have F:(sparts x).map (λy=>y.data.toList)=spl 47 (da x.data.toList [47]):=by
   unfold sparts;rw[cn];have:((λy:R=>y.data.toList)∘λx:a1 aw=>(⟨x.toArray⟩:R))=id:=(by funext z;simp);rw[this,dh]
  rw[F,zIF];unfold da;rw[ax u];unfold cz at u;rcases hl:x.data.toList with _|⟨a,r⟩
  .rw[hl]at u;simp at u
  .rw[hl]at u;simp at u;simp[<-u]
 apply zL2;rw[o s v.1,o t A.1,h]
theorem zB6: IsCmp pathO:=by
 refine⟨λs t h=>?_,λs t=>?_,λs t u h o=>?_⟩
 .unfold pathO at h;cases hs:zl s<;>cases ht:zl t<;>simp[hs,ht]at h;·exact zL2 (zAU _ _ h)
  .exact zNG hs ht (zG9 _ _ h)
 .unfold pathO;cases hs:zl s<;>cases ht:zl t<;>simp;·exact zGB _ _
  .exact zLm _ _
 .unfold pathO at h o ⊢;cases hs:zl s<;>cases ht:zl t<;>cases hu:zl u<;>simp[hs,ht,hu]at h o ⊢;·exact zGC _ _ _ h o
  .exact zJA _ _ _ h o
def zAs (good:Mem->bh)(g:R×a0->ab Mem)(m:Mem):R×a0->ab Mem:=λx=>
 if (good m&&decide (x=(m.i,m.s))&&(match g x with|none=>ai|some o=>ahead m o))=ai then B m else g x
def zr (good:Mem->bh)(L:a1 Mem):R×a0->ab Mem:=L.foldl (zAs good) λ_=>K
section
variable {good:Mem->bh}
theorem zAc (L:a1 Mem)(m:Mem):zr good (L++[m])=zAs good (zr good L) m:=by simp[zr,ck]
theorem zHA (g:R×a0->ab Mem)(m:Mem)(x:R×a0):(zAs good g m x=B m/\good m=ai/\x=(m.i,m.s)/\∀ o,g x=B o->ahead m o=ai)\/(zAs good g m x=g x/\(good m=ai->x=(m.i,m.s)->∃ o,g x=B o/\ahead m o=aj)):=by
 by_cases u:good m=ai
 .by_cases v:x=(m.i,m.s)
  .rcases hg:g x with _|o
   .refine .inl ⟨?_,u,v,λo y=>by cases y⟩;unfold zAs;rw[hg];simp[u,v]
   .cases ha:ahead m o with
    | true=>
     refine .inl ⟨?_,u,v,λz y=>by cases y;exact ha⟩;unfold zAs;rw[hg];simp[u,v,ha]
    | false=>
     refine .inr ⟨?_,λ_ _=>⟨o,rfl,ha⟩⟩;unfold zAs;rw[hg];simp[ha]
  .refine .inr ⟨?_,λ_ h=>be h v⟩;unfold zAs;rw[ar (by simp[v])]
 .refine .inr ⟨?_,λh=>be h u⟩;unfold zAs;rw[ar (by simp[u])]
theorem zEc {g:R×a0->ab Mem}{m:Mem}(h:good m=aj):zAs good g m=g:=by
 funext x;unfold zAs;rw[ar (by simp[h])]
theorem zHx {g:R×a0->ab Mem}{m o:Mem}(u:g (m.i,m.s)=B o)(h:ahead m o=aj):zAs good g m=g:=by
 funext x;unfold zAs
 by_cases e:x=(m.i,m.s)
 .subst e;rw[u];simp[h]
 .rw[ar (by simp[e])]
theorem zCT {g:R×a0->ab Mem}{m:Mem}(u:good m=ai)(h:∀ o,g (m.i,m.s)=B o->ahead m o=ai):zAs good g m=λx=>if x=(m.i,m.s)then B m else g x:=by
 funext x;unfold zAs
 by_cases e:x=(m.i,m.s)
 .subst e;rw[ax rfl];rcases hg:g (m.i,m.s)with _|o
  .simp[u]
  .simp[u,h o hg]
 .rw[ar (by simp[e]),ar e]
theorem zAk (L:a1 Mem):∀ x m,zr good L x=B m->m∈L/\good m=ai/\(m.i,m.s)=x:=by
 refine zDz (P:=λL=>∀ x m,zr good L x=B m->m∈L/\good m=ai/\(m.i,m.s)=x) ?_ ?_ L;·intro x m h;cases h
 .intro l y u x m h;rw[zAc]at h;rcases zHA (zr good l) y x with⟨o,v,z,_⟩|⟨o,_⟩
  .rw[o]at h;cases h;exact⟨by simp,v,z.symm⟩
  .rw[o]at h;obtain⟨a,b⟩:=u x m h;exact⟨by simp[a],b⟩
end
def soundB (m:Mem):Bool:=!m.p.toList.isEmpty&&(decide (1<=m.s)&&decide (m.s<=16))&&(decide (1<=m.t)&&decide (m.t<=16))
structure Arr where
 i:R
 ps:a1 R
 t:a0
 e:a0
 n:a0
 l:a1 R
def zAY (b:R×a0->ab Mem)(id:R):a0:=(((bf 16).find? λ(k:E)=>(b (id,(k:a0)+1)).isSome).getD 0:E)+1
def zAJ (b:R×a0->ab Mem)(id:R):Mem:=(b (id,zAY b id)).getD Mem.zero
def pathAt (b:R×a0->ab Mem)(id:R)(k:E):R:=match b (id,(k:a0)+1)with|some m=>m.p|none=>()
def buildA (b:R×a0->ab Mem)(id:R):Arr:=
 ⟨id,(bf (zAJ b id).t.toNat).map (pathAt b id),(zAJ b id).t,(zAJ b id).e,((bf (zAJ b id).t.toNat).filter λ(k:E)=>(b (id,(k:a0)+1)).isSome).length,(zAJ b id).l⟩
structure IsIds2 (b:R×a0->ab Mem)(ids:a1 R):Prop where
 asc:AscS (ids.map kb)
 mem:∀ x:R,x∈ids↔∃ s:a0,(b (x,s)).isSome=ai
theorem IsIds2.unique {b:R×a0->ab Mem}{u o:a1 R}(h:IsIds2 b u)(v:IsIds2 b o):u=o:=by
 refine zBP (AscS.ext h.asc v.asc λx=>?_);rw[zIe,zIe,h.mem,v.mem]
structure IsSlots (b:R×a0->ab Mem)(id:R)(zs:a1 a0):Prop where
 nodup:zs.Nodup
 mem:∀ s:a0,s∈zs↔(b (id,s)).isSome=ai
theorem zFv {b:R×a0->ab Mem}{u:R}(h:IsSlots b u zs)(y:∀ s∈zs,1<=s/\s<=16){m:a0}(v:m∈zs)(o:∀ s∈zs,m<=s):zAY b u=m:=by
 unfold zAY;obtain⟨A,F⟩:=y m v;obtain⟨k,rfl⟩:∃ k:E,m=(k:a0)+1:=⟨(m-1).toNat,by omega⟩
 have z:(bf 16).find? (λ(k:E)=>(b (u,(k:a0)+1)).isSome)=B k:=by
  rw[List.find?_range_eq_some];refine⟨(h.mem _).1 v,List.mem_range.2 (by omega),λj I=>?_⟩;cases hb:(b (u,(j:a0)+1)).isSome with
  | false=>rfl
  | true=>
   have:=o _ ((h.mem _).2 hb);omega
 rw[z];rfl
def psJ (b:R×a0->ab Mem)(id:R)(T:E)(zs:a1 a0):a1 R:=(bf T).map λ(k:E)=>if ((k:a0)+1)∈zs then pathAt b id k else ()
def cntJ (T:a0)(zs:a1 a0):E:=(zs.filter λs=>decide (s<=T)).length
theorem zFf (b:R×a0->ab Mem)(h:R)(T:E)(zs:a1 a0):(psJ b h T zs).length=T:=by simp[psJ]
theorem zOr (b:R×a0->ab Mem)(h:R)(T:E):psJ b h T []=cd T ⟨#[]⟩:=by
 unfold psJ;simp only[di,if_false];rw[List.map_const',df]
theorem zOq (b:R×a0->ab Mem)(h:R)(T:E)(zs:a1 a0)(k:E)(v:k<T):psJ b h T (zs++[(k:a0)+1])=(psJ b h T zs).set k (pathAt b h k):=by
 apply db;intro j;rw[List.getElem?_set];unfold psJ;by_cases o:j<T
 .simp only[bz,List.getElem?_range o,Option.map_some,cm,df];by_cases e:k=j
  .subst e;simp[o]
  .have:((j:a0)+1∈zs++[(k:a0)+1])↔(j:a0)+1∈zs:=by
    simp;omega
   simp only[this,ar e]
 .have u:(bf T)[j]?=none:=cl (by simp;omega);rw[bz,bz,u];have e:k≠j:=by omega
  simp[e]
theorem zMk (b:R×a0->ab Mem)(h:R)(T:E)(zs:a1 a0)(s:a0)(v:¬ s<=T):psJ b h T (zs++[s])=psJ b h T zs:=by
 unfold psJ;refine dg (λk o=>?_);have u:=List.mem_range.1 o;have:((k:a0)+1∈zs++[s])↔(k:a0)+1∈zs:=by simp;omega
 simp only[this]
theorem zMl {b:R×a0->ab Mem}{o:R}(h:IsSlots b o zs)(T:E):psJ b o T zs=(bf T).map (pathAt b o):=by
 unfold psJ;refine dg (λk _=>?_);split;·rfl
 .rename_i u;rw[h.mem]at u;unfold pathAt;rcases hb:b (o,(k:a0)+1)with _|m
  .rfl
  .rw[hb]at u;simp at u
theorem zLl {b:R×a0->ab Mem}{o:R}(h:IsSlots b o zs)(z:∀ s∈zs,1<=s)(T:E):cntJ T zs=((bf T).filter λ(k:E)=>(b (o,(k:a0)+1)).isSome).length:=by
 unfold cntJ;have A:(zs.filter λs=>decide (s<=(T:a0))).Perm (((bf T).filter λ(k:E)=>(b (o,(k:a0)+1)).isSome).map λk:E=>(k:a0)+1):=by
  rw[List.perm_ext_iff_of_nodup]
  .intro s;simp only[List.mem_filter,List.mem_map,List.mem_range,decide_eq_true_eq];constructor
   .rintro ⟨u,y⟩;have F:=z s u;refine⟨(s-1).toNat,⟨by omega,?_⟩,by omega⟩;rw[show (((s-1).toNat:E):a0)+1=s by omega];exact(h.mem s).1 u
   .rintro ⟨k,⟨u,y⟩,rfl⟩;exact⟨(h.mem _).2 y,by omega⟩
  .exact h.nodup.sublist dc
  .refine List.pairwise_map.2 ((List.nodup_range.sublist dc).imp (fun {a b} v e=>v (by omega)))
 rw[A.length_eq,cm]
theorem zG8 (T:a0)(zs:a1 a0)(s:a0):cntJ T (zs++[s])=cntJ T zs+(if s<=T then 1 else 0):=by
 unfold cntJ;rw[cj,br]
 congr 1
 by_cases h:s<=T<;>simp[h]
theorem zPW (T:a0)(zs:a1 a0):cntJ T zs<=(zs:E):=de _ _
theorem zPt (a:ab am)(u:E)(l:a1 a0)(w:al)(J:Ints w a u l)(N:1<=(l:E)):
  az ao 234 #[ae a l u] w λe w'=>(∃ m,e=.returned (ag ac m)/\m∈l/\∀ x∈l,m<=x)/\w=w':=by
 have hn:¬ ((l:E):a0)<1:=by omega
 have hm:=J.lenmax;have a4:(0:a0)<(l:E):=by omega
 obtain⟨b,a5,Z,rfl,z,O⟩:=J.at (k:=0) (by omega);rw[dj]at O;have U:=zh z;clear z;go_enter Tryz.func234,Tryz.ntmps234;go_wp2_with fail
 go_loop [3,4] (λv i=>∃ (k:E) (m:a0),1<=k/\k<=(l:E)/\v=ag ac m/\i=ag ac (k:a0)/\af (m∈l.take k/\∀ x∈l.take k,m<=x)) (λ_ i=>(l:E)-(bc i).toNat)
 case atStart=>
  refine⟨1,Z,by omega,N,rfl,rfl,?_⟩;unfold af;have:l.take 1=[Z]:=by rw[bs,U];rfl
  rw[this];simp
 case round=>
  obtain⟨k,m,a6,hk,rfl,rfl,I⟩:=hrel;by_cases V:k<(l:E)
  .have a2:(k:a0)<(l:E):=by omega
   obtain⟨b',a3,x,e,hx,hc⟩:=J.at V;cases e;have A:af (l.take (k+1)=l.take k++[x]):=(by unfold af;rw[bs,hx];rfl);clear hx;by_cases o:m<=x
   .have F:min m x=m:=(by omega);go_wp2_with fail
    go_round
    case rel=>
     refine⟨k+1,m,by omega,by omega,by first|rfl|(rw[ax o]),by go_num,?_⟩;unfold af;rw[A];obtain⟨h1,X⟩:=I.out;refine⟨by simp[h1],λy Y=>?_⟩;rcases List.mem_append.1 Y with h|h
     .exact X y h
     .obtain rfl:y=x:=by simpa using h
      exact o
    case measure=>simp[bc];omega
   .have F:min m x=x:=(by omega);go_wp2_with fail
    go_round
    case rel=>
     refine⟨k+1,x,by omega,by omega,by first|rfl|(rw[ar o]),by go_num,?_⟩;unfold af;rw[A];obtain⟨h1,X⟩:=I.out;refine⟨by simp,λy Y=>?_⟩;rcases List.mem_append.1 Y with h|h
     .have:=X y h;omega
     .obtain rfl:y=x:=by simpa using h
      omega
    case measure=>simp[bc];omega
  .obtain rfl:k=(l:E):=by omega
   have h:=I.out;rw[ce]at h;have Hr:=zh h;clear h I;go_wp2;go_ret;exact⟨⟨m,rfl,Hr.1,Hr.2⟩,rfl⟩
theorem zOV (h:ab E)(w:al):az ao 266 #[.map h] w λe w'=>e=.returned (.func (.func 303) #[] #[bm (B ⟨w,0,K⟩)])/\w'=w.alloc (aa #[.map h] 298):=
 (callsIn_wide (n:=5)).1 (AnyZ.keys_in dq bw 5 trivial rfl h w)
theorem zKR (mb U J:E)(f:a1 aw->a1 a0)(N:E)(w:al)(hs:GMap w J mb f N)(hN:N<=1099511627776)(hB:w ⟨U,0,K⟩=B (.map (B mb)))(a4:U<(w:E)):
  az ao 236 #[.func (.func 303) #[] #[bm (B ⟨U,0,K⟩)]] w λe w'=>
   (∃ a F u,e=.returned (.slice a u.length F)/\Strs w' a F u/\AscS (u.map kb)/\(∀ x:R,x∈u↔(f (kb x))≠[])/\u.length<=N/\∀ ad,a=B ad->(w:E)<=ad.block)/\Fr No w w':=by
 obtain⟨D,n,hn,hg,_,hf⟩:=hs;obtain⟨es,O,X,Ft,Y,hD,_⟩:=hg;have o:w.ownsMap ao 9 (rowElem w J 3 ac) mb n D:=⟨es,O,X,Ft,Y,hD⟩
 clear X Ft Y hD;have a8:=o.size_le;have Z:cp D<=maxLen:=by unfold ay;omega
 have I:cp D*16<=140737488355328:=by omega
 have a2:=zEF o dx;have a5:=zCe o lawS dx;have a7:=zDs D;have a3:SeqGives bw 2 ao 303 #[bm (B ⟨U,0,K⟩)] encStr (λV=>V.Perm (strKeys D)) (cp D) w:=
  AnyZ.keys_gives (ρ:=Tryz.keysT_ren) { dq with } bw _ trivial rfl (by omega) U mb n D _ a4 hB o
 have cS:=AnyZ.sorted_in Tryz.sortedS bw 5 trivial trivial trivial trivial rfl (by omega) (sortsS _) (enters_of Tryz.func268 (by kernel_rfl) rfl) 303 #[bm (B ⟨U,0,K⟩)] trivial (enters_of Tryz.func303 (by kernel_rfl) rfl) _ _ Z I _ a3;apply ((callsIn_wide (n:=5)).1 cS).mono;rintro e w' ⟨v,V,rfl,z,A,_,hb⟩;have hp:(V.mergeSort (λx y=>decide (x<=y))).Perm (strKeys D):=(List.mergeSort_perm V _).trans z;obtain⟨L,hL⟩:∃ L,L=(V.mergeSort (λx y=>decide (x<=y))):=⟨_,rfl⟩
 have hl:(L.map bk).length=V.length:=by rw[hL];simp
 have e1:L.map encStr=(L.map bk).map Value.string:=by rw[cn];rfl
 rw[<-hL]at hp A;rw[<-hl,e1]at A;obtain⟨a,F,rfl,h1,h2⟩:=Strs.of_own A;have e2:(L.map bk).map kb=L:=by
  rw[cn];have:kb∘bk=id:=by funext x;exact zJr x
  rw[this,dh]
 refine⟨⟨a,F,L.map bk,rfl,h1,?_,λx=>?_,?_,h2⟩,Fr.of_below_size hb⟩;·rw[e2,hL];exact zEd (z.nodup_iff.2 a5)
 .have a6:f (kb x)≠[]↔has D (.string (kb x))=true:=by rw[hf];cases f (kb x)<;>simp
  rw[a6,<-a2,<-hp.mem_iff];constructor
  .intro h;obtain⟨y,hy,rfl⟩:=List.mem_map.1 h
   rwa [zJr]
  .intro h;exact List.mem_map.2 ⟨_,h,zGE x⟩
 .rw[cm,hp.length_eq];omega
theorem zJV (v u:E)(f:a1 aw->a1 a0)(N:E)(w:al)(V:GMap w u v f N)(hN:N<=1099511627776):
  az ao 233 #[.map (B v)] w λe w'=>
   (∃ a A h,e=.returned (ae a h.length A)/\Strs w' a A h/\AscS (h.map kb)/\(∀ x:R,x∈h↔(f (kb x))≠[])/\h.length<=N/\∀ J,a=B J->(w:E)<=J.block)/\Fr No w w':=by
 have a2:v<(w:E):=V.lt;have X:Fr No w (w.alloc (aa #[.map (B v)] 298)):=(an _ _).alloc _;have F:GMap (w.alloc (aa #[.map (B v)] 298)) u v f N:=V.grown (World.grownBy_alloc w _ K) (by simp) (λj hj=>by cases hj);have Y:=zF w (aa #[.map (B v)] 298);have O:(w:E)<(w.alloc (aa #[.map (B v)] 298)).heap.size:=by simp
 go_enter Tryz.func233,Tryz.ntmps233;go_wp2_with fail;apply (zOV _ _).mono;rintro en w1 ⟨rfl,rfl⟩;go_wp2_with fail;generalize w.alloc (aa #[.map (B v)] 298)=W1 at *;apply (zKR v (w:E) u f N W1 F hN (zB Y 0) O).mono;rintro en w2 ⟨⟨ia,ic,h,rfl,Z,y,z,U,o⟩,I⟩;have H:=zg5 Z y z o (X.step I zi);clear Z y z o I F Y X;go_wp2;go_ret;exact⟨⟨ia,ic,h,rfl,H.1,H.2.1,H.2.2.1,U,λJ e=>by have:=H.2.2.2.1 J e;omega⟩,H.2.2.2.2⟩
theorem zLW (p i:R)(r s t e:a0)(v:ap)(w:al):
  az ao 201 #[aq #[p,i,r,s,t,e,v]] w λA w'=>A=.returned (.bool (!p.toList.isEmpty&&(decide (1<=s)&&decide (s<=16))&&(decide (1<=t)&&decide (t<=16))))/\Fr No w w':=by
 have y:Fr No w (w.alloc (aa #[p,i,r,s,t,e,v] 266)):=(an _ _).alloc _;have h:=zh y;clear y;obtain⟨b,u⟩:=ε (!p.toList.isEmpty&&(decide (1<=s)&&decide (s<=16))&&(decide (1<=t)&&decide (t<=16)))
 rw[<-u];have o:=zh u;clear u;go_enter Tryz.func201,Tryz.ntmps201;rcases h1:p.toList.isEmpty with _|_
 .by_cases F:1<=s
  .by_cases I:s<=16
   .by_cases J:1<=t
    .by_cases z:t<=16
     .go_wp2;go_ret;exact⟨by rw[o.out,h1];simp[F,I,J,z],h.out⟩
     .go_wp2;go_ret;exact⟨by rw[o.out,h1];simp[z],h.out⟩
    .go_wp2;go_ret;exact⟨by rw[o.out,h1];simp;omega,h.out⟩
   .go_wp2;go_ret;exact⟨by rw[o.out,h1];simp;omega,h.out⟩
  .go_wp2;go_ret;exact⟨by rw[o.out,h1];simp;omega,h.out⟩
 .go_wp2;go_ret;exact⟨by rw[o.out,h1];simp,h.out⟩
theorem zPn (p i:R)(r s t e:a0)(v:ap)(w:al):
  az ao 206 #[aq #[p,i,r,s,t,e,v]] w λu w'=>u=.returned (.bool (!p.toList.isEmpty&&(decide (1<=s)&&decide (s<=16))&&(decide (1<=t)&&decide (t<=16))))/\Fr No w w':=by
 have y:Fr No w (w.alloc (aa #[p,i,r,s,t,e,v] 266)):=(an _ _).alloc _;have z:=zLW p i r s t e v (w.alloc (aa #[p,i,r,s,t,e,v] 266));have A:=zh y;clear y;go_enter Tryz.func206,Tryz.ntmps206;go_wp2_with fail;apply z.mono;rintro u I ⟨rfl,h⟩;have H:=zh (A.step h zi);clear h z;obtain⟨b,o⟩:=ε (!p.toList.isEmpty&&(decide (1<=s)&&decide (s<=16))&&(decide (1<=t)&&decide (t<=16)))
 rw[<-o];have F:=zh o;clear o;go_wp2;go_ret;exact⟨by rw[<-F];rfl,H⟩
structure ArrM extends Arr where
 pa:ab am
 pc:E
 la:ab am
 lc:E
def ArrM.vals (m:ArrM):Array ap:=#[ak m.i,ae m.pa m.ps m.pc,ag ac m.t,ag ac m.e,ag ac m.n,ae m.la m.l m.lc]
structure Arrs (w:al)(a:ab am)(cap:E)(L:a1 ArrM):Prop where
 len:(L:E)<=cap
 max:cap<=ay
 isNil:a=K->L=[]/\cap=0
 ok:∀ m∈L,Strs w m.pa m.pc m.ps/\Strs w m.la m.lc m.l
 cell:∀ ad,a=B ad->L≠[]->ad.spot=K/\ad.block<(w:E)/\∀ i m,L[i]?=B m->∀ j,j<6->w ⟨ad.block,ad.off+(i*6+j),K⟩=m.vals[j]?
structure ArrAt (w:al)(b o:E)(m:ArrM):Prop where
 c0:w ⟨b,o,K⟩=B (ak m.i)
 c1:w ⟨b,o+1,K⟩=B (ae m.pa m.ps m.pc)
 c2:w ⟨b,o+2,K⟩=B (ag ac m.t)
 c3:w ⟨b,o+3,K⟩=B (ag ac m.e)
 c4:w ⟨b,o+4,K⟩=B (ag ac m.n)
 c5:w ⟨b,o+5,K⟩=B (ae m.la m.l m.lc)
theorem Arrs.elem {y:E}{L:a1 ArrM}(h:Arrs w a y L){k:E}(v:k<(L:E)):
  ∃ b o m,a=B ⟨b,o,K⟩/\L[k]?=B m/\(Strs w m.pa m.pc m.ps/\Strs w m.la m.lc m.l)/\ArrAt w b (o+k*6) m/\b<(w:E):=by
 cases a with
 | none=>obtain⟨rfl,_⟩:=h.isNil rfl;simp at v
 | some A=>
  obtain⟨b,o,J⟩:=A;obtain⟨z,F,I⟩:=h.cell _ rfl (by intro e;subst e;simp at v);simp at z;subst z;have u:=I k _ (dd v);exact⟨b,o,L[k],rfl,dd v,h.ok _ (List.getElem_mem v),⟨u 0 (by omega),u 1 (by omega),u 2 (by omega),u 3 (by omega),u 4 (by omega),u 5 (by omega)⟩,F⟩
theorem Arrs.lenmax {L:a1 ArrM}(h:Arrs w a o L):(L:E)<=9223372036854775807:=by
 have v:=h.len;have u:=h.max;unfold ay at u;omega
theorem Arrs.fr {S:E->Prop}{L:a1 ArrM}(h:Arrs w a u L)(y:Fr S w w')(I:∀ o,a=B o->L≠[]->¬ S o.block)(A:∀ m∈L,(∀ o,m.pa=B o->m.ps≠[]->¬ S o.block)/\∀ o,m.la=B o->m.l≠[]->¬ S o.block):Arrs w' a u L:=
 ⟨h.len,h.max,h.isNil,λm z=>⟨(h.ok m z).1.fr y (A m z).1,(h.ok m z).2.fr y (A m z).2⟩,λo e v=>by
  obtain⟨J,F,N⟩:=h.cell o e v;refine⟨J,dl F y.size,λi m O j U=>?_⟩;rw[<-N i m O j U];exact World.cell?_of_block (y.block _ F (I o e v))⟩
theorem Arrs.nil (w:al):Arrs w K 0 []:=⟨by simp,by simp,λ_=>⟨rfl,rfl⟩,by simp,λ_ e _=>by cases e⟩
theorem infoAr: (Tryz.prog.info? 216).map (λi=>(i.zero,i.size,i.bytes))=B (B (aq #[au,ae K 0 0,ag ac 0,ag ac 0,ag ac 0,ae K 0 0]),6,88):=by kernel_rfl
def arflat (L:a1 ArrM):a1 ap:=L.flatMap (λm=>m.vals.toList)
theorem zH3 (L:a1 ArrM)(m:ArrM):arflat (L++[m])=arflat L++m.vals.toList:=by simp[arflat]
theorem zJ7 (m:ArrM):∀ u∈m.vals.toList,u.oneCell'=true:=by
 intro u h;simp[ArrM.vals]at h;rcases h with rfl|rfl|rfl|rfl|rfl|rfl<;>rfl
theorem zHD : ∀ (L:a1 ArrM) (i:E) (m:ArrM),L[i]?=B m->∀ j,j<6->(arflat L)[i*6+j]?=m.vals[j]?
 | [],i,m,h,j,o=>by simp at h
 | x::t,0,m,h,j,o=>by
  simp at h;subst h;have:arflat (x::t)=x.vals.toList++arflat t:=by simp[arflat]
  rw[this,List.getElem?_append_left (by simp[ArrM.vals];omega)];simp
 | x::t,i+1,m,h,j,o=>by
  have:arflat (x::t)=x.vals.toList++arflat t:=by simp[arflat]
  rw[this,List.getElem?_append_right (by simp[ArrM.vals];omega),show (i+1)*6+j-x.vals.toList.length=i*6+j from by simp[ArrM.vals];omega];exact zHD t i m (by simpa using h) j o
theorem Arrs.of_own {v:ap}{L:a1 ArrM}(h:w.ownsRow u e 6 v (L:E) (arflat L))(z:∀ m∈L,Strs w m.pa m.pc m.ps/\Strs w m.la m.lc m.l):
  ∃ a o,v=ae a L o/\Arrs w a o L/\∀ y,a=B y->u<=y.block:=by
 obtain⟨_,⟨rfl,A⟩|⟨g,o,F,rfl,O,I,U,A,h3,V⟩⟩:=h
 .have:L=[]:=List.eq_nil_of_length_eq_zero A;subst this;exact⟨K,0,rfl,Arrs.nil w,λ_ e=>by cases e⟩
 .refine⟨B ⟨g,0,K⟩,o,rfl,⟨U,A,(λe=>by cases e),z,?_⟩,λy e=>by cases e;exact O⟩;intro y e X;cases e;refine⟨rfl,zC I,λi m J j Y=>?_⟩;rw[zB I];simp only[dm];have Z:i<(L:E):=(List.getElem?_eq_some_iff.1 J).1;have N:(F.toList.take ((L:E)*6))[i*6+j]?=(arflat L)[i*6+j]?:=by rw[V]
  rw[List.getElem?_take_of_lt (by omega),zHD L i m J j Y]at N;rw[<-Array.getElem?_toList,N]
def AFresh (w:al)(base:E)(L:a1 ArrM):Prop:=∀ m∈L,(Strs w m.pa m.pc m.ps/\Strs w m.la m.lc m.l)/\(BlkT w m.pa 9/\BlkT w m.la 9)/\(∀ ad,m.pa=B ad->base<=ad.block)/\∀ ad,m.la=B ad->base<=ad.block
theorem AFresh.fr {S:E->Prop}{L:a1 ArrM}(h:AFresh w u L)(y:Fr S w w')(A:∀ b,u<=b->b<(w:E)->¬ S b):AFresh w' u L:=λm U=>by
 obtain⟨⟨V,X⟩,⟨F,I⟩,J,N⟩:=h m U;have O:∀ o,m.pa=B o->¬ S o.block:=λo e=>by obtain⟨cs,z⟩:=F o e;exact A _ (J o e) (zC z)
 have v:∀ o,m.la=B o->¬ S o.block:=λo e=>by obtain⟨cs,z⟩:=I o e;exact A _ (N o e) (zC z)
 exact⟨⟨V.fr y (λo e _=>O o e),X.fr y (λo e _=>v o e)⟩,⟨F.fr y O,I.fr y v⟩,J,N⟩
theorem AFresh.own {L:a1 ArrM}{v:ap}{O:a1 ap}(h:AFresh w o L)(A:w.ownsRow N 216 6 v n O)(y:Fr (λb=>v.ownBlock=B b) w w'):AFresh w' o L:=λm U=>by
 obtain⟨⟨V,X⟩,⟨F,I⟩,Y,Z⟩:=h m U;have J:=BlkT.ne A F (by decide);have u:=BlkT.ne A I (by decide);exact⟨⟨V.fr y (λz e _=>J z e),X.fr y (λz e _=>u z e)⟩,⟨F.fr y J,I.fr y u⟩,Y,Z⟩
theorem AFresh.snoc {L:a1 ArrM}{m:ArrM}(h:AFresh w o L)(y:Strs w m.pa m.pc m.ps/\Strs w m.la m.lc m.l)(z:BlkT w m.pa 9/\BlkT w m.la 9)(A:(∀ u,m.pa=B u->o<=u.block)/\∀ u,m.la=B u->o<=u.block):AFresh w o (L++[m]):=λx v=>by
 rcases List.mem_append.1 v with v|v
 .exact h x v
 .obtain rfl:x=m:=by simpa using v
  exact⟨y,z,A⟩
theorem zAz {w:al}{u:Array bg}{h:a1 bg}{o:bg}{a:Act}{Q:Exit->Act->al->Prop}(J:o.guard=K)(m x:cf)(t:bn)(z:o.op=cr t m x aj)
  (F I v:ap) (N:a.eval m=F) (O:a.eval x=I) (y:(bp t F I aj).run ao w=.ok v w)
  (U:wpList ao u Q h (a.put o.dst v) w):wpList ao u Q (o::h) a w:=by
 refine wpList_plain J λV A=>?_
 unfold Oper.wp;simp[execOp,z,N,O,y,cg];exact A _ _ U
theorem zEp {w:al}{u:Array bg}{h:a1 bg}{o:bg}{a:Act}{Q:Exit->Act->al->Prop}(O:o.guard=K)(m x v:cf)(t:bn)(z:o.op=Op.mapUpdate t m x v)
  (F I J:ap) (U:a.eval m=F) (V:a.eval x=I) (X:a.eval v=J) {N:al} (y:(Instr.mapUpdate t F I J).run ao w=.ok () N)
  (Y:wpList ao u Q h (a.put o.dst undef) N):wpList ao u Q (o::h) a w:=by
 refine wpList_plain O λZ A=>?_
 unfold Oper.wp;simp[execOp,z,U,V,X,y,cg];exact A _ _ Y
theorem zB5 {o:bg}{a:Act}{S:al->Prop}{y:Act->Prop}(O:o.guard=K)(m x:cf)(t:bn)(u:o.op=cr t m x aj)(z A v:ap)(F:a.eval m=z)(I:a.eval x=A)
  (h:∀ W,S W->(bp t z A aj).run ao W=.ok v W) (J:y (a.put o.dst v)):o.quiet ao a S y:=by
 refine⟨v,λW N=>?_,J⟩;unfold dn;simp[execOp,u,F,I,h W N,cg,dp]
theorem hfdM: ∀ (p i:R) (r s t e:a0) (a:ab am) (n c:E) (W:al),(Instr.field 266 (aq #[p,i,r,s,t,e,ae a n c]) 0).run ao W=.ok (ak p) W:=by intros;kernel_rfl
theorem Fr.grownF (h:Fr (From (w:E)) w w'):w.grownBy w' none:=⟨h.os,h.tape,h.output,h.size,λk o _=>h.block k o (by omega)⟩
def mapP (g:R×a0->ab Mem):R×a0->ab ap:=λx=>(g x).map Mem.v
theorem zIf (g:R×a0->ab Mem)(x:R×a0)(m:Mem):updP (mapP g) x m.v=mapP (λy=>if y=x then B m else g y):=by
 funext y
 unfold updP mapP;by_cases h:y=x<;>simp[h]
theorem zQE: (Tryz.prog.info? 3).map (λi=>(i.zero,i.size,i.bytes))=B (B (ag ac 0),1,8):=by kernel_rfl
structure Grp (D:DataW ap)(left:Lit->bh)(f:a1 aw->a1 a0):Prop where
 mem:∀ (x:R) (s:a0),s∈f (kb x)↔(x.size<=ay/\(bt ac s).wf=ai/\has D (plL (x,s))=ai/\left (plL (x,s))=aj)
 nodup:∀ x:R,(f (kb x)).Nodup
theorem Grp.start (D:DataW ap):Grp D (has D) (λ_=>[]):=by
 constructor
 .intro x s;simp only[di,false_iff];rintro ⟨_,_,o,h⟩;rw[o]at h;cases h
 .exact λ_=>List.nodup_nil
theorem Grp.step {o:Lit->bh}(h:Grp D o f){s:a0}(u:x.size<=ay)(v:(bt ac s).wf=ai)(O:o (plL (x,s))=ai)(U:has D (plL (x,s))=ai):
  Grp D (λz=>o z&&!z.sameKey (plL (x,s))) (λz=>if z=kb x then f (kb x)++[s]else f z):=by
 constructor
 .intro y r;by_cases e:y=x
  .subst e;rw[ax rfl,List.mem_append,h.mem];by_cases A:r=s
   .subst A;rw[WideAt.sameKey_self (zHm _)];simp[u,v,U]
   .constructor
    .rintro (⟨a,b,c,d⟩|J);·exact⟨a,b,c,by rw[d];rfl⟩
     .simp at J;exact be J A
    .rintro ⟨a,b,c,d⟩;refine .inl ⟨a,b,c,?_⟩;cases hk:(plL (y,r)).sameKey (plL (y,s))with
     | true=>
      have:=zHY a b u v (dz hk);simp at this;exact be this A
     | false=>rw[hk]at d;simpa using d
  .rw[ar (λF=>e (zGt F)),h.mem];constructor
   .rintro ⟨a,b,c,d⟩;exact⟨a,b,c,by rw[d];rfl⟩
   .rintro ⟨a,b,c,d⟩;refine⟨a,b,c,?_⟩;cases hk:(plL (y,r)).sameKey (plL (x,s))with
    | true=>
     have:=zHY a b u v (dz hk);simp at this;exact be this.1 e
    | false=>rw[hk]at d;simpa using d
 .intro y;by_cases e:y=x
  .subst e;rw[ax rfl];refine List.nodup_append.2 ⟨h.nodup y,by simp,λa V b X=>?_⟩;obtain rfl:b=s:=by simpa using X
   intro I;subst I;obtain⟨_,_,_,N⟩:=(h.mem y a).1 V;rw[O]at N;cases N
  .rw[ar (λF=>e (zGt F))];exact h.nodup y
theorem zLS {o:Lit}{d:DataW ap}(h:∀ zd,D.atKey o zd=d):has D o=true:=by
 cases hk:has D o with
 | true=>rfl
 | false=>
  have u:=h (.held (.bool ai));have v:=h (.held (.bool aj));rw[atKey_of_not_has hk]at u v;rw[<-v]at u;cases u
theorem Grp.slots {o:Lit->bh}(h:Grp D o f)(A:∀ F,o F=aj){b:R×a0->ab Mem}
  (u:∀ x:R×a0,x.1.size<=ay->(bt ac x.2).wf=ai->has D (plL x)=(mapP b x).isSome) (I:∀ x s m,b (x,s)=B m->x.size<=ay/\(bt ac s).wf=ai) (x:R):IsSlots b x (f (kb x)):=by
 refine⟨h.nodup x,λs=>?_⟩;rw[h.mem];constructor
 .rintro ⟨a,b',c,_⟩;rw[u (x,s) a b']at c
  simpa [mapP]using c
 .intro J;obtain⟨m,v⟩:=Option.isSome_iff_exists.1 J;obtain⟨y,z⟩:=I x s m v;exact⟨y,z,by rw[u (x,s) y z];simp[mapP,v],A _⟩
theorem IsIds2.of_slots {b:R×a0->ab Mem}{h:a1 R}(y:AscS (h.map kb))(z:∀ x:R,x∈h↔f (kb x)≠[])(v:∀ x:R,IsSlots b x (f (kb x))):IsIds2 b h:=by
 refine⟨y,λx=>?_⟩;rw[z];constructor
 .intro u;obtain⟨s,o⟩:=List.exists_mem_of_ne_nil _ u;exact⟨s,((v x).mem s).1 o⟩
 .rintro ⟨s,o⟩ e;have:=((v x).mem s).2 o;rw[e]at this;cases this
theorem set6 (h:W.heap[b]?=B (aa cs T))(N:cs.size=6)(u y z A F I:ap):
  (((((((W.setCell ⟨b,0,K⟩ u).setCell ⟨b,1,K⟩ y).setCell ⟨b,2,K⟩ z).setCell ⟨b,3,K⟩ A).setCell ⟨b,4,K⟩ F).setCell ⟨b,5,K⟩ I)).heap[b]?=B (aa #[u,y,z,A,F,I] T)/\Fr (Is b) W ((((((W.setCell ⟨b,0,K⟩ u).setCell ⟨b,1,K⟩ y).setCell ⟨b,2,K⟩ z).setCell ⟨b,3,K⟩ A).setCell ⟨b,4,K⟩ F).setCell ⟨b,5,K⟩ I):=by
 have o:∀ {a w:al} (h:Fr (Is b) a w) (i:E) (v:ap),Fr (Is b) a (w.setCell ⟨b,i,K⟩ v):=λh i v=>h.setCell (p:=⟨b,i,K⟩) (λ_=>rfl) v
 refine⟨?_,o (o (o (o (o (o (an _ _) _ _) _ _) _ _) _ _) _ _) _ _⟩;obtain⟨l⟩:=cs
 match l,N with
 | [_,_,_,_,_,_],_=>
  have O:=zE h 0 u;have U:=zE O 1 y;have V:=zE U 2 z;have X:=zE V 3 A;have Y:=zE X 4 F;have J:=zE Y 5 I;simp only[List.setIfInBounds_toArray,List.set_cons_zero,List.set_cons_succ]at J;exact J
theorem zBQ {T P:E}(h:W.ownsRow o 9 1 (ae (B ⟨P,0,K⟩) T T) T (bu (bo au).cells (T*1)).toList):
  W.heap[P]?=B (aa ((cd T (():R)).map bo).toArray 9):=by
 obtain⟨_,⟨v,_⟩|⟨g,z,u,v,O,A,U,V,F,I⟩⟩:=h;·cases v
 .cases v;rw[A];have J:u.toList=(bu (bo au).cells (T*1)).toList:=by
   rw[<-I,List.take_of_length_le];rw[Array.length_toList,F];exact dk _
  have N:(bu (bo au).cells (T*1)).toList=(cd T (():R)).map Value.string:=by
   apply db;intro i;by_cases y:i<T
   .rw[bz,List.getElem?_replicate,ax y];simp[bu,Value.cells,y,Nat.mod_one];rfl
   .rw[cl (by simp[bu];omega),cl (by simp;omega)]
  rw[show u=((cd T (():R)).map bo).toArray by rw[<-N,<-J]]
theorem zFW {P:E}(h:W.heap[P]?=B (aa (l.map bo).toArray 9))(o:(l:E)<=ay):Strs W (B ⟨P,0,K⟩) (l:E) l:=by
 refine⟨dk _,o,(λe=>by cases e),λv e _=>?_⟩;cases e;refine⟨rfl,zC h,λi x u=>?_⟩;rw[zB h];simp[u]
theorem QMap.blk {v:E}(h:QMap w v g N):∃ u o,w.heap[v]?=B (.map u o):=by
 obtain⟨D,n,_,⟨u,o,h,_⟩,_⟩:=h;exact⟨u,o,h⟩
theorem QMap.ne_cells (h:QMap w u g N){y:E×E}(z:w.heap[b]?=B (aa cs T y)):b≠u:=by
 obtain⟨A,o,v⟩:=h.blk;intro e;subst e;rw[z]at v;cases v
theorem QMap.ne_own {z:E}(h:QMap w z g N){v:ap}{F:a1 ap}(I:w.ownsRow o e u v n F):¬ v.ownBlock=B z:=by
 intro A;obtain⟨_,⟨rfl,_⟩|⟨U,J,O,rfl,V,y,_⟩⟩:=I;·cases A
 .cases A;exact h.ne_cells y rfl
theorem QMap.lookok (h:QMap w u g N){t:bn}{z:ap}(I:(cy e).run ao w=.ok z w)(J:Tryz.prog.underlying t=B (.map 125 e))
  {s:R} {n:R} (y:s.size<=ay) (A:n.size<=ay):(bp t (.map (B u)) (aq #[s,n]) ai).run ao w=.ok (.tuple #[(g (s,n)).getD z,.bool (g (s,n)).isSome]) w:=by
 obtain⟨D,m,_,O,U⟩:=h;obtain⟨F,V⟩:=U (s,n) y A;obtain⟨v,Y,o,X⟩:=O.look_ok lawQ J I (zd:=.held z) (zp:=[]) rfl (keyQ y A);rw[o,F,zF1 F V X]
theorem zAp {o:bg}{a:Act}{S:al->Prop}{y:Act->Prop}(O:o.guard=K)(m x:cf)(t:bn)(u:o.op=cr t m x ai)(z A v:ap)(F:a.eval m=z)(I:a.eval x=A)
  (h:∀ W,S W->(bp t z A ai).run ao W=.ok v W) (J:y (a.put o.dst v)):o.quiet ao a S y:=by
 refine⟨v,λW N=>?_,J⟩;unfold dn;simp[execOp,u,F,I,h W N,cg,dp]
def zFR : ap:=aq #[(),(),(),ag ac 0]
theorem zDf (w:al):(cy 94).run ao w=.ok zFR w:=by kernel_rfl
theorem zPl (w:al):(cy 4).run ao w=.ok (.bool aj) w:=by kernel_rfl
structure RS (c:RC)(w:al)(sa:ab am)(sc:E)(ma:ab am)(mc:E)(S:a1 Src)(M:a1 Vir)(G:a1 (R×R)):Prop where
 k:w.heap[c.xb]?=B (aa (rcs c.ka c.kn c.kc c.wt c.a c.n c.cap c.ca c.C.length c.cc c.ea c.en c.ec sa (S:E) sc c.wm c.sm ma (M:E) mc) 134)
 so:w.ownsRow c.b2 174 13 (ae sa S sc) (S:E) (sflat S)
 mo:w.ownsRow c.b0 94 4 (ae ma M mc) (M:E) (vflat M)
 cs:Srcs w c.ca c.cc c.C
 cb:∀ ad,c.ca=B ad->c.b0<=ad.block/\ad.block<c.b2/\BlkT w c.ca 174
 wmo:QMap w c.wm (wantG M) (M:E)
 smo:QMap w c.sm (seenG G) (G:E)
 ne:c.wm≠c.sm
 lo:c.b0<=c.xb/\c.b0<=c.wm/\c.b0<=c.sm/\c.b0<=c.b2/\c.xb<c.b2/\c.wm<c.b2/\c.sm<c.b2
 b2l:c.b2<=(w:E)
theorem RSt.rs {c:RC}{F:a1 (R×R)}(h:RSt c w S M F)(I:c.b2<=(w:E)):∃ o u v y,RS c w o u v y S M F:=by
 obtain⟨⟨o,u,v,y,k,J,N⟩,cs,O,z,A,U,V⟩:=h;exact⟨o,u,v,y,k,J,N,cs,O,z,A,U,V,I⟩
theorem RS.fr {T:E->Prop}{c:RC}{y:ab am}{z:E}{A:ab am}{F:E}{N:a1 (R×R)}(h:RS c w y z A F S M N)(o:Fr T w w')
  (O:¬ T c.xb) (U:¬ T c.wm) (V:¬ T c.sm) (I:∀ b,(ah y S z).ownBlock=B b->¬ T b) (J:∀ b,(ah A M F).ownBlock=B b->¬ T b) (v:∀ u,c.ca=B u->¬ T u.block):RS c w' y z A F S M N:=
 ⟨o.heap h.k O,zG h.so o I,zG h.mo o J,h.cs.fr o (λu e _=>v u e),λu e=>⟨(h.cb u e).1,(h.cb u e).2.1,(h.cb u e).2.2.fr o v⟩,h.wmo.fr o U,h.smo.fr o V,h.ne,h.lo,cq h.b2l o.size⟩
theorem RS.no {c:RC}{o:ab am}{v:ab am}{y:E}{z:a1 (R×R)}(h:RS c w o u v y S M z)(A:Fr No w w'):RS c w' o u v y S M z:=
 h.fr A id id id (λ_ _=>id) (λ_ _=>id) (λ_ _=>id)
def inW (M:a1 Vir)(q o:R):Bool:=M.any λv=>decide ((v.q,v.o)=(q,o))
def zAG (M:a1 Vir)(v:Vir):a1 Vir:=if inW M v.q v.o=ai then M else M++[v]
def zv (M V:a1 Vir):a1 Vir:=V.foldl zAG M
theorem zGM (M V:a1 Vir)(v:Vir):zv M (V++[v])=zAG (zv M V) v:=by unfold zv;rw[ck];rfl
theorem zDk (M:a1 Vir)(v:Vir):(zAG M v).length<=(M:E)+1:=by unfold zAG;split<;>simp
theorem zA0 : ∀ (V M:a1 Vir),(zv M V).length<=(M:E)+(V:E)
 | [],M=>by simp[zv]
 | v::t,M=>by
  have h:=zA0 t (zAG M v);have o:=zDk M v;unfold zv at h ⊢;rw[List.foldl_cons,List.length_cons];omega
theorem zEw (M:a1 Vir)(q o:R):(wantG M (q,o)).isSome=inW M q o:=by
 unfold wantG inW;rw[Option.isSome_map,Bool.eq_iff_iff,List.find?_isSome,List.any_eq_true]
theorem zEx {v:Vir}(h:inW M v.q v.o=aj):wantG (M++[v])=updQ (wantG M) (v.q,v.o) (aq v.vals):=by
 funext p
 unfold updQ wantG;rw[List.find?_append];by_cases y:p=(v.q,v.o)
 .subst y;rw[ax rfl];have:M.find? (λu=>decide ((u.q,u.o)=(v.q,v.o)))=none:=by
   rw[List.find?_eq_none];intro u z;unfold inW at h;have:=(List.any_eq_false.1 h) u z
   simpa using this
  rw[this];simp
 .rw[ar y];have:[v].find? (λu=>decide ((u.q,u.o)=p))=none:=by simp;exact λe=>y (bv e)
  rw[this];simp
theorem zBd {c:E}(h:(ah a n c).ownBlock=B b):∃ o,a=B o/\o.block=b:=by
 cases a with
 | none=>cases h
 | some o=>exact⟨o,rfl,by injection h⟩
theorem zMv (a:ab am)(n m c d:E):(ah a n c).ownBlock=(ah a m d).ownBlock:=by cases a<;>rfl
theorem RS.grow {c:RC}{w7 X:al}{w6:al}{sa:ab am}{sc:E}{ma:ab am}{mc:E}{a4:a1 (R×R)}(h:RS c w6 sa sc ma mc S M a4)(O:Fr (Is c.wm) w6 w7){v:Vir}
  (hQ:QMap w7 c.wm (updQ (wantG M) (v.q,v.o) (aq v.vals)) ((M:E)+1)) (a2:inW M v.q v.o=aj) {av:ab am} {cv:E} (U:Fr (λb=>b=c.xb\/(ah ma M mc).ownBlock=B b) w7 X)
  (k5:X.heap[c.xb]?=B (aa (rcs c.ka c.kn c.kc c.wt c.a c.n c.cap c.ca c.C.length c.cc c.ea c.en c.ec sa (S:E) sc c.wm c.sm av ((M:E)+1) cv) 134))
  (h5:X.ownsRow c.b0 94 4 (ae av ((M:E)+1) cv) ((M:E)+1) (vflat M++v.vals.toList)):RS c X sa sc av cv S (M++[v]) a4:=by
 have el:(M++[v]).length=(M:E)+1:=by simp
 have a3:∀ b,(ah sa S sc).ownBlock=B b->¬ Is c.wm b:=λb V e=>by unfold Is at e;subst e;exact h.wmo.ne_own h.so V
 have A:=zG h.so O a3;have z:=zG h.mo O (λb V e=>by unfold Is at e;subst e;exact h.wmo.ne_own h.mo V);have J:=O.heap h.k (λe=>h.wmo.ne_cells h.k e);have Z:∀ u,c.ca=B u->¬ Is c.wm u.block:=λu e y=>by
  obtain⟨cs,Y⟩:=(h.cb u e).2.2 u e;exact h.wmo.ne_cells Y y
 have F:∀ u,c.ca=B u->BlkT w7 c.ca 174:=λu e=>(h.cb u e).2.2.fr O Z
 have N:∀ u,c.ca=B u->¬ (u.block=c.xb\/(ah ma M mc).ownBlock=B u.block):=λu e y=>by
  rcases y with y|y
  .obtain⟨cs,Y⟩:=F u e u e;rw[y,J]at Y;injection Y with Y
   injection Y with _ e2
   exact be e2 (by decide)
  .exact BlkT.ne z (F u e) (by decide) u e y
 have I:=h.smo.fr O (λe=>h.ne (bv e));refine⟨by rw[el];exact k5,zG A U (λb V y=>?_),by rw[el,zB0];exact h5,(h.cs.fr O (λu e _=>Z u e)).fr U (λu e _=>N u e),λu e=>⟨(h.cb u e).1,(h.cb u e).2.1,(F u e).fr U N⟩,?_,I.fr U (λy=>?_),h.ne,h.lo,cq h.b2l (cq O.size U.size)⟩
 .rcases y with y|y
  .subst y;exact zJ A J (by decide) V
  .obtain⟨u,rfl,rfl⟩:=zBd V;exact BlkT.ne z (zAO A) (by decide) u rfl y
 .rw[el,zEx a2];exact hQ.fr U (λy=>by
   rcases y with y|y
   .exact hQ.ne_cells J (bv y)
   .exact hQ.ne_own z y)
 .rcases y with y|y
  .exact I.ne_cells J (bv y)
  .exact I.ne_own z y
def mustB (t e n:a0)(ex xp:bh):Bool:=decide (n=t)||(decide (e<=n)&&(ex||xp))
def mdT : R:=⟨#[109,100,45]⟩
def mdOf (gi:R)(ins:a1 R)(r:a0):Vir:=⟨(),mdT++gi,ins.headD ⟨#[]⟩,r⟩
theorem set4 (h:W.heap[b]?=B (aa cs T))(F:cs.size=4)(o u y z:ap):
  ((((W.setCell ⟨b,0,K⟩ o).setCell ⟨b,1,K⟩ u).setCell ⟨b,2,K⟩ y).setCell ⟨b,3,K⟩ z).heap[b]?=B (aa #[o,u,y,z] T)/\Fr (Is b) W ((((W.setCell ⟨b,0,K⟩ o).setCell ⟨b,1,K⟩ u).setCell ⟨b,2,K⟩ y).setCell ⟨b,3,K⟩ z):=by
 have A:∀ {a w:al} (h:Fr (Is b) a w) (i:E) (v:ap),Fr (Is b) a (w.setCell ⟨b,i,K⟩ v):=λh i v=>h.setCell (p:=⟨b,i,K⟩) (λ_=>rfl) v
 refine⟨?_,A (A (A (A (an _ _) _ _) _ _) _ _) _ _⟩;obtain⟨l⟩:=cs
 match l,F with
 | [_,_,_,_],_=>
  have I:=zE h 0 o;have J:=zE I 1 u;have N:=zE J 2 y;exact zE N 3 z
theorem zPe (v:R)(t e n:a0)(y:ab am)(z A:E)(F:ab am)(I:E)(o:a1 R)(w:al):
  az ao 202 #[aq #[v,ae y z A,t,e,n,ae F o I]] w λX w'=>X=.returned (.bool (decide (n=t)))/\Fr No w w':=by
 have J:Fr No w (w.alloc (aa #[v,ae y z A,t,e,n,ae F o I] 216)):=(an _ _).alloc _;have N:=zF w (aa #[v,ae y z A,t,e,n,ae F o I] 216);obtain⟨U,u⟩:=ε (w.alloc (aa #[v,ae y z A,t,e,n,ae F o I] 216))
 rw[<-u]at J N;obtain⟨Z,y1,y2,y3,y4,y5⟩:=cl6 N;have V:=zh J;clear J N;go_enter Tryz.func202,Tryz.ntmps202;go_upto_region 1 with(fail)
 rw[<-u];clear u;by_cases h:n=t
 .have Y:(n==t)=true:=by simpa using h
  have O:af (decide (n=t)=ai):=decide_eq_true h;clear h;go_wp2;go_ret;exact⟨by rw[O];rfl,V⟩
 .have Y:(n==t)=false:=by simpa using h
  have O:af (decide (n=t)=aj):=eb h;clear h;go_wp2;go_ret;exact⟨by rw[O];rfl,V⟩
theorem zNk (v:R)(t e n:a0)(y:ab am)(z A:E)(F:ab am)(I:E)(o:a1 R)(w:al):
  az ao 203 #[aq #[v,ae y z A,t,e,n,ae F o I]] w λX w'=>X=.returned (.bool (decide (e<=n)))/\Fr No w w':=by
 have J:Fr No w (w.alloc (aa #[v,ae y z A,t,e,n,ae F o I] 216)):=(an _ _).alloc _;have N:=zF w (aa #[v,ae y z A,t,e,n,ae F o I] 216);obtain⟨U,u⟩:=ε (w.alloc (aa #[v,ae y z A,t,e,n,ae F o I] 216))
 rw[<-u]at J N;obtain⟨Y,Z,y2,y3,y4,y5⟩:=cl6 N;have V:=zh J;clear J N;go_enter Tryz.func203,Tryz.ntmps203;go_upto_region 1 with(fail)
 rw[<-u];clear u;by_cases h:e<=n
 .have O:af (decide (e<=n)=ai):=decide_eq_true h;go_wp2;go_ret;exact⟨by rw[O];rfl,V⟩
 .have O:af (decide (e<=n)=aj):=eb h;go_wp2;go_ret;exact⟨by rw[O];rfl,V⟩
theorem zOF (o:R)(t e n:a0)(u:ab am)(v y:E)(z:ab am)(A:E)(h:a1 R)(O U:bh)(w:al):
  az ao 153 #[aq #[o,ae u v y,t,e,n,ae z h A],O,U] w λen w'=>en=.returned (.bool (mustB t e n O U))/\Fr No w w':=by
 have hx:Fr No w (w.alloc (aa #[o,ae u v y,t,e,n,ae z h A] 216)):=(an _ _).alloc _;have q0:=zF w (aa #[o,ae u v y,t,e,n,ae z h A] 216);obtain⟨W0,F⟩:=ε (w.alloc (aa #[o,ae u v y,t,e,n,ae z h A] 216))
 rw[<-F]at hx q0;obtain⟨y0,y1,y2,y3,y4,y5⟩:=cl6 q0;have hw:=zPe o t e n u v y z A h W0;have X:∀ W:al,Fr No W0 W->W.heap[(w:E)]?=B (aa #[o,ae u v y,t,e,n,ae z h A] 216):=λW hf=>hf.heap q0 id
 have a4:=zh X;have Hx:=zh hx;obtain⟨V,I⟩:=ε (mustB t e n O U)
 rw[<-I];have Y:=zh I;clear hx q0 X I;go_enter Tryz.func153,Tryz.ntmps153;go_upto_region 1 with(fail)
 rw[<-F];clear F;go_wp2_with fail;apply hw.mono;rintro en w1 ⟨rfl,J⟩;clear y0 y1 y2 y3 y4 y5;have N:=a4.out w1 J;have y0:=zB N 0;have y1:=zB N 1;have y2:=zB N 2;have y3:=zB N 3;have y4:=zB N 4;have y5:=zB N 5;have Z:=zh (Hx.step J zi);have he:=zNk o t e n u v y z A h w1;clear hw J N;cases h1:decide (n=t)with
 | true=>
  have Hv:af (V=ai):=by unfold af;rw[Y,mustB,h1];rfl
  clear h1 he;go_wp2;go_ret;exact⟨by rw[Hv];rfl,Z⟩
 | false=>
  have Hm:af (V=(decide (e<=n)&&(O||U))):=by unfold af;rw[Y,mustB,h1];rfl
  clear h1;go_wp2_with fail;apply he.mono;rintro en w2 ⟨rfl,a2⟩;have a3:=zh (Z.step a2 zi);clear he a2 y0 y1 y2 y3 y4 y5;cases h2:decide (e<=n)with
  | false=>
   have Hv:af (V=aj):=(by unfold af;rw[Hm,h2];rfl);clear h2;go_wp2;go_ret;exact⟨by rw[Hv];rfl,a3⟩
  | true=>
   have Hv:af (V=(O||U)):=(by unfold af;rw[Hm,h2];rfl);clear h2;cases O<;>cases U <;>
    (go_wp2_with fail
     go_ret;exact⟨by rw[Hv];rfl,a3⟩)
theorem zQR (u:R)(t e n rd:a0)(pa:ab am)(pn pc:E)(I:ab am)(J:E)(o:a1 R)(w:al)(b8:u.size<=1000000)(hS:Strs w I J o):
  az ao 156 #[aq #[u,ae pa pn pc,t,ag ac e,n,ae I o J],rd] w λen w'=>en=.returned (aq (mdOf u o rd).vals)/\Fr No w w':=by
 have N:Fr No w ((w.alloc (aa #[u,ae pa pn pc,t,ag ac e,n,ae I o J] 216)).alloc (aa #[(),(),(),ag ac 0] 94)):=((an _ _).alloc _).alloc _;have q2:=zP w (aa #[u,ae pa pn pc,t,ag ac e,n,ae I o J] 216) (aa #[(),(),(),ag ac 0] 94);have q4:=zT w (aa #[u,ae pa pn pc,t,ag ac e,n,ae I o J] 216) (aa #[(),(),(),ag ac 0] 94);have a4:((w.alloc (aa #[u,ae pa pn pc,t,ag ac e,n,ae I o J] 216)).alloc (aa #[(),(),(),ag ac 0] 94)).heap.size=(w:E)+2:=by simp
 have b9:=hS.lenmax;have hz:¬ 9223372036854775807<3+u.size:=by omega
 have a5:af (mdOf u o rd=⟨(),(⟨#[109,100,45]⟩:R)++u,o.headD ⟨#[]⟩,rd⟩):=rfl;obtain⟨y,U⟩:=ε ((w.alloc (aa #[u,ae pa pn pc,t,ag ac e,n,ae I o J] 216)).alloc (aa #[(),(),(),ag ac 0] 94))
 rw[<-U]at N q2 q4 a4;have a6:=hS.no N (λ_=>id);have b6:(w:E)+2<=(y:E):=by omega
 have y0:y ⟨w,0,K⟩=B (ak u):=zB q2 0;clear a4;go_enter Tryz.func156,Tryz.ntmps156;go_upto_region 1 with(fail)
 rw[<-U];clear U;have z:Fr No y (y.alloc (aa #[(),ak ((⟨#[109,100,45]⟩:R)++u),(),rd] 94)):=(an _ _).alloc _;have V:=zF y (aa #[(),ak ((⟨#[109,100,45]⟩:R)++u),(),rd] 94);have X:=z.heap q2 id;have A:=z.heap q4 id;have a9:=zC V;obtain⟨F,Y⟩:=ε (y.alloc (aa #[(),ak ((⟨#[109,100,45]⟩:R)++u),(),rd] 94))
 rw[<-Y]at z V X A a9;have a7:=a6.no z (λ_=>id);have Hx:=zh (N.step z zi);go_upto_region 2 with(fail)
 rw[<-Y];clear Y y0 N z hS a6 q2 q4;have x5:F ⟨w,5,K⟩=B (ae I o J):=zB X 5;rcases o with _|⟨c,ir⟩
 .have d0:F ⟨w,5,K⟩=B (ae I 0 J):=x5;clear x5;obtain⟨u0,u1,u2,u3⟩:=cl4 V;obtain⟨b0,b1,b2,b3⟩:=cl4 A;obtain⟨f0,f1,f2,f3⟩:=fl4 A;have Z:=set4 A rfl (ak ()) (ak ((⟨#[109,100,45]⟩:R)++u)) (ak ()) (ag ac rd);have HF:=zh (((Hx.mono (T:=From (w:E)) zn).step Z.2 (λb _ h=>by omega)).mono (T:=No) (λb hb h=>by omega));have O:=zh Z.1;clear Z;go_wp2_with fail;have y0:=zB O 0;have y1:=zB O 1;have y2:=zB O 2;have y3:=zB O 3;refine bodyPost_ret (v:=aq #[(),ak ((⟨#[109,100,45]⟩:R)++u),(),rd]) (by simp[results,dr,go_sem,y0,y1,y2,y3]) rfl ?_;exact⟨by rw[a5];rfl,HF⟩
 .have d1:(0:a0)<((c::ir).length:E):=by first|(simp;done)|(simp;omega)
  obtain⟨b,d2,x,rfl,a8,hc⟩:=a7.at (k:=0) (by simp);obtain rfl:c=x:=by simpa using a8
  rw[dj]at hc;clear a8;have z2:F ⟨y,2,K⟩=B (ak ()):=zB V 2;have f2:F.frozen? ⟨y,2,K⟩=false:=zD V 2;have a2:Fr (Is (y:E)) F (F.setCell ⟨y,2,K⟩ (ak c)):=bx (S:=Is (y:E)) (p:=⟨y,2,K⟩) (an _ _) (λ_=>rfl) _;have b4:(F.setCell ⟨y,2,K⟩ (ak c)).heap[(y:E)]?=B (aa #[(),ak ((⟨#[109,100,45]⟩:R)++u),c,rd] 94):=zE V 2 (ak c);have a3:=a2.heap A (λe=>by omega);have b5:=zh ((Hx.mono (T:=From (w:E)) zn).step a2 (λb _ h=>by omega));generalize b7:(c::ir).length=nl at *;clear a2 V A X a7 Hx;go_upto_region 4 with(fail)
  generalize F.setCell ⟨y,2,K⟩ (ak c)=Wb at *;clear z2 f2 x5 hc;obtain⟨u0,u1,u2,u3⟩:=cl4 b4;obtain⟨b0,b1,b2,b3⟩:=cl4 a3;obtain⟨f0,f1,f2,f3⟩:=fl4 a3;have Z:=set4 a3 rfl (ak ()) (ak ((⟨#[109,100,45]⟩:R)++u)) (ak c) (ag ac rd);have HF:=zh ((b5.step Z.2 (λb _ h=>by omega)).mono (T:=No) (λb hb h=>by omega));have O:=zh Z.1;clear Z;go_wp2_with fail;have y0:=zB O 0;have y1:=zB O 1;have y2:=zB O 2;have y3:=zB O 3;refine bodyPost_ret (v:=aq #[(),ak ((⟨#[109,100,45]⟩:R)++u),c,rd]) (by simp[results,dr,go_sem,y0,y1,y2,y3]) rfl ?_;exact⟨by rw[a5];rfl,HF⟩
theorem zKG (M:a1 Vir)(p:R×R):∃ v:Vir,(wantG M p).getD zFR=aq #[ak v.q,ak v.o,ak v.c,ag ac v.r]:=by
 unfold wantG;cases hq:M.find? (λv=>decide ((v.q,v.o)=p))with
 | none=>exact⟨⟨(),(),(),0⟩,rfl⟩
 | some v=>exact⟨v,rfl⟩
theorem zBT (c:RC)(sa:ab am)(sc:E)(ma:ab am)(mc:E)(S:a1 Src)(M:a1 Vir)(h9:a1 (R×R))(va:ab am)(vc:E)(V:a1 Vir)(w:al)(h:RS c w sa sc ma mc S M h9)(hv:Virs w va vc V)
  (i3:∀ ad,va=B ad->V≠[]->ad.block≠c.xb/\ad.block≠c.wm/\¬ (ah ma M mc).ownBlock=B ad.block) (e6:∀ v∈V,v.q.size<=ay/\v.o.size<=ay) (hM:(M:E)+(V:E)<=100000):
  az ao 148 #[bm (B ⟨c.xb,0,K⟩),ae va V vc] w λe w'=>e=.returned (.tuple #[])/\
   (∃ u z,RS c w' sa sc u z S (zv M V) h9/\(∀ b,(ah u (zv M V).length z).ownBlock=B b->(ah ma M mc).ownBlock=B b\/(w:E)<=b))/\Fr (λb=>b=c.xb\/b=c.wm\/(ah ma M mc).ownBlock=B b) w w':=by
 obtain⟨i0,i4,i5,i6,i7⟩:=info_parts infoV;have k6:=hv.lenmax;have k8:(V:E)<=100000:=by omega
 have Hh:=zh h;have i8:=zh e6;have e7:=zC h.k;have k9:=zh e7;clear h e6 e7;go_enter Tryz.func148,Tryz.ntmps148;go_wp2_with fail;go_loopw [11] (λx wr=>∃ (j:E) (A:a1 Vir) (u:ab am) (z:E),j<=(V:E)/\x=ag ac (j:a0)/\af (A=zv M (V.take j))/\RS c wr sa sc u z S A h9/\(∀ b,(ah u A z).ownBlock=B b->(ah ma M mc).ownBlock=B b\/(w:E)<=b)/\Fr (λb=>b=c.xb\/b=c.wm\/(ah ma M mc).ownBlock=B b) w wr) (λx _=>(V:E)-(bc x).toNat);case atStart=>exact⟨0,M,ma,mc,by omega,rfl,rfl,Hh,λb h=>.inl h,an _ _⟩
 case round=>
  obtain⟨j,A,u,z,hj,rfl,d7,hR,a3,hf⟩:=hrel;by_cases i9:j<(V:E)
  .have e8:(j:a0)<(V:E):=by omega
   obtain⟨vb,j9,m,rfl,hm,⟨c0,c1,c2,c3⟩,l0⟩:=(hv.fr hf (λad e hn hs=>by
    obtain⟨h1,h2,h3⟩:=i3 ad e hn;rcases hs with hs|hs|hs
    .exact h1 hs
    .exact h2 hs
    .exact h3 hs)).elem i9
   have b6:=i8.out m (co hm);have HN:af (zAG A m=zv M (V.take (j+1))):=by
    unfold af;rw[bs,hm,d7];exact(zGM _ _ _).symm
   have l1:(A:E)<=100000:=by
    have h1:=zA0 (V.take j) M;rw[<-d7,List.length_take]at h1;omega
   obtain⟨W1,a5,e9,-,-⟩:=zw wr (aa m.vals 94) (aa #[m.q,m.o] 125);have d1:W1.heap[(wr:E)]?=B (aa m.vals 94):=(by rw[a5];exact((an No _).alloc _).heap (zF _ _) id);have p1:W1.heap[(wr:E)+1]?=B (aa #[m.q,m.o] 125):=by
    rw[a5];have:=zF (wr.alloc (aa m.vals 94)) (aa #[m.q,m.o] 125)
    rwa [bd]at this
   have s1:(W1:E)=(wr:E)+2:=(by rw[a5];simp);have b7:=hR.no e9;have g2:=zh b7;have a8:=zh a3;have Hf:=zh (hf.step e9 zn);have l2:=zC hR.k;have l3:=hR.wmo.lt;have j0:∀ b,(ah u A z).ownBlock=B b->b<(wr:E):=λb Y=>ze hR.mo Y
   unfold bi at a5;clear hm hR a3 hf;go_upto_region 4 with(fail)
   rw[<-a5];clear a5 c0 c1 c2 c3;obtain⟨y,hy⟩:=zKG A (m.q,m.o);have g3:=zEw A m.q m.o;refine zO (From (W1:E)) [(0,aj),(1,aj),(2,aj),(3,aj),(4,aj),(5,aj),(6,aj),(7,aj),(8,aj),(9,ai),(10,ai),(11,aj)] (λw0 Z=>?_);have k0:=Z.heap b7.k id;have q0:=b7.wmo.fr Z id;have j1:=Z.heap d1 id;have d9:=Z.heap p1 id;have d6:∀ g:Gr (From (W1:E)) w0,g.W ⟨c.xb,6,K⟩=B (.map (B c.wm)):=λg=>zB (g.fr.heap k0 (by omega)) 6
   have g0:∀ g:Gr (From (W1:E)) w0,g.W ⟨(wr:E)+1,0,K⟩=B (ak m.q):=λg=>zB (g.fr.heap d9 (by omega)) 0
   have g1:∀ g:Gr (From (W1:E)) w0,g.W ⟨(wr:E)+1,1,K⟩=B (ak m.o):=λg=>zB (g.fr.heap d9 (by omega)) 1
   have g4:∀ W,(∃ g:Gr (From (W1:E)) w0,W=g.W)->(bp 120 (.map (B c.wm)) (aq #[m.q,m.o]) ai).run ao W=.ok (.tuple #[aq #[y.q,y.o,y.c,y.r],.bool (inW A m.q m.o)]) W:=λW hW=>by
    obtain⟨g,rfl⟩:=hW;have:=(q0.fr g.fr (by omega)).lookok (zDf g.W) dt b6.1 b6.2;rw[this,hy,g3]
   clear hy g3;have j2:=Z.size;clear k0 q0 j1 d9;apply zR rfl rfl rfl;intro N O;go_big_quiet_op;go_big_quiet_on;apply zR rfl rfl rfl;intro N O;go_big_quiet_op;go_big_quiet_on;apply zR rfl rfl rfl;intro N O;go_big_quiet_op;go_big_quiet_on;apply zR rfl rfl rfl;intro N O;go_big_quiet_op;go_big_quiet_on;apply zR rfl rfl rfl;intro N O;go_big_quiet_op;go_big_quiet_on;apply zR rfl rfl rfl;intro N O;refine zAp rfl _ _ 120 rfl (.map (B c.wm)) (aq #[m.q,m.o]) _ rfl rfl g4 ?_
   go_frame
   go_big_quiet_on;clear g4;apply zR rfl rfl rfl;intro N O;go_big_quiet_op;go_big_quiet_on;apply zR rfl rfl rfl;intro N O;go_big_quiet_op;go_big_quiet_on;apply zR rfl rfl rfl;intro N O;go_big_quiet_op;go_big_quiet_on;apply zu rfl;obtain⟨I,g5,g6,q3⟩:=zy w0 (aa #[(),(),(),ag ac 0] 94);clear d6 g0 g1;go_wp2_with fail;apply zp;rw[<-g5];clear g5;apply zu rfl;obtain⟨z0,z1,z2,z3⟩:=cl4 q3;obtain⟨f0,f1,f2,f3⟩:=fl4 q3;have h4:=zh (set4 q3 rfl (ak y.q) (ak y.o) (ak y.c) (ag ac y.r));clear q3;go_wp2_with fail;refine bj ⟨h4.2.mono (λb _ h=>by omega),?_⟩;apply zR rfl rfl rfl;intro N O;go_big_quiet_op;go_big_quiet_on;apply zY;have a6:=zh ((Z.step g6 zi).step h4.2 (T:=Is (w0:E)) (λb Y h=>by omega));clear g6 h4 Z z0 z1 z2 z3 f0 f1 f2 f3;generalize ((((I.setCell ⟨w0,0,K⟩ (ak y.q)).setCell ⟨w0,1,K⟩ (ak y.o)).setCell ⟨w0,2,K⟩ (ak y.c)).setCell ⟨w0,3,K⟩ (ag ac y.r))=w5 at *;have R5:=zh (g2.no a6);have d5:=a6.heap d1 id;have p5:=a6.heap p1 id;have g7:=zh (Hf.step a6 zn);have s5:=a6.size;clear d1 p1 b7 g2 a6 j2;rcases hin:inW A m.q m.o with _|_
   .have j3:af (A++[m]=zv M (V.take (j+1))):=(by unfold af;rw[<-HN];unfold zAG;rw[ar (by rw[hin];decide)]);have j4:=zh hin;clear hin;have g8:=R5.out;go_upto_region 6 with(fail)
    refine zO (Is c.wm) [(0,aj),(1,aj),(2,aj),(3,aj),(4,aj),(5,aj),(6,ai)] (λw6 a7=>?_);have F:=g8.no a7;have d6:=a7.heap d5 id;have p6:=a7.heap p5 id;have g9:=zh (g7.step a7 zn);have s6:=a7.size;have m6:∀ g:Gr (Is c.wm) w6,g.W ⟨c.xb,6,K⟩=B (.map (B c.wm)):=λg=>zB (g.fr.heap F.k (λh=>F.wmo.ne_cells F.k h)) 6
    have g0:∀ g:Gr (Is c.wm) w6,g.W ⟨(wr:E)+1,0,K⟩=B (ak m.q):=λg=>zB (g.fr.heap p6 (λh=>F.wmo.ne_cells p6 h)) 0
    have g1:∀ g:Gr (Is c.wm) w6,g.W ⟨(wr:E)+1,1,K⟩=B (ak m.o):=λg=>zB (g.fr.heap p6 (λh=>F.wmo.ne_cells p6 h)) 1
    have e0:∀ g:Gr (Is c.wm) w6,g.W ⟨wr,0,K⟩=B (ak m.q):=λg=>zB (g.fr.heap d6 (λh=>F.wmo.ne_cells d6 h)) 0
    have e1:∀ g:Gr (Is c.wm) w6,g.W ⟨wr,1,K⟩=B (ak m.o):=λg=>zB (g.fr.heap d6 (λh=>F.wmo.ne_cells d6 h)) 1
    have e2:∀ g:Gr (Is c.wm) w6,g.W ⟨wr,2,K⟩=B (ak m.c):=λg=>zB (g.fr.heap d6 (λh=>F.wmo.ne_cells d6 h)) 2
    have e3:∀ g:Gr (Is c.wm) w6,g.W ⟨wr,3,K⟩=B (ag ac m.r):=λg=>zB (g.fr.heap d6 (λh=>F.wmo.ne_cells d6 h)) 3
    apply zR rfl rfl rfl;intro N O;go_big_quiet_op;go_big_quiet_on;apply zR rfl rfl rfl;intro N O;go_big_quiet_op;go_big_quiet_on;apply zR rfl rfl rfl;intro N O;go_big_quiet_op;go_big_quiet_on;apply zR rfl rfl rfl;intro N O;go_big_quiet_op;go_big_quiet_on;apply zR rfl rfl rfl;intro N O;go_big_quiet_op;go_big_quiet_on;apply zR rfl rfl rfl;intro N O;go_big_quiet_op;go_big_quiet_on;clear m6 g0 g1 e0 e1 e2 e3;apply zu rfl;go_wp2_with (at_mapUpdate;refine zDi rfl _ _ _ 120 94 rfl dt c.wm _ (A:E) (by unfold ay;omega) m.q m.o b6.1 b6.2 (aq #[m.q,m.o,m.c,m.r]) rfl F.wmo rfl rfl ?_;intro w7 h0 U)
    apply zf U;apply zY;have k7:=U.heap F.k (λh=>F.wmo.ne_cells F.k h);have h5:=zG F.mo U (λb Y h=>by unfold Is at h;subst h;exact F.wmo.ne_own F.mo Y);have d8:=U.heap d6 (λh=>F.wmo.ne_cells d6 h);have s7:=U.size;have j5:¬ (ah u A z).ownBlock=B (wr:E):=λh=>by have:=j0 _ h;omega
    have k3:c.b0<=(w7:E):=(by have:=F.lo.1;omega);have a9:af (∀ I:al,Fr (λb=>b=c.xb\/(ah u A z).ownBlock=B b) w7 I->∀ (X:al) (av:ab am) (cv:E),X.heap[c.xb]?=B (aa (rcs c.ka c.kn c.kc c.wt c.a c.n c.cap c.ca c.C.length c.cc c.ea c.en c.ec sa (S:E) sc c.wm c.sm av ((A:E)+1) cv) 134)->
      X.ownsRow c.b0 94 4 (ae av ((A:E)+1) cv) ((A:E)+1) (vflat A++(bi m).toList)->((ah av ((A:E)+1) cv).ownBlock=(ah u A z).ownBlock\/(ah av ((A:E)+1) cv).ownBlock=B (I.alloc (aa (bi m) 94)).heap.size)->
      Fr (λb=>b=c.xb\/(ah u A z).ownBlock=B b) I X->RS c X sa sc av cv S (A++[m]) h9/\(∀ b,(ah av (A++[m]).length cv).ownBlock=B b->(ah ma M mc).ownBlock=B b\/(w:E)<=b)/\Fr (λb=>b=c.xb\/b=c.wm\/(ah ma M mc).ownBlock=B b) w X):=by
     unfold af;intro I h3 X av cv hk hx b1 j6;have h7:=h3.step j6 zi;refine⟨F.grow U h0 j4 h7 hk hx,λb Y=>?_,?_⟩
     .rw[zMv av _ ((A:E)+1) cv cv]at Y;rcases b1 with b1|b1
      .rw[b1]at Y;exact a8 b Y
      .rw[b1]at Y;injection Y with Y
       have h1:=h3.size;have h2:=g9.size;rw[bd]at Y;exact .inr (by omega)
     .exact(g9.step U (λb Y h=>.inr (.inl h))).step h7 (λb Y h=>by
       rcases h with h|h
       .exact .inl h
       .rcases a8.out b h with h|h
        .exact .inr (.inr h)
        .omega)
    clear h0 U F g8 a7 d6 p6 d5 p5;go_upto_region 7 with(fail)
    refine zZ (λb=>b=c.xb\/(ah u A z).ownBlock=B b\/(w7:E)<=b) (.q 0 (.q 1 (.q 2 (.q 3 (.q 5 (.m2 4 (.m1 6 (.m1 7 (.q 8 (.q 9 (.m1 10 .fin))))) 6 (.m1 4 (.m1 7 (.q 8 (.q 9 (.m1 10 .fin))))))))))) _ (λI b2=>?_) zj;have b8:=b2.heap k7 id;have a2:=zG h5 b2 (λ_ _=>id);have d0:=zJ a2 b8 (by decide);have d3:=b2.heap d8 id;have s3:=b2.size;have cB:∀ g:Gr (λb=>b=c.xb\/(ah u A z).ownBlock=B b\/(w7:E)<=b) I,g.W.heap[(wr:E)]?=B (aa (bi m) 94):=λg=>g.fr.heap d3 (λh=>by
     rcases h with h|h|h
     .omega
     .exact j5 h
     .omega)
    have e0:∀ g:Gr (λb=>b=c.xb\/(ah u A z).ownBlock=B b\/(w7:E)<=b) I,g.W ⟨wr,0,K⟩=B (ak m.q):=λg=>zB (cB g) 0
    have e1:∀ g:Gr (λb=>b=c.xb\/(ah u A z).ownBlock=B b\/(w7:E)<=b) I,g.W ⟨wr,1,K⟩=B (ak m.o):=λg=>zB (cB g) 1
    have e2:∀ g:Gr (λb=>b=c.xb\/(ah u A z).ownBlock=B b\/(w7:E)<=b) I,g.W ⟨wr,2,K⟩=B (ak m.c):=λg=>zB (cB g) 2
    have e3:∀ g:Gr (λb=>b=c.xb\/(ah u A z).ownBlock=B b\/(w7:E)<=b) I,g.W ⟨wr,3,K⟩=B (ag ac m.r):=λg=>zB (cB g) 3
    clear cB d3;(repeat(first|apply zN rfl rfl rfl|apply zK rfl rfl rfl);intro N O;go_big_quiet_op;go_big_quiet_on);clear e0 e1 e2 e3;have c3:I ⟨c.xb,8,K⟩=B (ae u A z):=zB b8 8;refine zAC rfl rfl ?_ ?_
    focus
     go_wp2_with fail;apply zq;apply zH rfl;go_wp2_with fail;apply zp;clear c3
    rotate_left 1
    focus
     go_wp2_with fail;apply zp;apply zH rfl;have c7:∀ o,(I.alloc o) ⟨c.xb,8,K⟩=B (ae u A z):=λo=>((an No I).alloc o).cell c3 id
     clear c3;go_wp2_with fail;apply zq;clear c7
    all_goals (
     apply zH rfl;go_wp2_with (at_builtin;refine cx _ rfl _ _ 89 rfl c.b0 94 i0 (aq #[au,au,au,ag ac 0]) 4 56 Tryz.underlying89 i4 i5 i6 i7 rfl (by decide) _ _ _ rfl (a2.alloc _) ⟨I,0,K⟩ 1 1 (bi m).toList rfl rfl (zk _ (bi m) _ rfl) (zCX _) (by unfold ay;omega) (by omega) (by first|omega|(simp;done)|(simp;omega)) ?_;intro v' w4 J a4 _ d2;obtain⟨b3,b4,rfl⟩:=zI J)
     have e4:Fr No I (I.alloc (aa (bi m) 94)):=(an _ _).alloc _;have b9:Fr (λb=>(ah u A z).ownBlock=B b) (I.alloc (aa (bi m) 94)) w4:=ch a4;have k4:=b9.heap (e4.heap b8 id) (λe=>d0 e);have c3:w4 ⟨c.xb,8,K⟩=B (ae u A z):=zB k4 8;have f3:w4.frozen? ⟨c.xb,8,K⟩=false:=zD k4 8;have d4:=zJ J k4 (by decide);refine bj ⟨b9.mono (λb _ h=>.inr (.inl h)),?_⟩;(repeat(first|apply zN rfl rfl rfl|apply zK rfl rfl rfl);intro N O;go_big_quiet_op;go_big_quiet_on);apply zH rfl;have f5:Fr (Is (c.xb)) w4 (w4.setCell ⟨c.xb,8,K⟩ (ae b3 ((A:E)+1) b4)):=ci (an _ _) _;have k5:((w4.setCell ⟨c.xb,8,K⟩ (ae b3 ((A:E)+1) b4))).heap[c.xb]?=B (aa (rcs c.ka c.kn c.kc c.wt c.a c.n c.cap c.ca c.C.length c.cc c.ea c.en c.ec sa (S:E) sc c.wm c.sm b3 ((A:E)+1) b4) 134):=zE k4 8 _;have b5:=zG J f5 (λb Y h=>by unfold Is at h;subst h;exact d4 Y);have h6:Fr (λb=>b=c.xb\/(ah u A z).ownBlock=B b) I (w4.setCell ⟨c.xb,8,K⟩ (ae b3 ((A:E)+1) b4)):=((e4.mono zn).step b9 (λb _ h=>.inr h)).step f5 (λb _ h=>.inl h);have HR:=zg3 k5 b5 h6;have j7:=zh d2;clear J a4 b9 k4 f5 k5 b5 h6 d4 e4 d2;go_wp2_with fail;refine bj ⟨bx (an _ _) (λ_=>.inl rfl) _,?_⟩;apply zW;clear a2 b8 d0;have h8:=a9.out _ (b2.mono zn) _ _ _ HR.1 HR.2.1 j7 HR.2.2;have e5:=zh h8;clear h8 a9;go_wp2;go_roundw;case rel=>exact⟨j+1,A++[m],b3,b4,by omega,by go_num,j3,e5.1,e5.2.1,e5.2.2⟩
     case measure=>simp[bc];omega
     )
   .have j8:af (A=zv M (V.take (j+1))):=(by unfold af;rw[<-HN];unfold zAG;rw[ax hin]);clear hin;go_wp2;go_roundw;case rel=>exact⟨j+1,A,u,z,by omega,by go_num,j8,R5,a8,g7⟩
    case measure=>simp[bc];omega
  .obtain rfl:j=(V:E):=by omega
   have e8:¬ ((V:E):a0)<(V:E):=(by omega);have HE:af (A=zv M V):=(by unfold af;rw[d7,ce]);have hr:=HE.out;have H:=zg3 hR a3 hf;clear hR a3 hf;go_wp2;go_end0;rw[<-HE];exact⟨rfl,⟨u,z,H.1,H.2.1⟩,H.2.2⟩
end Go.Proofs.YtjoipgjdpnjjiaaGreatDoor
