import Derived.Test.YtinfjnndbfahhaaGreatDoorQ15
namespace Go.Proofs.YtinfjnndbfahhaaGreatDoor
open Go.RowKit Go.Maps
set_option linter.unusedVariables false
set_option maxRecDepth 100000
set_option maxHeartbeats 8000000
structure RC where
 ka:Option Addr
 kn:Nat
 kc:Nat
 wt:Int
 a:Option Addr
 n:Nat
 cap:Nat
 ea:Option Addr
 en:Nat
 ec:Nat
 ca:Option Addr
 cc:Nat
 C:List Src
 wm:Nat
 sm:Nat
 xb:Nat
 b0:Nat
 b2:Nat
structure RSt (c:RC)(w:World)(S:List Src)(M:List Vir)(G:List (ByteArray×ByteArray)):Prop where
 ex:∃ sa sc ma mc,w.heap[c.xb]?=some (.cells (rcs c.ka c.kn c.kc c.wt c.a c.n c.cap c.ca c.C.length c.cc c.ea c.en c.ec sa S.length sc c.wm c.sm ma M.length mc) 83)/\
  w.ownsRow c.b2 123 13 (.slice sa S.length sc) S.length (sflat S)/\w.ownsRow c.b0 94 4 (.slice ma M.length mc) M.length (vflat M)
 cs:Srcs w c.ca c.cc c.C
 cb:∀ ad,c.ca=some ad->c.b0<=ad.block/\ad.block<c.b2/\BlkT w c.ca 123
 wmo:QMap w c.wm (wantG M) M.length
 smo:QMap w c.sm (seenG G) G.length
 ne:c.wm≠c.sm
 lo:c.b0<=c.xb/\c.b0<=c.wm/\c.b0<=c.sm/\c.b0<=c.b2/\c.xb<c.b2/\c.wm<c.b2/\c.sm<c.b2
theorem zLc (a ra ka ea:Option Addr)(f rc kn kc en ec b7:Nat)(wt:Int)(ds:List Dev)(L:List Rec)(w:World)(hl:Tr w b7 a f ds)(hn:ds.length<=250)(hr:Recs w ra rc L)(hE:ErrV w)(l2:5<w.heap.size/\4<w.heap.size):
  Calls Tryz.prog 26 #[.agg #[.slice a ds.length f],.slice ra L.length rc,.agg #[.slice ka kn kc,.int .i64 wt],.slice ea en ec] w fun e w'=>
   (∃ O cc b2,e=.returned (.pointer (some ⟨w.heap.size+4,0,none⟩))/\RSt ⟨ka,kn,kc,wt,a,ds.length,f,ea,en,ec,O,cc,cntL ds L 0 ds,w.heap.size+2,w.heap.size+3,w.heap.size+4,w.heap.size,b2⟩ w' ((cntL ds L 0 ds).filter fun s=>!virB ds s.d.index) [] []/\b2<=w'.heap.size)/\Fr No w w':=by
 obtain⟨i0,g7,g8,g9,h0⟩:=info_parts infoSr;have i7:=@run_makeMap Tryz.prog;have hT:=hl.wf.ok;obtain⟨W0,a5⟩:∃ W0,W0=((((w.alloc (.cells #[.slice a ds.length f] 48)).alloc (.cells #[.slice ka kn kc,.int .i64 wt] 43)).alloc (.map #[] 0)).alloc (.map #[] 0)).alloc (.cells (rcs ka kn kc wt a ds.length f none 0 0 ea en ec none 0 0 (w.heap.size+2) (w.heap.size+3) none 0 0) 83):=⟨_,rfl⟩
 have x0:Fr No w W0:=by rw[a5];exact(((((Fr.refl _ _).alloc _).alloc _).alloc _).alloc _).alloc _
 have b4:W0.heap[w.heap.size]?=some (.cells #[.slice a ds.length f] 48):=by
  rw[a5];exact((((Fr.refl No _).alloc _).alloc _).alloc _).heap (zI w _ _) id
 have b9:W0.heap[w.heap.size+4]?=some (.cells (rcs ka kn kc wt a ds.length f none 0 0 ea en ec none 0 0 (w.heap.size+2) (w.heap.size+3) none 0 0) 83):=by
  rw[a5];have:=zD ((((w.alloc (.cells #[.slice a ds.length f] 48)).alloc (.cells #[.slice ka kn kc,.int .i64 wt] 43)).alloc (.map #[] 0)).alloc (.map #[] 0)) (.cells (rcs ka kn kc wt a ds.length f none 0 0 ea en ec none 0 0 (w.heap.size+2) (w.heap.size+3) none 0 0) 83);rw[World.size_alloc,World.size_alloc,World.size_alloc,World.size_alloc]at this;exact this
 have m2:QMap W0 (w.heap.size+2) (fun _=>none) 0:=by
  rw[a5];have:=QMap.made ((w.alloc (.cells #[.slice a ds.length f] 48)).alloc (.cells #[.slice ka kn kc,.int .i64 wt] 43));rw[World.size_alloc,World.size_alloc]at this;exact(this.fr ((Fr.refl No _).alloc _) id).fr ((Fr.refl No _).alloc _) id
 have m3:QMap W0 (w.heap.size+3) (fun _=>none) 0:=by
  rw[a5];have:=QMap.made (((w.alloc (.cells #[.slice a ds.length f] 48)).alloc (.cells #[.slice ka kn kc,.int .i64 wt] 43)).alloc (.map #[] 0));rw[World.size_alloc,World.size_alloc,World.size_alloc]at this;exact this.fr ((Fr.refl No _).alloc _) id
 have s0:W0.heap.size=w.heap.size+5:=by rw[a5];simp
 have S0:Hid (w.heap.size+5<=W0.heap.size):=by unfold Hid;omega
 have t4:W0.cell? ⟨w.heap.size,0,none⟩=some (.slice a ds.length f):=zB b4 0;have l3:=hl.dv.lenmax;have h4:=zh (fun (W:World) (I:Fr (From w.heap.size) w W) (n:Int) (hx:(Lit.int .i64 n).wf=true)=>zA5 a f ds n W (hl.dv.fr I (fun D e b3 h=>by have:=(hl.dv.cell D e b3).2.1;unfold From at h;omega)) hT (by omega) hx);have g1:Hid (∀ W,Fr (From w.heap.size) w W->Tr W b7 a f ds):=fun W I=>hl.keep I (fun b hb _ h=>by unfold From at h;omega)
 have i8:Hid (∀ W,Fr (From w.heap.size) w W->Recs W ra rc L):=fun W I=>⟨hr.len,hr.max,hr.isNil,fun r i9=>by
   have h1:=hr.ok r i9;exact⟨h1.props.fr I (fun D e b3 h=>by have:=(h1.props.cell D e b3).2.1;unfold From at h;omega),h1.tags.fr I (fun D e b3 h=>by have:=(h1.tags.cell D e b3).2.1;unfold From at h;omega)⟩,fun D e b3=>by
   obtain⟨h1,h2,h3⟩:=hr.cell D e b3;exact⟨h1,Nat.lt_of_lt_of_le h2 I.size,fun i r hi j hj=>I.cell (h3 i r hi j hj) (fun h=>by unfold From at h;dsimp only at h;omega)⟩⟩
 have HE:Hid (∀ W,Fr (From w.heap.size) w W->ErrV W):=fun W I=>hE.fr I (fun h=>by unfold From at h;omega) (fun h=>by unfold From at h;omega)
 have HT:=zh hT;have Hn:=zh hn;clear hl hr hE hT hn;unfold rcs at a5
 go_enter Tryz.func26,Tryz.ntmps26
 go_upto_region 2 with(fail)
 rw[<-a5];clear a5;obtain⟨X,hX⟩:∃ X,X=w.heap.size+4:=⟨_,rfl⟩
 rw[<-hX]at b9;rw[show w.heap.size+1+1+1+1=X from by omega];have HX:=zh hX;have l4:w.heap.size<=X:=by omega
 have l5:w.heap.size<X:=by omega
 have l6:X+1<=W0.heap.size:=by omega
 have HM:=zh (And.intro m2 m3);have g2:=zh x0;have l7:=zh b4;clear hX s0 m2 m3 x0
 go_wp2_with fail
 clear t4 i7
 go_loopw [26] (fun i wr=>∃ (k:Nat) (O:Option Addr) (cc:Nat),k<=ds.length/\i=.int .i64 (k:Int)/\(wr.heap[X]?=some (.cells (rcs ka kn kc wt a ds.length f O (cntL ds L 0 (ds.take k)).length cc ea en ec none 0 0 (w.heap.size+2) (w.heap.size+3) none 0 0) 83)/\wr.ownsRow (X+1) 123 13 (.slice O (cntL ds L 0 (ds.take k)).length cc) (cntL ds L 0 (ds.take k)).length (sflat (cntL ds L 0 (ds.take k)))/\Fr (fun b=>X<=b) W0 wr)) (fun i _=>ds.length-(intOf i).toNat)
 case atStart=>exact⟨0,none,0,by omega,rfl,by simpa [cntL]using b9,by simpa [cntL,sflat]using World.ownsRow_nil _ _ _ _,Fr.refl _ _⟩
 case round=>
  obtain⟨k,O,cc,hk,rfl,kx,J,I⟩:=hrel;by_cases d9:k<ds.length
  ·have h5:(k:Int)<ds.length:=by omega
   have b8:Fr (From w.heap.size) w wr:=(g2.out.mono zn).step I (fun b _ h=>by unfold From;omega);obtain⟨bb,f0,d,rfl,hd,c0,c1,c2,c3,c4,c5,c6,c7,c8,c9⟩:=(g1.out _ b8).dv.dev d9;have a4:=List.mem_of_getElem? hd;have g3:=HT.out.iwf a4;have k8:=HT.out.lk a4;have f1:Hid (ds.take (k+1)=ds.take k++[d]):=by unfold Hid;rw[List.take_add_one,hd];rfl
   have h6:(ds.take k).length=k:=by simp;omega
   have h7:=zCe ds L (ds.take k) 0;rw[h6]at h7;obtain⟨W1,R⟩:∃ W1,W1=wr.alloc (.cells d.vals 36):=⟨_,rfl⟩
   have a6:Fr No wr W1:=by rw[R];exact(Fr.refl _ _).alloc _
   have d1:W1.heap[wr.heap.size]?=some (.cells d.vals 36):=by rw[R];exact zD _ _
   have U:Fr (From w.heap.size) w W1:=b8.step a6 zn;have d0:=a6.heap (I.heap b4 (fun h=>by omega)) id;have t4:W1.cell? ⟨w.heap.size,0,none⟩=some (.slice (some ⟨bb,f0,none⟩) ds.length f):=zB d0 0;have z0:=(DevB.of d1).c0;have d5:=h4.out W1 U d.index g3;have j0:Hid (plc ds d.index=((look ds d.index).map fun _=>pathOf (origin ds d.index)).getD ⟨#[]⟩):=rfl;rw[<-j0.out]at d5;have h8:X<wr.heap.size:=zC kx;unfold Dev.vals at R;clear hd a4
   go_upto_region 5 with(fail)
   rw[<-R];clear R c0 c1 c2 c3 c4 c5 c6 c7 c8 c9
   go_wp2_with fail
   refine d5.mono ?_;rintro e w2 ⟨rfl,d6⟩;clear d5 t4 z0;have f7:Fr No wr w2:=a6.step d6 zi;have d2:=d6.heap d1 id;have h9:=d6.heap d0 id;have t4:w2.cell? ⟨w.heap.size,0,none⟩=some (.slice (some ⟨bb,f0,none⟩) ds.length f):=zB h9 0;have z0:=(DevB.of d2).c0;have d7:=U.step d6 zn;have f8:=zKD (some ⟨bb,f0,none⟩) ra f rc ds L b7 d.index w2 (g1.out _ d7) (by have:=Hn.out;omega) g3 (i8.out _ d7);generalize (look ds d.index).isSome=lks at *
   go_wp2_with fail
   refine f8.mono ?_;rintro e w3 ⟨rfl,v⟩;clear f8 t4 z0;have y:Fr No wr w3:=f7.step v zi;have dw:=v.heap d2 id;have kw:=y.heap kx id;have V:=zG J y (fun _ _=>id);have hS:=zBP ds L (ds.take k) 0 d;rw[<-f1.out,h6,Nat.zero_add]at hS;have HS:=zh hS;clear hS d0 h9 d1 d2 a6 f7 d6;have Hf:=zh (I.step y zn);have j1:=y.size;rcases hq:cntB ds L d.index with _ | _
   ·have z:Hid (cntL ds L 0 (ds.take (k+1))=cntL ds L 0 (ds.take k)):=by unfold Hid;rw[HS.out,hq];simp
    clear J kx
    go_wp2_with fail
    go_roundw
    case rel=>exact⟨k+1,O,cc,by omega,by go_num,by rw[z.out];exact kw,by rw[z.out];exact V,Hf.out⟩
    case measure=>simp[intOf];omega
   ·have z:Hid (cntL ds L 0 (ds.take (k+1))=cntL ds L 0 (ds.take k)++[⟨(k:Int),d,plc ds d.index,0⟩]):=by unfold Hid;rw[HS.out,hq];simp
    clear hq;have g4:=fun b (h:(Value.slice O (cntL ds L 0 (ds.take k)).length cc).ownBlock=some b)=>zV J h
    have g5:Hid (∀ b,(Value.slice O (cntL ds L 0 (ds.take k)).length cc).ownBlock=some b->X+1<=b):=fun b h=>zP J h
    have j2:wr.heap.size<w3.heap.size:=zC dw;have l8:k<=250:=by have:=Hn.out;omega
    generalize plc ds d.index=P at *;clear kx b8 y U d7
    go_upto_region 7 with(fail)
    refine zb (fun b=>b=X\/(Value.slice O (cntL ds L 0 (ds.take k)).length cc).ownBlock=some b\/w3.heap.size<=b) (.q 0 (.q 1 (.q 2 (.q 3 (.q 5 (.q 6 (.q 7 (.q 8 (.m2 4 (.m1 9 (.m1 10 (.q 11 (.q 12 (.m1 13 .fin))))) 9 (.m1 4 (.m1 10 (.q 11 (.q 12 (.m1 13 .fin)))))))))))))) _ (by kernel_rfl) (by kernel_rfl) (fun W3 v=>?_) zj;have a7:=v.heap kw id;have A:=zG V v (fun _ _=>id);have a9:=zR A a7 (by decide);have d3:=v.heap dw id;have s3:=v.size;have N:∀ g:Gr (fun b=>b=X\/(Value.slice O (cntL ds L 0 (ds.take k)).length cc).ownBlock=some b\/w3.heap.size<=b) W3,DevB g.W wr.heap.size d:=fun g=>DevB.of (g.fr.heap d3 (fun h=>by
     rcases h with h | h | h
     ·omega
     ·have:=g4 _ h;omega
     ·omega))
    have e0:=fun g=>(N g).c0
    have e1:=fun g=>(N g).c1
    have e2:=fun g=>(N g).c2
    have e3:=fun g=>(N g).c3
    have e4:=fun g=>(N g).c4
    have e5:=fun g=>(N g).c5
    have e6:=fun g=>(N g).c6
    have e7:=fun g=>(N g).c7
    have e8:=fun g=>(N g).c8
    have e9:=fun g=>(N g).c9
    clear N d3
    repeat((first|apply zM rfl rfl rfl|apply zO rfl rfl rfl);intro K hK;go_big_quiet_op;go_big_quiet_on)
    clear e0 e1 e2 e3 e4 e5 e6 e7 e8 e9;have c3:W3.cell? ⟨X,3,none⟩=some (.slice O (cntL ds L 0 (ds.take k)).length cc):=zB a7 3;refine zv rfl rfl ?_ ?_
    focus
     go_wp2_with fail
     refine zq ?_;apply zH;exact rfl
     go_wp2_with fail
     refine zp ?_;clear c3
    rotate_left 1
    focus
     go_wp2_with fail
     refine zp ?_;apply zH;exact rfl;have c7:∀ o,(W3.alloc o).cell? ⟨X,3,none⟩=some (.slice O (cntL ds L 0 (ds.take k)).length cc):=fun o=>((Fr.refl No W3).alloc o).cell c3 id
     clear c3
     go_wp2_with fail
     refine zq ?_;clear c7
    all_goals (
     apply zH;exact rfl
     go_wp2_with (at_builtin;refine wpList_append_own_at _ rfl _ _ 79 rfl (X+1) 123 i0 (.agg #[.int .i64 0,.int .i64 0,.int .i64 0,.string ByteArray.empty,.string ByteArray.empty,.string ByteArray.empty,.string ByteArray.empty,.string ByteArray.empty,.int .i64 0,.int .i64 0,.slice none 0 0,.string ByteArray.empty,.int .i64 0]) 13 168 Tryz.underlying79 g7 g8 g9 h0 rfl (by decide) _ _ _ rfl (A.alloc _) ⟨W3.heap.size,0,none⟩ 1 1 (Src.vals ⟨(k:Int),d,P,0⟩).toList rfl rfl (ze _ (Src.vals ⟨(k:Int),d,P,0⟩) _ rfl) (zBt _) (by unfold maxLen;omega) (by omega) (by first | omega | (simp;done) | (simp;omega)) ?_;intro v' w4 u F _ b0;obtain⟨Y,Z,rfl⟩:=zJ u)
     have b5:Fr No W3 (W3.alloc (.cells (Src.vals ⟨(k:Int),d,P,0⟩) 123)):=(Fr.refl _ _).alloc _;have a8:Fr (fun b=>(Value.slice O (cntL ds L 0 (ds.take k)).length cc).ownBlock=some b) (W3.alloc (.cells (Src.vals ⟨(k:Int),d,P,0⟩) 123)) w4:=Fr.of_grown F;have k4:=a8.heap (b5.heap a7 id) (fun e=>a9 e);have c3:w4.cell? ⟨X,3,none⟩=some (.slice O (cntL ds L 0 (ds.take k)).length cc):=zB k4 3;have f3:w4.frozen? ⟨X,3,none⟩=false:=zE k4 3;have b1:=zR u k4 (by decide);refine OnlyN.mk ⟨a8.mono (fun b _ h=>.inr (.inl h)),?_⟩
     repeat((first|apply zM rfl rfl rfl|apply zO rfl rfl rfl);intro K hK;go_big_quiet_op;go_big_quiet_on)
     apply zH;exact rfl;have f5:Fr (Is (X)) w4 (w4.setCell ⟨X,3,none⟩ (.slice Y ((cntL ds L 0 (ds.take k)).length+1) Z)):=Fr.setAt (Fr.refl _ _) _;have k5:((w4.setCell ⟨X,3,none⟩ (.slice Y ((cntL ds L 0 (ds.take k)).length+1) Z))).heap[X]?=some (.cells (rcs ka kn kc wt (some ⟨bb,f0,none⟩) ds.length f Y ((cntL ds L 0 (ds.take k)).length+1) Z ea en ec none 0 0 (w.heap.size+2) (w.heap.size+3) none 0 0) 83):=zF k4 3 _;have a2:=zG u f5 (fun b hb h=>by unfold Is at h;subst h;exact b1 hb);have d8:Fr (fun b=>b=X\/(Value.slice O (cntL ds L 0 (ds.take k)).length cc).ownBlock=some b) W3 (w4.setCell ⟨X,3,none⟩ (.slice Y ((cntL ds L 0 (ds.take k)).length+1) Z)):=((b5.mono zn).step a8 (fun b _ h=>.inr h)).step f5 (fun b _ h=>.inl h);have HR:=zh (And.intro k5 (And.intro a2 d8));have j3:=zh b0;clear u F a8 k4 f5 k5 a2 d8 b1 b5 b0
     go_wp2_with fail
     refine OnlyN.mk ⟨Fr.setCell (Fr.refl _ _) (fun _=>.inl rfl) _,?_⟩;refine zX ?_;clear A a7 a9;have g6:Hid (Fr (fun b=>X<=b) W0 W3):=Hf.out.step v zn
     go_wp2_with fail
     go_roundw
     case rel=>exact⟨k+1,Y,Z,by omega,by go_num,by rw[z.out,List.length_append];exact HR.out.1,by rw[z.out,List.length_append,zCG];exact HR.out.2.1,g6.out.step HR.out.2.2 (fun b _ h=>by
      rcases h with h | h
      ·omega
      ·have:=g5.out _ h;omega)⟩
     case measure=>simp[intOf];omega
     )
  ·obtain rfl:k=ds.length:=by omega
   have hC:cntL ds L 0 (ds.take ds.length)=cntL ds L 0 ds:=by rw[List.take_length]
   rw[hC]at kx J;have h7:=zCe ds L ds 0;have k3:wr.cell? ⟨X,3,none⟩=some (.slice O (cntL ds L 0 ds).length cc):=zB kx 3;obtain⟨a3,c3,hv,i1,k9⟩:=Srcs.of_own J;have i2:=zAI J;injection hv with e1 e2 e3
   subst e1;subst e3;obtain⟨WL,j4⟩:∃ WL,WL=wr:=⟨_,rfl⟩
   have f2:∀ D,O=some D->D.block<wr.heap.size:=fun D e=>by obtain⟨cs,hc⟩:=i2 D e;exact zC hc
   have f4:∀ D,O=some D->X+1<=D.block:=fun D e=>zP J (by rw[e];rfl)
   have i3:Hid (Fr (fun b=>X<=b) W0 wr):=I;have i4:=zEV ds L ds 0;have j5:=zh i4;have l0:X<wr.heap.size:=zC kx;clear hC I i4 d9
   go_wp2_with fail
   subst j4
   go_loopw [62] (fun i wr=>∃ (j:Nat) (sa:Option Addr) (sc:Nat),j<=(cntL ds L 0 ds).length/\i=.int .i64 (j:Int)/\(wr.heap[X]?=some (.cells (rcs ka kn kc wt a ds.length f O (cntL ds L 0 ds).length cc ea en ec sa (((cntL ds L 0 ds).take j).filter fun s=>!virB ds s.d.index).length sc (w.heap.size+2) (w.heap.size+3) none 0 0) 83)/\wr.ownsRow WL.heap.size 123 13 (.slice sa (((cntL ds L 0 ds).take j).filter fun s=>!virB ds s.d.index).length sc) (((cntL ds L 0 ds).take j).filter fun s=>!virB ds s.d.index).length (sflat (((cntL ds L 0 ds).take j).filter fun s=>!virB ds s.d.index))/\Fr (fun b=>b=X\/WL.heap.size<=b) WL wr)) (fun i _=>(cntL ds L 0 ds).length-(intOf i).toNat)
   case atStart=>exact⟨0,none,0,by omega,rfl,by simpa using kx,by simpa [sflat]using World.ownsRow_nil _ _ _ _,Fr.refl _ _⟩
   case round=>
    obtain⟨j,sa,sc,hj,rfl,b6,C,I⟩:=hrel;by_cases d9:j<(cntL ds L 0 ds).length
    ·have h5:(j:Int)<(cntL ds L 0 ds).length:=by omega
     have f6:Srcs wr O cc (cntL ds L 0 ds):=i1.fr I (fun D e _ h=>by
      have h1:=f2 D e;have h2:=f4 D e;rcases h with h | h<;>omega)
     obtain⟨cb,i5,s,rfl,hs,⟨c0,c1,c2,c3,c4,c5,c6,c7,c8,c9,j6,j7,j8⟩,l1⟩:=f6.elem d9;have a4:=j5.out s (List.mem_of_getElem? hs);have g3:=HT.out.iwf a4.1;have f1:Hid ((cntL ds L 0 ds).take (j+1)=(cntL ds L 0 ds).take j++[s]):=by unfold Hid;rw[List.take_add_one,hs];rfl
     have l9:(((cntL ds L 0 ds).take j).filter fun s=>!virB ds s.d.index).length<=250:=by
      have h1:=List.length_filter_le (fun s:Src=>!virB ds s.d.index) ((cntL ds L 0 ds).take j);have h2:((cntL ds L 0 ds).take j).length<=j:=by simp;omega
      have:=Hn.out;omega
     have d4:Fr (fun b=>X<=b) W0 wr:=i3.out.step I (fun b _ h=>by rcases h with h | h<;>omega);have b8:Fr (From w.heap.size) w wr:=(g2.out.mono zn).step d4 (fun b _ h=>by unfold From;omega);obtain⟨W1,R⟩:∃ W1,W1=wr.alloc (.cells s.vals 123):=⟨_,rfl⟩
     have a6:Fr No wr W1:=by rw[R];exact(Fr.refl _ _).alloc _
     have d1:W1.heap[wr.heap.size]?=some (.cells s.vals 123):=by rw[R];exact zD _ _
     have U:Fr (From w.heap.size) w W1:=b8.step a6 zn;have d0:=a6.heap (d4.heap b4 (fun h=>by omega)) id;have t4:W1.cell? ⟨w.heap.size,0,none⟩=some (.slice a ds.length f):=zB d0 0;have z1:=(SrcB0.of d1).c1;have f9:=zCE a f ds b7 s.d.index W1 (g1.out W1 U) (HE.out W1 U);unfold Src.vals at R;clear hs a4
     go_upto_region 12 with(fail)
     rw[<-R];clear R c0 c1 c2 c3 c4 c5 c6 c7 c8 c9 j6 j7 j8
     go_wp2_with fail
     refine f9.mono ?_;rintro e w3 ⟨rfl,v⟩;clear f9 t4 z1;have y:Fr No wr w3:=a6.step v zi;have dw:=v.heap d1 id;have kw:=y.heap b6 id;have V:=zG C y (fun _ _=>id);have Hf:=zh (I.step y zn);have j1:=y.size;have m0:=I.size;clear d1 d0 a6;rcases hq:virB ds s.d.index with _ | _
     ·have z:Hid ((((cntL ds L 0 ds).take (j+1)).filter fun s=>!virB ds s.d.index)=(((cntL ds L 0 ds).take j).filter fun s=>!virB ds s.d.index)++[s]  ):=by unfold Hid;rw[f1.out,List.filter_append];simp[hq]
      clear hq;have g4:=fun b (h:(Value.slice sa (((cntL ds L 0 ds).take j).filter fun s=>!virB ds s.d.index).length sc).ownBlock=some b)=>zV C h
      have g5:Hid (∀ b,(Value.slice sa (((cntL ds L 0 ds).take j).filter fun s=>!virB ds s.d.index).length sc).ownBlock=some b->WL.heap.size<=b):=fun b h=>zP C h
      have j2:wr.heap.size<w3.heap.size:=zC dw;have h8:X<wr.heap.size:=zC b6;clear b6 b8 y U
      go_upto_region 13 with(fail)
      refine zb (fun b=>b=X\/(Value.slice sa (((cntL ds L 0 ds).take j).filter fun s=>!virB ds s.d.index).length sc).ownBlock=some b\/w3.heap.size<=b) (.q 0 (.q 1 (.q 2 (.q 3 (.q 5 (.m2 4 (.m1 6 (.m1 7 (.q 8 (.q 9 (.m1 10 .fin))))) 6 (.m1 4 (.m1 7 (.q 8 (.q 9 (.m1 10 .fin))))))))))) _ (by kernel_rfl) (by kernel_rfl) (fun W3 v=>?_) zj;have a7:=v.heap kw id;have A:=zG V v (fun _ _=>id);have a9:=zR A a7 (by decide);have d3:=v.heap dw id;have s3:=v.size;have N:∀ g:Gr (fun b=>b=X\/(Value.slice sa (((cntL ds L 0 ds).take j).filter fun s=>!virB ds s.d.index).length sc).ownBlock=some b\/w3.heap.size<=b) W3,SrcB0 g.W wr.heap.size s:=fun g=>SrcB0.of (g.fr.heap d3 (fun h=>by
       rcases h with h | h | h
       ·omega
       ·have:=g4 _ h;omega
       ·omega))
      have e0:=fun g=>(N g).c0
      have e1:=fun g=>(N g).c1
      have e2:=fun g=>(N g).c2
      have e3:=fun g=>(N g).c3
      have e4:=fun g=>(N g).c4
      have e5:=fun g=>(N g).c5
      have e6:=fun g=>(N g).c6
      have e7:=fun g=>(N g).c7
      have e8:=fun g=>(N g).c8
      have e9:=fun g=>(N g).c9
      have j9:=fun g=>(N g).c10
      have k0:=fun g=>(N g).c11
      have k1:=fun g=>(N g).c12
      clear N d3
      repeat((first|apply zM rfl rfl rfl|apply zO rfl rfl rfl);intro K hK;go_big_quiet_op;go_big_quiet_on)
      clear e0 e1 e2 e3 e4 e5 e6 e7 e8 e9 j9 k0 k1;have c3:W3.cell? ⟨X,5,none⟩=some (.slice sa (((cntL ds L 0 ds).take j).filter fun s=>!virB ds s.d.index).length sc):=zB a7 5;refine zv rfl rfl ?_ ?_
      focus
       go_wp2_with fail
       refine zq ?_;apply zH;exact rfl
       go_wp2_with fail
       refine zp ?_;clear c3
      rotate_left 1
      focus
       go_wp2_with fail
       refine zp ?_;apply zH;exact rfl;have c7:∀ o,(W3.alloc o).cell? ⟨X,5,none⟩=some (.slice sa (((cntL ds L 0 ds).take j).filter fun s=>!virB ds s.d.index).length sc):=fun o=>((Fr.refl No W3).alloc o).cell c3 id
       clear c3
       go_wp2_with fail
       refine zq ?_;clear c7
      all_goals (
       apply zH;exact rfl
       go_wp2_with (at_builtin;refine wpList_append_own_at _ rfl _ _ 79 rfl WL.heap.size 123 i0 (.agg #[.int .i64 0,.int .i64 0,.int .i64 0,.string ByteArray.empty,.string ByteArray.empty,.string ByteArray.empty,.string ByteArray.empty,.string ByteArray.empty,.int .i64 0,.int .i64 0,.slice none 0 0,.string ByteArray.empty,.int .i64 0]) 13 168 Tryz.underlying79 g7 g8 g9 h0 rfl (by decide) _ _ _ rfl (A.alloc _) ⟨W3.heap.size,0,none⟩ 1 1 (Src.vals s).toList rfl rfl (ze _ (Src.vals s) _ rfl) (zBt _) (by unfold maxLen;omega) (by omega) (by first | omega | (simp;done) | (simp;omega)) ?_;intro v' w4 u F _ b0;obtain⟨Y,Z,rfl⟩:=zJ u)
       have b5:Fr No W3 (W3.alloc (.cells (Src.vals s) 123)):=(Fr.refl _ _).alloc _;have a8:Fr (fun b=>(Value.slice sa (((cntL ds L 0 ds).take j).filter fun s=>!virB ds s.d.index).length sc).ownBlock=some b) (W3.alloc (.cells (Src.vals s) 123)) w4:=Fr.of_grown F;have k4:=a8.heap (b5.heap a7 id) (fun e=>a9 e);have c3:w4.cell? ⟨X,5,none⟩=some (.slice sa (((cntL ds L 0 ds).take j).filter fun s=>!virB ds s.d.index).length sc):=zB k4 5;have f3:w4.frozen? ⟨X,5,none⟩=false:=zE k4 5;have b1:=zR u k4 (by decide);refine OnlyN.mk ⟨a8.mono (fun b _ h=>.inr (.inl h)),?_⟩
       repeat((first|apply zM rfl rfl rfl|apply zO rfl rfl rfl);intro K hK;go_big_quiet_op;go_big_quiet_on)
       apply zH;exact rfl;have f5:Fr (Is (X)) w4 (w4.setCell ⟨X,5,none⟩ (.slice Y ((((cntL ds L 0 ds).take j).filter fun s=>!virB ds s.d.index).length+1) Z)):=Fr.setAt (Fr.refl _ _) _;have k5:((w4.setCell ⟨X,5,none⟩ (.slice Y ((((cntL ds L 0 ds).take j).filter fun s=>!virB ds s.d.index).length+1) Z))).heap[X]?=some (.cells (rcs ka kn kc wt a ds.length f (some ⟨cb,i5,none⟩) (cntL ds L 0 ds).length cc ea en ec Y ((((cntL ds L 0 ds).take j).filter fun s=>!virB ds s.d.index).length+1) Z (w.heap.size+2) (w.heap.size+3) none 0 0) 83):=zF k4 5 _;have a2:=zG u f5 (fun b hb h=>by unfold Is at h;subst h;exact b1 hb);have d8:Fr (fun b=>b=X\/(Value.slice sa (((cntL ds L 0 ds).take j).filter fun s=>!virB ds s.d.index).length sc).ownBlock=some b) W3 (w4.setCell ⟨X,5,none⟩ (.slice Y ((((cntL ds L 0 ds).take j).filter fun s=>!virB ds s.d.index).length+1) Z)):=((b5.mono zn).step a8 (fun b _ h=>.inr h)).step f5 (fun b _ h=>.inl h);have HR:=zh (And.intro k5 (And.intro a2 d8));have j3:=zh b0;clear u F a8 k4 f5 k5 a2 d8 b1 b5 b0
       go_wp2_with fail
       refine OnlyN.mk ⟨Fr.setCell (Fr.refl _ _) (fun _=>.inl rfl) _,?_⟩;refine zX ?_;clear A a7 a9;have g6:Hid (Fr (fun b=>b=X\/WL.heap.size<=b) WL W3):=Hf.out.step v zn
       go_wp2_with fail
       go_roundw
       case rel=>exact⟨j+1,Y,Z,by omega,by go_num,by rw[z.out,List.length_append];exact HR.out.1,by rw[z.out,List.length_append,zCG];exact HR.out.2.1,g6.out.step HR.out.2.2 (fun b _ h=>by
        rcases h with h | h
        ·exact .inl h
        ·exact .inr (g5.out _ h))⟩
       case measure=>simp[intOf];omega
       )
     ·have z:Hid ((((cntL ds L 0 ds).take (j+1)).filter fun s=>!virB ds s.d.index)=(((cntL ds L 0 ds).take j).filter fun s=>!virB ds s.d.index)):=by unfold Hid;rw[f1.out,List.filter_append];simp[hq]
      clear C b6
      go_wp2_with fail
      go_roundw
      case rel=>exact⟨j+1,sa,sc,by omega,by go_num,by rw[z.out];exact kw,by rw[z.out];exact V,Hf.out⟩
      case measure=>simp[intOf];omega
    ·obtain rfl:j=(cntL ds L 0 ds).length:=by omega
     rw[List.take_length]at b6 C;have f6:Srcs wr O cc (cntL ds L 0 ds):=i1.fr I (fun D e _ h=>by
      have h1:=f2 D e;have h2:=f4 D e;rcases h with h | h<;>omega)
     have g0:BlkT wr O 123:=i2.fr I (fun D e h=>by
      have h1:=f2 D e;have h2:=f4 D e;rcases h with h | h<;>omega)
     have d4:Fr (fun b=>X<=b) W0 wr:=i3.out.step I (fun b _ h=>by rcases h with h | h<;>omega);have i6:Fr No w wr:=(g2.out.step d4 (fun b hb h=>by
      have:=HX.out;omega))
     have k2:=HX.out;obtain⟨k6,k7⟩:=HM.out;have hR:RSt ⟨ka,kn,kc,wt,a,ds.length,f,ea,en,ec,O,cc,cntL ds L 0 ds,w.heap.size+2,w.heap.size+3,w.heap.size+4,w.heap.size,WL.heap.size⟩ wr ((cntL ds L 0 ds).filter fun s=>!virB ds s.d.index) [] []:=
      ⟨⟨sa,sc,none,0,by rw[<-k2];exact b6,C,World.ownsRow_nil _ _ _ _⟩,f6,fun D e=>⟨by have:=f4 D e;show w.heap.size<=D.block;omega,f2 D e,g0⟩,k6.fr d4 (fun h=>by omega),k7.fr d4 (fun h=>by omega),by simp,by dsimp only;omega⟩
     have HR:=zh (And.intro hR I.size);clear hR b6 C f6 g0 I
     go_wp2_with fail
     go_ret;exact⟨⟨O,cc,WL.heap.size,by rw[HX.out];rfl,HR.out.1,HR.out.2⟩,i6⟩
def pathO (s t:ByteArray):Int:=if zAA s then (if zAA t then cmpN (sparts s) (sparts t)else -1)else if zAA t then 1 else Lib.compareBytes s.data.toList t.data.toList
theorem zHC (s t:ByteArray)(m:Int)(w:World)(R:s.size<=1000000)(U:t.size<=1000000)(L:w.cell? ⟨0,0,none⟩=some (.int .i64 m)):
  Calls Tryz.prog 245 #[.string s,.string t] w fun e w'=>e=.returned (.int .i64 (pathO s t))/\Fr No w w':=by
 obtain⟨r,V⟩:∃ r,r=pathO s t:=⟨_,rfl⟩
 rw[<-V];have O:=zh V;clear V;have q:=zCT s t m w R U L;cases hg1:zAA s with
 | true=>
  have A:=zh hg1;clear hg1;cases hg2:zAA t with
  | true=>
   have N:=zh hg2;clear hg2;have D:cmpP s t=(r,0):=by rw[cmpP,O.out,pathO,A.out,N.out];rfl
   rw[D]at q;clear D
   go_enter Tryz.func245,Tryz.ntmps245
   go_wp2_with fail
   refine q.mono ?_;rintro e Z ⟨rfl,f⟩;have u:=zh f;clear f
   go_wp2_with fail
   go_ret;exact⟨rfl,u.out⟩
  | false=>
   have N:=zh hg2;clear hg2;have D:cmpP s t=(0,10):=by rw[cmpP,A.out,N.out];rfl
   rw[D]at q;clear D;have v:Hid (r=-1):=by unfold Hid;rw[O.out,pathO,A.out,N.out];rfl
   go_enter Tryz.func245,Tryz.ntmps245
   go_wp2_with fail
   refine q.mono ?_;rintro e Z ⟨rfl,f⟩;have h:=f.cell L id;have u:=zh f;clear f L
   go_wp2_with fail
   refine(zBM s m _ R h).mono ?_;rintro e w2 ⟨F,o⟩;have y:=o.cell h id;have I:=zh (u.out.step o zi);clear o h;rcases F with⟨g,rfl⟩ | ⟨g,X,rfl,_,_⟩
   ·rw[A.out]at g;cases g
   ·clear g
    go_wp2_with fail
    refine(zBM t m _ U y).mono ?_;rintro e w3 ⟨J,z⟩;have C:=zh (I.out.step z zi);clear z y;rcases J with⟨g,rfl⟩ | ⟨g,Y,rfl,_,_⟩
    ·clear g
     go_wp2_with fail
     go_ret;exact⟨by rw[v.out];rfl,C.out⟩
    ·rw[N.out]at g;cases g
 | false=>
  have A:=zh hg1;clear hg1;have D:cmpP s t=(0,10):=by rw[cmpP,A.out];rfl
  rw[D]at q;clear D
  go_enter Tryz.func245,Tryz.ntmps245
  go_wp2_with fail
  refine q.mono ?_;rintro e Z ⟨rfl,f⟩;have h:=f.cell L id;have u:=zh f;clear f L
  go_wp2_with fail
  refine(zBM s m _ R h).mono ?_;rintro e w2 ⟨F,o⟩;have y:=o.cell h id;have I:=zh (u.out.step o zi);clear o h;rcases F with⟨g,rfl⟩ | ⟨g,X,rfl,_,_⟩
  ·clear g
   go_wp2_with fail
   refine(zBM t m _ U y).mono ?_;rintro e w3 ⟨J,z⟩;have C:=zh (I.out.step z zi);clear z y;rcases J with⟨g,rfl⟩ | ⟨g,Y,rfl,_,_⟩
   ·have v:Hid (r=Lib.compareBytes s.data.toList t.data.toList):=by unfold Hid;rw[O.out,pathO,A.out,g];rfl
    clear g
    go_wp2_with fail
    refine(zIk s t _).mono ?_;rintro e w4 ⟨rfl,rfl⟩;rw[<-v.out]
    go_wp2_with fail
    go_ret;exact⟨rfl,C.out⟩
   ·have v:Hid (r=1):=by unfold Hid;rw[O.out,pathO,A.out,g];rfl
    clear g
    go_wp2_with fail
    go_ret;exact⟨by rw[v.out];rfl,C.out⟩
  ·rw[A.out]at g;cases g
def aheadB (p:ByteArray)(r:Int)(p':ByteArray)(r':Int):Bool:=decide (orI (cmpI r r') (pathO p p')<0)
theorem zGQ (p i h z:ByteArray)(r s t e r' A C D:Int)(v F:Value)(m:Int)(w:World)(hs:p.size<=1000000)(ht:h.size<=1000000)(hm:w.cell? ⟨0,0,none⟩=some (.int .i64 m)):
  Calls Tryz.prog 204 #[.agg #[.string p,.string i,.int .i64 r,.int .i64 s,.int .i64 t,.int .i64 e,v],.agg #[.string h,.string z,.int .i64 r',.int .i64 A,.int .i64 C,.int .i64 D,F]] w fun O w'=>O=.returned (.bool (aheadB p r h r'))/\Fr No w w':=by
 have R:Fr No w ((w.alloc (.cells #[.string p,.string i,.int .i64 r,.int .i64 s,.int .i64 t,.int .i64 e,v] 231)).alloc (.cells #[.string h,.string z,.int .i64 r',.int .i64 A,.int .i64 C,.int .i64 D,F] 231)):=((Fr.refl _ _).alloc _).alloc _;have U:=zI w (.cells #[.string p,.string i,.int .i64 r,.int .i64 s,.int .i64 t,.int .i64 e,v] 231) (.cells #[.string h,.string z,.int .i64 r',.int .i64 A,.int .i64 C,.int .i64 D,F] 231);have V:=zL w (.cells #[.string p,.string i,.int .i64 r,.int .i64 s,.int .i64 t,.int .i64 e,v] 231) (.cells #[.string h,.string z,.int .i64 r',.int .i64 A,.int .i64 C,.int .i64 D,F] 231);obtain⟨W0,q⟩:∃ W0,W0=(w.alloc (.cells #[.string p,.string i,.int .i64 r,.int .i64 s,.int .i64 t,.int .i64 e,v] 231)).alloc (.cells #[.string h,.string z,.int .i64 r',.int .i64 A,.int .i64 C,.int .i64 D,F] 231):=⟨_,rfl⟩
 rw[<-q]at R U V;have I:=R.cell hm id;have H0:=zh R;obtain⟨Y,u⟩:∃ Y,Y=aheadB p r h r':=⟨_,rfl⟩
 rw[<-u];have Z:=zh u;clear R hm u
 go_enter Tryz.func204,Tryz.ntmps204
 go_upto_region 1 with(fail)
 rw[<-q];clear q;refine zQ No [(0,false),(1,false),(2,false),(3,false),(5,false),(6,false),(7,false),(8,false),(4,true),(9,true),(10,true),(11,true),(12,false),(13,false)] (by kernel_rfl) (by kernel_rfl) (fun X f=>?_);have g0:∀ g:Gr No X,g.W.cell? ⟨w.heap.size,0,none⟩=some (.string p):=fun g=>g.fr.cell (f.cell (zB U 0) id) id
 have g2:∀ g:Gr No X,g.W.cell? ⟨w.heap.size,2,none⟩=some (.int .i64 r):=fun g=>g.fr.cell (f.cell (zB U 2) id) id
 have k0:∀ g:Gr No X,g.W.cell? ⟨w.heap.size+1,0,none⟩=some (.string h):=fun g=>g.fr.cell (f.cell (zB V 0) id) id
 have k2:∀ g:Gr No X,g.W.cell? ⟨w.heap.size+1,2,none⟩=some (.int .i64 r'):=fun g=>g.fr.cell (f.cell (zB V 2) id) id
 have J:=f.cell I id;have a2:=zh (H0.out.step f zi);clear U V I f
 repeat (apply zS rfl rfl rfl;intro K hK;go_big_quiet_op;go_big_quiet_on)
 clear g0 g2 k0 k2;apply zk;exact rfl
 go_wp2_with fail
 refine(zIl r r' _).mono ?_;rintro O w1 ⟨rfl,rfl⟩;generalize L:cmpI r r'=c1
 go_wp2_with fail
 refine zq ?_;apply zk;exact rfl
 go_wp2_with fail
 refine(zHC p h m _ hs ht J).mono ?_;rintro O w2 ⟨rfl,y⟩;generalize N:pathO p h=c2;have a3:=zh (a2.out.step y zi);have Hc:Hid (Y=decide (orI c1 c2<0)):=by unfold Hid;rw[Z.out,aheadB,L,N]
 clear L N J
 go_wp2_with fail
 refine zf y ?_;clear y;apply zk;exact rfl
 go_wp2_with fail
 have hx:Fr No w2 (w2.alloc (.cells #[.int .i64 c1,.int .i64 c2] 3)):=(Fr.refl _ _).alloc _;have qx:=zD w2 (.cells #[.int .i64 c1,.int .i64 c2] 3);refine zf hx ?_;have a4:=zh (a3.out.step hx zi);clear hx;apply zk;exact rfl
 go_wp2_with fail
 refine(zLt _ c1 c2 _ (zB qx 0) (zB qx 1)).mono ?_;rintro O w3 ⟨rfl,rfl⟩;generalize orI c1 c2=o at *
 go_wp2_with fail
 refine zq ?_
 repeat (apply zS rfl rfl rfl;intro K hK;go_big_quiet_op;go_big_quiet_on)
 refine zY ?_
 go_wp2_with fail
 go_ret;exact⟨by rw[Hc.out];rfl,a4.out⟩
end Go.Proofs.YtinfjnndbfahhaaGreatDoor
