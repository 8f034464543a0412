import Derived.Test.YtmajgldaplkpiaaGreatDoorQ17
namespace Go.Proofs.YtmajgldaplkpiaaGreatDoor
open Go.RowKit Go.Maps
set_option linter.unusedVariables false
set_option maxRecDepth 100000
set_option maxHeartbeats 8000000
structure RC where
 ka:Option Addr
 kn:Nat
 kc:Nat
 wt:Int
 a:Option Addr
 n:Nat
 cap:Nat
 ea:Option Addr
 en:Nat
 ec:Nat
 ca:Option Addr
 cc:Nat
 C:List Src
 wm:Nat
 sm:Nat
 xb:Nat
 b0:Nat
 b2:Nat
structure RSt (c:RC)(w:World)(S:List Src)(M:List Vir)(G:List (ByteArray×ByteArray)):Prop where
 ex:∃ sa sc ma mc,w.heap[c.xb]?=some (.cells (rcs c.ka c.kn c.kc c.wt c.a c.n c.cap c.ca c.C.length c.cc c.ea c.en c.ec sa S.length sc c.wm c.sm ma M.length mc) 123)/\
  w.ownsRow c.b2 163 13 (.slice sa S.length sc) S.length (sflat S)/\w.ownsRow c.b0 79 4 (.slice ma M.length mc) M.length (vflat M)
 cs:Srcs w c.ca c.cc c.C
 cb:∀ ad,c.ca=some ad->c.b0<=ad.block/\ad.block<c.b2/\BlkT w c.ca 163
 wmo:QMap w c.wm (wantG M) M.length
 smo:QMap w c.sm (seenG G) G.length
 ne:c.wm≠c.sm
 lo:c.b0<=c.xb/\c.b0<=c.wm/\c.b0<=c.sm/\c.b0<=c.b2/\c.xb<c.b2/\c.wm<c.b2/\c.sm<c.b2
theorem zKW (a ra ka ea:Option Addr)(cap rc kn kc en ec base:Nat)(wt:Int)(ds:List Dev)(L:List Rec)(w:World)(hl:Tr w base a cap ds)(hn:ds.length<=250)(hr:Recs w ra rc L)(hE:ErrV w)(hE6:3<w.heap.size/\2<w.heap.size):
  Calls Tryz.prog 60 #[.agg #[.slice a ds.length cap],.slice ra L.length rc,.agg #[.slice ka kn kc,.int .i64 wt],.slice ea en ec] w fun e w'=>
   (∃ ca cc b2,e=.returned (.pointer (some ⟨w.heap.size+4,0,none⟩))/\RSt ⟨ka,kn,kc,wt,a,ds.length,cap,ea,en,ec,ca,cc,cntL ds L 0 ds,w.heap.size+2,w.heap.size+3,w.heap.size+4,w.heap.size,b2⟩ w' ((cntL ds L 0 ds).filter fun s=>!virB ds s.d.index) [] []/\b2<=w'.heap.size)/\Fr No w w':=by
 obtain⟨i0,hi0,hz0,hz1,hz2⟩:=info_parts infoSr;have hmm:=@run_makeMap Tryz.prog;have hT:=hl.wf.ok;obtain⟨W0,hW0⟩:∃ W0,W0=((((w.alloc (.cells #[.slice a ds.length cap] 28)).alloc (.cells #[.slice ka kn kc,.int .i64 wt] 75)).alloc (.map #[] 0)).alloc (.map #[] 0)).alloc (.cells (rcs ka kn kc wt a ds.length cap none 0 0 ea en ec none 0 0 (w.heap.size+2) (w.heap.size+3) none 0 0) 123):=⟨_,rfl⟩
 have x0:Fr No w W0:=by rw[hW0];exact(((((Fr.refl _ _).alloc _).alloc _).alloc _).alloc _).alloc _
 have b4:W0.heap[w.heap.size]?=some (.cells #[.slice a ds.length cap] 28):=by
  rw[hW0];exact((((Fr.refl No _).alloc _).alloc _).alloc _).heap (zL w _ _) id
 have b9:W0.heap[w.heap.size+4]?=some (.cells (rcs ka kn kc wt a ds.length cap none 0 0 ea en ec none 0 0 (w.heap.size+2) (w.heap.size+3) none 0 0) 123):=by
  rw[hW0];have:=zD ((((w.alloc (.cells #[.slice a ds.length cap] 28)).alloc (.cells #[.slice ka kn kc,.int .i64 wt] 75)).alloc (.map #[] 0)).alloc (.map #[] 0)) (.cells (rcs ka kn kc wt a ds.length cap none 0 0 ea en ec none 0 0 (w.heap.size+2) (w.heap.size+3) none 0 0) 123);rw[World.size_alloc,World.size_alloc,World.size_alloc,World.size_alloc]at this;exact this
 have m2:QMap W0 (w.heap.size+2) (fun _=>none) 0:=by
  rw[hW0];have:=QMap.made ((w.alloc (.cells #[.slice a ds.length cap] 28)).alloc (.cells #[.slice ka kn kc,.int .i64 wt] 75));rw[World.size_alloc,World.size_alloc]at this;exact(this.fr ((Fr.refl No _).alloc _) id).fr ((Fr.refl No _).alloc _) id
 have m3:QMap W0 (w.heap.size+3) (fun _=>none) 0:=by
  rw[hW0];have:=QMap.made (((w.alloc (.cells #[.slice a ds.length cap] 28)).alloc (.cells #[.slice ka kn kc,.int .i64 wt] 75)).alloc (.map #[] 0));rw[World.size_alloc,World.size_alloc,World.size_alloc]at this;exact this.fr ((Fr.refl No _).alloc _) id
 have s0:W0.heap.size=w.heap.size+5:=by rw[hW0];simp
 have S0:Hid (w.heap.size+5<=W0.heap.size):=by unfold Hid;omega
 have t4:W0.cell? ⟨w.heap.size,0,none⟩=some (.slice a ds.length cap):=zB b4 0;have hlm:=hl.dv.lenmax;have Horg:=Lib.hid (fun (W:World) (hf:Fr (From w.heap.size) w W) (n:Int) (hx:(Lit.int .i64 n).wf=true)=>zBb a cap ds n W (hl.dv.fr hf (fun ad e hne h=>by have:=(hl.dv.cell ad e hne).2.1;unfold From at h;omega)) hT (by omega) hx);have HTr:Hid (∀ W,Fr (From w.heap.size) w W->Tr W base a cap ds):=fun W hf=>hl.keep hf (fun b hb _ h=>by unfold From at h;omega)
 have HRr:Hid (∀ W,Fr (From w.heap.size) w W->Recs W ra rc L):=fun W hf=>⟨hr.len,hr.max,hr.isNil,fun r hrm=>by
   have h1:=hr.ok r hrm;exact⟨h1.props.fr hf (fun ad e hne h=>by have:=(h1.props.cell ad e hne).2.1;unfold From at h;omega),h1.tags.fr hf (fun ad e hne h=>by have:=(h1.tags.cell ad e hne).2.1;unfold From at h;omega)⟩,fun ad e hne=>by
   obtain⟨h1,h2,h3⟩:=hr.cell ad e hne;exact⟨h1,Nat.lt_of_lt_of_le h2 hf.size,fun i r hi j hj=>hf.cell (h3 i r hi j hj) (fun h=>by unfold From at h;dsimp only at h;omega)⟩⟩
 have HE:Hid (∀ W,Fr (From w.heap.size) w W->ErrV W):=fun W hf=>hE.fr hf (fun h=>by unfold From at h;omega) (fun h=>by unfold From at h;omega)
 have HT:=Lib.hid hT;have Hn:=Lib.hid hn;clear hl hr hE hT hn;unfold rcs at hW0
 go_enter Tryz.func60,Tryz.ntmps60
 go_upto_region 2 with(fail)
 rw[<-hW0];clear hW0;obtain⟨X,hX⟩:∃ X,X=w.heap.size+4:=⟨_,rfl⟩
 rw[<-hX]at b9;rw[show w.heap.size+1+1+1+1=X from by omega];have HX:=Lib.hid hX;have hXl:w.heap.size<=X:=by omega
 have hX1:w.heap.size<X:=by omega
 have hXW:X+1<=W0.heap.size:=by omega
 have HM:=Lib.hid (And.intro m2 m3);have HX0:=Lib.hid x0;have HB4:=Lib.hid b4;clear hX s0 m2 m3 x0
 go_wp2_with fail
 clear t4 hmm
 go_loopw [26] (fun i wr=>∃ (k:Nat) (ca:Option Addr) (cc:Nat),k<=ds.length/\i=.int .i64 (k:Int)/\(wr.heap[X]?=some (.cells (rcs ka kn kc wt a ds.length cap ca (cntL ds L 0 (ds.take k)).length cc ea en ec none 0 0 (w.heap.size+2) (w.heap.size+3) none 0 0) 123)/\wr.ownsRow (X+1) 163 13 (.slice ca (cntL ds L 0 (ds.take k)).length cc) (cntL ds L 0 (ds.take k)).length (sflat (cntL ds L 0 (ds.take k)))/\Fr (fun b=>X<=b) W0 wr)) (fun i _=>ds.length-(intOf i).toNat)
 case atStart=>exact⟨0,none,0,by omega,rfl,by simpa [cntL]using b9,by simpa [cntL,sflat]using World.ownsRow_nil _ _ _ _,Fr.refl _ _⟩
 case round=>
  obtain⟨k,ca,cc,hk,rfl,kx,hown,hf⟩:=hrel;by_cases hlt:k<ds.length
  ·have hlt':(k:Int)<ds.length:=by omega
   have hfw:Fr (From w.heap.size) w wr:=(HX0.out.mono (fun _ _ h=>h.elim)).step hf (fun b _ h=>by unfold From;omega);obtain⟨bb,off,d,rfl,hd,c0,c1,c2,c3,c4,c5,c6,c7,c8,c9⟩:=(HTr.out _ hfw).dv.dev hlt;have hmem:=List.mem_of_getElem? hd;have hiw:=HT.out.iwf hmem;have hlkd:=HT.out.lk hmem;have Htk:Hid (ds.take (k+1)=ds.take k++[d]):=by unfold Hid;rw[List.take_add_one,hd];rfl
   have hkl:(ds.take k).length=k:=by simp;omega
   have hCl:=zCT ds L (ds.take k) 0;rw[hkl]at hCl;obtain⟨W1,hW1⟩:∃ W1,W1=wr.alloc (.cells d.vals 34):=⟨_,rfl⟩
   have hx1:Fr No wr W1:=by rw[hW1];exact(Fr.refl _ _).alloc _
   have d1:W1.heap[wr.heap.size]?=some (.cells d.vals 34):=by rw[hW1];exact zD _ _
   have hf1w:Fr (From w.heap.size) w W1:=hfw.step hx1 (fun _ _ h=>h.elim);have b41:=hx1.heap (hf.heap b4 (fun h=>by omega)) id;have t4:W1.cell? ⟨w.heap.size,0,none⟩=some (.slice (some ⟨bb,off,none⟩) ds.length cap):=zB b41 0;have z0:=(DevB.of d1).c0;have horg:=Horg.out W1 hf1w d.index hiw;have Hpl:Hid (plc ds d.index=((look ds d.index).map fun _=>pathOf (origin ds d.index)).getD ⟨#[]⟩):=rfl;rw[<-Hpl.out]at horg;have hwrX:X<wr.heap.size:=zE kx;unfold Dev.vals at hW1;clear hd hmem
   go_upto_region 5 with(fail)
   rw[<-hW1];clear hW1 c0 c1 c2 c3 c4 c5 c6 c7 c8 c9
   go_wp2_with fail
   refine horg.mono ?_;rintro e w2 ⟨rfl,hf2⟩;clear horg t4 z0;have hf12:Fr No wr w2:=hx1.step hf2 (fun _ _ h=>h);have d2:=hf2.heap d1 id;have b42:=hf2.heap b41 id;have t4:w2.cell? ⟨w.heap.size,0,none⟩=some (.slice (some ⟨bb,off,none⟩) ds.length cap):=zB b42 0;have z0:=(DevB.of d2).c0;have hf2w:=hf1w.step hf2 (fun _ _ h=>h.elim);have hcnt:=zGD (some ⟨bb,off,none⟩) ra cap rc ds L base d.index w2 (HTr.out _ hf2w) (by have:=Hn.out;omega) hiw (HRr.out _ hf2w);generalize (look ds d.index).isSome=lks at *
   go_wp2_with fail
   refine hcnt.mono ?_;rintro e w3 ⟨rfl,hf3⟩;clear hcnt t4 z0;have hf13:Fr No wr w3:=hf12.step hf3 (fun _ _ h=>h);have dw:=hf3.heap d2 id;have kw:=hf13.heap kx id;have hownw:=zJ hown hf13 (fun _ _=>id);have hS:=zBH ds L (ds.take k) 0 d;rw[<-Htk.out,hkl,Nat.zero_add]at hS;have HS:=Lib.hid hS;clear hS b41 b42 d1 d2 hx1 hf12 hf2;have Hf:=Lib.hid (hf.step hf13 (fun _ _ h=>h.elim));have s13:=hf13.size;rcases hq:cntB ds L d.index with _ | _
   ·have HFIN:Hid (cntL ds L 0 (ds.take (k+1))=cntL ds L 0 (ds.take k)):=by unfold Hid;rw[HS.out,hq];simp
    clear hown kx
    go_wp2_with fail
    go_roundw
    case rel=>exact⟨k+1,ca,cc,by omega,by go_num,by rw[HFIN.out];exact kw,by rw[HFIN.out];exact hownw,Hf.out⟩
    case measure=>simp[intOf];omega
   ·have HFIN:Hid (cntL ds L 0 (ds.take (k+1))=cntL ds L 0 (ds.take k)++[⟨(k:Int),d,plc ds d.index,0⟩]):=by unfold Hid;rw[HS.out,hq];simp
    clear hq;have hob:=fun b (h:(Value.slice ca (cntL ds L 0 (ds.take k)).length cc).ownBlock=some b)=>zU hown h
    have HBK:Hid (∀ b,(Value.slice ca (cntL ds L 0 (ds.take k)).length cc).ownBlock=some b->X+1<=b):=fun b h=>zN hown h
    have hwl:wr.heap.size<w3.heap.size:=zE dw;have hkb:k<=250:=by have:=Hn.out;omega
    generalize plc ds d.index=P at *;clear kx hfw hf13 hf1w hf2w
    go_upto_region 7 with(fail)
    refine zY (fun b=>b=X\/(Value.slice ca (cntL ds L 0 (ds.take k)).length cc).ownBlock=some b\/w3.heap.size<=b) (.q 0 (.q 1 (.q 2 (.q 3 (.q 5 (.q 6 (.q 7 (.q 8 (.m2 4 (.m1 9 (.m1 10 (.q 11 (.q 12 (.m1 13 .fin))))) 9 (.m1 4 (.m1 10 (.q 11 (.q 12 (.m1 13 .fin)))))))))))))) _ (by kernel_rfl) (by kernel_rfl) (fun W3 hf3=>?_) (fun _ _ h=>h);have hk3:=hf3.heap kw id;have hown3:=zJ hownw hf3 (fun _ _=>id);have hnk3:=zf hown3 hk3 (by decide);have d3:=hf3.heap dw id;have s3:=hf3.size;have cB:∀ g:Gr (fun b=>b=X\/(Value.slice ca (cntL ds L 0 (ds.take k)).length cc).ownBlock=some b\/w3.heap.size<=b) W3,DevB g.W wr.heap.size d:=fun g=>DevB.of (g.fr.heap d3 (fun h=>by
     rcases h with h | h | h
     ·omega
     ·have:=hob _ h;omega
     ·omega))
    have e0:=fun g=>(cB g).c0
    have e1:=fun g=>(cB g).c1
    have e2:=fun g=>(cB g).c2
    have e3:=fun g=>(cB g).c3
    have e4:=fun g=>(cB g).c4
    have e5:=fun g=>(cB g).c5
    have e6:=fun g=>(cB g).c6
    have e7:=fun g=>(cB g).c7
    have e8:=fun g=>(cB g).c8
    have e9:=fun g=>(cB g).c9
    clear cB d3
    repeat (first | (apply zM;exact rfl;exact rfl;exact rfl;intro K hK;go_big_quiet_op;go_big_quiet_on) | (apply zO;exact rfl;exact rfl;exact rfl;intro K hK;go_big_quiet_op;go_big_quiet_on))
    clear e0 e1 e2 e3 e4 e5 e6 e7 e8 e9;have c3:W3.cell? ⟨X,3,none⟩=some (.slice ca (cntL ds L 0 (ds.take k)).length cc):=zB hk3 3;refine zh rfl rfl ?_ ?_
    focus
     go_wp2_with fail
     refine OnlyN.mk ⟨Fr.refl _ _,?_⟩;apply zH;exact rfl
     go_wp2_with fail
     refine OnlyN.mk ⟨((Fr.refl No _).alloc _).mono (fun _ _ h=>h.elim),?_⟩;clear c3
    rotate_left 1
    focus
     go_wp2_with fail
     refine OnlyN.mk ⟨((Fr.refl No _).alloc _).mono (fun _ _ h=>h.elim),?_⟩;apply zH;exact rfl;have c7:∀ o,(W3.alloc o).cell? ⟨X,3,none⟩=some (.slice ca (cntL ds L 0 (ds.take k)).length cc):=fun o=>((Fr.refl No W3).alloc o).cell c3 id
     clear c3
     go_wp2_with fail
     refine OnlyN.mk ⟨Fr.refl _ _,?_⟩;clear c7
    all_goals (
     apply zH;exact rfl
     go_wp2_with (at_builtin;refine wpList_append_own_at _ rfl _ _ 119 rfl (X+1) 163 i0 (.agg #[.int .i64 0,.int .i64 0,.int .i64 0,.string ByteArray.empty,.string ByteArray.empty,.string ByteArray.empty,.string ByteArray.empty,.string ByteArray.empty,.int .i64 0,.int .i64 0,.slice none 0 0,.string ByteArray.empty,.int .i64 0]) 13 168 Tryz.underlying119 hi0 hz0 hz1 hz2 rfl (by decide) _ _ _ rfl (hown3.alloc _) ⟨W3.heap.size,0,none⟩ 1 1 (Src.vals ⟨(k:Int),d,P,0⟩).toList rfl rfl (zX _ (Src.vals ⟨(k:Int),d,P,0⟩) _ rfl) (zBj _) (by unfold maxLen;omega) (by omega) (by first | omega | (simp;done) | (simp;omega)) ?_;intro v' w4 hown4 hgrow4 _ hat4;obtain⟨av',cv',rfl⟩:=zG hown4)
     have hal:Fr No W3 (W3.alloc (.cells (Src.vals ⟨(k:Int),d,P,0⟩) 163)):=(Fr.refl _ _).alloc _;have hg4:Fr (fun b=>(Value.slice ca (cntL ds L 0 (ds.take k)).length cc).ownBlock=some b) (W3.alloc (.cells (Src.vals ⟨(k:Int),d,P,0⟩) 163)) w4:=Fr.of_grown hgrow4;have k4:=hg4.heap (hal.heap hk3 id) (fun e=>hnk3 e);have c3:w4.cell? ⟨X,3,none⟩=some (.slice ca (cntL ds L 0 (ds.take k)).length cc):=zB k4 3;have f3:w4.frozen? ⟨X,3,none⟩=false:=zC k4 3;have hnk4:=zf hown4 k4 (by decide);refine OnlyN.mk ⟨hg4.mono (fun b _ h=>.inr (.inl h)),?_⟩
     repeat (first | (apply zM;exact rfl;exact rfl;exact rfl;intro K hK;go_big_quiet_op;go_big_quiet_on) | (apply zO;exact rfl;exact rfl;exact rfl;intro K hK;go_big_quiet_op;go_big_quiet_on))
     apply zH;exact rfl;have f5:Fr (Is (X)) w4 (w4.setCell ⟨X,3,none⟩ (.slice av' ((cntL ds L 0 (ds.take k)).length+1) cv')):=Fr.setAt (Fr.refl _ _) _;have k5:((w4.setCell ⟨X,3,none⟩ (.slice av' ((cntL ds L 0 (ds.take k)).length+1) cv'))).heap[X]?=some (.cells (rcs ka kn kc wt (some ⟨bb,off,none⟩) ds.length cap av' ((cntL ds L 0 (ds.take k)).length+1) cv' ea en ec none 0 0 (w.heap.size+2) (w.heap.size+3) none 0 0) 123):=zF k4 3 _;have hown5:=zJ hown4 f5 (fun b hb h=>by unfold Is at h;subst h;exact hnk4 hb);have hff:Fr (fun b=>b=X\/(Value.slice ca (cntL ds L 0 (ds.take k)).length cc).ownBlock=some b) W3 (w4.setCell ⟨X,3,none⟩ (.slice av' ((cntL ds L 0 (ds.take k)).length+1) cv')):=((hal.mono (fun _ _ h=>h.elim)).step hg4 (fun b _ h=>.inr h)).step f5 (fun b _ h=>.inl h);have HR:=Lib.hid (And.intro k5 (And.intro hown5 hff));have HAT:=Lib.hid hat4;clear hown4 hgrow4 hg4 k4 f5 k5 hown5 hff hnk4 hal hat4
     go_wp2_with fail
     refine OnlyN.mk ⟨Fr.setCell (Fr.refl _ _) (fun _=>.inl rfl) _,?_⟩;refine zS ?_;clear hown3 hk3 hnk3;have HW3:Hid (Fr (fun b=>X<=b) W0 W3):=Hf.out.step hf3 (fun _ _ h=>h.elim)
     go_wp2_with fail
     go_roundw
     case rel=>exact⟨k+1,av',cv',by omega,by go_num,by rw[HFIN.out,List.length_append];exact HR.out.1,by rw[HFIN.out,List.length_append,zB7];exact HR.out.2.1,HW3.out.step HR.out.2.2 (fun b _ h=>by
      rcases h with h | h
      ·omega
      ·have:=HBK.out _ h;omega)⟩
     case measure=>simp[intOf];omega
     )
  ·obtain rfl:k=ds.length:=by omega
   have hC:cntL ds L 0 (ds.take ds.length)=cntL ds L 0 ds:=by rw[List.take_length]
   rw[hC]at kx hown;have hCl:=zCT ds L ds 0;have k3:wr.cell? ⟨X,3,none⟩=some (.slice ca (cntL ds L 0 ds).length cc):=zB kx 3;obtain⟨a3,c3,hv,hSr,hfr3⟩:=Srcs.of_own hown;have hBT:=zAj hown;injection hv with e1 e2 e3
   subst e1;subst e3;obtain⟨WL,hWL⟩:∃ WL,WL=wr:=⟨_,rfl⟩
   have hsl:∀ ad,ca=some ad->ad.block<wr.heap.size:=fun ad e=>by obtain⟨cs,hc⟩:=hBT ad e;exact zE hc
   have hsX:∀ ad,ca=some ad->X+1<=ad.block:=fun ad e=>zN hown (by rw[e];rfl)
   have Hfw:Hid (Fr (fun b=>X<=b) W0 wr):=hf;have hmC:=zD7 ds L ds 0;have HmC:=Lib.hid hmC;have hXwr:X<wr.heap.size:=zE kx;clear hC hf hmC hlt
   go_wp2_with fail
   subst hWL
   go_loopw [62] (fun i wr=>∃ (j:Nat) (sa:Option Addr) (sc:Nat),j<=(cntL ds L 0 ds).length/\i=.int .i64 (j:Int)/\(wr.heap[X]?=some (.cells (rcs ka kn kc wt a ds.length cap ca (cntL ds L 0 ds).length cc ea en ec sa (((cntL ds L 0 ds).take j).filter fun s=>!virB ds s.d.index).length sc (w.heap.size+2) (w.heap.size+3) none 0 0) 123)/\wr.ownsRow WL.heap.size 163 13 (.slice sa (((cntL ds L 0 ds).take j).filter fun s=>!virB ds s.d.index).length sc) (((cntL ds L 0 ds).take j).filter fun s=>!virB ds s.d.index).length (sflat (((cntL ds L 0 ds).take j).filter fun s=>!virB ds s.d.index))/\Fr (fun b=>b=X\/WL.heap.size<=b) WL wr)) (fun i _=>(cntL ds L 0 ds).length-(intOf i).toNat)
   case atStart=>exact⟨0,none,0,by omega,rfl,by simpa using kx,by simpa [sflat]using World.ownsRow_nil _ _ _ _,Fr.refl _ _⟩
   case round=>
    obtain⟨j,sa,sc,hj,rfl,kx2,hown2,hf⟩:=hrel;by_cases hlt:j<(cntL ds L 0 ds).length
    ·have hlt':(j:Int)<(cntL ds L 0 ds).length:=by omega
     have hSw:Srcs wr ca cc (cntL ds L 0 ds):=hSr.fr hf (fun ad e _ h=>by
      have h1:=hsl ad e;have h2:=hsX ad e;rcases h with h | h<;>omega)
     obtain⟨cb,coff,s,rfl,hs,⟨c0,c1,c2,c3,c4,c5,c6,c7,c8,c9,c10,c11,c12⟩,hcbl⟩:=hSw.elem hlt;have hmem:=HmC.out s (List.mem_of_getElem? hs);have hiw:=HT.out.iwf hmem.1;have Htk:Hid ((cntL ds L 0 ds).take (j+1)=(cntL ds L 0 ds).take j++[s]):=by unfold Hid;rw[List.take_add_one,hs];rfl
     have hfl:(((cntL ds L 0 ds).take j).filter fun s=>!virB ds s.d.index).length<=250:=by
      have h1:=List.length_filter_le (fun s:Src=>!virB ds s.d.index) ((cntL ds L 0 ds).take j);have h2:((cntL ds L 0 ds).take j).length<=j:=by simp;omega
      have:=Hn.out;omega
     have hfW:Fr (fun b=>X<=b) W0 wr:=Hfw.out.step hf (fun b _ h=>by rcases h with h | h<;>omega);have hfw:Fr (From w.heap.size) w wr:=(HX0.out.mono (fun _ _ h=>h.elim)).step hfW (fun b _ h=>by unfold From;omega);obtain⟨W1,hW1⟩:∃ W1,W1=wr.alloc (.cells s.vals 163):=⟨_,rfl⟩
     have hx1:Fr No wr W1:=by rw[hW1];exact(Fr.refl _ _).alloc _
     have d1:W1.heap[wr.heap.size]?=some (.cells s.vals 163):=by rw[hW1];exact zD _ _
     have hf1w:Fr (From w.heap.size) w W1:=hfw.step hx1 (fun _ _ h=>h.elim);have b41:=hx1.heap (hfW.heap b4 (fun h=>by omega)) id;have t4:W1.cell? ⟨w.heap.size,0,none⟩=some (.slice a ds.length cap):=zB b41 0;have z1:=(SrcB0.of d1).c1;have hvir:=zB5 a cap ds base s.d.index W1 (HTr.out W1 hf1w) (HE.out W1 hf1w);unfold Src.vals at hW1;clear hs hmem
     go_upto_region 12 with(fail)
     rw[<-hW1];clear hW1 c0 c1 c2 c3 c4 c5 c6 c7 c8 c9 c10 c11 c12
     go_wp2_with fail
     refine hvir.mono ?_;rintro e w3 ⟨rfl,hf3⟩;clear hvir t4 z1;have hf13:Fr No wr w3:=hx1.step hf3 (fun _ _ h=>h);have dw:=hf3.heap d1 id;have kw:=hf13.heap kx2 id;have hownw:=zJ hown2 hf13 (fun _ _=>id);have Hf:=Lib.hid (hf.step hf13 (fun _ _ h=>h.elim));have s13:=hf13.size;have sWL:=hf.size;clear d1 b41 hx1;rcases hq:virB ds s.d.index with _ | _
     ·have HFIN:Hid ((((cntL ds L 0 ds).take (j+1)).filter fun s=>!virB ds s.d.index)=(((cntL ds L 0 ds).take j).filter fun s=>!virB ds s.d.index)++[s]  ):=by unfold Hid;rw[Htk.out,List.filter_append];simp[hq]
      clear hq;have hob:=fun b (h:(Value.slice sa (((cntL ds L 0 ds).take j).filter fun s=>!virB ds s.d.index).length sc).ownBlock=some b)=>zU hown2 h
      have HBK:Hid (∀ b,(Value.slice sa (((cntL ds L 0 ds).take j).filter fun s=>!virB ds s.d.index).length sc).ownBlock=some b->WL.heap.size<=b):=fun b h=>zN hown2 h
      have hwl:wr.heap.size<w3.heap.size:=zE dw;have hwrX:X<wr.heap.size:=zE kx2;clear kx2 hfw hf13 hf1w
      go_upto_region 13 with(fail)
      refine zY (fun b=>b=X\/(Value.slice sa (((cntL ds L 0 ds).take j).filter fun s=>!virB ds s.d.index).length sc).ownBlock=some b\/w3.heap.size<=b) (.q 0 (.q 1 (.q 2 (.q 3 (.q 5 (.m2 4 (.m1 6 (.m1 7 (.q 8 (.q 9 (.m1 10 .fin))))) 6 (.m1 4 (.m1 7 (.q 8 (.q 9 (.m1 10 .fin))))))))))) _ (by kernel_rfl) (by kernel_rfl) (fun W3 hf3=>?_) (fun _ _ h=>h);have hk3:=hf3.heap kw id;have hown3:=zJ hownw hf3 (fun _ _=>id);have hnk3:=zf hown3 hk3 (by decide);have d3:=hf3.heap dw id;have s3:=hf3.size;have cB:∀ g:Gr (fun b=>b=X\/(Value.slice sa (((cntL ds L 0 ds).take j).filter fun s=>!virB ds s.d.index).length sc).ownBlock=some b\/w3.heap.size<=b) W3,SrcB0 g.W wr.heap.size s:=fun g=>SrcB0.of (g.fr.heap d3 (fun h=>by
       rcases h with h | h | h
       ·omega
       ·have:=hob _ h;omega
       ·omega))
      have e0:=fun g=>(cB g).c0
      have e1:=fun g=>(cB g).c1
      have e2:=fun g=>(cB g).c2
      have e3:=fun g=>(cB g).c3
      have e4:=fun g=>(cB g).c4
      have e5:=fun g=>(cB g).c5
      have e6:=fun g=>(cB g).c6
      have e7:=fun g=>(cB g).c7
      have e8:=fun g=>(cB g).c8
      have e9:=fun g=>(cB g).c9
      have e10:=fun g=>(cB g).c10
      have e11:=fun g=>(cB g).c11
      have e12:=fun g=>(cB g).c12
      clear cB d3
      repeat (first | (apply zM;exact rfl;exact rfl;exact rfl;intro K hK;go_big_quiet_op;go_big_quiet_on) | (apply zO;exact rfl;exact rfl;exact rfl;intro K hK;go_big_quiet_op;go_big_quiet_on))
      clear e0 e1 e2 e3 e4 e5 e6 e7 e8 e9 e10 e11 e12;have c3:W3.cell? ⟨X,5,none⟩=some (.slice sa (((cntL ds L 0 ds).take j).filter fun s=>!virB ds s.d.index).length sc):=zB hk3 5;refine zh rfl rfl ?_ ?_
      focus
       go_wp2_with fail
       refine OnlyN.mk ⟨Fr.refl _ _,?_⟩;apply zH;exact rfl
       go_wp2_with fail
       refine OnlyN.mk ⟨((Fr.refl No _).alloc _).mono (fun _ _ h=>h.elim),?_⟩;clear c3
      rotate_left 1
      focus
       go_wp2_with fail
       refine OnlyN.mk ⟨((Fr.refl No _).alloc _).mono (fun _ _ h=>h.elim),?_⟩;apply zH;exact rfl;have c7:∀ o,(W3.alloc o).cell? ⟨X,5,none⟩=some (.slice sa (((cntL ds L 0 ds).take j).filter fun s=>!virB ds s.d.index).length sc):=fun o=>((Fr.refl No W3).alloc o).cell c3 id
       clear c3
       go_wp2_with fail
       refine OnlyN.mk ⟨Fr.refl _ _,?_⟩;clear c7
      all_goals (
       apply zH;exact rfl
       go_wp2_with (at_builtin;refine wpList_append_own_at _ rfl _ _ 119 rfl WL.heap.size 163 i0 (.agg #[.int .i64 0,.int .i64 0,.int .i64 0,.string ByteArray.empty,.string ByteArray.empty,.string ByteArray.empty,.string ByteArray.empty,.string ByteArray.empty,.int .i64 0,.int .i64 0,.slice none 0 0,.string ByteArray.empty,.int .i64 0]) 13 168 Tryz.underlying119 hi0 hz0 hz1 hz2 rfl (by decide) _ _ _ rfl (hown3.alloc _) ⟨W3.heap.size,0,none⟩ 1 1 (Src.vals s).toList rfl rfl (zX _ (Src.vals s) _ rfl) (zBj _) (by unfold maxLen;omega) (by omega) (by first | omega | (simp;done) | (simp;omega)) ?_;intro v' w4 hown4 hgrow4 _ hat4;obtain⟨av',cv',rfl⟩:=zG hown4)
       have hal:Fr No W3 (W3.alloc (.cells (Src.vals s) 163)):=(Fr.refl _ _).alloc _;have hg4:Fr (fun b=>(Value.slice sa (((cntL ds L 0 ds).take j).filter fun s=>!virB ds s.d.index).length sc).ownBlock=some b) (W3.alloc (.cells (Src.vals s) 163)) w4:=Fr.of_grown hgrow4;have k4:=hg4.heap (hal.heap hk3 id) (fun e=>hnk3 e);have c3:w4.cell? ⟨X,5,none⟩=some (.slice sa (((cntL ds L 0 ds).take j).filter fun s=>!virB ds s.d.index).length sc):=zB k4 5;have f3:w4.frozen? ⟨X,5,none⟩=false:=zC k4 5;have hnk4:=zf hown4 k4 (by decide);refine OnlyN.mk ⟨hg4.mono (fun b _ h=>.inr (.inl h)),?_⟩
       repeat (first | (apply zM;exact rfl;exact rfl;exact rfl;intro K hK;go_big_quiet_op;go_big_quiet_on) | (apply zO;exact rfl;exact rfl;exact rfl;intro K hK;go_big_quiet_op;go_big_quiet_on))
       apply zH;exact rfl;have f5:Fr (Is (X)) w4 (w4.setCell ⟨X,5,none⟩ (.slice av' ((((cntL ds L 0 ds).take j).filter fun s=>!virB ds s.d.index).length+1) cv')):=Fr.setAt (Fr.refl _ _) _;have k5:((w4.setCell ⟨X,5,none⟩ (.slice av' ((((cntL ds L 0 ds).take j).filter fun s=>!virB ds s.d.index).length+1) cv'))).heap[X]?=some (.cells (rcs ka kn kc wt a ds.length cap (some ⟨cb,coff,none⟩) (cntL ds L 0 ds).length cc ea en ec av' ((((cntL ds L 0 ds).take j).filter fun s=>!virB ds s.d.index).length+1) cv' (w.heap.size+2) (w.heap.size+3) none 0 0) 123):=zF k4 5 _;have hown5:=zJ hown4 f5 (fun b hb h=>by unfold Is at h;subst h;exact hnk4 hb);have hff:Fr (fun b=>b=X\/(Value.slice sa (((cntL ds L 0 ds).take j).filter fun s=>!virB ds s.d.index).length sc).ownBlock=some b) W3 (w4.setCell ⟨X,5,none⟩ (.slice av' ((((cntL ds L 0 ds).take j).filter fun s=>!virB ds s.d.index).length+1) cv')):=((hal.mono (fun _ _ h=>h.elim)).step hg4 (fun b _ h=>.inr h)).step f5 (fun b _ h=>.inl h);have HR:=Lib.hid (And.intro k5 (And.intro hown5 hff));have HAT:=Lib.hid hat4;clear hown4 hgrow4 hg4 k4 f5 k5 hown5 hff hnk4 hal hat4
       go_wp2_with fail
       refine OnlyN.mk ⟨Fr.setCell (Fr.refl _ _) (fun _=>.inl rfl) _,?_⟩;refine zS ?_;clear hown3 hk3 hnk3;have HW3:Hid (Fr (fun b=>b=X\/WL.heap.size<=b) WL W3):=Hf.out.step hf3 (fun _ _ h=>h.elim)
       go_wp2_with fail
       go_roundw
       case rel=>exact⟨j+1,av',cv',by omega,by go_num,by rw[HFIN.out,List.length_append];exact HR.out.1,by rw[HFIN.out,List.length_append,zB7];exact HR.out.2.1,HW3.out.step HR.out.2.2 (fun b _ h=>by
        rcases h with h | h
        ·exact .inl h
        ·exact .inr (HBK.out _ h))⟩
       case measure=>simp[intOf];omega
       )
     ·have HFIN:Hid ((((cntL ds L 0 ds).take (j+1)).filter fun s=>!virB ds s.d.index)=(((cntL ds L 0 ds).take j).filter fun s=>!virB ds s.d.index)):=by unfold Hid;rw[Htk.out,List.filter_append];simp[hq]
      clear hown2 kx2
      go_wp2_with fail
      go_roundw
      case rel=>exact⟨j+1,sa,sc,by omega,by go_num,by rw[HFIN.out];exact kw,by rw[HFIN.out];exact hownw,Hf.out⟩
      case measure=>simp[intOf];omega
    ·obtain rfl:j=(cntL ds L 0 ds).length:=by omega
     rw[List.take_length]at kx2 hown2;have hSw:Srcs wr ca cc (cntL ds L 0 ds):=hSr.fr hf (fun ad e _ h=>by
      have h1:=hsl ad e;have h2:=hsX ad e;rcases h with h | h<;>omega)
     have hBTw:BlkT wr ca 163:=hBT.fr hf (fun ad e h=>by
      have h1:=hsl ad e;have h2:=hsX ad e;rcases h with h | h<;>omega)
     have hfW:Fr (fun b=>X<=b) W0 wr:=Hfw.out.step hf (fun b _ h=>by rcases h with h | h<;>omega);have hfin:Fr No w wr:=(HX0.out.step hfW (fun b hb h=>by
      have:=HX.out;omega))
     have hXw:=HX.out;obtain⟨hm2,hm3⟩:=HM.out;have hR:RSt ⟨ka,kn,kc,wt,a,ds.length,cap,ea,en,ec,ca,cc,cntL ds L 0 ds,w.heap.size+2,w.heap.size+3,w.heap.size+4,w.heap.size,WL.heap.size⟩ wr ((cntL ds L 0 ds).filter fun s=>!virB ds s.d.index) [] []:=
      ⟨⟨sa,sc,none,0,by rw[<-hXw];exact kx2,hown2,World.ownsRow_nil _ _ _ _⟩,hSw,fun ad e=>⟨by have:=hsX ad e;show w.heap.size<=ad.block;omega,hsl ad e,hBTw⟩,hm2.fr hfW (fun h=>by omega),hm3.fr hfW (fun h=>by omega),by simp,by dsimp only;omega⟩
     have HR:=Lib.hid (And.intro hR hf.size);clear hR kx2 hown2 hSw hBTw hf
     go_wp2_with fail
     go_ret;exact⟨⟨ca,cc,WL.heap.size,by rw[HX.out];rfl,HR.out.1,HR.out.2⟩,hfin⟩
def pathO (s t:ByteArray):Int:=if zt s then (if zt t then cmpN (sparts s) (sparts t)else -1)else if zt t then 1 else Lib.compareBytes s.data.toList t.data.toList
theorem zGV (s t:ByteArray)(m:Int)(w:World)(hs:s.size<=1000000)(ht:t.size<=1000000)(hm:w.cell? ⟨0,0,none⟩=some (.int .i64 m)):
  Calls Tryz.prog 300 #[.string s,.string t] w fun e w'=>e=.returned (.int .i64 (pathO s t))/\Fr No w w':=by
 obtain⟨r,h1⟩:∃ r,r=pathO s t:=⟨_,rfl⟩
 rw[<-h1];have Hr:=Lib.hid h1;clear h1;have hnc:=zCK s t m w hs ht hm;cases hg1:zt s with
 | true=>
  have G1:=Lib.hid hg1;clear hg1;cases hg2:zt t with
  | true=>
   have G2:=Lib.hid hg2;clear hg2;have e1:cmpP s t=(r,0):=by rw[cmpP,Hr.out,pathO,G1.out,G2.out];rfl
   rw[e1]at hnc;clear e1
   go_enter Tryz.func300,Tryz.ntmps300
   go_wp2_with fail
   refine hnc.mono ?_;rintro e w1 ⟨rfl,hf1⟩;have Hf1:=Lib.hid hf1;clear hf1
   go_wp2_with fail
   go_ret;exact⟨rfl,Hf1.out⟩
  | false=>
   have G2:=Lib.hid hg2;clear hg2;have e1:cmpP s t=(0,10):=by rw[cmpP,G1.out,G2.out];rfl
   rw[e1]at hnc;clear e1;have Hr1:Hid (r=-1):=by unfold Hid;rw[Hr.out,pathO,G1.out,G2.out];rfl
   go_enter Tryz.func300,Tryz.ntmps300
   go_wp2_with fail
   refine hnc.mono ?_;rintro e w1 ⟨rfl,hf1⟩;have hm1:=hf1.cell hm id;have Hf1:=Lib.hid hf1;clear hf1 hm
   go_wp2_with fail
   refine(zBE s m _ hs hm1).mono ?_;rintro e w2 ⟨hr2,hf2⟩;have hm2:=hf2.cell hm1 id;have Hf2:=Lib.hid (Hf1.out.step hf2 (fun _ _ h=>h));clear hf2 hm1;rcases hr2 with⟨hg,rfl⟩ | ⟨hg,ad1,rfl,_,_⟩
   ·rw[G1.out]at hg;cases hg
   ·clear hg
    go_wp2_with fail
    refine(zBE t m _ ht hm2).mono ?_;rintro e w3 ⟨hr3,hf3⟩;have Hf3:=Lib.hid (Hf2.out.step hf3 (fun _ _ h=>h));clear hf3 hm2;rcases hr3 with⟨hg,rfl⟩ | ⟨hg,ad2,rfl,_,_⟩
    ·clear hg
     go_wp2_with fail
     go_ret;exact⟨by rw[Hr1.out];rfl,Hf3.out⟩
    ·rw[G2.out]at hg;cases hg
 | false=>
  have G1:=Lib.hid hg1;clear hg1;have e1:cmpP s t=(0,10):=by rw[cmpP,G1.out];rfl
  rw[e1]at hnc;clear e1
  go_enter Tryz.func300,Tryz.ntmps300
  go_wp2_with fail
  refine hnc.mono ?_;rintro e w1 ⟨rfl,hf1⟩;have hm1:=hf1.cell hm id;have Hf1:=Lib.hid hf1;clear hf1 hm
  go_wp2_with fail
  refine(zBE s m _ hs hm1).mono ?_;rintro e w2 ⟨hr2,hf2⟩;have hm2:=hf2.cell hm1 id;have Hf2:=Lib.hid (Hf1.out.step hf2 (fun _ _ h=>h));clear hf2 hm1;rcases hr2 with⟨hg,rfl⟩ | ⟨hg,ad1,rfl,_,_⟩
  ·clear hg
   go_wp2_with fail
   refine(zBE t m _ ht hm2).mono ?_;rintro e w3 ⟨hr3,hf3⟩;have Hf3:=Lib.hid (Hf2.out.step hf3 (fun _ _ h=>h));clear hf3 hm2;rcases hr3 with⟨hg,rfl⟩ | ⟨hg,ad2,rfl,_,_⟩
   ·have Hr1:Hid (r=Lib.compareBytes s.data.toList t.data.toList):=by unfold Hid;rw[Hr.out,pathO,G1.out,hg];rfl
    clear hg
    go_wp2_with fail
    refine(zHv s t _).mono ?_;rintro e w4 ⟨rfl,rfl⟩;rw[<-Hr1.out]
    go_wp2_with fail
    go_ret;exact⟨rfl,Hf3.out⟩
   ·have Hr1:Hid (r=1):=by unfold Hid;rw[Hr.out,pathO,G1.out,hg];rfl
    clear hg
    go_wp2_with fail
    go_ret;exact⟨by rw[Hr1.out];rfl,Hf3.out⟩
  ·rw[G1.out]at hg;cases hg
end Go.Proofs.YtmajgldaplkpiaaGreatDoor
