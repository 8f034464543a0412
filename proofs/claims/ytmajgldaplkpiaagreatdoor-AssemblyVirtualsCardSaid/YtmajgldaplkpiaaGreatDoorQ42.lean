import Derived.Test.YtmajgldaplkpiaaGreatDoorQ41
namespace Go.Proofs.YtmajgldaplkpiaaGreatDoor
open Go.RowKit Go.Maps Go.Shelf
set_option linter.unusedVariables false
set_option maxRecDepth 100000
set_option maxHeartbeats 4000000
attribute [local go_sem] Oper.semAt_some
theorem zLF (pb mb base:Nat)(a:Option Addr)(cap:Nat)(ds:List Dev)(ao:Option Addr)(no co:Nat)(g0:ByteArray×ByteArray->Option Value)(N:Nat)(w:World)(hl:Tr w base a cap ds)(hn:ds.length<=250)(hE:Env w)
  (hpb:w.heap[pb]?=some (.cells #[.slice a ds.length cap,.slice ao no co] 135)) (hQ:QMap w mb g0 N) (hg:∀ p,∃ y:Vir,(g0 p).getD zB6=.agg #[.string y.q,.string y.o,.string y.c,.int .i64 y.r]) (hv:∀ d∈ds,virB ds d.index=false):
  Calls Tryz.prog 65 #[.pointer (some ⟨pb,0,none⟩),.map (some mb)] w fun e w'=>e=.returned (.tuple #[])/\Fr No w w':=by
 have t0:w.cell? ⟨pb,0,none⟩=some (.slice a ds.length cap):=zB hpb 0;have hlm:=hl.dv.lenmax;have HV:=Lib.hid hv;have HN:=Lib.hid hn;have HG0:=Lib.hid hg;have HA:=Lib.hid (And.intro hl (And.intro hE (And.intro hpb hQ)));clear hl hn hE hpb hQ hg hv
 go_enter Tryz.func65,Tryz.ntmps65
 go_wp2_with fail
 clear t0
 go_loopw [17] (fun x wr=>∃ (j:Nat),j<=ds.length/\x=.int .i64 (j:Int)/\Fr No w wr) (fun x _=>ds.length-(intOf x).toNat)
 case atStart=>exact⟨0,by omega,rfl,Fr.refl _ _⟩
 case round=>
  obtain⟨j,hj,rfl,hf⟩:=hrel;by_cases hlt:j<ds.length
  ·have hlt':(j:Int)<ds.length:=by omega
   obtain⟨bb,off,d,rfl,hd,c0,c1,c2,c3,c4,c5,c6,c7,c8,c9⟩:=((HA.out.1).no hf).dv.dev hlt;have hmem:=List.mem_of_getElem? hd;obtain⟨a,hae⟩:∃ a:Option Addr,a=some ⟨bb,off,none⟩:=⟨_,rfl⟩
   obtain⟨W1,hW1⟩:∃ W1,W1=wr.alloc (.cells d.vals 34):=⟨_,rfl⟩
   have hx1:Fr No wr W1:=by rw[hW1];exact(Fr.refl _ _).alloc _
   have d1:W1.heap[wr.heap.size]?=some (.cells d.vals 34):=by rw[hW1];exact zD _ _
   have hf1:=hf.step hx1 (fun _ _ h=>h);have D1:=Lib.hid d1;have HWL:Hid (wr.heap.size<W1.heap.size):=zE d1;have HF1:=Lib.hid hf1;have pb1:=hf1.heap HA.out.2.2.1 id;have hT1:=HA.out.1.no hf1;have hE1:=HA.out.2.1.no hf1;have hQ1:=HA.out.2.2.2.fr hf1 id;rw[<-hae]at pb1 hT1;unfold Dev.vals at hW1;clear hd d1 hf hx1 hf1;have HLW:Hid (mb<W1.heap.size/\pb<W1.heap.size):=⟨hQ1.lt,zE pb1⟩
   have HQM:Hid (∀ W,Fr No W1 W->QMap W mb g0 N):=fun W hW=>hQ1.fr hW id
   obtain⟨P,hP⟩:∃ P,P=plc ds d.parent:=⟨_,rfl⟩
   obtain⟨xo,hxo⟩:∃ xo,xo=d.orig:=⟨_,rfl⟩
   have HPL:Hid (∀ W,Fr No W1 W->Calls Tryz.prog 109 #[.agg #[.slice a ds.length cap],.agg d.vals] W fun e w'=>e=.returned (.agg #[.string P,.string xo])/\Fr No W w'):=fun W hW=>by
    rw[hP,hxo];have hT:=hT1.no hW;exact zFP a cap ds d W hT.dv hT.wf.ok (by have:=HN.out;omega) (hT.wf.ok.pwf hmem)
   have HPS:Hid (P.size<=maxLen/\xo.size<=maxLen):=by
    rw[hP,hxo];have h1:=zBm hT1.wf.ok HN.out d.parent;have h2:=hT1.wf.ok.sz d hmem;refine⟨?_,?_⟩<;>unfold maxLen<;>omega
   have HVI:Hid (∀ W,Fr No W1 W->Calls Tryz.prog 6 #[.agg #[.slice a ds.length cap],.int .i64 d.index] W fun e w'=>e=.returned (.bool false)/\Fr No W w'):=fun W hW=>by
    have:=zB5 a cap ds base d.index W (hT1.no hW) (hE1.no hW).err;rw[HV.out d hmem]at this;exact this
   obtain⟨y,hy⟩:=HG0.out (P,xo);obtain⟨bk,hbk⟩:∃ bk,bk=(g0 (P,xo)).isSome:=⟨_,rfl⟩
   have HY:=Lib.hid hy;have HBK:=Lib.hid hbk.symm;have PB1:=Lib.hid pb1;unfold Dev.vals at HPL;clear hP hxo hy hbk hQ1 hT1 hE1 hmem pb1;rw[hae]at PB1 HPL HVI;clear hae a
   go_upto_region 3 with(fail)
   rw[<-hW1];clear hW1 c0 c1 c2 c3 c4 c5 c6 c7 c8 c9;refine zY (From W1.heap.size) (.q 0 (.q 1 (.q 2 (.q 3 (.q 4 (.q 5 (.m2 6 (.q 7 (.m1 8 (.m1 9 .fin))) 8 (.m1 6 (.q 7 (.m1 9 .fin)))))))))) _ (by kernel_rfl) (by kernel_rfl) (fun W3 hf3=>?_) (fun _ _ h=>h);have d3:=hf3.heap D1.out id;have x3:=hf3.heap PB1.out id;have cB:∀ g:Gr (From W1.heap.size) W3,DevB g.W wr.heap.size d:=fun g=>DevB.of (g.fr.heap d3 (by unfold From;have:=HWL.out;omega))
   have e0:=fun g=>(cB g).c0
   have e1:=fun g=>(cB g).c1
   have e2:=fun g=>(cB g).c2
   have e3:=fun g=>(cB g).c3
   have e4:=fun g=>(cB g).c4
   have e5:=fun g=>(cB g).c5
   have e6:=fun g=>(cB g).c6
   have e7:=fun g=>(cB g).c7
   have e8:=fun g=>(cB g).c8
   have e9:=fun g=>(cB g).c9
   have x0:∀ g:Gr (From W1.heap.size) W3,g.W.cell? ⟨pb,0,none⟩=some (.slice (some ⟨bb,off,none⟩) ds.length cap):=fun g=>zB (g.fr.heap x3 (by unfold From;have:=HLW.out;omega)) 0
   have Hf3:=Lib.hid hf3;clear cB d3 x3 hf3
   repeat (first | (apply zM;exact rfl;exact rfl;exact rfl;intro K hK;go_big_quiet_op;go_big_quiet_on) | (apply zO;exact rfl;exact rfl;exact rfl;intro K hK;go_big_quiet_op;go_big_quiet_on))
   clear e0 e1 e2 e3 e4 e5 e6 e7 e8 e9 x0;refine zh rfl rfl ?_ ?_
   focus
    go_wp2_with fail
    refine(HPL.out W3 Hf3.out).mono ?_;rintro e Wc ⟨rfl,hfc⟩
    go_wp2_with fail
    refine OnlyN.mk ⟨hfc.mono (fun _ _ h=>h.elim),?_⟩;have Hf4:=Lib.hid (Hf3.out.step hfc (fun _ _ h=>h));have hlk:∀ W,(∃ g:Gr (From W1.heap.size) Wc,W=g.W)->(Instr.lookup 120 (.map (some mb)) (.agg #[.string P,.string xo]) false).run Tryz.prog W=.ok (.agg #[.string y.q,.string y.o,.string y.c,.int .i64 y.r]) W:=fun W hW=>by
     obtain⟨g,rfl⟩:=hW;have:=((HQM.out _ Hf4.out).fr g.fr (by unfold From;have:=HLW.out;omega)).look (zCX g.W) Tryz.underlying120 HPS.out.1 HPS.out.2;rw[this,HY.out]
    apply zM;exact rfl;exact rfl;exact rfl;intro K hK;refine zBQ rfl _ _ 120 rfl (.map (some mb)) (.agg #[.string P,.string xo]) _ rfl rfl hlk ?_
    go_frame
    go_big_quiet_on;clear hlk;clear hfc;apply zH;exact rfl;obtain⟨Wa,hWa⟩:∃ Wa,Wa=Wc.alloc (.cells #[.string ⟨#[]⟩,.string ⟨#[]⟩,.string ⟨#[]⟩,.int .i64 0] 79):=⟨_,rfl⟩
    have hxa:Fr No Wc Wa:=by rw[hWa];exact(Fr.refl _ _).alloc _
    have qa:Wa.heap[Wc.heap.size]?=some (.cells #[.string ⟨#[]⟩,.string ⟨#[]⟩,.string ⟨#[]⟩,.int .i64 0] 79):=by rw[hWa];exact zD _ _
    go_wp2_with fail
    refine OnlyN.mk ⟨((Fr.refl No _).alloc _).mono (fun _ _ h=>h.elim),?_⟩;rw[<-hWa];clear hWa;have HXA:Hid (Fr No W1 Wa):=Hf4.out.step hxa (fun _ _ h=>h);have HBL:Hid (W1.heap.size<=Wc.heap.size):=Hf4.out.size;have qz:=qa;clear hxa qa;obtain⟨B,hB⟩:∃ B,B=Wc.heap.size:=⟨_,rfl⟩
    rw[<-hB]at qz HBL ⊢;clear hB;obtain⟨z0,z1,z2,z3⟩:=cl4 qz;obtain⟨f0,f1,f2,f3⟩:=fl4 qz;have h4:=Lib.hid (set4 qz rfl (.string y.q) (.string y.o) (.string y.c) (.int .i64 y.r));clear qz;apply zH;exact rfl
    go_wp2_with fail
    refine OnlyN.mk ⟨h4.out.2.mono (fun b _ h=>by unfold Is at h;unfold From;have:=HBL.out;omega),?_⟩;refine zS ?_;obtain⟨w5,hw5⟩:∃ w5,w5=((((Wa.setCell ⟨B,0,none⟩ (.string y.q)).setCell ⟨B,1,none⟩ (.string y.o)).setCell ⟨B,2,none⟩ (.string y.c)).setCell ⟨B,3,none⟩ (.int .i64 y.r)):=⟨_,rfl⟩
    rw[<-hw5];have h4b:=h4.out;rw[<-hw5]at h4b;have HX5:Hid (Fr No W1 w5):=HXA.out.step h4b.2 (fun b hb h=>by unfold Is at h;have:=HBL.out;omega);have HB5:=Lib.hid h4b.1;clear hw5 h4 h4b z0 z1 z2 z3 f0 f1 f2 f3 HXA HBL
   rotate_left 1
   focus
    obtain⟨Wa,hWa⟩:∃ Wa,Wa=W3.alloc (.cells #[.string ⟨#[]⟩,.string ⟨#[]⟩,.string ⟨#[]⟩,.int .i64 0] 79):=⟨_,rfl⟩
    have hxa:Fr No W3 Wa:=by rw[hWa];exact(Fr.refl _ _).alloc _
    have qa:Wa.heap[W3.heap.size]?=some (.cells #[.string ⟨#[]⟩,.string ⟨#[]⟩,.string ⟨#[]⟩,.int .i64 0] 79):=by rw[hWa];exact zD _ _
    go_wp2_with fail
    refine OnlyN.mk ⟨((Fr.refl No _).alloc _).mono (fun _ _ h=>h.elim),?_⟩;rw[<-hWa];clear hWa;have Hfa:=Lib.hid (Hf3.out.step hxa (fun _ _ h=>h));clear hxa;apply zH;exact rfl
    go_wp2_with fail
    refine(HPL.out Wa Hfa.out).mono ?_;rintro e Wc ⟨rfl,hfc⟩
    go_wp2_with fail
    refine OnlyN.mk ⟨hfc.mono (fun _ _ h=>h.elim),?_⟩;have qb:=hfc.heap qa id;clear qa;have Hf4:=Lib.hid (Hfa.out.step hfc (fun _ _ h=>h));have hlk:∀ W,(∃ g:Gr (From W1.heap.size) Wc,W=g.W)->(Instr.lookup 120 (.map (some mb)) (.agg #[.string P,.string xo]) false).run Tryz.prog W=.ok (.agg #[.string y.q,.string y.o,.string y.c,.int .i64 y.r]) W:=fun W hW=>by
     obtain⟨g,rfl⟩:=hW;have:=((HQM.out _ Hf4.out).fr g.fr (by unfold From;have:=HLW.out;omega)).look (zCX g.W) Tryz.underlying120 HPS.out.1 HPS.out.2;rw[this,HY.out]
    apply zM;exact rfl;exact rfl;exact rfl;intro K hK;refine zBQ rfl _ _ 120 rfl (.map (some mb)) (.agg #[.string P,.string xo]) _ rfl rfl hlk ?_
    go_frame
    go_big_quiet_on;clear hlk;clear hfc;have HXA:Hid (Fr No W1 Wc):=Hf4.out;have HBL:Hid (W1.heap.size<=W3.heap.size):=Hf3.out.size;have qz:=qb;clear qb;obtain⟨B,hB⟩:∃ B,B=W3.heap.size:=⟨_,rfl⟩
    rw[<-hB]at qz HBL ⊢;clear hB;obtain⟨z0,z1,z2,z3⟩:=cl4 qz;obtain⟨f0,f1,f2,f3⟩:=fl4 qz;have h4:=Lib.hid (set4 qz rfl (.string y.q) (.string y.o) (.string y.c) (.int .i64 y.r));clear qz;apply zH;exact rfl
    go_wp2_with fail
    refine OnlyN.mk ⟨h4.out.2.mono (fun b _ h=>by unfold Is at h;unfold From;have:=HBL.out;omega),?_⟩;refine zS ?_;obtain⟨w5,hw5⟩:∃ w5,w5=((((Wc.setCell ⟨B,0,none⟩ (.string y.q)).setCell ⟨B,1,none⟩ (.string y.o)).setCell ⟨B,2,none⟩ (.string y.c)).setCell ⟨B,3,none⟩ (.int .i64 y.r)):=⟨_,rfl⟩
    rw[<-hw5];have h4b:=h4.out;rw[<-hw5]at h4b;have HX5:Hid (Fr No W1 w5):=HXA.out.step h4b.2 (fun b hb h=>by unfold Is at h;have:=HBL.out;omega);have HB5:=Lib.hid h4b.1;clear hw5 h4 h4b z0 z1 z2 z3 f0 f1 f2 f3 HXA HBL
   all_goals (
    go_wp2_with fail
    refine zR No [(0,false),(1,false),(2,false),(3,false),(4,false),(5,false),(6,true),(7,false),(8,false),(9,false),(11,false),(12,false),(10,true),(13,false),(14,false)] (by kernel_rfl) (by kernel_rfl) (fun w6 hf6=>?_);have d3:=hf6.heap (HX5.out.heap D1.out id) id;have x3:=hf6.heap (HX5.out.heap PB1.out id) id;have cB:∀ g:Gr (No) w6,DevB g.W wr.heap.size d:=fun g=>DevB.of (g.fr.heap d3 (id))
    have e0:=fun g=>(cB g).c0
    have e1:=fun g=>(cB g).c1
    have e2:=fun g=>(cB g).c2
    have e3:=fun g=>(cB g).c3
    have e4:=fun g=>(cB g).c4
    have e5:=fun g=>(cB g).c5
    have e6:=fun g=>(cB g).c6
    have e7:=fun g=>(cB g).c7
    have e8:=fun g=>(cB g).c8
    have e9:=fun g=>(cB g).c9
    have x0:∀ g:Gr No w6,g.W.cell? ⟨pb,0,none⟩=some (.slice (some ⟨bb,off,none⟩) ds.length cap):=fun g=>zB (g.fr.heap x3 id) 0
    have Hf6:=Lib.hid (HX5.out.step hf6 (fun _ _ h=>h));clear cB d3 x3 hf6
    repeat (first | (apply zT;exact rfl;exact rfl;exact rfl;intro K hK;go_big_quiet_op;go_big_quiet_on) | (apply zW;exact rfl;exact rfl;exact rfl;intro K hK;go_big_quiet_op;go_big_quiet_on))
    clear e0 e1 e2 e3 e4 e5 e6 e7 e8 e9 x0;apply zi;exact rfl
    go_wp2_with fail
    refine(HVI.out w6 Hf6.out).mono ?_;rintro e w7 ⟨rfl,hf7⟩;have Hf7:=Lib.hid (Hf6.out.step hf7 (fun _ _ h=>h))
    go_wp2_with fail
    refine OnlyN.mk ⟨hf7.mono (fun _ _ h=>h.elim),?_⟩;clear hf7
    repeat (first | (apply zT;exact rfl;exact rfl;exact rfl;intro K hK;go_big_quiet_op;go_big_quiet_on) | (apply zW;exact rfl;exact rfl;exact rfl;intro K hK;go_big_quiet_op;go_big_quiet_on))
    apply zi;exact rfl
    go_wp2_with fail
    refine OnlyN.mk ⟨Fr.refl _ _,?_⟩
    repeat (first | (apply zT;exact rfl;exact rfl;exact rfl;intro K hK;go_big_quiet_op;go_big_quiet_on) | (apply zW;exact rfl;exact rfl;exact rfl;intro K hK;go_big_quiet_op;go_big_quiet_on))
    refine zb ?_;have HFN:=Lib.hid (HF1.out.step Hf7.out (fun _ _ h=>h))
    go_wp2_with fail
    go_roundw
    case rel=>exact⟨j+1,by omega,by go_num,HFN.out⟩
    case measure=>simp[intOf];omega
    )
  ·obtain rfl:j=ds.length:=by omega
   have hlt':¬ (ds.length:Int)<ds.length:=by omega
   have Hf:=Lib.hid hf;clear hf
   go_wp2_with fail
   go_end0
   exact⟨rfl,Hf.out⟩
theorem zId (pb mb base:Nat)(a:Option Addr)(cap:Nat)(ds:List Dev)(ao:Option Addr)(no co:Nat)(g0:ByteArray×ByteArray->Option Value)(N:Nat)(w:World)(hl:Tr w base a cap ds)(hn:ds.length<=250)(hE:Env w)
  (hpb:w.heap[pb]?=some (.cells #[.slice a ds.length cap,.slice ao no co] 135)) (hQ:QMap w mb g0 N) (hg:∀ p,∃ y:Vir,(g0 p).getD zB6=.agg #[.string y.q,.string y.o,.string y.c,.int .i64 y.r]) (hv:∀ d∈ds,virB ds d.index=false):
  Calls Tryz.prog 64 #[.pointer (some ⟨pb,0,none⟩),.map (some mb)] w fun e w'=>e=.returned (.tuple #[])/\Fr No w w':=by
 refine(callsIn_wide (n:=12)).1 (callsIn_of_wp_marks Tryz.func64 rfl trivial (wpIn_wide.2 ?_));simp only[Tryz.ntmps64,List.size_toArray,List.length_cons,List.length_nil,Nat.reduceAdd,Nat.reduceSub,Array.replicate_succ,Array.replicate_zero,List.push_toArray,List.append_toArray,List.nil_append,List.cons_append];have HV:=Lib.hid hv;have HN:=Lib.hid hn;have HG0:=Lib.hid hg;obtain⟨W0,hW0⟩:∃ W0,W0=(w.alloc (.cells #[.pointer (some ⟨pb,0,none⟩)] 133)).alloc (.cells #[.map (some mb)] 120):=⟨_,rfl⟩
 have hW:Fr No w W0:=by rw[hW0];exact((Fr.refl _ _).alloc _).alloc _
 have b2:W0.heap[w.heap.size]?=some (.cells #[.pointer (some ⟨pb,0,none⟩)] 133):=by rw[hW0];exact zL _ _ _
 have b3:W0.heap[w.heap.size+1]?=some (.cells #[.map (some mb)] 120):=by rw[hW0];exact zP _ _ _
 have hs0:W0.heap.size=w.heap.size+2:=by rw[hW0];simp
 have t2:W0.cell? ⟨w.heap.size,0,none⟩=some (.pointer (some ⟨pb,0,none⟩)):=zB b2 0;have t0:W0.cell? ⟨pb,0,none⟩=some (.slice a ds.length cap):=zB (hW.heap hpb id) 0;have Hs0:=Lib.hid hs0;have hlm:=hl.dv.lenmax;clear hs0
 go_upto_region 1 with(fail)
 rw[<-hW0];clear hW0
 go_wp2_with fail
 refine(zI6 _ _ _ _).mono ?_;rintro e w1 ⟨rfl,rfl⟩;have hx:Fr No W0 (W0.alloc (.cells #[.slice a ds.length cap] 26)):=(Fr.refl _ _).alloc _;have db:=zD W0 (.cells #[.slice a ds.length cap] 26);have hfw:=hW.step hx (fun _ _ h=>h);have d2:=hx.heap b2 id;have d3:=hx.heap b3 id;rw[Hs0.out]at db;clear t0 t2 b2 b3 hx hW
 go_wp2_with fail
 rw[Hs0.out];generalize W0.alloc (.cells #[.slice a ds.length cap] 26)=W2 at *;have HA:=Lib.hid (And.intro (hl.no hfw) (And.intro (hE.no hfw) (And.intro (hfw.heap hpb id) (hQ.fr hfw id))));have HD:=Lib.hid (And.intro d2 d3);refine(wpIn_wide (n:=12)).1 (zAw (α:=Int×Dev) (T:=fun _=>False) (V0:=fun _=>False) rfl (by omega) (gf:=165) (lb:=#[.pointer (some ⟨w.heap.size+2,0,none⟩)]) rfl trivial (enters_of Tryz.func165 (by kernel_rfl) rfl) (encs:=fun x:Int×Dev=>#[.int .i64 x.1,.agg x.2.vals]) (fun _=>rfl) (fun b h=>h.elim) (fun b h=>h.elim)
  (zDO 11 (by omega) (w.heap.size+2) a cap ds W2 (fun _=>False) db HA.out.1.dv (by omega) ⟨id,fun _ _ _=>id⟩)
  (fun pre V W=>(∀ b,¬ V b)/\Fr (From W2.heap.size) W2 W) (fun s V A h b hb=>(h.1 b hb).elim) (fun s V A B S h hf hS=>⟨h.1,h.2.step hf (fun b hb hs=>by
   rcases(hS b hs).2 with h' | h'
   ·exact h'.elim
   ·unfold From;omega)⟩)
  ⟨fun b=>id,Fr.refl _ _⟩
  (fun x V a' W=>∃ Bx,W2.heap.size+2<=Bx/\W.heap[Bx]?=some (.cells x.2.vals 34)/\a'={ tmps:=#[.pointer (some ⟨pb,0,none⟩),.map (some mb),.pointer (some ⟨w.heap.size,0,none⟩),.pointer (some ⟨w.heap.size+1,0,none⟩),undef,.pointer (some ⟨Bx,0,none⟩),undef,undef,undef,undef,.pointer (some ⟨pb,0,none⟩),.pointer (some ⟨pb,0,none⟩),.pointer (some ⟨pb,0,none⟩),.pointer (some ⟨pb,0,none⟩),.slice a ds.length cap,.func (.func 165) #[] #[.pointer (some ⟨w.heap.size+2,0,none⟩)],.int .i64 x.1,.agg x.2.vals,undef,undef,undef,undef,undef,undef,undef,undef,undef,undef,undef,undef,undef,undef,undef,undef,undef,undef,undef,undef,undef,undef,undef,undef,undef,undef,undef,undef,undef,undef,undef,undef,undef,undef,undef,undef,undef,undef,undef,undef,undef,undef,undef,undef,undef,undef,undef,undef,undef,undef,undef,undef,undef,undef,undef,undef,undef,undef,undef,undef,undef],defers:=[] })
  (fun x V a' A B h hf=>by obtain⟨Bx,h1,h2,h3⟩:=h;exact⟨Bx,h1,hf.heap h2 (fun e=>by unfold Is at e;omega),h3⟩)
  ?assign ?body ?done)
 case assign=>
  intro l pre V x W K hi hsz2 hK;have hK':=fun a' W' (h1:Fr No W W') h2=>hK a' W' h1 h2
  clear hl hE hpb hQ hg hv hn hfw d2 d3 db;unfold Dev.vals
  gi_wp2
  exact hK _ _ ((Fr.refl _ _).alloc _) ⟨W.heap.size,hsz2,zD _ _,rfl⟩
 case done=>
  rintro V W hi hK hnV;have hput:Fr (Is W2.heap.size) W (W.putObj W2.heap.size (.deferred none)):=Fr.putObj _ _ _ rfl;have Hfin:Hid (Fr No w (W.putObj W2.heap.size (.deferred none))):=(hfw.step ((hi.2.step hput (fun b hb e=>by unfold Is at e;unfold From;omega)).mono (T:=No) (fun b hb h=>by unfold From at h;omega)) (fun _ _ h=>h))
  clear hi hput hfw
  go_wp2_with fail
  refine⟨by simp,.inl ⟨_,_,rfl,run_takeDeferred hK,?_⟩⟩;exact⟨.tuple #[],by simp[results,Tryz.results64,go_sem],rfl,Hfin.out⟩
 case body=>
  rintro l pre V ⟨xi,d⟩ a' W1 hi ⟨Bx,hBx,hbx,rfl⟩ hpre hsz2;obtain⟨hV,hfW⟩:=hi;have hmem:d∈ds:=by
   have h1:((xi,d):Int×Dev)∈revR ds:=hpre.subset (by simp);unfold revR at h1;obtain⟨p,h2,h3⟩:=List.mem_map.1 h1;rw[List.mem_reverse]at h2;have h4:=List.mem_zipIdx h2;injection h3 with _ h5
   rw[<-h5,h4.2.2];exact List.getElem_mem _
  have hold:∀ b,b<W2.heap.size->¬ From W2.heap.size b:=fun b h h'=>by unfold From at h';omega
  have D1:=Lib.hid hbx;have HWL:Hid (Bx<W1.heap.size/\w.heap.size<W1.heap.size/\w.heap.size+1<W1.heap.size):=⟨zE hbx,by have:=zE HD.out.1;omega,by have:=zE HD.out.2;omega⟩
  have HBX:=Lib.hid (And.intro (hfW.heap HD.out.1 (hold _ (zE HD.out.1))) (hfW.heap HD.out.2 (hold _ (zE HD.out.2))));have pb1:=hfW.heap HA.out.2.2.1 (hold _ (zE HA.out.2.2.1));have hT1:Tr W1 base a cap ds:=HA.out.1.keep hfW (fun b hb _=>hold b hb);have hE1:Env W1:=HA.out.2.1.fr hfW (fun b hb=>hold b (by have:=HA.out.2.1.sz;omega));have hQ1:=HA.out.2.2.2.fr hfW (hold _ HA.out.2.2.2.lt);have HI:=Lib.hid (And.intro hV hfW);clear hl hE hpb hQ hg hv hn hfw d2 d3 db hV hfW hpre hold hbx;have HLW:Hid (mb<W1.heap.size/\pb<W1.heap.size):=⟨hQ1.lt,zE pb1⟩
  have HQM:Hid (∀ W,Fr No W1 W->QMap W mb g0 N):=fun W hW=>hQ1.fr hW id
  obtain⟨P,hP⟩:∃ P,P=plc ds d.parent:=⟨_,rfl⟩
  obtain⟨xo,hxo⟩:∃ xo,xo=d.orig:=⟨_,rfl⟩
  have HPL:Hid (∀ W,Fr No W1 W->Calls Tryz.prog 109 #[.agg #[.slice a ds.length cap],.agg d.vals] W fun e w'=>e=.returned (.agg #[.string P,.string xo])/\Fr No W w'):=fun W hW=>by
   rw[hP,hxo];have hT:=hT1.no hW;exact zFP a cap ds d W hT.dv hT.wf.ok (by have:=HN.out;omega) (hT.wf.ok.pwf hmem)
  have HPS:Hid (P.size<=maxLen/\xo.size<=maxLen):=by
   rw[hP,hxo];have h1:=zBm hT1.wf.ok HN.out d.parent;have h2:=hT1.wf.ok.sz d hmem;refine⟨?_,?_⟩<;>unfold maxLen<;>omega
  have HVI:Hid (∀ W,Fr No W1 W->Calls Tryz.prog 6 #[.agg #[.slice a ds.length cap],.int .i64 d.index] W fun e w'=>e=.returned (.bool false)/\Fr No W w'):=fun W hW=>by
   have:=zB5 a cap ds base d.index W (hT1.no hW) (hE1.no hW).err;rw[HV.out d hmem]at this;exact this
  obtain⟨y,hy⟩:=HG0.out (P,xo);obtain⟨bk,hbk⟩:∃ bk,bk=(g0 (P,xo)).isSome:=⟨_,rfl⟩
  have HY:=Lib.hid hy;have HBK:=Lib.hid hbk.symm;have PB1:=Lib.hid pb1;unfold Dev.vals at HPL;clear hP hxo hy hbk hQ1 hT1 hE1 hmem pb1;dsimp only;unfold Dev.vals
  gi_wp2
  refine zDK (From W1.heap.size) (.q 0 (.q 1 (.q 2 (.q 3 (.q 4 (.q 5 (.m2 6 (.q 7 (.q 8 (.q 9 (.q 10 (.m1 11 (.m1 12 (.q 13 .fin))))))) 11 (.m1 6 (.q 7 (.q 8 (.q 9 (.q 10 (.m1 12 (.q 13 .fin)))))))))))))) _ (by kernel_rfl) (by kernel_rfl) (fun W3 hf3=>?_) (fun _ _ h=>h);have d3:=hf3.heap D1.out id;have yp:=hf3.heap PB1.out id;have y2:=hf3.heap HBX.out.1 id;have y3:=hf3.heap HBX.out.2 id;have cB:∀ g:Gr (From W1.heap.size) W3,DevB g.W Bx d:=fun g=>DevB.of (g.fr.heap d3 (by unfold From;have:=HWL.out;omega))
  have e0:=fun g=>(cB g).c0
  have e1:=fun g=>(cB g).c1
  have e2:=fun g=>(cB g).c2
  have e3:=fun g=>(cB g).c3
  have e4:=fun g=>(cB g).c4
  have e5:=fun g=>(cB g).c5
  have e6:=fun g=>(cB g).c6
  have e7:=fun g=>(cB g).c7
  have e8:=fun g=>(cB g).c8
  have e9:=fun g=>(cB g).c9
  have x2:∀ g:Gr (From W1.heap.size) W3,g.W.cell? ⟨w.heap.size,0,none⟩=some (.pointer (some ⟨pb,0,none⟩)):=fun g=>zB (g.fr.heap y2 (by unfold From;have:=HWL.out;have:=HLW.out;omega)) 0
  have x3:∀ g:Gr (From W1.heap.size) W3,g.W.cell? ⟨w.heap.size+1,0,none⟩=some (.map (some mb)):=fun g=>zB (g.fr.heap y3 (by unfold From;have:=HWL.out;have:=HLW.out;omega)) 0
  have x0:∀ g:Gr (From W1.heap.size) W3,g.W.cell? ⟨pb,0,none⟩=some (.slice a ds.length cap):=fun g=>zB (g.fr.heap yp (by unfold From;have:=HWL.out;have:=HLW.out;omega)) 0
  have Hf3:=Lib.hid hf3;clear cB d3 yp y2 y3 hf3
  repeat (first | (apply zM;exact rfl;exact rfl;exact rfl;intro K hK;go_big_quiet_op;go_big_quiet_on) | (apply zO;exact rfl;exact rfl;exact rfl;intro K hK;go_big_quiet_op;go_big_quiet_on))
  clear e0 e1 e2 e3 e4 e5 e6 e7 e8 e9 x0 x2 x3;refine zh rfl rfl ?_ ?_
  focus
   go_wp2_with fail
   refine(HPL.out W3 Hf3.out).mono ?_;rintro e Wc ⟨rfl,hfc⟩
   go_wp2_with fail
   refine OnlyN.mk ⟨hfc.mono (fun _ _ h=>h.elim),?_⟩;have Hf4:=Lib.hid (Hf3.out.step hfc (fun _ _ h=>h));have hlk:∀ W,(∃ g:Gr (From W1.heap.size) Wc,W=g.W)->(Instr.lookup 120 (.map (some mb)) (.agg #[.string P,.string xo]) true).run Tryz.prog W=.ok (.tuple #[.agg #[.string y.q,.string y.o,.string y.c,.int .i64 y.r],.bool bk]) W:=fun W hW=>by
    obtain⟨g,rfl⟩:=hW;have:=((HQM.out _ Hf4.out).fr g.fr (by unfold From;have:=HLW.out;omega)).lookok (zCX g.W) Tryz.underlying120 HPS.out.1 HPS.out.2;rw[this,HY.out,HBK.out]
   apply zM;exact rfl;exact rfl;exact rfl;intro K hK;refine zAP rfl _ _ 120 rfl (.map (some mb)) (.agg #[.string P,.string xo]) _ rfl rfl hlk ?_
   go_frame
   go_big_quiet_on;clear hlk;apply zM;exact rfl;exact rfl;exact rfl;intro K hK;go_big_quiet_op;go_big_quiet_on;apply zM;exact rfl;exact rfl;exact rfl;intro K hK;go_big_quiet_op;go_big_quiet_on;apply zM;exact rfl;exact rfl;exact rfl;intro K hK;go_big_quiet_op;go_big_quiet_on;clear hfc;apply zH;exact rfl;obtain⟨Wa,hWa⟩:∃ Wa,Wa=Wc.alloc (.cells #[.string ⟨#[]⟩,.string ⟨#[]⟩,.string ⟨#[]⟩,.int .i64 0] 79):=⟨_,rfl⟩
   have hxa:Fr No Wc Wa:=by rw[hWa];exact(Fr.refl _ _).alloc _
   have qa:Wa.heap[Wc.heap.size]?=some (.cells #[.string ⟨#[]⟩,.string ⟨#[]⟩,.string ⟨#[]⟩,.int .i64 0] 79):=by rw[hWa];exact zD _ _
   go_wp2_with fail
   refine OnlyN.mk ⟨((Fr.refl No _).alloc _).mono (fun _ _ h=>h.elim),?_⟩;rw[<-hWa];clear hWa;have HXA:Hid (Fr No W1 Wa):=Hf4.out.step hxa (fun _ _ h=>h);have HBL:Hid (W1.heap.size<=Wc.heap.size):=Hf4.out.size;have qz:=qa;clear hxa qa;obtain⟨B,hB⟩:∃ B,B=Wc.heap.size:=⟨_,rfl⟩
   rw[<-hB]at qz HBL ⊢;clear hB;obtain⟨z0,z1,z2,z3⟩:=cl4 qz;obtain⟨f0,f1,f2,f3⟩:=fl4 qz;have h4:=Lib.hid (set4 qz rfl (.string y.q) (.string y.o) (.string y.c) (.int .i64 y.r));clear qz;apply zH;exact rfl
   go_wp2_with fail
   refine OnlyN.mk ⟨h4.out.2.mono (fun b _ h=>by unfold Is at h;unfold From;have:=HBL.out;omega),?_⟩;apply zM;exact rfl;exact rfl;exact rfl;intro K hK;go_big_quiet_op;go_big_quiet_on;refine zS ?_;obtain⟨w5,hw5⟩:∃ w5,w5=((((Wa.setCell ⟨B,0,none⟩ (.string y.q)).setCell ⟨B,1,none⟩ (.string y.o)).setCell ⟨B,2,none⟩ (.string y.c)).setCell ⟨B,3,none⟩ (.int .i64 y.r)):=⟨_,rfl⟩
   rw[<-hw5];have h4b:=h4.out;rw[<-hw5]at h4b;have HX5:Hid (Fr No W1 w5):=HXA.out.step h4b.2 (fun b hb h=>by unfold Is at h;have:=HBL.out;omega);have HB5:=Lib.hid h4b.1;clear hw5 h4 h4b z0 z1 z2 z3 f0 f1 f2 f3 HXA HBL
  rotate_left 1
  focus
   obtain⟨Wa,hWa⟩:∃ Wa,Wa=W3.alloc (.cells #[.string ⟨#[]⟩,.string ⟨#[]⟩,.string ⟨#[]⟩,.int .i64 0] 79):=⟨_,rfl⟩
   have hxa:Fr No W3 Wa:=by rw[hWa];exact(Fr.refl _ _).alloc _
   have qa:Wa.heap[W3.heap.size]?=some (.cells #[.string ⟨#[]⟩,.string ⟨#[]⟩,.string ⟨#[]⟩,.int .i64 0] 79):=by rw[hWa];exact zD _ _
   go_wp2_with fail
   refine OnlyN.mk ⟨((Fr.refl No _).alloc _).mono (fun _ _ h=>h.elim),?_⟩;rw[<-hWa];clear hWa;have Hfa:=Lib.hid (Hf3.out.step hxa (fun _ _ h=>h));clear hxa;apply zH;exact rfl
   go_wp2_with fail
   refine(HPL.out Wa Hfa.out).mono ?_;rintro e Wc ⟨rfl,hfc⟩
   go_wp2_with fail
   refine OnlyN.mk ⟨hfc.mono (fun _ _ h=>h.elim),?_⟩;have qb:=hfc.heap qa id;clear qa;have Hf4:=Lib.hid (Hfa.out.step hfc (fun _ _ h=>h));have hlk:∀ W,(∃ g:Gr (From W1.heap.size) Wc,W=g.W)->(Instr.lookup 120 (.map (some mb)) (.agg #[.string P,.string xo]) true).run Tryz.prog W=.ok (.tuple #[.agg #[.string y.q,.string y.o,.string y.c,.int .i64 y.r],.bool bk]) W:=fun W hW=>by
    obtain⟨g,rfl⟩:=hW;have:=((HQM.out _ Hf4.out).fr g.fr (by unfold From;have:=HLW.out;omega)).lookok (zCX g.W) Tryz.underlying120 HPS.out.1 HPS.out.2;rw[this,HY.out,HBK.out]
   apply zM;exact rfl;exact rfl;exact rfl;intro K hK;refine zAP rfl _ _ 120 rfl (.map (some mb)) (.agg #[.string P,.string xo]) _ rfl rfl hlk ?_
   go_frame
   go_big_quiet_on;clear hlk;apply zM;exact rfl;exact rfl;exact rfl;intro K hK;go_big_quiet_op;go_big_quiet_on;apply zM;exact rfl;exact rfl;exact rfl;intro K hK;go_big_quiet_op;go_big_quiet_on;apply zM;exact rfl;exact rfl;exact rfl;intro K hK;go_big_quiet_op;go_big_quiet_on;clear hfc;have HXA:Hid (Fr No W1 Wc):=Hf4.out;have HBL:Hid (W1.heap.size<=W3.heap.size):=Hf3.out.size;have qz:=qb;clear qb;obtain⟨B,hB⟩:∃ B,B=W3.heap.size:=⟨_,rfl⟩
   rw[<-hB]at qz HBL ⊢;clear hB;obtain⟨z0,z1,z2,z3⟩:=cl4 qz;obtain⟨f0,f1,f2,f3⟩:=fl4 qz;have h4:=Lib.hid (set4 qz rfl (.string y.q) (.string y.o) (.string y.c) (.int .i64 y.r));clear qz;apply zH;exact rfl
   go_wp2_with fail
   refine OnlyN.mk ⟨h4.out.2.mono (fun b _ h=>by unfold Is at h;unfold From;have:=HBL.out;omega),?_⟩;apply zM;exact rfl;exact rfl;exact rfl;intro K hK;go_big_quiet_op;go_big_quiet_on;refine zS ?_;obtain⟨w5,hw5⟩:∃ w5,w5=((((Wc.setCell ⟨B,0,none⟩ (.string y.q)).setCell ⟨B,1,none⟩ (.string y.o)).setCell ⟨B,2,none⟩ (.string y.c)).setCell ⟨B,3,none⟩ (.int .i64 y.r)):=⟨_,rfl⟩
   rw[<-hw5];have h4b:=h4.out;rw[<-hw5]at h4b;have HX5:Hid (Fr No W1 w5):=HXA.out.step h4b.2 (fun b hb h=>by unfold Is at h;have:=HBL.out;omega);have HB5:=Lib.hid h4b.1;clear hw5 h4 h4b z0 z1 z2 z3 f0 f1 f2 f3 HXA HBL
  all_goals (
   gi_wp2
   refine zDp No [(0,false),(1,false),(2,false),(3,false),(4,false),(5,false),(6,true),(7,false),(8,false),(9,false),(10,false),(11,false),(12,false),(13,false),(14,false),(15,false)] (by kernel_rfl) (by kernel_rfl) (fun w6 hf6=>?_);have d3:=hf6.heap (HX5.out.heap D1.out id) id;have yp:=hf6.heap (HX5.out.heap PB1.out id) id;have y2:=hf6.heap (HX5.out.heap HBX.out.1 id) id;have y3:=hf6.heap (HX5.out.heap HBX.out.2 id) id;have cB:∀ g:Gr (No) w6,DevB g.W Bx d:=fun g=>DevB.of (g.fr.heap d3 (id))
   have e0:=fun g=>(cB g).c0
   have e1:=fun g=>(cB g).c1
   have e2:=fun g=>(cB g).c2
   have e3:=fun g=>(cB g).c3
   have e4:=fun g=>(cB g).c4
   have e5:=fun g=>(cB g).c5
   have e6:=fun g=>(cB g).c6
   have e7:=fun g=>(cB g).c7
   have e8:=fun g=>(cB g).c8
   have e9:=fun g=>(cB g).c9
   have x2:∀ g:Gr (No) w6,g.W.cell? ⟨w.heap.size,0,none⟩=some (.pointer (some ⟨pb,0,none⟩)):=fun g=>zB (g.fr.heap y2 (id)) 0
   have x3:∀ g:Gr (No) w6,g.W.cell? ⟨w.heap.size+1,0,none⟩=some (.map (some mb)):=fun g=>zB (g.fr.heap y3 (id)) 0
   have x0:∀ g:Gr (No) w6,g.W.cell? ⟨pb,0,none⟩=some (.slice a ds.length cap):=fun g=>zB (g.fr.heap yp (id)) 0
   have Hf6:=Lib.hid (HX5.out.step hf6 (fun _ _ h=>h));clear cB d3 yp y2 y3 hf6
   repeat (first | (apply zT;exact rfl;exact rfl;exact rfl;intro K hK;go_big_quiet_op;go_big_quiet_on) | (apply zW;exact rfl;exact rfl;exact rfl;intro K hK;go_big_quiet_op;go_big_quiet_on))
   clear e0 e1 e2 e3 e4 e5 e6 e7 e8 e9 x0 x2 x3;apply zi;exact rfl
   go_wp2_with fail
   refine(HVI.out w6 Hf6.out).mono ?_;rintro e w7 ⟨rfl,hf7⟩;have Hf7:=Lib.hid (Hf6.out.step hf7 (fun _ _ h=>h))
   go_wp2_with fail
   refine OnlyN.mk ⟨hf7.mono (fun _ _ h=>h.elim),?_⟩;clear hf7
   repeat (first | (apply zT;exact rfl;exact rfl;exact rfl;intro K hK;go_big_quiet_op;go_big_quiet_on) | (apply zW;exact rfl;exact rfl;exact rfl;intro K hK;go_big_quiet_op;go_big_quiet_on))
   refine zb ?_
   gi_wp2
   have HFN:=Lib.hid Hf7.out;refine⟨V,fun b h=>.inl h,⟨HI.out.1,HI.out.2.step HFN.out (fun _ _ h=>h.elim)⟩,HFN.out.mono (fun _ _ h=>h.elim)⟩
   )
end Go.Proofs.YtmajgldaplkpiaaGreatDoor
