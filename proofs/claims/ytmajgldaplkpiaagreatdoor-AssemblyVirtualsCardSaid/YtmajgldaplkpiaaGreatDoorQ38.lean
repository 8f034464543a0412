import Derived.Test.YtmajgldaplkpiaaGreatDoorQ37
namespace Go.Proofs.YtmajgldaplkpiaaGreatDoor
open Go.RowKit Go.Maps
set_option linter.unusedVariables false
set_option maxRecDepth 100000
set_option maxHeartbeats 8000000
theorem infoOp : (Tryz.prog.info? 69).map (fun i=>(i.zero,i.size,i.bytes))=some (some (.agg #[.int .i64 0,.string ByteArray.empty,.int .i64 0,.int .i64 0,.string ByteArray.empty,.string ByteArray.empty,.string ByteArray.empty,.string ByteArray.empty,.string ByteArray.empty,.int .i64 0,.int .i64 0,.slice none 0 0,.string ByteArray.empty,.string ByteArray.empty]),14,192):=by kernel_rfl
theorem zGX (k:Int)(path:ByteArray)(x:Dev)(nm vl:ByteArray):∀ u∈(ocs k path x nm vl).toList,u.oneCell'=true:=by
 intro u hu;unfold ocs at hu;simp at hu;rcases hu with rfl | rfl | rfl | rfl | rfl | rfl | rfl | rfl | rfl | rfl | rfl | rfl | rfl | rfl<;>rfl
def newD (ds:List Dev)(p:Int)(vo:ByteArray)(aa:Option Addr):Dev:=⟨maxI ds+1,p,vo,vo,zZ,⟨#[]⟩,⟨#[]⟩,2,1048576,aa,1,1⟩
theorem zKl (pb base:Nat)(a:Option Addr)(cap:Nat)(ds:List Dev)(vq vo vc:ByteArray)(vr p m:Int)(w:World)(hl:Tr w base a cap ds)(hn:ds.length<=250)(hE:Env w)
  (hpb:w.heap[pb]?=some (.cells #[.slice a ds.length cap,.slice none 0 0] 135)) (hp:ParIs ds vq p) (hno:ds.find? (atP ds (vq++(⟨#[47]⟩:ByteArray)++vo))=none)
  (hq:vq.size<=100000) (ho:vo.size<=100000) (hc:vc.toList.isEmpty=false) (hcs:vc.size<=100000) (hu:usedF ds 1048576=false) (hnw:∀ d∈ds,(Lit.int .i64 d.num).wf=true) (hmx:0<=maxI ds/\maxI ds<=1000000) (hpw:(Lit.int .i64 p).wf=true)
  (hok:∀ aa,InsOk ds (newD ds p vo aa) [(zQ,vc)]) (hsz:∀ aa,Sized (newD ds p vo aa)) (hm:w.cell? ⟨0,0,none⟩=some (.int .i64 m)):
  Calls Tryz.prog 66 #[.pointer (some ⟨pb,0,none⟩),.agg #[.string vq,.string vo,.string vc,.int .i64 vr]] w fun e w'=>e=.returned (.tuple #[])/\
   (∃ (bt:Nat) (a':Option Addr) (n' c':Nat) (av:Option Addr) (cv:Nat),w'.heap[pb]?=some (.cells #[.slice a' n' c',.slice av 1 cv] 135)/\w'.ownsRow w.heap.size 69 14 (.slice av 1 cv) 1 (ocs 1 vq ⟨0,0,⟨#[]⟩,vo,zZ,⟨#[]⟩,⟨#[]⟩,2,1048576,some ⟨bt,0,none⟩,1,1⟩ ⟨#[]⟩ ⟨#[]⟩).toList/\
    Atts w' (some ⟨bt,0,none⟩) 1 [(zQ,vc)]/\BlkT w' (some ⟨bt,0,none⟩) 50/\w.heap.size<=bt)/\Fr (Is pb) w w':=by
 obtain⟨i0,hi0,hz0,hz1,hz2⟩:=info_parts infoOp;obtain⟨W0,hW0⟩:∃ W0,W0=w.alloc (.cells #[.string vq,.string vo,.string vc,.int .i64 vr] 79):=⟨_,rfl⟩
 have x0:Fr No w W0:=by rw[hW0];exact(Fr.refl _ _).alloc _
 have b0:W0.heap[w.heap.size]?=some (.cells #[.string vq,.string vo,.string vc,.int .i64 vr] 79):=by rw[hW0];exact zD _ _
 have kb0:=x0.heap hpb id;have hkl:=zE hpb;have hat:=fun (s:ByteArray) (W:World) (hf:Fr No w W)=>zEu a cap ds base s W (hl.no hf) (by omega)
 have Hat:=Lib.hid hat;have Hl:=Lib.hid hl;have HE:=Lib.hid hE;have Hp:=Lib.hid hp;have Hno:=Lib.hid hno;have Hok:=Lib.hid hok;have Hsz:=Lib.hid hsz;have Hm:=Lib.hid hm;have Hu:=Lib.hid (And.intro hu hnw);have hcm:vc.size<=maxLen:=by unfold maxLen;omega
 clear hat hl hE hp hno hok hsz hm hu hnw hpb;have h1c:(vq++(⟨#[47]⟩:ByteArray)).size<=9223372036854775807:=by rw[ByteArray.size_append];show vq.size+1<=_;omega
 have h2c:(vq++(⟨#[47]⟩:ByteArray)++vo).size<=9223372036854775807:=by rw[ByteArray.size_append,ByteArray.size_append];show vq.size+1+vo.size<=_;omega
 go_enter Tryz.func66,Tryz.ntmps66
 go_upto_region 1 with(fail)
 rw[<-hW0];clear hW0
 go_cut [4,5] (fun p4 b5 wx=>∃ Bp pd bb,p4=.pointer (some ⟨Bp,0,none⟩)/\b5=.bool bb/\Hid (wx.heap[Bp]?=some (.cells (Dev.vals pd) 34)/\pd.index=p/\(bb=true\/vq=⟨#[]⟩)/\w.heap.size<Bp)/\Fr No W0 wx)
 case first=>
  refine zY (fun b=>W0.heap.size<=b) (.q 0 (.q 1 (.q 2 (.q 3 (.q 4 (.q 5 (.m2 6 (.q 7 (.q 8 (.q 9 (.m1 10 (.m1 11 (.q 12 .fin)))))) 10 (.m1 6 (.q 7 (.q 8 (.q 9 (.m1 11 (.q 12 .fin))))))))))))) _ (by kernel_rfl) (by kernel_rfl) (fun W1 hf1=>?_) (fun _ _ h=>h);have b1:=hf1.heap b0 id;have k1:=hf1.heap kb0 id;have hs0:=zE b0;have t0:∀ g:Gr (fun b=>W0.heap.size<=b) W1,g.W.cell? ⟨pb,0,none⟩=some (.slice a ds.length cap):=fun g=>zB (g.fr.heap k1 (fun h=>by omega)) 0
  have t1:∀ g:Gr (fun b=>W0.heap.size<=b) W1,g.W.cell? ⟨w.heap.size,0,none⟩=some (.string vq):=fun g=>zB (g.fr.heap b1 (fun h=>by omega)) 0
  have hs1:=hf1.size;have x1:=Lib.hid (x0.step hf1 (fun _ _ h=>h))
  repeat (first | (apply zM;exact rfl;exact rfl;exact rfl;intro K hK;go_big_quiet_op;go_big_quiet_on) | (apply zO;exact rfl;exact rfl;exact rfl;intro K hK;go_big_quiet_op;go_big_quiet_on))
  clear t0 t1;refine zh rfl rfl ?_ ?_
  focus
   have hcall:=Hat.out vq W1 x1.out
   go_wp2_with fail
   refine hcall.mono ?_;rintro e w2 ⟨hF,hf2⟩;clear hcall;obtain⟨pd,bb,rfl,hpi,hbb⟩:∃ pd bb,e=.returned (.tuple #[.agg (Dev.vals pd),.bool bb])/\pd.index=p/\(bb=true\/vq=⟨#[]⟩):=by
    rcases hF with⟨hlk,rfl⟩ | ⟨d,a',c',l',hlk,rfl,_⟩
    ·rcases Hp.out with⟨_,h2,h3⟩ | ⟨d,h2,_⟩
     ·exact⟨Dev.zero,false,rfl,h3.symm,.inr h2⟩
     ·rw[hlk]at h2;cases h2
    ·rcases Hp.out with⟨h2,_⟩ | ⟨d',h2,h3⟩
     ·rw[hlk]at h2;cases h2
     ·rw[hlk]at h2;cases h2;exact⟨{ d with aa:=a',ac:=c' },true,rfl,h3.symm,.inl rfl⟩
   have HPB:=Lib.hid (And.intro hpi hbb);clear hpi hbb;unfold Dev.vals
   go_wp2_with fail
   refine OnlyN.mk ⟨hf2.mono (fun _ _ h=>h.elim),?_⟩
   repeat (first | (apply zM;exact rfl;exact rfl;exact rfl;intro K hK;go_big_quiet_op;go_big_quiet_on) | (apply zO;exact rfl;exact rfl;exact rfl;intro K hK;go_big_quiet_op;go_big_quiet_on))
   apply zH;exact rfl;obtain⟨W3,hW3⟩:∃ W3,W3=w2.alloc (.cells #[.int .i64 0,.int .i64 0,.string ⟨#[]⟩,.string ⟨#[]⟩,.string ⟨#[]⟩,.string ⟨#[]⟩,.string ⟨#[]⟩,.int .i64 0,.int .i64 0,.slice none 0 0] 34):=⟨_,rfl⟩
   have f3:Fr No w2 W3:=by rw[hW3];exact(Fr.refl _ _).alloc _
   have q3:W3.heap[w2.heap.size]?=some (.cells #[.int .i64 0,.int .i64 0,.string ⟨#[]⟩,.string ⟨#[]⟩,.string ⟨#[]⟩,.string ⟨#[]⟩,.string ⟨#[]⟩,.int .i64 0,.int .i64 0,.slice none 0 0] 34):=by rw[hW3];exact zD _ _
   have HX:Hid (Fr No W0 W3):=(hf1.step hf2 (fun _ _ h=>h)).step f3 (fun _ _ h=>h);have hs2:=hf2.size
   go_wp2_with fail
   refine OnlyN.mk ⟨((Fr.refl No _).alloc _).mono (fun _ _ h=>h.elim),?_⟩;rw[<-hW3];clear hW3 f3
  rotate_left 1
  focus
   obtain⟨W3,hW3⟩:∃ W3,W3=W1.alloc (.cells #[.int .i64 0,.int .i64 0,.string ⟨#[]⟩,.string ⟨#[]⟩,.string ⟨#[]⟩,.string ⟨#[]⟩,.string ⟨#[]⟩,.int .i64 0,.int .i64 0,.slice none 0 0] 34):=⟨_,rfl⟩
   have f3:Fr No W1 W3:=by rw[hW3];exact(Fr.refl _ _).alloc _
   have q2:W3.heap[W1.heap.size]?=some (.cells #[.int .i64 0,.int .i64 0,.string ⟨#[]⟩,.string ⟨#[]⟩,.string ⟨#[]⟩,.string ⟨#[]⟩,.string ⟨#[]⟩,.int .i64 0,.int .i64 0,.slice none 0 0] 34):=by rw[hW3];exact zD _ _
   go_wp2_with fail
   refine OnlyN.mk ⟨((Fr.refl No _).alloc _).mono (fun _ _ h=>h.elim),?_⟩;rw[<-hW3];clear hW3;have hcall:=Hat.out vq W3 (x1.out.step f3 (fun _ _ h=>h));apply zH;exact rfl
   go_wp2_with fail
   refine hcall.mono ?_;rintro e w2 ⟨hF,hf2⟩;clear hcall;obtain⟨pd,bb,rfl,hpi,hbb⟩:∃ pd bb,e=.returned (.tuple #[.agg (Dev.vals pd),.bool bb])/\pd.index=p/\(bb=true\/vq=⟨#[]⟩):=by
    rcases hF with⟨hlk,rfl⟩ | ⟨d,a',c',l',hlk,rfl,_⟩
    ·rcases Hp.out with⟨_,h2,h3⟩ | ⟨d,h2,_⟩
     ·exact⟨Dev.zero,false,rfl,h3.symm,.inr h2⟩
     ·rw[hlk]at h2;cases h2
    ·rcases Hp.out with⟨h2,_⟩ | ⟨d',h2,h3⟩
     ·rw[hlk]at h2;cases h2
     ·rw[hlk]at h2;cases h2;exact⟨{ d with aa:=a',ac:=c' },true,rfl,h3.symm,.inl rfl⟩
   have HPB:=Lib.hid (And.intro hpi hbb);clear hpi hbb;unfold Dev.vals;have q3:=hf2.heap q2 id;have HX:Hid (Fr No W0 w2):=(hf1.step f3 (fun _ _ h=>h)).step hf2 (fun _ _ h=>h);clear q2 f3
   go_wp2_with fail
   refine OnlyN.mk ⟨hf2.mono (fun _ _ h=>h.elim),?_⟩
   repeat (first | (apply zM;exact rfl;exact rfl;exact rfl;intro K hK;go_big_quiet_op;go_big_quiet_on) | (apply zO;exact rfl;exact rfl;exact rfl;intro K hK;go_big_quiet_op;go_big_quiet_on))
  all_goals (
   apply zH;exact rfl;obtain⟨z0,z1,z2,z3,z4,z5,z6,z7,z8,z9⟩:=DevB.of (d:=⟨0,0,⟨#[]⟩,⟨#[]⟩,⟨#[]⟩,⟨#[]⟩,⟨#[]⟩,0,0,none,0,0⟩) q3;obtain⟨y0,y1,y2,y3,y4,y5,y6,y7,y8,y9⟩:=DevF.of q3;have h10:=Lib.hid (zAy q3 rfl pd);have hq3:=zE q3;clear q3
   go_wp2_with fail
   refine OnlyN.mk ⟨h10.out.2.mono (fun b _ h=>by unfold Is at h;omega),?_⟩
   repeat (first | (apply zM;exact rfl;exact rfl;exact rfl;intro K hK;go_big_quiet_op;go_big_quiet_on) | (apply zO;exact rfl;exact rfl;exact rfl;intro K hK;go_big_quiet_op;go_big_quiet_on))
   refine zS ?_
   go_wp2_with fail
   go_meet
   exact⟨_,pd,bb,rfl,rfl,⟨h10.out.1,HPB.out.1,HPB.out.2,by omega⟩,(HX.out.step h10.out.2 (fun b hb h=>by unfold Is at h;omega))⟩
   )
 case rest=>
  obtain⟨Bp,pd,bb,rfl,rfl,hB,hf1⟩:=hcut;have x1c:Fr No w wc:=x0.step hf1 (fun _ _ h=>h);have b1c:=hf1.heap b0 id;have k1c:=hf1.heap kb0 id;have p1:=hB.out.1;have hs0:=zE b0;have hs1:=hf1.size;have hpl:=zE p1;have hwp:=hB.out.2.2.2;clear b0 kb0 hf1
  go_upto_region 2 with(fail)
  go_cut [6,7] (fun p6 b7 wx=>(∃ Bq,p6=.pointer (some ⟨Bq,0,none⟩))/\b7=.bool false/\Fr No wc wx)
  case first=>
   refine zY (fun b=>wc.heap.size<=b) (.q 0 (.q 1 (.q 2 (.q 3 (.q 4 (.q 5 (.q 6 (.q 7 (.q 8 (.q 9 (.m2 10 (.q 11 (.q 12 (.q 13 (.m1 14 (.m1 15 (.q 16 .fin)))))) 14 (.m1 10 (.q 11 (.q 12 (.q 13 (.m1 15 (.q 16 .fin))))))))))))))))) _ (by kernel_rfl) (by kernel_rfl) (fun W1 hf1=>?_) (fun _ _ h=>h);have b1:=hf1.heap b1c id;have k1:=hf1.heap k1c id;have t0:∀ g:Gr (fun b=>wc.heap.size<=b) W1,g.W.cell? ⟨pb,0,none⟩=some (.slice a ds.length cap):=fun g=>zB (g.fr.heap k1 (fun h=>by omega)) 0
   have t1:∀ g:Gr (fun b=>wc.heap.size<=b) W1,g.W.cell? ⟨w.heap.size,0,none⟩=some (.string vq):=fun g=>zB (g.fr.heap b1 (fun h=>by omega)) 0
   have t2:∀ g:Gr (fun b=>wc.heap.size<=b) W1,g.W.cell? ⟨w.heap.size,1,none⟩=some (.string vo):=fun g=>zB (g.fr.heap b1 (fun h=>by omega)) 1
   have hs1:=hf1.size;have x1:=Lib.hid (x1c.step hf1 (fun _ _ h=>h))
   repeat (first | (apply zM;exact rfl;exact rfl;exact rfl;intro K hK;go_big_quiet_op;go_big_quiet_on) | (apply zO;exact rfl;exact rfl;exact rfl;intro K hK;go_big_quiet_op;go_big_quiet_on))
   clear t0 t1 t2;refine zh rfl rfl ?_ ?_
   focus
    have hcall:=Hat.out (vq++(⟨#[47]⟩:ByteArray)++vo) W1 x1.out
    go_wp2_with fail
    refine hcall.mono ?_;rintro e w2 ⟨hF,hf2⟩;clear hcall;obtain⟨pd,rfl⟩:∃ pd,e=.returned (.tuple #[.agg (Dev.vals pd),.bool false]):=by
     rcases hF with⟨hlk,rfl⟩ | ⟨d,a',c',l',hlk,rfl,_⟩
     ·exact⟨Dev.zero,rfl⟩
     ·rw[Hno.out]at hlk;cases hlk
    unfold Dev.vals
    go_wp2_with fail
    refine OnlyN.mk ⟨hf2.mono (fun _ _ h=>h.elim),?_⟩
    repeat (first | (apply zM;exact rfl;exact rfl;exact rfl;intro K hK;go_big_quiet_op;go_big_quiet_on) | (apply zO;exact rfl;exact rfl;exact rfl;intro K hK;go_big_quiet_op;go_big_quiet_on))
    apply zH;exact rfl;obtain⟨W3,hW3⟩:∃ W3,W3=w2.alloc (.cells #[.int .i64 0,.int .i64 0,.string ⟨#[]⟩,.string ⟨#[]⟩,.string ⟨#[]⟩,.string ⟨#[]⟩,.string ⟨#[]⟩,.int .i64 0,.int .i64 0,.slice none 0 0] 34):=⟨_,rfl⟩
    have f3:Fr No w2 W3:=by rw[hW3];exact(Fr.refl _ _).alloc _
    have q3:W3.heap[w2.heap.size]?=some (.cells #[.int .i64 0,.int .i64 0,.string ⟨#[]⟩,.string ⟨#[]⟩,.string ⟨#[]⟩,.string ⟨#[]⟩,.string ⟨#[]⟩,.int .i64 0,.int .i64 0,.slice none 0 0] 34):=by rw[hW3];exact zD _ _
    have HX:Hid (Fr No wc W3):=(hf1.step hf2 (fun _ _ h=>h)).step f3 (fun _ _ h=>h);have hs2:=hf2.size
    go_wp2_with fail
    refine OnlyN.mk ⟨((Fr.refl No _).alloc _).mono (fun _ _ h=>h.elim),?_⟩;rw[<-hW3];clear hW3 f3
   rotate_left 1
   focus
    obtain⟨W3,hW3⟩:∃ W3,W3=W1.alloc (.cells #[.int .i64 0,.int .i64 0,.string ⟨#[]⟩,.string ⟨#[]⟩,.string ⟨#[]⟩,.string ⟨#[]⟩,.string ⟨#[]⟩,.int .i64 0,.int .i64 0,.slice none 0 0] 34):=⟨_,rfl⟩
    have f3:Fr No W1 W3:=by rw[hW3];exact(Fr.refl _ _).alloc _
    have q2:W3.heap[W1.heap.size]?=some (.cells #[.int .i64 0,.int .i64 0,.string ⟨#[]⟩,.string ⟨#[]⟩,.string ⟨#[]⟩,.string ⟨#[]⟩,.string ⟨#[]⟩,.int .i64 0,.int .i64 0,.slice none 0 0] 34):=by rw[hW3];exact zD _ _
    go_wp2_with fail
    refine OnlyN.mk ⟨((Fr.refl No _).alloc _).mono (fun _ _ h=>h.elim),?_⟩;rw[<-hW3];clear hW3;have hcall:=Hat.out (vq++(⟨#[47]⟩:ByteArray)++vo) W3 (x1.out.step f3 (fun _ _ h=>h));apply zH;exact rfl
    go_wp2_with fail
    refine hcall.mono ?_;rintro e w2 ⟨hF,hf2⟩;clear hcall;obtain⟨pd,rfl⟩:∃ pd,e=.returned (.tuple #[.agg (Dev.vals pd),.bool false]):=by
     rcases hF with⟨hlk,rfl⟩ | ⟨d,a',c',l',hlk,rfl,_⟩
     ·exact⟨Dev.zero,rfl⟩
     ·rw[Hno.out]at hlk;cases hlk
    unfold Dev.vals;have q3:=hf2.heap q2 id;have HX:Hid (Fr No wc w2):=(hf1.step f3 (fun _ _ h=>h)).step hf2 (fun _ _ h=>h);clear q2 f3
    go_wp2_with fail
    refine OnlyN.mk ⟨hf2.mono (fun _ _ h=>h.elim),?_⟩
    repeat (first | (apply zM;exact rfl;exact rfl;exact rfl;intro K hK;go_big_quiet_op;go_big_quiet_on) | (apply zO;exact rfl;exact rfl;exact rfl;intro K hK;go_big_quiet_op;go_big_quiet_on))
   all_goals (
    apply zH;exact rfl;obtain⟨z0,z1,z2,z3,z4,z5,z6,z7,z8,z9⟩:=DevB.of (d:=⟨0,0,⟨#[]⟩,⟨#[]⟩,⟨#[]⟩,⟨#[]⟩,⟨#[]⟩,0,0,none,0,0⟩) q3;obtain⟨y0,y1,y2,y3,y4,y5,y6,y7,y8,y9⟩:=DevF.of q3;have h10:=Lib.hid (zAy q3 rfl pd);have hq3:=zE q3;clear q3
    go_wp2_with fail
    refine OnlyN.mk ⟨h10.out.2.mono (fun b _ h=>by unfold Is at h;omega),?_⟩
    repeat (first | (apply zM;exact rfl;exact rfl;exact rfl;intro K hK;go_big_quiet_op;go_big_quiet_on) | (apply zO;exact rfl;exact rfl;exact rfl;intro K hK;go_big_quiet_op;go_big_quiet_on))
    refine zS ?_
    go_wp2_with fail
    go_meet
    exact⟨⟨_,rfl⟩,rfl,HX.out.step h10.out.2 (fun b hb h=>by unfold Is at h;omega)⟩
    )
  case rest=>
   obtain⟨⟨Bq,rfl⟩,rfl,hf2⟩:=hcut;have x2:=x1c.step hf2 (fun _ _ h=>h);have b2:=hf2.heap b1c id;have k2:=hf2.heap k1c id;have p2:=hf2.heap p1 id;have hs2:=hf2.size;clear x1c b1c k1c p1 hf2;obtain⟨v0,v1,v2⟩:wc.cell? ⟨w.heap.size,0,none⟩=some (.string vq)/\wc.cell? ⟨w.heap.size,1,none⟩=some (.string vo)/\wc.cell? ⟨w.heap.size,2,none⟩=some (.string vc):=⟨zB b2 0,zB b2 1,zB b2 2⟩
   have hnum:=zIe pb base a cap ds (.slice none 0 0) wc (Hl.out.no x2) hn k2 Hu.out.1 Hu.out.2
   go_upto_region 3 with(fail)
   go_cut [47] (fun v wy=>v=.bool false/\wc=wy)
   case first=>
    rcases hB.out.2.2.1 with rfl | rfl
    ·go_wp2_with fail
     go_meet
     exact⟨rfl,rfl⟩
    ·rcases bb with _ | _
     all_goals
      go_wp2_with fail
      go_meet
      exact⟨rfl,rfl⟩
   case rest=>
    obtain⟨rfl,rfl⟩:=hcut
    go_wp2_with fail
    refine hnum.mono ?_;rintro e w4 ⟨rfl,hf4⟩;have x4:=x2.step hf4 (fun _ _ h=>h);have b4:=hf4.heap b2 id;have k4:=hf4.heap k2 id;have p4:=hf4.heap p2 id;have s4:=hf4.size;obtain⟨v0,v1,v2⟩:w4.cell? ⟨w.heap.size,0,none⟩=some (.string vq)/\w4.cell? ⟨w.heap.size,1,none⟩=some (.string vo)/\w4.cell? ⟨w.heap.size,2,none⟩=some (.string vc):=⟨zB b4 0,zB b4 1,zB b4 2⟩
    obtain⟨W5,hW5⟩:∃ W5,W5=w4.alloc (.cells (Dev.vals ⟨0,0,⟨#[]⟩,vo,zZ,⟨#[]⟩,⟨#[]⟩,2,1048576,none,0,0⟩) 34):=⟨_,rfl⟩
    have f5:Fr No w4 W5:=by rw[hW5];exact(Fr.refl _ _).alloc _
    have q5:W5.heap[w4.heap.size]?=some (.cells (Dev.vals ⟨0,0,⟨#[]⟩,vo,zZ,⟨#[]⟩,⟨#[]⟩,2,1048576,none,0,0⟩) 34):=by rw[hW5];exact zD _ _
    unfold Dev.vals at hW5;unfold zZ at hW5;dsimp only at hW5;clear hnum hf4 b2 k2 p2 x2
    go_upto_region 6 with(fail)
    rw[<-hW5];clear hW5 v0 v1 v2;have b5:=f5.heap b4 id;obtain⟨v0,v1,v2⟩:W5.cell? ⟨w.heap.size,0,none⟩=some (.string vq)/\W5.cell? ⟨w.heap.size,1,none⟩=some (.string vo)/\W5.cell? ⟨w.heap.size,2,none⟩=some (.string vc):=⟨zB b5 0,zB b5 1,zB b5 2⟩
    have y9:(W5.alloc (.cells #[.string ⟨#[99,111,110,116,101,110,116]⟩,.string vc] 50)).frozen? ⟨w4.heap.size,9,none⟩=false:=zC (((Fr.refl No W5).alloc _).heap q5 id) 9;have z9:(W5.alloc (.cells #[.string ⟨#[99,111,110,116,101,110,116]⟩,.string vc] 50)).cell? ⟨w4.heap.size,9,none⟩=some (.slice none 0 0):=zB (((Fr.refl No W5).alloc _).heap q5 id) 9;obtain⟨W6,hW6⟩:∃ W6,W6=W5.setCell ⟨w4.heap.size,9,none⟩ (.slice (some ⟨W5.heap.size,0,none⟩) 1 1):=⟨_,rfl⟩
    have f6:Fr (Is w4.heap.size) W5 W6:=by rw[hW6];exact Fr.setAt (Fr.refl _ _) _
    have q6:W6.heap[w4.heap.size]?=some (.cells (Dev.vals ⟨0,0,⟨#[]⟩,vo,zZ,⟨#[]⟩,⟨#[]⟩,2,1048576,some ⟨W5.heap.size,0,none⟩,1,1⟩) 34):=by rw[hW6];exact zF q5 9 _
    have hs6:W6.heap.size=W5.heap.size:=by rw[hW6];simp
    obtain⟨W7,hW7⟩:∃ W7,W7=W6.alloc (.cells #[.string zQ,.string vc] 50):=⟨_,rfl⟩
    have f7:Fr No W6 W7:=by rw[hW7];exact(Fr.refl _ _).alloc _
    have e7:W7.heap[W5.heap.size]?=some (.cells #[.string zQ,.string vc] 50):=by rw[<-hs6,hW7];exact zD _ _
    have q7:=f7.heap q6 id;have s5:=f5.size;have l5:=zE q5;have hvw:w.heap.size<w4.heap.size:=zE b4;have f57:Fr (Is w4.heap.size) W5 W7:=f6.step f7 (fun _ _ h=>h.elim);have x7:Fr No w W7:=(x4.step f5 (fun _ _ h=>h)).step f57 (fun b hb h=>by unfold Is at h;omega);have b7:=f57.heap b5 (fun h=>by unfold Is at h;omega);have k7:=f57.heap (f5.heap k4 id) (fun h=>by unfold Is at h;have:=zE k4;omega);have p7:=f57.heap (f5.heap p4 id) (fun h=>by unfold Is at h;have:=zE p4;omega);have s57:=f57.size;unfold zQ at hW7;clear q5 q6 f5 f6 f7 b4 k4 p4 b5 x4 hs6 f57
    go_upto_region 8 with(fail)
    rw[<-hW6,<-hW7];clear hW7 hW6 z9 y9 v0 v1 v2;have v0:W7.cell? ⟨w.heap.size,0,none⟩=some (.string vq):=zB b7 0;obtain⟨c0,c1,c2,c3,c4,c5,c6,c7,c8,c9⟩:=DevB.of q7;obtain⟨W8,hW8⟩:∃ W8,W8=W7.alloc (.cells (ocs 1 vq ⟨0,0,⟨#[]⟩,vo,zZ,⟨#[]⟩,⟨#[]⟩,2,1048576,some ⟨W5.heap.size,0,none⟩,1,1⟩ ⟨#[]⟩ ⟨#[]⟩) 69):=⟨_,rfl⟩
    have f8:Fr No W7 W8:=by rw[hW8];exact(Fr.refl _ _).alloc _
    have o8:W8.heap[W7.heap.size]?=some (.cells (ocs 1 vq ⟨0,0,⟨#[]⟩,vo,zZ,⟨#[]⟩,⟨#[]⟩,2,1048576,some ⟨W5.heap.size,0,none⟩,1,1⟩ ⟨#[]⟩ ⟨#[]⟩) 69):=by rw[hW8];exact zD _ _
    unfold ocs at hW8;dsimp only at hW8
    go_upto_region 9 with(fail)
    rw[<-hW8];clear hW8 v0 c0 c1 c2 c3 c4 c5 c6 c7 c8 c9;have q8:=f8.heap q7 id;have b8:=f8.heap b7 id;have k8:=f8.heap k7 id;have p8:=f8.heap p7 id;have e8:=f8.heap e7 id;have x8:=x7.step f8 (fun _ _ h=>h);have s8:=f8.size;have hVp:w.heap.size≠w4.heap.size/\Bp≠w4.heap.size/\pb≠w4.heap.size/\W5.heap.size≠w4.heap.size/\W7.heap.size≠w4.heap.size:=by
     have:=zE o8;refine⟨?_,?_,?_,?_,?_⟩<;>omega
    clear q7 b7 k7 p7 e7 f8 x7;refine zR (Is w4.heap.size) [(0,false),(1,false),(2,false),(3,false),(4,false),(5,false),(6,false),(7,true),(8,false),(9,true),(10,false),(11,true)] (by kernel_rfl) (by kernel_rfl) (fun wa hfa=>?_);have qa:=hfa.heap q8 id;have ba:=hfa.heap b8 id;have pa:=hfa.heap p8 id;have t1:∀ g:Gr (Is w4.heap.size) wa,g.W.cell? ⟨w.heap.size,1,none⟩=some (.string vo):=fun g=>zB (g.fr.heap ba (fun h=>hVp.1 h)) 1
    have t0:∀ g:Gr (Is w4.heap.size) wa,g.W.cell? ⟨Bp,0,none⟩=some (.int .i64 p):=fun g=>by rw[<-hB.out.2.1];exact zB (g.fr.heap pa (fun h=>hVp.2.1 h)) 0
    repeat (first | (apply zT;exact rfl;exact rfl;exact rfl;intro K hK;go_big_quiet_op;go_big_quiet_on) | (apply zW;exact rfl;exact rfl;exact rfl;intro K hK;go_big_quiet_op;go_big_quiet_on))
    clear t0 t1;apply zi;exact rfl;have y2:=zC qa 2;have z2:wa.cell? ⟨w4.heap.size,2,none⟩=some (.string ⟨#[]⟩):=(DevB.of qa).c2;obtain⟨wb,hwb⟩:∃ wb,wb=wa.setCell ⟨w4.heap.size,2,none⟩ (.string vo):=⟨_,rfl⟩
    have fb:Fr (Is w4.heap.size) wa wb:=by rw[hwb];exact Fr.setAt (Fr.refl _ _) _
    have qb:wb.heap[w4.heap.size]?=some (.cells (Dev.vals ⟨0,0,vo,vo,zZ,⟨#[]⟩,⟨#[]⟩,2,1048576,some ⟨W5.heap.size,0,none⟩,1,1⟩) 34):=by rw[hwb];exact zF qa 2 _
    go_wp2_with fail
    refine OnlyN.mk ⟨Fr.setAt (Fr.refl _ _) _,?_⟩;rw[<-hwb];clear hwb y2 z2 qa
    repeat (first | (apply zT;exact rfl;exact rfl;exact rfl;intro K hK;go_big_quiet_op;go_big_quiet_on) | (apply zW;exact rfl;exact rfl;exact rfl;intro K hK;go_big_quiet_op;go_big_quiet_on))
    apply zi;exact rfl;have y1:=zC qb 1;have z1:wb.cell? ⟨w4.heap.size,1,none⟩=some (.int .i64 0):=(DevB.of qb).c1;obtain⟨wd,hwd⟩:∃ wd,wd=wb.setCell ⟨w4.heap.size,1,none⟩ (.int .i64 p):=⟨_,rfl⟩
    have fd:Fr (Is w4.heap.size) wb wd:=by rw[hwd];exact Fr.setAt (Fr.refl _ _) _
    have qd:wd.heap[w4.heap.size]?=some (.cells (Dev.vals ⟨0,p,vo,vo,zZ,⟨#[]⟩,⟨#[]⟩,2,1048576,some ⟨W5.heap.size,0,none⟩,1,1⟩) 34):=by rw[hwd];exact zF qb 1 _
    go_wp2_with fail
    refine OnlyN.mk ⟨Fr.setAt (Fr.refl _ _) _,?_⟩;rw[<-hwd];clear hwd y1 z1 qb
    repeat (first | (apply zT;exact rfl;exact rfl;exact rfl;intro K hK;go_big_quiet_op;go_big_quiet_on) | (apply zW;exact rfl;exact rfl;exact rfl;intro K hK;go_big_quiet_op;go_big_quiet_on))
    apply zi;exact rfl;have y0:=zC qd 0;have z0:wd.cell? ⟨w4.heap.size,0,none⟩=some (.int .i64 0):=(DevB.of qd).c0;obtain⟨W9,hW9⟩:∃ W9,W9=wd.setCell ⟨w4.heap.size,0,none⟩ (.int .i64 (maxI ds+1)):=⟨_,rfl⟩
    have f9:Fr (Is w4.heap.size) wd W9:=by rw[hW9];exact Fr.setAt (Fr.refl _ _) _
    have q9:W9.heap[w4.heap.size]?=some (.cells (Dev.vals (newD ds p vo (some ⟨W5.heap.size,0,none⟩))) 34):=by rw[hW9];exact zF qd 0 _
    go_wp2_with fail
    refine OnlyN.mk ⟨Fr.setAt (Fr.refl _ _) _,?_⟩;rw[<-hW9];clear hW9 y0 z0 qd;refine zb ?_;have f89:Fr (Is w4.heap.size) W8 W9:=(((hfa.mono (fun _ _ h=>h.elim)).step fb (fun _ _ h=>h)).step fd (fun _ _ h=>h)).step f9 (fun _ _ h=>h);have k9:=f89.heap k8 (fun h=>hVp.2.2.1 h);have e9:=f89.heap e8 (fun h=>hVp.2.2.2.1 h);have o9:=f89.heap o8 (fun h=>hVp.2.2.2.2 h);have x9:Fr No w W9:=x8.step f89 (fun b hb h=>by unfold Is at h;omega);have s9w:=x9.size;have s89:=f89.size;have hAt:∀ W,(∃ o,W.heap[W5.heap.size]?=some (.cells #[.string zQ,.string vc] 50 o))->Atts W (some ⟨W5.heap.size,0,none⟩) 1 [(zQ,vc)]:=fun W hW=>by
     obtain⟨o,hW⟩:=hW;exact⟨by simp,by unfold maxLen;omega,(fun e=>by cases e),(fun x hx=>by simp at hx;subst hx;exact⟨(by decide:zQ.size<=maxLen),hcm⟩),fun ad e _=>by
      cases e;refine⟨rfl,zE hW,fun i x hi=>?_⟩;rcases i with _ | i
      ·simp at hi;subst hi;exact⟨zB hW 0,zB hW 1⟩
      ·simp at hi⟩
    have HAt:=Lib.hid hAt;have Hins:Hid (∀ W,Fr No W9 W->Calls Tryz.prog 89 #[.agg #[.slice a ds.length cap],.agg #[.int .i64 (maxI ds+1),.int .i64 p,.string vo,.string vo,.string zZ,.string ⟨#[]⟩,.string ⟨#[]⟩,.int .i64 2,.int .i64 1048576,.slice (some ⟨W5.heap.size,0,none⟩) 1 1]] W fun e w'=>zFQ W w' ds (newD ds p vo (some ⟨W5.heap.size,0,none⟩)) e/\Fr No W w'):=fun W hf=>
     zA8 a cap ds base (newD ds p vo (some ⟨W5.heap.size,0,none⟩)) [(zQ,vc)] m W (Hl.out.no (x9.step hf (fun _ _ h=>h))) (Hsz.out _) (hAt W ⟨_,hf.heap e9 id⟩) (by simp) rfl rfl rfl hpw (WalkArith.wf_i64 (by show _/\_;unfold newD;dsimp only;omega)) (Hok.out _) ((x9.step hf (fun _ _ h=>h)).cell Hm.out id) (by have:=hf.size;have:=HE.out.sz;omega)
    clear hAt q8 b8 k8 p8 e8 o8 x8 hfa fb fd f9 f89 ba pa;have HO9:=Lib.hid (And.intro o9 (And.intro e9 x9));unfold zZ at Hins;have hpw9:pb<w.heap.size:=hkl
    go_upto_region 10 with(fail)
    go_cut [12,13] (fun p12 v13 wy=>∃ Bt a' c' ds',p12=.pointer (some ⟨Bt,0,none⟩)/\v13=.int .i64 0/\Hid (wy.heap[Bt]?=some (.cells #[.slice a' (List.length (ds':List Dev)) c'] 28)/\W9.heap.size<=Bt)/\Fr No W9 wy)
    case first=>
     refine zY (fun b=>W9.heap.size<=b) (.q 0 (.q 1 (.q 2 (.q 3 (.q 4 (.m2 5 (.q 6 (.q 7 (.q 8 (.m1 9 (.m1 10 (.q 11 .fin)))))) 9 (.m1 5 (.q 6 (.q 7 (.q 8 (.m1 10 (.q 11 .fin)))))))))))) _ (by kernel_rfl) (by kernel_rfl) (fun W8 hf8=>?_) (fun _ _ h=>h);have s8:=hf8.size;have k8:=hf8.heap k9 id;have q8:=hf8.heap q9 id;have x8:=Lib.hid (x9.step hf8 (fun _ _ h=>h));have t0:∀ g:Gr (fun b=>W9.heap.size<=b) W8,g.W.cell? ⟨pb,0,none⟩=some (.slice a ds.length cap):=fun g=>zB (g.fr.heap k8 (fun h=>by omega)) 0
     have cB:∀ g:Gr (fun b=>W9.heap.size<=b) W8,DevB g.W w4.heap.size (newD ds p vo (some ⟨W5.heap.size,0,none⟩)):=fun g=>DevB.of (g.fr.heap q8 (fun h=>by omega))
     have c0:=fun g=>(cB g).c0
     have c1:=fun g=>(cB g).c1
     have c2:=fun g=>(cB g).c2
     have c3:=fun g=>(cB g).c3
     have c4:=fun g=>(cB g).c4
     have c5:=fun g=>(cB g).c5
     have c6:=fun g=>(cB g).c6
     have c7:=fun g=>(cB g).c7
     have c8:=fun g=>(cB g).c8
     have c9:=fun g=>(cB g).c9
     clear cB;unfold newD at c0 c1 c2 c3 c4 c5 c6 c7 c8 c9;dsimp only at c0 c1 c2 c3 c4 c5 c6 c7 c8 c9
     repeat (first | (apply zM;exact rfl;exact rfl;exact rfl;intro K hK;go_big_quiet_op;go_big_quiet_on) | (apply zO;exact rfl;exact rfl;exact rfl;intro K hK;go_big_quiet_op;go_big_quiet_on))
     clear t0 c0 c1 c2 c3 c4 c5 c6 c7 c8 c9;refine zh rfl rfl ?_ ?_
     focus
      have hcall:=Hins.out W8 hf8
      go_wp2_with fail
      refine hcall.mono ?_;rintro e wA9 ⟨hR,hf9⟩;clear hcall;obtain⟨a',c',ds',rfl,-⟩:=hR;have s9:=hf9.size
      go_wp2_with fail
      refine OnlyN.mk ⟨hf9.mono (fun _ _ h=>h.elim),?_⟩
      repeat (first | (apply zM;exact rfl;exact rfl;exact rfl;intro K hK;go_big_quiet_op;go_big_quiet_on) | (apply zO;exact rfl;exact rfl;exact rfl;intro K hK;go_big_quiet_op;go_big_quiet_on))
      apply zH;exact rfl;obtain⟨WA,hWA⟩:∃ WA,WA=wA9.alloc (.cells #[.slice none 0 0] 28):=⟨_,rfl⟩
      have fA:Fr No wA9 WA:=by rw[hWA];exact(Fr.refl _ _).alloc _
      have qA:WA.heap[wA9.heap.size]?=some (.cells #[.slice none 0 0] 28):=by rw[hWA];exact zD _ _
      go_wp2_with fail
      refine OnlyN.mk ⟨((Fr.refl No _).alloc _).mono (fun _ _ h=>h.elim),?_⟩;rw[<-hWA];clear hWA;have hfin:Hid (Fr No W9 WA):=(hf8.step hf9 (fun _ _ h=>h)).step fA (fun _ _ h=>h);have hB2:Hid (W9.heap.size<=wA9.heap.size):=by unfold Hid;omega
      generalize wA9.heap.size=Bt at *
     rotate_left 1
     focus
      obtain⟨WB,hWB⟩:∃ WB,WB=W8.alloc (.cells #[.slice none 0 0] 28):=⟨_,rfl⟩
      have f9:Fr No W8 WB:=by rw[hWB];exact(Fr.refl _ _).alloc _
      have qb9:WB.heap[W8.heap.size]?=some (.cells #[.slice none 0 0] 28):=by rw[hWB];exact zD _ _
      go_wp2_with fail
      refine OnlyN.mk ⟨((Fr.refl No _).alloc _).mono (fun _ _ h=>h.elim),?_⟩;rw[<-hWB];clear hWB;have xB9:=Lib.hid (x8.out.step f9 (fun _ _ h=>h));have hcall:=Hins.out WB (hf8.step f9 (fun _ _ h=>h));apply zH;exact rfl
      go_wp2_with fail
      refine hcall.mono ?_;rintro e WA ⟨hR,hfA⟩;clear hcall;obtain⟨a',c',ds',rfl,-⟩:=hR;have s9:=f9.size;have qA:=hfA.heap qb9 id;have hfin:Hid (Fr No W9 WA):=(hf8.step f9 (fun _ _ h=>h)).step hfA (fun _ _ h=>h);have hB2:Hid (W9.heap.size<=W8.heap.size):=s8;clear qb9
      go_wp2_with fail
      refine OnlyN.mk ⟨hfA.mono (fun _ _ h=>h.elim),?_⟩
      repeat (first | (apply zM;exact rfl;exact rfl;exact rfl;intro K hK;go_big_quiet_op;go_big_quiet_on) | (apply zO;exact rfl;exact rfl;exact rfl;intro K hK;go_big_quiet_op;go_big_quiet_on))
      generalize W8.heap.size=Bt at *
     all_goals (
      apply zH;exact rfl;have y0:=zC qA 0;have z0:WA.cell? ⟨Bt,0,none⟩=some (.slice none 0 0):=zB qA 0;have fB:Fr (Is Bt) WA (WA.setCell ⟨Bt,0,none⟩ (.slice a' ds'.length c')):=Fr.setAt (Fr.refl _ _) _;have qB:=zF qA 0 (.slice a' ds'.length c');have Hf7:Hid (Fr No W9 (WA.setCell ⟨Bt,0,none⟩ (.slice a' ds'.length c'))):=hfin.out.step fB (fun b hb h=>by have:=hB2.out;unfold Is at h;omega);have HqB:=Lib.hid qB;clear qB fB qA
      go_wp2_with fail
      refine OnlyN.mk ⟨Fr.setCell (Fr.refl _ _) (fun _=>hB2.out) _,?_⟩
      repeat (first | (apply zM;exact rfl;exact rfl;exact rfl;intro K hK;go_big_quiet_op;go_big_quiet_on) | (apply zO;exact rfl;exact rfl;exact rfl;intro K hK;go_big_quiet_op;go_big_quiet_on))
      refine zS ?_
      go_wp2_with fail
      go_meet
      exact⟨Bt,a',c',ds',rfl,rfl,⟨HqB.out,hB2.out⟩,Hf7.out⟩
      )
    case rest=>
     obtain⟨Bt,a',c',ds',rfl,rfl,hBt,hf12⟩:=hcut;have kq:=hf12.heap k9 id;have oq:=hf12.heap HO9.out.1 id;have eq9:=hf12.heap HO9.out.2.1 id;have tq:=hBt.out.1;have xq:=x9.step hf12 (fun _ _ h=>h);have sq:=hf12.size;have hBt2:=hBt.out.2;have htl:=zE tq;have hol:=zE HO9.out.1;obtain⟨wq,hwq⟩:∃ wq,wq=wc:=⟨_,rfl⟩
     rw[<-hwq]at kq oq eq9 tq xq sq htl;have HXQ:=Lib.hid (And.intro xq eq9);have hwsq:=xq.size;have hel:=zE eq9;have hae:w.heap.size<=W5.heap.size:=by omega
     have HFINAL:Hid (∀ W3,Fr No wq W3->∀ w6 a' n' c' (av:Option Addr) cv,Fr (Is pb) W3 w6->w6.heap[pb]?=some (.cells #[.slice a' n' c',.slice av (0+1) cv] 135)->w6.ownsRow w.heap.size 69 14 (.slice av (0+1) cv) (0+1) (ocs 1 vq ⟨0,0,⟨#[]⟩,vo,zZ,⟨#[]⟩,⟨#[]⟩,2,1048576,some ⟨W5.heap.size,0,none⟩,1,1⟩ ⟨#[]⟩ ⟨#[]⟩).toList->
   (∃ (bt:Nat) (a':Option Addr) (n' c':Nat) (av:Option Addr) (cv:Nat),w6.heap[pb]?=some (.cells #[.slice a' n' c',.slice av 1 cv] 135)/\w6.ownsRow w.heap.size 69 14 (.slice av 1 cv) 1 (ocs 1 vq ⟨0,0,⟨#[]⟩,vo,zZ,⟨#[]⟩,⟨#[]⟩,2,1048576,some ⟨bt,0,none⟩,1,1⟩ ⟨#[]⟩ ⟨#[]⟩).toList/\
    Atts w6 (some ⟨bt,0,none⟩) 1 [(zQ,vc)]/\BlkT w6 (some ⟨bt,0,none⟩) 50/\w.heap.size<=bt)/\Fr (Is pb) w w6):=by
      intro W3 hf3 w6 a' n' c' av cv hf6 hk6 ho6;have e6:=hf6.heap (hf3.heap HXQ.out.2 id) (fun h=>by unfold Is at h;omega);exact⟨⟨W5.heap.size,a',n',c',av,cv,hk6,ho6,HAt.out _ ⟨_,e6⟩,fun ad e=>by cases e;exact⟨_,e6⟩,hae⟩,((HXQ.out.1.step hf3 (fun _ _ h=>h)).mono (fun _ _ h=>h.elim)).step hf6 (fun _ _ h=>h)⟩
     clear hBt hf12 xq eq9 HAt
     go_upto_region 12 with(fail)
     rw[<-hwq];clear hwq;refine zY (fun b=>b=pb\/wq.heap.size<=b) (.q 0 (.q 1 (.q 2 (.q 3 (.q 4 (.q 6 (.q 9 (.m2 5 (.m1 7 (.m1 8 (.q 10 (.q 11 (.m1 12 (.q 13 (.q 14 (.m1 15 .fin)))))))) 7 (.m1 5 (.m1 8 (.q 10 (.q 11 (.m1 12 (.q 13 (.q 14 (.m1 15 .fin)))))))))))))))) _ (by kernel_rfl) (by kernel_rfl) (fun W3 hf3=>?_) (fun _ _ h=>h);have kp3:=hf3.heap kq id;have o3:=hf3.heap oq id;have t3:=hf3.heap tq id;have HF3:=Lib.hid hf3;have hs3:Hid (w.heap.size<=W3.heap.size):=by have:=hf3.size;unfold Hid;omega
     have cO:∀ g:Gr (fun b=>b=pb\/wq.heap.size<=b) W3,OpB g.W W7.heap.size 1 vq ⟨0,0,⟨#[]⟩,vo,zZ,⟨#[]⟩,⟨#[]⟩,2,1048576,some ⟨W5.heap.size,0,none⟩,1,1⟩ ⟨#[]⟩ ⟨#[]⟩:=fun g=>OpB.of (g.fr.heap o3 (fun h=>by omega))
     have c0:=fun g=>(cO g).c0
     have c1:=fun g=>(cO g).c1
     have c2:=fun g=>(cO g).c2
     have c3:=fun g=>(cO g).c3
     have c4:=fun g=>(cO g).c4
     have c5:=fun g=>(cO g).c5
     have c6:=fun g=>(cO g).c6
     have c7:=fun g=>(cO g).c7
     have c8:=fun g=>(cO g).c8
     have c9:=fun g=>(cO g).c9
     have c10:=fun g=>(cO g).c10
     have c11:=fun g=>(cO g).c11
     have c12:=fun g=>(cO g).c12
     have c13:=fun g=>(cO g).c13
     have t0:∀ g:Gr (fun b=>b=pb\/wq.heap.size<=b) W3,g.W.cell? ⟨Bt,0,none⟩=some (.slice a' (List.length ds') c'):=fun g=>zB (g.fr.heap t3 (fun h=>by omega)) 0
     clear cO o3 t3 hf3;dsimp only at c0 c1 c2 c3 c4 c5 c6 c7 c8 c9 c10 c11 c12 c13
     repeat (first | (apply zM;exact rfl;exact rfl;exact rfl;intro K hK;go_big_quiet_op;go_big_quiet_on) | (apply zO;exact rfl;exact rfl;exact rfl;intro K hK;go_big_quiet_op;go_big_quiet_on))
     clear t0 c0 c1 c2 c3 c4 c5 c6 c7 c8 c9 c10 c11 c12 c13;have c5:W3.cell? ⟨pb,1,none⟩=some (.slice none 0 0):=zB kp3 1;refine zh rfl rfl ?_ ?_
     focus
      go_wp2_with fail
      refine OnlyN.mk ⟨Fr.refl _ _,?_⟩;apply zH;exact rfl;clear c5
      go_wp2_with fail
      refine OnlyN.mk ⟨((Fr.refl No _).alloc _).mono (fun _ _ h=>h.elim),?_⟩
     rotate_left 1
     focus
      go_wp2_with fail
      refine OnlyN.mk ⟨((Fr.refl No _).alloc _).mono (fun _ _ h=>h.elim),?_⟩;apply zH;exact rfl;have c7:∀ o,(W3.alloc o).cell? ⟨pb,1,none⟩=some (.slice none 0 0):=fun o=>((Fr.refl No W3).alloc o).cell c5 id
      clear c5
      go_wp2_with fail
      refine OnlyN.mk ⟨Fr.refl _ _,?_⟩;clear c7
     all_goals (
      apply zH;exact rfl
      go_wp2_with (at_builtin;refine wpList_append_own_at _ rfl _ _ 76 rfl w.heap.size 69 i0 (.agg #[.int .i64 0,.string ByteArray.empty,.int .i64 0,.int .i64 0,.string ByteArray.empty,.string ByteArray.empty,.string ByteArray.empty,.string ByteArray.empty,.string ByteArray.empty,.int .i64 0,.int .i64 0,.slice none 0 0,.string ByteArray.empty,.string ByteArray.empty]) 14 192 Tryz.underlying76 hi0 hz0 hz1 hz2 rfl (by decide) _ _ _ rfl ((World.ownsRow_nil _ _ _ _:W3.ownsRow w.heap.size 69 14 (.slice none 0 0) 0 []).alloc _) ⟨W3.heap.size,0,none⟩ 1 1 (ocs 1 vq ⟨0,0,⟨#[]⟩,vo,zZ,⟨#[]⟩,⟨#[]⟩,2,1048576,some ⟨W5.heap.size,0,none⟩,1,1⟩ ⟨#[]⟩ ⟨#[]⟩).toList rfl rfl (zX _ (ocs 1 vq ⟨0,0,⟨#[]⟩,vo,zZ,⟨#[]⟩,⟨#[]⟩,2,1048576,some ⟨W5.heap.size,0,none⟩,1,1⟩ ⟨#[]⟩ ⟨#[]⟩) _ rfl) (zGX _ _ _ _ _) (by unfold maxLen;omega) (by omega) (by have:=hs3.out;rw[World.size_alloc];omega) ?_;intro v' w4' hown4 hgrow4 _ hat4;obtain⟨av',cv',rfl⟩:=zG hown4)
      have hal:Fr No W3 (W3.alloc (.cells (ocs 1 vq ⟨0,0,⟨#[]⟩,vo,zZ,⟨#[]⟩,⟨#[]⟩,2,1048576,some ⟨W5.heap.size,0,none⟩,1,1⟩ ⟨#[]⟩ ⟨#[]⟩) 69)):=(Fr.refl _ _).alloc _;have hg4:Fr (fun b=>(Value.slice none 0 0).ownBlock=some b) (W3.alloc (.cells (ocs 1 vq ⟨0,0,⟨#[]⟩,vo,zZ,⟨#[]⟩,⟨#[]⟩,2,1048576,some ⟨W5.heap.size,0,none⟩,1,1⟩ ⟨#[]⟩ ⟨#[]⟩) 69)) w4':=Fr.of_grown hgrow4;have h34:Fr No W3 w4':=hal.step hg4 (fun b _ h=>by cases h);have kp4:=h34.heap kp3 id;have f1:=zC kp4 1;have z1:w4'.cell? ⟨pb,1,none⟩=some (.slice none 0 0):=zB kp4 1;refine OnlyN.mk ⟨hg4.mono (fun b _ h=>by cases h),?_⟩
      repeat (first | (apply zM;exact rfl;exact rfl;exact rfl;intro K hK;go_big_quiet_op;go_big_quiet_on) | (apply zO;exact rfl;exact rfl;exact rfl;intro K hK;go_big_quiet_op;go_big_quiet_on))
      apply zH;exact rfl;obtain⟨w5',hw5'⟩:∃ w5',w5'=w4'.setCell ⟨pb,1,none⟩ (.slice av' (0+1) cv'):=⟨_,rfl⟩
      have g5:Fr (Is pb) w4' w5':=by rw[hw5'];exact Fr.setAt (Fr.refl _ _) _
      have kp5:w5'.heap[pb]?=some (.cells #[.slice a ds.length cap,.slice av' (0+1) cv'] 135):=by rw[hw5'];exact zF kp4 1 _
      go_wp2_with fail
      refine OnlyN.mk ⟨Fr.setCell (Fr.refl _ _) (fun _=>.inl rfl) _,?_⟩;rw[<-hw5'];clear hw5' f1 z1
      repeat (first | (apply zM;exact rfl;exact rfl;exact rfl;intro K hK;go_big_quiet_op;go_big_quiet_on) | (apply zO;exact rfl;exact rfl;exact rfl;intro K hK;go_big_quiet_op;go_big_quiet_on))
      apply zH;exact rfl;have f0:=zC kp5 0;have z0:w5'.cell? ⟨pb,0,none⟩=some (.slice a ds.length cap):=zB kp5 0;obtain⟨w6',hw6'⟩:∃ w6',w6'=w5'.setCell ⟨pb,0,none⟩ (.slice a' (List.length ds') c'):=⟨_,rfl⟩
      have g6:Fr (Is pb) w5' w6':=by rw[hw6'];exact Fr.setAt (Fr.refl _ _) _
      have kp6:w6'.heap[pb]?=some (.cells #[.slice a' (List.length ds') c',.slice av' (0+1) cv'] 135):=by rw[hw6'];exact zF kp5 0 _
      go_wp2_with fail
      refine OnlyN.mk ⟨Fr.setCell (Fr.refl _ _) (fun _=>.inl rfl) _,?_⟩;rw[<-hw6'];clear hw6' f0 z0;refine zS ?_;have H36:Hid (Fr (Is pb) W3 w6'):=((h34.mono (fun _ _ h=>h.elim)).step g5 (fun _ _ h=>h)).step g6 (fun _ _ h=>h);have HKP:=Lib.hid kp6;have g46:Fr (Is pb) w4' w6':=g5.step g6 (fun _ _ h=>h);have HOW:Hid (w6'.ownsRow w.heap.size 69 14 (.slice av' (0+1) cv') (0+1) (ocs 1 vq ⟨0,0,⟨#[]⟩,vo,zZ,⟨#[]⟩,⟨#[]⟩,2,1048576,some ⟨W5.heap.size,0,none⟩,1,1⟩ ⟨#[]⟩ ⟨#[]⟩).toList):=by
       have:=zJ hown4 g46 (fun b hb h=>zf hown4 kp4 (by decide) (by unfold Is at h;rw[<-h];exact hb));exact this
      clear hown4 hgrow4 hat4 hg4 hal h34 kp4 kp5 g5 g6 g46 kp6
      go_wp2_with fail
      go_end0
      exact⟨rfl,HFINAL.out W3 HF3.out _ _ _ _ _ _ H36.out HKP.out HOW.out⟩
      )
end Go.Proofs.YtmajgldaplkpiaaGreatDoor
