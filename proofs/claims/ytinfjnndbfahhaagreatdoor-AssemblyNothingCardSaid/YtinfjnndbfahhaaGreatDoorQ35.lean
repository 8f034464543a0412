import Derived.Test.YtinfjnndbfahhaaGreatDoorQ34
namespace Go.Proofs.YtinfjnndbfahhaaGreatDoor
open Go.RowKit Go.Maps
set_option linter.unusedVariables false
set_option maxRecDepth 100000
set_option maxHeartbeats 8000000
theorem infoOp : (Tryz.prog.info? 38).map (fun i=>(i.zero,i.size,i.bytes))=some (some (.agg #[.int .i64 0,.string ByteArray.empty,.int .i64 0,.int .i64 0,.string ByteArray.empty,.string ByteArray.empty,.string ByteArray.empty,.string ByteArray.empty,.string ByteArray.empty,.int .i64 0,.int .i64 0,.slice none 0 0,.string ByteArray.empty,.string ByteArray.empty]),14,192):=by kernel_rfl
theorem zDi (k:Int)(f:ByteArray)(x:Dev)(nm h:ByteArray):∀ u∈(ocs k f x nm h).toList,u.oneCell'=true:=by
 intro u g;unfold ocs at g;simp at g;rcases g with rfl | rfl | rfl | rfl | rfl | rfl | rfl | rfl | rfl | rfl | rfl | rfl | rfl | rfl<;>rfl
def newD (ds:List Dev)(p:Int)(vo:ByteArray)(aa:Option Addr):Dev:=⟨maxI ds+1,p,vo,vo,zT,⟨#[]⟩,⟨#[]⟩,2,1048576,aa,1,1⟩
theorem zLq (L a7:Nat)(a:Option Addr)(O:Nat)(ds:List Dev)(J z Y:ByteArray)(vr p m:Int)(w:World)(hl:Tr w a7 a O ds)(hn:ds.length<=250)(hE:Env w)
  (h4:w.heap[L]?=some (.cells #[.slice a ds.length O,.slice none 0 0] 135)) (hp:ParIs ds J p) (i9:ds.find? (atP ds (J++(⟨#[47]⟩:ByteArray)++z))=none)
  (hq:J.size<=100000) (ho:z.size<=100000) (hc:Y.toList.isEmpty=false) (p0:Y.size<=100000) (hu:usedF ds 1048576=false) (j0:∀ d∈ds,(Lit.int .i64 d.num).wf=true) (p3:0<=maxI ds/\maxI ds<=1000000) (l8:(Lit.int .i64 p).wf=true)
  (j1:∀ aa,InsOk ds (newD ds p z aa) [(zN,Y)]) (j2:∀ aa,Sized (newD ds p z aa)) (hm:w.cell? ⟨0,0,none⟩=some (.int .i64 m)):
  Calls Tryz.prog 68 #[.pointer (some ⟨L,0,none⟩),.agg #[.string J,.string z,.string Y,.int .i64 vr]] w fun e w'=>e=.returned (.tuple #[])/\
   (∃ (bt:Nat) (N:Option Addr) (n' c':Nat) (av:Option Addr) (cv:Nat),w'.heap[L]?=some (.cells #[.slice N n' c',.slice av 1 cv] 135)/\w'.ownsRow w.heap.size 38 14 (.slice av 1 cv) 1 (ocs 1 J ⟨0,0,⟨#[]⟩,z,zT,⟨#[]⟩,⟨#[]⟩,2,1048576,some ⟨bt,0,none⟩,1,1⟩ ⟨#[]⟩ ⟨#[]⟩).toList/\
    Atts w' (some ⟨bt,0,none⟩) 1 [(zN,Y)]/\BlkT w' (some ⟨bt,0,none⟩) 76/\w.heap.size<=bt)/\Fr (Is L) w w':=by
 obtain⟨i0,l9,m0,m3,m4⟩:=info_parts infoOp;obtain⟨W0,e3⟩:∃ W0,W0=w.alloc (.cells #[.string J,.string z,.string Y,.int .i64 vr] 94):=⟨_,rfl⟩
 have x0:Fr No w W0:=by rw[e3];exact(Fr.refl _ _).alloc _
 have b0:W0.heap[w.heap.size]?=some (.cells #[.string J,.string z,.string Y,.int .i64 vr] 94):=by rw[e3];exact zD _ _
 have h5:=x0.heap h4 id;have m5:=zC h4;have j3:=fun (s:ByteArray) (W:World) (hf:Fr No w W)=>zD0 a O ds a7 s W (hl.no hf) (by omega)
 have e4:=zh j3;have Hl:=zh hl;have HE:=zh hE;have Hp:=zh hp;have j4:=zh i9;have m6:=zh j1;have m7:=zh j2;have Hm:=zh hm;have Hu:=zh (And.intro hu j0);have m8:Y.size<=maxLen:=by unfold maxLen;omega
 clear j3 hl hE hp i9 j1 j2 hm hu j0 h4;have p5:(J++(⟨#[47]⟩:ByteArray)).size<=9223372036854775807:=by rw[ByteArray.size_append];show J.size+1<=_;omega
 have p9:(J++(⟨#[47]⟩:ByteArray)++z).size<=9223372036854775807:=by rw[ByteArray.size_append,ByteArray.size_append];show J.size+1+z.size<=_;omega
 go_enter Tryz.func68,Tryz.ntmps68
 go_upto_region 1 with(fail)
 rw[<-e3];clear e3
 go_cut [4,5] (fun p4 b5 wx=>∃ Bp V bb,p4=.pointer (some ⟨Bp,0,none⟩)/\b5=.bool bb/\Hid (wx.heap[Bp]?=some (.cells (Dev.vals V) 36)/\V.index=p/\(bb=true\/J=⟨#[]⟩)/\w.heap.size<Bp)/\Fr No W0 wx)
 case first=>
  refine zb (fun b=>W0.heap.size<=b) (.q 0 (.q 1 (.q 2 (.q 3 (.q 4 (.q 5 (.m2 6 (.q 7 (.q 8 (.q 9 (.m1 10 (.m1 11 (.q 12 .fin)))))) 10 (.m1 6 (.q 7 (.q 8 (.q 9 (.m1 11 (.q 12 .fin))))))))))))) _ (by kernel_rfl) (by kernel_rfl) (fun W1 A=>?_) zj;have b1:=A.heap b0 id;have k1:=A.heap h5 id;have m9:=zC b0;have t0:∀ g:Gr (fun b=>W0.heap.size<=b) W1,g.W.cell? ⟨L,0,none⟩=some (.slice a ds.length O):=fun g=>zB (g.fr.heap k1 (fun h=>by omega)) 0
  have t1:∀ g:Gr (fun b=>W0.heap.size<=b) W1,g.W.cell? ⟨w.heap.size,0,none⟩=some (.string J):=fun g=>zB (g.fr.heap b1 (fun h=>by omega)) 0
  have j5:=A.size;have x1:=zh (x0.step A zi)
  repeat((first|apply zM rfl rfl rfl|apply zO rfl rfl rfl);intro K hK;go_big_quiet_op;go_big_quiet_on)
  clear t0 t1;refine zv rfl rfl ?_ ?_
  focus
   have f:=e4.out J W1 x1.out
   go_wp2_with fail
   refine f.mono ?_;rintro e w2 ⟨hF,u⟩;clear f;obtain⟨V,bb,rfl,d4,d5⟩:∃ V bb,e=.returned (.tuple #[.agg (Dev.vals V),.bool bb])/\V.index=p/\(bb=true\/J=⟨#[]⟩):=by
    rcases hF with⟨F,rfl⟩ | ⟨d,N,c',l',F,rfl,_⟩
    ·rcases Hp.out with⟨_,U,h3⟩ | ⟨d,U,_⟩
     ·exact⟨Dev.zero,false,rfl,h3.symm,.inr U⟩
     ·rw[F]at U;cases U
    ·rcases Hp.out with⟨U,_⟩ | ⟨d',U,h3⟩
     ·rw[F]at U;cases U
     ·rw[F]at U;cases U;exact⟨{ d with aa:=N,ac:=c' },true,rfl,h3.symm,.inl rfl⟩
   have h6:=zh (And.intro d4 d5);clear d4 d5;unfold Dev.vals
   go_wp2_with fail
   refine zm u ?_
   repeat((first|apply zM rfl rfl rfl|apply zO rfl rfl rfl);intro K hK;go_big_quiet_op;go_big_quiet_on)
   apply zH;exact rfl;obtain⟨y,C⟩:∃ y,y=w2.alloc (.cells #[.int .i64 0,.int .i64 0,.string ⟨#[]⟩,.string ⟨#[]⟩,.string ⟨#[]⟩,.string ⟨#[]⟩,.string ⟨#[]⟩,.int .i64 0,.int .i64 0,.slice none 0 0] 36):=⟨_,rfl⟩
   have f3:Fr No w2 y:=by rw[C];exact(Fr.refl _ _).alloc _
   have q3:y.heap[w2.heap.size]?=some (.cells #[.int .i64 0,.int .i64 0,.string ⟨#[]⟩,.string ⟨#[]⟩,.string ⟨#[]⟩,.string ⟨#[]⟩,.string ⟨#[]⟩,.int .i64 0,.int .i64 0,.slice none 0 0] 36):=by rw[C];exact zD _ _
   have HX:Hid (Fr No W0 y):=(A.step u zi).step f3 zi;have j6:=u.size
   go_wp2_with fail
   refine zp ?_;rw[<-C];clear C f3
  rotate_left 1
  focus
   obtain⟨y,C⟩:∃ y,y=W1.alloc (.cells #[.int .i64 0,.int .i64 0,.string ⟨#[]⟩,.string ⟨#[]⟩,.string ⟨#[]⟩,.string ⟨#[]⟩,.string ⟨#[]⟩,.int .i64 0,.int .i64 0,.slice none 0 0] 36):=⟨_,rfl⟩
   have f3:Fr No W1 y:=by rw[C];exact(Fr.refl _ _).alloc _
   have q2:y.heap[W1.heap.size]?=some (.cells #[.int .i64 0,.int .i64 0,.string ⟨#[]⟩,.string ⟨#[]⟩,.string ⟨#[]⟩,.string ⟨#[]⟩,.string ⟨#[]⟩,.int .i64 0,.int .i64 0,.slice none 0 0] 36):=by rw[C];exact zD _ _
   go_wp2_with fail
   refine zp ?_;rw[<-C];clear C;have f:=e4.out J y (x1.out.step f3 zi);apply zH;exact rfl
   go_wp2_with fail
   refine f.mono ?_;rintro e w2 ⟨hF,u⟩;clear f;obtain⟨V,bb,rfl,d4,d5⟩:∃ V bb,e=.returned (.tuple #[.agg (Dev.vals V),.bool bb])/\V.index=p/\(bb=true\/J=⟨#[]⟩):=by
    rcases hF with⟨F,rfl⟩ | ⟨d,N,c',l',F,rfl,_⟩
    ·rcases Hp.out with⟨_,U,h3⟩ | ⟨d,U,_⟩
     ·exact⟨Dev.zero,false,rfl,h3.symm,.inr U⟩
     ·rw[F]at U;cases U
    ·rcases Hp.out with⟨U,_⟩ | ⟨d',U,h3⟩
     ·rw[F]at U;cases U
     ·rw[F]at U;cases U;exact⟨{ d with aa:=N,ac:=c' },true,rfl,h3.symm,.inl rfl⟩
   have h6:=zh (And.intro d4 d5);clear d4 d5;unfold Dev.vals;have q3:=u.heap q2 id;have HX:Hid (Fr No W0 w2):=(A.step f3 zi).step u zi;clear q2 f3
   go_wp2_with fail
   refine zm u ?_
   repeat((first|apply zM rfl rfl rfl|apply zO rfl rfl rfl);intro K hK;go_big_quiet_op;go_big_quiet_on)
  all_goals (
   apply zH;exact rfl;obtain⟨z0,z1,z2,z3,z4,z5,z6,z7,z8,z9⟩:=DevB.of (d:=⟨0,0,⟨#[]⟩,⟨#[]⟩,⟨#[]⟩,⟨#[]⟩,⟨#[]⟩,0,0,none,0,0⟩) q3;obtain⟨y0,y1,y2,y3,y4,y5,y6,y7,y8,y9⟩:=DevF.of q3;have b6:=zh (zBF q3 rfl V);have n0:=zC q3;clear q3
   go_wp2_with fail
   refine OnlyN.mk ⟨b6.out.2.mono (fun b _ h=>by unfold Is at h;omega),?_⟩
   repeat((first|apply zM rfl rfl rfl|apply zO rfl rfl rfl);intro K hK;go_big_quiet_op;go_big_quiet_on)
   refine zX ?_
   go_wp2_with fail
   go_meet
   exact⟨_,V,bb,rfl,rfl,⟨b6.out.1,h6.out.1,h6.out.2,by omega⟩,(HX.out.step b6.out.2 (fun b hb h=>by unfold Is at h;omega))⟩
   )
 case rest=>
  obtain⟨Bp,V,bb,rfl,rfl,hB,A⟩:=hcut;have h7:Fr No w wc:=x0.step A zi;have h8:=A.heap b0 id;have h9:=A.heap h5 id;have p1:=hB.out.1;have m9:=zC b0;have j5:=A.size;have q0:=zC p1;have q1:=hB.out.2.2.2;clear b0 h5 A
  go_upto_region 2 with(fail)
  go_cut [6,7] (fun p6 b7 wx=>(∃ Bq,p6=.pointer (some ⟨Bq,0,none⟩))/\b7=.bool false/\Fr No wc wx)
  case first=>
   refine zb (fun b=>wc.heap.size<=b) (.q 0 (.q 1 (.q 2 (.q 3 (.q 4 (.q 5 (.q 6 (.q 7 (.q 8 (.q 9 (.m2 10 (.q 11 (.q 12 (.q 13 (.m1 14 (.m1 15 (.q 16 .fin)))))) 14 (.m1 10 (.q 11 (.q 12 (.q 13 (.m1 15 (.q 16 .fin))))))))))))))))) _ (by kernel_rfl) (by kernel_rfl) (fun W1 A=>?_) zj;have b1:=A.heap h8 id;have k1:=A.heap h9 id;have t0:∀ g:Gr (fun b=>wc.heap.size<=b) W1,g.W.cell? ⟨L,0,none⟩=some (.slice a ds.length O):=fun g=>zB (g.fr.heap k1 (fun h=>by omega)) 0
   have t1:∀ g:Gr (fun b=>wc.heap.size<=b) W1,g.W.cell? ⟨w.heap.size,0,none⟩=some (.string J):=fun g=>zB (g.fr.heap b1 (fun h=>by omega)) 0
   have t2:∀ g:Gr (fun b=>wc.heap.size<=b) W1,g.W.cell? ⟨w.heap.size,1,none⟩=some (.string z):=fun g=>zB (g.fr.heap b1 (fun h=>by omega)) 1
   have j5:=A.size;have x1:=zh (h7.step A zi)
   repeat((first|apply zM rfl rfl rfl|apply zO rfl rfl rfl);intro K hK;go_big_quiet_op;go_big_quiet_on)
   clear t0 t1 t2;refine zv rfl rfl ?_ ?_
   focus
    have f:=e4.out (J++(⟨#[47]⟩:ByteArray)++z) W1 x1.out
    go_wp2_with fail
    refine f.mono ?_;rintro e w2 ⟨hF,u⟩;clear f;obtain⟨V,rfl⟩:∃ V,e=.returned (.tuple #[.agg (Dev.vals V),.bool false]):=by
     rcases hF with⟨F,rfl⟩ | ⟨d,N,c',l',F,rfl,_⟩
     ·exact⟨Dev.zero,rfl⟩
     ·rw[j4.out]at F;cases F
    unfold Dev.vals
    go_wp2_with fail
    refine zm u ?_
    repeat((first|apply zM rfl rfl rfl|apply zO rfl rfl rfl);intro K hK;go_big_quiet_op;go_big_quiet_on)
    apply zH;exact rfl;obtain⟨y,C⟩:∃ y,y=w2.alloc (.cells #[.int .i64 0,.int .i64 0,.string ⟨#[]⟩,.string ⟨#[]⟩,.string ⟨#[]⟩,.string ⟨#[]⟩,.string ⟨#[]⟩,.int .i64 0,.int .i64 0,.slice none 0 0] 36):=⟨_,rfl⟩
    have f3:Fr No w2 y:=by rw[C];exact(Fr.refl _ _).alloc _
    have q3:y.heap[w2.heap.size]?=some (.cells #[.int .i64 0,.int .i64 0,.string ⟨#[]⟩,.string ⟨#[]⟩,.string ⟨#[]⟩,.string ⟨#[]⟩,.string ⟨#[]⟩,.int .i64 0,.int .i64 0,.slice none 0 0] 36):=by rw[C];exact zD _ _
    have HX:Hid (Fr No wc y):=(A.step u zi).step f3 zi;have j6:=u.size
    go_wp2_with fail
    refine zp ?_;rw[<-C];clear C f3
   rotate_left 1
   focus
    obtain⟨y,C⟩:∃ y,y=W1.alloc (.cells #[.int .i64 0,.int .i64 0,.string ⟨#[]⟩,.string ⟨#[]⟩,.string ⟨#[]⟩,.string ⟨#[]⟩,.string ⟨#[]⟩,.int .i64 0,.int .i64 0,.slice none 0 0] 36):=⟨_,rfl⟩
    have f3:Fr No W1 y:=by rw[C];exact(Fr.refl _ _).alloc _
    have q2:y.heap[W1.heap.size]?=some (.cells #[.int .i64 0,.int .i64 0,.string ⟨#[]⟩,.string ⟨#[]⟩,.string ⟨#[]⟩,.string ⟨#[]⟩,.string ⟨#[]⟩,.int .i64 0,.int .i64 0,.slice none 0 0] 36):=by rw[C];exact zD _ _
    go_wp2_with fail
    refine zp ?_;rw[<-C];clear C;have f:=e4.out (J++(⟨#[47]⟩:ByteArray)++z) y (x1.out.step f3 zi);apply zH;exact rfl
    go_wp2_with fail
    refine f.mono ?_;rintro e w2 ⟨hF,u⟩;clear f;obtain⟨V,rfl⟩:∃ V,e=.returned (.tuple #[.agg (Dev.vals V),.bool false]):=by
     rcases hF with⟨F,rfl⟩ | ⟨d,N,c',l',F,rfl,_⟩
     ·exact⟨Dev.zero,rfl⟩
     ·rw[j4.out]at F;cases F
    unfold Dev.vals;have q3:=u.heap q2 id;have HX:Hid (Fr No wc w2):=(A.step f3 zi).step u zi;clear q2 f3
    go_wp2_with fail
    refine zm u ?_
    repeat((first|apply zM rfl rfl rfl|apply zO rfl rfl rfl);intro K hK;go_big_quiet_op;go_big_quiet_on)
   all_goals (
    apply zH;exact rfl;obtain⟨z0,z1,z2,z3,z4,z5,z6,z7,z8,z9⟩:=DevB.of (d:=⟨0,0,⟨#[]⟩,⟨#[]⟩,⟨#[]⟩,⟨#[]⟩,⟨#[]⟩,0,0,none,0,0⟩) q3;obtain⟨y0,y1,y2,y3,y4,y5,y6,y7,y8,y9⟩:=DevF.of q3;have b6:=zh (zBF q3 rfl V);have n0:=zC q3;clear q3
    go_wp2_with fail
    refine OnlyN.mk ⟨b6.out.2.mono (fun b _ h=>by unfold Is at h;omega),?_⟩
    repeat((first|apply zM rfl rfl rfl|apply zO rfl rfl rfl);intro K hK;go_big_quiet_op;go_big_quiet_on)
    refine zX ?_
    go_wp2_with fail
    go_meet
    exact⟨⟨_,rfl⟩,rfl,HX.out.step b6.out.2 (fun b hb h=>by unfold Is at h;omega)⟩
    )
  case rest=>
   obtain⟨⟨Bq,rfl⟩,rfl,u⟩:=hcut;have x2:=h7.step u zi;have b2:=u.heap h8 id;have k2:=u.heap h9 id;have p2:=u.heap p1 id;have j6:=u.size;clear h7 h8 h9 p1 u;obtain⟨v0,v1,v2⟩:wc.cell? ⟨w.heap.size,0,none⟩=some (.string J)/\wc.cell? ⟨w.heap.size,1,none⟩=some (.string z)/\wc.cell? ⟨w.heap.size,2,none⟩=some (.string Y):=⟨zB b2 0,zB b2 1,zB b2 2⟩
   have h0:=zJY L a7 a O ds (.slice none 0 0) wc (Hl.out.no x2) hn k2 Hu.out.1 Hu.out.2
   go_upto_region 3 with(fail)
   go_cut [47] (fun v wy=>v=.bool false/\wc=wy)
   case first=>
    rcases hB.out.2.2.1 with rfl | rfl
    ·go_wp2_with fail
     go_meet
     exact⟨rfl,rfl⟩
    ·rcases bb with _ | _
     all_goals
      go_wp2_with fail
      go_meet
      exact⟨rfl,rfl⟩
   case rest=>
    obtain⟨rfl,rfl⟩:=hcut
    go_wp2_with fail
    refine h0.mono ?_;rintro e I ⟨rfl,b9⟩;have x4:=x2.step b9 zi;have b4:=b9.heap b2 id;have k4:=b9.heap k2 id;have p4:=b9.heap p2 id;have s4:=b9.size;obtain⟨v0,v1,v2⟩:I.cell? ⟨w.heap.size,0,none⟩=some (.string J)/\I.cell? ⟨w.heap.size,1,none⟩=some (.string z)/\I.cell? ⟨w.heap.size,2,none⟩=some (.string Y):=⟨zB b4 0,zB b4 1,zB b4 2⟩
    obtain⟨D,a4⟩:∃ D,D=I.alloc (.cells (Dev.vals ⟨0,0,⟨#[]⟩,z,zT,⟨#[]⟩,⟨#[]⟩,2,1048576,none,0,0⟩) 36):=⟨_,rfl⟩
    have f5:Fr No I D:=by rw[a4];exact(Fr.refl _ _).alloc _
    have q5:D.heap[I.heap.size]?=some (.cells (Dev.vals ⟨0,0,⟨#[]⟩,z,zT,⟨#[]⟩,⟨#[]⟩,2,1048576,none,0,0⟩) 36):=by rw[a4];exact zD _ _
    unfold Dev.vals at a4;unfold zT at a4;dsimp only at a4;clear h0 b9 b2 k2 p2 x2
    go_upto_region 6 with(fail)
    rw[<-a4];clear a4 v0 v1 v2;have b5:=f5.heap b4 id;obtain⟨v0,v1,v2⟩:D.cell? ⟨w.heap.size,0,none⟩=some (.string J)/\D.cell? ⟨w.heap.size,1,none⟩=some (.string z)/\D.cell? ⟨w.heap.size,2,none⟩=some (.string Y):=⟨zB b5 0,zB b5 1,zB b5 2⟩
    have y9:(D.alloc (.cells #[.string ⟨#[99,111,110,116,101,110,116]⟩,.string Y] 76)).frozen? ⟨I.heap.size,9,none⟩=false:=zE (((Fr.refl No D).alloc _).heap q5 id) 9;have z9:(D.alloc (.cells #[.string ⟨#[99,111,110,116,101,110,116]⟩,.string Y] 76)).cell? ⟨I.heap.size,9,none⟩=some (.slice none 0 0):=zB (((Fr.refl No D).alloc _).heap q5 id) 9;obtain⟨W6,d6⟩:∃ W6,W6=D.setCell ⟨I.heap.size,9,none⟩ (.slice (some ⟨D.heap.size,0,none⟩) 1 1):=⟨_,rfl⟩
    have f6:Fr (Is I.heap.size) D W6:=by rw[d6];exact Fr.setAt (Fr.refl _ _) _
    have q6:W6.heap[I.heap.size]?=some (.cells (Dev.vals ⟨0,0,⟨#[]⟩,z,zT,⟨#[]⟩,⟨#[]⟩,2,1048576,some ⟨D.heap.size,0,none⟩,1,1⟩) 36):=by rw[d6];exact zF q5 9 _
    have j7:W6.heap.size=D.heap.size:=by rw[d6];simp
    obtain⟨W7,d7⟩:∃ W7,W7=W6.alloc (.cells #[.string zN,.string Y] 76):=⟨_,rfl⟩
    have f7:Fr No W6 W7:=by rw[d7];exact(Fr.refl _ _).alloc _
    have e7:W7.heap[D.heap.size]?=some (.cells #[.string zN,.string Y] 76):=by rw[<-j7,d7];exact zD _ _
    have q7:=f7.heap q6 id;have s5:=f5.size;have l5:=zC q5;have q4:w.heap.size<I.heap.size:=zC b4;have d0:Fr (Is I.heap.size) D W7:=f6.step f7 zn;have x7:Fr No w W7:=(x4.step f5 zi).step d0 (fun b hb h=>by unfold Is at h;omega);have b7:=d0.heap b5 (fun h=>by unfold Is at h;omega);have k7:=d0.heap (f5.heap k4 id) (fun h=>by unfold Is at h;have:=zC k4;omega);have p7:=d0.heap (f5.heap p4 id) (fun h=>by unfold Is at h;have:=zC p4;omega);have r0:=d0.size;unfold zN at d7;clear q5 q6 f5 f6 f7 b4 k4 p4 b5 x4 j7 d0
    go_upto_region 8 with(fail)
    rw[<-d6,<-d7];clear d7 d6 z9 y9 v0 v1 v2;have v0:W7.cell? ⟨w.heap.size,0,none⟩=some (.string J):=zB b7 0;obtain⟨c0,c1,c2,c3,c4,c5,c6,c7,c8,c9⟩:=DevB.of q7;obtain⟨W8,d1⟩:∃ W8,W8=W7.alloc (.cells (ocs 1 J ⟨0,0,⟨#[]⟩,z,zT,⟨#[]⟩,⟨#[]⟩,2,1048576,some ⟨D.heap.size,0,none⟩,1,1⟩ ⟨#[]⟩ ⟨#[]⟩) 38):=⟨_,rfl⟩
    have f8:Fr No W7 W8:=by rw[d1];exact(Fr.refl _ _).alloc _
    have o8:W8.heap[W7.heap.size]?=some (.cells (ocs 1 J ⟨0,0,⟨#[]⟩,z,zT,⟨#[]⟩,⟨#[]⟩,2,1048576,some ⟨D.heap.size,0,none⟩,1,1⟩ ⟨#[]⟩ ⟨#[]⟩) 38):=by rw[d1];exact zD _ _
    unfold ocs at d1;dsimp only at d1
    go_upto_region 9 with(fail)
    rw[<-d1];clear d1 v0 c0 c1 c2 c3 c4 c5 c6 c7 c8 c9;have q8:=f8.heap q7 id;have b8:=f8.heap b7 id;have k8:=f8.heap k7 id;have p8:=f8.heap p7 id;have e8:=f8.heap e7 id;have x8:=x7.step f8 zi;have s8:=f8.size;have d8:w.heap.size≠I.heap.size/\Bp≠I.heap.size/\L≠I.heap.size/\D.heap.size≠I.heap.size/\W7.heap.size≠I.heap.size:=by
     have:=zC o8;refine⟨?_,?_,?_,?_,?_⟩<;>omega
    clear q7 b7 k7 p7 e7 f8 x7;refine zQ (Is I.heap.size) [(0,false),(1,false),(2,false),(3,false),(4,false),(5,false),(6,false),(7,true),(8,false),(9,true),(10,false),(11,true)] (by kernel_rfl) (by kernel_rfl) (fun wa d9=>?_);have qa:=d9.heap q8 id;have ba:=d9.heap b8 id;have pa:=d9.heap p8 id;have t1:∀ g:Gr (Is I.heap.size) wa,g.W.cell? ⟨w.heap.size,1,none⟩=some (.string z):=fun g=>zB (g.fr.heap ba (fun h=>d8.1 h)) 1
    have t0:∀ g:Gr (Is I.heap.size) wa,g.W.cell? ⟨Bp,0,none⟩=some (.int .i64 p):=fun g=>by rw[<-hB.out.2.1];exact zB (g.fr.heap pa (fun h=>d8.2.1 h)) 0
    repeat((first|apply zS rfl rfl rfl|apply zW rfl rfl rfl);intro K hK;go_big_quiet_op;go_big_quiet_on)
    clear t0 t1;apply zk;exact rfl;have y2:=zE qa 2;have z2:wa.cell? ⟨I.heap.size,2,none⟩=some (.string ⟨#[]⟩):=(DevB.of qa).c2;obtain⟨wb,e5⟩:∃ wb,wb=wa.setCell ⟨I.heap.size,2,none⟩ (.string z):=⟨_,rfl⟩
    have fb:Fr (Is I.heap.size) wa wb:=by rw[e5];exact Fr.setAt (Fr.refl _ _) _
    have qb:wb.heap[I.heap.size]?=some (.cells (Dev.vals ⟨0,0,z,z,zT,⟨#[]⟩,⟨#[]⟩,2,1048576,some ⟨D.heap.size,0,none⟩,1,1⟩) 36):=by rw[e5];exact zF qa 2 _
    go_wp2_with fail
    refine OnlyN.mk ⟨Fr.setAt (Fr.refl _ _) _,?_⟩;rw[<-e5];clear e5 y2 z2 qa
    repeat((first|apply zS rfl rfl rfl|apply zW rfl rfl rfl);intro K hK;go_big_quiet_op;go_big_quiet_on)
    apply zk;exact rfl;have y1:=zE qb 1;have z1:wb.cell? ⟨I.heap.size,1,none⟩=some (.int .i64 0):=(DevB.of qb).c1;obtain⟨wd,f2⟩:∃ wd,wd=wb.setCell ⟨I.heap.size,1,none⟩ (.int .i64 p):=⟨_,rfl⟩
    have fd:Fr (Is I.heap.size) wb wd:=by rw[f2];exact Fr.setAt (Fr.refl _ _) _
    have qd:wd.heap[I.heap.size]?=some (.cells (Dev.vals ⟨0,p,z,z,zT,⟨#[]⟩,⟨#[]⟩,2,1048576,some ⟨D.heap.size,0,none⟩,1,1⟩) 36):=by rw[f2];exact zF qb 1 _
    go_wp2_with fail
    refine OnlyN.mk ⟨Fr.setAt (Fr.refl _ _) _,?_⟩;rw[<-f2];clear f2 y1 z1 qb
    repeat((first|apply zS rfl rfl rfl|apply zW rfl rfl rfl);intro K hK;go_big_quiet_op;go_big_quiet_on)
    apply zk;exact rfl;have y0:=zE qd 0;have z0:wd.cell? ⟨I.heap.size,0,none⟩=some (.int .i64 0):=(DevB.of qd).c0;obtain⟨W9,f4⟩:∃ W9,W9=wd.setCell ⟨I.heap.size,0,none⟩ (.int .i64 (maxI ds+1)):=⟨_,rfl⟩
    have f9:Fr (Is I.heap.size) wd W9:=by rw[f4];exact Fr.setAt (Fr.refl _ _) _
    have q9:W9.heap[I.heap.size]?=some (.cells (Dev.vals (newD ds p z (some ⟨D.heap.size,0,none⟩))) 36):=by rw[f4];exact zF qd 0 _
    go_wp2_with fail
    refine OnlyN.mk ⟨Fr.setAt (Fr.refl _ _) _,?_⟩;rw[<-f4];clear f4 y0 z0 qd;refine zY ?_;have d2:Fr (Is I.heap.size) W8 W9:=(((d9.mono zn).step fb zi).step fd zi).step f9 zi;have k9:=d2.heap k8 (fun h=>d8.2.2.1 h);have e9:=d2.heap e8 (fun h=>d8.2.2.2.1 h);have o9:=d2.heap o8 (fun h=>d8.2.2.2.2 h);have x9:Fr No w W9:=x8.step d2 (fun b hb h=>by unfold Is at h;omega);have r1:=x9.size;have r2:=d2.size;have i1:∀ W,(∃ o,W.heap[D.heap.size]?=some (.cells #[.string zN,.string Y] 76 o))->Atts W (some ⟨D.heap.size,0,none⟩) 1 [(zN,Y)]:=fun W hW=>by
     obtain⟨o,hW⟩:=hW;exact⟨by simp,by unfold maxLen;omega,(fun e=>by cases e),(fun x hx=>by simp at hx;subst hx;exact⟨(by decide:zN.size<=maxLen),m8⟩),fun ad e _=>by
      cases e;refine⟨rfl,zC hW,fun i x hi=>?_⟩;rcases i with _ | i
      ·simp at hi;subst hi;exact⟨zB hW 0,zB hW 1⟩
      ·simp at hi⟩
    have j8:=zh i1;have e0:Hid (∀ W,Fr No W9 W->Calls Tryz.prog 39 #[.agg #[.slice a ds.length O],.agg #[.int .i64 (maxI ds+1),.int .i64 p,.string z,.string z,.string zT,.string ⟨#[]⟩,.string ⟨#[]⟩,.int .i64 2,.int .i64 1048576,.slice (some ⟨D.heap.size,0,none⟩) 1 1]] W fun e w'=>zI9 W w' ds (newD ds p z (some ⟨D.heap.size,0,none⟩)) e/\Fr No W w'):=fun W hf=>
     zCo a O ds a7 (newD ds p z (some ⟨D.heap.size,0,none⟩)) [(zN,Y)] m W (Hl.out.no (x9.step hf zi)) (m7.out _) (i1 W ⟨_,hf.heap e9 id⟩) (by simp) rfl rfl rfl l8 (WalkArith.wf_i64 (by show _/\_;unfold newD;dsimp only;omega)) (m6.out _) ((x9.step hf zi).cell Hm.out id) (by have:=hf.size;have:=HE.out.sz;omega)
    clear i1 q8 b8 k8 p8 e8 o8 x8 d9 fb fd f9 d2 ba pa;have i2:=zh (And.intro o9 (And.intro e9 x9));unfold zT at e0;have o5:L<w.heap.size:=m5
    go_upto_region 10 with(fail)
    go_cut [12,13] (fun n1 n2 wy=>∃ Bt N c' R,n1=.pointer (some ⟨Bt,0,none⟩)/\n2=.int .i64 0/\Hid (wy.heap[Bt]?=some (.cells #[.slice N (List.length (R:List Dev)) c'] 48)/\W9.heap.size<=Bt)/\Fr No W9 wy)
    case first=>
     refine zb (fun b=>W9.heap.size<=b) (.q 0 (.q 1 (.q 2 (.q 3 (.q 4 (.m2 5 (.q 6 (.q 7 (.q 8 (.m1 9 (.m1 10 (.q 11 .fin)))))) 9 (.m1 5 (.q 6 (.q 7 (.q 8 (.m1 10 (.q 11 .fin)))))))))))) _ (by kernel_rfl) (by kernel_rfl) (fun W8 a3=>?_) zj;have s8:=a3.size;have k8:=a3.heap k9 id;have q8:=a3.heap q9 id;have x8:=zh (x9.step a3 zi);have t0:∀ g:Gr (fun b=>W9.heap.size<=b) W8,g.W.cell? ⟨L,0,none⟩=some (.slice a ds.length O):=fun g=>zB (g.fr.heap k8 (fun h=>by omega)) 0
     have cB:∀ g:Gr (fun b=>W9.heap.size<=b) W8,DevB g.W I.heap.size (newD ds p z (some ⟨D.heap.size,0,none⟩)):=fun g=>DevB.of (g.fr.heap q8 (fun h=>by omega))
     have c0:=fun g=>(cB g).c0
     have c1:=fun g=>(cB g).c1
     have c2:=fun g=>(cB g).c2
     have c3:=fun g=>(cB g).c3
     have c4:=fun g=>(cB g).c4
     have c5:=fun g=>(cB g).c5
     have c6:=fun g=>(cB g).c6
     have c7:=fun g=>(cB g).c7
     have c8:=fun g=>(cB g).c8
     have c9:=fun g=>(cB g).c9
     clear cB;unfold newD at c0 c1 c2 c3 c4 c5 c6 c7 c8 c9;dsimp only at c0 c1 c2 c3 c4 c5 c6 c7 c8 c9
     repeat((first|apply zM rfl rfl rfl|apply zO rfl rfl rfl);intro K hK;go_big_quiet_op;go_big_quiet_on)
     clear t0 c0 c1 c2 c3 c4 c5 c6 c7 c8 c9;refine zv rfl rfl ?_ ?_
     focus
      have f:=e0.out W8 a3
      go_wp2_with fail
      refine f.mono ?_;rintro e e1 ⟨hR,i3⟩;clear f;obtain⟨N,c',R,rfl,-⟩:=hR;have s9:=i3.size
      go_wp2_with fail
      refine zm i3 ?_
      repeat((first|apply zM rfl rfl rfl|apply zO rfl rfl rfl);intro K hK;go_big_quiet_op;go_big_quiet_on)
      apply zH;exact rfl;obtain⟨WA,g0⟩:∃ WA,WA=e1.alloc (.cells #[.slice none 0 0] 48):=⟨_,rfl⟩
      have fA:Fr No e1 WA:=by rw[g0];exact(Fr.refl _ _).alloc _
      have qA:WA.heap[e1.heap.size]?=some (.cells #[.slice none 0 0] 48):=by rw[g0];exact zD _ _
      go_wp2_with fail
      refine zp ?_;rw[<-g0];clear g0;have h1:Hid (Fr No W9 WA):=(a3.step i3 zi).step fA zi;have g1:Hid (W9.heap.size<=e1.heap.size):=by unfold Hid;omega
      generalize e1.heap.size=Bt at *
     rotate_left 1
     focus
      obtain⟨WB,g2⟩:∃ WB,WB=W8.alloc (.cells #[.slice none 0 0] 48):=⟨_,rfl⟩
      have f9:Fr No W8 WB:=by rw[g2];exact(Fr.refl _ _).alloc _
      have j9:WB.heap[W8.heap.size]?=some (.cells #[.slice none 0 0] 48):=by rw[g2];exact zD _ _
      go_wp2_with fail
      refine zp ?_;rw[<-g2];clear g2;have r3:=zh (x8.out.step f9 zi);have f:=e0.out WB (a3.step f9 zi);apply zH;exact rfl
      go_wp2_with fail
      refine f.mono ?_;rintro e WA ⟨hR,i4⟩;clear f;obtain⟨N,c',R,rfl,-⟩:=hR;have s9:=f9.size;have qA:=i4.heap j9 id;have h1:Hid (Fr No W9 WA):=(a3.step f9 zi).step i4 zi;have g1:Hid (W9.heap.size<=W8.heap.size):=s8;clear j9
      go_wp2_with fail
      refine zm i4 ?_
      repeat((first|apply zM rfl rfl rfl|apply zO rfl rfl rfl);intro K hK;go_big_quiet_op;go_big_quiet_on)
      generalize W8.heap.size=Bt at *
     all_goals (
      apply zH;exact rfl;have y0:=zE qA 0;have z0:WA.cell? ⟨Bt,0,none⟩=some (.slice none 0 0):=zB qA 0;have fB:Fr (Is Bt) WA (WA.setCell ⟨Bt,0,none⟩ (.slice N R.length c')):=Fr.setAt (Fr.refl _ _) _;have qB:=zF qA 0 (.slice N R.length c');have n3:Hid (Fr No W9 (WA.setCell ⟨Bt,0,none⟩ (.slice N R.length c'))):=h1.out.step fB (fun b hb h=>by have:=g1.out;unfold Is at h;omega);have n4:=zh qB;clear qB fB qA
      go_wp2_with fail
      refine OnlyN.mk ⟨Fr.setCell (Fr.refl _ _) (fun _=>g1.out) _,?_⟩
      repeat((first|apply zM rfl rfl rfl|apply zO rfl rfl rfl);intro K hK;go_big_quiet_op;go_big_quiet_on)
      refine zX ?_
      go_wp2_with fail
      go_meet
      exact⟨Bt,N,c',R,rfl,rfl,⟨n4.out,g1.out⟩,n3.out⟩
      )
    case rest=>
     obtain⟨Bt,N,c',R,rfl,rfl,i5,X⟩:=hcut;have kq:=X.heap k9 id;have oq:=X.heap i2.out.1 id;have g3:=X.heap i2.out.2.1 id;have tq:=i5.out.1;have xq:=x9.step X zi;have sq:=X.size;have o6:=i5.out.2;have n5:=zC tq;have r4:=zC i2.out.1;obtain⟨wq,i6⟩:∃ wq,wq=wc:=⟨_,rfl⟩
     rw[<-i6]at kq oq g3 tq xq sq n5;have k0:=zh (And.intro xq g3);have o7:=xq.size;have r5:=zC g3;have n6:w.heap.size<=D.heap.size:=by omega
     have g4:Hid (∀ y,Fr No wq y->∀ w6 N n' c' (av:Option Addr) cv,Fr (Is L) y w6->w6.heap[L]?=some (.cells #[.slice N n' c',.slice av (0+1) cv] 135)->w6.ownsRow w.heap.size 38 14 (.slice av (0+1) cv) (0+1) (ocs 1 J ⟨0,0,⟨#[]⟩,z,zT,⟨#[]⟩,⟨#[]⟩,2,1048576,some ⟨D.heap.size,0,none⟩,1,1⟩ ⟨#[]⟩ ⟨#[]⟩).toList->
   (∃ (bt:Nat) (N:Option Addr) (n' c':Nat) (av:Option Addr) (cv:Nat),w6.heap[L]?=some (.cells #[.slice N n' c',.slice av 1 cv] 135)/\w6.ownsRow w.heap.size 38 14 (.slice av 1 cv) 1 (ocs 1 J ⟨0,0,⟨#[]⟩,z,zT,⟨#[]⟩,⟨#[]⟩,2,1048576,some ⟨bt,0,none⟩,1,1⟩ ⟨#[]⟩ ⟨#[]⟩).toList/\
    Atts w6 (some ⟨bt,0,none⟩) 1 [(zN,Y)]/\BlkT w6 (some ⟨bt,0,none⟩) 76/\w.heap.size<=bt)/\Fr (Is L) w w6):=by
      intro y Z w6 N n' c' av cv k3 n7 n8;have e6:=k3.heap (Z.heap k0.out.2 id) (fun h=>by unfold Is at h;omega);exact⟨⟨D.heap.size,N,n',c',av,cv,n7,n8,j8.out _ ⟨_,e6⟩,fun ad e=>by cases e;exact⟨_,e6⟩,n6⟩,((k0.out.1.step Z zi).mono zn).step k3 zi⟩
     clear i5 X xq g3 j8
     go_upto_region 12 with(fail)
     rw[<-i6];clear i6;refine zb (fun b=>b=L\/wq.heap.size<=b) (.q 0 (.q 1 (.q 2 (.q 3 (.q 4 (.q 6 (.q 9 (.m2 5 (.m1 7 (.m1 8 (.q 10 (.q 11 (.m1 12 (.q 13 (.q 14 (.m1 15 .fin)))))))) 7 (.m1 5 (.m1 8 (.q 10 (.q 11 (.m1 12 (.q 13 (.q 14 (.m1 15 .fin)))))))))))))))) _ (by kernel_rfl) (by kernel_rfl) (fun y Z=>?_) zj;have k5:=Z.heap kq id;have o3:=Z.heap oq id;have t3:=Z.heap tq id;have n9:=zh Z;have o0:Hid (w.heap.size<=y.heap.size):=by have:=Z.size;unfold Hid;omega
     have cO:∀ g:Gr (fun b=>b=L\/wq.heap.size<=b) y,OpB g.W W7.heap.size 1 J ⟨0,0,⟨#[]⟩,z,zT,⟨#[]⟩,⟨#[]⟩,2,1048576,some ⟨D.heap.size,0,none⟩,1,1⟩ ⟨#[]⟩ ⟨#[]⟩:=fun g=>OpB.of (g.fr.heap o3 (fun h=>by omega))
     have c0:=fun g=>(cO g).c0
     have c1:=fun g=>(cO g).c1
     have c2:=fun g=>(cO g).c2
     have c3:=fun g=>(cO g).c3
     have c4:=fun g=>(cO g).c4
     have c5:=fun g=>(cO g).c5
     have c6:=fun g=>(cO g).c6
     have c7:=fun g=>(cO g).c7
     have c8:=fun g=>(cO g).c8
     have c9:=fun g=>(cO g).c9
     have k6:=fun g=>(cO g).c10
     have l0:=fun g=>(cO g).c11
     have l1:=fun g=>(cO g).c12
     have l2:=fun g=>(cO g).c13
     have t0:∀ g:Gr (fun b=>b=L\/wq.heap.size<=b) y,g.W.cell? ⟨Bt,0,none⟩=some (.slice N (List.length R) c'):=fun g=>zB (g.fr.heap t3 (fun h=>by omega)) 0
     clear cO o3 t3 Z;dsimp only at c0 c1 c2 c3 c4 c5 c6 c7 c8 c9 k6 l0 l1 l2
     repeat((first|apply zM rfl rfl rfl|apply zO rfl rfl rfl);intro K hK;go_big_quiet_op;go_big_quiet_on)
     clear t0 c0 c1 c2 c3 c4 c5 c6 c7 c8 c9 k6 l0 l1 l2;have c5:y.cell? ⟨L,1,none⟩=some (.slice none 0 0):=zB k5 1;refine zv rfl rfl ?_ ?_
     focus
      go_wp2_with fail
      refine zq ?_;apply zH;exact rfl;clear c5
      go_wp2_with fail
      refine zp ?_
     rotate_left 1
     focus
      go_wp2_with fail
      refine zp ?_;apply zH;exact rfl;have c7:∀ o,(y.alloc o).cell? ⟨L,1,none⟩=some (.slice none 0 0):=fun o=>((Fr.refl No y).alloc o).cell c5 id
      clear c5
      go_wp2_with fail
      refine zq ?_;clear c7
     all_goals (
      apply zH;exact rfl
      go_wp2_with (at_builtin;refine wpList_append_own_at _ rfl _ _ 91 rfl w.heap.size 38 i0 (.agg #[.int .i64 0,.string ByteArray.empty,.int .i64 0,.int .i64 0,.string ByteArray.empty,.string ByteArray.empty,.string ByteArray.empty,.string ByteArray.empty,.string ByteArray.empty,.int .i64 0,.int .i64 0,.slice none 0 0,.string ByteArray.empty,.string ByteArray.empty]) 14 192 Tryz.underlying91 l9 m0 m3 m4 rfl (by decide) _ _ _ rfl ((World.ownsRow_nil _ _ _ _:y.ownsRow w.heap.size 38 14 (.slice none 0 0) 0 []).alloc _) ⟨y.heap.size,0,none⟩ 1 1 (ocs 1 J ⟨0,0,⟨#[]⟩,z,zT,⟨#[]⟩,⟨#[]⟩,2,1048576,some ⟨D.heap.size,0,none⟩,1,1⟩ ⟨#[]⟩ ⟨#[]⟩).toList rfl rfl (ze _ (ocs 1 J ⟨0,0,⟨#[]⟩,z,zT,⟨#[]⟩,⟨#[]⟩,2,1048576,some ⟨D.heap.size,0,none⟩,1,1⟩ ⟨#[]⟩ ⟨#[]⟩) _ rfl) (zDi _ _ _ _ _) (by unfold maxLen;omega) (by omega) (by have:=o0.out;rw[World.size_alloc];omega) ?_;intro v' d3 a2 a8 _ l3;obtain⟨g7,g8,rfl⟩:=zJ a2)
      have l4:Fr No y (y.alloc (.cells (ocs 1 J ⟨0,0,⟨#[]⟩,z,zT,⟨#[]⟩,⟨#[]⟩,2,1048576,some ⟨D.heap.size,0,none⟩,1,1⟩ ⟨#[]⟩ ⟨#[]⟩) 38)):=(Fr.refl _ _).alloc _;have i7:Fr (fun b=>(Value.slice none 0 0).ownBlock=some b) (y.alloc (.cells (ocs 1 J ⟨0,0,⟨#[]⟩,z,zT,⟨#[]⟩,⟨#[]⟩,2,1048576,some ⟨D.heap.size,0,none⟩,1,1⟩ ⟨#[]⟩ ⟨#[]⟩) 38)) d3:=Fr.of_grown a8;have i8:Fr No y d3:=l4.step i7 (fun b _ h=>by cases h);have e2:=i8.heap k5 id;have f1:=zE e2 1;have z1:d3.cell? ⟨L,1,none⟩=some (.slice none 0 0):=zB e2 1;refine OnlyN.mk ⟨i7.mono (fun b _ h=>by cases h),?_⟩
      repeat((first|apply zM rfl rfl rfl|apply zO rfl rfl rfl);intro K hK;go_big_quiet_op;go_big_quiet_on)
      apply zH;exact rfl;obtain⟨a5,a9⟩:∃ a5,a5=d3.setCell ⟨L,1,none⟩ (.slice g7 (0+1) g8):=⟨_,rfl⟩
      have g5:Fr (Is L) d3 a5:=by rw[a9];exact Fr.setAt (Fr.refl _ _) _
      have g9:a5.heap[L]?=some (.cells #[.slice a ds.length O,.slice g7 (0+1) g8] 135):=by rw[a9];exact zF e2 1 _
      go_wp2_with fail
      refine OnlyN.mk ⟨Fr.setCell (Fr.refl _ _) (fun _=>.inl rfl) _,?_⟩;rw[<-a9];clear a9 f1 z1
      repeat((first|apply zM rfl rfl rfl|apply zO rfl rfl rfl);intro K hK;go_big_quiet_op;go_big_quiet_on)
      apply zH;exact rfl;have f0:=zE g9 0;have z0:a5.cell? ⟨L,0,none⟩=some (.slice a ds.length O):=zB g9 0;obtain⟨a6,b3⟩:∃ a6,a6=a5.setCell ⟨L,0,none⟩ (.slice N (List.length R) c'):=⟨_,rfl⟩
      have g6:Fr (Is L) a5 a6:=by rw[b3];exact Fr.setAt (Fr.refl _ _) _
      have l6:a6.heap[L]?=some (.cells #[.slice N (List.length R) c',.slice g7 (0+1) g8] 135):=by rw[b3];exact zF g9 0 _
      go_wp2_with fail
      refine OnlyN.mk ⟨Fr.setCell (Fr.refl _ _) (fun _=>.inl rfl) _,?_⟩;rw[<-b3];clear b3 f0 z0;refine zX ?_;have o1:Hid (Fr (Is L) y a6):=((i8.mono zn).step g5 zi).step g6 zi;have o2:=zh l6;have l7:Fr (Is L) d3 a6:=g5.step g6 zi;have o4:Hid (a6.ownsRow w.heap.size 38 14 (.slice g7 (0+1) g8) (0+1) (ocs 1 J ⟨0,0,⟨#[]⟩,z,zT,⟨#[]⟩,⟨#[]⟩,2,1048576,some ⟨D.heap.size,0,none⟩,1,1⟩ ⟨#[]⟩ ⟨#[]⟩).toList):=by
       have:=zG a2 l7 (fun b hb h=>zR a2 e2 (by decide) (by unfold Is at h;rw[<-h];exact hb));exact this
      clear a2 a8 l3 i7 l4 i8 e2 g9 g5 g6 l7 l6
      go_wp2_with fail
      go_end0
      exact⟨rfl,g4.out y n9.out _ _ _ _ _ _ o1.out o2.out o4.out⟩
      )
end Go.Proofs.YtinfjnndbfahhaaGreatDoor
