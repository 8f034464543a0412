import Derived.Test.YtckkocmhlhefpaaGreatDoorQ31
namespace Go.Proofs.YtckkocmhlhefpaaGreatDoor
open Go.RowKit Go.Maps Go.Shelf
set_option linter.unusedVariables false
set_option maxRecDepth 100000
set_option maxHeartbeats 8000000
open Dev renaming vals->M,zero->al
open Fr renaming refl->L,setAt->ab,setCell->am
open Go.RowKit renaming Hid->H
open Go.Value renaming slice->t
open IntKind renaming i64->f
open Obj renaming cells->P
open OnlyN renaming mk->af
open Value renaming string->G,slice->B,int->S,agg->ae,pointer->ak
open _root_ renaming Nat->C,Int->K,ByteArray->r,List->ag,Option->ai
open _root_.Bool renaming false->j,true->a0
open _root_.ByteArray renaming empty->ah
open _root_.List renaming length->aj
open _root_.Option renaming some->E,none->Q
def newG (ds:ag Dev)(p:K)(vo:r)(num:K)(vc:r)(aa:ai Addr):Dev:=⟨maxI ds+1,p,vo,vo,zS,⟨#[]⟩,⟨#[]⟩,2,num,aa,(cAtt vc).length,(cAtt vc).length⟩
def opG (vo:r)(num:K)(vc:r)(aa:ai Addr):Dev:=⟨0,0,⟨#[]⟩,vo,zS,⟨#[]⟩,⟨#[]⟩,2,num,aa,(cAtt vc).length,(cAtt vc).length⟩
structure AddOk (ds:ag Dev)(vq vo vc:r)(p:K):Prop where
 par:ParIs ds vq p
 no:ds.find? (atP ds (vq++(⟨#[47]⟩:r)++vo))=Q
 pw:(Lit.int f p).wf=a0
 q:vq.size<=100000
 o:vo.size<=100000
 c:vc.size<=100000
 nw:∀ d∈ds,(Lit.int f d.num).wf=a0
 mx:0<=maxI ds/\maxI ds<=1000000
 pre:∀ k:C,k<=ds.length->usedF ds (1048576+(k:K))=j->∀ aa,InsPre ds (newG ds p vo (1048576+(k:K)) vc aa) (cAtt vc)/\Sized (newG ds p vo (1048576+(k:K)) vc aa)/\(sameO ds (newG ds p vo (1048576+(k:K)) vc aa)||ds.any (clP (newG ds p vo (1048576+(k:K)) vc aa)))=j/\TreeWf (insAt ds (insK ds (newG ds p vo (1048576+(k:K)) vc aa)) (newG ds p vo (1048576+(k:K)) vc aa))
def AddR (pb rb base:C)(w:World)(ds:ag Dev)(ct:K->r)(ops:ag OpA)(no:C)(vq vo vc:r)(p:K)(W:World):Prop:=
 ∃ (k:C) (aa a1:ai Addr) (c1:C) (cs:ag Dev) (ao:ai Addr) (co:C),(k<=ds.length/\∀ i:C,i<k->usedF ds (1048576+(i:K))=a0)/\usedF ds (1048576+(k:K))=j/\W.heap[pb]?=E (P #[B a1 cs.length c1,B ao (no+1) co] 102)/\Tr W base a1 c1 cs/\cs.map strip=(insAt ds (insK ds (newG ds p vo (1048576+(k:K)) vc aa)) (newG ds p vo (1048576+(k:K)) vc aa)).map strip/\
  W.ownsRow rb 38 14 (B ao (no+1) co) (no+1) (opF (ops++[⟨1,vq,opG vo (1048576+(k:K)) vc aa,⟨#[]⟩,⟨#[]⟩,vc⟩]))/\TrT W a1 cs/\CtO W cs (updC ct (maxI ds+1) vc)/\Atts W aa (cAtt vc).length (cAtt vc)/\BlkT W aa 78/\(∀ ad,aa=E ad->(w:C)<=ad.block)/\(∀ b,TrF a1 cs b->(w:C)<=b)
theorem zOh (pb rb a5:C)(a:ai Addr)(a6:C)(ds:ag Dev)(ct:K->r)(j1:ag OpA)(ao:ai Addr)(no co:C)(vq N O:r)(vr p:K)(w:World)(hl:Tr w a5 a a6 ds)(hn:ds.length<=250)(hE:Env w)(hC:CtO w ds ct)(l3:w.heap[pb]?=E (P #[B a ds.length a6,B ao no co] 102))(l0:w.ownsRow rb 38 14 (B ao no co) no (opF j1))(A1:no<=10000)
  (b3:AddOk ds vq N O p) (n4:a5<=(w:C)) (n5:rb<=(w:C)):
  Calls Tryz.prog 33 #[ak (E ⟨pb,0,Q⟩),ae #[G vq,G N,G O,S f vr]] w λe w'=>e=.returned (.tuple #[])/\AddR pb rb a5 w ds ct j1 no vq N O p w'/\Fr (λb=>b=pb\/(t ao no co).ownBlock=E b) w w':=by
 obtain⟨i0,s6,g4,s7,s9⟩:=info_parts infoOp;obtain⟨W0,n6,x0,b0⟩:=zy w (P #[G vq,G N,G O,S f vr] 97);have l4:=x0.heap l3 id;have A5:=zC l3;have n7:=λ(s:r) (W:World) (hf:Fr No w W)=>zDd a a6 ds a5 s W (hl.no hf) (by omega)
 have j2:=zh n7;have Hl:=zh hl;have HE:=zh hE;have Hp:=zh b3.par;have n8:=zh b3.no;have n9:=zh b3;have l6:=zh hC;have g7:=zg3 l0 n4 n5;have t7:O.size<=maxLen:=by have:=b3.c;unfold maxLen;omega
 have hq:=b3.q;have ho:=b3.o;have A6:=b3.mx;have t8:=b3.pw;clear n7 hl hE l3 b3 l0 hC n4 n5;have A7:(vq++(⟨#[47]⟩:r)).size<=9223372036854775807:=by rw[ByteArray.size_append];show vq.size+1<=_;omega
 have A8:(vq++(⟨#[47]⟩:r)++N).size<=9223372036854775807:=by rw[ByteArray.size_append,ByteArray.size_append];show vq.size+1+N.size<=_;omega
 go_enter Tryz.func33,Tryz.ntmps33
 go_upto_region 1 with(fail)
 rw[<-n6];clear n6
 go_cut [4,5] (λp4 b5 wx=>∃ Bp pd bb,p4=ak (E ⟨Bp,0,Q⟩)/\b5=.bool bb/\H (wx.heap[Bp]?=E (P (M pd) 36)/\pd.index=p/\(bb=a0\/vq=⟨#[]⟩)/\(w:C)<Bp)/\Fr No W0 wx)
 case first=>
  refine zZ (λb=>(W0:C)<=b) (.q 0 (.q 1 (.q 2 (.q 3 (.q 4 (.q 5 (.m2 6 (.q 7 (.q 8 (.q 9 (.m1 10 (.m1 11 (.q 12 .fin)))))) 10 (.m1 6 (.q 7 (.q 8 (.q 9 (.m1 11 (.q 12 .fin))))))))))))) _ (by kernel_rfl) (by kernel_rfl) (λW1 R=>?_) zj;have b1:=R.heap b0 id;have k1:=R.heap l4 id;have t9:=zC b0;have t0:∀ g:Gr (λb=>(W0:C)<=b) W1,g.W.cell? ⟨pb,0,Q⟩=E (B a ds.length a6):=λg=>zB (g.fr.heap k1 (λh=>by omega)) 0
  have t1:∀ g:Gr (λb=>(W0:C)<=b) W1,g.W.cell? ⟨w,0,Q⟩=E (G vq):=λg=>zB (g.fr.heap b1 (λh=>by omega)) 0
  have o0:=R.size;have x1:=zh (x0.step R zi)
  repeat((first|apply zL rfl rfl rfl|apply zJ rfl rfl rfl);intro d0 hK;go_big_quiet_op;go_big_quiet_on)
  clear t0 t1;refine zAA rfl rfl ?_ ?_
  focus
   have u:=j2.out vq W1 x1.out
   go_wp2_with fail
   refine u.mono ?_;rintro e w2 ⟨hF,I⟩;clear u;obtain⟨pd,bb,rfl,g8,g9⟩:∃ pd bb,e=.returned (.tuple #[ae (M pd),.bool bb])/\pd.index=p/\(bb=a0\/vq=⟨#[]⟩):=by
    rcases hF with⟨Y,rfl⟩|⟨d,V,X,l',Y,rfl,_⟩
    .rcases Hp.out with⟨_,h2,h3⟩|⟨d,h2,_⟩
     .exact⟨al,j,rfl,h3.symm,.inr h2⟩
     .rw[Y]at h2;cases h2
    .rcases Hp.out with⟨h2,_⟩|⟨d',h2,h3⟩
     .rw[Y]at h2;cases h2
     .rw[Y]at h2;cases h2;exact⟨{ d with aa:=V,ac:=X },a0,rfl,h3.symm,.inl rfl⟩
   have l7:=zg2 g8 g9;clear g8 g9;unfold M
   go_wp2_with fail
   refine zm I ?_
   repeat((first|apply zL rfl rfl rfl|apply zJ rfl rfl rfl);intro d0 hK;go_big_quiet_op;go_big_quiet_on)
   apply zH;exact rfl;obtain⟨W3,a7,f3,q3⟩:=zy w2 (P #[S f 0,S f 0,G ⟨#[]⟩,G ⟨#[]⟩,G ⟨#[]⟩,G ⟨#[]⟩,G ⟨#[]⟩,S f 0,S f 0,B Q 0 0] 36);have HX:H (Fr No W0 W3):=(R.step I zi).step f3 zi;have o1:=I.size
   go_wp2_with fail
   refine zp ?_;rw[<-a7];clear a7 f3
  rotate_left 1
  focus
   obtain⟨W3,a7,f3,q2⟩:=zy W1 (P #[S f 0,S f 0,G ⟨#[]⟩,G ⟨#[]⟩,G ⟨#[]⟩,G ⟨#[]⟩,G ⟨#[]⟩,S f 0,S f 0,B Q 0 0] 36)
   go_wp2_with fail
   refine zp ?_;rw[<-a7];clear a7;have u:=j2.out vq W3 (x1.out.step f3 zi);apply zH;exact rfl
   go_wp2_with fail
   refine u.mono ?_;rintro e w2 ⟨hF,I⟩;clear u;obtain⟨pd,bb,rfl,g8,g9⟩:∃ pd bb,e=.returned (.tuple #[ae (M pd),.bool bb])/\pd.index=p/\(bb=a0\/vq=⟨#[]⟩):=by
    rcases hF with⟨Y,rfl⟩|⟨d,V,X,l',Y,rfl,_⟩
    .rcases Hp.out with⟨_,h2,h3⟩|⟨d,h2,_⟩
     .exact⟨al,j,rfl,h3.symm,.inr h2⟩
     .rw[Y]at h2;cases h2
    .rcases Hp.out with⟨h2,_⟩|⟨d',h2,h3⟩
     .rw[Y]at h2;cases h2
     .rw[Y]at h2;cases h2;exact⟨{ d with aa:=V,ac:=X },a0,rfl,h3.symm,.inl rfl⟩
   have l7:=zg2 g8 g9;clear g8 g9;unfold M;have q3:=I.heap q2 id;have HX:H (Fr No W0 w2):=(R.step f3 zi).step I zi;clear q2 f3
   go_wp2_with fail
   refine zm I ?_
   repeat((first|apply zL rfl rfl rfl|apply zJ rfl rfl rfl);intro d0 hK;go_big_quiet_op;go_big_quiet_on)
  all_goals (
   apply zH;exact rfl;obtain⟨z0,z1,z2,z3,z4,z5,z6,z7,z8,z9⟩:=DevB.of (d:=⟨0,0,⟨#[]⟩,⟨#[]⟩,⟨#[]⟩,⟨#[]⟩,⟨#[]⟩,0,0,Q,0,0⟩) q3;obtain⟨y0,y1,y2,y3,y4,y5,y6,y7,y8,y9⟩:=DevF.of q3;have g0:=zh (zBA q3 rfl pd);have v3:=zC q3;clear q3
   go_wp2_with fail
   refine af ⟨g0.out.2.mono (λb _ h=>by omega),?_⟩
   repeat((first|apply zL rfl rfl rfl|apply zJ rfl rfl rfl);intro d0 hK;go_big_quiet_op;go_big_quiet_on)
   refine zV ?_
   go_wp2_with fail
   go_meet
   exact⟨_,pd,bb,rfl,rfl,⟨g0.out.1,l7.out.1,l7.out.2,by omega⟩,(HX.out.step g0.out.2 (λb hb h=>by omega))⟩
   )
 case rest=>
  obtain⟨Bp,pd,bb,rfl,rfl,hB,R⟩:=hcut;have l8:Fr No w wc:=x0.step R zi;have l9:=R.heap b0 id;have m0:=R.heap l4 id;have p1:=hB.out.1;have t9:=zC b0;have o0:=R.size;have A9:=zC p1;have D2:=hB.out.2.2.2;clear b0 l4 R
  go_upto_region 2 with(fail)
  go_cut [6,7] (λp6 b7 wx=>(∃ Bq,p6=ak (E ⟨Bq,0,Q⟩))/\b7=.bool j/\Fr No wc wx)
  case first=>
   refine zZ (λb=>(wc:C)<=b) (.q 0 (.q 1 (.q 2 (.q 3 (.q 4 (.q 5 (.q 6 (.q 7 (.q 8 (.q 9 (.m2 10 (.q 11 (.q 12 (.q 13 (.m1 14 (.m1 15 (.q 16 .fin)))))) 14 (.m1 10 (.q 11 (.q 12 (.q 13 (.m1 15 (.q 16 .fin))))))))))))))))) _ (by kernel_rfl) (by kernel_rfl) (λW1 R=>?_) zj;have b1:=R.heap l9 id;have k1:=R.heap m0 id;have t0:∀ g:Gr (λb=>(wc:C)<=b) W1,g.W.cell? ⟨pb,0,Q⟩=E (B a ds.length a6):=λg=>zB (g.fr.heap k1 (λh=>by omega)) 0
   have t1:∀ g:Gr (λb=>(wc:C)<=b) W1,g.W.cell? ⟨w,0,Q⟩=E (G vq):=λg=>zB (g.fr.heap b1 (λh=>by omega)) 0
   have t2:∀ g:Gr (λb=>(wc:C)<=b) W1,g.W.cell? ⟨w,1,Q⟩=E (G N):=λg=>zB (g.fr.heap b1 (λh=>by omega)) 1
   have o0:=R.size;have x1:=zh (l8.step R zi)
   repeat((first|apply zL rfl rfl rfl|apply zJ rfl rfl rfl);intro d0 hK;go_big_quiet_op;go_big_quiet_on)
   clear t0 t1 t2;refine zAA rfl rfl ?_ ?_
   focus
    have u:=j2.out (vq++(⟨#[47]⟩:r)++N) W1 x1.out
    go_wp2_with fail
    refine u.mono ?_;rintro e w2 ⟨hF,I⟩;clear u;obtain⟨pd,rfl⟩:∃ pd,e=.returned (.tuple #[ae (M pd),.bool j]):=by
     rcases hF with⟨Y,rfl⟩|⟨d,V,X,l',Y,rfl,_⟩
     .exact⟨al,rfl⟩
     .rw[n8.out]at Y;cases Y
    unfold M
    go_wp2_with fail
    refine zm I ?_
    repeat((first|apply zL rfl rfl rfl|apply zJ rfl rfl rfl);intro d0 hK;go_big_quiet_op;go_big_quiet_on)
    apply zH;exact rfl;obtain⟨W3,a7,f3,q3⟩:=zy w2 (P #[S f 0,S f 0,G ⟨#[]⟩,G ⟨#[]⟩,G ⟨#[]⟩,G ⟨#[]⟩,G ⟨#[]⟩,S f 0,S f 0,B Q 0 0] 36);have HX:H (Fr No wc W3):=(R.step I zi).step f3 zi;have o1:=I.size
    go_wp2_with fail
    refine zp ?_;rw[<-a7];clear a7 f3
   rotate_left 1
   focus
    obtain⟨W3,a7,f3,q2⟩:=zy W1 (P #[S f 0,S f 0,G ⟨#[]⟩,G ⟨#[]⟩,G ⟨#[]⟩,G ⟨#[]⟩,G ⟨#[]⟩,S f 0,S f 0,B Q 0 0] 36)
    go_wp2_with fail
    refine zp ?_;rw[<-a7];clear a7;have u:=j2.out (vq++(⟨#[47]⟩:r)++N) W3 (x1.out.step f3 zi);apply zH;exact rfl
    go_wp2_with fail
    refine u.mono ?_;rintro e w2 ⟨hF,I⟩;clear u;obtain⟨pd,rfl⟩:∃ pd,e=.returned (.tuple #[ae (M pd),.bool j]):=by
     rcases hF with⟨Y,rfl⟩|⟨d,V,X,l',Y,rfl,_⟩
     .exact⟨al,rfl⟩
     .rw[n8.out]at Y;cases Y
    unfold M;have q3:=I.heap q2 id;have HX:H (Fr No wc w2):=(R.step f3 zi).step I zi;clear q2 f3
    go_wp2_with fail
    refine zm I ?_
    repeat((first|apply zL rfl rfl rfl|apply zJ rfl rfl rfl);intro d0 hK;go_big_quiet_op;go_big_quiet_on)
   all_goals (
    apply zH;exact rfl;obtain⟨z0,z1,z2,z3,z4,z5,z6,z7,z8,z9⟩:=DevB.of (d:=⟨0,0,⟨#[]⟩,⟨#[]⟩,⟨#[]⟩,⟨#[]⟩,⟨#[]⟩,0,0,Q,0,0⟩) q3;obtain⟨y0,y1,y2,y3,y4,y5,y6,y7,y8,y9⟩:=DevF.of q3;have g0:=zh (zBA q3 rfl pd);have v3:=zC q3;clear q3
    go_wp2_with fail
    refine af ⟨g0.out.2.mono (λb _ h=>by omega),?_⟩
    repeat((first|apply zL rfl rfl rfl|apply zJ rfl rfl rfl);intro d0 hK;go_big_quiet_op;go_big_quiet_on)
    refine zV ?_
    go_wp2_with fail
    go_meet
    exact⟨⟨_,rfl⟩,rfl,HX.out.step g0.out.2 (λb hb h=>by omega)⟩
    )
  case rest=>
   obtain⟨⟨Bq,rfl⟩,rfl,I⟩:=hcut;have x2:=l8.step I zi;have b2:=I.heap l9 id;have k2:=I.heap m0 id;have p2:=I.heap p1 id;have o1:=I.size;clear l8 l9 m0 p1 I;obtain⟨v0,v1,v2⟩:wc.cell? ⟨w,0,Q⟩=E (G vq)/\wc.cell? ⟨w,1,Q⟩=E (G N)/\wc.cell? ⟨w,2,Q⟩=E (G O):=⟨zB b2 0,zB b2 1,zB b2 2⟩
   have l1:=zOe pb a5 a a6 ds (B ao no co) wc (Hl.out.no x2) hn k2 n9.out.nw
   go_upto_region 3 with(fail)
   go_cut [47] (λv wy=>v=.bool j/\wc=wy)
   case first=>
    rcases hB.out.2.2.1 with rfl|rfl
    .go_wp2_with fail
     go_meet
     exact⟨rfl,rfl⟩
    .rcases bb with _|_
     all_goals
      go_wp2_with fail
      go_meet
      exact⟨rfl,rfl⟩
   case rest=>
    obtain⟨rfl,rfl⟩:=hcut
    go_wp2_with fail
    refine l1.mono ?_;rintro e U ⟨⟨k,o2,m3,o4,rfl⟩,g1⟩;obtain⟨F,m4⟩:∃ F:K,F=1048576+(k:K):=⟨_,rfl⟩
    rw[<-m4]at m3 ⊢;have b6:=zg3 m4 (And.intro o2 o4) m3;clear m4 o2 m3 o4;have x4:=x2.step g1 zi;have b4:=g1.heap b2 id;have k4:=g1.heap k2 id;have p4:=g1.heap p2 id;have s4:=g1.size;obtain⟨v0,v1,v2⟩:U.cell? ⟨w,0,Q⟩=E (G vq)/\U.cell? ⟨w,1,Q⟩=E (G N)/\U.cell? ⟨w,2,Q⟩=E (G O):=⟨zB b4 0,zB b4 1,zB b4 2⟩
    obtain⟨W5,h0,f5,q5⟩:=zy U (P (M ⟨0,0,⟨#[]⟩,N,zS,⟨#[]⟩,⟨#[]⟩,2,F,Q,0,0⟩) 36);unfold M at h0;unfold zS at h0;dsimp only at h0;clear l1 g1 b2 k2 p2 x2
    go_upto_region 6 with(fail)
    rw[<-h0];clear h0 v0 v1 v2;have b5:=f5.heap b4 id;have D3:(w:C)<(U:C):=zC b4;have A2:=zC k4;have A3:=zC p4;have s5:=f5.size;have x5:=x4.step f5 zi;have k5:=f5.heap k4 id;have p5:=f5.heap p4 id;have H5:=zg4 b5 k5 p5 x5;have D4:=zh q5;clear f5 b4 k4 p4 x4;obtain⟨v0,v1,v2⟩:W5.cell? ⟨w,0,Q⟩=E (G vq)/\W5.cell? ⟨w,1,Q⟩=E (G N)/\W5.cell? ⟨w,2,Q⟩=E (G O):=⟨zB b5 0,zB b5 1,zB b5 2⟩
    clear b5 k5 p5 x5;have l5:=zC q5
    go_upto_if 59 with(fail)
    go_cut [59] (λ_ wx=>∃ aa,H (wx.heap[(U:C)]?=E (P (M (opG N F O aa)) 36)/\Atts wx aa (cAtt O).length (cAtt O)/\BlkT wx aa 78/\(∀ J,aa=E J->(W5:C)<=J.block))/\H (Fr (Is (U:C)) W5 wx))
    case first=>
     rcases hve:O.toList.isEmpty with _|_
     .have HC:H (cAtt O=[(zM,O)]):=by unfold H cAtt;simp[hve]
      have y9:(W5.alloc (P #[G ⟨#[99,111,110,116,101,110,116]⟩,G O] 78)).frozen? ⟨U,9,Q⟩=false:=zD (((L No W5).alloc _).heap q5 id) 9;have z9:(W5.alloc (P #[G ⟨#[99,111,110,116,101,110,116]⟩,G O] 78)).cell? ⟨U,9,Q⟩=E (B Q 0 0):=zB (((L No W5).alloc _).heap q5 id) 9;obtain⟨W6,h7⟩:∃ W6,W6=W5.setCell ⟨U,9,Q⟩ (B (E ⟨W5,0,Q⟩) 1 1):=⟨_,rfl⟩
      have f6:Fr (Is (U:C)) W5 W6:=by rw[h7];exact ab (L _ _) _
      have q6:W6.heap[(U:C)]?=E (P (M ⟨0,0,⟨#[]⟩,N,zS,⟨#[]⟩,⟨#[]⟩,2,F,E ⟨W5,0,Q⟩,1,1⟩) 36):=by rw[h7];exact zE q5 9 _
      have v4:(W6:C)=(W5:C):=by rw[h7];simp
      obtain⟨W7,j3,f7,-⟩:=zy W6 (P #[G zM,G O] 78);have e7:W7.heap[(W5:C)]?=E (P #[G zM,G O] 78):=by rw[<-v4,j3];exact zF _ _
      have q7:=f7.heap q6 id;have o5:Fr (Is (U:C)) W5 W7:=f6.step f7 zn;have HM:H (∃ aa,H (W7.heap[(U:C)]?=E (P (M (opG N F O aa)) 36)/\Atts W7 aa (cAtt O).length (cAtt O)/\BlkT W7 aa 78/\(∀ J,aa=E J->(W5:C)<=J.block))/\H (Fr (Is (U:C)) W5 W7)):=by
       refine⟨E ⟨W5,0,Q⟩,⟨by unfold opG;rw[HC.out];exact q7,?_,λJ e=>by cases e;exact⟨_,e7⟩,λJ e=>by cases e;exact Nat.le_refl _⟩,o5⟩;rw[HC.out];exact⟨by simp,by unfold maxLen;simp,(λe=>by cases e),(λx hx=>by simp at hx;subst hx;exact⟨(by decide:zM.size<=maxLen),t7⟩),λJ e _=>by
        cases e;refine⟨rfl,zC e7,λi x hi=>?_⟩;rcases i with _|i
        .simp at hi;subst hi;exact⟨zB e7 0,zB e7 1⟩
        .simp at hi⟩
      unfold zM at j3;clear q5 q6 f6 f7 e7 q7 o5
      go_wp2_with fail
      rw[<-h7,<-j3];clear j3 h7 z9 y9
      go_meet
      exact HM.out
     .have HC:H (cAtt O=[]):=by unfold H cAtt;simp[hve]
      have HM:H (∃ aa,H (W5.heap[(U:C)]?=E (P (M (opG N F O aa)) 36)/\Atts W5 aa (cAtt O).length (cAtt O)/\BlkT W5 aa 78/\(∀ J,aa=E J->(W5:C)<=J.block))/\H (Fr (Is (U:C)) W5 W5)):=by
       refine⟨Q,⟨by unfold opG;rw[HC.out];exact q5,by rw[HC.out];exact Atts.nil _,BlkT.none _ _,λJ e=>by cases e⟩,L _ _⟩
      clear q5
      go_wp2_with fail
      go_meet
      exact HM.out
    case rest=>
     obtain⟨aa,j4,h8⟩:=hcut;obtain⟨W7,rfl⟩:∃ W7,W7=wc:=⟨_,rfl⟩
     clear v0 v1 v2 q5;have b7:=h8.out.heap H5.out.1 (λh=>by omega);have k7:=h8.out.heap H5.out.2.1 (λh=>by omega);have p7:=h8.out.heap H5.out.2.2.1 (λh=>by omega);have q7:=j4.out.1;have D5:=h8.out.size;have X7:H (Fr No w W7):=H5.out.2.2.2.step h8.out (λb hb h=>by omega);have v0:W7.cell? ⟨w,0,Q⟩=E (G vq):=zB b7 0;obtain⟨n,m5⟩:∃ n,n=(cAtt O).length:=⟨_,rfl⟩
     have v5:=zh m5;have m6:opG N F O aa=⟨0,0,⟨#[]⟩,N,zS,⟨#[]⟩,⟨#[]⟩,2,F,aa,n,n⟩:=by unfold opG;rw[m5]
     have v6:=zh m6;rw[m6]at q7;clear m5 m6;obtain⟨c0,c1,c2,c3,c4,c5,c6,c7,c8,c9⟩:=DevB.of q7;obtain⟨W8,j5,f8,o8⟩:=zy W7 (P (ocs 1 vq ⟨0,0,⟨#[]⟩,N,zS,⟨#[]⟩,⟨#[]⟩,2,F,aa,n,n⟩ ⟨#[]⟩ ⟨#[]⟩) 38);unfold ocs at j5;dsimp only at j5
     go_upto_region 9 with(fail)
     rw[<-j5];clear j5 v0 c0 c1 c2 c3 c4 c5 c6 c7 c8 c9;have q8:=f8.heap q7 id;have b8:=f8.heap b7 id;have k8:=f8.heap k7 id;have p8:=f8.heap p7 id;have x8:=X7.out.step f8 zi;have s8:=f8.size;have D6:=zC o8;have j6:(w:C)≠(U:C)/\Bp≠(U:C)/\pb≠(U:C)/\(W7:C)≠(U:C):=by
      refine⟨?_,?_,?_,?_⟩<;>omega
     have h9:H (Atts W8 aa (cAtt O).length (cAtt O)/\BlkT W8 aa 78/\∀ J,aa=E J->J.block≠(U:C)/\(w:C)<=J.block):=⟨j4.out.2.1.no f8 (λ_=>id),j4.out.2.2.1.fr f8 (λ_ _=>id),λJ e=>by have:=j4.out.2.2.2 J e;omega⟩
     clear q7 b7 k7 p7 f8;refine zQ (Is (U:C)) [(0,j),(1,j),(2,j),(3,j),(4,j),(5,j),(6,j),(7,a0),(8,j),(9,a0),(10,j),(11,a0)] (by kernel_rfl) (by kernel_rfl) (λwa i1=>?_);have qa:=i1.heap q8 id;have ba:=i1.heap b8 id;have pa:=i1.heap p8 id;have t1:∀ g:Gr (Is (U:C)) wa,g.W.cell? ⟨w,1,Q⟩=E (G N):=λg=>zB (g.fr.heap ba (λh=>j6.1 h)) 1
     have t0:∀ g:Gr (Is (U:C)) wa,g.W.cell? ⟨Bp,0,Q⟩=E (S f p):=λg=>by rw[<-hB.out.2.1];exact zB (g.fr.heap pa (λh=>j6.2.1 h)) 0
     repeat((first|apply zT rfl rfl rfl|apply zU rfl rfl rfl);intro d0 hK;go_big_quiet_op;go_big_quiet_on)
     clear t0 t1;apply zt;exact rfl;have y:=zD qa 2;have z:wa.cell? ⟨U,2,Q⟩=E (G ⟨#[]⟩):=(DevB.of qa).c2;obtain⟨wb,d3⟩:∃ wb,wb=wa.setCell ⟨U,2,Q⟩ (G N):=⟨_,rfl⟩
     have o6:Fr (Is (U:C)) wa wb:=by rw[d3];exact ab (L _ _) _
     have qb:wb.heap[(U:C)]?=E (P (M ⟨0,0,N,N,zS,⟨#[]⟩,⟨#[]⟩,2,F,aa,n,n⟩) 36):=by rw[d3];exact zE qa 2 _
     go_wp2_with fail
     refine af ⟨ab (L _ _) _,?_⟩;rw[<-d3];clear d3 y z qa
     repeat((first|apply zT rfl rfl rfl|apply zU rfl rfl rfl);intro d0 hK;go_big_quiet_op;go_big_quiet_on)
     apply zt;exact rfl;have y:=zD qb 1;have z:wb.cell? ⟨U,1,Q⟩=E (S f 0):=(DevB.of qb).c1;obtain⟨wd,d4⟩:∃ wd,wd=wb.setCell ⟨U,1,Q⟩ (S f p):=⟨_,rfl⟩
     have o7:Fr (Is (U:C)) wb wd:=by rw[d4];exact ab (L _ _) _
     have qd:wd.heap[(U:C)]?=E (P (M ⟨0,p,N,N,zS,⟨#[]⟩,⟨#[]⟩,2,F,aa,n,n⟩) 36):=by rw[d4];exact zE qb 1 _
     go_wp2_with fail
     refine af ⟨ab (L _ _) _,?_⟩;rw[<-d4];clear d4 y z qb
     repeat((first|apply zT rfl rfl rfl|apply zU rfl rfl rfl);intro d0 hK;go_big_quiet_op;go_big_quiet_on)
     apply zt;exact rfl;have y:=zD qd 0;have z:wd.cell? ⟨U,0,Q⟩=E (S f 0):=(DevB.of qd).c0;obtain⟨Z,d5⟩:∃ Z,Z=wd.setCell ⟨U,0,Q⟩ (S f (maxI ds+1)):=⟨_,rfl⟩
     have p0:Fr (Is (U:C)) wd Z:=by rw[d5];exact ab (L _ _) _
     have q9:Z.heap[(U:C)]?=E (P (M ⟨maxI ds+1,p,N,N,zS,⟨#[]⟩,⟨#[]⟩,2,F,aa,n,n⟩) 36):=by rw[d5];exact zE qd 0 _
     go_wp2_with fail
     refine af ⟨ab (L _ _) _,?_⟩;rw[<-d5];clear d5 y z qd;refine zb ?_;have d1:Fr (Is (U:C)) W8 Z:=(((i1.mono zn).step o6 zi).step o7 zi).step p0 zi;have k9:=d1.heap k8 (λh=>j6.2.2.1 h);have o9:=d1.heap o8 (λh=>j6.2.2.2 h);have x9:Fr No w Z:=x8.step d1 (λb hb h=>by omega);have D7:=x9.size;have D8:=d1.size;have g2:H (Atts Z aa (cAtt O).length (cAtt O)/\BlkT Z aa 78/\∀ J,aa=E J->(w:C)<=J.block):=⟨h9.out.1.fr d1 (λJ e _ h=>(h9.out.2.2 J e).1 h),h9.out.2.1.fr d1 (λJ e h=>(h9.out.2.2 J e).1 h),λJ e=>(h9.out.2.2 J e).2⟩
     clear q8 b8 k8 p8 o8 x8 i1 o6 o7 p0 d1 ba pa;obtain⟨D,hD⟩:∃ D,D=newG ds p N F O aa:=⟨_,rfl⟩
     obtain⟨a8,a2⟩:∃ a8,a8=insAt ds (insK ds D) D:=⟨_,rfl⟩
     have a3:InsPre ds D (cAtt O)/\Sized D/\(sameO ds D||ds.any (clP D))=j/\TreeWf a8:=by
      rw[a2,hD,b6.out.1];exact n9.out.pre k b6.out.2.1.1 (by rw[<-b6.out.1];exact b6.out.2.2) aa
     have j7:D=⟨maxI ds+1,p,N,N,zS,⟨#[]⟩,⟨#[]⟩,2,F,aa,n,n⟩:=by rw[hD];unfold newG;rw[v5.out]
     obtain⟨m,hm⟩:=HE.out.len;have D9:=HE.out.sz;have j8:H (∀ W,Fr No Z W->Calls Tryz.prog 42 #[ae #[B a ds.length a6],ae (M ⟨maxI ds+1,p,N,N,zS,⟨#[]⟩,⟨#[]⟩,2,F,aa,n,n⟩)] W λe w'=>(∃ V X A,e=.returned (.tuple #[ae #[B V (A:ag Dev).length X],S f 0])/\TMk W w' a8 V X A)/\Fr No W w'):=λW hf=>by
      have hw:=x9.step hf zi;rw[<-j7];refine(zDc a a6 ds a5 D (cAtt O) m W (Hl.out.no hw) a3.2.1 (by rw[hD];exact g2.out.1.no hf (λ_=>id)) (zCl O) (by rw[hD];rfl) (by rw[hD];rfl) (by rw[hD];rfl) (by rw[hD];exact t8) (by rw[hD];exact WalkArith.wf_i64 (by show _/\_;unfold newG;dsimp only;omega)) a3.1 (hw.cell hm id) (by have:=hw.size;show 0<_;omega)).mono λe w' h=>⟨?_,h.2⟩
      rcases h.1 with h1|⟨_,V,X,A,h2,h3,h4,h5,h6⟩
      .have:=h1.1;rw[a3.2.2.1]at this;cases this
      .exact⟨V,X,A,h2,by rw[a2];exact⟨h3,h4,h5,h6⟩⟩
     have p3:H (∀ z∈a8,∃ l,Atts Z z.aa z.ac l/\z.an=l.length):=λz hz=>by
      rw[a2]at hz;rcases zX.1 hz with h|h
      .rw[h,hD];exact⟨_,g2.out.1,rfl⟩
      .have:=l6.out z h;exact⟨_,this.1.no x9 (λ_=>id),this.2⟩
     have v7:=zg4 hD a2 a3 j7;have i2:=zg2 o9 x9;have p9:=zh k9;have F0:=zC o9;unfold M at j8;unfold zS at j8;clear hD a2 a3 j7 hm
     go_upto_region 10 with(fail)
     go_cut [12,13] (λp7 v8 wx=>∃ B' V X A,p7=ak (E ⟨B',0,Q⟩)/\v8=S f 0/\H (wx.heap[B']?=E (P #[B V (aj A) X] 47)/\TMk Z wx a8 V X A/\(Z:C)<=B')/\Fr No Z wx)
     case first=>
      refine zZ (λb=>(Z:C)<=b) (.q 0 (.q 1 (.q 2 (.q 3 (.q 4 (.m2 5 (.q 6 (.q 7 (.q 8 (.m1 9 (.m1 10 (.q 11 .fin)))))) 9 (.m1 5 (.q 6 (.q 7 (.q 8 (.m1 10 (.q 11 .fin)))))))))))) _ (by kernel_rfl) (by kernel_rfl) (λWB i3=>?_) zj;have b1:=i3.heap q9 id;have p1:=i3.heap k9 id;have v9:=i3.size;have t0:∀ g:Gr (λb=>(Z:C)<=b) WB,g.W.cell? ⟨pb,0,Q⟩=E (B a ds.length a6):=λg=>zB (g.fr.heap p1 (λh=>by omega)) 0
      have cB:∀ g:Gr (λb=>(Z:C)<=b) WB,DevB g.W (U:C) ⟨maxI ds+1,p,N,N,zS,⟨#[]⟩,⟨#[]⟩,2,F,aa,n,n⟩:=λg=>DevB.of (g.fr.heap b1 (λh=>by omega))
      unfold zS at cB;have e0:=λg=>(cB g).c0
      have e1:=λg=>(cB g).c1
      have e2:=λg=>(cB g).c2
      have e3:=λg=>(cB g).c3
      have e4:=λg=>(cB g).c4
      have e5:=λg=>(cB g).c5
      have e6:=λg=>(cB g).c6
      have e7:=λg=>(cB g).c7
      have e8:=λg=>(cB g).c8
      have e9:=λg=>(cB g).c9
      have xB:=zh i3;clear cB b1 p1 i3;dsimp only at e0 e1 e2 e3 e4 e5 e6 e7 e8 e9
      repeat((first|apply zL rfl rfl rfl|apply zJ rfl rfl rfl);intro d0 hK;go_big_quiet_op;go_big_quiet_on)
      clear t0 e0 e1 e2 e3 e4 e5 e6 e7 e8 e9;refine zAA rfl rfl ?_ ?_
      focus
       have u:=j8.out WB xB.out
       go_wp2_with fail
       refine u.mono ?_;rintro e wD ⟨⟨V,X,A,rfl,hT⟩,j9⟩;have sD:=j9.size;have XD:H (Fr No Z wD):=xB.out.step j9 zi;have HT:=zh (hT.src xB.out p3.out);clear u hT
       go_wp2_with fail
       refine zm j9 ?_
       repeat((first|apply zL rfl rfl rfl|apply zJ rfl rfl rfl);intro d0 hK;go_big_quiet_op;go_big_quiet_on)
       apply zH;exact rfl;obtain⟨WC,i4,fC,qC⟩:=zy wD (P #[B Q 0 0] 47)
       go_wp2_with fail
       refine zp ?_;rw[<-i4];clear i4;have HF:H (Fr No Z WC/\TMk Z WC a8 V X A/\(Z:C)<=(wD:C)):=⟨XD.out.step fC zi,HT.out.no fC,by omega⟩
       clear fC j9;generalize (wD:C)=B' at *;apply zH;exact rfl;have y0:=zD qC 0;have z0:WC.cell? ⟨B',0,Q⟩=E (B Q 0 0):=zB qC 0;have fB:Fr (Is B') WC (WC.setCell ⟨B',0,Q⟩ (B V A.length X)):=ab (L _ _) _;have HR:H ((WC.setCell ⟨B',0,Q⟩ (B V A.length X)).heap[B']?=E (P #[B V A.length X] 47)/\TMk Z (WC.setCell ⟨B',0,Q⟩ (B V A.length X)) a8 V X A/\(Z:C)<=B'):=⟨zE qC 0 _,HF.out.2.1.put fB qC (by decide) (by decide),HF.out.2.2⟩
       have HX:H (Fr No Z (WC.setCell ⟨B',0,Q⟩ (B V A.length X))):=HF.out.1.step fB (λb hb h=>by have:=HF.out.2.2;omega)
      rotate_left 1
      focus
       obtain⟨WC,i4,fC,qB⟩:=zy WB (P #[B Q 0 0] 47)
       go_wp2_with fail
       refine zp ?_;rw[<-i4];clear i4;have xC:=zh (xB.out.step fC zi);have u:=j8.out WC xC.out;apply zH;exact rfl
       go_wp2_with fail
       refine u.mono ?_;rintro e wE ⟨⟨V,X,A,rfl,hT⟩,k0⟩;have qC:=k0.heap qB id;have HF:H (Fr No Z wE/\TMk Z wE a8 V X A/\(Z:C)<=(WB:C)):=⟨xC.out.step k0 zi,hT.src xC.out p3.out,v9⟩
       clear u hT qB fC
       go_wp2_with fail
       refine zm k0 ?_;clear k0
       repeat((first|apply zL rfl rfl rfl|apply zJ rfl rfl rfl);intro d0 hK;go_big_quiet_op;go_big_quiet_on)
       generalize (WB:C)=B' at *;apply zH;exact rfl;have y0:=zD qC 0;have z0:wE.cell? ⟨B',0,Q⟩=E (B Q 0 0):=zB qC 0;have fB:Fr (Is B') wE (wE.setCell ⟨B',0,Q⟩ (B V A.length X)):=ab (L _ _) _;have HR:H ((wE.setCell ⟨B',0,Q⟩ (B V A.length X)).heap[B']?=E (P #[B V A.length X] 47)/\TMk Z (wE.setCell ⟨B',0,Q⟩ (B V A.length X)) a8 V X A/\(Z:C)<=B'):=⟨zE qC 0 _,HF.out.2.1.put fB qC (by decide) (by decide),HF.out.2.2⟩
       have HX:H (Fr No Z (wE.setCell ⟨B',0,Q⟩ (B V A.length X))):=HF.out.1.step fB (λb hb h=>by have:=HF.out.2.2;omega)
      all_goals (
       have HB:H ((Z:C)<=B'):=HF.out.2.2;clear fB qC
       go_wp2_with fail
       refine af ⟨am (L _ _) (λ_=>HB.out) _,?_⟩
       repeat((first|apply zL rfl rfl rfl|apply zJ rfl rfl rfl);intro d0 hK;go_big_quiet_op;go_big_quiet_on)
       refine zV ?_
       go_wp2_with fail
       go_meet
       exact⟨B',V,X,A,rfl,rfl,HR,HX.out⟩
       )
     case rest=>
      obtain⟨B',V,X,A,rfl,rfl,m7,i5⟩:=hcut;obtain⟨WC,rfl⟩:∃ WC,WC=wc:=⟨_,rfl⟩
      have A4:=m7.out.2.2;have kq:=i5.heap p9.out id;have oq:=i5.heap i2.out.1 id;have tq:=m7.out.1;have sq:=i5.size;have F1:=zC tq;have l2:∀ b,(t ao no co).ownBlock=E b->b<(w:C):=λb h=>(zAD g7.out.1 h).2
      have r0:=zh i5;have k3:H (∀ W3,Fr No WC W3->∀ w6 av cv,Fr (λb=>b=pb\/(t ao no co).ownBlock=E b) W3 w6->w6.heap[pb]?=E (P #[B V (aj A) X,B av (no+1) cv] 102)->w6.ownsRow rb 38 14 (B av (no+1) cv) (no+1) (opF j1++(ocs 1 vq ⟨0,0,⟨#[]⟩,N,zS,⟨#[]⟩,⟨#[]⟩,2,F,aa,n,n⟩ ⟨#[]⟩ ⟨#[]⟩).toList)->AddR pb rb a5 w ds ct j1 no vq N O p w6/\Fr (λb=>b=pb\/(t ao no co).ownBlock=E b) w w6):=by
       intro W3 a9 w6 av cv k6 w0 w1;obtain⟨hD,a2,a3,j7⟩:=v7.out;have i6:=r0.out.step a9 zi;have i7:=i6.heap p9.out id;have d6:=zG g7.out.1 (i2.out.2.step i6 zi) (λ_ _=>id);have hS:∀ b,(b=pb\/(t ao no co).ownBlock=E b)->∀ cs T,W3.heap[b]?=E (P cs T (0,0))->T≠36/\T≠78:=λb hb cs T hc=>by
        rcases hb with rfl|hb
        .rw[i7]at hc;cases hc;exact⟨by decide,by decide⟩
        .by_cases hT:T=38
         .subst hT;exact⟨by decide,by decide⟩
         .exact absurd hb (zK d6 hc hT)
       have b9:=(m7.out.2.1.no a9).fr k6 hS;have r1:=b9.cop.strip;have w3:Tr w6 a5 V X A:=b9.cop.tr (λz hz=>by
        rw[a2]at hz;rcases zX.1 hz with h|h
        .rw[h];exact⟨a3.2.1,by rw[hD];rfl⟩
        .exact⟨(Hl.out.el z h).sz,(Hl.out.el z h).drv⟩) b9.dv (TreeWf.ofStrip a3.2.2.2 r1) b9.fresh (by have:=g7.out.2.1;omega)
       have w5:TrT w6 V A:=λb hb=>by
        rcases hb with⟨J,e,rfl⟩|⟨z,hz,J,e,rfl⟩
        .obtain⟨s3,hq⟩:=b9.bt J e;exact⟨s3,_,hq,.inl rfl⟩
        .obtain⟨z0,_,g4⟩:=b9.cop.mem hz;obtain⟨s3,hq⟩:=g4.typ J e;exact⟨s3,_,hq,.inr rfl⟩
       have w7:CtO Z a8 (updC ct (maxI ds+1) O):=λz hz=>by
        rw[a2]at hz;rcases zX.1 hz with h|h
        .rw[h];have e1:(λi=>cAtt (updC ct (maxI ds+1) O i)) D.index=cAtt O:=by rw[hD];show cAtt (updC ct (maxI ds+1) O (maxI ds+1))=_;unfold updC;rw[if_pos rfl]
         rw[e1,hD];exact⟨g2.out.1,rfl⟩
        .have w8:z.index≠maxI ds+1:=λe=>by
          have:=(zo.1 a3.1.new) z h;rw[hD]at this;exact this e
         have e1:(λi=>cAtt (updC ct (maxI ds+1) O i)) z.index=cAtt (ct z.index):=by show cAtt (updC ct (maxI ds+1) O z.index)=_;unfold updC;rw[if_neg w8]
         rw[e1];exact⟨(l6.out z h).1.no i2.out.2 (λ_=>id),(l6.out z h).2⟩
       have r2:BlkT W3 aa 78:=g2.out.2.1.fr i6 (λ_ _=>id);have r3:∀ J,aa=E J->¬ (J.block=pb\/(t ao no co).ownBlock=E J.block):=λJ e h=>by
        obtain⟨s3,hq⟩:=r2 J e;exact(hS _ h _ _ hq).2 rfl
       refine⟨⟨k,aa,V,X,A,av,cv,b6.out.2.1,by rw[<-b6.out.1];exact b6.out.2.2,w0,w3,by rw[<-b6.out.1,<-hD,<-a2];exact r1,?_,w5,w7.cop b9.cop,((g2.out.1.no i6 (λ_=>id)).fr k6 (λJ e _=>r3 J e)),r2.fr k6 r3,g2.out.2.2,λb hb=>?_⟩,((i2.out.2.step i6 zi).mono zn).step k6 (λb _ h=>h)⟩
       .rw[zFO,<-b6.out.1];unfold OpA.vals;dsimp only;rw[v6.out];exact w1
       .rcases hb with⟨J,e,rfl⟩|⟨z,hz,J,e,rfl⟩
        .have:=b9.fresh J e;omega
        .obtain⟨z0,_,g4⟩:=b9.cop.mem hz;have:=g4.fresh J e;omega
      clear i5
      go_upto_region 12 with(fail)
      refine zZ (λb=>b=pb\/(t ao no co).ownBlock=E b\/(WC:C)<=b) (.q 0 (.q 1 (.q 2 (.q 3 (.q 4 (.q 6 (.q 9 (.m2 5 (.m1 7 (.m1 8 (.q 10 (.q 11 (.m1 12 (.q 13 (.q 14 (.m1 15 .fin)))))))) 7 (.m1 5 (.m1 8 (.q 10 (.q 11 (.m1 12 (.q 13 (.q 14 (.m1 15 .fin)))))))))))))))) _ (by kernel_rfl) (by kernel_rfl) (λW3 a9=>?_) zj;have i7:=a9.heap kq id;have o3:=a9.heap oq id;have t3:=a9.heap tq id;have d6:=zG g7.out.1 ((i2.out.2.step r0.out zi).step a9 zi) (λ_ _=>id);have r4:=zK d6 i7 (by decide);have w9:=zh a9;have x3:H ((w:C)<=(W3:C)):=by have:=a9.size;unfold H;omega
      have r5:H (rb<=(W3:C)):=by have:=g7.out.2.2;have:=x3.out;unfold H;omega
      have cO:∀ g:Gr (λb=>b=pb\/(t ao no co).ownBlock=E b\/(WC:C)<=b) W3,OpB g.W (W7:C) 1 vq ⟨0,0,⟨#[]⟩,N,zS,⟨#[]⟩,⟨#[]⟩,2,F,aa,n,n⟩ ⟨#[]⟩ ⟨#[]⟩:=λg=>OpB.of (g.fr.heap o3 (λh=>by rcases h with h|h|h<;>first|omega|(have:=l2 _ h;omega)))
      have c0:=λg=>(cO g).c0
      have c1:=λg=>(cO g).c1
      have c2:=λg=>(cO g).c2
      have c3:=λg=>(cO g).c3
      have c4:=λg=>(cO g).c4
      have c5:=λg=>(cO g).c5
      have c6:=λg=>(cO g).c6
      have c7:=λg=>(cO g).c7
      have c8:=λg=>(cO g).c8
      have c9:=λg=>(cO g).c9
      have r6:=λg=>(cO g).c10
      have r7:=λg=>(cO g).c11
      have r8:=λg=>(cO g).c12
      have r9:=λg=>(cO g).c13
      have t0:∀ g:Gr (λb=>b=pb\/(t ao no co).ownBlock=E b\/(WC:C)<=b) W3,g.W.cell? ⟨B',0,Q⟩=E (B V (aj A) X):=λg=>zB (g.fr.heap t3 (λh=>by rcases h with h|h|h<;>first|omega|(have:=l2 _ h;omega))) 0
      clear cO o3 t3 a9;dsimp only at c0 c1 c2 c3 c4 c5 c6 c7 c8 c9 r6 r7 r8 r9
      repeat((first|apply zL rfl rfl rfl|apply zJ rfl rfl rfl);intro d0 hK;go_big_quiet_op;go_big_quiet_on)
      clear t0 c0 c1 c2 c3 c4 c5 c6 c7 c8 c9 r6 r7 r8 r9;have c5:W3.cell? ⟨pb,1,Q⟩=E (B ao no co):=zB i7 1;refine zAA rfl rfl ?_ ?_
      focus
       go_wp2_with fail
       refine zq ?_;apply zH;exact rfl;clear c5
       go_wp2_with fail
       refine zp ?_
      rotate_left 1
      focus
       go_wp2_with fail
       refine zp ?_;apply zH;exact rfl;have c7:∀ o,(W3.alloc o).cell? ⟨pb,1,Q⟩=E (B ao no co):=λo=>((L No W3).alloc o).cell c5 id
       clear c5
       go_wp2_with fail
       refine zq ?_;clear c7
      all_goals (
       apply zH;exact rfl
       go_wp2_with (at_builtin;refine wpList_append_own_at _ rfl _ _ 53 rfl rb 38 i0 (ae #[S f 0,G ah,S f 0,S f 0,G ah,G ah,G ah,G ah,G ah,S f 0,S f 0,B Q 0 0,G ah,G ah]) 14 192 Tryz.underlying53 s6 g4 s7 s9 rfl (by decide) _ _ _ rfl (zG d6 ((L No W3).alloc _) (λ_ _=>id)) ⟨W3,0,Q⟩ 1 1 (ocs 1 vq ⟨0,0,⟨#[]⟩,N,zS,⟨#[]⟩,⟨#[]⟩,2,F,aa,n,n⟩ ⟨#[]⟩ ⟨#[]⟩).toList rfl rfl (zg _ (ocs 1 vq ⟨0,0,⟨#[]⟩,N,zS,⟨#[]⟩,⟨#[]⟩,2,F,aa,n,n⟩ ⟨#[]⟩ ⟨#[]⟩) _ rfl) (zCz _ _ _ _ _) (by unfold maxLen;omega) (by omega) (by have:=r5.out;rw[World.size_alloc];omega) ?_;intro v' i8 a4 d7 _ s0;obtain⟨m8,m9,rfl⟩:=zI a4)
       have s1:Fr No W3 (W3.alloc (P (ocs 1 vq ⟨0,0,⟨#[]⟩,N,zS,⟨#[]⟩,⟨#[]⟩,2,F,aa,n,n⟩ ⟨#[]⟩ ⟨#[]⟩) 38)):=(L _ _).alloc _;have n2:Fr (λb=>(t ao no co).ownBlock=E b) (W3.alloc (P (ocs 1 vq ⟨0,0,⟨#[]⟩,N,zS,⟨#[]⟩,⟨#[]⟩,2,F,aa,n,n⟩ ⟨#[]⟩ ⟨#[]⟩) 38)) i8:=Fr.of_grown d7;have n3:Fr (λb=>(t ao no co).ownBlock=E b) W3 i8:=(s1.mono zn).step n2 (λb _ h=>h);have g3:=n3.heap i7 r4;have f1:=zD g3 1;have z1:i8.cell? ⟨pb,1,Q⟩=E (B ao no co):=zB g3 1;refine af ⟨n2.mono (λb _ h=>.inr (.inl h)),?_⟩
       repeat((first|apply zL rfl rfl rfl|apply zJ rfl rfl rfl);intro d0 hK;go_big_quiet_op;go_big_quiet_on)
       apply zH;exact rfl;obtain⟨d2,d8⟩:∃ d2,d2=i8.setCell ⟨pb,1,Q⟩ (B m8 (no+1) m9):=⟨_,rfl⟩
       have g5:Fr (Is pb) i8 d2:=by rw[d8];exact ab (L _ _) _
       have i9:d2.heap[pb]?=E (P #[B a ds.length a6,B m8 (no+1) m9] 102):=by rw[d8];exact zE g3 1 _
       go_wp2_with fail
       refine af ⟨am (L _ _) (λ_=>.inl rfl) _,?_⟩;rw[<-d8];clear d8 f1 z1
       repeat((first|apply zL rfl rfl rfl|apply zJ rfl rfl rfl);intro d0 hK;go_big_quiet_op;go_big_quiet_on)
       apply zH;exact rfl;have f0:=zD i9 0;have z0:d2.cell? ⟨pb,0,Q⟩=E (B a ds.length a6):=zB i9 0;obtain⟨j0,d9⟩:∃ j0,j0=d2.setCell ⟨pb,0,Q⟩ (B V (aj A) X):=⟨_,rfl⟩
       have g6:Fr (Is pb) d2 j0:=by rw[d9];exact ab (L _ _) _
       have s2:j0.heap[pb]?=E (P #[B V (aj A) X,B m8 (no+1) m9] 102):=by rw[d9];exact zE i9 0 _
       go_wp2_with fail
       refine af ⟨am (L _ _) (λ_=>.inl rfl) _,?_⟩;rw[<-d9];clear d9 f0 z0;refine zV ?_;have x6:H (Fr (λb=>b=pb\/(t ao no co).ownBlock=E b) W3 j0):=((n3.mono (λb _ h=>.inr h)).step g5 (λb _ h=>.inl h)).step g6 (λb _ h=>.inl h);have x7:=zh s2;have A0:=zh (zG (zG a4 g5 (λb hb h=>zK a4 g3 (by decide) (by unfold Is at h;rw[<-h];exact hb))) g6 (λb hb h=>zK (zG a4 g5 (λb hb h=>zK a4 g3 (by decide) (by unfold Is at h;rw[<-h];exact hb))) i9 (by decide) (by unfold Is at h;rw[<-h];exact hb)));clear a4 d7 s0 n2 s1 n3 g3 i9 g5 g6 s2
       go_wp2_with fail
       go_end0
       exact⟨rfl,k3.out W3 w9.out _ _ _ x6.out x7.out A0.out⟩
       )
end Go.Proofs.YtckkocmhlhefpaaGreatDoor
