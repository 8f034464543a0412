import Derived.Test.YtckkocmhlhefpaaGreatDoorQ38
import Derived.Lib.SlBytesRow
namespace Go.Proofs.YtckkocmhlhefpaaGreatDoor
open Go.RowKit Go.Maps
set_option linter.unusedVariables false
set_option maxRecDepth 100000
set_option maxHeartbeats 8000000
open Atts renaming nil->be
open BlkT renaming none->bf
open Fr renaming refl->ae,setAt->aw,of_grown->az
open Go renaming Addr->ak,World->am,Value->an,maxLen->aq,wpList_append_own->bd,cell_one_new->bh,info_parts->bi
open Go.Proofs renaming intOf->ai
open Go.Proofs.Tryz renaming prog->ax,underlying30->bg
open Go.RowKit renaming Hid->K
open Go.Value renaming slice->ag,string->ay
open Go.World renaming ownsRow_nil->bc
open IntKind renaming i64->a0
open Obj renaming cells->M
open Rec renaming vals->ar
open Strs renaming nil->ba,of_own->bp
open Value renaming slice->B,string->f,int->s,pointer->au
open _root_ renaming Nat->C,Int->a1,List->ab,ByteArray->af,Option->aj
open _root_.ByteArray renaming empty->ah
open _root_.Int renaming eq_ofNat_of_zero_le->bj
open _root_.List renaming length_append->ao,mem_of_getElem?->ap,map_append->bm
open _root_.Nat renaming le_refl->bn,zero_add->bo
open _root_.Option renaming none->Q,some->G
variable{i m u o:C}{L:ab Dev}{w:am}{e:TypeId}{v:an}{S:C->Prop}
def diskN (i:C):af:=⟨#[115,100,UInt8.ofNat (97+i)]⟩
theorem zEw (h:1<=i)(o:i<=4):diskN i∈rootN:=by
 rcases(by omega:i=1\/i=2\/i=3\/i=4)with rfl|rfl|rfl|rfl
 .exact ap (i:=0) (by kernel_rfl)
 .exact ap (i:=1) (by kernel_rfl)
 .exact ap (i:=2) (by kernel_rfl)
 .exact ap (i:=3) (by kernel_rfl)
theorem zKl {j:C}(o:i<=4)(u:j<=4)(e:diskN i=diskN j):i=j:=by
 have h:=congrArg (λb:af=>b.data.toList[2]?.map UInt8.toNat) e;simp[diskN]at h;omega
structure DisksOk (L:ab Dev)(i m:C):Prop where
 el:∀ e∈L,e.parent=0/\∃ k:C,i<k/\k<=4/\e.num=k/\e.orig=diskN k
 has:∀ k:C,i<k->k<=m->∃ e∈L,e.orig=diskN k
theorem DisksOk.step (h:DisksOk L (i+1) m)(D:i<4){x:Dev}{ix:a1}(y:x.num=(i+1:C))(v:x.orig=diskN (i+1))(k:C):DisksOk (insAt L k (strip (addD x ix 0))) i m:=by
 refine⟨λe o=>?_,λj F u=>?_⟩
 .rcases zX.1 o with rfl|o
  .exact⟨rfl,i+1,by omega,by omega,y,v⟩
  .obtain⟨z,k,I,A⟩:=h.el e o;exact⟨z,k,by omega,A⟩
 .by_cases e:j=i+1
  .subst e;exact⟨_,zX.2 (.inl rfl),v⟩
  .obtain⟨e,o,g⟩:=h.has j (by omega) u;exact⟨e,zX.2 (.inr o),g⟩
theorem DisksOk.free (h:DisksOk L (i+1) m)(z:i<4):∀ e∈L,e.orig≠diskN (i+1)/\e.num≠(i+1:C):=λe u=>by
 obtain⟨A,k,D,v,F,y⟩:=h.el e u;refine⟨λo=>?_,by omega⟩;rw[y]at o;have:=zKl v (by omega) o;omega
theorem zMO (W:am)(x:UInt8)(n:a1)(h:n=(x.toNat:a1)):(convert 67 9 (B (G ⟨W,0,Q⟩) 1 1)).run ax (W.alloc (M #[s .u8 n] 5))=.ok (f ⟨#[x]⟩) (W.alloc (M #[s .u8 n] 5)):=by
 subst h;refine Lib.run_convert_whole (P:=ax) _ 67 5 9 Tryz.underlying67 Tryz.underlying5 Tryz.underlying9 (W:C) 0 ⟨#[x]⟩ (λi o=>?_) 1;have:i=0:=by have u:i<1:=o;omega
 subst this;rw[zB (zF _ _)];rfl
theorem zNq (O o tb kk:C)(a3:a1->af)(w:am)(hK:KA w O o [] a3 0 0)(ht:Tape w tb tb kk)(i1:tb<O)(i2:O<o)(N:o<=(w:C))(hE:Env w)(h8:8<tb)(i3:kk<=1000):
  Calls ax 5 #[au (G ⟨tb,0,Q⟩),au (G ⟨O,0,Q⟩),s a0 4] w λe w'=>(∃ (a:aj ak) (F c:C) (L:ab Dev) (ct:a1->af) (ix:a1) (n m u:C),e=.returned (B a F c)/\KA w' O o L ct ix n/\UOk L ct ix/\DisksOk L 0 m/\1<=m/\m<=4/\0<=ix/\ix<=4/\n<=4/\u<=kk+9/\Tape w' tb tb u)/\Fr (From tb) w w':=by
 obtain⟨i0,d8,d9,e0,e1⟩:=bi infoS;have I:=zAg tb tb kk 4 w ht (by omega) (by omega) (by omega);have HK:=zh hK;have HE:=zh hE;clear hK hE ht
 go_enter Tryz.func5,Tryz.ntmps5
 go_wp2_with fail
 refine I.mono ?_;rintro e w1 ⟨h4,rfl,e2,i4,a9,R⟩;obtain⟨h4,rfl⟩:=bj e2;have e3:K (KA w1 O o [] a3 0 0):=HK.out.low (by omega) R (λb N _ h=>by omega);have e4:K (Fr (From tb) w w1):=R.mono (λb _ h=>by omega);have e5:=zh a9;have s1:=R.size;clear I a9 R;obtain⟨m,hm⟩:∃ m,m=h4+1:=⟨_,rfl⟩
 have i5:m<=4:=by omega
 go_wp2_with fail
 go_loopw [7,8] (λv x wr=>∃ (i n u:C) (L:ab Dev) (ct:a1->af) (ix:a1) (av:aj ak) (F cv:C) (xs:ab an),i<=m/\x=s a0 (i:a1)/\v=B av F cv/\F+i<=m/\n+i<=m/\0<=ix/\ix+i<=m/\u+2*i<=kk+9/\o<=(wr:C)/\K (KA wr O o L ct ix n/\UOk L ct ix/\DisksOk L i m)/\K (Tape wr tb tb u)/\K (wr.ownsRow (w:C) 9 1 (B av F cv) F xs)/\K (Fr (From tb) w wr)) (λ_ x _=>(ai x).toNat)
 case atStart=>exact⟨m,0,kk+1,[],a3,0,Q,0,0,[],by omega,by rw[hm];first|rfl|(go_num;done)|(simp;done)|(simp;omega),rfl,by omega,by omega,by omega,by omega,by omega,by omega,⟨e3.out,UOk.nil _ _,⟨by simp,λk h1 h2=>by omega⟩⟩,e5,bc _ _ _ _,e4⟩
 case round=>
  obtain⟨i,n,u,L,ct,ix,av,F,cv,xs,i6,rfl,rfl,i7,hn,i8,i9,h5,j0,D,HT,HO,HF⟩:=hrel;obtain⟨U,rfl⟩:∃ U,U=wr:=⟨_,rfl⟩
  by_cases j1:0<i
  .obtain⟨j,rfl⟩:∃ j,i=j+1:=⟨i-1,by omega⟩
   have h6:(0:a1)<((j+1:C):a1):=by omega
   have sF:=HF.out.size
   go_upto_region 5 with(fail)
   go_cut [9] (λv wx=>v=f (diskN (j+1))/\Fr No U wx)
   case first=>
    have c1:=zMO U 98 98 (by decide);have c2:=zMO U 99 99 (by decide);have c3:=zMO U 100 100 (by decide);have c4:=zMO U 101 101 (by decide);rcases(by omega:j=0\/j=1\/j=2\/j=3)with rfl|rfl|rfl|rfl
    all_goals
     go_wp2_with fail
     go_meet
     exact⟨rfl,(ae _ _).alloc _⟩
   case rest=>
    obtain⟨rfl,a4⟩:=hcut;obtain⟨wB,rfl⟩:∃ wB,wB=wc:=⟨_,rfl⟩
    have b0:=zh a4;have sC:=a4.size;clear a4;obtain⟨nm,a5⟩:∃ nm,nm=diskN (j+1):=⟨_,rfl⟩
    rw[<-a5];have a6:=zh a5;clear a5
    go_wp2_with fail
    refine(zFV wB).mono ?_;rintro e w3 ⟨rfl,b1,V⟩;have b2:=zh b1;have b3:K (Tape w3 tb tb u):=(HT.out.fr b0.out (λ_ _=>id) id).fr V (λ_ _=>id) id;have b4:=zh (b0.out.step V zi);have s3:=V.size;clear b1 V;have b5:=zAg tb tb u 16 w3 b3.out (by omega) (by omega) (by omega)
    go_wp2_with fail
    refine b5.mono ?_;rintro e w5 ⟨q5,rfl,b6,h7,b7,X⟩;obtain⟨q5,rfl⟩:=bj b6;have e6:q5<zAH.length:=by rw[zBl];omega
    have s5:=X.size;have S5:Strs w5 (G ⟨wB,0,Q⟩) 16 zAH:=b2.out.fr X (λad e _ h=>by cases e;unfold Is at h;dsimp only at h;omega);obtain⟨b,j2,c,he,b8,b9⟩:=S5.at e6;cases he;rw[bo]at b9;have a7:=zGU c (ap b8);have e7:K (Fr (Is tb) U w5):=(b4.out.mono zn).step X zi;have e8:=zh b7;have d0:=zHD nm c ((j+1:C):a1) w5 a7;have e9:=zh a7;clear b5 b7 X S5 b8 b4 b2 b3 a7
    go_wp2_with fail
    refine d0.mono ?_;rintro e w6 ⟨⟨aa,ac,rfl,hA⟩,Y⟩;have s6:=Y.size;have Z:K (Fr (Is tb) U w6):=e7.out.step Y zn;have K6:KA w6 O o L ct ix n:=D.out.1.low (by omega) Z.out (λb N _ h=>by omega);have E6:Env w6:=(HE.out.fr HF.out (λb N h=>by omega)).fr Z.out (λb N h=>by omega);have a8:=zGR O o n L ct ix 0 ⟨#[]⟩ ⟨#[]⟩ ⟨#[]⟩ c ⟨0,0,⟨#[]⟩,nm,zS,⟨#[]⟩,⟨#[]⟩,2,((j+1:C):a1),aa,(cAtt c).length,ac⟩ w6 K6 D.out.2.1 E6 (by omega) (by omega) (by omega) (by omega) hA rfl ⟨rfl,rfl,rfl,by dsimp only;omega,by dsimp only;omega⟩ (.inl ⟨zHR D.out.2.1,rfl,rfl⟩) (.inl ⟨rfl,by rw[a6.out];exact zEw (by omega) (by omega)⟩) e9.out (λh=>absurd rfl h) (by rw[a6.out];exact D.out.2.2.free (by omega));have g0:K (Tape w6 tb tb (u+1)):=e8.out.fr Y (λ_ _=>id) id;have g1:=zh (zG HO.out Z.out (λb N h=>by have:=(zAD HO.out N).1;omega));obtain⟨h9,d1⟩:=K6.blk;have g2:=zh d1;clear d0 hA Y K6 E6 b9 d1;unfold ocs at a8
    go_wp2_with fail
    refine a8.mono ?_;rintro e w7 ⟨rfl,d2,d3,J⟩;have s7:=Fr.size J;have g3:=zh (J.own g1.out g2.out (by decide) (by decide));have g4:K (Tape w7 tb tb (u+1)):=g0.out.fr J (λb N h=>by rcases h with h|⟨h,_⟩<;>omega) (λh=>by rcases h with h|⟨h,_⟩<;>omega);have g5:K (Fr (From tb) w w7):=(HF.out.step Z.out (λb _ h=>by omega)).step J (λb _ h=>by unfold From;rcases h with h|⟨h,_⟩<;>omega);have d4:=D.out.2.2.step (by omega) (x:=⟨0,0,⟨#[]⟩,nm,zS,⟨#[]⟩,⟨#[]⟩,2,((j+1:C):a1),aa,(cAtt c).length,ac⟩) (ix:=ix) rfl a6.out (insK L (addD ⟨0,0,⟨#[]⟩,nm,zS,⟨#[]⟩,⟨#[]⟩,2,((j+1:C):a1),aa,(cAtt c).length,ac⟩ ix 0));have d5:=zg3 d2 d3 d4;clear a8 d2 d3 J d4;have z:=g3.out;have d6:Fr No w7 (w7.alloc (M #[f nm] 9)):=(ae _ _).alloc _
    go_wp2_with (at_builtin;refine bd _ rfl _ _ 30 rfl (w:C) 9 i0 (f ah) 1 16 bg d8 d9 e0 e1 rfl (by decide) _ _ _ rfl (z.alloc _) ⟨w7,0,Q⟩ 1 1 [f nm] rfl rfl (bh _ _ _) (zBN [nm]) (by unfold aq;omega) (by omega) (by first|omega|(simp;done)|(simp;omega)) ?_;intro v' w9 y A _;obtain⟨g6,g7,rfl⟩:=zI y;skip)
    have d7:Fr (λb=>(ag av F cv).ownBlock=G b) (w7.alloc (M #[f nm] 9)) w9:=az A;have f9:Fr (λb=>(ag av F cv).ownBlock=G b) w7 w9:=(d6.mono zn).step d7 (λb _ h=>h);have a2:∀ b,(ag av F cv).ownBlock=G b->(w:C)<=b:=λb N=>(zAD z N).1
    have g8:=zg2 (d5.out.1.row z (by decide) f9) d5.out.2;have g9:K (Tape w9 tb tb (u+1)):=g4.out.fr f9 (λb N h=>by have:=a2 b h;omega) (λh=>by have:=a2 _ h;omega);have h0:=zh y;have h3:K (Fr (From tb) w w9):=g5.out.step f9 (λb _ h=>by have:=a2 b h;omega);have s9:=f9.size;clear y A d7 d6 f9 a2 z
    go_roundw
    case rel=>exact⟨j,n+1,u+1,_,_,ix+1,g6,F+1,g7,_,by omega,by first|(go_num;done)|(simp;done)|(simp;omega),rfl,by omega,by omega,by omega,by omega,by omega,by omega,g8,g9,h0,h3⟩
    case measure=>simp[ai]
  .obtain rfl:i=0:=by omega
   have HR:=zg3 D.out HT.out HF.out
   go_wp2_with fail
   go_ret;exact⟨⟨av,F,cv,L,ct,ix,n,m,u,rfl,HR.out.1.1,HR.out.1.2.1,HR.out.1.2.2,by omega,by omega,by omega,by omega,by omega,by omega,HR.out.2.1⟩,HR.out.2.2⟩
def keysS : ab af:=[⟨#[99]⟩,⟨#[100]⟩,⟨#[120]⟩]
def expS : ab af:=[⟨#[114]⟩,⟨#[115]⟩,⟨#[120]⟩]
theorem zHc {l:ab af}(v:l.length=3){W:am}{b:C}{cs:Array an}(o:W.heap[b]?=G (M cs 9))(u:cs=(l.map ay).toArray)(y:i<3):∃ k∈l,W.cell? ⟨b,i,Q⟩=G (f k):=by
 have h:=List.getElem?_eq_getElem (l:=l) (i:=i) (by omega);refine⟨_,ap h,?_⟩;rw[zB o,u];simp[h]
theorem zKR (tb kk:C)(w:am)(ht:Tape w tb tb kk)(i6:kk<=1000):
  Calls ax 8 #[au (G ⟨tb,0,Q⟩)] w λe w'=>(∃ (A ea:aj ak) (R ec J:C) (o E:ab af),e=.returned (.tuple #[.agg #[B A o.length R,s a0 0],B ea E.length ec])/\Strs w' A R o/\Strs w' ea ec E/\BlkT w' A 9/\BlkT w' ea 9/\(∀ z,A=G z->(w:C)<=z.block)/\(∀ z,ea=G z->(w:C)<=z.block)/\(∀ x∈o,x∈keysS)/\o.length<=3/\J<=kk+6/\Tape w' tb tb J)/\Fr (Is tb) w w':=by
 obtain⟨i0,e5,e6,e7,e8⟩:=bi infoS;have HT:=zh ht;have i7:=ht.lt;obtain⟨W0,a5⟩:∃ W0,W0=((w.alloc (M #[B Q 0 0,s a0 0] 41)).alloc (M #[B Q 0 0,s a0 0] 41)).alloc (M #[f ⟨#[99]⟩,f ⟨#[100]⟩,f ⟨#[120]⟩] 9):=⟨_,rfl⟩
 have x0:Fr No w W0:=by rw[a5];exact(((ae _ _).alloc _).alloc _).alloc _
 have b0:W0.heap[(w:C)]?=G (M #[B Q 0 0,s a0 0] 41):=by rw[a5];exact((ae No _).alloc _).heap (zO _ _ _) id
 have b1:W0.heap[(w:C)+1]?=G (M #[B Q 0 0,s a0 0] 41):=by rw[a5];exact((ae No _).alloc _).heap (zR _ _ _) id
 have b2:W0.heap[(w:C)+2]?=G (M #[f ⟨#[99]⟩,f ⟨#[100]⟩,f ⟨#[120]⟩] 9):=by
  rw[a5];have h:=zF ((w.alloc (M #[B Q 0 0,s a0 0] 41)).alloc (M #[B Q 0 0,s a0 0] 41)) (M #[f ⟨#[99]⟩,f ⟨#[100]⟩,f ⟨#[120]⟩] 9)
  simpa using h
 have s0:=zC b2;have h3:K (Tape W0 tb tb kk):=HT.out.fr x0 (λ_ _=>id) id;have h4:K (Fr (TB tb (w:C)) w W0):=x0.mono zn;have h5:=zg3 b0 b1 b2;clear ht x0 b0 b1 b2
 go_enter Tryz.func8,Tryz.ntmps8
 go_wp2_with fail
 rw[<-a5];clear a5
 go_loopw [12] (λx wr=>∃ (i J:C) (o:ab af) (A:aj ak) (R:C),i<=3/\x=s a0 (i:a1)/\J<=kk+i/\o.length<=i/\K (∀ x∈o,x∈keysS)/\K (wr.heap[(w:C)]?=G (M #[B Q 0 0,s a0 0] 41)/\wr.heap[(w:C)+1]?=G (M #[B A o.length R,s a0 0] 41)/\wr.heap[(w:C)+2]?=G (M #[f ⟨#[99]⟩,f ⟨#[100]⟩,f ⟨#[120]⟩] 9))/\K (wr.ownsRow (W0:C) 9 1 (B A o.length R) o.length (o.map ay))/\K (Tape wr tb tb J)/\K (Fr (TB tb (w:C)) w wr)/\(W0:C)<=(wr:C)) (λx _=>3-(ai x).toNat)
 case atStart=>exact⟨0,kk,[],Q,0,by omega,rfl,by omega,by simp,(by intro x hx;simp at hx),h5.out,bc _ _ _ _,h3,h4,bn _⟩
 case round=>
  obtain⟨i,J,o,A,R,hi,rfl,i8,i9,d3,X,HO,a7,HF,j0⟩:=hrel;obtain⟨wA,rfl⟩:∃ wA,wA=wr:=⟨_,rfl⟩
  by_cases a8:i<3
  .have e9:(i:a1)<3:=by omega
   obtain⟨k,b9,ck⟩:=zHc (l:=keysS) rfl X.out.2.2 rfl a8;have b3:=zAg tb tb J 3 wA a7.out (by omega) (by omega) (by omega);have h6:=zh b9;clear b9
   go_wp2_with fail
   refine b3.mono ?_;rintro e Y ⟨h0,rfl,h7,h8,b4,u⟩;have b5:=zh b4;have s1:=u.size;have n1:∀ b,b≠tb->¬ Is tb b:=λb h1 h2=>h1 h2
   have N:=zg3 (u.heap X.out.1 (n1 _ (by omega))) (u.heap X.out.2.1 (n1 _ (by omega))) (u.heap X.out.2.2 (n1 _ (by omega)));have b6:=zh (zG HO.out u (λb Z=>n1 _ (by have:=(zAD HO.out Z).1;omega)));have b7:K (Fr (TB tb (w:C)) w Y):=HF.out.step u (λb _ h=>by unfold Is at h;exact .inl h);clear b3 ck b4 u n1;by_cases hq:0<h0
   .have g1:Y.cell? ⟨(w:C)+1,0,Q⟩=G (B A o.length R):=zB N.out.2.1 0;have g2:Y.frozen? ⟨(w:C)+1,0,Q⟩=false:=zD N.out.2.1 0;have I:=b6.out;have a3:Fr No Y (Y.alloc (M #[f k] 9)):=(ae _ _).alloc _;have j1:o.length<=3:=by omega
    go_wp2_with (at_builtin;refine bd _ rfl _ _ 30 rfl (W0:C) 9 i0 (f ah) 1 16 bg e5 e6 e7 e8 rfl (by decide) _ _ _ rfl (I.alloc _) ⟨Y,0,Q⟩ 1 1 [f k] rfl rfl (bh _ _ _) (zBN [k]) (by unfold aq;omega) (by omega) (by first|omega|(simp;done)|(simp;omega)) ?_;intro v' w9 y D _;obtain⟨U,V,rfl⟩:=zI y;have a4:Fr (λb=>(ag A o.length R).ownBlock=G b) (Y.alloc (M #[f k] 9)) w9:=az D;have k9:=a4.heap (a3.heap N.out.2.1 id) (zK I N.out.2.1 (by decide));have g3:w9.cell? ⟨(w:C)+1,0,Q⟩=G (B A o.length R):=zB k9 0;have g4:w9.frozen? ⟨(w:C)+1,0,Q⟩=false:=zD k9 0)
    have f5:Fr (Is ((w:C)+1)) w9 (w9.setCell ⟨(w:C)+1,0,Q⟩ (B U (o.length+1) V)):=aw (ae _ _) _;have k5:(w9.setCell ⟨(w:C)+1,0,Q⟩ (B U (o.length+1) V)).heap[(w:C)+1]?=G (M #[B U (o.length+1) V,s a0 0] 41):=zE k9 0 _;generalize w9.setCell ⟨(w:C)+1,0,Q⟩ (B U (o.length+1) V)=W5 at *;have F:∀ b,(ag A o.length R).ownBlock=G b->(W0:C)<=b:=λb Z=>(zAD I Z).1
    have O:Fr (λb=>(ag A o.length R).ownBlock=G b\/b=(w:C)+1) Y W5:=((a3.mono zn).step a4 (λb _ h=>.inl h)).step f5 (λb _ h=>.inr h);have kp:∀ {b:C} {cs:Array an} {T:TypeId},Y.heap[b]?=G (M cs T)->b<(W0:C)->b≠(w:C)+1->W5.heap[b]?=G (M cs T):=λh h1 h2=>f5.heap (a4.heap (a3.heap h id) (λZ=>by have:=F _ Z;omega)) h2
    have d4:=zg3 (kp N.out.1 (by omega) (by omega)) k5 (kp N.out.2.2 (by omega) (by omega));have d5:K (W5.ownsRow (W0:C) 9 1 (B U (o++[k]).length V) (o++[k]).length ((o++[k]).map ay)):=by
     unfold K;rw[ao,bm];exact zG y f5 (λb Z h=>by have h2:=zK y k9 (by decide);unfold Is at h;subst h;exact h2 Z)
    have d6:K (Tape W5 tb tb (J+1)):=b5.out.fr O (λb Z h=>by rcases h with h|h;(have:=F b h;omega);omega) (λh=>by rcases h with h|h;(have:=F _ h;omega);omega);have d7:K (Fr (TB tb (w:C)) w W5):=b7.out.step O (λb _ h=>.inr (by rcases h with h|h;(have:=F b h;omega);omega));have s5:=O.size;have d8:K (∀ x∈o++[k],x∈keysS):=λx hx=>by
     rcases List.mem_append.1 hx with hx|hx
     .exact d3.out x hx
     .simp at hx;subst hx;exact h6.out
    have g0:K (W5.heap[(w:C)]?=G (M #[B Q 0 0,s a0 0] 41)/\W5.heap[(w:C)+1]?=G (M #[B U (o++[k]).length V,s a0 0] 41)/\W5.heap[(w:C)+2]?=G (M #[f ⟨#[99]⟩,f ⟨#[100]⟩,f ⟨#[120]⟩] 9)):=by
     unfold K;rw[ao];exact d4.out
    have d9:(o++[k]).length<=i+1:=by rw[ao];show o.length+1<=_;omega
    clear y D a4 a3 k9 f5 k5 O kp I g1 g2 g3 g4 F
    go_roundw
    case rel=>exact⟨i+1,J+1,o++[k],U,V,by omega,by go_num,by omega,d9,d8,g0,d5,d6,d7,by omega⟩
    case measure=>simp[ai];omega
   .go_wp2_with fail
    go_roundw
    case rel=>exact⟨i+1,J+1,o,A,R,by omega,by go_num,by omega,by omega,d3,N,b6,b5,b7,by omega⟩
    case measure=>simp[ai];omega
  .obtain rfl:i=3:=by omega
   obtain⟨a9,c9,e0,g5,g6⟩:=bp HO.out;cases e0;obtain⟨W2,g7,x2,d2⟩:=zy wA (M #[f ⟨#[114]⟩,f ⟨#[115]⟩,f ⟨#[120]⟩] 9);have s2:=zC d2;have e1:BlkT W2 A 9:=BlkT.fr (zAG HO.out) x2 (λ_ _=>id);have d0:∀ z,A=G z->z.block<(W2:C):=λz e=>by obtain⟨x,hx⟩:=e1 z e;exact zC hx
   have h9:K ((Strs W2 A R o/\BlkT W2 A 9)):=⟨g5.no x2 (λ_=>id),e1⟩
   have e2:K (∀ z,A=G z->(w:C)<=z.block):=λz e=>by have:=g6 z e;omega
   have i1:=zg3 (x2.heap X.out.1 id) (x2.heap X.out.2.1 id) d2;have i2:K (Tape W2 tb tb J):=a7.out.fr x2 (λ_ _=>id) id;have i3:K (Fr (TB tb (w:C)) w W2):=HF.out.step x2 zn;have d1:=zh d0;clear g5 g6 x2 d2 e1 d0
   go_wp2_with fail
   rw[<-g7];clear g7;rw[show ((3:C):a1)=3 from rfl]
   go_loopw [5,28] (λv x wr=>∃ (i a2:C) (E:ab af) (ea:aj ak) (ec:C),i<=3/\v=B ea E.length ec/\x=s a0 (i:a1)/\a2<=kk+3+i/\E.length<=i/\K (wr.heap[(w:C)]?=G (M #[B Q 0 0,s a0 0] 41)/\wr.heap[(w:C)+1]?=G (M #[B A o.length R,s a0 0] 41)/\wr.heap[(wA:C)]?=G (M #[f ⟨#[114]⟩,f ⟨#[115]⟩,f ⟨#[120]⟩] 9))/\K (wr.ownsRow (W2:C) 9 1 (B ea E.length ec) E.length (E.map ay))/\K (Strs wr A R o/\BlkT wr A 9)/\K (Tape wr tb tb a2)/\K (Fr (TB tb (w:C)) w wr)/\(W2:C)<=(wr:C)) (λ_ x _=>3-(ai x).toNat)
   case atStart=>exact⟨0,J,[],Q,0,by omega,rfl,rfl,by omega,by simp,i1,bc _ _ _ _,h9,i2,i3,bn _⟩
   case round=>
    obtain⟨i,a2,E,ea,ec,hi,rfl,rfl,j2,j3,X,HO,a6,a7,HF,i5⟩:=hrel;obtain⟨wB,rfl⟩:∃ wB,wB=wr:=⟨_,rfl⟩
    have j4:(w:C)+2<(wA:C):=by omega
    by_cases a8:i<3
    .have e9:(i:a1)<3:=by omega
     obtain⟨k,b9,ck⟩:=zHc (l:=expS) rfl X.out.2.2 rfl a8;have b3:=zAg tb tb a2 2 wB a7.out (by omega) (by omega) (by omega);clear b9
     go_wp2_with fail
     refine b3.mono ?_;rintro e Y ⟨h0,rfl,h7,h8,b4,u⟩;have b5:=zh b4;have s1:=u.size;have n1:∀ b,b≠tb->¬ Is tb b:=λb h1 h2=>h1 h2
     have N:=zg3 (u.heap X.out.1 (n1 _ (by omega))) (u.heap X.out.2.1 (n1 _ (by omega))) (u.heap X.out.2.2 (n1 _ (by omega)));have b6:=zh (zG HO.out u (λb Z=>n1 _ (by have:=(zAD HO.out Z).1;omega)));have b7:K (Fr (TB tb (w:C)) w Y):=HF.out.step u (λb _ h=>by unfold Is at h;exact .inl h);have e3:K (Strs Y A R o/\BlkT Y A 9):=⟨a6.out.1.fr u (λz e _=>n1 _ (by have:=e2.out z e;omega)),a6.out.2.fr u (λz e=>n1 _ (by have:=e2.out z e;omega))⟩
     clear b3 ck b4 u n1;by_cases hq:h0=0
     .subst hq;have I:=b6.out;have a3:Fr No Y (Y.alloc (M #[f k] 9)):=(ae _ _).alloc _;have j5:E.length<=3:=by omega
      go_wp2_with (at_builtin;refine bd _ rfl _ _ 30 rfl (W2:C) 9 i0 (f ah) 1 16 bg e5 e6 e7 e8 rfl (by decide) _ _ _ rfl (I.alloc _) ⟨Y,0,Q⟩ 1 1 [f k] rfl rfl (bh _ _ _) (zBN [k]) (by unfold aq;omega) (by omega) (by first|omega|(simp;done)|(simp;omega)) ?_;intro v' w9 y D _;obtain⟨U,V,rfl⟩:=zI y;skip)
      have a4:Fr (λb=>(ag ea E.length ec).ownBlock=G b) (Y.alloc (M #[f k] 9)) w9:=az D;have F:∀ b,(ag ea E.length ec).ownBlock=G b->(W2:C)<=b:=λb Z=>(zAD I Z).1
      have O:Fr (λb=>(ag ea E.length ec).ownBlock=G b) Y w9:=(a3.mono zn).step a4 (λb _ h=>h);have kp:∀ {b:C} {cs:Array an} {T:TypeId},Y.heap[b]?=G (M cs T)->b<(W2:C)->w9.heap[b]?=G (M cs T):=λh h1=>O.heap h (λZ=>by have:=F _ Z;omega)
      have d4:=zg3 (kp N.out.1 (by omega)) (kp N.out.2.1 (by omega)) (kp N.out.2.2 (by omega));have d5:K (w9.ownsRow (W2:C) 9 1 (B U (E++[k]).length V) (E++[k]).length ((E++[k]).map ay)):=by
       unfold K;rw[ao,bm];exact y
      have d6:K (Tape w9 tb tb (a2+1)):=b5.out.fr O (λb Z h=>by have:=F b h;omega) (λh=>by have:=F _ h;omega);have d7:K (Fr (TB tb (w:C)) w w9):=b7.out.step O (λb _ h=>.inr (by have:=F b h;omega));have d8:K (Strs w9 A R o/\BlkT w9 A 9):=⟨e3.out.1.fr O (λz e _ h=>by have:=F _ h;have:=d1.out z e;omega),e3.out.2.fr O (λz e h=>by have:=F _ h;have:=d1.out z e;omega)⟩
      have s5:=O.size;have d9:(E++[k]).length<=i+1:=by rw[ao];show E.length+1<=_;omega
      have i4:K (E.length+1=(E++[k]).length):=by unfold K;rw[ao];rfl
      clear y D a4 a3 O kp I F
      go_roundw
      case rel=>exact⟨i+1,a2+1,E++[k],U,V,by omega,by rw[<-i4.out],by go_num,by omega,d9,d4,d5,d8,d6,d7,by omega⟩
      case measure=>simp[ai];omega
     .have j6:(h0==0)=false:=by simpa using hq
      go_wp2_with fail
      go_roundw
      case rel=>exact⟨i+1,a2+1,E,ea,ec,by omega,rfl,by go_num,by omega,by omega,N,b6,e3,b5,b7,by omega⟩
      case measure=>simp[ai];omega
    .obtain rfl:i=3:=by omega
     obtain⟨a9,c9,e0,g8,g9⟩:=bp HO.out;cases e0;have z0:wB.cell? ⟨w,0,Q⟩=G (B Q 0 0):=zB X.out.1 0;have z1:wB.cell? ⟨w,1,Q⟩=G (s a0 0):=zB X.out.1 1;have y0:=zD X.out.1 0;have y1:=zD X.out.1 1;have u0:wB.cell? ⟨(w:C)+1,0,Q⟩=G (B A o.length R):=zB X.out.2.1 0;have u1:wB.cell? ⟨(w:C)+1,1,Q⟩=G (s a0 0):=zB X.out.2.1 1;obtain⟨W3,e4⟩:∃ W3,W3=(wB.setCell ⟨w,0,Q⟩ (B A o.length R)).setCell ⟨w,1,Q⟩ (s a0 0):=⟨_,rfl⟩
     have c3:W3.heap[(w:C)]?=G (M #[B A o.length R,s a0 0] 41):=by rw[e4];exact zE (zE X.out.1 0 _) 1 _
     have f3:Fr (Is (w:C)) wB W3:=by rw[e4];exact aw (aw (ae _ _) _) _
     obtain⟨x0,x1⟩:=cl2 c3;have b8:∀ {a:aj ak},BlkT wB a 9->∀ z,a=G z->¬ Is (w:C) z.block:=λZ z e h=>by
      obtain⟨x,hx⟩:=Z z e;unfold Is at h;rw[h,X.out.1]at hx;injection hx with hx
      injection hx with _ hx
      exact absurd hx (by decide)
     have HR:=zg7 (a6.out.1.fr f3 (λz e _=>b8 a6.out.2 z e)) (g8.fr f3 (λz e _=>b8 (zAG HO.out) z e)) (a6.out.2.fr f3 (b8 a6.out.2)) (BlkT.fr (zAG HO.out) f3 (b8 (zAG HO.out))) (a7.out.fr f3 (λb Z h=>by omega) (λh=>by omega)) g9 ((HF.out.step f3 (λb _ h=>.inr (by omega))).mono (T:=Is tb) (λb Z h=>by omega));clear c3 f3 g8 g9 b8
     go_wp2_with fail
     rw[<-e4];refine bodyPost_ret (v:=.tuple #[.agg #[B A o.length R,s a0 0],B ea E.length ec]) (by simp[results,Tryz.results8,go_sem,x0,x1]) rfl ?_;exact⟨⟨A,ea,R,ec,a2,o,E,rfl,HR.out.1,HR.out.2.1,HR.out.2.2.1,HR.out.2.2.2.1,e2.out,λz e=>by have:=HR.out.2.2.2.2.2.1 z e;omega,d3.out,by omega,by omega,HR.out.2.2.2.2.1⟩,HR.out.2.2.2.2.2.2⟩
theorem infoR: (Tryz.prog.info? 91).map (λi=>(i.zero,i.size,i.bytes))=G (G (.agg #[f ah,s a0 0,B Q 0 0,B Q 0 0,B Q 0 0,B Q 0 0,B Q 0 0,f ah,s a0 0,f ah,f ah,s a0 0]),12,208):=by kernel_rfl
def rflat (l:ab Rec):ab an:=l.flatMap (λr=>r.vals.toList)
theorem zIs (l:ab Rec)(r:Rec):rflat (l++[r])=rflat l++r.vals.toList:=by simp[rflat]
theorem zLi (r:Rec)(j:C)(h:j<12):r.vals.toList[j]?=G (r.cell j):=by
 unfold ar
 match j,h with
 | 0,_=>rfl
 | 1,_=>rfl
 | 2,_=>rfl
 | 3,_=>rfl
 | 4,_=>rfl
 | 5,_=>rfl
 | 6,_=>rfl
 | 7,_=>rfl
 | 8,_=>rfl
 | 9,_=>rfl
 | 10,_=>rfl
 | 11,_=>rfl
theorem zHm : ∀ (l:ab Rec) (i:C) (r:Rec),l[i]?=G r->∀ j,j<12->(rflat l)[i*12+j]?=G (r.cell j)
 | [],i,d,h,j,o=>by simp at h
 | x::t,0,d,h,j,o=>by
  simp at h;subst h;have:rflat (x::t)=x.vals.toList++rflat t:=by simp[rflat]
  rw[this,List.getElem?_append_left (by simp[ar];omega)]
  simpa using zLi x j o
 | x::t,i+1,d,h,j,o=>by
  have:rflat (x::t)=x.vals.toList++rflat t:=by simp[rflat]
  rw[this,List.getElem?_append_right (by simp[ar];omega)];have u:=zHm t i d (by simpa using h) j o;rw[show (i+1)*12+j-x.vals.toList.length=i*12+j from by simp[ar];omega];exact u
theorem zGC (r:Rec):∀ u∈r.vals.toList,u.oneCell'=true:=by
 intro u h;simp[ar]at h;rcases h with rfl|rfl|rfl|rfl|rfl|rfl|rfl|rfl|rfl|rfl|rfl|rfl<;>rfl
theorem Recs.of_own {l:ab Rec}(h:w.ownsRow u e 12 v l.length (rflat l))(z:∀ r∈l,RecOk w r):
  ∃ a o,v=B a l.length o/\Recs w a o l/\∀ y,a=G y->u<=y.block:=by
 obtain⟨_,⟨rfl,A⟩|⟨g,o,D,rfl,N,F,O,A,Y,R⟩⟩:=h
 .have:l=[]:=List.eq_nil_of_length_eq_zero A;subst this;exact⟨Q,0,rfl,Recs.nil w,λ_ e=>by cases e⟩
 .refine⟨G ⟨g,0,Q⟩,o,rfl,⟨O,A,(λe=>by cases e),z,?_⟩,λy e=>by cases e;exact N⟩;intro y e U;cases e;refine⟨rfl,zC F,λi d I j V=>?_⟩;rw[zB F];simp only[bo];have X:i<l.length:=(List.getElem?_eq_some_iff.1 I).1;have J:(D.toList.take (l.length*12))[i*12+j]?=(rflat l)[i*12+j]?:=by rw[R]
  rw[List.getElem?_take_of_lt (by omega),zHm l i d I j V]at J;rw[<-Array.getElem?_toList,J]


def recA (p:af)(i:a1)(pa:aj ak)(ps:ab (af×af)):Rec:=⟨p,i,ps,[],pa,ps.length,Q,0,Q,0,0,Q,0,0,Q,0,0,⟨#[]⟩,0,⟨#[]⟩,⟨#[]⟩,0⟩
structure RcT (w:am)(base tb:C)(r:Rec):Prop where
 ok:RecOk w r
 bk:BlkT w r.pa 78
 fr:∀ ad,r.pa=G ad->base<=ad.block/\ad.block≠tb
 tg:r.ta=Q
theorem RcT.all {w':am}{tb:C}{R:ab Rec}(h:∀ r∈R,RcT w o tb r)(v:Fr S w w')(y:∀ b,(∃ cs,w.heap[b]?=G (M cs 78))->¬ S b):∀ r∈R,RcT w' o tb r:=λr z=>by
 have g:=h r z;exact⟨⟨g.ok.props.fr v (λu e _=>y _ (g.bk u e)),g.ok.tags.fr v (λu e=>by rw[g.tg]at e;cases e)⟩,g.bk.fr v (λu e=>y _ (g.bk u e)),g.fr,g.tg⟩
theorem zBT {y:am}{n:C}{z:ab an}(h:w.ownsRow o e u v n z)(A:Fr S w y)(D:∀ b,v.ownBlock=G b->¬ S b):y.ownsRow o e u v n z:=
 zG h A D
theorem zKS (d8 tb k0:C)(al:Bool)(a:aj ak)(D:C)(ds:ab Dev)(w:am)(ht:Tape w d8 tb k0)(hk:k0<=1000000)(hl:Devs w a D ds)(hT:TreeOk ds)(hn:ds.length<=1000)(k3:∀ F,a=G F->ds≠[]->F.block≠tb):
  Calls ax 12 #[au (G ⟨tb,0,Q⟩),.agg #[B a ds.length D],.bool al] w λe w'=>(∃ ra rc R V,e=.returned (B ra (List.length R) rc)/\Recs w' ra rc R/\V<=k0+2*ds.length/\Tape w' d8 tb V)/\Fr (Is tb) w w':=by
 obtain⟨i0,k4,k5,k6,k7⟩:=bi infoR;have hm:=hl.lenmax;have n8:=ht.lt;have n9:=ht.le;have h0:Fr No w (w.alloc (M #[B a ds.length D] 47)):=(ae _ _).alloc _;have q3:=zF w (M #[B a ds.length D] 47);have o0:(w.alloc (M #[B a ds.length D] 47)).heap.size=(w:C)+1:=by simp
 have g8:=hl.no h0 (λ_=>id);have g9:=ht.fr h0 (λ_ _=>id) id;have k8:=zh h0
 go_enter Tryz.func12,Tryz.ntmps12
 go_wp2_with fail
 generalize w.alloc (M #[B a ds.length D] 47)=w1 at *;clear hl h0 ht
 go_loopw [7,8] (λv i wr=>∃ (k:C) (R:ab Rec) (av:aj ak) (cv:C) (V:C),k<=ds.length/\v=B av R.length cv/\i=s a0 (k:a1)/\V<=k0+2*k/\K (∀ r∈R,RcT wr (w:C) tb r)/\R.length<=k/\Tape wr d8 tb V/\wr.ownsRow (w1:C) 91 12 (B av R.length cv) R.length (rflat R)/\Fr (TB tb (w1:C)) w1 wr) (λ_ i _=>ds.length-(ai i).toNat)
 case atStart=>exact⟨0,[],Q,0,k0,by omega,rfl,rfl,by omega,(λr hr=>by simp at hr),by simp,g9,bc _ _ _ _,ae _ _⟩
 case round=>
  obtain⟨k,R,av,cv,V,o1,rfl,rfl,o2,HR,o3,a7,u,Y⟩:=hrel;obtain⟨W2,rfl⟩:∃ W2,W2=wr:=⟨_,rfl⟩
  have h4:∀ b,b<(w1:C)->b≠tb->¬ TB tb (w1:C) b:=λb h1 h2 h3=>by omega
  have a4:=Y.heap q3 (h4 _ (by omega) (by omega));have c4:W2.cell? ⟨w,0,Q⟩=G (B a ds.length D):=zB a4 0;have o4:=Y.size;by_cases d9:k<ds.length
  .have n5:(k:a1)<ds.length:=by omega
   have Z:Devs W2 a D ds:=g8.fr Y (λF e h5=>h4 _ (g8.cell F e h5).2.1 (k3 F e h5));obtain⟨bb,h6,x,a8,h7,y0,_,_,_,_,_,_,_,_,_⟩:=Z.dev d9;have k9:=(Z.cell _ a8 (by intro e;rw[e]at d9;simp at d9)).2.1;have d3:=Z;rw[a8]at Z;have o5:=hT.ix x (ap h7);have o6:=zh a8;have l0:=zh Y;rw[a8]at c4 a4;clear h7 Y a8;simp only at k9
   go_upto_region 5 with(fail)
   go_cut [9] (λv wc=>∃ y,v=au (G ⟨y,0,Q⟩)/\wc.heap[y]?=G (M (recA (pathOf (origin ds x.index)) x.index Q []).vals 91)/\(W2:C)<=y/\Fr No W2 wc)
   case first=>
    refine zZ (From (W2:C)) (.q 0 (.q 1 (.q 2 (.q 3 (.q 4 (.q 5 (.q 6 (.q 8 (.q 9 (.q 10 (.q 11 (.q 12 (.q 13 (.m2 7 (.q 14 (.m1 15 (.m1 16 .fin))) 15 (.m1 7 (.q 14 (.m1 16 .fin))))))))))))))))) _ (by kernel_rfl) (by kernel_rfl) (λw0 a5=>?_) zj;have o7:=a5.size;have o8:=zC a4;have g3:∀ g:Gr (From (W2:C)) w0,g.W.cell? ⟨w,0,Q⟩=G (B (G ⟨bb,h6,Q⟩) ds.length D):=λg=>g.fr.cell (zB (a5.heap a4 id) 0) (by unfold From;simp only;omega)
    have g0:∀ g:Gr (From (W2:C)) w0,g.W.cell? ⟨bb,h6+k*10,Q⟩=G (s a0 x.index):=λg=>g.fr.cell (a5.cell y0 id) (by unfold From;simp only;omega)
    have h8:=Z.no a5 (λ_=>id);have h9:=zh a5;obtain⟨rx,i1⟩:∃ rx,rx=recA (pathOf (origin ds x.index)) x.index Q []:=⟨_,rfl⟩
    have o9:=zh i1;clear y0 a4 Z d3 u a5 i1 c4
    repeat (apply zL rfl rfl rfl;intro n6 hK;go_big_quiet_op;go_big_quiet_on)
    clear g3 g0;refine zAA rfl rfl ?_ ?_
    .go_wp2_with fail
     refine(zGF _ D ds x.index _ h8 hT (by omega)).mono ?_;rintro e w5 ⟨rfl,o⟩;generalize l1:pathOf (origin ds x.index)=pp at *
     go_wp2_with fail
     refine zm o ?_
     repeat (apply zL rfl rfl rfl;intro n6 hK;go_big_quiet_op;go_big_quiet_on)
     refine zH rfl ?_
     go_wp2_with fail
     refine zp ?_;refine zH rfl ?_
     go_wp2_with fail
     refine OnlyN.mk ⟨Fr.swap _ _ _ (by have:=o.size;omega),?_⟩;refine zV ?_
     go_wp2_with fail
     go_meet
     exact⟨(w5:C),rfl,zF _ _,by have:=o.size;omega,(h9.out.step o zi).alloc _⟩
    .go_wp2_with fail
     refine zp ?_;generalize hX:w0.alloc (M #[f ⟨#[]⟩,s a0 0,B Q 0 0,B Q 0 0,B Q 0 0,B Q 0 0,B Q 0 0,f ⟨#[]⟩,s a0 0,f ⟨#[]⟩,f ⟨#[]⟩,s a0 0] 91)=X;have l2:X.heap[(w0:C)]?=G (M #[f ⟨#[]⟩,s a0 0,B Q 0 0,B Q 0 0,B Q 0 0,B Q 0 0,B Q 0 0,f ⟨#[]⟩,s a0 0,f ⟨#[]⟩,f ⟨#[]⟩,s a0 0] 91):=by rw[<-hX];exact zF _ _
     have i3:Fr No w0 X:=by rw[<-hX];exact(ae _ _).alloc _
     clear hX;refine zH rfl ?_
     go_wp2_with fail
     refine(zGF _ D ds x.index _ (h8.no i3 (λ_=>id)) hT (by omega)).mono ?_;rintro e w5 ⟨rfl,o⟩;generalize l1:pathOf (origin ds x.index)=pp at *
     go_wp2_with fail
     refine zm o ?_
     repeat (apply zL rfl rfl rfl;intro n6 hK;go_big_quiet_op;go_big_quiet_on)
     refine zH rfl ?_;have e3:=o.heap l2 id;obtain⟨z0,z1,z2,z3,z4,z5,z6,z7,z8,z9,i4,i5⟩:=cl12 e3;obtain⟨y0,y1,y2,y3,y4,y5,y6,y7,y8,y9,p0,p1⟩:=fl12 e3
     go_wp2_with fail
     have b5:=zNX e3 rfl (recA pp x.index Q []);unfold recA at b5;refine OnlyN.mk ⟨b5.2.mono (λ_ _ h=>by omega),?_⟩;refine zV ?_
     go_wp2_with fail
     go_meet
     exact⟨(w0:C),rfl,b5.1,by omega,((h9.out.step i3 zi).step o zi).step b5.2 (λb z e=>by omega)⟩
   case rest=>
    obtain⟨y,rfl,q7,p2,a6⟩:=hcut;obtain⟨W3,rfl⟩:∃ W3,W3=wc:=⟨_,rfl⟩
    have p3:=zC q7;have i6:=a7.fr a6 (λ_ _=>id) id;have a9:=zh (zAS u a6 (λ_ _=>id));have a3:K (∀ b,(ag av R.length cv).ownBlock=G b->b<(W2:C)/\b≠tb/\b≠y):=λb z=>by
     have h1:=zY u z;have h2:=zP u z;have h3:=g9.lt;refine⟨h1,?_,by omega⟩
     first|omega|(omega)|(unfold From at *;omega)
    have n7:=a7.lt;have i7:=zh (l0.out.step a6 zn);have i8:=zh (RcT.all HR.out a6 (λ_ _=>id));have p4:=a6.size;generalize pathOf (origin ds x.index)=pp at *;have i9:=zh q7;have j0:=zh i6;clear y0 a4 Z d3 u a7 c4 a6 q7 i6
    go_upto_if 33 with(fail)
    go_cut [] (λA=>∃ (b0:C) (i2:a1) (pa:aj ak) (J:ab (af×af)),b0<=V+2/\K (A.heap[y]?=G (M (recA pp i2 pa J).vals 91))/\K (RcT A (w:C) tb (recA pp i2 pa J))/\K (∀ r∈R,RcT A (w:C) tb r)/\K (Tape A d8 tb b0)/\K (A.ownsRow (w1:C) 91 12 (B av R.length cv) R.length (rflat R))/\K (Fr (TB tb (w1:C)) w1 A)/\(W2:C)<=(A:C))
    case first=>
     rcases al with _|_
     .have j1:=zAg d8 tb V 10 W3 j0.out (by omega) (by omega) (by omega)
      go_wp2_with fail
      refine j1.mono ?_;rintro e w4 ⟨r,rfl,p5,p6,j2,O⟩;have b1:=O.heap i9.out (λh=>by omega);have b6:=zh (zBT a9.out O (λb z h=>(a3.out b z).2.1 h));have b8:=zh (i7.out.step O (λb z h=>by unfold Is at h;exact .inl h));have b9:K (∀ r∈R,RcT w4 (w:C) tb r):=λr hr=>by
       have g:=i8.out r hr;exact⟨⟨g.ok.props.fr O (λF e _ h=>(g.fr F e).2 h),g.ok.tags.fr O (λF e=>by rw[g.tg]at e;cases e)⟩,g.bk.fr O (λF e h=>(g.fr F e).2 h),g.fr,g.tg⟩
      have p7:=O.size;have d0:=zh j2;have l3:K (RcT w4 (w:C) tb (recA pp x.index Q [])):=⟨⟨be _,ba _⟩,bf _ _,(λF e=>by cases e),rfl⟩
      unfold ar recA at b1;simp only[List.length_nil]at b1;have j3:K (∀ b,(∃ cs,w4.heap[b]?=G (M cs 78))->¬ Is y b):=λb z h=>by
       obtain⟨cs,hc⟩:=z;unfold Is at h;rw[h,b1]at hc;injection hc with hc
       injection hc with _ e2
       exact absurd e2 (by decide)
      have b2:=zh b1;clear j1 O j2 b1;by_cases j4:r=0
      .subst j4
       go_wp2_with fail
       go_roundw
       case rel=>exact⟨k+1,R,av,cv,V+1,by omega,rfl,by go_num,by omega,b9,by omega,d0.out,b6.out,b8.out⟩
       case measure=>simp[ai];omega
      have e0:(r==0)=false:=by simpa using j4
      by_cases d4:r=1
      .subst d4;have d5:=zNj d8 tb (V+1) 4 [⟨#[49]⟩,⟨#[49]⟩,⟨#[48]⟩,⟨#[]⟩] w4 d0.out (by omega) #[f ⟨#[49]⟩,f ⟨#[49]⟩,f ⟨#[48]⟩,f ⟨#[]⟩] rfl rfl (by simp) (by simp)
       go_wp2_with fail
       refine d5.mono ?_;rintro e w6 ⟨j5,j6,U⟩;obtain⟨v,rfl,hv⟩:=j5.short (N:=1) (by kernel_rfl);have l4:v.size<=maxLen:=by unfold aq;omega
       have q6:=U.heap b2.out (λh=>by omega);have l5:=zh (zBT b6.out U (λb z h=>(a3.out b z).2.1 h));have l6:=zh (b8.out.step U (λb z h=>by unfold Is at h;exact .inl h));have l7:K (∀ r∈R,RcT w6 (w:C) tb r):=λr hr=>by
        have g:=b9.out r hr;exact⟨⟨g.ok.props.fr U (λF e _ h=>(g.fr F e).2 h),g.ok.tags.fr U (λF e=>by rw[g.tg]at e;cases e)⟩,g.bk.fr U (λF e h=>(g.fr F e).2 h),g.fr,g.tg⟩
       have p8:=U.size;have l8:=zh j6;clear d5 j5 j6 U;have y9:(w6.alloc (M #[f ⟨#[83,84,79,82,65,71,69,95,73,71,78,79,82,69]⟩,f v] 78)).frozen? ⟨y,2,Q⟩=false:=zD (((ae No w6).alloc _).heap q6 id) 2;have z9:(w6.alloc (M #[f ⟨#[83,84,79,82,65,71,69,95,73,71,78,79,82,69]⟩,f v] 78)).cell? ⟨y,2,Q⟩=G (B Q 0 0):=zB (((ae No w6).alloc _).heap q6 id) 2;obtain⟨W8,e4,f8,e8⟩:=zy w6 (M #[f ignB,f v] 78);have q8:=f8.heap q6 id;obtain⟨W5,d1⟩:∃ W5,W5=W8.setCell ⟨y,2,Q⟩ (B (G ⟨w6,0,Q⟩) 1 1):=⟨_,rfl⟩
       have f5:Fr (Is y) W8 W5:=by rw[d1];exact aw (ae _ _) _
       have q5:W5.heap[y]?=G (M (recA pp x.index (G ⟨w6,0,Q⟩) [(ignB,v)]).vals 91):=by rw[d1];exact(zE q8 2 _).trans rfl
       have l9:=zC q6;have e5:=f5.heap e8 (λh=>by omega);have o:Fr (Is y) w6 W5:=(f8.mono zn).step f5 zi;have e6:=zh (RcT.all l7.out o (λb z h=>by unfold Is at h;obtain⟨cs,hc⟩:=z;rw[h,q6]at hc;injection hc with hc;injection hc with _ e2;exact absurd e2 (by decide)));have e7:=zh (l8.out.fr o (λb z h=>by omega) (λh=>by omega));have e9:=zh (zBT l5.out o (λb z h=>(a3.out b z).2.2 h));have g1:=zh (l6.out.step o (λb z h=>by omega));have m0:(w6:C)<=(W5:C):=o.size;have j7:BlkT W5 (G ⟨w6,0,Q⟩) 78:=λF e=>by cases e;exact⟨_,e5⟩
       have j8:Atts W5 (G ⟨w6,0,Q⟩) 1 [(ignB,v)]:=⟨by simp,by unfold aq;omega,(λe=>by cases e),(λx hx=>by simp at hx;subst hx;exact⟨(by decide:ignB.size<=aq),l4⟩),λF e _=>by
        cases e;refine⟨rfl,zC e5,λi x hi=>?_⟩;rcases i with _|i
        .simp at hi;subst hi;exact⟨zB e5 0,zB e5 1⟩
        .simp at hi⟩
       have g2:K (RcT W5 (w:C) tb (recA pp x.index (G ⟨w6,0,Q⟩) [(ignB,v)])):=⟨⟨j8,ba _⟩,j7,(λF e=>by cases e;exact⟨by show (w:C)<=(w6:C);omega,by show (w6:C)≠tb;omega⟩),rfl⟩
       have g4:=zh q5;unfold ignB at e4;rw[e4]at d1;clear e4 f8 e8 q8 f5 q5 e5 o j7 j8 l9 q6
       go_wp2_with fail
       go_meet
       rw[<-d1];exact⟨V+1+1,x.index,_,_,by omega,g4,g2,e6,e7,e9,g1,by omega⟩
      have e1:(r==1)=false:=by simpa using d4
      by_cases d6:r=2
      .subst d6;have y1:w4.cell? ⟨y,1,Q⟩=G (s a0 x.index):=zB b2.out 1;have f1:w4.frozen? ⟨y,1,Q⟩=false:=zD b2.out 1;have q5:(w4.setCell ⟨y,1,Q⟩ (s a0 (x.index+1))).heap[y]?=G (M (recA pp (x.index+1) Q []).vals 91):=(zE b2.out 1 _).trans rfl;have o:Fr (Is y) w4 (w4.setCell ⟨y,1,Q⟩ (s a0 (x.index+1))):=aw (ae _ _) _;have e6:=zh (RcT.all b9.out o (λb z h=>j3.out b z h));have e7:=zh (d0.out.fr o (λb z h=>by omega) (λh=>by omega));have e9:=zh (zBT b6.out o (λb z h=>(a3.out b z).2.2 h));have g1:=zh (b8.out.step o (λb z h=>by omega));have m0:=o.size;have g2:K (RcT (w4.setCell ⟨y,1,Q⟩ (s a0 (x.index+1))) (w:C) tb (recA pp (x.index+1) Q [])):=⟨⟨be _,ba _⟩,bf _ _,(λF e=>by cases e),rfl⟩
       have g4:=zh q5;clear q5 o
       go_wp2_with fail
       go_meet
       exact⟨V+1,x.index+1,Q,[],by omega,g4,g2,e6,e7,e9,g1,by omega⟩
      have e2:(r==2)=false:=by simpa using d6
      go_wp2_with fail
      go_meet
      exact⟨V+1,x.index,Q,[],by omega,b2,l3,b9,d0,b6,b8,by omega⟩
     .go_wp2_with fail
      go_meet
      exact⟨V,x.index,Q,[],by omega,i9,⟨⟨be _,ba _⟩,bf _ _,(λF e=>by cases e),rfl⟩,i8,j0,a9,i7,by omega⟩
    case rest=>
     obtain⟨b0,i2,pa,J,p9,HQ,HN,m3,m4,m5,m6,r0⟩:=hcut;obtain⟨A,rfl⟩:∃ A,A=wc:=⟨_,rfl⟩
     have z0:A.cell? ⟨y,0,Q⟩=G (f pp):=zB HQ.out 0;have z1:A.cell? ⟨y,1,Q⟩=G (s a0 i2):=zB HQ.out 1;have z2:A.cell? ⟨y,2,Q⟩=G (B pa J.length J.length):=zB HQ.out 2;have z3:A.cell? ⟨y,3,Q⟩=G (B Q 0 0):=zB HQ.out 3;have z4:A.cell? ⟨y,4,Q⟩=G (B Q 0 0):=zB HQ.out 4;have z5:A.cell? ⟨y,5,Q⟩=G (B Q 0 0):=zB HQ.out 5;have z6:A.cell? ⟨y,6,Q⟩=G (B Q 0 0):=zB HQ.out 6;have z7:A.cell? ⟨y,7,Q⟩=G (f ⟨#[]⟩):=zB HQ.out 7;have z8:A.cell? ⟨y,8,Q⟩=G (s a0 0):=zB HQ.out 8;have z9:A.cell? ⟨y,9,Q⟩=G (f ⟨#[]⟩):=zB HQ.out 9;have i4:A.cell? ⟨y,10,Q⟩=G (f ⟨#[]⟩):=zB HQ.out 10;have i5:A.cell? ⟨y,11,Q⟩=G (s a0 0):=zB HQ.out 11;have u:=m5.out
     go_wp2_with (at_builtin;refine bd _ rfl _ _ 51 rfl (w1:C) 91 i0 (.agg #[f ah,s a0 0,B Q 0 0,B Q 0 0,B Q 0 0,B Q 0 0,B Q 0 0,f ah,s a0 0,f ah,f ah,s a0 0]) 12 208 Tryz.underlying51 k4 k5 k6 k7 rfl (by decide) _ _ _ rfl (u.alloc _) ⟨A,0,Q⟩ 1 1 [f pp,s a0 i2,B pa J.length J.length,B Q 0 0,B Q 0 0,B Q 0 0,B Q 0 0,f ⟨#[]⟩,s a0 0,f ⟨#[]⟩,f ⟨#[]⟩,s a0 0] rfl rfl (zg _ _ _ rfl) (zGC (recA pp i2 pa J)) (by unfold aq;omega) (by omega) (by first|omega|(simp;omega)) ?_;intro v' w7 a2 I _;obtain⟨j9,k1,rfl⟩:=zI a2)
     have g5:Fr (From (w1:C)) A w7:=zB5 u I;have b3:Fr (λb=>(ag av R.length cv).ownBlock=G b) A w7:=(((ae No _).alloc _).mono zn).step (az I) (λb _ h=>h);have m7:=zh (m6.out.step g5 (λb z h=>by omega));have g6:K (w7.ownsRow (w1:C) 91 12 (B j9 (R++[recA pp i2 pa J]).length k1) (R++[recA pp i2 pa J]).length (rflat (R++[recA pp i2 pa J]))):=by
      unfold K;rw[zIs,ao];exact a2
     have g7:R.length+1=(R++[recA pp i2 pa J]).length:=by simp
     have m8:=zh g7;have m9:(R++[recA pp i2 pa J]).length<=k+1:=by rw[<-g7];omega
     have n2:K (Tape w7 d8 tb b0):=m4.out.fr g5 (λb z h=>by omega) (λh=>by omega);have n3:K (∀ r∈R++[recA pp i2 pa J],RcT w7 (w:C) tb r):=by
      intro r' b4;have d7:∀ b,(∃ cs,A.heap[b]?=G (M cs 78))->¬ (ag av R.length cv).ownBlock=G b:=λb z h=>by
       obtain⟨cs,hc⟩:=z;exact zK u hc (by decide) h
      rcases List.mem_append.1 b4 with b4|b4
      .exact RcT.all m3.out b3 d7 r' b4
      .obtain rfl:r'=recA pp i2 pa J:=by simpa using b4
       exact RcT.all (R:=[recA pp i2 pa J]) (λr hr=>by simp at hr;subst hr;exact HN.out) b3 d7 _ (by simp)
     clear g5 b3 a2 I u z0 z1 z2 z3 z4 z5 z6 z7 z8 z9 i4 i5 g7
     go_roundw
     case rel=>exact⟨k+1,R++[recA pp i2 pa J],j9,k1,b0,by omega,by rw[<-m8.out],by go_num,by omega,n3,m9,n2.out,g6.out,m7.out⟩
     case measure=>simp[ai];omega
  .obtain rfl:k=ds.length:=by omega
   obtain⟨a',c',n4,k2,d2⟩:=Recs.of_own u (λr hr=>(HR.out r hr).ok);cases n4;have H:=zg3 k2 a7 ((k8.out.mono (T:=Is tb) zn).step Y (λb z h=>by omega));clear u Y k2 d2 a7
   go_wp2_with fail
   go_ret;exact⟨⟨_,_,R,V,rfl,H.out.1,by omega,H.out.2.1⟩,H.out.2.2⟩
end Go.Proofs.YtckkocmhlhefpaaGreatDoor
