import Derived.Test.YtckkocmhlhefpaaGreatDoorQ36
namespace Go.Proofs.YtckkocmhlhefpaaGreatDoor
open Go.RowKit Go.Maps
set_option linter.unusedVariables false
set_option maxRecDepth 100000
set_option maxHeartbeats 8000000
open Fr renaming refl->al
open Go renaming maxLen->ag,Calls->aq
open Go.Instr renaming lookup->bd
open Go.Proofs renaming intOf->ai,enters_of->bc
open Go.Proofs.Tryz renaming prog->am,underlying82->bg
open Go.RowKit renaming Hid->H
open Go.Value renaming slice->ae
open IntKind renaming i64->a1
open Obj renaming cells->aj
open OnlyN renaming mk->az
open Srcs renaming of_own->bf
open Value renaming string->T,int->a0,slice->aa,agg->ak,pointer->ba
open _root_ renaming Nat->Q,List->ac,ByteArray->ah,Option->an,if_pos->ar,congrArg->au
open _root_.Bool renaming false->G,true->af
open _root_.ByteArray renaming empty->ap
open _root_.List renaming length->aw,length_map->ax,mem_of_getElem?->ay,length_filter_le->be
open _root_.Nat renaming le_trans->bb
open _root_.Option renaming some->B,none->f
variable{c:RC}{u w:World}{o:Q}{ds:ac Dev}{tx:Dev->ah}{E v:ac ah}
structure RB (c:RC)(w0:World)(base:Q)(ds:ac Dev)(tx:Dev->ah)(E K:ac ah):Prop where
 sz:(w0:Q)=c.b0
 env:Env w0
 tr:Tr w0 base c.a c.cap ds
 n:c.n=ds.length
 dn:ds.length<=250
 es:Strs w0 c.ea c.ec E
 en:c.en=E.length
 ks:Strs w0 c.ka c.kc K
 kn:c.kn=K.length
 kl:K.length<=1000000
 kz:∀ x∈K,x.size<=ag
 tx:TxS w0 c.b0 tx ds
 cm:∀ s∈c.C,s.d∈ds/\s.o.size<=1000000/\0<=s.r
 cn:c.C.length<=250
theorem RB.tr' (h:RB c u o ds tx E v)(y:Fr (From (u:Q)) u w):Tr w o c.a c.cap ds:=h.tr.keep y (λb z _ h=>by omega)
theorem RB.env' (h:RB c u o ds tx E v)(y:Fr (From (u:Q)) u w):Env w:=h.env.fr y (λb z=>by unfold From;have:=h.env.sz;omega)
theorem RB.tx' (h:RB c u o ds tx E v)(y:Fr (From (u:Q)) u w):TxS w c.b0 tx ds:=h.tx.fr y (λb A z=>by unfold From at z;have:=h.sz;omega)
theorem TxS.sub {L u:ac Dev}(h:TxS w o tx L)(v:∀ d∈u,d∈L):TxS w o tx u:=λd y=>h d (v d y)
theorem zNB (v:Vir)(w:World):Virs (w.alloc (aj v.vals 97)) (B ⟨w,0,f⟩) 1 [v]:=by
 refine⟨by simp,by unfold ag;omega,(λe=>by cases e),λu e o=>?_⟩;cases e;refine⟨rfl,by simp,λi m h j y=>?_⟩;cases i with
 | zero=>
  simp at h;subst h;rw[zB (zF w (aj v.vals 97))];simp
 | succ i=>simp at h
theorem zO4 (c:RC)(w0:World)(A1:Q)(ds:ac Dev)(tx:Dev->ah)(E Z:ac ah)(hB:RB c w0 A1 ds tx E Z)(sa:an Addr)(sc:Q)(ma:an Addr)(mc:Q)(S:ac Src)(M:ac Vir)(k6:ac (ah×ah))(r:Int)(w:World)(L2:Fr (From (w0:Q)) w0 w)(h:RS c w sa sc ma mc S M k6)
  (L5:∀ s∈S,s.d∈ds/\s.o.size<=1000000) (i6:S.length<=1000) (Z6:S.length<=700) (Z7:M.length<=10000) (Z8:k6.length<=10000):
  aq am 65 #[ba (B ⟨c.xb,0,f⟩),a0 a1 r] w λe w'=>(∃ S' M' G' U6 U7 d5 d8,e=.returned (.bool (decide (M.length<(M':ac Vir).length)))/\RS c w' U6 U7 d5 d8 S' M' G'/\NextR ds tx E Z c.C r S M k6 S' M' G')/\Fr (From (w0:Q)) w0 w':=by
 have N:=zh hB;have t7:w.cell? ⟨c.xb,8,f⟩=B (aa ma M.length mc):=zB h.k 8;have t5:w.cell? ⟨c.xb,5,f⟩=B (aa sa S.length sc):=zB h.k 5;obtain⟨a9,c9,F0,p3,p4⟩:=bf h.so;cases F0;have Z9:=p3.lenmax;have hMm:M.length<=9223372036854775807:=by omega
 have Hh:=zh h;have U8:=zh L2;have i2:=zh L5;clear h hB L2 L5 p4 p3
 go_enter Tryz.func65,Tryz.ntmps65
 go_wp2_with fail
 clear t5 t7
 go_loopw [26] (λx wr=>∃ (j:Q) (Mj:ac Vir) (d5:an Addr) (d8:Q),j<=S.length/\x=a0 a1 (j:Int)/\H (Mj=wantS tx S M r j)/\RS c wr sa sc d5 d8 S Mj k6/\Fr (From (w0:Q)) w0 wr) (λx _=>S.length-(ai x).toNat)
 case atStart=>exact⟨0,M,ma,mc,by omega,rfl,by unfold H wantS;simp,Hh.out,U8.out⟩
 case round=>
  obtain⟨j,Mj,d5,d8,hj,rfl,x0,hR,hf⟩:=hrel;by_cases l9:j<S.length
  .have g6:(j:Int)<S.length:=by omega
   obtain⟨a9,c9,F0,p3,p4⟩:=bf hR.so;cases F0;obtain⟨cb,L6,s,rfl,A,⟨c0,c1,c2,c3,c4,c5,c6,c7,c8,c9,p5,p6,p7⟩,L7⟩:=p3.elem l9;have i4:=i2.out s (ay A);have o8:=zh (zEb (tx:=tx) (M:=M) (r:=r) A);have F1:=zFt tx S M r j;rw[<-x0.out]at F1;obtain⟨W1,a7,R,d1⟩:=zy wr (aj s.vals 134);have F2:=hf.step R zn;obtain⟨l,hA,p8,o9,x1,-⟩:=N.out.tx' F2 s.d i4.1;have U9:s.d.orig.size<=1000000:=by
    have:=N.out.tr.wf.ok.sz s.d i4.1;omega
   have F3:=zNg s.d l s.o r W1 (N.out.env' F2) hA p8 U9 (by rw[o9];exact x1);rw[o9]at F3;have i3:=hR.no R;have i7:=zh F2;have z:=SrcB0.of d1;unfold Src.vals at a7;clear A hR hf p3 p4 hA x1 d1 p8 o9
   go_upto_region 5 with(fail)
   rw[<-a7];clear a7 c0 c1 c2 c3 c4 c5 c6 c7 c8 c9 p5 p6 p7;obtain⟨c0,c1,c2,c3,c4,c5,c6,c7,c8,c9,p5,p6,p7⟩:=z
   go_wp2_with fail
   refine F3.mono ?_;rintro e w2 ⟨⟨av,cv,V,hV,rfl,L8,k7⟩,m5⟩;have L9:=i3.no m5;have b6:=zBJ c _ sc d5 d8 S Mj k6 av cv V w2 L9 L8 (λad e hn=>by
    have h1:=k7 ad e;refine⟨?_,?_,?_⟩
    .have:=zC i3.k;omega
    .have:=i3.wmo.lt;omega
    .intro ho;have:=zY i3.mo ho;omega) (λv hv=>by
    rw[hV]at hv;have:=zNc hv;refine⟨?_,?_⟩
    .rw[this.1];unfold ag;omega
    .unfold ag;omega) (by rw[hV];have:=zJy s.o s.d (tx s.d) r;omega)
   have HV:=zh hV;have HX:=zg2 i3 (i7.out.step m5 zn);clear F3 c0 c1 c2 c3 c4 c5 c6 c7 c8 c9 p5 p6 p7 i3 L9 m5 L8 k7 hV
   go_wp2_with fail
   refine b6.mono ?_;rintro e w3 ⟨rfl,⟨I,J,M0,-⟩,a2⟩;have x5:=zh (And.intro M0 (HX.out.2.step a2 (λb hb h=>by
    unfold From;have h0:=N.out.sz;rcases h with h|h|h
    .have:=HX.out.1.lo;omega
    .have:=HX.out.1.lo;omega
    .have:=zP HX.out.1.mo h;omega)))
   have V0:H (zr Mj V=wantS tx S M r (j+1)):=by unfold H;rw[o8.out,HV.out,x0.out]
   clear b6 M0 a2
   go_wp2_with fail
   go_roundw
   case rel=>exact⟨j+1,zr Mj V,I,J,by omega,by go_num,V0,x5.out.1,x5.out.2⟩
   case measure=>simp[ai];omega
  .obtain rfl:j=S.length:=by omega
   have g6:¬ (S.length:Int)<S.length:=by omega
   have F1:=zFt tx S M r S.length;rw[<-x0.out]at F1;have Y4:Mj.length<=26000:=by omega
   have Y5:=hf.size;have m6:=N.out.sz;have M1:=zES 109 (λargs w=>bc Tryz.func109 (by kernel_rfl) rfl _ _) (ofK 2 mk2) (λp rd s W hE A=>(zMa p s rd W hE A).mono (λe w' h=>⟨h.1.of,h.2⟩)) tx c.b0 c sa sc d5 d8 S Mj k6 wr hR (N.out.env' hf) ((N.out.tx' hf).sub (λd hd=>by
    obtain⟨s,A,rfl⟩:=List.mem_map.1 hd;exact(i2.out s A).1)) (by omega) i6
   have HR:=zg2 hR hf;clear hR hf
   go_wp2_with fail
   refine M1.mono ?_;rintro e w2 ⟨⟨L,la,lc,hL,rfl,M4,V1⟩,m5⟩;have F4:=zh (HR.out.2.step m5 zn);obtain⟨m0,M5⟩:=(N.out.env' F4.out).len;have M6:=zON la lc L m0 w2 M4 (zAv zKJ hL i6 (λs A=>(i2.out s A).2)) M5 (by have:=(N.out.env' F4.out).sz;omega);have HL:=zh hL;have i8:=zh (HR.out.1.no m5);clear M1 hL M4 V1 M5 m5
   go_wp2_with fail
   refine M6.mono ?_;rintro e w3 ⟨⟨ao,co,O,V2,rfl,hA,M7,M8,A2,hO,Y6,-⟩,a2⟩;have m7:=zh (F4.out.step a2 zn);have x5:=zh (i8.out.no a2);have hOn:O.length<=1000:=by
    have:=au aw hO;simp only[ax]at this;omega
   have hAm:=hA.lenmax;have M9:=zC i8.out.k;have N0:=i8.out.wmo.lt;have N1:=i8.out.smo.lt;have A3:∀ b,(ae d5 Mj.length d8).ownBlock=B b->b<(w2:Q):=λb hb=>zY i8.out.mo hb
   have N2:∀ b,(b=c.xb\/b=c.wm\/b=c.sm\/(ae d5 Mj.length d8).ownBlock=B b)->b<(w2:Q):=λb hb=>by
    rcases hb with hb|hb|hb|hb
    .omega
    .omega
    .omega
    .exact A3 b hb
   have x7:=zh N2;have HA:=zg3 hA M7 M8;have HO:=zg2 A2 hO;have Y7:=zh a2.size;clear M6 hA M7 M8 A2 hO a2 N2 A3 M9 N0 N1
   go_wp2_with fail
   go_loopw [43] (λx wr=>∃ (j:Q) (F:ac Vir) (G2:ac (ah×ah)) (I:an Addr) (J:Q),j<=O.length/\x=a0 a1 (j:Int)/\H ((F,G2)=arrAll ds E r (Mj,k6) O j)/\RS c wr sa sc I J S F G2/\H (∀ b,(ae I F.length J).ownBlock=B b->(ae d5 Mj.length d8).ownBlock=B b\/(w3:Q)<=b)/\Fr (λb=>b=c.xb\/b=c.wm\/b=c.sm\/(ae d5 Mj.length d8).ownBlock=B b) w3 wr) (λx _=>O.length-(ai x).toNat)
   case atStart=>exact⟨0,Mj,k6,d5,d8,by omega,rfl,by unfold H arrAll;simp,x5.out,λb h=>.inl h,al _ _⟩
   case round=>
    obtain⟨j,F,G2,I,J,hj,rfl,g0,hR,b8,hf⟩:=hrel;by_cases l9:j<O.length
    .have g6:(j:Int)<O.length:=by omega
     have p9:Arrs wr ao co O:=HA.out.1.fr hf (λad e hn A=>by
      have h1:=x7.out _ A;have h2:=HA.out.2.1 ad e;omega) (λm hm=>⟨λad e hn A=>by
      have h1:=x7.out _ A;have h2:=(HA.out.2.2 m hm).2.2.1 ad e;omega,λad e hn A=>by
      have h1:=x7.out _ A;have h2:=(HA.out.2.2 m hm).2.2.2 ad e;omega⟩)
     obtain⟨ab,N3,m,rfl,hm,⟨F5,r0⟩,⟨c0,c1,c2,c3,c4,c5⟩,N4⟩:=p9.elem l9;have p0:=zh (ay hm);have m8:=zh (zEO (ds:=ds) (E:=E) (r:=r) (x:=(Mj,k6)) hm);have x8:=zC9 ds E r (Mj,k6) O j;rw[<-g0.out]at x8;have x9:m.i.size<=1000000:=zIb HO.out.1 HO.out.2 p0.out (zAv zKJ HL.out i6 (λs A=>(i2.out s A).2)).i;obtain⟨W1,a7,R,d1⟩:=zy wr (aj m.vals 183);have i7:H (Fr (From (w0:Q)) w0 W1):=(m7.out.step hf (λb hb A=>by
      unfold From;have h0:=i8.out.lo;have m6:=N.out.sz;rcases A with A|A|A|A
      .omega
      .omega
      .omega
      .have:=zP i8.out.mo A;omega)).step R zn
     have i3:=hR.no R;have a4:=zh i3;have D1:=zh d1;have Hf:=zh (hf.step R zn);have F6:=zh (r0.no R (λ_=>id));have N5:=R.size;have N6:=hf.size;unfold ArrM.vals at a7;clear hm hR p9 F5 r0 hf R
     go_upto_region 10 with(fail)
     rw[<-a7];clear a7 c0 c1 c2 c3 c4 c5;obtain⟨ex,F7⟩:∃ ex,ex=exB ds m.i:=⟨_,rfl⟩
     obtain⟨xp,F8⟩:∃ xp,xp=hasS E m.i:=⟨_,rfl⟩
     have N7:H (∀ W,Fr No W1 W->aq am 111 #[ba (B ⟨c.xb,0,f⟩),T m.i] W λe w'=>e=.returned (.bool ex)/\Fr No W w'):=λW hW=>by
      rw[F7];exact zMd c sa sc I J S F G2 m.i ds A1 W (a4.out.no hW) x9 (N.out.tr' (i7.out.step hW zn)) N.out.n (by have:=N.out.dn;omega)
     have N8:H (∀ W,Fr No W1 W->aq am 48 #[aa c.ea E.length c.ec,T m.i] W λe w'=>e=.returned (.bool xp)/\Fr No W w'):=λW hW=>by
      rw[F8];exact zFD c.ea c.ec E m.i W (N.out.es.fr (i7.out.step hW zn) (λad e hn A=>by have:=(N.out.es.cell ad e hn).2.1;omega))
     have F9:H (zA0 ds E r (F,G2) m=if mustB m.t m.e m.n ex xp=af then
  (if (G2.any λy=>decide (y=(mdK,m.i)))=af then (F,G2++[(mdK,m.i)])else (zAE F (mdOf m.i m.l r),G2++[(mdK,m.i)]))
 else (F,G2)):=by unfold H;rw[F7,F8];rfl
     clear F7 F8;rcases hmu:mustB m.t m.e m.n ex xp with _|_
     .skip;refine zQ (Is c.sm) [(0,G),(1,G),(2,G),(3,G),(5,G),(6,G),(7,G),(8,G),(9,G),(10,G),(4,af),(11,af),(12,af),(13,G),(14,G),(15,G),(16,G),(17,af),(18,G)] (by kernel_rfl) (by kernel_rfl) (λwx g1=>?_);have X:=a4.out.no g1;have dB:=g1.heap d1 id;have y0:∀ g:Gr (Is c.sm) wx,g.W.cell? ⟨wr,0,f⟩=B (T m.i):=λg=>zB (g.fr.heap dB (λh=>X.smo.ne_cells dB h)) 0
      have y1:∀ g:Gr (Is c.sm) wx,g.W.cell? ⟨wr,1,f⟩=B (aa m.pa m.ps.length m.pc):=λg=>zB (g.fr.heap dB (λh=>X.smo.ne_cells dB h)) 1
      have y2:∀ g:Gr (Is c.sm) wx,g.W.cell? ⟨wr,2,f⟩=B (a0 a1 m.t):=λg=>zB (g.fr.heap dB (λh=>X.smo.ne_cells dB h)) 2
      have y3:∀ g:Gr (Is c.sm) wx,g.W.cell? ⟨wr,3,f⟩=B (a0 a1 m.e):=λg=>zB (g.fr.heap dB (λh=>X.smo.ne_cells dB h)) 3
      have y4:∀ g:Gr (Is c.sm) wx,g.W.cell? ⟨wr,4,f⟩=B (a0 a1 m.n):=λg=>zB (g.fr.heap dB (λh=>X.smo.ne_cells dB h)) 4
      have y5:∀ g:Gr (Is c.sm) wx,g.W.cell? ⟨wr,5,f⟩=B (aa m.la m.l.length m.lc):=λg=>zB (g.fr.heap dB (λh=>X.smo.ne_cells dB h)) 5
      have x4:∀ g:Gr (Is c.sm) wx,g.W.cell? ⟨c.xb,4,f⟩=B (aa c.ea E.length c.ec):=λg=>by
       have:=zB (g.fr.heap X.k (λh=>X.smo.ne_cells X.k h)) 4;rw[N.out.en]at this;exact this
      have g7:=zh g1;clear g1 X dB d1 i3
      repeat((first|apply zT rfl rfl rfl|apply zU rfl rfl rfl);intro Z hK;go_big_quiet_op;go_big_quiet_on)
      clear y0 y1 y2 y3 y4 y5 x4;apply zt;exact rfl
      go_wp2_with fail
      refine(N7.out wx g7.out).mono ?_;rintro e w4 ⟨rfl,m9⟩;have g2:=zh (g7.out.step m9 zi)
      go_wp2_with fail
      refine zm m9 ?_;clear m9;apply zt;exact rfl
      go_wp2_with fail
      refine(N8.out w4 g2.out).mono ?_;rintro e w5 ⟨rfl,n2⟩;have I0:=zh (g2.out.step n2 zi)
      go_wp2_with fail
      refine zm n2 ?_;clear n2;apply zt;exact rfl
      go_wp2_with fail
      refine(zM5 m.i m.t m.e m.n m.pa m.ps.length m.pc m.la m.lc m.l ex xp w5).mono ?_;rintro e w6 ⟨rfl,U⟩;rw[hmu];have Y:=zh (I0.out.step U zi)
      go_wp2_with fail
      refine zm U ?_;clear U
      repeat((first|apply zT rfl rfl rfl|apply zU rfl rfl rfl);intro Z hK;go_big_quiet_op;go_big_quiet_on)
      apply zt;exact rfl
      go_wp2_with fail
      refine zq ?_
      repeat((first|apply zT rfl rfl rfl|apply zU rfl rfl rfl);intro Z hK;go_big_quiet_op;go_big_quiet_on)
      refine zb ?_;have g3:H ((F,G2)=arrAll ds E r (Mj,k6) O (j+1)):=by unfold H;rw[m8.out,<-g0.out,F9.out,hmu];rfl
      have N9:=zg2 (a4.out.no Y.out) (Hf.out.step Y.out zn);clear hmu
      go_wp2_with fail
      go_roundw
      case rel=>exact⟨j+1,F,G2,I,J,by omega,by go_num,g3,N9.out.1,b8,N9.out.2⟩
      case measure=>simp[ai];omega
     .skip;refine zQ (Is c.sm) [(0,G),(1,G),(2,G),(3,G),(5,G),(6,G),(7,G),(8,G),(9,G),(10,G),(4,af),(11,af),(12,af),(13,G),(14,G),(15,G),(16,G),(17,af),(18,G)] (by kernel_rfl) (by kernel_rfl) (λwx g1=>?_);have X:=a4.out.no g1;have dB:=g1.heap d1 id;have y0:∀ g:Gr (Is c.sm) wx,g.W.cell? ⟨wr,0,f⟩=B (T m.i):=λg=>zB (g.fr.heap dB (λh=>X.smo.ne_cells dB h)) 0
      have y1:∀ g:Gr (Is c.sm) wx,g.W.cell? ⟨wr,1,f⟩=B (aa m.pa m.ps.length m.pc):=λg=>zB (g.fr.heap dB (λh=>X.smo.ne_cells dB h)) 1
      have y2:∀ g:Gr (Is c.sm) wx,g.W.cell? ⟨wr,2,f⟩=B (a0 a1 m.t):=λg=>zB (g.fr.heap dB (λh=>X.smo.ne_cells dB h)) 2
      have y3:∀ g:Gr (Is c.sm) wx,g.W.cell? ⟨wr,3,f⟩=B (a0 a1 m.e):=λg=>zB (g.fr.heap dB (λh=>X.smo.ne_cells dB h)) 3
      have y4:∀ g:Gr (Is c.sm) wx,g.W.cell? ⟨wr,4,f⟩=B (a0 a1 m.n):=λg=>zB (g.fr.heap dB (λh=>X.smo.ne_cells dB h)) 4
      have y5:∀ g:Gr (Is c.sm) wx,g.W.cell? ⟨wr,5,f⟩=B (aa m.la m.l.length m.lc):=λg=>zB (g.fr.heap dB (λh=>X.smo.ne_cells dB h)) 5
      have x4:∀ g:Gr (Is c.sm) wx,g.W.cell? ⟨c.xb,4,f⟩=B (aa c.ea E.length c.ec):=λg=>by
       have:=zB (g.fr.heap X.k (λh=>X.smo.ne_cells X.k h)) 4;rw[N.out.en]at this;exact this
      have g7:=zh g1;clear g1 X dB d1 i3
      repeat((first|apply zT rfl rfl rfl|apply zU rfl rfl rfl);intro Z hK;go_big_quiet_op;go_big_quiet_on)
      clear y0 y1 y2 y3 y4 y5 x4;apply zt;exact rfl
      go_wp2_with fail
      refine(N7.out wx g7.out).mono ?_;rintro e w4 ⟨rfl,m9⟩;have g2:=zh (g7.out.step m9 zi)
      go_wp2_with fail
      refine zm m9 ?_;clear m9;apply zt;exact rfl
      go_wp2_with fail
      refine(N8.out w4 g2.out).mono ?_;rintro e w5 ⟨rfl,n2⟩;have I0:=zh (g2.out.step n2 zi)
      go_wp2_with fail
      refine zm n2 ?_;clear n2;apply zt;exact rfl
      go_wp2_with fail
      refine(zM5 m.i m.t m.e m.n m.pa m.ps.length m.pc m.la m.lc m.l ex xp w5).mono ?_;rintro e w6 ⟨rfl,U⟩;rw[hmu];have Y:=zh (I0.out.step U zi)
      go_wp2_with fail
      refine zm U ?_;clear U;have y0:∀ g:Gr (Is c.sm) w6,g.W.cell? ⟨wr,0,f⟩=B (T m.i):=λg=>zB (g.fr.heap (Y.out.heap D1.out id) (λh=>(a4.out.no Y.out).smo.ne_cells (Y.out.heap D1.out id) h)) 0
      repeat((first|apply zT rfl rfl rfl|apply zU rfl rfl rfl);intro Z hK;go_big_quiet_op;go_big_quiet_on)
      clear y0;apply zt;exact rfl;have n3:=zM4 c sa sc I J S F G2 mdK m.i w6 (a4.out.no Y.out) (by unfold ag;show 2<=_;omega) (by unfold ag;omega) (by omega);unfold mdK at n3
      go_wp2_with fail
      refine n3.mono ?_;rintro e w7 ⟨rfl,r1,g4⟩;have a3:=zg2 r1 ((Hf.out.step Y.out zn).step g4 (λb hb h=>by unfold Is at h;exact .inr (.inr (.inl h))));have g5:=zh g4;clear r1 n3
      go_wp2_with fail
      refine zf g4 ?_;clear g4
      repeat((first|apply zT rfl rfl rfl|apply zU rfl rfl rfl);intro Z hK;go_big_quiet_op;go_big_quiet_on)
      refine zb ?_;rcases hsn:(G2.any λx=>decide (x=((⟨#[109,100]⟩:ah),m.i)))with _|_
      .skip;have g3:H ((zAE F (mdOf m.i m.l r),G2++[(mdK,m.i)])=arrAll ds E r (Mj,k6) O (j+1)):=by unfold H;rw[m8.out,<-g0.out,F9.out,hmu,ar rfl];exact(if_neg (λh=>by have:=hsn.symm.trans h;cases this)).symm
       clear hmu hsn;have q7:=g5.out.heap (Y.out.heap D1.out id) (λh=>(a4.out.no Y.out).smo.ne_cells (Y.out.heap D1.out id) h);obtain⟨b0,b1,b2,b3,b4,b5⟩:=cl6 q7;have r2:m∈O:=p0.out;have k9:Strs w7 m.la m.lc m.l:=(F6.out.no Y.out (λ_=>id)).fr g5.out (λad e hn A=>by
        unfold Is at A;have h1:=(HA.out.2.2 m r2).2.2.2 ad e;have h2:=x7.out c.sm (.inr (.inr (.inl rfl)));omega)
       have n4:=zO3 m.i m.t m.e m.n r m.pa m.ps.length m.pc m.la m.lc m.l w7 x9 k9;have I1:(mdOf m.i m.l r).q.size<=ag/\(mdOf m.i m.l r).o.size<=maxLen:=by
        refine⟨by show (0:Q)<=_;omega,?_⟩;show (mdT++m.i).size<=ag
        rw[ByteArray.size_append];unfold ag;show 3+m.i.size<=_
        omega
       obtain⟨v,hv⟩:∃ v,v=mdOf m.i m.l r:=⟨_,rfl⟩
       rw[<-hv]at n4 g3 I1;have V3:=zh I1;unfold Vir.vals at n4;clear hv I1 q7 k9 r2
       go_wp2_with fail
       refine n4.mono ?_;rintro e w8 ⟨rfl,n5⟩;have n6:Fr No w8 (w8.alloc (aj v.vals 97)):=(al _ _).alloc _;have I2:=a3.out.1.no n5;have i9:=zh I2;have b6:=zBJ c sa sc I J S F (G2++[(mdK,m.i)]) (B ⟨w8,0,f⟩) 1 [v] (w8.alloc (aj v.vals 97)) (I2.no n6) (zNB v w8) (λad e hn=>by
        cases e;refine⟨?_,?_,?_⟩
        .have:=zC i9.out.k;show (w8:Q)≠_;omega
        .have:=i9.out.wmo.lt;show (w8:Q)≠_;omega
        .intro ho;have:(w8:Q)<(w8:Q):=zY i9.out.mo ho;omega) (λu hu=>by simp at hu;subst hu;exact V3.out) (by simp;omega)
       have n7:=zh ((a3.out.2.step n5 zn).step n6 zn);have I3:=n7.out.size;unfold Vir.vals at b6;clear n4 b0 b1 b2 b3 b4 b5 n5 n6 I2
       go_wp2_with fail
       refine b6.mono ?_;rintro e I4 ⟨rfl,⟨g8,g9,l0,b9⟩,l1⟩;have r3:=zh l0;have r4:H (Fr (λb=>b=c.xb\/b=c.wm\/b=c.sm\/(ae d5 Mj.length d8).ownBlock=B b) w3 I4):=n7.out.step l1 (λb hb h=>by
        rcases h with h|h|h
        .exact .inl h
        .exact .inr (.inl h)
        .rcases b8.out b h with h|h
         .exact .inr (.inr (.inr h))
         .omega)
       have j0:H (∀ b,(ae g8 (zr F [v]).length g9).ownBlock=B b->(ae d5 Mj.length d8).ownBlock=B b\/(w3:Q)<=b):=λb hb=>by
        rcases b9 b hb with h|h
        .exact b8.out b h
        .refine .inr (bb ?_ h);exact I3
       clear b6 l0 b9 l1
       go_wp2_with fail
       go_roundw
       case rel=>exact⟨j+1,zr F [v],G2++[(mdK,m.i)],g8,g9,by omega,by go_num,g3,r3.out,j0,r4.out⟩
       case measure=>simp[ai];omega
      .have g3:H ((F,G2++[(mdK,m.i)])=arrAll ds E r (Mj,k6) O (j+1)):=by unfold H;rw[m8.out,<-g0.out,F9.out,hmu,ar rfl];exact(ar hsn).symm
       clear hmu hsn
       go_wp2_with fail
       go_roundw
       case rel=>exact⟨j+1,F,G2++[(mdK,m.i)],I,J,by omega,by go_num,g3,a3.out.1,b8,a3.out.2⟩
       case measure=>simp[ai];omega
    .skip;obtain rfl:j=O.length:=by omega
     have g6:¬ (O.length:Int)<O.length:=by omega
     have x8:=zC9 ds E r (Mj,k6) O O.length;rw[<-g0.out]at x8;have r5:H (Fr (From (w0:Q)) w0 wr):=m7.out.step hf (λb hb A=>by
      unfold From;have h0:=i8.out.lo;have m6:=N.out.sz;rcases A with A|A|A|A
      .omega
      .omega
      .omega
      .have:=zP i8.out.mo A;omega)
     have n8:=zh hR;have O0:c.b0<=(wr:Q):=by have:=r5.out.size;omega
     have O1:wr.cell? ⟨c.xb,0,f⟩=B (aa c.ka Z.length c.kc):=by
      have:=zB hR.k 0;rw[N.out.kn]at this;exact this
     have O2:=zh O1;have O3:H (∀ W,Fr No wr W->aq am 108 #[ba (B ⟨c.xb,0,f⟩),.func (.func 115) #[] #[]] W λe w'=>(∃ (L:ac Mem) (a:an Addr) (O5:Q),L.map Mem.k=S.filterMap (λs=>ofK 3 mk3 s.o s.r (tx s.d))/\e=.returned (aa a L.length O5)/\Mems w' a O5 L/\(∀ ad,a=B ad->(W:Q)<=ad.block))/\Fr No W w'):=λW hW=>
      have O6:=r5.out.step hW zn
      zES 115 (λargs w=>bc Tryz.func115 (by kernel_rfl) rfl _ _) (ofK 3 mk3) (λp rd s W hE A=>(zMN p s rd W hE A).mono (λe w' h=>⟨h.1.of,h.2⟩)) tx c.b0 c sa sc I J S F G2 W (n8.out.no hW) (N.out.env' O6) ((N.out.tx' O6).sub (λd hd=>by
       obtain⟨s,A,rfl⟩:=List.mem_map.1 hd;exact(i2.out s A).1)) (bb O0 hW.size) i6
     clear hR hf O1
     go_upto_region 13 with(fail)
     refine zZ (λb=>b=c.xb\/b=c.wm\/(ae I F.length J).ownBlock=B b) (.q 0 (.q 1 (.q 3 (.q 4 (.q 5 (.q 6 (.q 8 (.m2 2 (.m1 7 (.m1 9 (.m1 10 .fin))) 7 (.m1 2 (.m1 9 (.m1 10 .fin))))))))))) _ (by kernel_rfl) (by kernel_rfl) (λwx g1=>?_) zj;have g7:=zh g1;clear g1
     repeat((first|apply zL rfl rfl rfl|apply zJ rfl rfl rfl);intro Z hK;go_big_quiet_op;go_big_quiet_on)
     refine zAA rfl rfl ?_ ?_
     focus
      go_wp2_with fail
      refine(O3.out wx g7.out).mono ?_;rintro e y7 ⟨⟨L3,l3,c3,r6,rfl,r7,-⟩,h5⟩;have d9:=zh (g7.out.step h5 zi);have p1:=zg2 r6 r7;clear r6 r7
      go_wp2_with fail
      refine zm h5 ?_;clear h5;apply zH;exact rfl;have k0:y7.cell? ⟨c.xb,0,f⟩=B (aa c.ka Z.length c.kc):=d9.out.cell O2.out id
      go_wp2_with fail
      refine zq ?_;clear k0;apply zH;exact rfl;have b7:=r5.out.step d9.out zn;have h6:=N.out.env' b7;obtain⟨m3,r8⟩:=h6.len;have h7:=zEp zKI p1.out.1 i6 (λs A=>(i2.out s A).2);have r9:=zh h7;have s0:=zM0 l3 c3 L3 c.ka c.kc Z r m3 y7 p1.out.2 h7 (N.out.ks.fr b7 (λad e hn A=>by have:=(N.out.ks.cell ad e hn).2.1;omega)) N.out.kl N.out.kz r8 (by have:=h6.sz;omega);clear r8 h6 h7 b7
      go_wp2_with fail
      refine s0.mono ?_;rintro e I5 ⟨⟨av,cv,V,i5,rfl,hV,k7,h8,n9,V4⟩,h9⟩;have o3:=zh (d9.out.step h9 zi);have HV:=zg4 hV k7 h8 n9;have V5:V.length<=1000:=by
       have h1:=au aw n9;rw[ax]at h1;have h2:(opened i5 Z).length<=i5.length:=be _ _;have h3:=r9.out.len;omega
      clear s0 hV k7 h8 n9
      go_wp2_with fail
      refine zm h9 ?_;clear h9;apply zH;exact rfl;have l2:=n8.out.no o3.out;have d0:=n8.out.no d9.out;have b6:=zBJ c sa sc I J S F G2 av cv V I5 l2 HV.out.1 (λad e hn=>by
       have h1:=HV.out.2.1 ad e;refine⟨?_,?_,?_⟩
       .have:=zC d0.k;omega
       .have:=d0.wmo.lt;omega
       .intro ho;have:=zY d0.mo ho;omega) (λv hv=>by
       rw[HV.out.2.2.2]at hv;have:=zGH HV.out.2.2.1 hv r9.out.i;unfold ag;omega) (by omega)
      clear l2 d0
      go_wp2_with fail
      refine b6.mono ?_;rintro e I6 ⟨rfl,⟨g8,g9,l5,d2⟩,i1⟩;have l6:=zg3 l5 d2 i1;clear b6 l5 d2
      go_wp2_with fail
      refine zf i1 ?_;clear i1;refine zV ?_
     rotate_left 1
     focus
      have k0:wx.cell? ⟨c.xb,0,f⟩=B (aa c.ka Z.length c.kc):=g7.out.cell O2.out id
      go_wp2_with fail
      refine zq ?_;clear k0;apply zH;exact rfl
      go_wp2_with fail
      refine(O3.out wx g7.out).mono ?_;rintro e y7 ⟨⟨L3,l3,c3,r6,rfl,r7,-⟩,h5⟩;have d9:=zh (g7.out.step h5 zi);have p1:=zg2 r6 r7;clear r6 r7
      go_wp2_with fail
      refine zm h5 ?_;clear h5;apply zH;exact rfl;have b7:=r5.out.step d9.out zn;have h6:=N.out.env' b7;obtain⟨m3,r8⟩:=h6.len;have h7:=zEp zKI p1.out.1 i6 (λs A=>(i2.out s A).2);have r9:=zh h7;have s0:=zM0 l3 c3 L3 c.ka c.kc Z r m3 y7 p1.out.2 h7 (N.out.ks.fr b7 (λad e hn A=>by have:=(N.out.ks.cell ad e hn).2.1;omega)) N.out.kl N.out.kz r8 (by have:=h6.sz;omega);clear r8 h6 h7 b7
      go_wp2_with fail
      refine s0.mono ?_;rintro e I5 ⟨⟨av,cv,V,i5,rfl,hV,k7,h8,n9,V4⟩,h9⟩;have o3:=zh (d9.out.step h9 zi);have HV:=zg4 hV k7 h8 n9;have V5:V.length<=1000:=by
       have h1:=au aw n9;rw[ax]at h1;have h2:(opened i5 Z).length<=i5.length:=be _ _;have h3:=r9.out.len;omega
      clear s0 hV k7 h8 n9
      go_wp2_with fail
      refine zm h9 ?_;clear h9;apply zH;exact rfl;have l2:=n8.out.no o3.out;have d0:=n8.out.no d9.out;have b6:=zBJ c sa sc I J S F G2 av cv V I5 l2 HV.out.1 (λad e hn=>by
       have h1:=HV.out.2.1 ad e;refine⟨?_,?_,?_⟩
       .have:=zC d0.k;omega
       .have:=d0.wmo.lt;omega
       .intro ho;have:=zY d0.mo ho;omega) (λv hv=>by
       rw[HV.out.2.2.2]at hv;have:=zGH HV.out.2.2.1 hv r9.out.i;unfold ag;omega) (by omega)
      clear l2 d0
      go_wp2_with fail
      refine b6.mono ?_;rintro e I6 ⟨rfl,⟨g8,g9,l5,d2⟩,i1⟩;have l6:=zg3 l5 d2 i1;clear b6 l5 d2
      go_wp2_with fail
      refine zf i1 ?_;clear i1;refine zV ?_
     all_goals (
      have j1:H (Fr (From (w0:Q)) w0 I6):=(r5.out.step o3.out zn).step l6.out.2.2 (λb hb A=>by
       unfold From;have h0:=n8.out.lo;have m6:=N.out.sz;rcases A with A|A|A
       .omega
       .omega
       .have:=zP n8.out.mo A;omega)
      have I7:=zh l6.out.1;have y8:=zh l6.out.2.1;have O7:(zr F V).length<=28000:=by have:=zAt V F;omega
      have Y8:G2.length<=11000:=by omega
      obtain⟨M3,s1⟩:∃ M3,M3=zr F V:=⟨_,rfl⟩
      have V6:H (MidR ds tx E Z r S M k6 M3 G2):=⟨L,V2,O,F,L3,i5,HL.out,HO.out.1,HO.out.2,by rw[<-x0.out];exact g0.out,p1.out.1,HV.out.2.2.1,by rw[s1,HV.out.2.2.2]⟩
      rw[<-s1]at I7 y8 O7;clear s1 l6;have Y9:=j1.out.size;have A4:=zES 117 (λargs w=>bc Tryz.func117 (by kernel_rfl) rfl _ _) (ofK 4 mk4) (λp rd s W hE A=>(zJW p s rd W hE A).mono (λe w' h=>⟨h.1.of,h.2⟩)) tx c.b0 c sa sc g8 g9 S M3 G2 I6 I7.out (N.out.env' j1.out) ((N.out.tx' j1.out).sub (λd hd=>by
       obtain⟨s,A,rfl⟩:=List.mem_map.1 hd;exact(i2.out s A).1)) (by have:=N.out.sz;omega) i6
      go_wp2_with fail
      refine A4.mono ?_;rintro e O8 ⟨⟨L4,l4,c4,I8,rfl,A5,-⟩,s4⟩;have s5:=zh (j1.out.step s4 zn);obtain⟨m4,O9⟩:=(N.out.env' s5.out).len;have A6:=zNG l4 c4 L4 m4 O8 A5 (zAv zG9 I8 i6 (λs A=>(i2.out s A).2)) O9 (by have:=(N.out.env' s5.out).sz;omega);have I9:=zh I8;have d4:=zh (I7.out.no s4);clear A4 I8 A5 O9 s4
      go_wp2_with fail
      refine A6.mono ?_;rintro e y9 ⟨⟨V7,V9,O4,o4,rfl,J0,A7,A8,s6,J1,W0,-⟩,s7⟩;have A9:=zh (s5.out.step s7 zn);have R0:=zh (d4.out.no s7);have Z0:O4.length<=1000:=by
       have:=au aw J1;simp only[ax]at this;omega
      have Z1:=J0.lenmax;have o5:H (∀ b,(b=c.xb\/b=c.wm\/b=c.sm\/(ae g8 M3.length g9).ownBlock=B b)->b<(O8:Q)):=λb hb=>by
       rcases hb with hb|hb|hb|hb
       .have:=zC d4.out.k;omega
       .have:=d4.out.wmo.lt;omega
       .have:=d4.out.smo.lt;omega
       .exact zY d4.out.mo hb
      have s8:=zg3 J0 A7 A8;have s9:=zg2 s6 J1;clear A6 J0 A7 A8 s6 J1 s7;have D2:∀ m∈O4,m.l.length<=16:=λm hm=>zLC s9.out.2 hm (zI4 zG9 I9.out)
      have D3:=zh D2;clear D2
      go_wp2_with fail
      go_loopw [88] (λx wr=>∃ (j:Q) (F:ac Vir) (G4:ac (ah×ah)) (I:an Addr) (J:Q),j<=O4.length/\x=a0 a1 (j:Int)/\H ((F,G4)=grpAll r (M3,G2) O4 j)/\RS c wr sa sc I J S F G4/\H (∀ b,(ae I F.length J).ownBlock=B b->(ae g8 M3.length g9).ownBlock=B b\/(y9:Q)<=b)/\Fr (λb=>b=c.xb\/b=c.wm\/b=c.sm\/(ae g8 M3.length g9).ownBlock=B b) y9 wr) (λx _=>O4.length-(ai x).toNat)
      case atStart=>exact⟨0,M3,G2,g8,g9,by omega,rfl,by unfold H grpAll;simp,R0.out,λb h=>.inl h,al _ _⟩
      case round=>
       obtain⟨j,F,G4,I,J,hj,rfl,g0,hR,b8,hf⟩:=hrel;have x8:F.length<=M3.length+16*j/\G4.length<=G2.length+j:=by
        have:=zJA r (M3,G2) O4 D3.out j;rw[<-g0.out]at this;exact this
       by_cases l9:j<O4.length
       .have g6:(j:Int)<O4.length:=by omega
        have p9:Arrs wr V7 V9 O4:=s8.out.1.fr hf (λad e hn A=>by
         have h1:=o5.out _ A;have h2:=s8.out.2.1 ad e;omega) (λm hm=>⟨λad e hn A=>by
         have h1:=o5.out _ A;have h2:=(s8.out.2.2 m hm).2.2.1 ad e;omega,λad e hn A=>by
         have h1:=o5.out _ A;have h2:=(s8.out.2.2 m hm).2.2.2 ad e;omega⟩)
        obtain⟨ab,N3,m,rfl,hm,⟨F5,r0⟩,⟨c0,c1,c2,c3,c4,c5⟩,N4⟩:=p9.elem l9;have p0:=zh (ay hm);have m8:=zh (zD6 (r:=r) (x:=(M3,G2)) hm);have x9:m.i.size<=1000000:=zIb s9.out.1 s9.out.2 p0.out (zAv zG9 I9.out i6 (λs A=>(i2.out s A).2)).i;have hml:=D3.out m p0.out;obtain⟨W1,a7,R,d1⟩:=zy wr (aj m.vals 183);have i7:H (Fr (From (w0:Q)) w0 W1):=(A9.out.step hf (λb hb A=>by
         unfold From;have h0:=d4.out.lo;have m6:=N.out.sz;rcases A with A|A|A|A
         .omega
         .omega
         .omega
         .have:=zP d4.out.mo A;omega)).step R zn
        have a4:=zh (hR.no R);have D1:=zh d1;have Hf:=zh (hf.step R zn);have F6:=zh (r0.no R (λ_=>id));have N5:=R.size;have N6:=hf.size;unfold ArrM.vals at a7;clear hm hR p9 F5 r0 hf R
        go_upto_region 17 with(fail)
        rw[<-a7];clear a7 c0 c1 c2 c3 c4 c5;obtain⟨b0,b1,b2,b3,b4,b5⟩:=cl6 d1;have o0:H (zAb r (F,G4) m=if m.n=m.t then
         (if (G4.any λy=>decide (y=(lvK,m.i)))=af then (F,G4++[(lvK,m.i)])else (zr F (wantL m.i m.t m.n m.l r),G4++[(lvK,m.i)]))
        else (F,G4)):=rfl
        clear d1;by_cases t0:m.n=m.t
        .have R1:=zh t0;have hnb:(m.n==m.t)=true:=by simpa using t0
         have n3:=zM4 c sa sc I J S F G4 lvK m.i W1 a4.out (by unfold ag;show 2<=_;omega) (by unfold ag;omega) (by omega);unfold lvK at n3;clear t0
         go_wp2_with fail
         refine n3.mono ?_;rintro e w7 ⟨rfl,r1,g4⟩;have a3:=zg2 r1 (Hf.out.step g4 (λb hb h=>by unfold Is at h;exact .inr (.inr (.inl h))));have g5:=zh g4;clear r1 n3 b0 b1 b2 b3 b4 b5 g4;rcases hsn:(G4.any λx=>decide (x=((⟨#[108,118]⟩:ah),m.i)))with _|_
         .have g3:H ((zr F (wantL m.i m.t m.n m.l r),G4++[(lvK,m.i)])=grpAll r (M3,G2) O4 (j+1)):=by unfold H;rw[m8.out,<-g0.out,o0.out,ar R1.out];exact(if_neg (λh=>by have:=hsn.symm.trans h;cases this)).symm
          clear hsn;have q7:=g5.out.heap D1.out (λh=>a4.out.smo.ne_cells D1.out h);obtain⟨b0,b1,b2,b3,b4,b5⟩:=cl6 q7;have r2:m∈O4:=p0.out;have k9:Strs w7 m.la m.lc m.l:=F6.out.fr g5.out (λad e hn A=>by
           unfold Is at A;have h1:=(s8.out.2.2 m r2).2.2.2 ad e;have h2:=o5.out c.sm (.inr (.inr (.inl rfl)));omega)
          have R2:=N.out.env' (i7.out.step g5.out (λb hb h=>by unfold Is at h;unfold From;have:=a4.out.lo;have:=N.out.sz;omega));have n4:=zNF m.i m.t m.e m.n r m.pa m.ps.length m.pc m.la m.lc m.l w7 R2 x9 k9 (by omega);clear q7 k9 R2 r2
          go_wp2_with fail
          refine n4.mono ?_;rintro e w8 ⟨⟨a8,c8,V8,rfl,R3,o6,D4⟩,n5⟩;have i9:=zh (a3.out.1.no n5);have D5:=zFu m.i m.t m.n m.l r;rw[<-o6]at D5;have b6:=zBJ c sa sc I J S F (G4++[(lvK,m.i)]) a8 c8 V8 w8 i9.out R3 (λad e hn=>by
           have h1:=D4 ad e;refine⟨?_,?_,?_⟩
           .have:=zC a3.out.1.k;omega
           .have:=a3.out.1.wmo.lt;omega
           .intro ho;have:=zY a3.out.1.mo ho;omega) (λv hv=>by
           rw[o6]at hv;have:=zJS hv;unfold ag;omega) (by omega)
          have W2:H ((zr F V8,G4++[(lvK,m.i)])=grpAll r (M3,G2) O4 (j+1)):=by unfold H;rw[o6];exact g3.out
          have n7:=zh (a3.out.2.step n5 zn);have I3:=n7.out.size;clear n4 b0 b1 b2 b3 b4 b5 n5 R3 o6 D4 D5
          go_wp2_with fail
          refine b6.mono ?_;rintro e I4 ⟨rfl,⟨R4,R5,l0,b9⟩,l1⟩;have r3:=zh l0;have r4:H (Fr (λb=>b=c.xb\/b=c.wm\/b=c.sm\/(ae g8 M3.length g9).ownBlock=B b) y9 I4):=n7.out.step l1 (λb hb h=>by
           rcases h with h|h|h
           .exact .inl h
           .exact .inr (.inl h)
           .rcases b8.out b h with h|h
            .exact .inr (.inr (.inr h))
            .omega)
          have j0:H (∀ b,(ae R4 (zr F V8).length R5).ownBlock=B b->(ae g8 M3.length g9).ownBlock=B b\/(y9:Q)<=b):=λb hb=>by
           rcases b9 b hb with h|h
           .exact b8.out b h
           .refine .inr (bb ?_ h);exact I3
          clear b6 l0 b9 l1
          go_wp2_with fail
          go_roundw
          case rel=>exact⟨j+1,zr F V8,G4++[(lvK,m.i)],R4,R5,by omega,by go_num,W2,r3.out,j0,r4.out⟩
          case measure=>simp[ai];omega
         .have g3:H ((F,G4++[(lvK,m.i)])=grpAll r (M3,G2) O4 (j+1)):=by unfold H;rw[m8.out,<-g0.out,o0.out,ar R1.out];exact(ar hsn).symm
          clear hsn
          go_wp2_with fail
          go_roundw
          case rel=>exact⟨j+1,F,G4++[(lvK,m.i)],I,J,by omega,by go_num,g3,a3.out.1,b8,a3.out.2⟩
          case measure=>simp[ai];omega
        .have g3:H ((F,G4)=grpAll r (M3,G2) O4 (j+1)):=by unfold H;rw[m8.out,<-g0.out,o0.out,if_neg t0]
         have Z2:(m.n==m.t)=false:=by simpa using t0
         go_wp2_with fail
         go_roundw
         case rel=>exact⟨j+1,F,G4,I,J,by omega,by go_num,g3,a4.out,b8,Hf.out⟩
         case measure=>simp[ai];omega
       .obtain rfl:j=O4.length:=by omega
        have g6:¬ (O4.length:Int)<O4.length:=by omega
        have R6:H (Fr (From (w0:Q)) w0 wr):=A9.out.step hf (λb hb A=>by
         unfold From;have h0:=d4.out.lo;have m6:=N.out.sz;rcases A with A|A|A|A
         .omega
         .omega
         .omega
         .have:=zP d4.out.mo A;omega)
        have W4:H (∃ (M3:ac Vir) (G2:ac (ah×ah)) (L4:ac Mem) (o4:ac ah) (O4:ac ArrM),MidR ds tx E Z r S M k6 M3 G2/\
  L4.map Mem.k=S.filterMap (λs=>ofK 4 mk4 s.o s.r (tx s.d))/\IsIds2 (zv soundB L4) o4/\O4.map ArrM.toArr=o4.map (buildA (zv soundB L4))/\
  (F,G4)=grpAll r (M3,G2) O4 O4.length):=⟨_,_,L4,o4,O4,V6.out,I9.out,s9.out.1,s9.out.2,g0.out⟩
        obtain⟨CA,J2⟩:∃ CA,c.ca=CA:=⟨_,rfl⟩
        have k3:wr.cell? ⟨c.xb,3,f⟩=B (aa CA c.C.length c.cc):=by rw[<-J2];exact zB hR.k 3
        have W5:=zh J2;have hCn:=N.out.cn;have W6:=zh hR;have Z3:F.length<=50000:=by omega
        clear hR hf J2
        go_wp2_with fail
        clear k3
        go_loopw [114] (λx wr=>∃ (k:Q) (a5:an Addr) (a6:Q),k<=c.C.length/\x=a0 a1 (k:Int)/\RS c wr a5 a6 I J (S++moreS ds tx F r c.C k) F G4/\Fr (From (w0:Q)) w0 wr) (λx _=>c.C.length-(ai x).toNat)
        case atStart=>exact⟨0,sa,sc,by omega,rfl,by simpa [moreS]using W6.out,R6.out⟩
        case round=>
         obtain⟨k,a5,a6,hk,rfl,hR,hf⟩:=hrel;have W7:=zKH ds tx F r c.C k;obtain⟨S4,z4⟩:∃ S4,S4=S++moreS ds tx F r c.C k:=⟨_,rfl⟩
         have Z4:S4.length<=950:=by rw[z4,List.length_append];omega
         have t8:=zh z4;rw[<-z4]at hR;clear z4 W7;by_cases l9:k<c.C.length
         .have g6:(k:Int)<c.C.length:=by omega
          have R7:Srcs wr CA c.cc c.C:=by rw[<-W5.out];exact hR.cs
          obtain⟨cb,L6,s,rfl,A,⟨c0,c1,c2,c3,c4,c5,c6,c7,c8,c9,p5,p6,p7⟩,L7⟩:=R7.elem l9;have i4:=N.out.cm s (ay A);have o8:=zh (zI3 (ds:=ds) (tx:=tx) (M:=F) (r:=r) A);obtain⟨W1,a7,R,d1⟩:=zy wr (aj s.vals 134);have i7:=zh (hf.step R zn);have j2:=zh hR;have J3:=zh hf;have W8:=zh R;have a4:=zh (hR.no R);have D1:=zh d1;have W9:H (c.b2<=(wr:Q)):=hR.b2l;have t9:H ((wr:Q)<(W1:Q)/\c.xb<(wr:Q)/\c.wm<(wr:Q)):=⟨zC d1,zC hR.k,hR.wmo.lt⟩
          obtain⟨lA,hA,p8,o9,x1,X0⟩:=N.out.tx' hf s.d i4.1;have R8:H (∀ W,Fr No W1 W->aq am 72 #[ak s.d.vals] W λe w'=>e=.returned (T (tx s.d))/\Fr No W w'):=λW hW=>by
           rw[<-o9];exact zLM s.d lA W ((hA.no R (λ_=>id)).no hW (λ_=>id)) p8
          obtain⟨P,hP⟩:∃ P,P=plc ds s.d.parent:=⟨_,rfl⟩
          have J4:H (∀ W,Fr No W1 W->aq am 70 #[ak #[aa c.a ds.length c.cap],ak s.d.vals] W λe w'=>e=.returned (ak #[T P,T s.d.orig])/\Fr No W w'):=λW hW=>by
           rw[hP];have hT:=(N.out.tr' (i7.out.step hW zn))
           exact zHX c.a c.cap ds s.d W hT.dv hT.wf.ok (by have:=N.out.dn;omega) (hT.wf.ok.pwf i4.1)
          have z5:H (P.size<=ag/\s.d.orig.size<=ag):=by
           rw[hP];have h1:=zBg N.out.tr.wf.ok N.out.dn s.d.parent;have h2:=N.out.tr.wf.ok.sz s.d i4.1;refine⟨?_,?_⟩<;>unfold ag<;>omega
          obtain⟨y,hy,R9⟩:=zEc F (P,s.d.orig);obtain⟨bk,j3⟩:∃ bk,bk=(wantG F (P,s.d.orig)).isSome:=⟨_,rfl⟩
          have p2:H (againB ds tx F r s=(bk&&((y.r==r)&&(y.c.toList==(tx s.d).toList)))):=by
           unfold H;rw[j3];exact zLI hP R9
          have HY:=zh hy;have v0:=zh j3.symm;unfold Dev.vals at R8 J4;unfold Src.vals at a7;clear A hR hf R7 hA p8 o9 x1 X0 hP hy R9 j3 R d1
          go_upto_region 23 with(fail)
          rw[<-a7];clear a7 c0 c1 c2 c3 c4 c5 c6 c7 c8 c9 p5 p6 p7;refine zZ (From (W1:Q)) (.q 0 (.q 1 (.q 2 (.q 3 (.q 4 (.q 5 (.q 6 (.q 7 (.q 8 (.q 9 (.m2 10 (.q 11 (.q 12 (.q 13 (.q 14 (.m1 15 (.m1 16 (.q 17 .fin))))))) 15 (.m1 10 (.q 11 (.q 12 (.q 13 (.q 14 (.m1 16 (.q 17 .fin)))))))))))))))))) _ (by kernel_rfl) (by kernel_rfl) (λW3 a2=>?_) zj;have d3:=a2.heap D1.out id;have x3:=a2.heap a4.out.k id;have D:∀ g:Gr (From (W1:Q)) W3,SrcB0 g.W (wr:Q) s:=λg=>SrcB0.of (g.fr.heap d3 (by unfold From;have:=t9.out;omega))
          have e0:=λg=>(D g).c0
          have e1:=λg=>(D g).c1
          have e2:=λg=>(D g).c2
          have e3:=λg=>(D g).c3
          have e4:=λg=>(D g).c4
          have e5:=λg=>(D g).c5
          have e6:=λg=>(D g).c6
          have e7:=λg=>(D g).c7
          have e8:=λg=>(D g).c8
          have e9:=λg=>(D g).c9
          have j4:=λg=>(D g).c10
          have j5:=λg=>(D g).c11
          have j6:=λg=>(D g).c12
          have x6:∀ g:Gr (From (W1:Q)) W3,g.W.cell? ⟨c.xb,6,f⟩=B (.map (B c.wm)):=λg=>zB (g.fr.heap x3 (by unfold From;have:=t9.out;omega)) 6
          have x2:∀ g:Gr (From (W1:Q)) W3,g.W.cell? ⟨c.xb,2,f⟩=B (aa c.a ds.length c.cap):=λg=>by
           have:=zB (g.fr.heap x3 (by unfold From;have:=t9.out;omega)) 2;rw[N.out.n]at this;exact this
          have m7:=zh a2;clear D d3 x3 a2
          repeat((first|apply zL rfl rfl rfl|apply zJ rfl rfl rfl);intro Z hK;go_big_quiet_op;go_big_quiet_on)
          clear e0 e1 e2 e3 e4 e5 e6 e7 e8 e9 j4 j5 j6 x6 x2;refine zAA rfl rfl ?_ ?_
          focus
           go_wp2_with fail
           refine(J4.out W3 m7.out).mono ?_;rintro e Wc ⟨rfl,l7⟩
           go_wp2_with fail
           refine zm l7 ?_;have g2:=zh (m7.out.step l7 zi);have v1:∀ W,(∃ g:Gr (From (W1:Q)) Wc,W=g.W)->(bd 82 (.map (B c.wm)) (ak #[T P,T s.d.orig]) af).run am W=.ok (.tuple #[ak #[T y.q,T y.o,T y.c,a0 a1 y.r],.bool bk]) W:=λW hW=>by
            obtain⟨g,rfl⟩:=hW;have:=((a4.out.no g2.out).wmo.fr g.fr (by unfold From;have:=t9.out;omega)).lookok (zDU g.W) bg z5.out.1 z5.out.2;rw[this,HY.out,v0.out]
           apply zL rfl rfl rfl;intro Z hK;refine zAh rfl _ _ 82 rfl (.map (B c.wm)) (ak #[T P,T s.d.orig]) _ rfl rfl v1 ?_
           go_frame
           go_big_quiet_on;clear v1;apply zL rfl rfl rfl;intro Z hK;go_big_quiet_op;go_big_quiet_on;apply zL rfl rfl rfl;intro Z hK;go_big_quiet_op;go_big_quiet_on;apply zL rfl rfl rfl;intro Z hK;go_big_quiet_op;go_big_quiet_on;clear l7;apply zH;exact rfl;obtain⟨Wa,v4,v5,qa⟩:=zy Wc (aj #[T ⟨#[]⟩,T ⟨#[]⟩,T ⟨#[]⟩,a0 a1 0] 97)
           go_wp2_with fail
           refine zp ?_;rw[<-v4];clear v4;have v6:H (Fr No W1 Wa):=g2.out.step v5 zi;have j7:H ((W1:Q)<=(Wc:Q)):=g2.out.size;have qz:=qa;clear v5 qa;obtain⟨j8,hB⟩:∃ j8,j8=(Wc:Q):=⟨_,rfl⟩
           rw[<-hB]at qz j7 ⊢;clear hB;obtain⟨z0,z1,z2,z3⟩:=cl4 qz;obtain⟨f0,f1,f2,f3⟩:=fl4 qz;have h4:=zh (set4 qz rfl (T y.q) (T y.o) (T y.c) (a0 a1 y.r));clear qz;apply zH;exact rfl
           go_wp2_with fail
           refine az ⟨h4.out.2.mono (λb _ h=>by unfold Is at h;unfold From;have:=j7.out;omega),?_⟩;apply zL rfl rfl rfl;intro Z hK;go_big_quiet_op;go_big_quiet_on;refine zV ?_;obtain⟨w5,o1⟩:∃ w5,w5=((((Wa.setCell ⟨j8,0,f⟩ (T y.q)).setCell ⟨j8,1,f⟩ (T y.o)).setCell ⟨j8,2,f⟩ (T y.c)).setCell ⟨j8,3,f⟩ (a0 a1 y.r)):=⟨_,rfl⟩
           rw[<-o1];have j9:=h4.out;rw[<-o1]at j9;have k1:H (Fr No W1 w5):=v6.out.step j9.2 (λb hb h=>by unfold Is at h;have:=j7.out;omega);have z6:=zh j9.1;clear o1 h4 j9 z0 z1 z2 z3 f0 f1 f2 f3 v6 j7
          rotate_left 1
          focus
           obtain⟨Wa,v4,v5,qa⟩:=zy W3 (aj #[T ⟨#[]⟩,T ⟨#[]⟩,T ⟨#[]⟩,a0 a1 0] 97)
           go_wp2_with fail
           refine zp ?_;rw[<-v4];clear v4;have U0:=zh (m7.out.step v5 zi);clear v5;apply zH;exact rfl
           go_wp2_with fail
           refine(J4.out Wa U0.out).mono ?_;rintro e Wc ⟨rfl,l7⟩
           go_wp2_with fail
           refine zm l7 ?_;have qb:=l7.heap qa id;clear qa;have g2:=zh (U0.out.step l7 zi);have v1:∀ W,(∃ g:Gr (From (W1:Q)) Wc,W=g.W)->(bd 82 (.map (B c.wm)) (ak #[T P,T s.d.orig]) af).run am W=.ok (.tuple #[ak #[T y.q,T y.o,T y.c,a0 a1 y.r],.bool bk]) W:=λW hW=>by
            obtain⟨g,rfl⟩:=hW;have:=((a4.out.no g2.out).wmo.fr g.fr (by unfold From;have:=t9.out;omega)).lookok (zDU g.W) bg z5.out.1 z5.out.2;rw[this,HY.out,v0.out]
           apply zL rfl rfl rfl;intro Z hK;refine zAh rfl _ _ 82 rfl (.map (B c.wm)) (ak #[T P,T s.d.orig]) _ rfl rfl v1 ?_
           go_frame
           go_big_quiet_on;clear v1;apply zL rfl rfl rfl;intro Z hK;go_big_quiet_op;go_big_quiet_on;apply zL rfl rfl rfl;intro Z hK;go_big_quiet_op;go_big_quiet_on;apply zL rfl rfl rfl;intro Z hK;go_big_quiet_op;go_big_quiet_on;clear l7;have v6:H (Fr No W1 Wc):=g2.out;have j7:H ((W1:Q)<=(W3:Q)):=m7.out.size;have qz:=qb;clear qb;obtain⟨j8,hB⟩:∃ j8,j8=(W3:Q):=⟨_,rfl⟩
           rw[<-hB]at qz j7 ⊢;clear hB;obtain⟨z0,z1,z2,z3⟩:=cl4 qz;obtain⟨f0,f1,f2,f3⟩:=fl4 qz;have h4:=zh (set4 qz rfl (T y.q) (T y.o) (T y.c) (a0 a1 y.r));clear qz;apply zH;exact rfl
           go_wp2_with fail
           refine az ⟨h4.out.2.mono (λb _ h=>by unfold Is at h;unfold From;have:=j7.out;omega),?_⟩;apply zL rfl rfl rfl;intro Z hK;go_big_quiet_op;go_big_quiet_on;refine zV ?_;obtain⟨w5,o1⟩:∃ w5,w5=((((Wc.setCell ⟨j8,0,f⟩ (T y.q)).setCell ⟨j8,1,f⟩ (T y.o)).setCell ⟨j8,2,f⟩ (T y.c)).setCell ⟨j8,3,f⟩ (a0 a1 y.r)):=⟨_,rfl⟩
           rw[<-o1];have j9:=h4.out;rw[<-o1]at j9;have k1:H (Fr No W1 w5):=v6.out.step j9.2 (λb hb h=>by unfold Is at h;have:=j7.out;omega);have z6:=zh j9.1;clear o1 h4 j9 z0 z1 z2 z3 f0 f1 f2 f3 v6 j7
          all_goals (
           have J5:=zh (a4.out.no k1.out);have J6:=zh (i7.out.step k1.out zn)
           go_wp2_with fail
           rcases j3:bk with _|_
           .skip;have l8:H (S++(moreS ds tx F r c.C k++if againB ds tx F r s=af then [{ s with r:=r }]else [])=S4):=by
             unfold H;rw[p2.out,j3];simp[t8.out]
            clear j3 v0 HY p2;refine zQ No [(0,G),(1,G),(2,G),(3,G),(4,G),(5,G),(6,G),(7,G),(8,G),(9,G),(10,G),(11,G),(12,af),(13,G),(14,G)] (by kernel_rfl) (by kernel_rfl) (λw6 U=>?_);have y6:=U.heap z6.out id;have d6:=U.heap (k1.out.heap D1.out id) id;have v2:∀ g:Gr No w6,g.W.cell? ⟨j8,2,f⟩=B (T y.c):=λg=>zB (g.fr.heap y6 id) 2
            have v3:∀ g:Gr No w6,g.W.cell? ⟨j8,3,f⟩=B (a0 a1 y.r):=λg=>zB (g.fr.heap y6 id) 3
            have D:∀ g:Gr No w6,SrcB0 g.W (wr:Q) s:=λg=>SrcB0.of (g.fr.heap d6 id)
            have e0:=λg=>(D g).c0
            have e1:=λg=>(D g).c1
            have e2:=λg=>(D g).c2
            have e3:=λg=>(D g).c3
            have e4:=λg=>(D g).c4
            have e5:=λg=>(D g).c5
            have e6:=λg=>(D g).c6
            have e7:=λg=>(D g).c7
            have e8:=λg=>(D g).c8
            have e9:=λg=>(D g).c9
            have j4:=λg=>(D g).c10
            have j5:=λg=>(D g).c11
            have j6:=λg=>(D g).c12
            have Y:=zh U;clear D y6 d6 U
            repeat((first|apply zT rfl rfl rfl|apply zU rfl rfl rfl);intro Z hK;go_big_quiet_op;go_big_quiet_on)
            clear e0 e1 e2 e3 e4 e5 e6 e7 e8 e9 j4 j5 j6 v2 v3;apply zt;exact rfl
            go_wp2_with fail
            refine zq ?_
            repeat((first|apply zT rfl rfl rfl|apply zU rfl rfl rfl);intro Z hK;go_big_quiet_op;go_big_quiet_on)
            refine zb ?_;have a3:=zh (J5.out.no Y.out);have g5:=zh (J6.out.step Y.out zn)
            go_wp2_with fail
            go_roundw
            case rel=>exact⟨k+1,a5,a6,by omega,by go_num,by rw[o8.out,l8.out];exact a3.out,g5.out⟩
            case measure=>simp[ai];omega
           .skip;rcases hrr:(y.r==r)with _|_
            .skip;have l8:H (S++(moreS ds tx F r c.C k++if againB ds tx F r s=af then [{ s with r:=r }]else [])=S4):=by
              unfold H;rw[p2.out,hrr];simp[t8.out]
             clear j3 v0 HY p2;refine zQ No [(0,G),(1,G),(2,G),(3,G),(4,G),(5,G),(6,G),(7,G),(8,G),(9,G),(10,G),(11,G),(12,af),(13,G),(14,G)] (by kernel_rfl) (by kernel_rfl) (λw6 U=>?_);have y6:=U.heap z6.out id;have d6:=U.heap (k1.out.heap D1.out id) id;have v2:∀ g:Gr No w6,g.W.cell? ⟨j8,2,f⟩=B (T y.c):=λg=>zB (g.fr.heap y6 id) 2
             have v3:∀ g:Gr No w6,g.W.cell? ⟨j8,3,f⟩=B (a0 a1 y.r):=λg=>zB (g.fr.heap y6 id) 3
             have D:∀ g:Gr No w6,SrcB0 g.W (wr:Q) s:=λg=>SrcB0.of (g.fr.heap d6 id)
             have e0:=λg=>(D g).c0
             have e1:=λg=>(D g).c1
             have e2:=λg=>(D g).c2
             have e3:=λg=>(D g).c3
             have e4:=λg=>(D g).c4
             have e5:=λg=>(D g).c5
             have e6:=λg=>(D g).c6
             have e7:=λg=>(D g).c7
             have e8:=λg=>(D g).c8
             have e9:=λg=>(D g).c9
             have j4:=λg=>(D g).c10
             have j5:=λg=>(D g).c11
             have j6:=λg=>(D g).c12
             have Y:=zh U;clear D y6 d6 U
             repeat((first|apply zT rfl rfl rfl|apply zU rfl rfl rfl);intro Z hK;go_big_quiet_op;go_big_quiet_on)
             clear e0 e1 e2 e3 e4 e5 e6 e7 e8 e9 j4 j5 j6 v2 v3;apply zt;exact rfl
             go_wp2_with fail
             refine zq ?_
             repeat((first|apply zT rfl rfl rfl|apply zU rfl rfl rfl);intro Z hK;go_big_quiet_op;go_big_quiet_on)
             refine zb ?_;have a3:=zh (J5.out.no Y.out);have g5:=zh (J6.out.step Y.out zn)
             go_wp2_with fail
             go_roundw
             case rel=>exact⟨k+1,a5,a6,by omega,by go_num,by rw[o8.out,l8.out];exact a3.out,g5.out⟩
             case measure=>simp[ai];omega
            .skip;have D6:H (againB ds tx F r s=(y.c.toList==(tx s.d).toList)):=by unfold H;rw[p2.out,j3,hrr];rfl
             clear j3 v0 HY p2;refine zQ No [(0,G),(1,G),(2,G),(3,G),(4,G),(5,G),(6,G),(7,G),(8,G),(9,G),(10,G),(11,G),(12,af),(13,G),(14,G)] (by kernel_rfl) (by kernel_rfl) (λw6 U=>?_);have y6:=U.heap z6.out id;have d6:=U.heap (k1.out.heap D1.out id) id;have v2:∀ g:Gr No w6,g.W.cell? ⟨j8,2,f⟩=B (T y.c):=λg=>zB (g.fr.heap y6 id) 2
             have v3:∀ g:Gr No w6,g.W.cell? ⟨j8,3,f⟩=B (a0 a1 y.r):=λg=>zB (g.fr.heap y6 id) 3
             have D:∀ g:Gr No w6,SrcB0 g.W (wr:Q) s:=λg=>SrcB0.of (g.fr.heap d6 id)
             have e0:=λg=>(D g).c0
             have e1:=λg=>(D g).c1
             have e2:=λg=>(D g).c2
             have e3:=λg=>(D g).c3
             have e4:=λg=>(D g).c4
             have e5:=λg=>(D g).c5
             have e6:=λg=>(D g).c6
             have e7:=λg=>(D g).c7
             have e8:=λg=>(D g).c8
             have e9:=λg=>(D g).c9
             have j4:=λg=>(D g).c10
             have j5:=λg=>(D g).c11
             have j6:=λg=>(D g).c12
             have Y:=zh U;clear D y6 d6 U
             repeat((first|apply zT rfl rfl rfl|apply zU rfl rfl rfl);intro Z hK;go_big_quiet_op;go_big_quiet_on)
             clear e0 e1 e2 e3 e4 e5 e6 e7 e8 e9 j4 j5 j6 v2 v3;apply zt;exact rfl
             go_wp2_with fail
             refine(R8.out w6 (k1.out.step Y.out zi)).mono ?_;rintro e w7 ⟨rfl,g4⟩;have z7:=zh (Y.out.step g4 zi)
             go_wp2_with fail
             refine zm g4 ?_;clear g4;rcases hcc:(y.c.toList==(tx s.d).toList)with _|_
             .skip;have l8:H (S++(moreS ds tx F r c.C k++if againB ds tx F r s=af then [{ s with r:=r }]else [])=S4):=by
               unfold H;rw[D6.out,hcc];simp[t8.out]
              repeat((first|apply zT rfl rfl rfl|apply zU rfl rfl rfl);intro Z hK;go_big_quiet_op;go_big_quiet_on)
              refine zb ?_;have a3:=zh (J5.out.no z7.out);have g5:=zh (J6.out.step z7.out zn)
              go_wp2_with fail
              go_roundw
              case rel=>exact⟨k+1,a5,a6,by omega,by go_num,by rw[o8.out,l8.out];exact a3.out,g5.out⟩
              case measure=>simp[ai];omega
             .skip;have l8:H (S++(moreS ds tx F r c.C k++if againB ds tx F r s=af then [{ s with r:=r }]else [])=S4++[{ s with r:=r }]):=by
               unfold H;rw[D6.out,hcc];simp[t8.out]
              repeat((first|apply zT rfl rfl rfl|apply zU rfl rfl rfl);intro Z hK;go_big_quiet_op;go_big_quiet_on)
              refine zb ?_;clear hcc;have d7:=z7.out.heap (k1.out.heap D1.out id) id;have X1:w7.cell? ⟨wr,12,f⟩=B (a0 a1 s.r):=(SrcB0.of d7).c12;have X2:=zD d7 12;obtain⟨w8,z8⟩:∃ w8,w8=w7.setCell ⟨wr,12,f⟩ (a0 a1 r):=⟨_,rfl⟩
              have f8:Fr (Is (wr:Q)) w7 w8:=by rw[z8];exact Fr.setAt (al _ _) _
              have dw:w8.heap[(wr:Q)]?=B (aj (Src.vals { s with r:=r }) 134):=by rw[z8];exact zE d7 12 _
              have J7:Fr No wr w8:=(W8.out.step (k1.out.step z7.out zi) zi).step f8 (λb hb h=>by omega);obtain⟨s2,J8⟩:∃ s2:Src,s2={ s with r:=r }:=⟨_,rfl⟩
              rw[<-J8]at dw l8;have X3:=zh J8;clear J8;have i9:=zh (j2.out.no J7);have kw:=i9.out.k;have J9:=i9.out.so;have n7:=zh (J3.out.step J7 zn);have X4:∀ b,(ae a5 S4.length a6).ownBlock=B b->b<(wr:Q):=λb h=>zY j2.out.so h
              have hwl:(wr:Q)<(w8:Q):=zC dw;have hxw:c.xb<(wr:Q):=zC j2.out.k;have Z5:c.b2<=(w8:Q):=by have:=W9.out;omega
              clear d7 f8 J7;obtain⟨i0,X5,X6,X7,X8⟩:=info_parts infoSr
              go_upto_region 26 with(fail)
              rw[<-z8];clear z8 X1 X2;refine zZ (λb=>b=c.xb\/(ae a5 S4.length a6).ownBlock=B b\/(w8:Q)<=b) (.q 0 (.q 1 (.q 2 (.q 3 (.q 5 (.m2 4 (.m1 6 (.m1 7 (.q 8 (.q 9 (.m1 10 .fin))))) 6 (.m1 4 (.m1 7 (.q 8 (.q 9 (.m1 10 .fin))))))))))) _ (by kernel_rfl) (by kernel_rfl) (λW3 a2=>?_) zj;have z9:=a2.heap kw id;have o2:=zG J9 a2 (λ_ _=>id);have D7:=zK o2 z9 (by decide);have d3:=a2.heap dw id;have s3:=a2.size;have D:∀ g:Gr (λb=>b=c.xb\/(ae a5 S4.length a6).ownBlock=B b\/(w8:Q)<=b) W3,SrcB0 g.W (wr:Q) s2:=λg=>SrcB0.of (g.fr.heap d3 (λh=>by
               rcases h with h|h|h
               .omega
               .have:=X4 _ h;omega
               .omega))
              have e0:=λg=>(D g).c0
              have e1:=λg=>(D g).c1
              have e2:=λg=>(D g).c2
              have e3:=λg=>(D g).c3
              have e4:=λg=>(D g).c4
              have e5:=λg=>(D g).c5
              have e6:=λg=>(D g).c6
              have e7:=λg=>(D g).c7
              have e8:=λg=>(D g).c8
              have e9:=λg=>(D g).c9
              have j4:=λg=>(D g).c10
              have j5:=λg=>(D g).c11
              have j6:=λg=>(D g).c12
              have U1:=zh a2;clear D d3
              repeat((first|apply zL rfl rfl rfl|apply zJ rfl rfl rfl);intro Z hK;go_big_quiet_op;go_big_quiet_on)
              clear e0 e1 e2 e3 e4 e5 e6 e7 e8 e9 j4 j5 j6;have c3:W3.cell? ⟨c.xb,5,f⟩=B (aa a5 S4.length a6):=zB z9 5;refine zAA rfl rfl ?_ ?_
              focus
               go_wp2_with fail
               refine zq ?_;apply zH;exact rfl
               go_wp2_with fail
               refine zp ?_;clear c3
              rotate_left 1
              focus
               go_wp2_with fail
               refine zp ?_;apply zH;exact rfl;have c7:∀ o,(W3.alloc o).cell? ⟨c.xb,5,f⟩=B (aa a5 S4.length a6):=λo=>((al No W3).alloc o).cell c3 id
               clear c3
               go_wp2_with fail
               refine zq ?_;clear c7
              all_goals (
               apply zH;exact rfl
               go_wp2_with (at_builtin;refine wpList_append_own_at _ rfl _ _ 81 rfl c.b2 134 i0 (ak #[a0 a1 0,a0 a1 0,a0 a1 0,T ap,T ap,T ap,T ap,T ap,a0 a1 0,a0 a1 0,aa f 0 0,T ap,a0 a1 0]) 13 168 Tryz.underlying81 X5 X6 X7 X8 rfl (by decide) _ _ _ rfl (o2.alloc _) ⟨W3,0,f⟩ 1 1 (Src.vals s2).toList rfl rfl (zg _ (Src.vals s2) _ rfl) (zCP _) (by unfold ag;omega) (by omega) (by first|omega|(simp;done)|(simp;omega)) ?_;intro v' w4 k2 o7 _ D8;obtain⟨v7,v8,rfl⟩:=zI k2)
               have n6:Fr No W3 (W3.alloc (aj (Src.vals s2) 134)):=(al _ _).alloc _;have A0:Fr (λb=>(ae a5 S4.length a6).ownBlock=B b) (W3.alloc (aj (Src.vals s2) 134)) w4:=Fr.of_grown o7;have k4:=A0.heap (n6.heap z9 id) (λe=>D7 e);have c3:w4.cell? ⟨c.xb,5,f⟩=B (aa a5 S4.length a6):=zB k4 5;have f3:w4.frozen? ⟨c.xb,5,f⟩=false:=zD k4 5;have D9:=zK k2 k4 (by decide);refine az ⟨A0.mono (λb _ h=>.inr (.inl h)),?_⟩
               repeat((first|apply zL rfl rfl rfl|apply zJ rfl rfl rfl);intro Z hK;go_big_quiet_op;go_big_quiet_on)
               apply zH;exact rfl;have f5:Fr (Is (c.xb)) w4 (w4.setCell ⟨c.xb,5,f⟩ (aa v7 (S4.length+1) v8)):=Fr.setAt (al _ _) _;have k5:((w4.setCell ⟨c.xb,5,f⟩ (aa v7 (S4.length+1) v8))).heap[c.xb]?=B (aj (rcs c.ka c.kn c.kc c.wt c.a c.n c.cap c.ca c.C.length c.cc c.ea c.en c.ec v7 (S4.length+1) v8 c.wm c.sm I F.length J) 85):=zE k4 5 _;have v9:=zG k2 f5 (λb hb h=>by unfold Is at h;subst h;exact D9 hb);have U2:Fr (λb=>b=c.xb\/(ae a5 S4.length a6).ownBlock=B b) W3 (w4.setCell ⟨c.xb,5,f⟩ (aa v7 (S4.length+1) v8)):=((n6.mono zn).step A0 (λb _ h=>.inr h)).step f5 (λb _ h=>.inl h);have HR:=zg3 k5 v9 U2;have HAT:=zh D8;clear k2 o7 A0 k4 f5 k5 v9 U2 D9 n6 D8
               go_wp2_with fail
               refine az ⟨Fr.setCell (al _ _) (λ_=>.inl rfl) _,?_⟩;refine zV ?_;clear o2 z9 D7;have HG:=zh ((i9.out.no U1.out).growS HR.out.2.2 HR.out.1 HR.out.2.1);have X9:H (Fr (From (w0:Q)) w0 W3):=n7.out.step U1.out zn;have Y0:=zh HR.out.2.2;have Y1:H (S4++[s2]=S++moreS ds tx F r c.C (k+1)):=by unfold H;rw[o8.out,<-l8.out,X3.out]
               go_wp2_with fail
               go_roundw
               case rel=>exact⟨k+1,v7,v8,by omega,by go_num,Y1.out▸HG.out,X9.out.step Y0.out (λb _ h=>by
                unfold From;have h0:=j2.out.lo;have m6:=N.out.sz;rcases h with h|h
                .omega
                .have:=zP j2.out.so h;omega)⟩
               case measure=>simp[ai];omega
               )
           )
         .obtain rfl:k=c.C.length:=by omega
          have g6:¬ (c.C.length:Int)<c.C.length:=by omega
          have k5:wr.cell? ⟨c.xb,5,f⟩=B (aa a5 S4.length a6):=zB hR.k 5;have U3:=zJj a5 a6 c.b2 S4 wr hR.so (by omega);have j2:=zh hR;have J3:=zh hf;clear hR hf
          go_wp2_with fail
          refine U3.mono ?_;rintro e w9 ⟨rfl,⟨S',L0,U4,w1⟩,L1⟩;have U5:=zh (j2.out.perm L1 L0.length_eq w1);have Y2:=zh (J3.out.step L1 (λb _ h=>by
           unfold From;have h0:=j2.out.lo;have m6:=N.out.sz;have:=zP j2.out.so h;omega))
          have Y3:H (NextR ds tx E Z c.C r S M k6 S' F G4):=⟨W4.out,by rw[<-t8.out];exact L0,U4⟩
          have k8:w9.cell? ⟨c.xb,8,f⟩=B (aa I F.length J):=zB U5.out.k 8;clear U3 L0 U4 w1 L1 k5
          go_wp2_with fail
          go_ret;exact⟨⟨S',F,G4,a5,a6,I,J,by simp,U5.out,Y3.out⟩,Y2.out⟩
      )
end Go.Proofs.YtckkocmhlhefpaaGreatDoor
