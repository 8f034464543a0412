import Derived.Test.YtinfjnndbfahhaaGreatDoorQ41
namespace Go.Proofs.YtinfjnndbfahhaaGreatDoor
open Go.RowKit Go.Maps
set_option linter.unusedVariables false
set_option maxRecDepth 100000
set_option maxHeartbeats 8000000
structure RB (c:RC)(w0:World)(base:Nat)(ds:List Dev)(tx:Dev->ByteArray)(E K:List ByteArray):Prop where
 sz:w0.heap.size=c.b0
 env:Env w0
 tr:Tr w0 base c.a c.cap ds
 n:c.n=ds.length
 dn:ds.length<=250
 es:Strs w0 c.ea c.ec E
 en:c.en=E.length
 ks:Strs w0 c.ka c.kc K
 kn:c.kn=K.length
 kl:K.length<=1000000
 kz:∀ x∈K,x.size<=maxLen
 tx:TxS w0 c.b0 tx ds
 cm:∀ s∈c.C,s.d∈ds/\s.o.size<=1000000/\0<=s.r
 cn:c.C.length<=250
theorem RB.tr' {c:RC}{g:World}{f:Nat}{ds:List Dev}{tx:Dev->ByteArray}{E K:List ByteArray}(h:RB c g f ds tx E K){w:World}(o:Fr (From g.heap.size) g w):Tr w f c.a c.cap ds:=h.tr.keep o (fun b q _ h=>by unfold From at h;omega)
theorem RB.env' {c:RC}{g:World}{f:Nat}{ds:List Dev}{tx:Dev->ByteArray}{E K:List ByteArray}(h:RB c g f ds tx E K){w:World}(o:Fr (From g.heap.size) g w):Env w:=h.env.fr o (fun b q=>by unfold From;have:=h.env.sz;omega)
theorem RB.tx' {c:RC}{g:World}{f:Nat}{ds:List Dev}{tx:Dev->ByteArray}{E K:List ByteArray}(h:RB c g f ds tx E K){w:World}(o:Fr (From g.heap.size) g w):TxS w c.b0 tx ds:=h.tx.fr o (fun b u q=>by unfold From at q;have:=h.sz;omega)
theorem TxS.sub {w:World}{f:Nat}{tx:Dev->ByteArray}{L g:List Dev}(h:TxS w f tx L)(o:∀ d∈g,d∈L):TxS w f tx g:=fun d q=>h d (o d q)
theorem zKa (v:Vir)(w:World):Virs (w.alloc (.cells v.vals 94)) (some ⟨w.heap.size,0,none⟩) 1 [v]:=by
 refine⟨by simp,by unfold maxLen;omega,(fun e=>by cases e),fun h e g=>?_⟩;cases e;refine⟨rfl,by simp,fun i m f j o=>?_⟩;cases i with
 | zero=>
  simp at f;subst f;rw[zB (zD w (.cells v.vals 94))];simp
 | succ i=>simp at f
theorem zMD (c:RC)(w0:World)(u2:Nat)(ds:List Dev)(tx:Dev->ByteArray)(E K:List ByteArray)(hB:RB c w0 u2 ds tx E K)(sa:Option Addr)(sc:Nat)(ma:Option Addr)(mc:Nat)(S:List Src)(M:List Vir)(G:List (ByteArray×ByteArray))(r:Int)(w:World)(B7:Fr (From w0.heap.size) w0 w)(h:RS c w sa sc ma mc S M G)
  (B8:∀ s∈S,s.d∈ds/\s.o.size<=1000000) (i1:S.length<=1000) (L9:S.length<=700) (M0:M.length<=10000) (M1:G.length<=10000):
  Calls Tryz.prog 62 #[.pointer (some ⟨c.xb,0,none⟩),.int .i64 r] w fun e w'=>(∃ S' M' G' H0 H1 d4 d5,e=.returned (.bool (decide (M.length<(M':List Vir).length)))/\RS c w' H0 H1 d4 d5 S' M' G'/\NextR ds tx E K c.C r S M G S' M' G')/\Fr (From w0.heap.size) w0 w':=by
 have J:=zh hB;have t7:w.cell? ⟨c.xb,8,none⟩=some (.slice ma M.length mc):=zB h.k 8;have t5:w.cell? ⟨c.xb,5,none⟩=some (.slice sa S.length sc):=zB h.k 5;obtain⟨a9,c9,x0,o5,o6⟩:=Srcs.of_own h.so;cases x0;have M4:=o5.lenmax;have M5:M.length<=9223372036854775807:=by omega
 have Hh:=zh h;have H2:=zh B7;have h6:=zh B8;clear h hB B7 B8 o6 o5
 go_enter Tryz.func62,Tryz.ntmps62
 go_wp2_with fail
 clear t5 t7
 go_loopw [26] (fun x wr=>∃ (j:Nat) (Mj:List Vir) (d4:Option Addr) (d5:Nat),j<=S.length/\x=.int .i64 (j:Int)/\Hid (Mj=wantS tx S M r j)/\RS c wr sa sc d4 d5 S Mj G/\Fr (From w0.heap.size) w0 wr) (fun x _=>S.length-(intOf x).toNat)
 case atStart=>exact⟨0,M,ma,mc,by omega,rfl,by unfold Hid wantS;simp,Hh.out,H2.out⟩
 case round=>
  obtain⟨j,Mj,d4,d5,hj,rfl,s4,hR,hf⟩:=hrel;by_cases l1:j<S.length
  ·have g1:(j:Int)<S.length:=by omega
   obtain⟨a9,c9,x0,o5,o6⟩:=Srcs.of_own hR.so;cases x0;obtain⟨cb,B9,s,rfl,f,⟨c0,c1,c2,c3,c4,c5,c6,c7,c8,c9,o7,o8,o9⟩,C0⟩:=o5.elem l1;have h8:=h6.out s (List.mem_of_getElem? f);have o0:=zh (zDe (tx:=tx) (M:=M) (r:=r) f);have x1:=zEc tx S M r j;rw[<-s4.out]at x1;obtain⟨Z,N⟩:∃ Z,Z=wr.alloc (.cells s.vals 123):=⟨_,rfl⟩
   have R:Fr No wr Z:=by rw[N];exact(Fr.refl _ _).alloc _
   have d1:Z.heap[wr.heap.size]?=some (.cells s.vals 123):=by rw[N];exact zD _ _
   have x5:=hf.step R zn;obtain⟨l,hA,p0,o1,s5,-⟩:=J.out.tx' x5 s.d h8.1;have H3:s.d.orig.size<=1000000:=by
    have:=J.out.tr.wf.ok.sz s.d h8.1;omega
   have x7:=zK0 s.d l s.o r Z (J.out.env' x5) hA p0 H3 (by rw[o1];exact s5);rw[o1]at x7;have h7:=hR.no R;have i2:=zh x5;have z:=SrcB0.of d1;unfold Src.vals at N;clear f hR hf o5 o6 hA s5 d1 p0 o1
   go_upto_region 5 with(fail)
   rw[<-N];clear N c0 c1 c2 c3 c4 c5 c6 c7 c8 c9 o7 o8 o9;obtain⟨c0,c1,c2,c3,c4,c5,c6,c7,c8,c9,o7,o8,o9⟩:=z
   go_wp2_with fail
   refine x7.mono ?_;rintro e w2 ⟨⟨av,cv,V,hV,rfl,C1,j7⟩,l2⟩;have C2:=h7.no l2;have a7:=zA3 c _ sc d4 d5 S Mj G av cv V w2 C2 C1 (fun ad e hn=>by
    have h1:=j7 ad e;refine⟨?_,?_,?_⟩
    ·have:=zC h7.k;omega
    ·have:=h7.wmo.lt;omega
    ·intro ho;have:=zV h7.mo ho;omega) (fun v hv=>by
    rw[hV]at hv;have:=zKx hv;refine⟨?_,?_⟩
    ·rw[this.1];unfold maxLen;omega
    ·unfold maxLen;omega) (by rw[hV];have:=zHx s.o s.d (tx s.d) r;omega)
   have HV:=zh hV;have HX:=zh (And.intro h7 (i2.out.step l2 zn));clear x7 c0 c1 c2 c3 c4 c5 c6 c7 c8 c9 o7 o8 o9 h7 C2 l2 C1 j7 hV
   go_wp2_with fail
   refine a7.mono ?_;rintro e w3 ⟨rfl,⟨F,I,C3,-⟩,a2⟩;have s6:=zh (And.intro C3 (HX.out.2.step a2 (fun b hb h=>by
    unfold From;have h0:=J.out.sz;rcases h with h | h | h
    ·have:=HX.out.1.lo;omega
    ·have:=HX.out.1.lo;omega
    ·have:=zP HX.out.1.mo h;unfold From at this;omega)))
   have H4:Hid (zl Mj V=wantS tx S M r (j+1)):=by unfold Hid;rw[o0.out,HV.out,s4.out]
   clear a7 C3 a2
   go_wp2_with fail
   go_roundw
   case rel=>exact⟨j+1,zl Mj V,F,I,by omega,by go_num,H4,s6.out.1,s6.out.2⟩
   case measure=>simp[intOf];omega
  ·obtain rfl:j=S.length:=by omega
   have g1:¬ (S.length:Int)<S.length:=by omega
   have x1:=zEc tx S M r S.length;rw[<-s4.out]at x1;have K5:Mj.length<=26000:=by omega
   have K6:=hf.size;have l5:=J.out.sz;have C4:=zDU 105 (fun args w=>enters_of Tryz.func105 (by kernel_rfl) rfl _ _) (ofK 2 mk2) (fun p rd s W hE f=>(zJ8 p s rd W hE f).mono (fun e w' h=>⟨h.1.of,h.2⟩)) tx c.b0 c sa sc d4 d5 S Mj G wr hR (J.out.env' hf) ((J.out.tx' hf).sub (fun d hd=>by
    obtain⟨s,f,rfl⟩:=List.mem_map.1 hd;exact(h6.out s f).1)) (by omega) i1
   have HR:=zh (And.intro hR hf);clear hR hf
   go_wp2_with fail
   refine C4.mono ?_;rintro e w2 ⟨⟨L,la,lc,hL,rfl,C5,H5⟩,l2⟩;have x8:=zh (HR.out.2.step l2 zn);obtain⟨m0,C6⟩:=(J.out.env' x8.out).len;have C7:=zLb la lc L m0 w2 C5 (zAe zII hL i1 (fun s f=>(h6.out s f).2)) C6 (by have:=(J.out.env' x8.out).sz;omega);have HL:=zh hL;have i3:=zh (HR.out.1.no l2);clear C4 hL C5 H5 C6 l2
   go_wp2_with fail
   refine C7.mono ?_;rintro e w3 ⟨⟨ao,co,O,H6,rfl,hA,C8,C9,u3,hO,K7,-⟩,a2⟩;have l6:=zh (x8.out.step a2 zn);have s6:=zh (i3.out.no a2);have M6:O.length<=1000:=by
    have:=congrArg List.length hO;simp only[List.length_map]at this;omega
   have M7:=hA.lenmax;have D2:=zC i3.out.k;have D3:=i3.out.wmo.lt;have D4:=i3.out.smo.lt;have u4:∀ b,(Value.slice d4 Mj.length d5).ownBlock=some b->b<w2.heap.size:=fun b hb=>zV i3.out.mo hb
   have D5:∀ b,(b=c.xb\/b=c.wm\/b=c.sm\/(Value.slice d4 Mj.length d5).ownBlock=some b)->b<w2.heap.size:=fun b hb=>by
    rcases hb with hb | hb | hb | hb
    ·omega
    ·omega
    ·omega
    ·exact u4 b hb
   have s7:=zh D5;have HA:=zh (And.intro hA (And.intro C8 C9));have HO:=zh (And.intro u3 hO);have K8:=zh a2.size;clear C7 hA C8 C9 u3 hO a2 D5 u4 D2 D3 D4
   go_wp2_with fail
   go_loopw [43] (fun x wr=>∃ (j:Nat) (D:List Vir) (G2:List (ByteArray×ByteArray)) (F:Option Addr) (I:Nat),j<=O.length/\x=.int .i64 (j:Int)/\Hid ((D,G2)=arrAll ds E r (Mj,G) O j)/\RS c wr sa sc F I S D G2/\Hid (∀ b,(Value.slice F D.length I).ownBlock=some b->(Value.slice d4 Mj.length d5).ownBlock=some b\/w3.heap.size<=b)/\Fr (fun b=>b=c.xb\/b=c.wm\/b=c.sm\/(Value.slice d4 Mj.length d5).ownBlock=some b) w3 wr) (fun x _=>O.length-(intOf x).toNat)
   case atStart=>exact⟨0,Mj,G,d4,d5,by omega,rfl,by unfold Hid arrAll;simp,s6.out,fun b h=>.inl h,Fr.refl _ _⟩
   case round=>
    obtain⟨j,D,G2,F,I,hj,rfl,d9,hR,b7,hf⟩:=hrel;by_cases l1:j<O.length
    ·have g1:(j:Int)<O.length:=by omega
     have p1:Arrs wr ao co O:=HA.out.1.fr hf (fun ad e hn f=>by
      have h1:=s7.out _ f;have h2:=HA.out.2.1 ad e;omega) (fun m hm=>⟨fun ad e hn f=>by
      have h1:=s7.out _ f;have h2:=(HA.out.2.2 m hm).2.2.1 ad e;omega,fun ad e hn f=>by
      have h1:=s7.out _ f;have h2:=(HA.out.2.2 m hm).2.2.2 ad e;omega⟩)
     obtain⟨ab,D6,m,rfl,hm,⟨x9,p2⟩,⟨c0,c1,c2,c3,c4,c5⟩,D7⟩:=p1.elem l1;have o2:=zh (List.mem_of_getElem? hm);have l7:=zh (zDQ (ds:=ds) (E:=E) (r:=r) (x:=(Mj,G)) hm);have s8:=zDw ds E r (Mj,G) O j;rw[<-d9.out]at s8;have s9:m.i.size<=1000000:=zGq HO.out.1 HO.out.2 o2.out (zAe zII HL.out i1 (fun s f=>(h6.out s f).2)).i;obtain⟨Z,N⟩:∃ Z,Z=wr.alloc (.cells m.vals 176):=⟨_,rfl⟩
     have R:Fr No wr Z:=by rw[N];exact(Fr.refl _ _).alloc _
     have d1:Z.heap[wr.heap.size]?=some (.cells m.vals 176):=by rw[N];exact zD _ _
     have i2:Hid (Fr (From w0.heap.size) w0 Z):=(l6.out.step hf (fun b hb f=>by
      unfold From;have h0:=i3.out.lo;have l5:=J.out.sz;rcases f with f | f | f | f
      ·omega
      ·omega
      ·omega
      ·have:=zP i3.out.mo f;unfold From at this;omega)).step R zn
     have h7:=hR.no R;have a4:=zh h7;have D1:=zh d1;have Hf:=zh (hf.step R zn);have y7:=zh (p2.no R (fun _=>id));have D8:=R.size;have D9:=hf.size;unfold ArrM.vals at N;clear hm hR p1 x9 p2 hf R
     go_upto_region 10 with(fail)
     rw[<-N];clear N c0 c1 c2 c3 c4 c5;obtain⟨ex,y8⟩:∃ ex,ex=exB ds m.i:=⟨_,rfl⟩
     obtain⟨xp,y9⟩:∃ xp,xp=hasS E m.i:=⟨_,rfl⟩
     have E0:Hid (∀ W,Fr No Z W->Calls Tryz.prog 107 #[.pointer (some ⟨c.xb,0,none⟩),.string m.i] W fun e w'=>e=.returned (.bool ex)/\Fr No W w'):=fun W hW=>by
      rw[y8];exact zKB c sa sc F I S D G2 m.i ds u2 W (a4.out.no hW) s9 (J.out.tr' (i2.out.step hW zn)) J.out.n (by have:=J.out.dn;omega)
     have E1:Hid (∀ W,Fr No Z W->Calls Tryz.prog 45 #[.slice c.ea E.length c.ec,.string m.i] W fun e w'=>e=.returned (.bool xp)/\Fr No W w'):=fun W hW=>by
      rw[y9];exact zD6 c.ea c.ec E m.i W (J.out.es.fr (i2.out.step hW zn) (fun ad e hn f=>by have:=(J.out.es.cell ad e hn).2.1;unfold From at f;omega))
     have z4:Hid (zBR ds E r (D,G2) m=if mustB m.t m.e m.n ex xp=true then
  (if (G2.any fun y=>decide (y=(mdK,m.i)))=true then (D,G2++[(mdK,m.i)])else (zw D (mdOf m.i m.l r),G2++[(mdK,m.i)]))
 else (D,G2)):=by unfold Hid;rw[y8,y9];rfl
     clear y8 y9;rcases hmu:mustB m.t m.e m.n ex xp with _ | _
     ·skip;refine zQ (Is c.sm) [(0,false),(1,false),(2,false),(3,false),(5,false),(6,false),(7,false),(8,false),(9,false),(10,false),(4,true),(11,true),(12,true),(13,false),(14,false),(15,false),(16,false),(17,true),(18,false)] (by kernel_rfl) (by kernel_rfl) (fun wx f4=>?_);have X:=a4.out.no f4;have dB:=f4.heap d1 id;have y0:∀ g:Gr (Is c.sm) wx,g.W.cell? ⟨wr.heap.size,0,none⟩=some (.string m.i):=fun g=>zB (g.fr.heap dB (fun h=>X.smo.ne_cells dB h)) 0
      have y1:∀ g:Gr (Is c.sm) wx,g.W.cell? ⟨wr.heap.size,1,none⟩=some (.slice m.pa m.ps.length m.pc):=fun g=>zB (g.fr.heap dB (fun h=>X.smo.ne_cells dB h)) 1
      have y2:∀ g:Gr (Is c.sm) wx,g.W.cell? ⟨wr.heap.size,2,none⟩=some (.int .i64 m.t):=fun g=>zB (g.fr.heap dB (fun h=>X.smo.ne_cells dB h)) 2
      have y3:∀ g:Gr (Is c.sm) wx,g.W.cell? ⟨wr.heap.size,3,none⟩=some (.int .i64 m.e):=fun g=>zB (g.fr.heap dB (fun h=>X.smo.ne_cells dB h)) 3
      have y4:∀ g:Gr (Is c.sm) wx,g.W.cell? ⟨wr.heap.size,4,none⟩=some (.int .i64 m.n):=fun g=>zB (g.fr.heap dB (fun h=>X.smo.ne_cells dB h)) 4
      have y5:∀ g:Gr (Is c.sm) wx,g.W.cell? ⟨wr.heap.size,5,none⟩=some (.slice m.la m.l.length m.lc):=fun g=>zB (g.fr.heap dB (fun h=>X.smo.ne_cells dB h)) 5
      have x4:∀ g:Gr (Is c.sm) wx,g.W.cell? ⟨c.xb,4,none⟩=some (.slice c.ea E.length c.ec):=fun g=>by
       have:=zB (g.fr.heap X.k (fun h=>X.smo.ne_cells X.k h)) 4;rw[J.out.en]at this;exact this
      have g2:=zh f4;clear f4 X dB d1 h7
      repeat((first|apply zS rfl rfl rfl|apply zW rfl rfl rfl);intro K hK;go_big_quiet_op;go_big_quiet_on)
      clear y0 y1 y2 y3 y4 y5 x4;apply zk;exact rfl
      go_wp2_with fail
      refine(E0.out wx g2.out).mono ?_;rintro e w4 ⟨rfl,l8⟩;have f6:=zh (g2.out.step l8 zi)
      go_wp2_with fail
      refine zm l8 ?_;clear l8;apply zk;exact rfl
      go_wp2_with fail
      refine(E1.out w4 f6.out).mono ?_;rintro e w5 ⟨rfl,l9⟩;have z5:=zh (f6.out.step l9 zi)
      go_wp2_with fail
      refine zm l9 ?_;clear l9;apply zk;exact rfl
      go_wp2_with fail
      refine(zKW m.i m.t m.e m.n m.pa m.ps.length m.pc m.la m.lc m.l ex xp w5).mono ?_;rintro e w6 ⟨rfl,U⟩;rw[hmu];have Y:=zh (z5.out.step U zi)
      go_wp2_with fail
      refine zm U ?_;clear U
      repeat((first|apply zS rfl rfl rfl|apply zW rfl rfl rfl);intro K hK;go_big_quiet_op;go_big_quiet_on)
      apply zk;exact rfl
      go_wp2_with fail
      refine zq ?_
      repeat((first|apply zS rfl rfl rfl|apply zW rfl rfl rfl);intro K hK;go_big_quiet_op;go_big_quiet_on)
      refine zY ?_;have f7:Hid ((D,G2)=arrAll ds E r (Mj,G) O (j+1)):=by unfold Hid;rw[l7.out,<-d9.out,z4.out,hmu];rfl
      have E2:=zh (And.intro (a4.out.no Y.out) (Hf.out.step Y.out zn));clear hmu
      go_wp2_with fail
      go_roundw
      case rel=>exact⟨j+1,D,G2,F,I,by omega,by go_num,f7,E2.out.1,b7,E2.out.2⟩
      case measure=>simp[intOf];omega
     ·skip;refine zQ (Is c.sm) [(0,false),(1,false),(2,false),(3,false),(5,false),(6,false),(7,false),(8,false),(9,false),(10,false),(4,true),(11,true),(12,true),(13,false),(14,false),(15,false),(16,false),(17,true),(18,false)] (by kernel_rfl) (by kernel_rfl) (fun wx f4=>?_);have X:=a4.out.no f4;have dB:=f4.heap d1 id;have y0:∀ g:Gr (Is c.sm) wx,g.W.cell? ⟨wr.heap.size,0,none⟩=some (.string m.i):=fun g=>zB (g.fr.heap dB (fun h=>X.smo.ne_cells dB h)) 0
      have y1:∀ g:Gr (Is c.sm) wx,g.W.cell? ⟨wr.heap.size,1,none⟩=some (.slice m.pa m.ps.length m.pc):=fun g=>zB (g.fr.heap dB (fun h=>X.smo.ne_cells dB h)) 1
      have y2:∀ g:Gr (Is c.sm) wx,g.W.cell? ⟨wr.heap.size,2,none⟩=some (.int .i64 m.t):=fun g=>zB (g.fr.heap dB (fun h=>X.smo.ne_cells dB h)) 2
      have y3:∀ g:Gr (Is c.sm) wx,g.W.cell? ⟨wr.heap.size,3,none⟩=some (.int .i64 m.e):=fun g=>zB (g.fr.heap dB (fun h=>X.smo.ne_cells dB h)) 3
      have y4:∀ g:Gr (Is c.sm) wx,g.W.cell? ⟨wr.heap.size,4,none⟩=some (.int .i64 m.n):=fun g=>zB (g.fr.heap dB (fun h=>X.smo.ne_cells dB h)) 4
      have y5:∀ g:Gr (Is c.sm) wx,g.W.cell? ⟨wr.heap.size,5,none⟩=some (.slice m.la m.l.length m.lc):=fun g=>zB (g.fr.heap dB (fun h=>X.smo.ne_cells dB h)) 5
      have x4:∀ g:Gr (Is c.sm) wx,g.W.cell? ⟨c.xb,4,none⟩=some (.slice c.ea E.length c.ec):=fun g=>by
       have:=zB (g.fr.heap X.k (fun h=>X.smo.ne_cells X.k h)) 4;rw[J.out.en]at this;exact this
      have g2:=zh f4;clear f4 X dB d1 h7
      repeat((first|apply zS rfl rfl rfl|apply zW rfl rfl rfl);intro K hK;go_big_quiet_op;go_big_quiet_on)
      clear y0 y1 y2 y3 y4 y5 x4;apply zk;exact rfl
      go_wp2_with fail
      refine(E0.out wx g2.out).mono ?_;rintro e w4 ⟨rfl,l8⟩;have f6:=zh (g2.out.step l8 zi)
      go_wp2_with fail
      refine zm l8 ?_;clear l8;apply zk;exact rfl
      go_wp2_with fail
      refine(E1.out w4 f6.out).mono ?_;rintro e w5 ⟨rfl,l9⟩;have z5:=zh (f6.out.step l9 zi)
      go_wp2_with fail
      refine zm l9 ?_;clear l9;apply zk;exact rfl
      go_wp2_with fail
      refine(zKW m.i m.t m.e m.n m.pa m.ps.length m.pc m.la m.lc m.l ex xp w5).mono ?_;rintro e w6 ⟨rfl,U⟩;rw[hmu];have Y:=zh (z5.out.step U zi)
      go_wp2_with fail
      refine zm U ?_;clear U;have y0:∀ g:Gr (Is c.sm) w6,g.W.cell? ⟨wr.heap.size,0,none⟩=some (.string m.i):=fun g=>zB (g.fr.heap (Y.out.heap D1.out id) (fun h=>(a4.out.no Y.out).smo.ne_cells (Y.out.heap D1.out id) h)) 0
      repeat((first|apply zS rfl rfl rfl|apply zW rfl rfl rfl);intro K hK;go_big_quiet_op;go_big_quiet_on)
      clear y0;apply zk;exact rfl;have m5:=zKV c sa sc F I S D G2 mdK m.i w6 (a4.out.no Y.out) (by unfold maxLen;show 2<=_;omega) (by unfold maxLen;omega) (by omega);unfold mdK at m5
      go_wp2_with fail
      refine m5.mono ?_;rintro e w7 ⟨rfl,p3,f9⟩;have a3:=zh (And.intro p3 ((Hf.out.step Y.out zn).step f9 (fun b hb h=>by unfold Is at h;exact .inr (.inr (.inl h)))));have g0:=zh f9;clear p3 m5
      go_wp2_with fail
      refine zf f9 ?_;clear f9
      repeat((first|apply zS rfl rfl rfl|apply zW rfl rfl rfl);intro K hK;go_big_quiet_op;go_big_quiet_on)
      refine zY ?_;rcases hsn:(G2.any fun x=>decide (x=((⟨#[109,100]⟩:ByteArray),m.i)))with _ | _
      ·skip;have f7:Hid ((zw D (mdOf m.i m.l r),G2++[(mdK,m.i)])=arrAll ds E r (Mj,G) O (j+1)):=by unfold Hid;rw[l7.out,<-d9.out,z4.out,hmu,if_pos rfl];exact(if_neg (fun h=>by have:=hsn.symm.trans h;cases this)).symm
       clear hmu hsn;have q7:=g0.out.heap (Y.out.heap D1.out id) (fun h=>(a4.out.no Y.out).smo.ne_cells (Y.out.heap D1.out id) h);obtain⟨b0,b1,b2,b3,b4,b5⟩:=cl6 q7;have p4:m∈O:=o2.out;have j8:Strs w7 m.la m.lc m.l:=(y7.out.no Y.out (fun _=>id)).fr g0.out (fun ad e hn f=>by
        unfold Is at f;have h1:=(HA.out.2.2 m p4).2.2.2 ad e;have h2:=s7.out c.sm (.inr (.inr (.inl rfl)));omega)
       have m6:=zMC m.i m.t m.e m.n r m.pa m.ps.length m.pc m.la m.lc m.l w7 s9 j8;have z6:(mdOf m.i m.l r).q.size<=maxLen/\(mdOf m.i m.l r).o.size<=maxLen:=by
        refine⟨by show (0:Nat)<=_;omega,?_⟩;show (mdT++m.i).size<=maxLen
        rw[ByteArray.size_append];unfold maxLen;show 3+m.i.size<=_
        omega
       obtain⟨v,hv⟩:∃ v,v=mdOf m.i m.l r:=⟨_,rfl⟩
       rw[<-hv]at m6 f7 z6;have H7:=zh z6;unfold Vir.vals at m6;clear hv z6 q7 j8 p4
       go_wp2_with fail
       refine m6.mono ?_;rintro e w8 ⟨rfl,m7⟩;have m8:Fr No w8 (w8.alloc (.cells v.vals 94)):=(Fr.refl _ _).alloc _;have z7:=a3.out.1.no m7;have i4:=zh z7;have a7:=zA3 c sa sc F I S D (G2++[(mdK,m.i)]) (some ⟨w8.heap.size,0,none⟩) 1 [v] (w8.alloc (.cells v.vals 94)) (z7.no m8) (zKa v w8) (fun ad e hn=>by
        cases e;refine⟨?_,?_,?_⟩
        ·have:=zC i4.out.k;show w8.heap.size≠_;omega
        ·have:=i4.out.wmo.lt;show w8.heap.size≠_;omega
        ·intro ho;have:w8.heap.size<w8.heap.size:=zV i4.out.mo ho;omega) (fun u hu=>by simp at hu;subst hu;exact H7.out) (by simp;omega)
       have m9:=zh ((a3.out.2.step m7 zn).step m8 zn);have z8:=m9.out.size;unfold Vir.vals at a7;clear m6 b0 b1 b2 b3 b4 b5 m7 m8 z7
       go_wp2_with fail
       refine a7.mono ?_;rintro e z9 ⟨rfl,⟨g3,g4,j9,b8⟩,k1⟩;have p5:=zh j9;have p6:Hid (Fr (fun b=>b=c.xb\/b=c.wm\/b=c.sm\/(Value.slice d4 Mj.length d5).ownBlock=some b) w3 z9):=m9.out.step k1 (fun b hb h=>by
        rcases h with h | h | h
        ·exact .inl h
        ·exact .inr (.inl h)
        ·rcases b7.out b h with h | h
         ·exact .inr (.inr (.inr h))
         ·omega)
       have i5:Hid (∀ b,(Value.slice g3 (zl D [v]).length g4).ownBlock=some b->(Value.slice d4 Mj.length d5).ownBlock=some b\/w3.heap.size<=b):=fun b hb=>by
        rcases b8 b hb with h | h
        ·exact b7.out b h
        ·refine .inr (Nat.le_trans ?_ h);exact z8
       clear a7 j9 b8 k1
       go_wp2_with fail
       go_roundw
       case rel=>exact⟨j+1,zl D [v],G2++[(mdK,m.i)],g3,g4,by omega,by go_num,f7,p5.out,i5,p6.out⟩
       case measure=>simp[intOf];omega
      ·have f7:Hid ((D,G2++[(mdK,m.i)])=arrAll ds E r (Mj,G) O (j+1)):=by unfold Hid;rw[l7.out,<-d9.out,z4.out,hmu,if_pos rfl];exact(if_pos hsn).symm
       clear hmu hsn
       go_wp2_with fail
       go_roundw
       case rel=>exact⟨j+1,D,G2++[(mdK,m.i)],F,I,by omega,by go_num,f7,a3.out.1,b7,a3.out.2⟩
       case measure=>simp[intOf];omega
    ·skip;obtain rfl:j=O.length:=by omega
     have g1:¬ (O.length:Int)<O.length:=by omega
     have s8:=zDw ds E r (Mj,G) O O.length;rw[<-d9.out]at s8;have p7:Hid (Fr (From w0.heap.size) w0 wr):=l6.out.step hf (fun b hb f=>by
      unfold From;have h0:=i3.out.lo;have l5:=J.out.sz;rcases f with f | f | f | f
      ·omega
      ·omega
      ·omega
      ·have:=zP i3.out.mo f;unfold From at this;omega)
     have n0:=zh hR;have E3:c.b0<=wr.heap.size:=by have:=p7.out.size;omega
     have E4:wr.cell? ⟨c.xb,0,none⟩=some (.slice c.ka K.length c.kc):=by
      have:=zB hR.k 0;rw[J.out.kn]at this;exact this
     have E5:=zh E4;have E6:Hid (∀ W,Fr No wr W->Calls Tryz.prog 104 #[.pointer (some ⟨c.xb,0,none⟩),.func (.func 111) #[] #[]] W fun e w'=>(∃ (L:List Mem) (a:Option Addr) (E7:Nat),L.map Mem.k=S.filterMap (fun s=>ofK 3 mk3 s.o s.r (tx s.d))/\e=.returned (.slice a L.length E7)/\Mems w' a E7 L/\(∀ ad,a=some ad->W.heap.size<=ad.block))/\Fr No W w'):=fun W hW=>
      have E8:=p7.out.step hW zn
      zDU 111 (fun args w=>enters_of Tryz.func111 (by kernel_rfl) rfl _ _) (ofK 3 mk3) (fun p rd s W hE f=>(zJv p s rd W hE f).mono (fun e w' h=>⟨h.1.of,h.2⟩)) tx c.b0 c sa sc F I S D G2 W (n0.out.no hW) (J.out.env' E8) ((J.out.tx' E8).sub (fun d hd=>by
       obtain⟨s,f,rfl⟩:=List.mem_map.1 hd;exact(h6.out s f).1)) (Nat.le_trans E3 hW.size) i1
     clear hR hf E4
     go_upto_region 13 with(fail)
     refine zb (fun b=>b=c.xb\/b=c.wm\/(Value.slice F D.length I).ownBlock=some b) (.q 0 (.q 1 (.q 3 (.q 4 (.q 5 (.q 6 (.q 8 (.m2 2 (.m1 7 (.m1 9 (.m1 10 .fin))) 7 (.m1 2 (.m1 9 (.m1 10 .fin))))))))))) _ (by kernel_rfl) (by kernel_rfl) (fun wx f4=>?_) zj;have g2:=zh f4;clear f4
     repeat((first|apply zM rfl rfl rfl|apply zO rfl rfl rfl);intro K hK;go_big_quiet_op;go_big_quiet_on)
     refine zv rfl rfl ?_ ?_
     focus
      go_wp2_with fail
      refine(E6.out wx g2.out).mono ?_;rintro e t0 ⟨⟨L3,l3,c3,p8,rfl,p9,-⟩,g5⟩;have d8:=zh (g2.out.step g5 zi);have o3:=zh (And.intro p8 p9);clear p8 p9
      go_wp2_with fail
      refine zm g5 ?_;clear g5;apply zH;exact rfl;have k0:t0.cell? ⟨c.xb,0,none⟩=some (.slice c.ka K.length c.kc):=d8.out.cell E5.out id
      go_wp2_with fail
      refine zq ?_;clear k0;apply zH;exact rfl;have b6:=p7.out.step d8.out zn;have g6:=J.out.env' b6;obtain⟨m3,q0⟩:=g6.len;have g7:=zDl zIH o3.out.1 i1 (fun s f=>(h6.out s f).2);have q1:=zh g7;have q2:=zKR l3 c3 L3 c.ka c.kc K r m3 t0 o3.out.2 g7 (J.out.ks.fr b6 (fun ad e hn f=>by have:=(J.out.ks.cell ad e hn).2.1;unfold From at f;omega)) J.out.kl J.out.kz q0 (by have:=g6.sz;omega);clear q0 g6 g7 b6
      go_wp2_with fail
      refine q2.mono ?_;rintro e A0 ⟨⟨av,cv,V,h9,rfl,hV,j7,g8,n1,H8⟩,g9⟩;have n5:=zh (d8.out.step g9 zi);have HV:=zh (And.intro hV (And.intro j7 (And.intro g8 n1)));have H9:V.length<=1000:=by
       have h1:=congrArg List.length n1;rw[List.length_map]at h1;have h2:(opened h9 K).length<=h9.length:=List.length_filter_le _ _;have h3:=q1.out.len;omega
      clear q2 hV j7 g8 n1
      go_wp2_with fail
      refine zm g9 ?_;clear g9;apply zH;exact rfl;have k2:=n0.out.no n5.out;have b9:=n0.out.no d8.out;have a7:=zA3 c sa sc F I S D G2 av cv V A0 k2 HV.out.1 (fun ad e hn=>by
       have h1:=HV.out.2.1 ad e;refine⟨?_,?_,?_⟩
       ·have:=zC b9.k;omega
       ·have:=b9.wmo.lt;omega
       ·intro ho;have:=zV b9.mo ho;omega) (fun v hv=>by
       rw[HV.out.2.2.2]at hv;have:=zEx HV.out.2.2.1 hv q1.out.i;unfold maxLen;omega) (by omega)
      clear k2 b9
      go_wp2_with fail
      refine a7.mono ?_;rintro e A1 ⟨rfl,⟨g3,g4,k6,d0⟩,h5⟩;have k7:=zh (And.intro k6 (And.intro d0 h5));clear a7 k6 d0
      go_wp2_with fail
      refine zf h5 ?_;clear h5;refine zX ?_
     rotate_left 1
     focus
      have k0:wx.cell? ⟨c.xb,0,none⟩=some (.slice c.ka K.length c.kc):=g2.out.cell E5.out id
      go_wp2_with fail
      refine zq ?_;clear k0;apply zH;exact rfl
      go_wp2_with fail
      refine(E6.out wx g2.out).mono ?_;rintro e t0 ⟨⟨L3,l3,c3,p8,rfl,p9,-⟩,g5⟩;have d8:=zh (g2.out.step g5 zi);have o3:=zh (And.intro p8 p9);clear p8 p9
      go_wp2_with fail
      refine zm g5 ?_;clear g5;apply zH;exact rfl;have b6:=p7.out.step d8.out zn;have g6:=J.out.env' b6;obtain⟨m3,q0⟩:=g6.len;have g7:=zDl zIH o3.out.1 i1 (fun s f=>(h6.out s f).2);have q1:=zh g7;have q2:=zKR l3 c3 L3 c.ka c.kc K r m3 t0 o3.out.2 g7 (J.out.ks.fr b6 (fun ad e hn f=>by have:=(J.out.ks.cell ad e hn).2.1;unfold From at f;omega)) J.out.kl J.out.kz q0 (by have:=g6.sz;omega);clear q0 g6 g7 b6
      go_wp2_with fail
      refine q2.mono ?_;rintro e A0 ⟨⟨av,cv,V,h9,rfl,hV,j7,g8,n1,H8⟩,g9⟩;have n5:=zh (d8.out.step g9 zi);have HV:=zh (And.intro hV (And.intro j7 (And.intro g8 n1)));have H9:V.length<=1000:=by
       have h1:=congrArg List.length n1;rw[List.length_map]at h1;have h2:(opened h9 K).length<=h9.length:=List.length_filter_le _ _;have h3:=q1.out.len;omega
      clear q2 hV j7 g8 n1
      go_wp2_with fail
      refine zm g9 ?_;clear g9;apply zH;exact rfl;have k2:=n0.out.no n5.out;have b9:=n0.out.no d8.out;have a7:=zA3 c sa sc F I S D G2 av cv V A0 k2 HV.out.1 (fun ad e hn=>by
       have h1:=HV.out.2.1 ad e;refine⟨?_,?_,?_⟩
       ·have:=zC b9.k;omega
       ·have:=b9.wmo.lt;omega
       ·intro ho;have:=zV b9.mo ho;omega) (fun v hv=>by
       rw[HV.out.2.2.2]at hv;have:=zEx HV.out.2.2.1 hv q1.out.i;unfold maxLen;omega) (by omega)
      clear k2 b9
      go_wp2_with fail
      refine a7.mono ?_;rintro e A1 ⟨rfl,⟨g3,g4,k6,d0⟩,h5⟩;have k7:=zh (And.intro k6 (And.intro d0 h5));clear a7 k6 d0
      go_wp2_with fail
      refine zf h5 ?_;clear h5;refine zX ?_
     all_goals (
      have i6:Hid (Fr (From w0.heap.size) w0 A1):=(p7.out.step n5.out zn).step k7.out.2.2 (fun b hb f=>by
       unfold From;have h0:=n0.out.lo;have l5:=J.out.sz;rcases f with f | f | f
       ·omega
       ·omega
       ·have:=zP n0.out.mo f;unfold From at this;omega)
      have A2:=zh k7.out.1;have t1:=zh k7.out.2.1;have E9:(zl D V).length<=28000:=by have:=zAd V D;omega
      have K9:G2.length<=11000:=by omega
      obtain⟨M3,q3⟩:∃ M3,M3=zl D V:=⟨_,rfl⟩
      have I0:Hid (MidR ds tx E K r S M G M3 G2):=⟨L,H6,O,D,L3,h9,HL.out,HO.out.1,HO.out.2,by rw[<-s4.out];exact d9.out,o3.out.1,HV.out.2.2.1,by rw[q3,HV.out.2.2.2]⟩
      rw[<-q3]at A2 t1 E9;clear q3 k7;have L0:=i6.out.size;have u5:=zDU 113 (fun args w=>enters_of Tryz.func113 (by kernel_rfl) rfl _ _) (ofK 4 mk4) (fun p rd s W hE f=>(zHf p s rd W hE f).mono (fun e w' h=>⟨h.1.of,h.2⟩)) tx c.b0 c sa sc g3 g4 S M3 G2 A1 A2.out (J.out.env' i6.out) ((J.out.tx' i6.out).sub (fun d hd=>by
       obtain⟨s,f,rfl⟩:=List.mem_map.1 hd;exact(h6.out s f).1)) (by have:=J.out.sz;omega) i1
      go_wp2_with fail
      refine u5.mono ?_;rintro e F0 ⟨⟨L4,l4,c4,A3,rfl,u6,-⟩,q4⟩;have q5:=zh (i6.out.step q4 zn);obtain⟨m4,F1⟩:=(J.out.env' q5.out).len;have u7:=zKf l4 c4 L4 m4 F0 u6 (zAe zFf A3 i1 (fun s f=>(h6.out s f).2)) F1 (by have:=(J.out.env' q5.out).sz;omega);have A4:=zh A3;have d2:=zh (A2.out.no q4);clear u5 A3 u6 F1 q4
      go_wp2_with fail
      refine u7.mono ?_;rintro e t2 ⟨⟨I1,I2,O4,n6,rfl,A5,u8,u9,q6,A6,I3,-⟩,q8⟩;have v0:=zh (q5.out.step q8 zn);have F2:=zh (d2.out.no q8);have L1:O4.length<=1000:=by
       have:=congrArg List.length A6;simp only[List.length_map]at this;omega
      have L2:=A5.lenmax;have n7:Hid (∀ b,(b=c.xb\/b=c.wm\/b=c.sm\/(Value.slice g3 M3.length g4).ownBlock=some b)->b<F0.heap.size):=fun b hb=>by
       rcases hb with hb | hb | hb | hb
       ·have:=zC d2.out.k;omega
       ·have:=d2.out.wmo.lt;omega
       ·have:=d2.out.smo.lt;omega
       ·exact zV d2.out.mo hb
      have q9:=zh (And.intro A5 (And.intro u8 u9));have r0:=zh (And.intro q6 A6);clear u7 A5 u8 u9 q6 A6 q8;have v1:∀ m∈O4,m.l.length<=16:=fun m hm=>zI0 r0.out.2 hm (zHI zFf A4.out)
      have v4:=zh v1;clear v1
      go_wp2_with fail
      go_loopw [88] (fun x wr=>∃ (j:Nat) (D:List Vir) (G4:List (ByteArray×ByteArray)) (F:Option Addr) (I:Nat),j<=O4.length/\x=.int .i64 (j:Int)/\Hid ((D,G4)=grpAll r (M3,G2) O4 j)/\RS c wr sa sc F I S D G4/\Hid (∀ b,(Value.slice F D.length I).ownBlock=some b->(Value.slice g3 M3.length g4).ownBlock=some b\/t2.heap.size<=b)/\Fr (fun b=>b=c.xb\/b=c.wm\/b=c.sm\/(Value.slice g3 M3.length g4).ownBlock=some b) t2 wr) (fun x _=>O4.length-(intOf x).toNat)
      case atStart=>exact⟨0,M3,G2,g3,g4,by omega,rfl,by unfold Hid grpAll;simp,F2.out,fun b h=>.inl h,Fr.refl _ _⟩
      case round=>
       obtain⟨j,D,G4,F,I,hj,rfl,d9,hR,b7,hf⟩:=hrel;have s8:D.length<=M3.length+16*j/\G4.length<=G2.length+j:=by
        have:=zHM r (M3,G2) O4 v4.out j;rw[<-d9.out]at this;exact this
       by_cases l1:j<O4.length
       ·have g1:(j:Int)<O4.length:=by omega
        have p1:Arrs wr I1 I2 O4:=q9.out.1.fr hf (fun ad e hn f=>by
         have h1:=n7.out _ f;have h2:=q9.out.2.1 ad e;omega) (fun m hm=>⟨fun ad e hn f=>by
         have h1:=n7.out _ f;have h2:=(q9.out.2.2 m hm).2.2.1 ad e;omega,fun ad e hn f=>by
         have h1:=n7.out _ f;have h2:=(q9.out.2.2 m hm).2.2.2 ad e;omega⟩)
        obtain⟨ab,D6,m,rfl,hm,⟨x9,p2⟩,⟨c0,c1,c2,c3,c4,c5⟩,D7⟩:=p1.elem l1;have o2:=zh (List.mem_of_getElem? hm);have l7:=zh (zC8 (r:=r) (x:=(M3,G2)) hm);have s9:m.i.size<=1000000:=zGq r0.out.1 r0.out.2 o2.out (zAe zFf A4.out i1 (fun s f=>(h6.out s f).2)).i;have M8:=v4.out m o2.out;obtain⟨Z,N⟩:∃ Z,Z=wr.alloc (.cells m.vals 176):=⟨_,rfl⟩
        have R:Fr No wr Z:=by rw[N];exact(Fr.refl _ _).alloc _
        have d1:Z.heap[wr.heap.size]?=some (.cells m.vals 176):=by rw[N];exact zD _ _
        have i2:Hid (Fr (From w0.heap.size) w0 Z):=(v0.out.step hf (fun b hb f=>by
         unfold From;have h0:=d2.out.lo;have l5:=J.out.sz;rcases f with f | f | f | f
         ·omega
         ·omega
         ·omega
         ·have:=zP d2.out.mo f;unfold From at this;omega)).step R zn
        have a4:=zh (hR.no R);have D1:=zh d1;have Hf:=zh (hf.step R zn);have y7:=zh (p2.no R (fun _=>id));have D8:=R.size;have D9:=hf.size;unfold ArrM.vals at N;clear hm hR p1 x9 p2 hf R
        go_upto_region 17 with(fail)
        rw[<-N];clear N c0 c1 c2 c3 c4 c5;obtain⟨b0,b1,b2,b3,b4,b5⟩:=cl6 d1;have n2:Hid (zCM r (D,G4) m=if m.n=m.t then
         (if (G4.any fun y=>decide (y=(lvK,m.i)))=true then (D,G4++[(lvK,m.i)])else (zl D (wantL m.i m.t m.n m.l r),G4++[(lvK,m.i)]))
        else (D,G4)):=rfl
        clear d1;by_cases r1:m.n=m.t
        ·have F3:=zh r1;have M9:(m.n==m.t)=true:=by simpa using r1
         have m5:=zKV c sa sc F I S D G4 lvK m.i Z a4.out (by unfold maxLen;show 2<=_;omega) (by unfold maxLen;omega) (by omega);unfold lvK at m5;clear r1
         go_wp2_with fail
         refine m5.mono ?_;rintro e w7 ⟨rfl,p3,f9⟩;have a3:=zh (And.intro p3 (Hf.out.step f9 (fun b hb h=>by unfold Is at h;exact .inr (.inr (.inl h)))));have g0:=zh f9;clear p3 m5 b0 b1 b2 b3 b4 b5 f9;rcases hsn:(G4.any fun x=>decide (x=((⟨#[108,118]⟩:ByteArray),m.i)))with _ | _
         ·have f7:Hid ((zl D (wantL m.i m.t m.n m.l r),G4++[(lvK,m.i)])=grpAll r (M3,G2) O4 (j+1)):=by unfold Hid;rw[l7.out,<-d9.out,n2.out,if_pos F3.out];exact(if_neg (fun h=>by have:=hsn.symm.trans h;cases this)).symm
          clear hsn;have q7:=g0.out.heap D1.out (fun h=>a4.out.smo.ne_cells D1.out h);obtain⟨b0,b1,b2,b3,b4,b5⟩:=cl6 q7;have p4:m∈O4:=o2.out;have j8:Strs w7 m.la m.lc m.l:=y7.out.fr g0.out (fun ad e hn f=>by
           unfold Is at f;have h1:=(q9.out.2.2 m p4).2.2.2 ad e;have h2:=n7.out c.sm (.inr (.inr (.inl rfl)));omega)
          have F4:=J.out.env' (i2.out.step g0.out (fun b hb h=>by unfold Is at h;unfold From;have:=a4.out.lo;have:=J.out.sz;omega));have m6:=zKe m.i m.t m.e m.n r m.pa m.ps.length m.pc m.la m.lc m.l w7 F4 s9 j8 (by omega);clear q7 j8 F4 p4
          go_wp2_with fail
          refine m6.mono ?_;rintro e w8 ⟨⟨a8,c8,V8,rfl,F5,n8,v5⟩,m7⟩;have i4:=zh (a3.out.1.no m7);have v6:=zEd m.i m.t m.n m.l r;rw[<-n8]at v6;have a7:=zA3 c sa sc F I S D (G4++[(lvK,m.i)]) a8 c8 V8 w8 i4.out F5 (fun ad e hn=>by
           have h1:=v5 ad e;refine⟨?_,?_,?_⟩
           ·have:=zC a3.out.1.k;omega
           ·have:=a3.out.1.wmo.lt;omega
           ·intro ho;have:=zV a3.out.1.mo ho;omega) (fun v hv=>by
           rw[n8]at hv;have:=zHc hv;unfold maxLen;omega) (by omega)
          have I4:Hid ((zl D V8,G4++[(lvK,m.i)])=grpAll r (M3,G2) O4 (j+1)):=by unfold Hid;rw[n8];exact f7.out
          have m9:=zh (a3.out.2.step m7 zn);have z8:=m9.out.size;clear m6 b0 b1 b2 b3 b4 b5 m7 F5 n8 v5 v6
          go_wp2_with fail
          refine a7.mono ?_;rintro e z9 ⟨rfl,⟨F6,F7,j9,b8⟩,k1⟩;have p5:=zh j9;have p6:Hid (Fr (fun b=>b=c.xb\/b=c.wm\/b=c.sm\/(Value.slice g3 M3.length g4).ownBlock=some b) t2 z9):=m9.out.step k1 (fun b hb h=>by
           rcases h with h | h | h
           ·exact .inl h
           ·exact .inr (.inl h)
           ·rcases b7.out b h with h | h
            ·exact .inr (.inr (.inr h))
            ·omega)
          have i5:Hid (∀ b,(Value.slice F6 (zl D V8).length F7).ownBlock=some b->(Value.slice g3 M3.length g4).ownBlock=some b\/t2.heap.size<=b):=fun b hb=>by
           rcases b8 b hb with h | h
           ·exact b7.out b h
           ·refine .inr (Nat.le_trans ?_ h);exact z8
          clear a7 j9 b8 k1
          go_wp2_with fail
          go_roundw
          case rel=>exact⟨j+1,zl D V8,G4++[(lvK,m.i)],F6,F7,by omega,by go_num,I4,p5.out,i5,p6.out⟩
          case measure=>simp[intOf];omega
         ·have f7:Hid ((D,G4++[(lvK,m.i)])=grpAll r (M3,G2) O4 (j+1)):=by unfold Hid;rw[l7.out,<-d9.out,n2.out,if_pos F3.out];exact(if_pos hsn).symm
          clear hsn
          go_wp2_with fail
          go_roundw
          case rel=>exact⟨j+1,D,G4++[(lvK,m.i)],F,I,by omega,by go_num,f7,a3.out.1,b7,a3.out.2⟩
          case measure=>simp[intOf];omega
        ·have f7:Hid ((D,G4)=grpAll r (M3,G2) O4 (j+1)):=by unfold Hid;rw[l7.out,<-d9.out,n2.out,if_neg r1]
         have L5:(m.n==m.t)=false:=by simpa using r1
         go_wp2_with fail
         go_roundw
         case rel=>exact⟨j+1,D,G4,F,I,by omega,by go_num,f7,a4.out,b7,Hf.out⟩
         case measure=>simp[intOf];omega
       ·obtain rfl:j=O4.length:=by omega
        have g1:¬ (O4.length:Int)<O4.length:=by omega
        have F8:Hid (Fr (From w0.heap.size) w0 wr):=v0.out.step hf (fun b hb f=>by
         unfold From;have h0:=d2.out.lo;have l5:=J.out.sz;rcases f with f | f | f | f
         ·omega
         ·omega
         ·omega
         ·have:=zP d2.out.mo f;unfold From at this;omega)
        have I5:Hid (∃ (M3:List Vir) (G2:List (ByteArray×ByteArray)) (L4:List Mem) (n6:List ByteArray) (O4:List ArrM),MidR ds tx E K r S M G M3 G2/\
  L4.map Mem.k=S.filterMap (fun s=>ofK 4 mk4 s.o s.r (tx s.d))/\IsIds2 (zo soundB L4) n6/\O4.map ArrM.toArr=n6.map (buildA (zo soundB L4))/\
  (D,G4)=grpAll r (M3,G2) O4 O4.length):=⟨_,_,L4,n6,O4,I0.out,A4.out,r0.out.1,r0.out.2,d9.out⟩
        obtain⟨CA,A7⟩:∃ CA,c.ca=CA:=⟨_,rfl⟩
        have k3:wr.cell? ⟨c.xb,3,none⟩=some (.slice CA c.C.length c.cc):=by rw[<-A7];exact zB hR.k 3
        have I6:=zh A7;have N0:=J.out.cn;have I7:=zh hR;have L6:D.length<=50000:=by omega
        clear hR hf A7
        go_wp2_with fail
        clear k3
        go_loopw [114] (fun x wr=>∃ (k:Nat) (a5:Option Addr) (a6:Nat),k<=c.C.length/\x=.int .i64 (k:Int)/\RS c wr a5 a6 F I (S++moreS ds tx D r c.C k) D G4/\Fr (From w0.heap.size) w0 wr) (fun x _=>c.C.length-(intOf x).toNat)
        case atStart=>exact⟨0,sa,sc,by omega,rfl,by simpa [moreS]using I7.out,F8.out⟩
        case round=>
         obtain⟨k,a5,a6,hk,rfl,hR,hf⟩:=hrel;have I8:=zIG ds tx D r c.C k;obtain⟨S4,t3⟩:∃ S4,S4=S++moreS ds tx D r c.C k:=⟨_,rfl⟩
         have L7:S4.length<=950:=by rw[t3,List.length_append];omega
         have r2:=zh t3;rw[<-t3]at hR;clear t3 I8;by_cases l1:k<c.C.length
         ·have g1:(k:Int)<c.C.length:=by omega
          have F9:Srcs wr CA c.cc c.C:=by rw[<-I6.out];exact hR.cs
          obtain⟨cb,B9,s,rfl,f,⟨c0,c1,c2,c3,c4,c5,c6,c7,c8,c9,o7,o8,o9⟩,C0⟩:=F9.elem l1;have h8:=J.out.cm s (List.mem_of_getElem? f);have o0:=zh (zHH (ds:=ds) (tx:=tx) (M:=D) (r:=r) f);obtain⟨Z,N⟩:∃ Z,Z=wr.alloc (.cells s.vals 123):=⟨_,rfl⟩
          have R:Fr No wr Z:=by rw[N];exact(Fr.refl _ _).alloc _
          have d1:Z.heap[wr.heap.size]?=some (.cells s.vals 123):=by rw[N];exact zD _ _
          have i2:=zh (hf.step R zn);have i7:=zh hR;have A8:=zh hf;have I9:=zh R;have a4:=zh (hR.no R);have D1:=zh d1;have J0:Hid (c.b2<=wr.heap.size):=hR.b2l;have r3:Hid (wr.heap.size<Z.heap.size/\c.xb<wr.heap.size/\c.wm<wr.heap.size):=⟨zC d1,zC hR.k,hR.wmo.lt⟩
          obtain⟨lA,hA,p0,o1,s5,J1⟩:=J.out.tx' hf s.d h8.1;have G0:Hid (∀ W,Fr No Z W->Calls Tryz.prog 116 #[.agg s.d.vals] W fun e w'=>e=.returned (.string (tx s.d))/\Fr No W w'):=fun W hW=>by
           rw[<-o1];exact zKU s.d lA W ((hA.no R (fun _=>id)).no hW (fun _=>id)) p0
          obtain⟨P,hP⟩:∃ P,P=plc ds s.d.parent:=⟨_,rfl⟩
          have A9:Hid (∀ W,Fr No Z W->Calls Tryz.prog 115 #[.agg #[.slice c.a ds.length c.cap],.agg s.d.vals] W fun e w'=>e=.returned (.agg #[.string P,.string s.d.orig])/\Fr No W w'):=fun W hW=>by
           rw[hP];have hT:=(J.out.tr' (i2.out.step hW zn))
           exact zEb c.a c.cap ds s.d W hT.dv hT.wf.ok (by have:=J.out.dn;omega) (hT.wf.ok.pwf h8.1)
          have t4:Hid (P.size<=maxLen/\s.d.orig.size<=maxLen):=by
           rw[hP];have h1:=zBJ J.out.tr.wf.ok J.out.dn s.d.parent;have h2:=J.out.tr.wf.ok.sz s.d h8.1;refine⟨?_,?_⟩<;>unfold maxLen<;>omega
          obtain⟨y,hy,G1⟩:=zGv D (P,s.d.orig);obtain⟨bk,i8⟩:∃ bk,bk=(wantG D (P,s.d.orig)).isSome:=⟨_,rfl⟩
          have o4:Hid (againB ds tx D r s=(bk&&((y.r==r)&&(y.c.toList==(tx s.d).toList)))):=by
           unfold Hid;rw[i8];exact zI6 hP G1
          have HY:=zh hy;have r4:=zh i8.symm;unfold Dev.vals at G0 A9;unfold Src.vals at N;clear f hR hf F9 hA p0 o1 s5 J1 hP hy G1 i8 R d1
          go_upto_region 23 with(fail)
          rw[<-N];clear N c0 c1 c2 c3 c4 c5 c6 c7 c8 c9 o7 o8 o9;refine zb (From Z.heap.size) (.q 0 (.q 1 (.q 2 (.q 3 (.q 4 (.q 5 (.q 6 (.q 7 (.q 8 (.q 9 (.m2 10 (.q 11 (.q 12 (.q 13 (.q 14 (.m1 15 (.m1 16 (.q 17 .fin))))))) 15 (.m1 10 (.q 11 (.q 12 (.q 13 (.q 14 (.m1 16 (.q 17 .fin)))))))))))))))))) _ (by kernel_rfl) (by kernel_rfl) (fun W3 a2=>?_) zj;have d3:=a2.heap D1.out id;have x3:=a2.heap a4.out.k id;have A:∀ g:Gr (From Z.heap.size) W3,SrcB0 g.W wr.heap.size s:=fun g=>SrcB0.of (g.fr.heap d3 (by unfold From;have:=r3.out;omega))
          have e0:=fun g=>(A g).c0
          have e1:=fun g=>(A g).c1
          have e2:=fun g=>(A g).c2
          have e3:=fun g=>(A g).c3
          have e4:=fun g=>(A g).c4
          have e5:=fun g=>(A g).c5
          have e6:=fun g=>(A g).c6
          have e7:=fun g=>(A g).c7
          have e8:=fun g=>(A g).c8
          have e9:=fun g=>(A g).c9
          have i9:=fun g=>(A g).c10
          have j0:=fun g=>(A g).c11
          have j1:=fun g=>(A g).c12
          have x6:∀ g:Gr (From Z.heap.size) W3,g.W.cell? ⟨c.xb,6,none⟩=some (.map (some c.wm)):=fun g=>zB (g.fr.heap x3 (by unfold From;have:=r3.out;omega)) 6
          have x2:∀ g:Gr (From Z.heap.size) W3,g.W.cell? ⟨c.xb,2,none⟩=some (.slice c.a ds.length c.cap):=fun g=>by
           have:=zB (g.fr.heap x3 (by unfold From;have:=r3.out;omega)) 2;rw[J.out.n]at this;exact this
          have l6:=zh a2;clear A d3 x3 a2
          repeat((first|apply zM rfl rfl rfl|apply zO rfl rfl rfl);intro K hK;go_big_quiet_op;go_big_quiet_on)
          clear e0 e1 e2 e3 e4 e5 e6 e7 e8 e9 i9 j0 j1 x6 x2;refine zv rfl rfl ?_ ?_
          focus
           go_wp2_with fail
           refine(A9.out W3 l6.out).mono ?_;rintro e Wc ⟨rfl,k9⟩
           go_wp2_with fail
           refine zm k9 ?_;have f6:=zh (l6.out.step k9 zi);have r5:∀ W,(∃ g:Gr (From Z.heap.size) Wc,W=g.W)->(Instr.lookup 80 (.map (some c.wm)) (.agg #[.string P,.string s.d.orig]) true).run Tryz.prog W=.ok (.tuple #[.agg #[.string y.q,.string y.o,.string y.c,.int .i64 y.r],.bool bk]) W:=fun W hW=>by
            obtain⟨g,rfl⟩:=hW;have:=((a4.out.no f6.out).wmo.fr g.fr (by unfold From;have:=r3.out;omega)).lookok (zBo g.W) Tryz.underlying80 t4.out.1 t4.out.2;rw[this,HY.out,r4.out]
           apply zM rfl rfl rfl;intro K hK;refine zAC rfl _ _ 80 rfl (.map (some c.wm)) (.agg #[.string P,.string s.d.orig]) _ rfl rfl r5 ?_
           go_frame
           go_big_quiet_on;clear r5;apply zM rfl rfl rfl;intro K hK;go_big_quiet_op;go_big_quiet_on;apply zM rfl rfl rfl;intro K hK;go_big_quiet_op;go_big_quiet_on;apply zM rfl rfl rfl;intro K hK;go_big_quiet_op;go_big_quiet_on;clear k9;apply zH;exact rfl;obtain⟨Wa,j2⟩:∃ Wa,Wa=Wc.alloc (.cells #[.string ⟨#[]⟩,.string ⟨#[]⟩,.string ⟨#[]⟩,.int .i64 0] 94):=⟨_,rfl⟩
           have r6:Fr No Wc Wa:=by rw[j2];exact(Fr.refl _ _).alloc _
           have qa:Wa.heap[Wc.heap.size]?=some (.cells #[.string ⟨#[]⟩,.string ⟨#[]⟩,.string ⟨#[]⟩,.int .i64 0] 94):=by rw[j2];exact zD _ _
           go_wp2_with fail
           refine zp ?_;rw[<-j2];clear j2;have r7:Hid (Fr No Z Wa):=f6.out.step r6 zi;have j3:Hid (Z.heap.size<=Wc.heap.size):=f6.out.size;have qz:=qa;clear r6 qa;obtain⟨B,hB⟩:∃ B,B=Wc.heap.size:=⟨_,rfl⟩
           rw[<-hB]at qz j3 ⊢;clear hB;obtain⟨z0,z1,z2,z3⟩:=cl4 qz;obtain⟨f0,f1,f2,f3⟩:=fl4 qz;have h4:=zh (set4 qz rfl (.string y.q) (.string y.o) (.string y.c) (.int .i64 y.r));clear qz;apply zH;exact rfl
           go_wp2_with fail
           refine OnlyN.mk ⟨h4.out.2.mono (fun b _ h=>by unfold Is at h;unfold From;have:=j3.out;omega),?_⟩;apply zM rfl rfl rfl;intro K hK;go_big_quiet_op;go_big_quiet_on;refine zX ?_;obtain⟨w5,n3⟩:∃ w5,w5=((((Wa.setCell ⟨B,0,none⟩ (.string y.q)).setCell ⟨B,1,none⟩ (.string y.o)).setCell ⟨B,2,none⟩ (.string y.c)).setCell ⟨B,3,none⟩ (.int .i64 y.r)):=⟨_,rfl⟩
           rw[<-n3];have j4:=h4.out;rw[<-n3]at j4;have j5:Hid (Fr No Z w5):=r7.out.step j4.2 (fun b hb h=>by unfold Is at h;have:=j3.out;omega);have t6:=zh j4.1;clear n3 h4 j4 z0 z1 z2 z3 f0 f1 f2 f3 r7 j3
          rotate_left 1
          focus
           obtain⟨Wa,j2⟩:∃ Wa,Wa=W3.alloc (.cells #[.string ⟨#[]⟩,.string ⟨#[]⟩,.string ⟨#[]⟩,.int .i64 0] 94):=⟨_,rfl⟩
           have r6:Fr No W3 Wa:=by rw[j2];exact(Fr.refl _ _).alloc _
           have qa:Wa.heap[W3.heap.size]?=some (.cells #[.string ⟨#[]⟩,.string ⟨#[]⟩,.string ⟨#[]⟩,.int .i64 0] 94):=by rw[j2];exact zD _ _
           go_wp2_with fail
           refine zp ?_;rw[<-j2];clear j2;have G3:=zh (l6.out.step r6 zi);clear r6;apply zH;exact rfl
           go_wp2_with fail
           refine(A9.out Wa G3.out).mono ?_;rintro e Wc ⟨rfl,k9⟩
           go_wp2_with fail
           refine zm k9 ?_;have qb:=k9.heap qa id;clear qa;have f6:=zh (G3.out.step k9 zi);have r5:∀ W,(∃ g:Gr (From Z.heap.size) Wc,W=g.W)->(Instr.lookup 80 (.map (some c.wm)) (.agg #[.string P,.string s.d.orig]) true).run Tryz.prog W=.ok (.tuple #[.agg #[.string y.q,.string y.o,.string y.c,.int .i64 y.r],.bool bk]) W:=fun W hW=>by
            obtain⟨g,rfl⟩:=hW;have:=((a4.out.no f6.out).wmo.fr g.fr (by unfold From;have:=r3.out;omega)).lookok (zBo g.W) Tryz.underlying80 t4.out.1 t4.out.2;rw[this,HY.out,r4.out]
           apply zM rfl rfl rfl;intro K hK;refine zAC rfl _ _ 80 rfl (.map (some c.wm)) (.agg #[.string P,.string s.d.orig]) _ rfl rfl r5 ?_
           go_frame
           go_big_quiet_on;clear r5;apply zM rfl rfl rfl;intro K hK;go_big_quiet_op;go_big_quiet_on;apply zM rfl rfl rfl;intro K hK;go_big_quiet_op;go_big_quiet_on;apply zM rfl rfl rfl;intro K hK;go_big_quiet_op;go_big_quiet_on;clear k9;have r7:Hid (Fr No Z Wc):=f6.out;have j3:Hid (Z.heap.size<=W3.heap.size):=l6.out.size;have qz:=qb;clear qb;obtain⟨B,hB⟩:∃ B,B=W3.heap.size:=⟨_,rfl⟩
           rw[<-hB]at qz j3 ⊢;clear hB;obtain⟨z0,z1,z2,z3⟩:=cl4 qz;obtain⟨f0,f1,f2,f3⟩:=fl4 qz;have h4:=zh (set4 qz rfl (.string y.q) (.string y.o) (.string y.c) (.int .i64 y.r));clear qz;apply zH;exact rfl
           go_wp2_with fail
           refine OnlyN.mk ⟨h4.out.2.mono (fun b _ h=>by unfold Is at h;unfold From;have:=j3.out;omega),?_⟩;apply zM rfl rfl rfl;intro K hK;go_big_quiet_op;go_big_quiet_on;refine zX ?_;obtain⟨w5,n3⟩:∃ w5,w5=((((Wc.setCell ⟨B,0,none⟩ (.string y.q)).setCell ⟨B,1,none⟩ (.string y.o)).setCell ⟨B,2,none⟩ (.string y.c)).setCell ⟨B,3,none⟩ (.int .i64 y.r)):=⟨_,rfl⟩
           rw[<-n3];have j4:=h4.out;rw[<-n3]at j4;have j5:Hid (Fr No Z w5):=r7.out.step j4.2 (fun b hb h=>by unfold Is at h;have:=j3.out;omega);have t6:=zh j4.1;clear n3 h4 j4 z0 z1 z2 z3 f0 f1 f2 f3 r7 j3
          all_goals (
           have B0:=zh (a4.out.no j5.out);have B1:=zh (i2.out.step j5.out zn)
           go_wp2_with fail
           rcases i8:bk with _ | _
           ·skip;have l0:Hid (S++(moreS ds tx D r c.C k++if againB ds tx D r s=true then [{ s with r:=r }]else [])=S4):=by
             unfold Hid;rw[o4.out,i8];simp[r2.out]
            clear i8 r4 HY o4;refine zQ No [(0,false),(1,false),(2,false),(3,false),(4,false),(5,false),(6,false),(7,false),(8,false),(9,false),(10,false),(11,false),(12,true),(13,false),(14,false)] (by kernel_rfl) (by kernel_rfl) (fun w6 U=>?_);have y6:=U.heap t6.out id;have d6:=U.heap (j5.out.heap D1.out id) id;have v2:∀ g:Gr No w6,g.W.cell? ⟨B,2,none⟩=some (.string y.c):=fun g=>zB (g.fr.heap y6 id) 2
            have v3:∀ g:Gr No w6,g.W.cell? ⟨B,3,none⟩=some (.int .i64 y.r):=fun g=>zB (g.fr.heap y6 id) 3
            have A:∀ g:Gr No w6,SrcB0 g.W wr.heap.size s:=fun g=>SrcB0.of (g.fr.heap d6 id)
            have e0:=fun g=>(A g).c0
            have e1:=fun g=>(A g).c1
            have e2:=fun g=>(A g).c2
            have e3:=fun g=>(A g).c3
            have e4:=fun g=>(A g).c4
            have e5:=fun g=>(A g).c5
            have e6:=fun g=>(A g).c6
            have e7:=fun g=>(A g).c7
            have e8:=fun g=>(A g).c8
            have e9:=fun g=>(A g).c9
            have i9:=fun g=>(A g).c10
            have j0:=fun g=>(A g).c11
            have j1:=fun g=>(A g).c12
            have Y:=zh U;clear A y6 d6 U
            repeat((first|apply zS rfl rfl rfl|apply zW rfl rfl rfl);intro K hK;go_big_quiet_op;go_big_quiet_on)
            clear e0 e1 e2 e3 e4 e5 e6 e7 e8 e9 i9 j0 j1 v2 v3;apply zk;exact rfl
            go_wp2_with fail
            refine zq ?_
            repeat((first|apply zS rfl rfl rfl|apply zW rfl rfl rfl);intro K hK;go_big_quiet_op;go_big_quiet_on)
            refine zY ?_;have a3:=zh (B0.out.no Y.out);have g0:=zh (B1.out.step Y.out zn)
            go_wp2_with fail
            go_roundw
            case rel=>exact⟨k+1,a5,a6,by omega,by go_num,by rw[o0.out,l0.out];exact a3.out,g0.out⟩
            case measure=>simp[intOf];omega
           ·skip;rcases hrr:(y.r==r)with _ | _
            ·skip;have l0:Hid (S++(moreS ds tx D r c.C k++if againB ds tx D r s=true then [{ s with r:=r }]else [])=S4):=by
              unfold Hid;rw[o4.out,hrr];simp[r2.out]
             clear i8 r4 HY o4;refine zQ No [(0,false),(1,false),(2,false),(3,false),(4,false),(5,false),(6,false),(7,false),(8,false),(9,false),(10,false),(11,false),(12,true),(13,false),(14,false)] (by kernel_rfl) (by kernel_rfl) (fun w6 U=>?_);have y6:=U.heap t6.out id;have d6:=U.heap (j5.out.heap D1.out id) id;have v2:∀ g:Gr No w6,g.W.cell? ⟨B,2,none⟩=some (.string y.c):=fun g=>zB (g.fr.heap y6 id) 2
             have v3:∀ g:Gr No w6,g.W.cell? ⟨B,3,none⟩=some (.int .i64 y.r):=fun g=>zB (g.fr.heap y6 id) 3
             have A:∀ g:Gr No w6,SrcB0 g.W wr.heap.size s:=fun g=>SrcB0.of (g.fr.heap d6 id)
             have e0:=fun g=>(A g).c0
             have e1:=fun g=>(A g).c1
             have e2:=fun g=>(A g).c2
             have e3:=fun g=>(A g).c3
             have e4:=fun g=>(A g).c4
             have e5:=fun g=>(A g).c5
             have e6:=fun g=>(A g).c6
             have e7:=fun g=>(A g).c7
             have e8:=fun g=>(A g).c8
             have e9:=fun g=>(A g).c9
             have i9:=fun g=>(A g).c10
             have j0:=fun g=>(A g).c11
             have j1:=fun g=>(A g).c12
             have Y:=zh U;clear A y6 d6 U
             repeat((first|apply zS rfl rfl rfl|apply zW rfl rfl rfl);intro K hK;go_big_quiet_op;go_big_quiet_on)
             clear e0 e1 e2 e3 e4 e5 e6 e7 e8 e9 i9 j0 j1 v2 v3;apply zk;exact rfl
             go_wp2_with fail
             refine zq ?_
             repeat((first|apply zS rfl rfl rfl|apply zW rfl rfl rfl);intro K hK;go_big_quiet_op;go_big_quiet_on)
             refine zY ?_;have a3:=zh (B0.out.no Y.out);have g0:=zh (B1.out.step Y.out zn)
             go_wp2_with fail
             go_roundw
             case rel=>exact⟨k+1,a5,a6,by omega,by go_num,by rw[o0.out,l0.out];exact a3.out,g0.out⟩
             case measure=>simp[intOf];omega
            ·skip;have v7:Hid (againB ds tx D r s=(y.c.toList==(tx s.d).toList)):=by unfold Hid;rw[o4.out,i8,hrr];rfl
             clear i8 r4 HY o4;refine zQ No [(0,false),(1,false),(2,false),(3,false),(4,false),(5,false),(6,false),(7,false),(8,false),(9,false),(10,false),(11,false),(12,true),(13,false),(14,false)] (by kernel_rfl) (by kernel_rfl) (fun w6 U=>?_);have y6:=U.heap t6.out id;have d6:=U.heap (j5.out.heap D1.out id) id;have v2:∀ g:Gr No w6,g.W.cell? ⟨B,2,none⟩=some (.string y.c):=fun g=>zB (g.fr.heap y6 id) 2
             have v3:∀ g:Gr No w6,g.W.cell? ⟨B,3,none⟩=some (.int .i64 y.r):=fun g=>zB (g.fr.heap y6 id) 3
             have A:∀ g:Gr No w6,SrcB0 g.W wr.heap.size s:=fun g=>SrcB0.of (g.fr.heap d6 id)
             have e0:=fun g=>(A g).c0
             have e1:=fun g=>(A g).c1
             have e2:=fun g=>(A g).c2
             have e3:=fun g=>(A g).c3
             have e4:=fun g=>(A g).c4
             have e5:=fun g=>(A g).c5
             have e6:=fun g=>(A g).c6
             have e7:=fun g=>(A g).c7
             have e8:=fun g=>(A g).c8
             have e9:=fun g=>(A g).c9
             have i9:=fun g=>(A g).c10
             have j0:=fun g=>(A g).c11
             have j1:=fun g=>(A g).c12
             have Y:=zh U;clear A y6 d6 U
             repeat((first|apply zS rfl rfl rfl|apply zW rfl rfl rfl);intro K hK;go_big_quiet_op;go_big_quiet_on)
             clear e0 e1 e2 e3 e4 e5 e6 e7 e8 e9 i9 j0 j1 v2 v3;apply zk;exact rfl
             go_wp2_with fail
             refine(G0.out w6 (j5.out.step Y.out zi)).mono ?_;rintro e w7 ⟨rfl,f9⟩;have t8:=zh (Y.out.step f9 zi)
             go_wp2_with fail
             refine zm f9 ?_;clear f9;rcases hcc:(y.c.toList==(tx s.d).toList)with _ | _
             ·skip;have l0:Hid (S++(moreS ds tx D r c.C k++if againB ds tx D r s=true then [{ s with r:=r }]else [])=S4):=by
               unfold Hid;rw[v7.out,hcc];simp[r2.out]
              repeat((first|apply zS rfl rfl rfl|apply zW rfl rfl rfl);intro K hK;go_big_quiet_op;go_big_quiet_on)
              refine zY ?_;have a3:=zh (B0.out.no t8.out);have g0:=zh (B1.out.step t8.out zn)
              go_wp2_with fail
              go_roundw
              case rel=>exact⟨k+1,a5,a6,by omega,by go_num,by rw[o0.out,l0.out];exact a3.out,g0.out⟩
              case measure=>simp[intOf];omega
             ·skip;have l0:Hid (S++(moreS ds tx D r c.C k++if againB ds tx D r s=true then [{ s with r:=r }]else [])=S4++[{ s with r:=r }]):=by
               unfold Hid;rw[v7.out,hcc];simp[r2.out]
              repeat((first|apply zS rfl rfl rfl|apply zW rfl rfl rfl);intro K hK;go_big_quiet_op;go_big_quiet_on)
              refine zY ?_;clear hcc;have d7:=t8.out.heap (j5.out.heap D1.out id) id;have J2:w7.cell? ⟨wr.heap.size,12,none⟩=some (.int .i64 s.r):=(SrcB0.of d7).c12;have J3:=zE d7 12;obtain⟨w8,t9⟩:∃ w8,w8=w7.setCell ⟨wr.heap.size,12,none⟩ (.int .i64 r):=⟨_,rfl⟩
              have f8:Fr (Is wr.heap.size) w7 w8:=by rw[t9];exact Fr.setAt (Fr.refl _ _) _
              have dw:w8.heap[wr.heap.size]?=some (.cells (Src.vals { s with r:=r }) 123):=by rw[t9];exact zF d7 12 _
              have B2:Fr No wr w8:=(I9.out.step (j5.out.step t8.out zi) zi).step f8 (fun b hb h=>by unfold Is at h;omega);obtain⟨s2,B3⟩:∃ s2:Src,s2={ s with r:=r }:=⟨_,rfl⟩
              rw[<-B3]at dw l0;have J4:=zh B3;clear B3;have i4:=zh (i7.out.no B2);have kw:=i4.out.k;have B4:=i4.out.so;have m9:=zh (A8.out.step B2 zn);have J5:∀ b,(Value.slice a5 S4.length a6).ownBlock=some b->b<wr.heap.size:=fun b h=>zV i7.out.so h
              have N1:wr.heap.size<w8.heap.size:=zC dw;have N2:c.xb<wr.heap.size:=zC i7.out.k;have L8:c.b2<=w8.heap.size:=by have:=J0.out;omega
              clear d7 f8 B2;obtain⟨i0,J6,J7,J8,J9⟩:=info_parts infoSr
              go_upto_region 26 with(fail)
              rw[<-t9];clear t9 J2 J3;refine zb (fun b=>b=c.xb\/(Value.slice a5 S4.length a6).ownBlock=some b\/w8.heap.size<=b) (.q 0 (.q 1 (.q 2 (.q 3 (.q 5 (.m2 4 (.m1 6 (.m1 7 (.q 8 (.q 9 (.m1 10 .fin))))) 6 (.m1 4 (.m1 7 (.q 8 (.q 9 (.m1 10 .fin))))))))))) _ (by kernel_rfl) (by kernel_rfl) (fun W3 a2=>?_) zj;have u0:=a2.heap kw id;have n4:=zG B4 a2 (fun _ _=>id);have v8:=zR n4 u0 (by decide);have d3:=a2.heap dw id;have s3:=a2.size;have A:∀ g:Gr (fun b=>b=c.xb\/(Value.slice a5 S4.length a6).ownBlock=some b\/w8.heap.size<=b) W3,SrcB0 g.W wr.heap.size s2:=fun g=>SrcB0.of (g.fr.heap d3 (fun h=>by
               rcases h with h | h | h
               ·omega
               ·have:=J5 _ h;omega
               ·omega))
              have e0:=fun g=>(A g).c0
              have e1:=fun g=>(A g).c1
              have e2:=fun g=>(A g).c2
              have e3:=fun g=>(A g).c3
              have e4:=fun g=>(A g).c4
              have e5:=fun g=>(A g).c5
              have e6:=fun g=>(A g).c6
              have e7:=fun g=>(A g).c7
              have e8:=fun g=>(A g).c8
              have e9:=fun g=>(A g).c9
              have i9:=fun g=>(A g).c10
              have j0:=fun g=>(A g).c11
              have j1:=fun g=>(A g).c12
              have G5:=zh a2;clear A d3
              repeat((first|apply zM rfl rfl rfl|apply zO rfl rfl rfl);intro K hK;go_big_quiet_op;go_big_quiet_on)
              clear e0 e1 e2 e3 e4 e5 e6 e7 e8 e9 i9 j0 j1;have c3:W3.cell? ⟨c.xb,5,none⟩=some (.slice a5 S4.length a6):=zB u0 5;refine zv rfl rfl ?_ ?_
              focus
               go_wp2_with fail
               refine zq ?_;apply zH;exact rfl
               go_wp2_with fail
               refine zp ?_;clear c3
              rotate_left 1
              focus
               go_wp2_with fail
               refine zp ?_;apply zH;exact rfl;have c7:∀ o,(W3.alloc o).cell? ⟨c.xb,5,none⟩=some (.slice a5 S4.length a6):=fun o=>((Fr.refl No W3).alloc o).cell c3 id
               clear c3
               go_wp2_with fail
               refine zq ?_;clear c7
              all_goals (
               apply zH;exact rfl
               go_wp2_with (at_builtin;refine wpList_append_own_at _ rfl _ _ 79 rfl c.b2 123 i0 (.agg #[.int .i64 0,.int .i64 0,.int .i64 0,.string ByteArray.empty,.string ByteArray.empty,.string ByteArray.empty,.string ByteArray.empty,.string ByteArray.empty,.int .i64 0,.int .i64 0,.slice none 0 0,.string ByteArray.empty,.int .i64 0]) 13 168 Tryz.underlying79 J6 J7 J8 J9 rfl (by decide) _ _ _ rfl (n4.alloc _) ⟨W3.heap.size,0,none⟩ 1 1 (Src.vals s2).toList rfl rfl (ze _ (Src.vals s2) _ rfl) (zBt _) (by unfold maxLen;omega) (by omega) (by first | omega | (simp;done) | (simp;omega)) ?_;intro v' w4 j6 n9 _ v9;obtain⟨r8,r9,rfl⟩:=zJ j6)
               have m8:Fr No W3 (W3.alloc (.cells (Src.vals s2) 123)):=(Fr.refl _ _).alloc _;have u1:Fr (fun b=>(Value.slice a5 S4.length a6).ownBlock=some b) (W3.alloc (.cells (Src.vals s2) 123)) w4:=Fr.of_grown n9;have k4:=u1.heap (m8.heap u0 id) (fun e=>v8 e);have c3:w4.cell? ⟨c.xb,5,none⟩=some (.slice a5 S4.length a6):=zB k4 5;have f3:w4.frozen? ⟨c.xb,5,none⟩=false:=zE k4 5;have w1:=zR j6 k4 (by decide);refine OnlyN.mk ⟨u1.mono (fun b _ h=>.inr (.inl h)),?_⟩
               repeat((first|apply zM rfl rfl rfl|apply zO rfl rfl rfl);intro K hK;go_big_quiet_op;go_big_quiet_on)
               apply zH;exact rfl;have f5:Fr (Is (c.xb)) w4 (w4.setCell ⟨c.xb,5,none⟩ (.slice r8 (S4.length+1) r9)):=Fr.setAt (Fr.refl _ _) _;have k5:((w4.setCell ⟨c.xb,5,none⟩ (.slice r8 (S4.length+1) r9))).heap[c.xb]?=some (.cells (rcs c.ka c.kn c.kc c.wt c.a c.n c.cap c.ca c.C.length c.cc c.ea c.en c.ec r8 (S4.length+1) r9 c.wm c.sm F D.length I) 83):=zF k4 5 _;have s0:=zG j6 f5 (fun b hb h=>by unfold Is at h;subst h;exact w1 hb);have G6:Fr (fun b=>b=c.xb\/(Value.slice a5 S4.length a6).ownBlock=some b) W3 (w4.setCell ⟨c.xb,5,none⟩ (.slice r8 (S4.length+1) r9)):=((m8.mono zn).step u1 (fun b _ h=>.inr h)).step f5 (fun b _ h=>.inl h);have HR:=zh (And.intro k5 (And.intro s0 G6));have N3:=zh v9;clear j6 n9 u1 k4 f5 k5 s0 G6 w1 m8 v9
               go_wp2_with fail
               refine OnlyN.mk ⟨Fr.setCell (Fr.refl _ _) (fun _=>.inl rfl) _,?_⟩;refine zX ?_;clear n4 u0 v8;have HG:=zh ((i4.out.no G5.out).growS HR.out.2.2 HR.out.1 HR.out.2.1);have K0:Hid (Fr (From w0.heap.size) w0 W3):=m9.out.step G5.out zn;have K1:=zh HR.out.2.2;have K2:Hid (S4++[s2]=S++moreS ds tx D r c.C (k+1)):=by unfold Hid;rw[o0.out,<-l0.out,J4.out]
               go_wp2_with fail
               go_roundw
               case rel=>exact⟨k+1,r8,r9,by omega,by go_num,K2.out▸HG.out,K0.out.step K1.out (fun b _ h=>by
                unfold From;have h0:=i7.out.lo;have l5:=J.out.sz;rcases h with h | h
                ·omega
                ·have:=zP i7.out.so h;unfold From at this;omega)⟩
               case measure=>simp[intOf];omega
               )
           )
         ·obtain rfl:k=c.C.length:=by omega
          have g1:¬ (c.C.length:Int)<c.C.length:=by omega
          have k5:wr.cell? ⟨c.xb,5,none⟩=some (.slice a5 S4.length a6):=zB hR.k 5;have G7:=zHq a5 a6 c.b2 S4 wr hR.so (by omega);have i7:=zh hR;have A8:=zh hf;clear hR hf
          go_wp2_with fail
          refine G7.mono ?_;rintro e w9 ⟨rfl,⟨S',B5,G8,s1⟩,B6⟩;have G9:=zh (i7.out.perm B6 B5.length_eq s1);have K3:=zh (A8.out.step B6 (fun b _ h=>by
           unfold From;have h0:=i7.out.lo;have l5:=J.out.sz;have:=zP i7.out.so h;unfold From at this;omega))
          have K4:Hid (NextR ds tx E K c.C r S M G S' D G4):=⟨I5.out,by rw[<-r2.out];exact B5,G8⟩
          have k8:w9.cell? ⟨c.xb,8,none⟩=some (.slice F D.length I):=zB G9.out.k 8;clear G7 B5 G8 s1 B6 k5
          go_wp2_with fail
          go_ret;exact⟨⟨S',D,G4,a5,a6,F,I,by simp,G9.out,K4.out⟩,K3.out⟩
      )
end Go.Proofs.YtinfjnndbfahhaaGreatDoor
