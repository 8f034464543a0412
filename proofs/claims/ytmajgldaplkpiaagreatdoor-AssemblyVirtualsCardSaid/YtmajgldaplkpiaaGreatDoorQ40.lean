import Derived.Test.YtmajgldaplkpiaaGreatDoorQ39
namespace Go.Proofs.YtmajgldaplkpiaaGreatDoor
open Go.RowKit Go.Maps
set_option linter.unusedVariables false
set_option maxRecDepth 100000
set_option maxHeartbeats 8000000
structure RB (c:RC)(w0:World)(base:Nat)(ds:List Dev)(tx:Dev->ByteArray)(E K:List ByteArray):Prop where
 sz:w0.heap.size=c.b0
 env:Env w0
 tr:Tr w0 base c.a c.cap ds
 n:c.n=ds.length
 dn:ds.length<=250
 es:Strs w0 c.ea c.ec E
 en:c.en=E.length
 ks:Strs w0 c.ka c.kc K
 kn:c.kn=K.length
 kl:K.length<=1000000
 kz:∀ x∈K,x.size<=maxLen
 tx:TxS w0 c.b0 tx ds
 cm:∀ s∈c.C,s.d∈ds/\s.o.size<=1000000/\0<=s.r
 cn:c.C.length<=250
theorem RB.tr' {c:RC}{w0:World}{base:Nat}{ds:List Dev}{tx:Dev->ByteArray}{E K:List ByteArray}(h:RB c w0 base ds tx E K){w:World}(hf:Fr (From w0.heap.size) w0 w):Tr w base c.a c.cap ds:=h.tr.keep hf (fun b hb _ h=>by unfold From at h;omega)
theorem RB.env' {c:RC}{w0:World}{base:Nat}{ds:List Dev}{tx:Dev->ByteArray}{E K:List ByteArray}(h:RB c w0 base ds tx E K){w:World}(hf:Fr (From w0.heap.size) w0 w):Env w:=h.env.fr hf (fun b hb=>by unfold From;have:=h.env.sz;omega)
theorem RB.tx' {c:RC}{w0:World}{base:Nat}{ds:List Dev}{tx:Dev->ByteArray}{E K:List ByteArray}(h:RB c w0 base ds tx E K){w:World}(hf:Fr (From w0.heap.size) w0 w):TxS w c.b0 tx ds:=h.tx.fr hf (fun b hb hs=>by unfold From at hs;have:=h.sz;omega)
theorem TxS.sub {w:World}{b0:Nat}{tx:Dev->ByteArray}{L L':List Dev}(h:TxS w b0 tx L)(hs:∀ d∈L',d∈L):TxS w b0 tx L':=fun d hd=>h d (hs d hd)
theorem zJY (v:Vir)(w:World):Virs (w.alloc (.cells v.vals 79)) (some ⟨w.heap.size,0,none⟩) 1 [v]:=by
 refine⟨by simp,by unfold maxLen;omega,(fun e=>by cases e),fun ad e hne=>?_⟩;cases e;refine⟨rfl,by simp,fun i m hi j hj=>?_⟩;cases i with
 | zero=>
  simp at hi;subst hi;rw[zB (zD w (.cells v.vals 79))];simp
 | succ i=>simp at hi
theorem zK6 (c:RC)(w0:World)(base:Nat)(ds:List Dev)(tx:Dev->ByteArray)(E K:List ByteArray)(hB:RB c w0 base ds tx E K)(sa:Option Addr)(sc:Nat)(ma:Option Addr)(mc:Nat)(S:List Src)(M:List Vir)(G:List (ByteArray×ByteArray))(r:Int)(w:World)(hf0:Fr (From w0.heap.size) w0 w)(h:RS c w sa sc ma mc S M G)
  (hSm:∀ s∈S,s.d∈ds/\s.o.size<=1000000) (hSn:S.length<=1000) (hS7:S.length<=700) (hMn:M.length<=10000) (hGn:G.length<=10000):
  Calls Tryz.prog 106 #[.pointer (some ⟨c.xb,0,none⟩),.int .i64 r] w fun e w'=>(∃ S' M' G' sa' sc' ma' mc',e=.returned (.bool (decide (M.length<(M':List Vir).length)))/\RS c w' sa' sc' ma' mc' S' M' G'/\NextR ds tx E K c.C r S M G S' M' G')/\Fr (From w0.heap.size) w0 w':=by
 have HB:=Lib.hid hB;have t7:w.cell? ⟨c.xb,8,none⟩=some (.slice ma M.length mc):=zB h.k 8;have t5:w.cell? ⟨c.xb,5,none⟩=some (.slice sa S.length sc):=zB h.k 5;obtain⟨a9,c9,hv9,hSr,hfr9⟩:=Srcs.of_own h.so;cases hv9;have hsm:=hSr.lenmax;have hMm:M.length<=9223372036854775807:=by omega
 have Hh:=Lib.hid h;have Hf0:=Lib.hid hf0;have HSm:=Lib.hid hSm;clear h hB hf0 hSm hfr9 hSr
 go_enter Tryz.func106,Tryz.ntmps106
 go_wp2_with fail
 clear t5 t7
 go_loopw [26] (fun x wr=>∃ (j:Nat) (Mj:List Vir) (ma':Option Addr) (mc':Nat),j<=S.length/\x=.int .i64 (j:Int)/\Hid (Mj=wantS tx S M r j)/\RS c wr sa sc ma' mc' S Mj G/\Fr (From w0.heap.size) w0 wr) (fun x _=>S.length-(intOf x).toNat)
 case atStart=>exact⟨0,M,ma,mc,by omega,rfl,by unfold Hid wantS;simp,Hh.out,Hf0.out⟩
 case round=>
  obtain⟨j,Mj,ma',mc',hj,rfl,HMj,hR,hf⟩:=hrel;by_cases hlt:j<S.length
  ·have hlt':(j:Int)<S.length:=by omega
   obtain⟨a9,c9,hv9,hSr,hfr9⟩:=Srcs.of_own hR.so;cases hv9;obtain⟨cb,coff,s,rfl,hs,⟨c0,c1,c2,c3,c4,c5,c6,c7,c8,c9,c10,c11,c12⟩,hcbl⟩:=hSr.elem hlt;have hmem:=HSm.out s (List.mem_of_getElem? hs);have HS2:=Lib.hid (zDT (tx:=tx) (M:=M) (r:=r) hs);have hMl:=zED tx S M r j;rw[<-HMj.out]at hMl;obtain⟨W1,hW1⟩:∃ W1,W1=wr.alloc (.cells s.vals 163):=⟨_,rfl⟩
   have hx1:Fr No wr W1:=by rw[hW1];exact(Fr.refl _ _).alloc _
   have d1:W1.heap[wr.heap.size]?=some (.cells s.vals 163):=by rw[hW1];exact zD _ _
   have hf1:=hf.step hx1 (fun _ _ h=>h.elim);obtain⟨l,hA,han,htx,hts,-⟩:=HB.out.tx' hf1 s.d hmem.1;have hor:s.d.orig.size<=1000000:=by
    have:=HB.out.tr.wf.ok.sz s.d hmem.1;omega
   have hpw:=zJx s.d l s.o r W1 (HB.out.env' hf1) hA han hor (by rw[htx];exact hts);rw[htx]at hpw;have hR1:=hR.no hx1;have Hf1:=Lib.hid hf1;have z:=SrcB0.of d1;unfold Src.vals at hW1;clear hs hR hf hSr hfr9 hA hts d1 han htx
   go_upto_region 5 with(fail)
   rw[<-hW1];clear hW1 c0 c1 c2 c3 c4 c5 c6 c7 c8 c9 c10 c11 c12;obtain⟨c0,c1,c2,c3,c4,c5,c6,c7,c8,c9,c10,c11,c12⟩:=z
   go_wp2_with fail
   refine hpw.mono ?_;rintro e w2 ⟨⟨av,cv,V,hV,rfl,hVs,hVf⟩,hf2⟩;have hR2:=hR1.no hf2;have hwa:=zAv c _ sc ma' mc' S Mj G av cv V w2 hR2 hVs (fun ad e hn=>by
    have h1:=hVf ad e;refine⟨?_,?_,?_⟩
    ·have:=zE hR1.k;omega
    ·have:=hR1.wmo.lt;omega
    ·intro ho;have:=zU hR1.mo ho;omega) (fun v hv=>by
    rw[hV]at hv;have:=zJu hv;refine⟨?_,?_⟩
    ·rw[this.1];unfold maxLen;omega
    ·unfold maxLen;omega) (by rw[hV];have:=zHI s.o s.d (tx s.d) r;omega)
   have HV:=Lib.hid hV;have HX:=Lib.hid (And.intro hR1 (Hf1.out.step hf2 (fun _ _ h=>h.elim)));clear hpw c0 c1 c2 c3 c4 c5 c6 c7 c8 c9 c10 c11 c12 hR1 hR2 hf2 hVs hVf hV
   go_wp2_with fail
   refine hwa.mono ?_;rintro e w3 ⟨rfl,⟨ma2,mc2,hR3,-⟩,hf3⟩;have HR3:=Lib.hid (And.intro hR3 (HX.out.2.step hf3 (fun b hb h=>by
    unfold From;have h0:=HB.out.sz;rcases h with h | h | h
    ·have:=HX.out.1.lo;omega
    ·have:=HX.out.1.lo;omega
    ·have:=zN HX.out.1.mo h;unfold From at this;omega)))
   have HM2:Hid (zj Mj V=wantS tx S M r (j+1)):=by unfold Hid;rw[HS2.out,HV.out,HMj.out]
   clear hwa hR3 hf3
   go_wp2_with fail
   go_roundw
   case rel=>exact⟨j+1,zj Mj V,ma2,mc2,by omega,by go_num,HM2,HR3.out.1,HR3.out.2⟩
   case measure=>simp[intOf];omega
  ·obtain rfl:j=S.length:=by omega
   have hlt':¬ (S.length:Int)<S.length:=by omega
   have hMl:=zED tx S M r S.length;rw[<-HMj.out]at hMl;have hMl2:Mj.length<=26000:=by omega
   have hsz0:=hf.size;have hb0:=HB.out.sz;have hmb:=zDI 152 (fun args w=>enters_of Tryz.func152 (by kernel_rfl) rfl _ _) (ofK 2 mk2) (fun p rd s W hE hs=>(zI8 p s rd W hE hs).mono (fun e w' h=>⟨h.1.of,h.2⟩)) tx c.b0 c sa sc ma' mc' S Mj G wr hR (HB.out.env' hf) ((HB.out.tx' hf).sub (fun d hd=>by
    obtain⟨s,hs,rfl⟩:=List.mem_map.1 hd;exact(HSm.out s hs).1)) (by omega) hSn
   have HR:=Lib.hid (And.intro hR hf);clear hR hf
   go_wp2_with fail
   refine hmb.mono ?_;rintro e w2 ⟨⟨L,la,lc,hL,rfl,hLs,hLf⟩,hf2⟩;have Hf2:=Lib.hid (HR.out.2.step hf2 (fun _ _ h=>h.elim));obtain⟨m0,hm0⟩:=(HB.out.env' Hf2.out).len;have hgr:=zKV la lc L m0 w2 hLs (zAa zHY hL hSn (fun s hs=>(HSm.out s hs).2)) hm0 (by have:=(HB.out.env' Hf2.out).sz;omega);have HL:=Lib.hid hL;have HR2:=Lib.hid (HR.out.1.no hf2);clear hmb hL hLs hLf hm0 hf2
   go_wp2_with fail
   refine hgr.mono ?_;rintro e w3 ⟨⟨ao,co,O,ids,rfl,hA,hAf,hAF,hids,hO,hidn,-⟩,hf3⟩;have Hf3:=Lib.hid (Hf2.out.step hf3 (fun _ _ h=>h.elim));have HR3:=Lib.hid (HR2.out.no hf3);have hOn:O.length<=1000:=by
    have:=congrArg List.length hO;simp only[List.length_map]at this;omega
   have hAm:=hA.lenmax;have hR2x:=zE HR2.out.k;have hR2w:=HR2.out.wmo.lt;have hR2s:=HR2.out.smo.lt;have hR2m:∀ b,(Value.slice ma' Mj.length mc').ownBlock=some b->b<w2.heap.size:=fun b hb=>zU HR2.out.mo hb
   have hOb:∀ b,(b=c.xb\/b=c.wm\/b=c.sm\/(Value.slice ma' Mj.length mc').ownBlock=some b)->b<w2.heap.size:=fun b hb=>by
    rcases hb with hb | hb | hb | hb
    ·omega
    ·omega
    ·omega
    ·exact hR2m b hb
   have HOb:=Lib.hid hOb;have HA:=Lib.hid (And.intro hA (And.intro hAf hAF));have HO:=Lib.hid (And.intro hids hO);have HW23:=Lib.hid hf3.size;clear hgr hA hAf hAF hids hO hf3 hOb hR2m hR2x hR2w hR2s
   go_wp2_with fail
   go_loopw [43] (fun x wr=>∃ (j:Nat) (M2:List Vir) (G2:List (ByteArray×ByteArray)) (ma2:Option Addr) (mc2:Nat),j<=O.length/\x=.int .i64 (j:Int)/\Hid ((M2,G2)=arrAll ds E r (Mj,G) O j)/\RS c wr sa sc ma2 mc2 S M2 G2/\Hid (∀ b,(Value.slice ma2 M2.length mc2).ownBlock=some b->(Value.slice ma' Mj.length mc').ownBlock=some b\/w3.heap.size<=b)/\Fr (fun b=>b=c.xb\/b=c.wm\/b=c.sm\/(Value.slice ma' Mj.length mc').ownBlock=some b) w3 wr) (fun x _=>O.length-(intOf x).toNat)
   case atStart=>exact⟨0,Mj,G,ma',mc',by omega,rfl,by unfold Hid arrAll;simp,HR3.out,fun b h=>.inl h,Fr.refl _ _⟩
   case round=>
    obtain⟨j,M2,G2,ma2,mc2,hj,rfl,HMG,hR,Hown,hf⟩:=hrel;by_cases hlt:j<O.length
    ·have hlt':(j:Int)<O.length:=by omega
     have hAr:Arrs wr ao co O:=HA.out.1.fr hf (fun ad e hn hs=>by
      have h1:=HOb.out _ hs;have h2:=HA.out.2.1 ad e;omega) (fun m hm=>⟨fun ad e hn hs=>by
      have h1:=HOb.out _ hs;have h2:=(HA.out.2.2 m hm).2.2.1 ad e;omega,fun ad e hn hs=>by
      have h1:=HOb.out _ hs;have h2:=(HA.out.2.2 m hm).2.2.2 ad e;omega⟩)
     obtain⟨ab,aoff,m,rfl,hm,⟨hSp,hSl⟩,⟨c0,c1,c2,c3,c4,c5⟩,habl⟩:=hAr.elem hlt;have HMO:=Lib.hid (List.mem_of_getElem? hm);have HST:=Lib.hid (zDE (ds:=ds) (E:=E) (r:=r) (x:=(Mj,G)) hm);have hln:=zDi ds E r (Mj,G) O j;rw[<-HMG.out]at hln;have hmi:m.i.size<=1000000:=zF8 HO.out.1 HO.out.2 HMO.out (zAa zHY HL.out hSn (fun s hs=>(HSm.out s hs).2)).i;obtain⟨W1,hW1⟩:∃ W1,W1=wr.alloc (.cells m.vals 206):=⟨_,rfl⟩
     have hx1:Fr No wr W1:=by rw[hW1];exact(Fr.refl _ _).alloc _
     have d1:W1.heap[wr.heap.size]?=some (.cells m.vals 206):=by rw[hW1];exact zD _ _
     have Hf1:Hid (Fr (From w0.heap.size) w0 W1):=(Hf3.out.step hf (fun b hb hs=>by
      unfold From;have h0:=HR2.out.lo;have hb0:=HB.out.sz;rcases hs with hs | hs | hs | hs
      ·omega
      ·omega
      ·omega
      ·have:=zN HR2.out.mo hs;unfold From at this;omega)).step hx1 (fun _ _ h=>h.elim)
     have hR1:=hR.no hx1;have HR1:=Lib.hid hR1;have D1:=Lib.hid d1;have Hf:=Lib.hid (hf.step hx1 (fun _ _ h=>h.elim));have HSl:=Lib.hid (hSl.no hx1 (fun _=>id));have hwsz:=hx1.size;have hf3w:=hf.size;unfold ArrM.vals at hW1;clear hm hR hAr hSp hSl hf hx1
     go_upto_region 10 with(fail)
     rw[<-hW1];clear hW1 c0 c1 c2 c3 c4 c5;obtain⟨ex,hex⟩:∃ ex,ex=exB ds m.i:=⟨_,rfl⟩
     obtain⟨xp,hxp⟩:∃ xp,xp=hasS E m.i:=⟨_,rfl⟩
     have HEX:Hid (∀ W,Fr No W1 W->Calls Tryz.prog 154 #[.pointer (some ⟨c.xb,0,none⟩),.string m.i] W fun e w'=>e=.returned (.bool ex)/\Fr No W w'):=fun W hW=>by
      rw[hex];exact zJB c sa sc ma2 mc2 S M2 G2 m.i ds base W (HR1.out.no hW) hmi (HB.out.tr' (Hf1.out.step hW (fun _ _ h=>h.elim))) HB.out.n (by have:=HB.out.dn;omega)
     have HXP:Hid (∀ W,Fr No W1 W->Calls Tryz.prog 94 #[.slice c.ea E.length c.ec,.string m.i] W fun e w'=>e=.returned (.bool xp)/\Fr No W w'):=fun W hW=>by
      rw[hxp];exact zDm c.ea c.ec E m.i W (HB.out.es.fr (Hf1.out.step hW (fun _ _ h=>h.elim)) (fun ad e hn hs=>by have:=(HB.out.es.cell ad e hn).2.1;unfold From at hs;omega))
     have HMU:Hid (zBK ds E r (M2,G2) m=if mustB m.t m.e m.n ex xp=true then
  (if (G2.any fun y=>decide (y=(mdK,m.i)))=true then (M2,G2++[(mdK,m.i)])else (zn M2 (mdOf m.i m.l r),G2++[(mdK,m.i)]))
 else (M2,G2)):=by unfold Hid;rw[hex,hxp];rfl
     clear hex hxp;rcases hmu:mustB m.t m.e m.n ex xp with _ | _
     ·skip;refine zR (Is c.sm) [(0,false),(1,false),(2,false),(3,false),(5,false),(6,false),(7,false),(8,false),(9,false),(10,false),(4,true),(11,true),(12,true),(13,false),(14,false),(15,false),(16,false),(17,true),(18,false)] (by kernel_rfl) (by kernel_rfl) (fun wx hfx=>?_);have hRx:=HR1.out.no hfx;have dB:=hfx.heap d1 id;have y0:∀ g:Gr (Is c.sm) wx,g.W.cell? ⟨wr.heap.size,0,none⟩=some (.string m.i):=fun g=>zB (g.fr.heap dB (fun h=>hRx.smo.ne_cells dB h)) 0
      have y1:∀ g:Gr (Is c.sm) wx,g.W.cell? ⟨wr.heap.size,1,none⟩=some (.slice m.pa m.ps.length m.pc):=fun g=>zB (g.fr.heap dB (fun h=>hRx.smo.ne_cells dB h)) 1
      have y2:∀ g:Gr (Is c.sm) wx,g.W.cell? ⟨wr.heap.size,2,none⟩=some (.int .i64 m.t):=fun g=>zB (g.fr.heap dB (fun h=>hRx.smo.ne_cells dB h)) 2
      have y3:∀ g:Gr (Is c.sm) wx,g.W.cell? ⟨wr.heap.size,3,none⟩=some (.int .i64 m.e):=fun g=>zB (g.fr.heap dB (fun h=>hRx.smo.ne_cells dB h)) 3
      have y4:∀ g:Gr (Is c.sm) wx,g.W.cell? ⟨wr.heap.size,4,none⟩=some (.int .i64 m.n):=fun g=>zB (g.fr.heap dB (fun h=>hRx.smo.ne_cells dB h)) 4
      have y5:∀ g:Gr (Is c.sm) wx,g.W.cell? ⟨wr.heap.size,5,none⟩=some (.slice m.la m.l.length m.lc):=fun g=>zB (g.fr.heap dB (fun h=>hRx.smo.ne_cells dB h)) 5
      have x4:∀ g:Gr (Is c.sm) wx,g.W.cell? ⟨c.xb,4,none⟩=some (.slice c.ea E.length c.ec):=fun g=>by
       have:=zB (g.fr.heap hRx.k (fun h=>hRx.smo.ne_cells hRx.k h)) 4;rw[HB.out.en]at this;exact this
      have Hfx:=Lib.hid hfx;clear hfx hRx dB d1 hR1
      repeat (first | (apply zT;exact rfl;exact rfl;exact rfl;intro K hK;go_big_quiet_op;go_big_quiet_on) | (apply zW;exact rfl;exact rfl;exact rfl;intro K hK;go_big_quiet_op;go_big_quiet_on))
      clear y0 y1 y2 y3 y4 y5 x4;apply zi;exact rfl
      go_wp2_with fail
      refine(HEX.out wx Hfx.out).mono ?_;rintro e w4 ⟨rfl,hf4⟩;have Hf4:=Lib.hid (Hfx.out.step hf4 (fun _ _ h=>h))
      go_wp2_with fail
      refine OnlyN.mk ⟨hf4.mono (fun _ _ h=>h.elim),?_⟩;clear hf4;apply zi;exact rfl
      go_wp2_with fail
      refine(HXP.out w4 Hf4.out).mono ?_;rintro e w5 ⟨rfl,hf5⟩;have Hf5:=Lib.hid (Hf4.out.step hf5 (fun _ _ h=>h))
      go_wp2_with fail
      refine OnlyN.mk ⟨hf5.mono (fun _ _ h=>h.elim),?_⟩;clear hf5;apply zi;exact rfl
      go_wp2_with fail
      refine(zJU m.i m.t m.e m.n m.pa m.ps.length m.pc m.la m.lc m.l ex xp w5).mono ?_;rintro e w6 ⟨rfl,hf6⟩;rw[hmu];have Hf6:=Lib.hid (Hf5.out.step hf6 (fun _ _ h=>h))
      go_wp2_with fail
      refine OnlyN.mk ⟨hf6.mono (fun _ _ h=>h.elim),?_⟩;clear hf6
      repeat (first | (apply zT;exact rfl;exact rfl;exact rfl;intro K hK;go_big_quiet_op;go_big_quiet_on) | (apply zW;exact rfl;exact rfl;exact rfl;intro K hK;go_big_quiet_op;go_big_quiet_on))
      apply zi;exact rfl
      go_wp2_with fail
      refine OnlyN.mk ⟨Fr.refl _ _,?_⟩
      repeat (first | (apply zT;exact rfl;exact rfl;exact rfl;intro K hK;go_big_quiet_op;go_big_quiet_on) | (apply zW;exact rfl;exact rfl;exact rfl;intro K hK;go_big_quiet_op;go_big_quiet_on))
      refine zb ?_;have HE2:Hid ((M2,G2)=arrAll ds E r (Mj,G) O (j+1)):=by unfold Hid;rw[HST.out,<-HMG.out,HMU.out,hmu];rfl
      have HR6:=Lib.hid (And.intro (HR1.out.no Hf6.out) (Hf.out.step Hf6.out (fun _ _ h=>h.elim)));clear hmu
      go_wp2_with fail
      go_roundw
      case rel=>exact⟨j+1,M2,G2,ma2,mc2,by omega,by go_num,HE2,HR6.out.1,Hown,HR6.out.2⟩
      case measure=>simp[intOf];omega
     ·skip;refine zR (Is c.sm) [(0,false),(1,false),(2,false),(3,false),(5,false),(6,false),(7,false),(8,false),(9,false),(10,false),(4,true),(11,true),(12,true),(13,false),(14,false),(15,false),(16,false),(17,true),(18,false)] (by kernel_rfl) (by kernel_rfl) (fun wx hfx=>?_);have hRx:=HR1.out.no hfx;have dB:=hfx.heap d1 id;have y0:∀ g:Gr (Is c.sm) wx,g.W.cell? ⟨wr.heap.size,0,none⟩=some (.string m.i):=fun g=>zB (g.fr.heap dB (fun h=>hRx.smo.ne_cells dB h)) 0
      have y1:∀ g:Gr (Is c.sm) wx,g.W.cell? ⟨wr.heap.size,1,none⟩=some (.slice m.pa m.ps.length m.pc):=fun g=>zB (g.fr.heap dB (fun h=>hRx.smo.ne_cells dB h)) 1
      have y2:∀ g:Gr (Is c.sm) wx,g.W.cell? ⟨wr.heap.size,2,none⟩=some (.int .i64 m.t):=fun g=>zB (g.fr.heap dB (fun h=>hRx.smo.ne_cells dB h)) 2
      have y3:∀ g:Gr (Is c.sm) wx,g.W.cell? ⟨wr.heap.size,3,none⟩=some (.int .i64 m.e):=fun g=>zB (g.fr.heap dB (fun h=>hRx.smo.ne_cells dB h)) 3
      have y4:∀ g:Gr (Is c.sm) wx,g.W.cell? ⟨wr.heap.size,4,none⟩=some (.int .i64 m.n):=fun g=>zB (g.fr.heap dB (fun h=>hRx.smo.ne_cells dB h)) 4
      have y5:∀ g:Gr (Is c.sm) wx,g.W.cell? ⟨wr.heap.size,5,none⟩=some (.slice m.la m.l.length m.lc):=fun g=>zB (g.fr.heap dB (fun h=>hRx.smo.ne_cells dB h)) 5
      have x4:∀ g:Gr (Is c.sm) wx,g.W.cell? ⟨c.xb,4,none⟩=some (.slice c.ea E.length c.ec):=fun g=>by
       have:=zB (g.fr.heap hRx.k (fun h=>hRx.smo.ne_cells hRx.k h)) 4;rw[HB.out.en]at this;exact this
      have Hfx:=Lib.hid hfx;clear hfx hRx dB d1 hR1
      repeat (first | (apply zT;exact rfl;exact rfl;exact rfl;intro K hK;go_big_quiet_op;go_big_quiet_on) | (apply zW;exact rfl;exact rfl;exact rfl;intro K hK;go_big_quiet_op;go_big_quiet_on))
      clear y0 y1 y2 y3 y4 y5 x4;apply zi;exact rfl
      go_wp2_with fail
      refine(HEX.out wx Hfx.out).mono ?_;rintro e w4 ⟨rfl,hf4⟩;have Hf4:=Lib.hid (Hfx.out.step hf4 (fun _ _ h=>h))
      go_wp2_with fail
      refine OnlyN.mk ⟨hf4.mono (fun _ _ h=>h.elim),?_⟩;clear hf4;apply zi;exact rfl
      go_wp2_with fail
      refine(HXP.out w4 Hf4.out).mono ?_;rintro e w5 ⟨rfl,hf5⟩;have Hf5:=Lib.hid (Hf4.out.step hf5 (fun _ _ h=>h))
      go_wp2_with fail
      refine OnlyN.mk ⟨hf5.mono (fun _ _ h=>h.elim),?_⟩;clear hf5;apply zi;exact rfl
      go_wp2_with fail
      refine(zJU m.i m.t m.e m.n m.pa m.ps.length m.pc m.la m.lc m.l ex xp w5).mono ?_;rintro e w6 ⟨rfl,hf6⟩;rw[hmu];have Hf6:=Lib.hid (Hf5.out.step hf6 (fun _ _ h=>h))
      go_wp2_with fail
      refine OnlyN.mk ⟨hf6.mono (fun _ _ h=>h.elim),?_⟩;clear hf6;have y0:∀ g:Gr (Is c.sm) w6,g.W.cell? ⟨wr.heap.size,0,none⟩=some (.string m.i):=fun g=>zB (g.fr.heap (Hf6.out.heap D1.out id) (fun h=>(HR1.out.no Hf6.out).smo.ne_cells (Hf6.out.heap D1.out id) h)) 0
      repeat (first | (apply zT;exact rfl;exact rfl;exact rfl;intro K hK;go_big_quiet_op;go_big_quiet_on) | (apply zW;exact rfl;exact rfl;exact rfl;intro K hK;go_big_quiet_op;go_big_quiet_on))
      clear y0;apply zi;exact rfl;have hon:=zJT c sa sc ma2 mc2 S M2 G2 mdK m.i w6 (HR1.out.no Hf6.out) (by unfold maxLen;show 2<=_;omega) (by unfold maxLen;omega) (by omega);unfold mdK at hon
      go_wp2_with fail
      refine hon.mono ?_;rintro e w7 ⟨rfl,hR7,hf7⟩;have HR7:=Lib.hid (And.intro hR7 ((Hf.out.step Hf6.out (fun _ _ h=>h.elim)).step hf7 (fun b hb h=>by unfold Is at h;exact .inr (.inr (.inl h)))));have HF7:=Lib.hid hf7;clear hR7 hon
      go_wp2_with fail
      refine OnlyN.mk ⟨hf7,?_⟩;clear hf7
      repeat (first | (apply zT;exact rfl;exact rfl;exact rfl;intro K hK;go_big_quiet_op;go_big_quiet_on) | (apply zW;exact rfl;exact rfl;exact rfl;intro K hK;go_big_quiet_op;go_big_quiet_on))
      refine zb ?_;rcases hsn:(G2.any fun x=>decide (x=((⟨#[109,100]⟩:ByteArray),m.i)))with _ | _
      ·skip;have HE2:Hid ((zn M2 (mdOf m.i m.l r),G2++[(mdK,m.i)])=arrAll ds E r (Mj,G) O (j+1)):=by unfold Hid;rw[HST.out,<-HMG.out,HMU.out,hmu,if_pos rfl];exact(if_neg (fun h=>by have:=hsn.symm.trans h;cases this)).symm
       clear hmu hsn;have q7:=HF7.out.heap (Hf6.out.heap D1.out id) (fun h=>(HR1.out.no Hf6.out).smo.ne_cells (Hf6.out.heap D1.out id) h);obtain⟨b0,b1,b2,b3,b4,b5⟩:=cl6 q7;have hmO:m∈O:=HMO.out;have hst7:Strs w7 m.la m.lc m.l:=(HSl.out.no Hf6.out (fun _=>id)).fr HF7.out (fun ad e hn hs=>by
        unfold Is at hs;have h1:=(HA.out.2.2 m hmO).2.2.2 ad e;have h2:=HOb.out c.sm (.inr (.inr (.inl rfl)));omega)
       have hwn:=zK5 m.i m.t m.e m.n r m.pa m.ps.length m.pc m.la m.lc m.l w7 hmi hst7;have hvs:(mdOf m.i m.l r).q.size<=maxLen/\(mdOf m.i m.l r).o.size<=maxLen:=by
        refine⟨by show (0:Nat)<=_;omega,?_⟩;show (mdT++m.i).size<=maxLen
        rw[ByteArray.size_append];unfold maxLen;show 3+m.i.size<=_
        omega
       obtain⟨v,hv⟩:∃ v,v=mdOf m.i m.l r:=⟨_,rfl⟩
       rw[<-hv]at hwn HE2 hvs;have Hvs:=Lib.hid hvs;unfold Vir.vals at hwn;clear hv hvs q7 hst7 hmO
       go_wp2_with fail
       refine hwn.mono ?_;rintro e w8 ⟨rfl,hf8⟩;have hal:Fr No w8 (w8.alloc (.cells v.vals 79)):=(Fr.refl _ _).alloc _;have hR8:=HR7.out.1.no hf8;have HR8:=Lib.hid hR8;have hwa:=zAv c sa sc ma2 mc2 S M2 (G2++[(mdK,m.i)]) (some ⟨w8.heap.size,0,none⟩) 1 [v] (w8.alloc (.cells v.vals 79)) (hR8.no hal) (zJY v w8) (fun ad e hn=>by
        cases e;refine⟨?_,?_,?_⟩
        ·have:=zE HR8.out.k;show w8.heap.size≠_;omega
        ·have:=HR8.out.wmo.lt;show w8.heap.size≠_;omega
        ·intro ho;have:w8.heap.size<w8.heap.size:=zU HR8.out.mo ho;omega) (fun u hu=>by simp at hu;subst hu;exact Hvs.out) (by simp;omega)
       have HF8:=Lib.hid ((HR7.out.2.step hf8 (fun _ _ h=>h.elim)).step hal (fun _ _ h=>h.elim));have s78:=HF8.out.size;unfold Vir.vals at hwa;clear hwn b0 b1 b2 b3 b4 b5 hf8 hal hR8
       go_wp2_with fail
       refine hwa.mono ?_;rintro e w10 ⟨rfl,⟨ma3,mc3,hR10,hown10⟩,hf10⟩;have HR10:=Lib.hid hR10;have HF10:Hid (Fr (fun b=>b=c.xb\/b=c.wm\/b=c.sm\/(Value.slice ma' Mj.length mc').ownBlock=some b) w3 w10):=HF8.out.step hf10 (fun b hb h=>by
        rcases h with h | h | h
        ·exact .inl h
        ·exact .inr (.inl h)
        ·rcases Hown.out b h with h | h
         ·exact .inr (.inr (.inr h))
         ·omega)
       have Hown10:Hid (∀ b,(Value.slice ma3 (zj M2 [v]).length mc3).ownBlock=some b->(Value.slice ma' Mj.length mc').ownBlock=some b\/w3.heap.size<=b):=fun b hb=>by
        rcases hown10 b hb with h | h
        ·exact Hown.out b h
        ·refine .inr (Nat.le_trans ?_ h);exact s78
       clear hwa hR10 hown10 hf10
       go_wp2_with fail
       go_roundw
       case rel=>exact⟨j+1,zj M2 [v],G2++[(mdK,m.i)],ma3,mc3,by omega,by go_num,HE2,HR10.out,Hown10,HF10.out⟩
       case measure=>simp[intOf];omega
      ·have HE2:Hid ((M2,G2++[(mdK,m.i)])=arrAll ds E r (Mj,G) O (j+1)):=by unfold Hid;rw[HST.out,<-HMG.out,HMU.out,hmu,if_pos rfl];exact(if_pos hsn).symm
       clear hmu hsn
       go_wp2_with fail
       go_roundw
       case rel=>exact⟨j+1,M2,G2++[(mdK,m.i)],ma2,mc2,by omega,by go_num,HE2,HR7.out.1,Hown,HR7.out.2⟩
       case measure=>simp[intOf];omega
    ·skip;obtain rfl:j=O.length:=by omega
     have hlt':¬ (O.length:Int)<O.length:=by omega
     have hln:=zDi ds E r (Mj,G) O O.length;rw[<-HMG.out]at hln;have HFW:Hid (Fr (From w0.heap.size) w0 wr):=Hf3.out.step hf (fun b hb hs=>by
      unfold From;have h0:=HR2.out.lo;have hb0:=HB.out.sz;rcases hs with hs | hs | hs | hs
      ·omega
      ·omega
      ·omega
      ·have:=zN HR2.out.mo hs;unfold From at this;omega)
     have HRa:=Lib.hid hR;have hb0w:c.b0<=wr.heap.size:=by have:=HFW.out.size;omega
     have hK0:wr.cell? ⟨c.xb,0,none⟩=some (.slice c.ka K.length c.kc):=by
      have:=zB hR.k 0;rw[HB.out.kn]at this;exact this
     have HK0:=Lib.hid hK0;have HMB:Hid (∀ W,Fr No wr W->Calls Tryz.prog 151 #[.pointer (some ⟨c.xb,0,none⟩),.func (.func 158) #[] #[]] W fun e w'=>(∃ (L:List Mem) (a:Option Addr) (cap:Nat),L.map Mem.k=S.filterMap (fun s=>ofK 3 mk3 s.o s.r (tx s.d))/\e=.returned (.slice a L.length cap)/\Mems w' a cap L/\(∀ ad,a=some ad->W.heap.size<=ad.block))/\Fr No W w'):=fun W hW=>
      have hfW:=HFW.out.step hW (fun _ _ h=>h.elim)
      zDI 158 (fun args w=>enters_of Tryz.func158 (by kernel_rfl) rfl _ _) (ofK 3 mk3) (fun p rd s W hE hs=>(zIw p s rd W hE hs).mono (fun e w' h=>⟨h.1.of,h.2⟩)) tx c.b0 c sa sc ma2 mc2 S M2 G2 W (HRa.out.no hW) (HB.out.env' hfW) ((HB.out.tx' hfW).sub (fun d hd=>by
       obtain⟨s,hs,rfl⟩:=List.mem_map.1 hd;exact(HSm.out s hs).1)) (Nat.le_trans hb0w hW.size) hSn
     clear hR hf hK0
     go_upto_region 13 with(fail)
     refine zY (fun b=>b=c.xb\/b=c.wm\/(Value.slice ma2 M2.length mc2).ownBlock=some b) (.q 0 (.q 1 (.q 3 (.q 4 (.q 5 (.q 6 (.q 8 (.m2 2 (.m1 7 (.m1 9 (.m1 10 .fin))) 7 (.m1 2 (.m1 9 (.m1 10 .fin))))))))))) _ (by kernel_rfl) (by kernel_rfl) (fun wx hfx=>?_) (fun _ _ h=>h);have Hfx:=Lib.hid hfx;clear hfx
     repeat (first | (apply zM;exact rfl;exact rfl;exact rfl;intro K hK;go_big_quiet_op;go_big_quiet_on) | (apply zO;exact rfl;exact rfl;exact rfl;intro K hK;go_big_quiet_op;go_big_quiet_on))
     refine zh rfl rfl ?_ ?_
     focus
      go_wp2_with fail
      refine(HMB.out wx Hfx.out).mono ?_;rintro e w11 ⟨⟨L3,l3,c3,hL3,rfl,hM3,-⟩,hf11⟩;have Hf11:=Lib.hid (Hfx.out.step hf11 (fun _ _ h=>h));have HL3:=Lib.hid (And.intro hL3 hM3);clear hL3 hM3
      go_wp2_with fail
      refine OnlyN.mk ⟨hf11.mono (fun _ _ h=>h.elim),?_⟩;clear hf11;apply zH;exact rfl;have k0:w11.cell? ⟨c.xb,0,none⟩=some (.slice c.ka K.length c.kc):=Hf11.out.cell HK0.out id
      go_wp2_with fail
      refine OnlyN.mk ⟨Fr.refl _ _,?_⟩;clear k0;apply zH;exact rfl;have hf11w:=HFW.out.step Hf11.out (fun _ _ h=>h.elim);have he11:=HB.out.env' hf11w;obtain⟨m3,hm3⟩:=he11.len;have hsm3:=zDZ zHX HL3.out.1 hSn (fun s hs=>(HSm.out s hs).2);have HS3:=Lib.hid hsm3;have hop:=zJP l3 c3 L3 c.ka c.kc K r m3 w11 HL3.out.2 hsm3 (HB.out.ks.fr hf11w (fun ad e hn hs=>by have:=(HB.out.ks.cell ad e hn).2.1;unfold From at hs;omega)) HB.out.kl HB.out.kz hm3 (by have:=he11.sz;omega);clear hm3 he11 hsm3 hf11w
      go_wp2_with fail
      refine hop.mono ?_;rintro e w12 ⟨⟨av,cv,V,ids3,rfl,hV,hVf,hids3,hVe,hil⟩,hf12⟩;have Hf12:=Lib.hid (Hf11.out.step hf12 (fun _ _ h=>h));have HV:=Lib.hid (And.intro hV (And.intro hVf (And.intro hids3 hVe)));have hVn:V.length<=1000:=by
       have h1:=congrArg List.length hVe;rw[List.length_map]at h1;have h2:(opened ids3 K).length<=ids3.length:=List.length_filter_le _ _;have h3:=HS3.out.len;omega
      clear hop hV hVf hids3 hVe
      go_wp2_with fail
      refine OnlyN.mk ⟨hf12.mono (fun _ _ h=>h.elim),?_⟩;clear hf12;apply zH;exact rfl;have hR12:=HRa.out.no Hf12.out;have hR11:=HRa.out.no Hf11.out;have hwa:=zAv c sa sc ma2 mc2 S M2 G2 av cv V w12 hR12 HV.out.1 (fun ad e hn=>by
       have h1:=HV.out.2.1 ad e;refine⟨?_,?_,?_⟩
       ·have:=zE hR11.k;omega
       ·have:=hR11.wmo.lt;omega
       ·intro ho;have:=zU hR11.mo ho;omega) (fun v hv=>by
       rw[HV.out.2.2.2]at hv;have:=zES HV.out.2.2.1 hv HS3.out.i;unfold maxLen;omega) (by omega)
      clear hR12 hR11
      go_wp2_with fail
      refine hwa.mono ?_;rintro e w13 ⟨rfl,⟨ma3,mc3,hR13,hown13⟩,hf13⟩;have HR13:=Lib.hid (And.intro hR13 (And.intro hown13 hf13));clear hwa hR13 hown13
      go_wp2_with fail
      refine OnlyN.mk ⟨hf13,?_⟩;clear hf13;refine zS ?_
     rotate_left 1
     focus
      have k0:wx.cell? ⟨c.xb,0,none⟩=some (.slice c.ka K.length c.kc):=Hfx.out.cell HK0.out id
      go_wp2_with fail
      refine OnlyN.mk ⟨Fr.refl _ _,?_⟩;clear k0;apply zH;exact rfl
      go_wp2_with fail
      refine(HMB.out wx Hfx.out).mono ?_;rintro e w11 ⟨⟨L3,l3,c3,hL3,rfl,hM3,-⟩,hf11⟩;have Hf11:=Lib.hid (Hfx.out.step hf11 (fun _ _ h=>h));have HL3:=Lib.hid (And.intro hL3 hM3);clear hL3 hM3
      go_wp2_with fail
      refine OnlyN.mk ⟨hf11.mono (fun _ _ h=>h.elim),?_⟩;clear hf11;apply zH;exact rfl;have hf11w:=HFW.out.step Hf11.out (fun _ _ h=>h.elim);have he11:=HB.out.env' hf11w;obtain⟨m3,hm3⟩:=he11.len;have hsm3:=zDZ zHX HL3.out.1 hSn (fun s hs=>(HSm.out s hs).2);have HS3:=Lib.hid hsm3;have hop:=zJP l3 c3 L3 c.ka c.kc K r m3 w11 HL3.out.2 hsm3 (HB.out.ks.fr hf11w (fun ad e hn hs=>by have:=(HB.out.ks.cell ad e hn).2.1;unfold From at hs;omega)) HB.out.kl HB.out.kz hm3 (by have:=he11.sz;omega);clear hm3 he11 hsm3 hf11w
      go_wp2_with fail
      refine hop.mono ?_;rintro e w12 ⟨⟨av,cv,V,ids3,rfl,hV,hVf,hids3,hVe,hil⟩,hf12⟩;have Hf12:=Lib.hid (Hf11.out.step hf12 (fun _ _ h=>h));have HV:=Lib.hid (And.intro hV (And.intro hVf (And.intro hids3 hVe)));have hVn:V.length<=1000:=by
       have h1:=congrArg List.length hVe;rw[List.length_map]at h1;have h2:(opened ids3 K).length<=ids3.length:=List.length_filter_le _ _;have h3:=HS3.out.len;omega
      clear hop hV hVf hids3 hVe
      go_wp2_with fail
      refine OnlyN.mk ⟨hf12.mono (fun _ _ h=>h.elim),?_⟩;clear hf12;apply zH;exact rfl;have hR12:=HRa.out.no Hf12.out;have hR11:=HRa.out.no Hf11.out;have hwa:=zAv c sa sc ma2 mc2 S M2 G2 av cv V w12 hR12 HV.out.1 (fun ad e hn=>by
       have h1:=HV.out.2.1 ad e;refine⟨?_,?_,?_⟩
       ·have:=zE hR11.k;omega
       ·have:=hR11.wmo.lt;omega
       ·intro ho;have:=zU hR11.mo ho;omega) (fun v hv=>by
       rw[HV.out.2.2.2]at hv;have:=zES HV.out.2.2.1 hv HS3.out.i;unfold maxLen;omega) (by omega)
      clear hR12 hR11
      go_wp2_with fail
      refine hwa.mono ?_;rintro e w13 ⟨rfl,⟨ma3,mc3,hR13,hown13⟩,hf13⟩;have HR13:=Lib.hid (And.intro hR13 (And.intro hown13 hf13));clear hwa hR13 hown13
      go_wp2_with fail
      refine OnlyN.mk ⟨hf13,?_⟩;clear hf13;refine zS ?_
     all_goals (
      have HFW13:Hid (Fr (From w0.heap.size) w0 w13):=(HFW.out.step Hf12.out (fun _ _ h=>h.elim)).step HR13.out.2.2 (fun b hb hs=>by
       unfold From;have h0:=HRa.out.lo;have hb0:=HB.out.sz;rcases hs with hs | hs | hs
       ·omega
       ·omega
       ·have:=zN HRa.out.mo hs;unfold From at this;omega)
      have HRb:=Lib.hid HR13.out.1;have Hown13:=Lib.hid HR13.out.2.1;have hMl3:(zj M2 V).length<=28000:=by have:=zAY V M2;omega
      have hGl3:G2.length<=11000:=by omega
      obtain⟨M3,hM3e⟩:∃ M3,M3=zj M2 V:=⟨_,rfl⟩
      have HNX:Hid (MidR ds tx E K r S M G M3 G2):=⟨L,ids,O,M2,L3,ids3,HL.out,HO.out.1,HO.out.2,by rw[<-HMj.out];exact HMG.out,HL3.out.1,HV.out.2.2.1,by rw[hM3e,HV.out.2.2.2]⟩
      rw[<-hM3e]at HRb Hown13 hMl3;clear hM3e HR13;have hb13:=HFW13.out.size;have hmb3:=zDI 160 (fun args w=>enters_of Tryz.func160 (by kernel_rfl) rfl _ _) (ofK 4 mk4) (fun p rd s W hE hs=>(zG0 p s rd W hE hs).mono (fun e w' h=>⟨h.1.of,h.2⟩)) tx c.b0 c sa sc ma3 mc3 S M3 G2 w13 HRb.out (HB.out.env' HFW13.out) ((HB.out.tx' HFW13.out).sub (fun d hd=>by
       obtain⟨s,hs,rfl⟩:=List.mem_map.1 hd;exact(HSm.out s hs).1)) (by have:=HB.out.sz;omega) hSn
      go_wp2_with fail
      refine hmb3.mono ?_;rintro e w14 ⟨⟨L4,l4,c4,hL4,rfl,hLs4,-⟩,hf14⟩;have Hf14:=Lib.hid (HFW13.out.step hf14 (fun _ _ h=>h.elim));obtain⟨m4,hm4⟩:=(HB.out.env' Hf14.out).len;have hgr4:=zJd l4 c4 L4 m4 w14 hLs4 (zAa zE5 hL4 hSn (fun s hs=>(HSm.out s hs).2)) hm4 (by have:=(HB.out.env' Hf14.out).sz;omega);have HL4:=Lib.hid hL4;have HR14:=Lib.hid (HRb.out.no hf14);clear hmb3 hL4 hLs4 hm4 hf14
      go_wp2_with fail
      refine hgr4.mono ?_;rintro e w15 ⟨⟨ao4,co4,O4,ids4,rfl,hA4,hAf4,hAF4,hids4,hO4,hidn4,-⟩,hf15⟩;have Hf15:=Lib.hid (Hf14.out.step hf15 (fun _ _ h=>h.elim));have HR15:=Lib.hid (HR14.out.no hf15);have hOn4:O4.length<=1000:=by
       have:=congrArg List.length hO4;simp only[List.length_map]at this;omega
      have hAm4:=hA4.lenmax;have HOb4:Hid (∀ b,(b=c.xb\/b=c.wm\/b=c.sm\/(Value.slice ma3 M3.length mc3).ownBlock=some b)->b<w14.heap.size):=fun b hb=>by
       rcases hb with hb | hb | hb | hb
       ·have:=zE HR14.out.k;omega
       ·have:=HR14.out.wmo.lt;omega
       ·have:=HR14.out.smo.lt;omega
       ·exact zU HR14.out.mo hb
      have HA4:=Lib.hid (And.intro hA4 (And.intro hAf4 hAF4));have HO4:=Lib.hid (And.intro hids4 hO4);clear hgr4 hA4 hAf4 hAF4 hids4 hO4 hf15;have hOl4:∀ m∈O4,m.l.length<=16:=fun m hm=>zIA HO4.out.2 hm (zGb zE5 HL4.out)
      have HOl4:=Lib.hid hOl4;clear hOl4
      go_wp2_with fail
      go_loopw [88] (fun x wr=>∃ (j:Nat) (M2:List Vir) (G4:List (ByteArray×ByteArray)) (ma2:Option Addr) (mc2:Nat),j<=O4.length/\x=.int .i64 (j:Int)/\Hid ((M2,G4)=grpAll r (M3,G2) O4 j)/\RS c wr sa sc ma2 mc2 S M2 G4/\Hid (∀ b,(Value.slice ma2 M2.length mc2).ownBlock=some b->(Value.slice ma3 M3.length mc3).ownBlock=some b\/w15.heap.size<=b)/\Fr (fun b=>b=c.xb\/b=c.wm\/b=c.sm\/(Value.slice ma3 M3.length mc3).ownBlock=some b) w15 wr) (fun x _=>O4.length-(intOf x).toNat)
      case atStart=>exact⟨0,M3,G2,ma3,mc3,by omega,rfl,by unfold Hid grpAll;simp,HR15.out,fun b h=>.inl h,Fr.refl _ _⟩
      case round=>
       obtain⟨j,M2,G4,ma2,mc2,hj,rfl,HMG,hR,Hown,hf⟩:=hrel;have hln:M2.length<=M3.length+16*j/\G4.length<=G2.length+j:=by
        have:=zGf r (M3,G2) O4 HOl4.out j;rw[<-HMG.out]at this;exact this
       by_cases hlt:j<O4.length
       ·have hlt':(j:Int)<O4.length:=by omega
        have hAr:Arrs wr ao4 co4 O4:=HA4.out.1.fr hf (fun ad e hn hs=>by
         have h1:=HOb4.out _ hs;have h2:=HA4.out.2.1 ad e;omega) (fun m hm=>⟨fun ad e hn hs=>by
         have h1:=HOb4.out _ hs;have h2:=(HA4.out.2.2 m hm).2.2.1 ad e;omega,fun ad e hn hs=>by
         have h1:=HOb4.out _ hs;have h2:=(HA4.out.2.2 m hm).2.2.2 ad e;omega⟩)
        obtain⟨ab,aoff,m,rfl,hm,⟨hSp,hSl⟩,⟨c0,c1,c2,c3,c4,c5⟩,habl⟩:=hAr.elem hlt;have HMO:=Lib.hid (List.mem_of_getElem? hm);have HST:=Lib.hid (zCz (r:=r) (x:=(M3,G2)) hm);have hmi:m.i.size<=1000000:=zF8 HO4.out.1 HO4.out.2 HMO.out (zAa zE5 HL4.out hSn (fun s hs=>(HSm.out s hs).2)).i;have hml:=HOl4.out m HMO.out;obtain⟨W1,hW1⟩:∃ W1,W1=wr.alloc (.cells m.vals 206):=⟨_,rfl⟩
        have hx1:Fr No wr W1:=by rw[hW1];exact(Fr.refl _ _).alloc _
        have d1:W1.heap[wr.heap.size]?=some (.cells m.vals 206):=by rw[hW1];exact zD _ _
        have Hf1:Hid (Fr (From w0.heap.size) w0 W1):=(Hf15.out.step hf (fun b hb hs=>by
         unfold From;have h0:=HR14.out.lo;have hb0:=HB.out.sz;rcases hs with hs | hs | hs | hs
         ·omega
         ·omega
         ·omega
         ·have:=zN HR14.out.mo hs;unfold From at this;omega)).step hx1 (fun _ _ h=>h.elim)
        have HR1:=Lib.hid (hR.no hx1);have D1:=Lib.hid d1;have Hf:=Lib.hid (hf.step hx1 (fun _ _ h=>h.elim));have HSl:=Lib.hid (hSl.no hx1 (fun _=>id));have hwsz:=hx1.size;have hf3w:=hf.size;unfold ArrM.vals at hW1;clear hm hR hAr hSp hSl hf hx1
        go_upto_region 17 with(fail)
        rw[<-hW1];clear hW1 c0 c1 c2 c3 c4 c5;obtain⟨b0,b1,b2,b3,b4,b5⟩:=cl6 d1;have HSTEP:Hid (zCF r (M2,G4) m=if m.n=m.t then
         (if (G4.any fun y=>decide (y=(lvK,m.i)))=true then (M2,G4++[(lvK,m.i)])else (zj M2 (wantL m.i m.t m.n m.l r),G4++[(lvK,m.i)]))
        else (M2,G4)):=rfl
        clear d1;by_cases hnt:m.n=m.t
        ·have HNT:=Lib.hid hnt;have hnb:(m.n==m.t)=true:=by simpa using hnt
         have hon:=zJT c sa sc ma2 mc2 S M2 G4 lvK m.i W1 HR1.out (by unfold maxLen;show 2<=_;omega) (by unfold maxLen;omega) (by omega);unfold lvK at hon;clear hnt
         go_wp2_with fail
         refine hon.mono ?_;rintro e w7 ⟨rfl,hR7,hf7⟩;have HR7:=Lib.hid (And.intro hR7 (Hf.out.step hf7 (fun b hb h=>by unfold Is at h;exact .inr (.inr (.inl h)))));have HF7:=Lib.hid hf7;clear hR7 hon b0 b1 b2 b3 b4 b5 hf7;rcases hsn:(G4.any fun x=>decide (x=((⟨#[108,118]⟩:ByteArray),m.i)))with _ | _
         ·have HE2:Hid ((zj M2 (wantL m.i m.t m.n m.l r),G4++[(lvK,m.i)])=grpAll r (M3,G2) O4 (j+1)):=by unfold Hid;rw[HST.out,<-HMG.out,HSTEP.out,if_pos HNT.out];exact(if_neg (fun h=>by have:=hsn.symm.trans h;cases this)).symm
          clear hsn;have q7:=HF7.out.heap D1.out (fun h=>HR1.out.smo.ne_cells D1.out h);obtain⟨b0,b1,b2,b3,b4,b5⟩:=cl6 q7;have hmO:m∈O4:=HMO.out;have hst7:Strs w7 m.la m.lc m.l:=HSl.out.fr HF7.out (fun ad e hn hs=>by
           unfold Is at hs;have h1:=(HA4.out.2.2 m hmO).2.2.2 ad e;have h2:=HOb4.out c.sm (.inr (.inr (.inl rfl)));omega)
          have hE7:=HB.out.env' (Hf1.out.step HF7.out (fun b hb h=>by unfold Is at h;unfold From;have:=HR1.out.lo;have:=HB.out.sz;omega));have hwn:=zJb m.i m.t m.e m.n r m.pa m.ps.length m.pc m.la m.lc m.l w7 hE7 hmi hst7 (by omega);clear q7 hst7 hE7 hmO
          go_wp2_with fail
          refine hwn.mono ?_;rintro e w8 ⟨⟨a8,c8,V8,rfl,hV8,hVe8,hVf8⟩,hf8⟩;have HR8:=Lib.hid (HR7.out.1.no hf8);have hwl8:=zEE m.i m.t m.n m.l r;rw[<-hVe8]at hwl8;have hwa:=zAv c sa sc ma2 mc2 S M2 (G4++[(lvK,m.i)]) a8 c8 V8 w8 HR8.out hV8 (fun ad e hn=>by
           have h1:=hVf8 ad e;refine⟨?_,?_,?_⟩
           ·have:=zE HR7.out.1.k;omega
           ·have:=HR7.out.1.wmo.lt;omega
           ·intro ho;have:=zU HR7.out.1.mo ho;omega) (fun v hv=>by
           rw[hVe8]at hv;have:=zGx hv;unfold maxLen;omega) (by omega)
          have HE8:Hid ((zj M2 V8,G4++[(lvK,m.i)])=grpAll r (M3,G2) O4 (j+1)):=by unfold Hid;rw[hVe8];exact HE2.out
          have HF8:=Lib.hid (HR7.out.2.step hf8 (fun _ _ h=>h.elim));have s78:=HF8.out.size;clear hwn b0 b1 b2 b3 b4 b5 hf8 hV8 hVe8 hVf8 hwl8
          go_wp2_with fail
          refine hwa.mono ?_;rintro e w10 ⟨rfl,⟨ma4,mc4,hR10,hown10⟩,hf10⟩;have HR10:=Lib.hid hR10;have HF10:Hid (Fr (fun b=>b=c.xb\/b=c.wm\/b=c.sm\/(Value.slice ma3 M3.length mc3).ownBlock=some b) w15 w10):=HF8.out.step hf10 (fun b hb h=>by
           rcases h with h | h | h
           ·exact .inl h
           ·exact .inr (.inl h)
           ·rcases Hown.out b h with h | h
            ·exact .inr (.inr (.inr h))
            ·omega)
          have Hown10:Hid (∀ b,(Value.slice ma4 (zj M2 V8).length mc4).ownBlock=some b->(Value.slice ma3 M3.length mc3).ownBlock=some b\/w15.heap.size<=b):=fun b hb=>by
           rcases hown10 b hb with h | h
           ·exact Hown.out b h
           ·refine .inr (Nat.le_trans ?_ h);exact s78
          clear hwa hR10 hown10 hf10
          go_wp2_with fail
          go_roundw
          case rel=>exact⟨j+1,zj M2 V8,G4++[(lvK,m.i)],ma4,mc4,by omega,by go_num,HE8,HR10.out,Hown10,HF10.out⟩
          case measure=>simp[intOf];omega
         ·have HE2:Hid ((M2,G4++[(lvK,m.i)])=grpAll r (M3,G2) O4 (j+1)):=by unfold Hid;rw[HST.out,<-HMG.out,HSTEP.out,if_pos HNT.out];exact(if_pos hsn).symm
          clear hsn
          go_wp2_with fail
          go_roundw
          case rel=>exact⟨j+1,M2,G4++[(lvK,m.i)],ma2,mc2,by omega,by go_num,HE2,HR7.out.1,Hown,HR7.out.2⟩
          case measure=>simp[intOf];omega
        ·have HE2:Hid ((M2,G4)=grpAll r (M3,G2) O4 (j+1)):=by unfold Hid;rw[HST.out,<-HMG.out,HSTEP.out,if_neg hnt]
         have hnt':(m.n==m.t)=false:=by simpa using hnt
         go_wp2_with fail
         go_roundw
         case rel=>exact⟨j+1,M2,G4,ma2,mc2,by omega,by go_num,HE2,HR1.out,Hown,Hf.out⟩
         case measure=>simp[intOf];omega
       ·obtain rfl:j=O4.length:=by omega
        have hlt':¬ (O4.length:Int)<O4.length:=by omega
        have HFW4:Hid (Fr (From w0.heap.size) w0 wr):=Hf15.out.step hf (fun b hb hs=>by
         unfold From;have h0:=HR14.out.lo;have hb0:=HB.out.sz;rcases hs with hs | hs | hs | hs
         ·omega
         ·omega
         ·omega
         ·have:=zN HR14.out.mo hs;unfold From at this;omega)
        have HNY:Hid (∃ (M3:List Vir) (G2:List (ByteArray×ByteArray)) (L4:List Mem) (ids4:List ByteArray) (O4:List ArrM),MidR ds tx E K r S M G M3 G2/\
  L4.map Mem.k=S.filterMap (fun s=>ofK 4 mk4 s.o s.r (tx s.d))/\IsIds2 (zk soundB L4) ids4/\O4.map ArrM.toArr=ids4.map (buildA (zk soundB L4))/\
  (M2,G4)=grpAll r (M3,G2) O4 O4.length):=⟨_,_,L4,ids4,O4,HNX.out,HL4.out,HO4.out.1,HO4.out.2,HMG.out⟩
        obtain⟨CA,hCA⟩:∃ CA,c.ca=CA:=⟨_,rfl⟩
        have k3:wr.cell? ⟨c.xb,3,none⟩=some (.slice CA c.C.length c.cc):=by rw[<-hCA];exact zB hR.k 3
        have HCA:=Lib.hid hCA;have hCn:=HB.out.cn;have HRd:=Lib.hid hR;have hMl9:M2.length<=50000:=by omega
        clear hR hf hCA
        go_wp2_with fail
        clear k3
        go_loopw [114] (fun x wr=>∃ (k:Nat) (sa4:Option Addr) (sc4:Nat),k<=c.C.length/\x=.int .i64 (k:Int)/\RS c wr sa4 sc4 ma2 mc2 (S++moreS ds tx M2 r c.C k) M2 G4/\Fr (From w0.heap.size) w0 wr) (fun x _=>c.C.length-(intOf x).toNat)
        case atStart=>exact⟨0,sa,sc,by omega,rfl,by simpa [moreS]using HRd.out,HFW4.out⟩
        case round=>
         obtain⟨k,sa4,sc4,hk,rfl,hR,hf⟩:=hrel;have hMS:=zHW ds tx M2 r c.C k;obtain⟨S4,hS4⟩:∃ S4,S4=S++moreS ds tx M2 r c.C k:=⟨_,rfl⟩
         have hS4l:S4.length<=950:=by rw[hS4,List.length_append];omega
         have HS4:=Lib.hid hS4;rw[<-hS4]at hR;clear hS4 hMS;by_cases hlt:k<c.C.length
         ·have hlt':(k:Int)<c.C.length:=by omega
          have hcs:Srcs wr CA c.cc c.C:=by rw[<-HCA.out];exact hR.cs
          obtain⟨cb,coff,s,rfl,hs,⟨c0,c1,c2,c3,c4,c5,c6,c7,c8,c9,c10,c11,c12⟩,hcbl⟩:=hcs.elem hlt;have hmem:=HB.out.cm s (List.mem_of_getElem? hs);have HS2:=Lib.hid (zGa (ds:=ds) (tx:=tx) (M:=M2) (r:=r) hs);obtain⟨W1,hW1⟩:∃ W1,W1=wr.alloc (.cells s.vals 163):=⟨_,rfl⟩
          have hx1:Fr No wr W1:=by rw[hW1];exact(Fr.refl _ _).alloc _
          have d1:W1.heap[wr.heap.size]?=some (.cells s.vals 163):=by rw[hW1];exact zD _ _
          have Hf1:=Lib.hid (hf.step hx1 (fun _ _ h=>h.elim));have HR0:=Lib.hid hR;have HF0:=Lib.hid hf;have HX1:=Lib.hid hx1;have HR1:=Lib.hid (hR.no hx1);have D1:=Lib.hid d1;have HB2:Hid (c.b2<=wr.heap.size):=hR.b2l;have HLW:Hid (wr.heap.size<W1.heap.size/\c.xb<wr.heap.size/\c.wm<wr.heap.size):=⟨zE d1,zE hR.k,hR.wmo.lt⟩
          obtain⟨lA,hA,han,htx,hts,hab⟩:=HB.out.tx' hf s.d hmem.1;have HTX:Hid (∀ W,Fr No W1 W->Calls Tryz.prog 111 #[.agg s.d.vals] W fun e w'=>e=.returned (.string (tx s.d))/\Fr No W w'):=fun W hW=>by
           rw[<-htx];exact zJS s.d lA W ((hA.no hx1 (fun _=>id)).no hW (fun _=>id)) han
          obtain⟨P,hP⟩:∃ P,P=plc ds s.d.parent:=⟨_,rfl⟩
          have HPL:Hid (∀ W,Fr No W1 W->Calls Tryz.prog 109 #[.agg #[.slice c.a ds.length c.cap],.agg s.d.vals] W fun e w'=>e=.returned (.agg #[.string P,.string s.d.orig])/\Fr No W w'):=fun W hW=>by
           rw[hP];have hT:=(HB.out.tr' (Hf1.out.step hW (fun _ _ h=>h.elim)))
           exact zFP c.a c.cap ds s.d W hT.dv hT.wf.ok (by have:=HB.out.dn;omega) (hT.wf.ok.pwf hmem.1)
          have HPS:Hid (P.size<=maxLen/\s.d.orig.size<=maxLen):=by
           rw[hP];have h1:=zBm HB.out.tr.wf.ok HB.out.dn s.d.parent;have h2:=HB.out.tr.wf.ok.sz s.d hmem.1;refine⟨?_,?_⟩<;>unfold maxLen<;>omega
          obtain⟨y,hy,hyv⟩:=zGF M2 (P,s.d.orig);obtain⟨bk,hbk⟩:∃ bk,bk=(wantG M2 (P,s.d.orig)).isSome:=⟨_,rfl⟩
          have HAG:Hid (againB ds tx M2 r s=(bk&&((y.r==r)&&(y.c.toList==(tx s.d).toList)))):=by
           unfold Hid;rw[hbk];exact zIE hP hyv
          have HY:=Lib.hid hy;have HBK:=Lib.hid hbk.symm;unfold Dev.vals at HTX HPL;unfold Src.vals at hW1;clear hs hR hf hcs hA han htx hts hab hP hy hyv hbk hx1 d1
          go_upto_region 23 with(fail)
          rw[<-hW1];clear hW1 c0 c1 c2 c3 c4 c5 c6 c7 c8 c9 c10 c11 c12;refine zY (From W1.heap.size) (.q 0 (.q 1 (.q 2 (.q 3 (.q 4 (.q 5 (.q 6 (.q 7 (.q 8 (.q 9 (.m2 10 (.q 11 (.q 12 (.q 13 (.q 14 (.m1 15 (.m1 16 (.q 17 .fin))))))) 15 (.m1 10 (.q 11 (.q 12 (.q 13 (.q 14 (.m1 16 (.q 17 .fin)))))))))))))))))) _ (by kernel_rfl) (by kernel_rfl) (fun W3 hf3=>?_) (fun _ _ h=>h);have d3:=hf3.heap D1.out id;have x3:=hf3.heap HR1.out.k id;have cB:∀ g:Gr (From W1.heap.size) W3,SrcB0 g.W wr.heap.size s:=fun g=>SrcB0.of (g.fr.heap d3 (by unfold From;have:=HLW.out;omega))
          have e0:=fun g=>(cB g).c0
          have e1:=fun g=>(cB g).c1
          have e2:=fun g=>(cB g).c2
          have e3:=fun g=>(cB g).c3
          have e4:=fun g=>(cB g).c4
          have e5:=fun g=>(cB g).c5
          have e6:=fun g=>(cB g).c6
          have e7:=fun g=>(cB g).c7
          have e8:=fun g=>(cB g).c8
          have e9:=fun g=>(cB g).c9
          have e10:=fun g=>(cB g).c10
          have e11:=fun g=>(cB g).c11
          have e12:=fun g=>(cB g).c12
          have x6:∀ g:Gr (From W1.heap.size) W3,g.W.cell? ⟨c.xb,6,none⟩=some (.map (some c.wm)):=fun g=>zB (g.fr.heap x3 (by unfold From;have:=HLW.out;omega)) 6
          have x2:∀ g:Gr (From W1.heap.size) W3,g.W.cell? ⟨c.xb,2,none⟩=some (.slice c.a ds.length c.cap):=fun g=>by
           have:=zB (g.fr.heap x3 (by unfold From;have:=HLW.out;omega)) 2;rw[HB.out.n]at this;exact this
          have Hf3:=Lib.hid hf3;clear cB d3 x3 hf3
          repeat (first | (apply zM;exact rfl;exact rfl;exact rfl;intro K hK;go_big_quiet_op;go_big_quiet_on) | (apply zO;exact rfl;exact rfl;exact rfl;intro K hK;go_big_quiet_op;go_big_quiet_on))
          clear e0 e1 e2 e3 e4 e5 e6 e7 e8 e9 e10 e11 e12 x6 x2;refine zh rfl rfl ?_ ?_
          focus
           go_wp2_with fail
           refine(HPL.out W3 Hf3.out).mono ?_;rintro e Wc ⟨rfl,hfc⟩
           go_wp2_with fail
           refine OnlyN.mk ⟨hfc.mono (fun _ _ h=>h.elim),?_⟩;have Hf4:=Lib.hid (Hf3.out.step hfc (fun _ _ h=>h));have hlk:∀ W,(∃ g:Gr (From W1.heap.size) Wc,W=g.W)->(Instr.lookup 120 (.map (some c.wm)) (.agg #[.string P,.string s.d.orig]) true).run Tryz.prog W=.ok (.tuple #[.agg #[.string y.q,.string y.o,.string y.c,.int .i64 y.r],.bool bk]) W:=fun W hW=>by
            obtain⟨g,rfl⟩:=hW;have:=((HR1.out.no Hf4.out).wmo.fr g.fr (by unfold From;have:=HLW.out;omega)).lookok (zCX g.W) Tryz.underlying120 HPS.out.1 HPS.out.2;rw[this,HY.out,HBK.out]
           apply zM;exact rfl;exact rfl;exact rfl;intro K hK;refine zAP rfl _ _ 120 rfl (.map (some c.wm)) (.agg #[.string P,.string s.d.orig]) _ rfl rfl hlk ?_
           go_frame
           go_big_quiet_on;clear hlk;apply zM;exact rfl;exact rfl;exact rfl;intro K hK;go_big_quiet_op;go_big_quiet_on;apply zM;exact rfl;exact rfl;exact rfl;intro K hK;go_big_quiet_op;go_big_quiet_on;apply zM;exact rfl;exact rfl;exact rfl;intro K hK;go_big_quiet_op;go_big_quiet_on;clear hfc;apply zH;exact rfl;obtain⟨Wa,hWa⟩:∃ Wa,Wa=Wc.alloc (.cells #[.string ⟨#[]⟩,.string ⟨#[]⟩,.string ⟨#[]⟩,.int .i64 0] 79):=⟨_,rfl⟩
           have hxa:Fr No Wc Wa:=by rw[hWa];exact(Fr.refl _ _).alloc _
           have qa:Wa.heap[Wc.heap.size]?=some (.cells #[.string ⟨#[]⟩,.string ⟨#[]⟩,.string ⟨#[]⟩,.int .i64 0] 79):=by rw[hWa];exact zD _ _
           go_wp2_with fail
           refine OnlyN.mk ⟨((Fr.refl No _).alloc _).mono (fun _ _ h=>h.elim),?_⟩;rw[<-hWa];clear hWa;have HXA:Hid (Fr No W1 Wa):=Hf4.out.step hxa (fun _ _ h=>h);have HBL:Hid (W1.heap.size<=Wc.heap.size):=Hf4.out.size;have qz:=qa;clear hxa qa;obtain⟨B,hB⟩:∃ B,B=Wc.heap.size:=⟨_,rfl⟩
           rw[<-hB]at qz HBL ⊢;clear hB;obtain⟨z0,z1,z2,z3⟩:=cl4 qz;obtain⟨f0,f1,f2,f3⟩:=fl4 qz;have h4:=Lib.hid (set4 qz rfl (.string y.q) (.string y.o) (.string y.c) (.int .i64 y.r));clear qz;apply zH;exact rfl
           go_wp2_with fail
           refine OnlyN.mk ⟨h4.out.2.mono (fun b _ h=>by unfold Is at h;unfold From;have:=HBL.out;omega),?_⟩;apply zM;exact rfl;exact rfl;exact rfl;intro K hK;go_big_quiet_op;go_big_quiet_on;refine zS ?_;obtain⟨w5,hw5⟩:∃ w5,w5=((((Wa.setCell ⟨B,0,none⟩ (.string y.q)).setCell ⟨B,1,none⟩ (.string y.o)).setCell ⟨B,2,none⟩ (.string y.c)).setCell ⟨B,3,none⟩ (.int .i64 y.r)):=⟨_,rfl⟩
           rw[<-hw5];have h4b:=h4.out;rw[<-hw5]at h4b;have HX5:Hid (Fr No W1 w5):=HXA.out.step h4b.2 (fun b hb h=>by unfold Is at h;have:=HBL.out;omega);have HB5:=Lib.hid h4b.1;clear hw5 h4 h4b z0 z1 z2 z3 f0 f1 f2 f3 HXA HBL
          rotate_left 1
          focus
           obtain⟨Wa,hWa⟩:∃ Wa,Wa=W3.alloc (.cells #[.string ⟨#[]⟩,.string ⟨#[]⟩,.string ⟨#[]⟩,.int .i64 0] 79):=⟨_,rfl⟩
           have hxa:Fr No W3 Wa:=by rw[hWa];exact(Fr.refl _ _).alloc _
           have qa:Wa.heap[W3.heap.size]?=some (.cells #[.string ⟨#[]⟩,.string ⟨#[]⟩,.string ⟨#[]⟩,.int .i64 0] 79):=by rw[hWa];exact zD _ _
           go_wp2_with fail
           refine OnlyN.mk ⟨((Fr.refl No _).alloc _).mono (fun _ _ h=>h.elim),?_⟩;rw[<-hWa];clear hWa;have Hfa:=Lib.hid (Hf3.out.step hxa (fun _ _ h=>h));clear hxa;apply zH;exact rfl
           go_wp2_with fail
           refine(HPL.out Wa Hfa.out).mono ?_;rintro e Wc ⟨rfl,hfc⟩
           go_wp2_with fail
           refine OnlyN.mk ⟨hfc.mono (fun _ _ h=>h.elim),?_⟩;have qb:=hfc.heap qa id;clear qa;have Hf4:=Lib.hid (Hfa.out.step hfc (fun _ _ h=>h));have hlk:∀ W,(∃ g:Gr (From W1.heap.size) Wc,W=g.W)->(Instr.lookup 120 (.map (some c.wm)) (.agg #[.string P,.string s.d.orig]) true).run Tryz.prog W=.ok (.tuple #[.agg #[.string y.q,.string y.o,.string y.c,.int .i64 y.r],.bool bk]) W:=fun W hW=>by
            obtain⟨g,rfl⟩:=hW;have:=((HR1.out.no Hf4.out).wmo.fr g.fr (by unfold From;have:=HLW.out;omega)).lookok (zCX g.W) Tryz.underlying120 HPS.out.1 HPS.out.2;rw[this,HY.out,HBK.out]
           apply zM;exact rfl;exact rfl;exact rfl;intro K hK;refine zAP rfl _ _ 120 rfl (.map (some c.wm)) (.agg #[.string P,.string s.d.orig]) _ rfl rfl hlk ?_
           go_frame
           go_big_quiet_on;clear hlk;apply zM;exact rfl;exact rfl;exact rfl;intro K hK;go_big_quiet_op;go_big_quiet_on;apply zM;exact rfl;exact rfl;exact rfl;intro K hK;go_big_quiet_op;go_big_quiet_on;apply zM;exact rfl;exact rfl;exact rfl;intro K hK;go_big_quiet_op;go_big_quiet_on;clear hfc;have HXA:Hid (Fr No W1 Wc):=Hf4.out;have HBL:Hid (W1.heap.size<=W3.heap.size):=Hf3.out.size;have qz:=qb;clear qb;obtain⟨B,hB⟩:∃ B,B=W3.heap.size:=⟨_,rfl⟩
           rw[<-hB]at qz HBL ⊢;clear hB;obtain⟨z0,z1,z2,z3⟩:=cl4 qz;obtain⟨f0,f1,f2,f3⟩:=fl4 qz;have h4:=Lib.hid (set4 qz rfl (.string y.q) (.string y.o) (.string y.c) (.int .i64 y.r));clear qz;apply zH;exact rfl
           go_wp2_with fail
           refine OnlyN.mk ⟨h4.out.2.mono (fun b _ h=>by unfold Is at h;unfold From;have:=HBL.out;omega),?_⟩;apply zM;exact rfl;exact rfl;exact rfl;intro K hK;go_big_quiet_op;go_big_quiet_on;refine zS ?_;obtain⟨w5,hw5⟩:∃ w5,w5=((((Wc.setCell ⟨B,0,none⟩ (.string y.q)).setCell ⟨B,1,none⟩ (.string y.o)).setCell ⟨B,2,none⟩ (.string y.c)).setCell ⟨B,3,none⟩ (.int .i64 y.r)):=⟨_,rfl⟩
           rw[<-hw5];have h4b:=h4.out;rw[<-hw5]at h4b;have HX5:Hid (Fr No W1 w5):=HXA.out.step h4b.2 (fun b hb h=>by unfold Is at h;have:=HBL.out;omega);have HB5:=Lib.hid h4b.1;clear hw5 h4 h4b z0 z1 z2 z3 f0 f1 f2 f3 HXA HBL
          all_goals (
           have HR5:=Lib.hid (HR1.out.no HX5.out);have HF5:=Lib.hid (Hf1.out.step HX5.out (fun _ _ h=>h.elim))
           go_wp2_with fail
           rcases hbk:bk with _ | _
           ·skip;have HNO:Hid (S++(moreS ds tx M2 r c.C k++if againB ds tx M2 r s=true then [{ s with r:=r }]else [])=S4):=by
             unfold Hid;rw[HAG.out,hbk];simp[HS4.out]
            clear hbk HBK HY HAG;refine zR No [(0,false),(1,false),(2,false),(3,false),(4,false),(5,false),(6,false),(7,false),(8,false),(9,false),(10,false),(11,false),(12,true),(13,false),(14,false)] (by kernel_rfl) (by kernel_rfl) (fun w6 hf6=>?_);have y6:=hf6.heap HB5.out id;have d6:=hf6.heap (HX5.out.heap D1.out id) id;have v2:∀ g:Gr No w6,g.W.cell? ⟨B,2,none⟩=some (.string y.c):=fun g=>zB (g.fr.heap y6 id) 2
            have v3:∀ g:Gr No w6,g.W.cell? ⟨B,3,none⟩=some (.int .i64 y.r):=fun g=>zB (g.fr.heap y6 id) 3
            have cB:∀ g:Gr No w6,SrcB0 g.W wr.heap.size s:=fun g=>SrcB0.of (g.fr.heap d6 id)
            have e0:=fun g=>(cB g).c0
            have e1:=fun g=>(cB g).c1
            have e2:=fun g=>(cB g).c2
            have e3:=fun g=>(cB g).c3
            have e4:=fun g=>(cB g).c4
            have e5:=fun g=>(cB g).c5
            have e6:=fun g=>(cB g).c6
            have e7:=fun g=>(cB g).c7
            have e8:=fun g=>(cB g).c8
            have e9:=fun g=>(cB g).c9
            have e10:=fun g=>(cB g).c10
            have e11:=fun g=>(cB g).c11
            have e12:=fun g=>(cB g).c12
            have Hf6:=Lib.hid hf6;clear cB y6 d6 hf6
            repeat (first | (apply zT;exact rfl;exact rfl;exact rfl;intro K hK;go_big_quiet_op;go_big_quiet_on) | (apply zW;exact rfl;exact rfl;exact rfl;intro K hK;go_big_quiet_op;go_big_quiet_on))
            clear e0 e1 e2 e3 e4 e5 e6 e7 e8 e9 e10 e11 e12 v2 v3;apply zi;exact rfl
            go_wp2_with fail
            refine OnlyN.mk ⟨Fr.refl _ _,?_⟩
            repeat (first | (apply zT;exact rfl;exact rfl;exact rfl;intro K hK;go_big_quiet_op;go_big_quiet_on) | (apply zW;exact rfl;exact rfl;exact rfl;intro K hK;go_big_quiet_op;go_big_quiet_on))
            refine zb ?_;have HR7:=Lib.hid (HR5.out.no Hf6.out);have HF7:=Lib.hid (HF5.out.step Hf6.out (fun _ _ h=>h.elim))
            go_wp2_with fail
            go_roundw
            case rel=>exact⟨k+1,sa4,sc4,by omega,by go_num,by rw[HS2.out,HNO.out];exact HR7.out,HF7.out⟩
            case measure=>simp[intOf];omega
           ·skip;rcases hrr:(y.r==r)with _ | _
            ·skip;have HNO:Hid (S++(moreS ds tx M2 r c.C k++if againB ds tx M2 r s=true then [{ s with r:=r }]else [])=S4):=by
              unfold Hid;rw[HAG.out,hrr];simp[HS4.out]
             clear hbk HBK HY HAG;refine zR No [(0,false),(1,false),(2,false),(3,false),(4,false),(5,false),(6,false),(7,false),(8,false),(9,false),(10,false),(11,false),(12,true),(13,false),(14,false)] (by kernel_rfl) (by kernel_rfl) (fun w6 hf6=>?_);have y6:=hf6.heap HB5.out id;have d6:=hf6.heap (HX5.out.heap D1.out id) id;have v2:∀ g:Gr No w6,g.W.cell? ⟨B,2,none⟩=some (.string y.c):=fun g=>zB (g.fr.heap y6 id) 2
             have v3:∀ g:Gr No w6,g.W.cell? ⟨B,3,none⟩=some (.int .i64 y.r):=fun g=>zB (g.fr.heap y6 id) 3
             have cB:∀ g:Gr No w6,SrcB0 g.W wr.heap.size s:=fun g=>SrcB0.of (g.fr.heap d6 id)
             have e0:=fun g=>(cB g).c0
             have e1:=fun g=>(cB g).c1
             have e2:=fun g=>(cB g).c2
             have e3:=fun g=>(cB g).c3
             have e4:=fun g=>(cB g).c4
             have e5:=fun g=>(cB g).c5
             have e6:=fun g=>(cB g).c6
             have e7:=fun g=>(cB g).c7
             have e8:=fun g=>(cB g).c8
             have e9:=fun g=>(cB g).c9
             have e10:=fun g=>(cB g).c10
             have e11:=fun g=>(cB g).c11
             have e12:=fun g=>(cB g).c12
             have Hf6:=Lib.hid hf6;clear cB y6 d6 hf6
             repeat (first | (apply zT;exact rfl;exact rfl;exact rfl;intro K hK;go_big_quiet_op;go_big_quiet_on) | (apply zW;exact rfl;exact rfl;exact rfl;intro K hK;go_big_quiet_op;go_big_quiet_on))
             clear e0 e1 e2 e3 e4 e5 e6 e7 e8 e9 e10 e11 e12 v2 v3;apply zi;exact rfl
             go_wp2_with fail
             refine OnlyN.mk ⟨Fr.refl _ _,?_⟩
             repeat (first | (apply zT;exact rfl;exact rfl;exact rfl;intro K hK;go_big_quiet_op;go_big_quiet_on) | (apply zW;exact rfl;exact rfl;exact rfl;intro K hK;go_big_quiet_op;go_big_quiet_on))
             refine zb ?_;have HR7:=Lib.hid (HR5.out.no Hf6.out);have HF7:=Lib.hid (HF5.out.step Hf6.out (fun _ _ h=>h.elim))
             go_wp2_with fail
             go_roundw
             case rel=>exact⟨k+1,sa4,sc4,by omega,by go_num,by rw[HS2.out,HNO.out];exact HR7.out,HF7.out⟩
             case measure=>simp[intOf];omega
            ·skip;have HAG2:Hid (againB ds tx M2 r s=(y.c.toList==(tx s.d).toList)):=by unfold Hid;rw[HAG.out,hbk,hrr];rfl
             clear hbk HBK HY HAG;refine zR No [(0,false),(1,false),(2,false),(3,false),(4,false),(5,false),(6,false),(7,false),(8,false),(9,false),(10,false),(11,false),(12,true),(13,false),(14,false)] (by kernel_rfl) (by kernel_rfl) (fun w6 hf6=>?_);have y6:=hf6.heap HB5.out id;have d6:=hf6.heap (HX5.out.heap D1.out id) id;have v2:∀ g:Gr No w6,g.W.cell? ⟨B,2,none⟩=some (.string y.c):=fun g=>zB (g.fr.heap y6 id) 2
             have v3:∀ g:Gr No w6,g.W.cell? ⟨B,3,none⟩=some (.int .i64 y.r):=fun g=>zB (g.fr.heap y6 id) 3
             have cB:∀ g:Gr No w6,SrcB0 g.W wr.heap.size s:=fun g=>SrcB0.of (g.fr.heap d6 id)
             have e0:=fun g=>(cB g).c0
             have e1:=fun g=>(cB g).c1
             have e2:=fun g=>(cB g).c2
             have e3:=fun g=>(cB g).c3
             have e4:=fun g=>(cB g).c4
             have e5:=fun g=>(cB g).c5
             have e6:=fun g=>(cB g).c6
             have e7:=fun g=>(cB g).c7
             have e8:=fun g=>(cB g).c8
             have e9:=fun g=>(cB g).c9
             have e10:=fun g=>(cB g).c10
             have e11:=fun g=>(cB g).c11
             have e12:=fun g=>(cB g).c12
             have Hf6:=Lib.hid hf6;clear cB y6 d6 hf6
             repeat (first | (apply zT;exact rfl;exact rfl;exact rfl;intro K hK;go_big_quiet_op;go_big_quiet_on) | (apply zW;exact rfl;exact rfl;exact rfl;intro K hK;go_big_quiet_op;go_big_quiet_on))
             clear e0 e1 e2 e3 e4 e5 e6 e7 e8 e9 e10 e11 e12 v2 v3;apply zi;exact rfl
             go_wp2_with fail
             refine(HTX.out w6 (HX5.out.step Hf6.out (fun _ _ h=>h))).mono ?_;rintro e w7 ⟨rfl,hf7⟩;have Hf7:=Lib.hid (Hf6.out.step hf7 (fun _ _ h=>h))
             go_wp2_with fail
             refine OnlyN.mk ⟨hf7.mono (fun _ _ h=>h.elim),?_⟩;clear hf7;rcases hcc:(y.c.toList==(tx s.d).toList)with _ | _
             ·skip;have HNO:Hid (S++(moreS ds tx M2 r c.C k++if againB ds tx M2 r s=true then [{ s with r:=r }]else [])=S4):=by
               unfold Hid;rw[HAG2.out,hcc];simp[HS4.out]
              repeat (first | (apply zT;exact rfl;exact rfl;exact rfl;intro K hK;go_big_quiet_op;go_big_quiet_on) | (apply zW;exact rfl;exact rfl;exact rfl;intro K hK;go_big_quiet_op;go_big_quiet_on))
              refine zb ?_;have HR7:=Lib.hid (HR5.out.no Hf7.out);have HF7:=Lib.hid (HF5.out.step Hf7.out (fun _ _ h=>h.elim))
              go_wp2_with fail
              go_roundw
              case rel=>exact⟨k+1,sa4,sc4,by omega,by go_num,by rw[HS2.out,HNO.out];exact HR7.out,HF7.out⟩
              case measure=>simp[intOf];omega
             ·skip;have HNO:Hid (S++(moreS ds tx M2 r c.C k++if againB ds tx M2 r s=true then [{ s with r:=r }]else [])=S4++[{ s with r:=r }]):=by
               unfold Hid;rw[HAG2.out,hcc];simp[HS4.out]
              repeat (first | (apply zT;exact rfl;exact rfl;exact rfl;intro K hK;go_big_quiet_op;go_big_quiet_on) | (apply zW;exact rfl;exact rfl;exact rfl;intro K hK;go_big_quiet_op;go_big_quiet_on))
              refine zb ?_;clear hcc;have d7:=Hf7.out.heap (HX5.out.heap D1.out id) id;have z12:w7.cell? ⟨wr.heap.size,12,none⟩=some (.int .i64 s.r):=(SrcB0.of d7).c12;have y12:=zC d7 12;obtain⟨w8,hw8⟩:∃ w8,w8=w7.setCell ⟨wr.heap.size,12,none⟩ (.int .i64 r):=⟨_,rfl⟩
              have f8:Fr (Is wr.heap.size) w7 w8:=by rw[hw8];exact Fr.setAt (Fr.refl _ _) _
              have dw:w8.heap[wr.heap.size]?=some (.cells (Src.vals { s with r:=r }) 163):=by rw[hw8];exact zF d7 12 _
              have hF8:Fr No wr w8:=(HX1.out.step (HX5.out.step Hf7.out (fun _ _ h=>h)) (fun _ _ h=>h)).step f8 (fun b hb h=>by unfold Is at h;omega);obtain⟨s2,hs2⟩:∃ s2:Src,s2={ s with r:=r }:=⟨_,rfl⟩
              rw[<-hs2]at dw HNO;have HS9:=Lib.hid hs2;clear hs2;have HR8:=Lib.hid (HR0.out.no hF8);have kw:=HR8.out.k;have hownw:=HR8.out.so;have HF8:=Lib.hid (HF0.out.step hF8 (fun _ _ h=>h.elim));have hob:∀ b,(Value.slice sa4 S4.length sc4).ownBlock=some b->b<wr.heap.size:=fun b h=>zU HR0.out.so h
              have hwl:wr.heap.size<w8.heap.size:=zE dw;have hxw:c.xb<wr.heap.size:=zE HR0.out.k;have hb2l:c.b2<=w8.heap.size:=by have:=HB2.out;omega
              clear d7 f8 hF8;obtain⟨i0,hi0,hz0,hz1,hz2⟩:=info_parts infoSr
              go_upto_region 26 with(fail)
              rw[<-hw8];clear hw8 z12 y12;refine zY (fun b=>b=c.xb\/(Value.slice sa4 S4.length sc4).ownBlock=some b\/w8.heap.size<=b) (.q 0 (.q 1 (.q 2 (.q 3 (.q 5 (.m2 4 (.m1 6 (.m1 7 (.q 8 (.q 9 (.m1 10 .fin))))) 6 (.m1 4 (.m1 7 (.q 8 (.q 9 (.m1 10 .fin))))))))))) _ (by kernel_rfl) (by kernel_rfl) (fun W3 hf3=>?_) (fun _ _ h=>h);have hk3:=hf3.heap kw id;have hown3:=zJ hownw hf3 (fun _ _=>id);have hnk3:=zf hown3 hk3 (by decide);have d3:=hf3.heap dw id;have s3:=hf3.size;have cB:∀ g:Gr (fun b=>b=c.xb\/(Value.slice sa4 S4.length sc4).ownBlock=some b\/w8.heap.size<=b) W3,SrcB0 g.W wr.heap.size s2:=fun g=>SrcB0.of (g.fr.heap d3 (fun h=>by
               rcases h with h | h | h
               ·omega
               ·have:=hob _ h;omega
               ·omega))
              have e0:=fun g=>(cB g).c0
              have e1:=fun g=>(cB g).c1
              have e2:=fun g=>(cB g).c2
              have e3:=fun g=>(cB g).c3
              have e4:=fun g=>(cB g).c4
              have e5:=fun g=>(cB g).c5
              have e6:=fun g=>(cB g).c6
              have e7:=fun g=>(cB g).c7
              have e8:=fun g=>(cB g).c8
              have e9:=fun g=>(cB g).c9
              have e10:=fun g=>(cB g).c10
              have e11:=fun g=>(cB g).c11
              have e12:=fun g=>(cB g).c12
              have HF3:=Lib.hid hf3;clear cB d3
              repeat (first | (apply zM;exact rfl;exact rfl;exact rfl;intro K hK;go_big_quiet_op;go_big_quiet_on) | (apply zO;exact rfl;exact rfl;exact rfl;intro K hK;go_big_quiet_op;go_big_quiet_on))
              clear e0 e1 e2 e3 e4 e5 e6 e7 e8 e9 e10 e11 e12;have c3:W3.cell? ⟨c.xb,5,none⟩=some (.slice sa4 S4.length sc4):=zB hk3 5;refine zh rfl rfl ?_ ?_
              focus
               go_wp2_with fail
               refine OnlyN.mk ⟨Fr.refl _ _,?_⟩;apply zH;exact rfl
               go_wp2_with fail
               refine OnlyN.mk ⟨((Fr.refl No _).alloc _).mono (fun _ _ h=>h.elim),?_⟩;clear c3
              rotate_left 1
              focus
               go_wp2_with fail
               refine OnlyN.mk ⟨((Fr.refl No _).alloc _).mono (fun _ _ h=>h.elim),?_⟩;apply zH;exact rfl;have c7:∀ o,(W3.alloc o).cell? ⟨c.xb,5,none⟩=some (.slice sa4 S4.length sc4):=fun o=>((Fr.refl No W3).alloc o).cell c3 id
               clear c3
               go_wp2_with fail
               refine OnlyN.mk ⟨Fr.refl _ _,?_⟩;clear c7
              all_goals (
               apply zH;exact rfl
               go_wp2_with (at_builtin;refine wpList_append_own_at _ rfl _ _ 119 rfl c.b2 163 i0 (.agg #[.int .i64 0,.int .i64 0,.int .i64 0,.string ByteArray.empty,.string ByteArray.empty,.string ByteArray.empty,.string ByteArray.empty,.string ByteArray.empty,.int .i64 0,.int .i64 0,.slice none 0 0,.string ByteArray.empty,.int .i64 0]) 13 168 Tryz.underlying119 hi0 hz0 hz1 hz2 rfl (by decide) _ _ _ rfl (hown3.alloc _) ⟨W3.heap.size,0,none⟩ 1 1 (Src.vals s2).toList rfl rfl (zX _ (Src.vals s2) _ rfl) (zBj _) (by unfold maxLen;omega) (by omega) (by first | omega | (simp;done) | (simp;omega)) ?_;intro v' w4 hown4 hgrow4 _ hat4;obtain⟨av',cv',rfl⟩:=zG hown4)
               have hal:Fr No W3 (W3.alloc (.cells (Src.vals s2) 163)):=(Fr.refl _ _).alloc _;have hg4:Fr (fun b=>(Value.slice sa4 S4.length sc4).ownBlock=some b) (W3.alloc (.cells (Src.vals s2) 163)) w4:=Fr.of_grown hgrow4;have k4:=hg4.heap (hal.heap hk3 id) (fun e=>hnk3 e);have c3:w4.cell? ⟨c.xb,5,none⟩=some (.slice sa4 S4.length sc4):=zB k4 5;have f3:w4.frozen? ⟨c.xb,5,none⟩=false:=zC k4 5;have hnk4:=zf hown4 k4 (by decide);refine OnlyN.mk ⟨hg4.mono (fun b _ h=>.inr (.inl h)),?_⟩
               repeat (first | (apply zM;exact rfl;exact rfl;exact rfl;intro K hK;go_big_quiet_op;go_big_quiet_on) | (apply zO;exact rfl;exact rfl;exact rfl;intro K hK;go_big_quiet_op;go_big_quiet_on))
               apply zH;exact rfl;have f5:Fr (Is (c.xb)) w4 (w4.setCell ⟨c.xb,5,none⟩ (.slice av' (S4.length+1) cv')):=Fr.setAt (Fr.refl _ _) _;have k5:((w4.setCell ⟨c.xb,5,none⟩ (.slice av' (S4.length+1) cv'))).heap[c.xb]?=some (.cells (rcs c.ka c.kn c.kc c.wt c.a c.n c.cap c.ca c.C.length c.cc c.ea c.en c.ec av' (S4.length+1) cv' c.wm c.sm ma2 M2.length mc2) 123):=zF k4 5 _;have hown5:=zJ hown4 f5 (fun b hb h=>by unfold Is at h;subst h;exact hnk4 hb);have hff:Fr (fun b=>b=c.xb\/(Value.slice sa4 S4.length sc4).ownBlock=some b) W3 (w4.setCell ⟨c.xb,5,none⟩ (.slice av' (S4.length+1) cv')):=((hal.mono (fun _ _ h=>h.elim)).step hg4 (fun b _ h=>.inr h)).step f5 (fun b _ h=>.inl h);have HR:=Lib.hid (And.intro k5 (And.intro hown5 hff));have HAT:=Lib.hid hat4;clear hown4 hgrow4 hg4 k4 f5 k5 hown5 hff hnk4 hal hat4
               go_wp2_with fail
               refine OnlyN.mk ⟨Fr.setCell (Fr.refl _ _) (fun _=>.inl rfl) _,?_⟩;refine zS ?_;clear hown3 hk3 hnk3;have HG:=Lib.hid ((HR8.out.no HF3.out).growS HR.out.2.2 HR.out.1 HR.out.2.1);have HW3:Hid (Fr (From w0.heap.size) w0 W3):=HF8.out.step HF3.out (fun _ _ h=>h.elim);have HGF:=Lib.hid HR.out.2.2;have HNF:Hid (S4++[s2]=S++moreS ds tx M2 r c.C (k+1)):=by unfold Hid;rw[HS2.out,<-HNO.out,HS9.out]
               go_wp2_with fail
               go_roundw
               case rel=>exact⟨k+1,av',cv',by omega,by go_num,HNF.out▸HG.out,HW3.out.step HGF.out (fun b _ h=>by
                unfold From;have h0:=HR0.out.lo;have hb0:=HB.out.sz;rcases h with h | h
                ·omega
                ·have:=zN HR0.out.so h;unfold From at this;omega)⟩
               case measure=>simp[intOf];omega
               )
           )
         ·obtain rfl:k=c.C.length:=by omega
          have hlt':¬ (c.C.length:Int)<c.C.length:=by omega
          have k5:wr.cell? ⟨c.xb,5,none⟩=some (.slice sa4 S4.length sc4):=zB hR.k 5;have hso:=zHB sa4 sc4 c.b2 S4 wr hR.so (by omega);have HR0:=Lib.hid hR;have HF0:=Lib.hid hf;clear hR hf
          go_wp2_with fail
          refine hso.mono ?_;rintro e w9 ⟨rfl,⟨S',hp',hs',hown'⟩,hf9⟩;have HR9:=Lib.hid (HR0.out.perm hf9 hp'.length_eq hown');have HF9:=Lib.hid (HF0.out.step hf9 (fun b _ h=>by
           unfold From;have h0:=HR0.out.lo;have hb0:=HB.out.sz;have:=zN HR0.out.so h;unfold From at this;omega))
          have HN9:Hid (NextR ds tx E K c.C r S M G S' M2 G4):=⟨HNY.out,by rw[<-HS4.out];exact hp',hs'⟩
          have k8:w9.cell? ⟨c.xb,8,none⟩=some (.slice ma2 M2.length mc2):=zB HR9.out.k 8;clear hso hp' hs' hown' hf9 k5
          go_wp2_with fail
          go_ret;exact⟨⟨S',M2,G4,sa4,sc4,ma2,mc2,by simp,HR9.out,HN9.out⟩,HF9.out⟩
      )
end Go.Proofs.YtmajgldaplkpiaaGreatDoor
