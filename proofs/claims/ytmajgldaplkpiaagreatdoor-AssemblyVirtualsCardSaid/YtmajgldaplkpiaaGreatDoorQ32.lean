import Derived.Test.YtmajgldaplkpiaaGreatDoorQ31
namespace Go.Proofs.YtmajgldaplkpiaaGreatDoor
open Go.RowKit Go.Maps Go.Sort Go.Shelf
set_option linter.unusedVariables false
set_option maxRecDepth 100000
set_option maxHeartbeats 16000000
theorem zFt (F:Nat)(good:Mem->Bool)(eg:∀ args w,(callFunc F args).run Tryz.prog w=.ok (.enter F args) w)
  (hgood:∀ (p i:ByteArray) (r s t e:Int) (a:Option Addr) (l:List ByteArray) (c:Nat) (w:World),Calls Tryz.prog F #[.agg #[.string p,.string i,.int .i64 r,.int .i64 s,.int .i64 t,.int .i64 e,.slice a l.length c]] w fun en w'=>en=.returned (.bool (good ⟨p,i,r,s,t,e,a,l,c⟩))/\Fr No w w') (hsd:∀ m,good m=true->soundB m=true)
  (a:Option Addr) (cap:Nat) (L:List Mem) (m0:Int) (w:World) (hl:Mems w a cap L) (hb:MemSmall2 L) (hm0:w.cell? ⟨0,0,none⟩=some (.int .i64 m0)) (hw0:0<w.heap.size):
  Calls Tryz.prog 211 #[.slice a L.length cap,.func (.func F) #[] #[]] w fun e w'=>ArrRes w (zk good L) e w'/\Fr No w w':=by
 obtain⟨i0,hi0,hz0,hz1,hz2⟩:=info_parts infoAr;have hlm:=hb.len;have hmm:=@run_makeMap Tryz.prog;have hx:Fr No w (w.alloc (.map #[] 0)):=(Fr.refl _ _).alloc _;have hI0:=PMap.made w;have hs0:w.heap.size<(w.alloc (.map #[] 0)).heap.size:=by simp
 have hlk:∀ W:World,Fr (From w.heap.size) w W->Mems W a cap L:=fun W hf=>hl.keep hf (fun b hb h=>by unfold From at h;omega)
 have Hlk:=Lib.hid hlk;have Hb:=Lib.hid hb;clear hlk hb hl
 go_enter Tryz.func211,Tryz.ntmps211
 go_wp2_with fail
 generalize w.alloc (.map #[] 0)=W0 at *
 go_loopw [23] (fun i wr=>∃ k:Nat,k<=L.length/\i=.int .i64 (k:Int)/\PMap wr w.heap.size (mapP (zk good (L.take k))) k/\Fr (From w.heap.size) w wr/\w.heap.size<wr.heap.size) (fun i _=>L.length-(intOf i).toNat)
 case atStart=>exact⟨0,by omega,rfl,by exact hI0,hx.mono (fun _ _ h=>h.elim),hs0⟩
 case round=>
  obtain⟨k,hk,rfl,hI,hfr,hsr⟩:=hrel;by_cases hlt:k<L.length
  ·have hlt':(k:Int)<L.length:=by omega
   obtain⟨b,off,m,rfl,hxk,hst,hat,hbl⟩:=(Hlk.out _ hfr).elem hlt;have hmem:=List.mem_of_getElem? hxk;have Htk:Hid (L.take (k+1)=L.take k++[m]):=by unfold Hid;rw[List.take_add_one,hxk];rfl
   have hpm:=Hb.out.p m hmem;have him:m.i.size<=maxLen:=by have:=Hb.out.i m hmem;unfold maxLen;omega
   have hsm:=Hb.out.s m hmem;have hm1:wr.cell? ⟨0,0,none⟩=some (.int .i64 m0):=hfr.cell hm0 (by show ¬ From w.heap.size 0;unfold From;omega);obtain⟨mp,mi,mr,ms,mt,me,ma,ml,mc⟩:=m;obtain⟨c0,c1,c2,c3,c4,c5,c6⟩:=hat;simp only at c0 c1 c2 c3 c4 c5 c6 hpm him hsm;clear hxk hst hmem hmm;have hx1:Fr No wr ((wr.alloc (.cells #[.string mp,.string mi,.int .i64 mr,.int .i64 ms,.int .i64 mt,.int .i64 me,.slice ma ml.length mc] 264)).alloc (.cells #[.string mi,.int .i64 ms] 311)):=((Fr.refl _ _).alloc _).alloc _;have hIx:=hI.fr hx1 id;clear hI;rcases hg:zk good (L.take k) (mi,ms)with _ | o
   ·have hv:(mapP (zk good (L.take k)) (mi,ms)).getD zBL=.agg #[.string ⟨#[]⟩,.string ⟨#[]⟩,.int .i64 0,.int .i64 0,.int .i64 0,.int .i64 0,.slice none 0 0]:=by unfold mapP;rw[hg];rfl
    have hbo:(mapP (zk good (L.take k)) (mi,ms)).isSome=false:=by unfold mapP;rw[hg];rfl
    have Hg:Hid (∀ o,zk good (L.take k) (mi,ms)=some o->ahead ⟨mp,mi,mr,ms,mt,me,ma,ml,mc⟩ o=true):=fun o ho=>by rw[hg]at ho;cases ho
    clear hg
    go_upto_region 7 with(at_lookup;refine zDR rfl _ _ 309 264 zBL (zFR _) rfl Tryz.underlying309 w.heap.size _ k mi ms him hsm rfl hIx rfl (.agg #[.string ⟨#[]⟩,.string ⟨#[]⟩,.int .i64 0,.int .i64 0,.int .i64 0,.int .i64 0,.slice none 0 0]) hv false hbo ?_)
    have hx2:Fr No wr (((wr.alloc (.cells #[.string mp,.string mi,.int .i64 mr,.int .i64 ms,.int .i64 mt,.int .i64 me,.slice ma ml.length mc] 264)).alloc (.cells #[.string mi,.int .i64 ms] 311)).alloc (.cells #[.string ⟨#[]⟩,.string ⟨#[]⟩,.int .i64 0,.int .i64 0,.int .i64 0,.int .i64 0,.slice none 0 0] 264)):=hx1.alloc _;have qm:=zB2 wr (.cells #[.string mp,.string mi,.int .i64 mr,.int .i64 ms,.int .i64 mt,.int .i64 me,.slice ma ml.length mc] 264) (.cells #[.string mi,.int .i64 ms] 311) (.cells #[.string ⟨#[]⟩,.string ⟨#[]⟩,.int .i64 0,.int .i64 0,.int .i64 0,.int .i64 0,.slice none 0 0] 264);have qp:=zB1 wr (.cells #[.string mp,.string mi,.int .i64 mr,.int .i64 ms,.int .i64 mt,.int .i64 me,.slice ma ml.length mc] 264) (.cells #[.string mi,.int .i64 ms] 311) (.cells #[.string ⟨#[]⟩,.string ⟨#[]⟩,.int .i64 0,.int .i64 0,.int .i64 0,.int .i64 0,.slice none 0 0] 264);have qo:=zB0 wr (.cells #[.string mp,.string mi,.int .i64 mr,.int .i64 ms,.int .i64 mt,.int .i64 me,.slice ma ml.length mc] 264) (.cells #[.string mi,.int .i64 ms] 311) (.cells #[.string ⟨#[]⟩,.string ⟨#[]⟩,.int .i64 0,.int .i64 0,.int .i64 0,.int .i64 0,.slice none 0 0] 264);have hI2:=hIx.fr ((Fr.refl No _).alloc (.cells #[.string ⟨#[]⟩,.string ⟨#[]⟩,.int .i64 0,.int .i64 0,.int .i64 0,.int .i64 0,.slice none 0 0] 264)) id;clear hIx hv hbo c0 c1 c2 c3 c4 c5 c6 hx1;generalize ((wr.alloc (.cells #[.string mp,.string mi,.int .i64 mr,.int .i64 ms,.int .i64 mt,.int .i64 me,.slice ma ml.length mc] 264)).alloc (.cells #[.string mi,.int .i64 ms] 311)).alloc (.cells #[.string ⟨#[]⟩,.string ⟨#[]⟩,.int .i64 0,.int .i64 0,.int .i64 0,.int .i64 0,.slice none 0 0] 264)=W2 at *;obtain⟨y0,y1,y2,y3,y4,y5,y6⟩:=cl7 qm;have hm2:=hx2.cell hm1 id;have Hf2:=Lib.hid (hfr.step hx2 (fun _ _ h=>h.elim));have hs2:=hx2.size;clear hx2 hfr hm1;obtain⟨gd,hgd⟩:∃ gd,gd=good ⟨mp,mi,mr,ms,mt,me,ma,ml,mc⟩:=⟨_,rfl⟩
    have Hgd:Hid (good ⟨mp,mi,mr,ms,mt,me,ma,ml,mc⟩=gd):=hgd.symm;have hgg:=hgood mp mi mr ms mt me ma ml mc W2;rw[<-hgd]at hgg;clear hgd;rcases gd with _ | _
    ·go_wp2_with
      (go_at_fn F
       refine hgg.mono ?_;rintro en w3 ⟨rfl,hf3⟩;have qm3:=hf3.heap qm id;have qp3:=hf3.heap qp id;have qo3:=hf3.heap qo id;have hI3:=hI2.fr hf3 id;have hm3:=hf3.cell hm2 id;have Hf3:=Lib.hid (Hf2.out.step hf3 (fun _ _ h=>h.elim));have hs3:=hf3.size;clear y0 y1 y2 y3 y4 y5 y6 hf3 qm qp qo hm2 hI2 hgg)
     have hI5:PMap w3 w.heap.size (mapP (zk good (L.take (k+1)))) k:=by rw[Htk.out,zAW,zDC Hgd.out];exact hI3
     have H:=Lib.hid (And.intro hI5 Hf3.out);clear hI5 hI3
     go_roundw
     case rel=>exact⟨k+1,by omega,by go_num,H.out.1.mono (by omega),H.out.2,by omega⟩
     case measure=>simp[intOf];omega
    ·go_wp2_with (first
      | (go_at_fn F
         refine hgg.mono ?_;rintro en w3 ⟨rfl,hf3⟩;have qm3:=hf3.heap qm id;have qp3:=hf3.heap qp id;have qo3:=hf3.heap qo id;have hI3:=hI2.fr hf3 id;have hm3:=hf3.cell hm2 id;have Hf3:=Lib.hid (Hf2.out.step hf3 (fun _ _ h=>h.elim));have hs3:=hf3.size;clear y0 y1 y2 y3 y4 y5 y6 hf3 qm qp qo hm2 hI2 hgg;obtain⟨y0,y1,y2,y3,y4,y5,y6⟩:=cl7 qm3;have z0:w3.cell? ⟨wr.heap.size+1,0,none⟩=some (.string mi):=zB qp3 0;have z1:w3.cell? ⟨wr.heap.size+1,1,none⟩=some (.int .i64 ms):=zB qp3 1)
      | (at_mapUpdate;refine zCa rfl _ _ _ 309 264 rfl Tryz.underlying309 w.heap.size _ k (by unfold maxLen;omega) mi ms him hsm (.agg #[.string mp,.string mi,.int .i64 mr,.int .i64 ms,.int .i64 mt,.int .i64 me,.slice ma ml.length mc]) rfl hI3 rfl rfl ?_;intro w6 hI6 hg6))
     have hI7:PMap w6 w.heap.size (mapP (zk good (L.take (k+1)))) (k+1):=by rw[Htk.out,zAW,zBd Hgd.out Hg.out,<-zFk];exact hI6
     have H:=Lib.hid (And.intro hI7 (And.intro (Hf3.out.step hg6 (fun b hb e=>by unfold Is at e;unfold From;omega)) hg6.size));clear hI6 hI7 hg6
     go_roundw
     case rel=>exact⟨k+1,by omega,by go_num,H.out.1,H.out.2.1,by have:=H.out.2.2;omega⟩
     case measure=>simp[intOf];omega
   ·obtain⟨op,oi,or,os,ot,oe,oa,ol,oc⟩:=o;have hv:(mapP (zk good (L.take k)) (mi,ms)).getD zBL=.agg #[.string op,.string oi,.int .i64 or,.int .i64 os,.int .i64 ot,.int .i64 oe,.slice oa ol.length oc]:=by unfold mapP;rw[hg];rfl
    have hbo:(mapP (zk good (L.take k)) (mi,ms)).isSome=true:=by unfold mapP;rw[hg];rfl
    have hop:=Hb.out.p _ (List.mem_of_mem_take (zB4 _ _ _ hg).1);simp only at hop;have Hg:=Lib.hid hg;clear hg
    go_upto_region 7 with(at_lookup;refine zDR rfl _ _ 309 264 zBL (zFR _) rfl Tryz.underlying309 w.heap.size _ k mi ms him hsm rfl hIx rfl (.agg #[.string op,.string oi,.int .i64 or,.int .i64 os,.int .i64 ot,.int .i64 oe,.slice oa ol.length oc]) hv true hbo ?_)
    have hx2:Fr No wr (((wr.alloc (.cells #[.string mp,.string mi,.int .i64 mr,.int .i64 ms,.int .i64 mt,.int .i64 me,.slice ma ml.length mc] 264)).alloc (.cells #[.string mi,.int .i64 ms] 311)).alloc (.cells #[.string op,.string oi,.int .i64 or,.int .i64 os,.int .i64 ot,.int .i64 oe,.slice oa ol.length oc] 264)):=hx1.alloc _;have qm:=zB2 wr (.cells #[.string mp,.string mi,.int .i64 mr,.int .i64 ms,.int .i64 mt,.int .i64 me,.slice ma ml.length mc] 264) (.cells #[.string mi,.int .i64 ms] 311) (.cells #[.string op,.string oi,.int .i64 or,.int .i64 os,.int .i64 ot,.int .i64 oe,.slice oa ol.length oc] 264);have qp:=zB1 wr (.cells #[.string mp,.string mi,.int .i64 mr,.int .i64 ms,.int .i64 mt,.int .i64 me,.slice ma ml.length mc] 264) (.cells #[.string mi,.int .i64 ms] 311) (.cells #[.string op,.string oi,.int .i64 or,.int .i64 os,.int .i64 ot,.int .i64 oe,.slice oa ol.length oc] 264);have qo:=zB0 wr (.cells #[.string mp,.string mi,.int .i64 mr,.int .i64 ms,.int .i64 mt,.int .i64 me,.slice ma ml.length mc] 264) (.cells #[.string mi,.int .i64 ms] 311) (.cells #[.string op,.string oi,.int .i64 or,.int .i64 os,.int .i64 ot,.int .i64 oe,.slice oa ol.length oc] 264);have hI2:=hIx.fr ((Fr.refl No _).alloc (.cells #[.string op,.string oi,.int .i64 or,.int .i64 os,.int .i64 ot,.int .i64 oe,.slice oa ol.length oc] 264)) id;clear hIx hv hbo c0 c1 c2 c3 c4 c5 c6 hx1;generalize ((wr.alloc (.cells #[.string mp,.string mi,.int .i64 mr,.int .i64 ms,.int .i64 mt,.int .i64 me,.slice ma ml.length mc] 264)).alloc (.cells #[.string mi,.int .i64 ms] 311)).alloc (.cells #[.string op,.string oi,.int .i64 or,.int .i64 os,.int .i64 ot,.int .i64 oe,.slice oa ol.length oc] 264)=W2 at *;obtain⟨y0,y1,y2,y3,y4,y5,y6⟩:=cl7 qm;have hm2:=hx2.cell hm1 id;have Hf2:=Lib.hid (hfr.step hx2 (fun _ _ h=>h.elim));have hs2:=hx2.size;clear hx2 hfr hm1;obtain⟨gd,hgd⟩:∃ gd,gd=good ⟨mp,mi,mr,ms,mt,me,ma,ml,mc⟩:=⟨_,rfl⟩
    have Hgd:Hid (good ⟨mp,mi,mr,ms,mt,me,ma,ml,mc⟩=gd):=hgd.symm;have hgg:=hgood mp mi mr ms mt me ma ml mc W2;rw[<-hgd]at hgg;clear hgd;rcases gd with _ | _
    ·go_wp2_with
      (go_at_fn F
       refine hgg.mono ?_;rintro en w3 ⟨rfl,hf3⟩;have qm3:=hf3.heap qm id;have qp3:=hf3.heap qp id;have qo3:=hf3.heap qo id;have hI3:=hI2.fr hf3 id;have hm3:=hf3.cell hm2 id;have Hf3:=Lib.hid (Hf2.out.step hf3 (fun _ _ h=>h.elim));have hs3:=hf3.size;clear y0 y1 y2 y3 y4 y5 y6 hf3 qm qp qo hm2 hI2 hgg)
     have hI5:PMap w3 w.heap.size (mapP (zk good (L.take (k+1)))) k:=by rw[Htk.out,zAW,zDC Hgd.out];exact hI3
     have H:=Lib.hid (And.intro hI5 Hf3.out);clear hI5 hI3
     go_roundw
     case rel=>exact⟨k+1,by omega,by go_num,H.out.1.mono (by omega),H.out.2,by omega⟩
     case measure=>simp[intOf];omega
    ·go_wp2_with
      (go_at_fn F
       refine hgg.mono ?_;rintro en w3 ⟨rfl,hf3⟩;have qm3:=hf3.heap qm id;have qp3:=hf3.heap qp id;have qo3:=hf3.heap qo id;have hI3:=hI2.fr hf3 id;have hm3:=hf3.cell hm2 id;have Hf3:=Lib.hid (Hf2.out.step hf3 (fun _ _ h=>h.elim));have hs3:=hf3.size;clear y0 y1 y2 y3 y4 y5 y6 hf3 qm qp qo hm2 hI2 hgg;obtain⟨y0,y1,y2,y3,y4,y5,y6⟩:=cl7 qm3;obtain⟨z0,z1,z2,z3,z4,z5⟩:=cl6 qo3;have z6:w3.cell? ⟨wr.heap.size+1+1,6,none⟩=some (.slice oa ol.length oc):=zB qo3 6)
     refine(zFm mp mi op oi mr ms mt me or os ot oe _ _ m0 _ hpm hop hm3).mono ?_;rintro en w5 ⟨rfl,hf5⟩;have qm5:=hf5.heap qm3 id;have qp5:=hf5.heap qp3 id;have hI5:=hI3.fr hf5 id;have Hf5:=Lib.hid (Hf3.out.step hf5 (fun _ _ h=>h.elim));have hs5:=hf5.size;clear y0 y1 y2 y3 y4 y5 y6 z0 z1 z2 z3 z4 z5 z6 hf5 qm3 qp3 qo3 hm3 hI3;rcases ha:aheadB mp mr op or with _ | _
     ·clear qm5 qp5;have hI8:PMap w5 w.heap.size (mapP (zk good (L.take (k+1)))) k:=by rw[Htk.out,zAW,zFL (m:=⟨mp,mi,mr,ms,mt,me,ma,ml,mc⟩) (o:=⟨op,oi,or,os,ot,oe,oa,ol,oc⟩) Hg.out ha];exact hI5
      have H:=Lib.hid (And.intro hI8 Hf5.out);clear hI8 hI5
      go_wp2_with fail
      go_roundw
      case rel=>exact⟨k+1,by omega,by go_num,H.out.1.mono (by omega),H.out.2,by omega⟩
      case measure=>simp[intOf];omega
     ·have Hah:Hid (∀ o,zk good (L.take k) (mi,ms)=some o->ahead ⟨mp,mi,mr,ms,mt,me,ma,ml,mc⟩ o=true):=fun o ho=>by rw[Hg.out]at ho;cases ho;exact ha
      clear ha;obtain⟨y0,y1,y2,y3,y4,y5,y6⟩:=cl7 qm5;obtain⟨z0,z1⟩:=cl2 qp5
      go_wp2_with (at_mapUpdate;refine zCa rfl _ _ _ 309 264 rfl Tryz.underlying309 w.heap.size _ k (by unfold maxLen;omega) mi ms him hsm (.agg #[.string mp,.string mi,.int .i64 mr,.int .i64 ms,.int .i64 mt,.int .i64 me,.slice ma ml.length mc]) rfl hI5 rfl rfl ?_;intro w6 hI6 hg6)
      have hI7:PMap w6 w.heap.size (mapP (zk good (L.take (k+1)))) (k+1):=by rw[Htk.out,zAW,zBd Hgd.out Hah.out,<-zFk];exact hI6
      have H:=Lib.hid (And.intro hI7 (And.intro (Hf5.out.step hg6 (fun b hb e=>by unfold Is at e;unfold From;omega)) hg6.size));clear hI6 hI7 hg6
      go_roundw
      case rel=>exact⟨k+1,by omega,by go_num,H.out.1,H.out.2.1,by have:=H.out.2.2;omega⟩
      case measure=>simp[intOf];omega
  ·obtain rfl:k=L.length:=by omega
   rw[List.take_length]at hI;obtain⟨D,n,hn,ho,hh⟩:=hI;have Hh:=Lib.hid hh;have hsz:=ho.size_le;have Hb2:Hid (∀ x s m,zk good L (x,s)=some m->(m∈L/\good m=true/\m.i=x/\m.s=s)/\x.size<=maxLen/\(Lit.int .i64 s).wf=true):=fun x s m hm=>by
    obtain⟨h1,h2,h3⟩:=zB4 L (x,s) m hm;simp only[Prod.mk.injEq]at h3;obtain⟨rfl,rfl⟩:=h3;exact⟨⟨h1,h2,rfl,rfl⟩,by have:=Hb.out.i m h1;unfold maxLen;omega,Hb.out.s m h1⟩
   obtain⟨j0,hj0,hy0,hy1,hy2⟩:=info_parts zKy;have qg:=zD wr (.map #[] 0);have hox:Fr No wr (wr.alloc (.map #[] 0)):=(Fr.refl _ _).alloc _;have ho1:=hox.ownsMap ho id;have hW1:(wr.alloc (.map #[] 0)).heap.size=wr.heap.size+1:=by simp
   have hfr1:=hfr.step hox (fun _ _ h=>h.elim);clear hh ho hfr hm0
   go_upto_region 11 with(fail)
   generalize wr.alloc (.map #[] 0)=W1 at *;generalize wr.heap.size=gm at *;have hG1:GMap W1 (W1.heap.size+1) gm (fun _=>[]) 0:=GMap.made qg (by omega);have Hmw:Hid (w.heap.size<gm):=hsr;have HW1:=Lib.hid hW1;clear hox hW1 qg hsr
   go_wp2_with (at_range;refine wpList_range_own _ rfl _ 309 rfl 311 264 lawP Tryz.underlying309 heldV w.heap.size n D rfl ho1 ?_;intro w2 hrg2 hg2 hs2)
   have hG2:=hG1.grown hg2 (by simp) (fun j e=>by cases e);have hf2:=hfr1.step (Fr.of_grown_none hg2) (fun _ _ h=>h.elim);clear hfr1 hG1 hg2 ho1
   go_frame
   go_loopw [57] (fun v wr2=>∃ (left:Lit->Bool) (cnt N:Nat) (f:List UInt8->List Int),wr2.ranges Tryz.prog 311 heldV w.heap.size W1.heap.size n D left cnt/\N+cnt<=Maps.size D/\GMap wr2 (W1.heap.size+1) gm f N/\Hid (Grp D left f)/\Hid (Fr (From w.heap.size) w wr2)/\W1.heap.size+1<=wr2.heap.size)
    (fun _ wr2=>wr2.rangeLeft w.heap.size W1.heap.size)
   case atStart=>exact⟨_,_,0,_,hrg2,by omega,hG2,Grp.start D,hf2,by omega⟩
   case round=>
    obtain⟨left,cnt,N,f,hrg,hcN,hG,HG,Hf,hs3⟩:=hrel;clear hG2 hrg2 hf2 hs2
    go_wp2_with (at_next;refine wpList_next_ranges _ rfl _ rfl 311 lawP heldV (fun x:ByteArray×Int=>.agg #[.string x.1,.int .i64 x.2]) (fun v:Value=>v) (fun key kl h=>by obtain⟨s,n,rfl,_⟩:=zFp h;exact⟨(s,n),rfl⟩) (fun v y h=>⟨v,rfl⟩) w.heap.size W1.heap.size n D _ _ rfl hrg ?_ ?_)
    ·intro hc0 hl0;have hIP:PMap wr w.heap.size (mapP (zk good L)) n:=⟨D,n,Nat.le_refl _,hrg.owns,Hh.out⟩
     have Hsl:Hid (∀ x,IsSlots (zk good L) x (f (kb x))):=HG.out.slots hl0 (fun x h1 h2=>(Hh.out x h1 h2).1) (fun x s m h=>(Hb2.out x s m h).2);have hN:N<=1000:=by omega
     clear hrg HG hl0 hc0 Hh
     go_wp2_with fail
     refine(zGN gm _ f N _ hG (by omega)).mono ?_;rintro en w4 ⟨⟨ia,ic,ids,rfl,hS4,hasc,hmem,hidl,hif⟩,hf4⟩;have Hids:Hid (IsIds2 (zk good L) ids):=IsIds2.of_slots hasc hmem Hsl.out;have Hmem:=Lib.hid hmem;have hG4:=hG.grown (hf4.grown (row:=none) (fun _ h=>h.elim)) (by simp) (fun j e=>by cases e);have hI4:=hIP.fr hf4 id;have Hf4:Hid (Fr (From w.heap.size) w w4):=Hf.out.step hf4 (fun _ _ h=>h.elim);have hs4:=hf4.size;have Hlid:Hid (ids.length<=N):=hidl;have Hw4:Hid (w.heap.size<=w4.heap.size):=by have:=Hmw.out;have:=HW1.out;unfold Hid;omega
     clear hasc hmem hG hIP hf4 Hf hidl hif hs3;obtain⟨s0,hs0,hsz0,hsz1,hsz2⟩:=info_parts infoS
     go_wp2_with fail
     go_loopw [13,75] (fun u i wr3=>∃ (j:Nat) (O:List ArrM) (av:Option Addr) (cv:Nat),j<=ids.length/\O.length=j/\u=.slice av O.length cv/\i=.int .i64 (j:Int)/\wr3.ownsRow w4.heap.size 206 6 (.slice av O.length cv) O.length (arflat O)/\AFresh wr3 w4.heap.size O/\Hid (O.map ArrM.toArr=(ids.take j).map (buildA (zk good L)))/\Fr (From w4.heap.size) w4 wr3) (fun _ i _=>ids.length-(intOf i).toNat)
     case atStart=>exact⟨0,[],none,0,by omega,rfl,rfl,rfl,World.ownsRow_nil _ _ _ _,fun _ h=>by simp at h,by unfold Hid;simp,Fr.refl _ _⟩
     case round=>
      obtain⟨j,O,av,cv,hj,hOl,rfl,rfl,hown,hAF,HO,hf⟩:=hrel;have hidb:ids.length<=1000:=by have:=Hlid.out;omega
      have hOle:O.length<=1000:=by have:=Hlid.out;omega
      have HOl:=Lib.hid hOl;clear hOl;by_cases hlt:j<ids.length
      ·have hlt':(j:Int)<ids.length:=by omega
       obtain⟨b,off,x,rfl,hxj,hc⟩:=(hS4.fr hf (fun ad e hne=>by have:=(hS4.cell ad e hne).2.1;unfold From;omega)).at hlt;have Htj:Hid (ids.take (j+1)=ids.take j++[x]):=by unfold Hid;rw[List.take_add_one,hxj];rfl
       have hxi:=List.mem_of_getElem? hxj;have Hne:=Lib.hid ((Hmem.out x).1 hxi);obtain⟨s9,hs9⟩:=(Hids.out.mem x).1 hxi;obtain⟨m9,hm9⟩:=Option.isSome_iff_exists.1 hs9;have hxs:x.size<=maxLen:=(Hb2.out x s9 m9 hm9).2.1;clear hxj hxi hs9 hm9;have hgr:=Fr.grownF hf;have hGr:=hG4.grown hgr (by simp) (fun j e=>by cases e);have hIr:=hI4.fr hf (by unfold From;have:=hI4.lt;omega);obtain⟨v,hrun,hoi,hlen,_⟩:=hGr.look (by unfold maxLen;omega) hxs;obtain⟨za,zc,rfl,hZ,hzf⟩:=Ints.of_own hoi.1 hoi.2;obtain⟨zs,hzs⟩:∃ zs,zs=f (kb x):=⟨_,rfl⟩
       rw[<-hzs]at hrun hoi hlen hZ Hne;have Hzs:Hid (IsSlots (zk good L) x zs):=by rw[hzs];exact Hsl.out x
       have hzl1:1<=zs.length:=by have:=Hne.out;rcases zs with _ | ⟨_,_⟩;exact absurd rfl this;simp
       clear hzs hoi
       go_wp2_with (at_lookup;refine zAX rfl _ _ 314 rfl (.map (some gm)) (.string x) (.slice za zs.length zc) rfl rfl (hrun _ rfl) ?_)
       refine(zKh za zc zs _ hZ hzl1).mono ?_;rintro en w5 ⟨⟨m,rfl,hm,hmin⟩,rfl⟩;obtain⟨o,ho⟩:=Option.isSome_iff_exists.1 ((Hzs.out.mem m).1 hm);have hr16:Hid (∀ s∈zs,1<=s/\s<=16):=fun s hs=>by
        obtain⟨m',hm'⟩:=Option.isSome_iff_exists.1 ((Hzs.out.mem s).1 hs);obtain⟨⟨_,h2,_,h4⟩,_⟩:=Hb2.out x s m' hm';have h2:=hsd _ h2;unfold soundB at h2;simp only[Bool.and_eq_true,decide_eq_true_eq]at h2;omega
       have Hfo:Hid (zAR (zk good L) x=o):=by
        have:=zDz Hzs.out hr16.out hm hmin;unfold Hid zAR;rw[this,ho];rfl
       obtain⟨⟨hoL,hok,hoi1,hos⟩,_,hmw⟩:=Hb2.out x m o ho;have hrun2:=hIr.look (zFR wr) Tryz.underlying309 hxs hmw;have hv:(mapP (zk good L) (x,m)).getD zBL=o.v:=by unfold mapP;rw[ho];rfl
       rw[hv]at hrun2;have hot:1<=o.t/\o.t<=16:=by
        have hok:=hsd _ hok;unfold soundB at hok;simp only[Bool.and_eq_true,decide_eq_true_eq]at hok;omega
       have hol:=Hb.out.l o hoL;have hst:=((Hlk.out wr (Hf4.out.trans hf (fun b hb h=>h) (fun b hb h=>by unfold From at h ⊢;have:=Hw4.out;omega))).ok o hoL)
       have Hrun:=Lib.hid hrun;clear hv ho hoL hok hoi1 hm hmin hrun;obtain⟨op,oi,or,os,ot,oe,oa,ol,oc⟩:=o;simp only at hos hot hol hst;subst hos;obtain⟨T,rfl⟩:∃ T:Nat,ot=(T:Int):=⟨ot.toNat,by omega⟩
       unfold Mem.v Mem.vals at hrun2;simp only at hrun2;have hx3:Fr No wr (wr.alloc (.cells #[.string op,.string oi,.int .i64 or,.int .i64 os,.int .i64 (T:Int),.int .i64 oe,.slice oa ol.length oc] 264)):=(Fr.refl _ _).alloc _;have q3:=zD wr (.cells #[.string op,.string oi,.int .i64 or,.int .i64 os,.int .i64 (T:Int),.int .i64 oe,.slice oa ol.length oc] 264)
       go_upto_region 20 with(at_lookup;refine zAX rfl _ _ 309 rfl (.map (some w.heap.size)) (.agg #[.string x,.int .i64 os]) (.agg #[.string op,.string oi,.int .i64 or,.int .i64 os,.int .i64 (T:Int),.int .i64 oe,.slice oa ol.length oc]) rfl rfl hrun2 ?_)
       generalize wr.alloc (.cells #[.string op,.string oi,.int .i64 or,.int .i64 os,.int .i64 (T:Int),.int .i64 oe,.slice oa ol.length oc] 264)=W3 at *;have hSt:=hst.no hx3 (fun _=>id);have Hx3:=Lib.hid hx3;have hl3:=zE q3;have hs3:=hx3.size;clear hst hx3
       go_cut [17] (fun v wx=>∃ (ab pa:Nat) (la:Option Addr) (lc:Nat),v=.pointer (some ⟨ab,0,none⟩)/\wx.heap[ab]?=some (.cells #[.string x,.slice (some ⟨pa,0,none⟩) T T,.int .i64 (T:Int),.int .i64 oe,.int .i64 0,.slice la ol.length lc] 206)/\wx.heap[pa]?=some (.cells ((List.replicate T (⟨#[]⟩:ByteArray)).map Value.string).toArray 9)/\pa≠ab/\Strs wx la lc ol/\BlkT wx la 9/\W3.heap.size<=ab/\W3.heap.size<=pa/\(∀ ad,la=some ad->ad.block≠pa/\W3.heap.size<=ad.block)/\Fr No W3 wx)
       case first=>
        refine zY (From W3.heap.size) (.q 0 (.q 1 (.q 2 (.q 4 (.q 5 (.q 6 (.q 7 (.q 8 (.q 9 (.m3 3 (.m2 10 (.q 11 (.m1 12 (.m1 13 .fin))) 12 (.m1 10 (.q 11 (.m1 13 .fin)))) 10 (.m2 3 (.q 11 (.m1 12 (.m1 13 .fin))) 12 (.m1 3 (.q 11 (.m1 13 .fin)))) 12 (.m2 3 (.m1 10 (.q 11 (.m1 13 .fin))) 10 (.m1 3 (.q 11 (.m1 13 .fin)))))))))))))) _ (by kernel_rfl) (by kernel_rfl) (fun w0 hf0=>?_) (fun _ _ h=>h);have q0:=hf0.heap q3 id;have hs0':=hf0.size;have nf:¬ From W3.heap.size wr.heap.size:=by unfold From;omega
        have c4:∀ g:Gr (From W3.heap.size) w0,g.W.cell? ⟨wr.heap.size,4,none⟩=some (.int .i64 (T:Int)):=fun g=>g.fr.cell (zB q0 4) nf
        have c5:∀ g:Gr (From W3.heap.size) w0,g.W.cell? ⟨wr.heap.size,5,none⟩=some (.int .i64 oe):=fun g=>g.fr.cell (zB q0 5) nf
        have c6:∀ g:Gr (From W3.heap.size) w0,g.W.cell? ⟨wr.heap.size,6,none⟩=some (.slice oa ol.length oc):=fun g=>g.fr.cell (zB q0 6) nf
        repeat (apply zM;exact rfl;exact rfl;exact rfl;intro K hK;go_big_quiet_op;go_big_quiet_on)
        clear c4 c5 c6;refine zJe rfl rfl rfl ?_ ?_ ?_
        ·go_wp2_with (at_make;refine wpList_make_full _ rfl _ _ 44 rfl W3.heap.size 9 s0 (.string ByteArray.empty) 1 Tryz.underlying44 hs0 hsz0 hsz1 .i64 .i64 (T:Int) (T:Int) T rfl rfl rfl rfl (by rw[hsz2];omega) (by unfold maxLen;omega) (by omega) ?_;intro X1 hP hPg)
         have hX1:Fr No w0 X1:=Fr.of_grown_none hPg;have HPlt:Hid (w0.heap.size<X1.heap.size):=zU hP rfl;have HP:=Lib.hid (zAp hP);clear hP hPg;have hsX1:=hX1.size;refine OnlyN.mk ⟨hX1.mono (fun _ _ h=>h.elim),?_⟩;have hF1:Fr No W3 X1:=hf0.step hX1 (fun _ _ h=>h);refine zh rfl rfl ?_ ?_
         ·go_wp2_with fail
          refine(zAU oa oc ol _ (hSt.no hF1 (fun _=>id)) hol).mono ?_;rintro en X2 ⟨⟨la,lc,rfl,hL,hLB,hLF⟩,hX2⟩;have HL:=Lib.hid (And.intro hL (And.intro hLB hLF));clear hL hLB hLF
          go_wp2_with fail
          have hsX2:=hX2.size;refine OnlyN.mk ⟨hX2.mono (fun _ _ h=>h.elim),?_⟩;have hF2:Fr No W3 X2:=hF1.step hX2 (fun _ _ h=>h)
          repeat (apply zM;exact rfl;exact rfl;exact rfl;intro K hK;go_big_quiet_op;go_big_quiet_on)
          refine zH rfl ?_
          go_wp2_with fail
          have hX3:Fr No X2 (X2.alloc (.cells #[.string ⟨#[]⟩,.slice none 0 0,.int .i64 0,.int .i64 0,.int .i64 0,.slice none 0 0] 206)):=(Fr.refl _ _).alloc _;have qa3:=zD X2 (.cells #[.string ⟨#[]⟩,.slice none 0 0,.int .i64 0,.int .i64 0,.int .i64 0,.slice none 0 0] 206);generalize X2.alloc (.cells #[.string ⟨#[]⟩,.slice none 0 0,.int .i64 0,.int .i64 0,.int .i64 0,.slice none 0 0] 206)=X3 at *;have hsX3:=hX3.size;refine OnlyN.mk ⟨hX3.mono (fun _ _ h=>h.elim),?_⟩;have hF3:Fr No W3 X3:=hF2.step hX3 (fun _ _ h=>h);refine zH rfl ?_;have qe:=(Fr.refl No X3).heap qa3 id;obtain⟨z0,z1,z2,z3,z4,z5⟩:=cl6 qe;obtain⟨y0,y1,y2,y3,y4,y5⟩:=fl6 qe;have Hqe:=Lib.hid qe;clear qe
          go_wp2_with fail
          have h6:=set6 Hqe.out rfl (.string x) (.slice (some ⟨w0.heap.size,0,none⟩) T T) (.int .i64 (T:Int)) (.int .i64 oe) (.int .i64 0) (.slice la ol.length lc);refine OnlyN.mk ⟨h6.2.mono (fun b _ h=>by unfold Is at h;unfold From;omega),?_⟩;refine zS ?_
          go_wp2_with fail
          go_meet
          have hna:w0.heap.size≠X2.heap.size:=by have:=HPlt.out;have:=zE qa3;omega
          have hLn:∀ ad,la=some ad->ad.block≠X2.heap.size/\ad.block≠w0.heap.size/\W3.heap.size<=ad.block:=fun ad e=>by
           have h1:=HL.out.2.2 ad e;obtain⟨cs,h2⟩:=HL.out.2.1 ad e;have h3:=zE h2;have h4:=HPlt.out;have h5:=zE qa3;refine⟨?_,?_,?_⟩<;>omega
          exact⟨X2.heap.size,w0.heap.size,la,lc,rfl,h6.1,((((Fr.refl No X1).step hX2 (fun _ _ h=>h)).step hX3 (fun _ _ h=>h)).mono (T:=Is (X2.heap.size)) (fun _ _ h=>h.elim)).step h6.2 (fun _ _ h=>h) |>.heap HP.out hna,hna,(HL.out.1.no ((Fr.refl No X2).step hX3 (fun _ _ h=>h)) (fun _=>id)).fr h6.2 (fun ad e _=>(hLn ad e).1),(HL.out.2.1.fr ((Fr.refl No X2).step hX3 (fun _ _ h=>h)) (fun _ _=>id)).fr h6.2 (fun ad e=>(hLn ad e).1),by omega,by omega,fun ad e=>(hLn ad e).2,hF3.step h6.2 (fun b hb h=>by unfold Is at h;omega)⟩
         ·go_wp2_with fail
          have hX2:Fr No X1 (X1.alloc (.cells #[.string ⟨#[]⟩,.slice none 0 0,.int .i64 0,.int .i64 0,.int .i64 0,.slice none 0 0] 206)):=(Fr.refl _ _).alloc _;have qa2:=zD X1 (.cells #[.string ⟨#[]⟩,.slice none 0 0,.int .i64 0,.int .i64 0,.int .i64 0,.slice none 0 0] 206);generalize X1.alloc (.cells #[.string ⟨#[]⟩,.slice none 0 0,.int .i64 0,.int .i64 0,.int .i64 0,.slice none 0 0] 206)=X2 at *;have hsX2:=hX2.size;refine OnlyN.mk ⟨hX2.mono (fun _ _ h=>h.elim),?_⟩;have hF2:Fr No W3 X2:=hF1.step hX2 (fun _ _ h=>h);refine zH rfl ?_
          go_wp2_with fail
          refine(zAU oa oc ol _ (hSt.no hF2 (fun _=>id)) hol).mono ?_;rintro en X3 ⟨⟨la,lc,rfl,hL,hLB,hLF⟩,hX3⟩;have HL:=Lib.hid (And.intro hL (And.intro hLB hLF));clear hL hLB hLF
          go_wp2_with fail
          have hsX3:=hX3.size;refine OnlyN.mk ⟨hX3.mono (fun _ _ h=>h.elim),?_⟩;have hF3:Fr No W3 X3:=hF2.step hX3 (fun _ _ h=>h)
          repeat (apply zM;exact rfl;exact rfl;exact rfl;intro K hK;go_big_quiet_op;go_big_quiet_on)
          refine zH rfl ?_;have qe:=((Fr.refl No X2).step hX3 (fun _ _ h=>h)).heap qa2 id;obtain⟨z0,z1,z2,z3,z4,z5⟩:=cl6 qe;obtain⟨y0,y1,y2,y3,y4,y5⟩:=fl6 qe;have Hqe:=Lib.hid qe;clear qe
          go_wp2_with fail
          have h6:=set6 Hqe.out rfl (.string x) (.slice (some ⟨w0.heap.size,0,none⟩) T T) (.int .i64 (T:Int)) (.int .i64 oe) (.int .i64 0) (.slice la ol.length lc);refine OnlyN.mk ⟨h6.2.mono (fun b _ h=>by unfold Is at h;unfold From;omega),?_⟩;refine zS ?_
          go_wp2_with fail
          go_meet
          have hna:w0.heap.size≠X1.heap.size:=by have:=HPlt.out;have:=zE qa2;omega
          have hLn:∀ ad,la=some ad->ad.block≠X1.heap.size/\ad.block≠w0.heap.size/\W3.heap.size<=ad.block:=fun ad e=>by
           have h1:=HL.out.2.2 ad e;obtain⟨cs,h2⟩:=HL.out.2.1 ad e;have h3:=zE h2;have h4:=HPlt.out;have h5:=zE qa2;refine⟨?_,?_,?_⟩<;>omega
          exact⟨X1.heap.size,w0.heap.size,la,lc,rfl,h6.1,((((Fr.refl No X1).step hX2 (fun _ _ h=>h)).step hX3 (fun _ _ h=>h)).mono (T:=Is (X1.heap.size)) (fun _ _ h=>h.elim)).step h6.2 (fun _ _ h=>h) |>.heap HP.out hna,hna,(HL.out.1.no (Fr.refl No X3) (fun _=>id)).fr h6.2 (fun ad e _=>(hLn ad e).1),(HL.out.2.1.fr (Fr.refl No X3) (fun _ _=>id)).fr h6.2 (fun ad e=>(hLn ad e).1),by omega,by omega,fun ad e=>(hLn ad e).2,hF3.step h6.2 (fun b hb h=>by unfold Is at h;omega)⟩
        ·go_wp2_with fail
         refine(zAU oa oc ol _ (hSt.no hf0 (fun _=>id)) hol).mono ?_;rintro en X1 ⟨⟨la,lc,rfl,hL,hLB,hLF⟩,hX1⟩;have HL:=Lib.hid (And.intro hL (And.intro hLB hLF));clear hL hLB hLF
         go_wp2_with fail
         have hsX1:=hX1.size;refine OnlyN.mk ⟨hX1.mono (fun _ _ h=>h.elim),?_⟩;have hF1:Fr No W3 X1:=hf0.step hX1 (fun _ _ h=>h);refine zh rfl rfl ?_ ?_
         ·go_wp2_with (at_make;refine wpList_make_full _ rfl _ _ 44 rfl W3.heap.size 9 s0 (.string ByteArray.empty) 1 Tryz.underlying44 hs0 hsz0 hsz1 .i64 .i64 (T:Int) (T:Int) T rfl rfl rfl rfl (by rw[hsz2];omega) (by unfold maxLen;omega) (by omega) ?_;intro X2 hP hPg)
          have hX2:Fr No X1 X2:=Fr.of_grown_none hPg;have HPlt:Hid (X1.heap.size<X2.heap.size):=zU hP rfl;have HP:=Lib.hid (zAp hP);clear hP hPg;have hsX2:=hX2.size;refine OnlyN.mk ⟨hX2.mono (fun _ _ h=>h.elim),?_⟩;have hF2:Fr No W3 X2:=hF1.step hX2 (fun _ _ h=>h)
          repeat (apply zM;exact rfl;exact rfl;exact rfl;intro K hK;go_big_quiet_op;go_big_quiet_on)
          refine zH rfl ?_
          go_wp2_with fail
          have hX3:Fr No X2 (X2.alloc (.cells #[.string ⟨#[]⟩,.slice none 0 0,.int .i64 0,.int .i64 0,.int .i64 0,.slice none 0 0] 206)):=(Fr.refl _ _).alloc _;have qa3:=zD X2 (.cells #[.string ⟨#[]⟩,.slice none 0 0,.int .i64 0,.int .i64 0,.int .i64 0,.slice none 0 0] 206);generalize X2.alloc (.cells #[.string ⟨#[]⟩,.slice none 0 0,.int .i64 0,.int .i64 0,.int .i64 0,.slice none 0 0] 206)=X3 at *;have hsX3:=hX3.size;refine OnlyN.mk ⟨hX3.mono (fun _ _ h=>h.elim),?_⟩;have hF3:Fr No W3 X3:=hF2.step hX3 (fun _ _ h=>h);refine zH rfl ?_;have qe:=(Fr.refl No X3).heap qa3 id;obtain⟨z0,z1,z2,z3,z4,z5⟩:=cl6 qe;obtain⟨y0,y1,y2,y3,y4,y5⟩:=fl6 qe;have Hqe:=Lib.hid qe;clear qe
          go_wp2_with fail
          have h6:=set6 Hqe.out rfl (.string x) (.slice (some ⟨X1.heap.size,0,none⟩) T T) (.int .i64 (T:Int)) (.int .i64 oe) (.int .i64 0) (.slice la ol.length lc);refine OnlyN.mk ⟨h6.2.mono (fun b _ h=>by unfold Is at h;unfold From;omega),?_⟩;refine zS ?_
          go_wp2_with fail
          go_meet
          have hna:X1.heap.size≠X2.heap.size:=by have:=HPlt.out;have:=zE qa3;omega
          have hLn:∀ ad,la=some ad->ad.block≠X2.heap.size/\ad.block≠X1.heap.size/\W3.heap.size<=ad.block:=fun ad e=>by
           have h1:=HL.out.2.2 ad e;obtain⟨cs,h2⟩:=HL.out.2.1 ad e;have h3:=zE h2;have h4:=HPlt.out;have h5:=zE qa3;refine⟨?_,?_,?_⟩<;>omega
          exact⟨X2.heap.size,X1.heap.size,la,lc,rfl,h6.1,(((Fr.refl No X2).step hX3 (fun _ _ h=>h)).mono (T:=Is (X2.heap.size)) (fun _ _ h=>h.elim)).step h6.2 (fun _ _ h=>h) |>.heap HP.out hna,hna,(HL.out.1.no (((Fr.refl No X1).step hX2 (fun _ _ h=>h)).step hX3 (fun _ _ h=>h)) (fun _=>id)).fr h6.2 (fun ad e _=>(hLn ad e).1),(HL.out.2.1.fr (((Fr.refl No X1).step hX2 (fun _ _ h=>h)).step hX3 (fun _ _ h=>h)) (fun _ _=>id)).fr h6.2 (fun ad e=>(hLn ad e).1),by omega,by omega,fun ad e=>(hLn ad e).2,hF3.step h6.2 (fun b hb h=>by unfold Is at h;omega)⟩
         ·go_wp2_with fail
          have hX2:Fr No X1 (X1.alloc (.cells #[.string ⟨#[]⟩,.slice none 0 0,.int .i64 0,.int .i64 0,.int .i64 0,.slice none 0 0] 206)):=(Fr.refl _ _).alloc _;have qa2:=zD X1 (.cells #[.string ⟨#[]⟩,.slice none 0 0,.int .i64 0,.int .i64 0,.int .i64 0,.slice none 0 0] 206);generalize X1.alloc (.cells #[.string ⟨#[]⟩,.slice none 0 0,.int .i64 0,.int .i64 0,.int .i64 0,.slice none 0 0] 206)=X2 at *;have hsX2:=hX2.size;refine OnlyN.mk ⟨hX2.mono (fun _ _ h=>h.elim),?_⟩;have hF2:Fr No W3 X2:=hF1.step hX2 (fun _ _ h=>h);refine zH rfl ?_
          go_wp2_with (at_make;refine wpList_make_full _ rfl _ _ 44 rfl W3.heap.size 9 s0 (.string ByteArray.empty) 1 Tryz.underlying44 hs0 hsz0 hsz1 .i64 .i64 (T:Int) (T:Int) T rfl rfl rfl rfl (by rw[hsz2];omega) (by unfold maxLen;omega) (by omega) ?_;intro X3 hP hPg)
          have hX3:Fr No X2 X3:=Fr.of_grown_none hPg;have HPlt:Hid (X2.heap.size<X3.heap.size):=zU hP rfl;have HP:=Lib.hid (zAp hP);clear hP hPg;have hsX3:=hX3.size;refine OnlyN.mk ⟨hX3.mono (fun _ _ h=>h.elim),?_⟩;have hF3:Fr No W3 X3:=hF2.step hX3 (fun _ _ h=>h)
          repeat (apply zM;exact rfl;exact rfl;exact rfl;intro K hK;go_big_quiet_op;go_big_quiet_on)
          refine zH rfl ?_;have qe:=((Fr.refl No X2).step hX3 (fun _ _ h=>h)).heap qa2 id;obtain⟨z0,z1,z2,z3,z4,z5⟩:=cl6 qe;obtain⟨y0,y1,y2,y3,y4,y5⟩:=fl6 qe;have Hqe:=Lib.hid qe;clear qe
          go_wp2_with fail
          have h6:=set6 Hqe.out rfl (.string x) (.slice (some ⟨X2.heap.size,0,none⟩) T T) (.int .i64 (T:Int)) (.int .i64 oe) (.int .i64 0) (.slice la ol.length lc);refine OnlyN.mk ⟨h6.2.mono (fun b _ h=>by unfold Is at h;unfold From;omega),?_⟩;refine zS ?_
          go_wp2_with fail
          go_meet
          have hna:X2.heap.size≠X1.heap.size:=by have:=HPlt.out;have:=zE qa2;omega
          have hLn:∀ ad,la=some ad->ad.block≠X1.heap.size/\ad.block≠X2.heap.size/\W3.heap.size<=ad.block:=fun ad e=>by
           have h1:=HL.out.2.2 ad e;obtain⟨cs,h2⟩:=HL.out.2.1 ad e;have h3:=zE h2;have h4:=HPlt.out;have h5:=zE qa2;refine⟨?_,?_,?_⟩<;>omega
          exact⟨X1.heap.size,X2.heap.size,la,lc,rfl,h6.1,((Fr.refl No X3).mono (T:=Is (X1.heap.size)) (fun _ _ h=>h.elim)).step h6.2 (fun _ _ h=>h) |>.heap HP.out hna,hna,(HL.out.1.no (((Fr.refl No X1).step hX2 (fun _ _ h=>h)).step hX3 (fun _ _ h=>h)) (fun _=>id)).fr h6.2 (fun ad e _=>(hLn ad e).1),(HL.out.2.1.fr (((Fr.refl No X1).step hX2 (fun _ _ h=>h)).step hX3 (fun _ _ h=>h)) (fun _ _=>id)).fr h6.2 (fun ad e=>(hLn ad e).1),by omega,by omega,fun ad e=>(hLn ad e).2,hF3.step h6.2 (fun b hb h=>by unfold Is at h;omega)⟩
        ·go_wp2_with fail
         have hX1:Fr No w0 (w0.alloc (.cells #[.string ⟨#[]⟩,.slice none 0 0,.int .i64 0,.int .i64 0,.int .i64 0,.slice none 0 0] 206)):=(Fr.refl _ _).alloc _;have qa1:=zD w0 (.cells #[.string ⟨#[]⟩,.slice none 0 0,.int .i64 0,.int .i64 0,.int .i64 0,.slice none 0 0] 206);generalize w0.alloc (.cells #[.string ⟨#[]⟩,.slice none 0 0,.int .i64 0,.int .i64 0,.int .i64 0,.slice none 0 0] 206)=X1 at *;have hsX1:=hX1.size;refine OnlyN.mk ⟨hX1.mono (fun _ _ h=>h.elim),?_⟩;have hF1:Fr No W3 X1:=hf0.step hX1 (fun _ _ h=>h);refine zh rfl rfl ?_ ?_
         ·go_wp2_with (at_make;refine wpList_make_full _ rfl _ _ 44 rfl W3.heap.size 9 s0 (.string ByteArray.empty) 1 Tryz.underlying44 hs0 hsz0 hsz1 .i64 .i64 (T:Int) (T:Int) T rfl rfl rfl rfl (by rw[hsz2];omega) (by unfold maxLen;omega) (by omega) ?_;intro X2 hP hPg)
          have hX2:Fr No X1 X2:=Fr.of_grown_none hPg;have HPlt:Hid (X1.heap.size<X2.heap.size):=zU hP rfl;have HP:=Lib.hid (zAp hP);clear hP hPg;have hsX2:=hX2.size;refine OnlyN.mk ⟨hX2.mono (fun _ _ h=>h.elim),?_⟩;have hF2:Fr No W3 X2:=hF1.step hX2 (fun _ _ h=>h);refine zH rfl ?_
          go_wp2_with fail
          refine(zAU oa oc ol _ (hSt.no hF2 (fun _=>id)) hol).mono ?_;rintro en X3 ⟨⟨la,lc,rfl,hL,hLB,hLF⟩,hX3⟩;have HL:=Lib.hid (And.intro hL (And.intro hLB hLF));clear hL hLB hLF
          go_wp2_with fail
          have hsX3:=hX3.size;refine OnlyN.mk ⟨hX3.mono (fun _ _ h=>h.elim),?_⟩;have hF3:Fr No W3 X3:=hF2.step hX3 (fun _ _ h=>h)
          repeat (apply zM;exact rfl;exact rfl;exact rfl;intro K hK;go_big_quiet_op;go_big_quiet_on)
          refine zH rfl ?_;have qe:=(((Fr.refl No X1).step hX2 (fun _ _ h=>h)).step hX3 (fun _ _ h=>h)).heap qa1 id;obtain⟨z0,z1,z2,z3,z4,z5⟩:=cl6 qe;obtain⟨y0,y1,y2,y3,y4,y5⟩:=fl6 qe;have Hqe:=Lib.hid qe;clear qe
          go_wp2_with fail
          have h6:=set6 Hqe.out rfl (.string x) (.slice (some ⟨X1.heap.size,0,none⟩) T T) (.int .i64 (T:Int)) (.int .i64 oe) (.int .i64 0) (.slice la ol.length lc);refine OnlyN.mk ⟨h6.2.mono (fun b _ h=>by unfold Is at h;unfold From;omega),?_⟩;refine zS ?_
          go_wp2_with fail
          go_meet
          have hna:X1.heap.size≠w0.heap.size:=by have:=HPlt.out;have:=zE qa1;omega
          have hLn:∀ ad,la=some ad->ad.block≠w0.heap.size/\ad.block≠X1.heap.size/\W3.heap.size<=ad.block:=fun ad e=>by
           have h1:=HL.out.2.2 ad e;obtain⟨cs,h2⟩:=HL.out.2.1 ad e;have h3:=zE h2;have h4:=HPlt.out;have h5:=zE qa1;refine⟨?_,?_,?_⟩<;>omega
          exact⟨w0.heap.size,X1.heap.size,la,lc,rfl,h6.1,(((Fr.refl No X2).step hX3 (fun _ _ h=>h)).mono (T:=Is (w0.heap.size)) (fun _ _ h=>h.elim)).step h6.2 (fun _ _ h=>h) |>.heap HP.out hna,hna,(HL.out.1.no (Fr.refl No X3) (fun _=>id)).fr h6.2 (fun ad e _=>(hLn ad e).1),(HL.out.2.1.fr (Fr.refl No X3) (fun _ _=>id)).fr h6.2 (fun ad e=>(hLn ad e).1),by omega,by omega,fun ad e=>(hLn ad e).2,hF3.step h6.2 (fun b hb h=>by unfold Is at h;omega)⟩
         ·go_wp2_with fail
          refine(zAU oa oc ol _ (hSt.no hF1 (fun _=>id)) hol).mono ?_;rintro en X2 ⟨⟨la,lc,rfl,hL,hLB,hLF⟩,hX2⟩;have HL:=Lib.hid (And.intro hL (And.intro hLB hLF));clear hL hLB hLF
          go_wp2_with fail
          have hsX2:=hX2.size;refine OnlyN.mk ⟨hX2.mono (fun _ _ h=>h.elim),?_⟩;have hF2:Fr No W3 X2:=hF1.step hX2 (fun _ _ h=>h);refine zH rfl ?_
          go_wp2_with (at_make;refine wpList_make_full _ rfl _ _ 44 rfl W3.heap.size 9 s0 (.string ByteArray.empty) 1 Tryz.underlying44 hs0 hsz0 hsz1 .i64 .i64 (T:Int) (T:Int) T rfl rfl rfl rfl (by rw[hsz2];omega) (by unfold maxLen;omega) (by omega) ?_;intro X3 hP hPg)
          have hX3:Fr No X2 X3:=Fr.of_grown_none hPg;have HPlt:Hid (X2.heap.size<X3.heap.size):=zU hP rfl;have HP:=Lib.hid (zAp hP);clear hP hPg;have hsX3:=hX3.size;refine OnlyN.mk ⟨hX3.mono (fun _ _ h=>h.elim),?_⟩;have hF3:Fr No W3 X3:=hF2.step hX3 (fun _ _ h=>h)
          repeat (apply zM;exact rfl;exact rfl;exact rfl;intro K hK;go_big_quiet_op;go_big_quiet_on)
          refine zH rfl ?_;have qe:=(((Fr.refl No X1).step hX2 (fun _ _ h=>h)).step hX3 (fun _ _ h=>h)).heap qa1 id;obtain⟨z0,z1,z2,z3,z4,z5⟩:=cl6 qe;obtain⟨y0,y1,y2,y3,y4,y5⟩:=fl6 qe;have Hqe:=Lib.hid qe;clear qe
          go_wp2_with fail
          have h6:=set6 Hqe.out rfl (.string x) (.slice (some ⟨X2.heap.size,0,none⟩) T T) (.int .i64 (T:Int)) (.int .i64 oe) (.int .i64 0) (.slice la ol.length lc);refine OnlyN.mk ⟨h6.2.mono (fun b _ h=>by unfold Is at h;unfold From;omega),?_⟩;refine zS ?_
          go_wp2_with fail
          go_meet
          have hna:X2.heap.size≠w0.heap.size:=by have:=HPlt.out;have:=zE qa1;omega
          have hLn:∀ ad,la=some ad->ad.block≠w0.heap.size/\ad.block≠X2.heap.size/\W3.heap.size<=ad.block:=fun ad e=>by
           have h1:=HL.out.2.2 ad e;obtain⟨cs,h2⟩:=HL.out.2.1 ad e;have h3:=zE h2;have h4:=HPlt.out;have h5:=zE qa1;refine⟨?_,?_,?_⟩<;>omega
          exact⟨w0.heap.size,X2.heap.size,la,lc,rfl,h6.1,((Fr.refl No X3).mono (T:=Is (w0.heap.size)) (fun _ _ h=>h.elim)).step h6.2 (fun _ _ h=>h) |>.heap HP.out hna,hna,(HL.out.1.no ((Fr.refl No X2).step hX3 (fun _ _ h=>h)) (fun _=>id)).fr h6.2 (fun ad e _=>(hLn ad e).1),(HL.out.2.1.fr ((Fr.refl No X2).step hX3 (fun _ _ h=>h)) (fun _ _=>id)).fr h6.2 (fun ad e=>(hLn ad e).1),by omega,by omega,fun ad e=>(hLn ad e).2,hF3.step h6.2 (fun b hb h=>by unfold Is at h;omega)⟩
       case rest=>
        obtain⟨ab,pa,la,lc,rfl,qab,qpa,hna,hLs,hLB,hab,hpa,hLf,hfx⟩:=hcut;have hrc:Fr No wr wc:=Hx3.out.step hfx (fun _ _ h=>h);have hrs:=hrc.size;have hZc:=hZ.no hrc (fun _=>id);have hgmc:wc.heap[gm]?=wr.heap[gm]?:=hrc.block gm hGr.lt id;have hlg:=Hrun.out wc hgmc;have HK:Hid (∀ W:World,Fr (fun b=>b=ab\/b=pa) wc W->(W.ownsRow w4.heap.size 206 6 (.slice av O.length cv) O.length (arflat O)/\AFresh W w4.heap.size O)/\Fr (From w4.heap.size) w4 W/\Strs W la lc ol/\BlkT W la 9/\PMap W w.heap.size (mapP (zk good L)) n/\Ints W za zc zs):=fun W hW=>by
         have hrW:Fr (fun b=>wr.heap.size<=b) wr W:=(hrc.mono (fun _ _ h=>h.elim)).step hW (fun b hb h=>by omega);refine⟨⟨zJ hown hrW (fun b hb h=>by have h1:=zU hown hb;omega),hAF.fr hrW (fun b _ h1 h2=>by omega)⟩,hf.step hrW (fun b hb h=>by have:=hf.size;unfold From;omega),hLs.fr hW (fun ad e _ h=>?_),hLB.fr hW (fun ad e h=>?_),hIr.fr hrW (by have:=hIr.lt;omega),hZ.fr hrW (fun ad e hne h=>by have:=(hZ.cell ad e hne).2.1;omega)⟩
         ·obtain⟨cs,h2⟩:=hLB ad e;have:=hLf ad e;rcases h with h | h
          ·rw[h]at h2;rw[qab]at h2;cases h2
          ·exact this.1 h
         ·obtain⟨cs,h2⟩:=hLB ad e;have:=hLf ad e;rcases h with h | h
          ·rw[h]at h2;rw[qab]at h2;cases h2
          ·exact this.1 h
        have Hfr:Hid ((∀ ad,la=some ad->w4.heap.size<=ad.block)/\w4.heap.size<=pa/\w4.heap.size<=ab/\pa<wc.heap.size/\ab<wc.heap.size):=⟨fun ad e=>by have:=hLf ad e;have:=hf.size;omega,by have:=hf.size;omega,by have:=hf.size;omega,zE qpa,zE qab⟩
        clear hZ hgr hGr hIr q3 hSt hl3 hs3 hLs hLB hab hpa hLf hfx hrc hrs hgmc hown hAF hf hrun2 hc
        go_wp2_with (at_lookup;refine zAX rfl _ _ 314 rfl (.map (some gm)) (.string x) (.slice za zs.length zc) rfl rfl hlg ?_)
        clear hlg
        go_loopw [103] (fun i wr4=>∃ q:Nat,q<=zs.length/\i=.int .i64 (q:Int)/\wr4.heap[ab]?=some (.cells #[.string x,.slice (some ⟨pa,0,none⟩) T T,.int .i64 (T:Int),.int .i64 oe,.int .i64 ((cntJ T (zs.take q):Nat):Int),.slice la ol.length lc] 206)/\wr4.heap[pa]?=some (.cells ((psJ (zk good L) x T (zs.take q)).map Value.string).toArray 9)/\Hid (Fr (fun b=>b=ab\/b=pa) wc wr4)) (fun i _=>zs.length-(intOf i).toNat)
        case atStart=>exact⟨0,by omega,rfl,by simpa [cntJ]using qab,by rw[List.take_zero,zJw];exact qpa,Fr.refl _ _⟩
        case round=>
         obtain⟨q,hq,rfl,qb,qp,Hfq⟩:=hrel;clear qab qpa;by_cases hltq:q<zs.length
         ·have hltq':(q:Int)<zs.length:=by omega
          obtain⟨b',off',s,e9,hsq,hcs⟩:=(HK.out _ Hfq.out).2.2.2.2.2.at hltq;have Htq:Hid (zs.take (q+1)=zs.take q++[s]):=by unfold Hid;rw[List.take_add_one,hsq];rfl
          have hsz:=List.mem_of_getElem? hsq;obtain⟨hs1,hs2⟩:=hr16.out s hsz;obtain⟨⟨mp,mi,mr,ms,mt,me,ma,ml,mc⟩,hmm'⟩:=Option.isSome_iff_exists.1 ((Hzs.out.mem s).1 hsz);have Hmm:=Lib.hid hmm';have hsw:=(Hb2.out x s _ hmm').2.2;obtain rfl:=e9;clear hsq hsz hmm';obtain⟨-,x1,x2⟩:=cl3 qb;by_cases hsT:s<=T
          ·obtain⟨kk,rfl⟩:∃ kk:Nat,s=(kk:Int)+1:=⟨(s-1).toNat,by omega⟩
           have hkT:kk<T:=by omega
           have hkT':(kk:Int)<T:=by omega
           have Hpk:Hid (pathAt (zk good L) x kk=mp):=by unfold Hid pathAt;rw[Hmm.out]
           have hrunP:∀ W:World,PMap W w.heap.size (mapP (zk good L)) n->(Instr.lookup 309 (.map (some w.heap.size)) (.agg #[.string x,.int .i64 ((kk:Int)+1)]) false).run Tryz.prog W=.ok (.agg #[.string mp,.string mi,.int .i64 mr,.int .i64 ms,.int .i64 mt,.int .i64 me,.slice ma ml.length mc]) W:=fun W hW=>by
            rw[hW.look (zFR W) Tryz.underlying309 hxs hsw];unfold mapP;rw[Hmm.out];rfl
           have HrunP:=Lib.hid hrunP;have hfd:=hfdM;clear hrunP
           go_upto_region 25 with(fail)
           refine zR (Is pa) [(0,false),(1,false),(2,false),(3,false),(4,false),(5,false),(6,false),(7,false),(8,false),(9,false),(10,false),(11,true)] (by kernel_rfl) (by kernel_rfl) (fun w0 hf0=>?_);have qb0:=hf0.heap qb id;have qp0:=hf0.heap qp id;have d1:∀ g:Gr (Is pa) w0,g.W.cell? ⟨ab,1,none⟩=some (.slice (some ⟨pa,0,none⟩) T T):=fun g=>g.fr.cell (zB qb0 1) (fun h=>hna h.symm)
           have d2:∀ g:Gr (Is pa) w0,(Instr.lookup 309 (.map (some w.heap.size)) (.agg #[.string x,.int .i64 ((kk:Int)+1)]) false).run Tryz.prog g.W=.ok (.agg #[.string mp,.string mi,.int .i64 mr,.int .i64 ms,.int .i64 mt,.int .i64 me,.slice ma ml.length mc]) g.W:=fun g=>HrunP.out _ (((HK.out _ Hfq.out).2.2.2.2.1.fr hf0 id).fr g.fr (by have:=Hfr.out.2.1;have:=hI4.lt;unfold Is;omega))
           apply zT;exact rfl;exact rfl;exact rfl;intro K hK;go_big_quiet_op;go_big_quiet_on;apply zT;exact rfl;exact rfl;exact rfl;intro K hK;go_big_quiet_op;go_big_quiet_on;apply zT;exact rfl;exact rfl;exact rfl;intro K hK;go_big_quiet_op;go_big_quiet_on;apply zT;exact rfl;exact rfl;exact rfl;intro K hK;go_big_quiet_op;go_big_quiet_on;apply zT;exact rfl;exact rfl;exact rfl;intro K hK;go_big_quiet_op;go_big_quiet_on;apply zT;exact rfl;exact rfl;exact rfl;intro K hK;go_big_quiet_op;go_big_quiet_on;apply zT;exact rfl;exact rfl;exact rfl;intro K hK;go_big_quiet_op;go_big_quiet_on;apply zT;exact rfl;exact rfl;exact rfl;intro K hK;go_big_quiet_op;go_big_quiet_on;apply zT;exact rfl;exact rfl;exact rfl;intro K hK;refine zBQ rfl _ _ 309 rfl (.map (some w.heap.size)) (.agg #[.string x,.int .i64 ((kk:Int)+1)]) (.agg #[.string mp,.string mi,.int .i64 mr,.int .i64 ms,.int .i64 mt,.int .i64 me,.slice ma ml.length mc]) rfl rfl (fun W hW=>by obtain⟨g,rfl⟩:=hW;exact d2 g) ?_
           go_frame
           go_big_quiet_on;apply zT;exact rfl;exact rfl;exact rfl;intro K hK;go_big_quiet_op;go_big_quiet_on;apply zT;exact rfl;exact rfl;exact rfl;intro K hK;go_big_quiet_op;go_big_quiet_on;clear d1 d2 x1 x2;have hzk:((psJ (zk good L) x T (zs.take q)).map Value.string).toArray.size=T:=by simp[zDr]
           have x3:w0.frozen? ⟨pa,kk,none⟩=false:=zC qp0 kk;obtain⟨ov,x4⟩:∃ ov,w0.cell? ⟨pa,kk,none⟩=some ov:=by
            rw[zB qp0];exact⟨_,Array.getElem?_eq_getElem (by rw[hzk];exact hkT)⟩
           apply zi;exact rfl
           go_wp2_with fail
           refine OnlyN.mk ⟨Fr.setCell (S:=Is pa) (p:=⟨pa,kk,none⟩) (Fr.refl _ _) (fun _=>rfl) _,?_⟩;refine zb ?_;have fs1:Fr (Is pa) w0 (w0.setCell ⟨pa,kk,none⟩ (.string mp)):=Fr.setCell (S:=Is pa) (p:=⟨pa,kk,none⟩) (Fr.refl _ _) (fun _=>rfl) _;have qp1:=zF qp0 kk (.string mp);have qb1:=fs1.heap qb0 (fun h=>hna h.symm);have Hf1:Hid (Fr (fun b=>b=ab\/b=pa) wc (w0.setCell ⟨pa,kk,none⟩ (.string mp))):=(Hfq.out.step hf0 (fun _ _ h=>h.elim)).step fs1 (fun b _ h=>.inr h);have Hcl:Hid (cntJ T (zs.take q)<=1000):=by have h1:=zKN T (zs.take q);have h2:=hlen;unfold Hid;rw[List.length_take]at h1;omega
           clear x3 x4 qp0 qb0 fs1 hf0 qp qb hzk hfd;generalize w0.setCell ⟨pa,kk,none⟩ (.string mp)=W5 at *;obtain⟨cn,hcn⟩:∃ cn:Nat,cn=cntJ T (zs.take q):=⟨_,rfl⟩
           have hcn2:cn<=1000:=by rw[hcn];exact Hcl.out
           rw[<-hcn]at qb1;have Hcn:=Lib.hid hcn;clear hcn;have x3:W5.cell? ⟨ab,4,none⟩=some (.int .i64 (cn:Int)):=zB qb1 4;have x4:W5.frozen? ⟨ab,4,none⟩=false:=zC qb1 4;have q6:=zF qb1 4 (.int .i64 ((cn:Int)+1));have fs2:Fr (Is ab) W5 (W5.setCell ⟨ab,4,none⟩ (.int .i64 ((cn:Int)+1))):=Fr.setCell (S:=Is ab) (p:=⟨ab,4,none⟩) (Fr.refl _ _) (fun _=>rfl) _;have qp2:=fs2.heap qp1 hna;have Hf2:Hid (Fr (fun b=>b=ab\/b=pa) wc (W5.setCell ⟨ab,4,none⟩ (.int .i64 ((cn:Int)+1)))):=Hf1.out.step fs2 (fun b _ h=>.inl h);simp only[List.setIfInBounds_toArray,List.set_cons_zero,List.set_cons_succ]at q6;have q6':(W5.setCell ⟨ab,4,none⟩ (.int .i64 ((cn:Int)+1))).heap[ab]?=some (.cells #[.string x,.slice (some ⟨pa,0,none⟩) T T,.int .i64 (T:Int),.int .i64 oe,.int .i64 ((cntJ T (zs.take (q+1)):Nat):Int),.slice la ol.length lc] 206):=by
            rw[Htq.out,zEh,if_pos hsT,<-Hcn.out];exact q6
           have qp3:(W5.setCell ⟨ab,4,none⟩ (.int .i64 ((cn:Int)+1))).heap[pa]?=some (.cells ((psJ (zk good L) x T (zs.take (q+1))).map Value.string).toArray 9):=by
            rw[Htq.out,zJv _ _ _ _ _ hkT,Hpk.out,List.map_set,qp2];simp
           have H6:=Lib.hid (And.intro q6' qp3);clear q6 q6' qp1 qp2 qp3 qb1 fs2
           go_wp2_with fail
           go_roundw
           case rel=>exact⟨q+1,by omega,by go_num,H6.out.1,H6.out.2,Hf2⟩
           case measure=>simp[intOf];omega
          ·go_wp2_with fail
           go_roundw
           case rel=>exact⟨q+1,by omega,by go_num,by rw[Htq.out,zEh,if_neg hsT];exact qb,by rw[Htq.out,zIW _ _ _ _ _ hsT];exact qp,Hfq⟩
           case measure=>simp[intOf];omega
         ·obtain rfl:q=zs.length:=by omega
          rw[List.take_length]at qb qp;obtain⟨cn,hcn⟩:∃ cn:Nat,cn=cntJ T zs:=⟨_,rfl⟩
          rw[<-hcn]at qb;have hAr:Arr.mk x (psJ (zk good L) x T zs) (T:Int) oe (cn:Int) ol=buildA (zk good L) x:=by
           unfold buildA;rw[Hfo.out,hcn,zIX Hzs.out,zHu Hzs.out (fun s hs=>(hr16.out s hs).1)];rfl
          have HAr:=Lib.hid hAr;obtain⟨⟨hown,hAF⟩,hf,hLs,hLB,_,_⟩:=HK.out _ Hfq.out;have hSp:=zDl qp (by rw[zDr];unfold maxLen;omega);have hPB:BlkT wr (some ⟨pa,0,none⟩) 9:=fun ad e=>by cases e;exact⟨_,qp⟩
          rw[zDr]at hSp;obtain⟨y0,y1,y2,y3,y4,y5⟩:=cl6 qb;obtain⟨A,hA⟩:∃ A:ArrM,A=⟨Arr.mk x (psJ (zk good L) x T zs) (T:Int) oe (cn:Int) ol,some ⟨pa,0,none⟩,T,la,lc⟩:=⟨_,rfl⟩
          have hAv:A.vals=#[.string x,.slice (some ⟨pa,0,none⟩) T T,.int .i64 (T:Int),.int .i64 oe,.int .i64 (cn:Int),.slice la ol.length lc]:=by rw[hA];simp[ArrM.vals,zDr]
          have hA2:A.toArr=buildA (zk good L) x:=by rw[hA];exact hAr
          have hone:∀ u∈(#[.string x,.slice (some ⟨pa,0,none⟩) T T,.int .i64 (T:Int),.int .i64 oe,.int .i64 (cn:Int),.slice la ol.length lc]:Array Value).toList,u.oneCell'=true:=by rw[<-hAv];exact zGr A
          have HS:=Lib.hid (And.intro hAF (And.intro hLs (And.intro hLB (And.intro hSp hPB))));have HA:=Lib.hid (And.intro hAv (And.intro hA2 hA));have Hone:=Lib.hid hone;have Hown:=Lib.hid hown;have Hfw:=Lib.hid hf;have hsw4:=hf.size;clear hAF hLs hLB hSp hPB hAv hA2 hA hone hf qb qp hcn hAr
          go_wp2_with (at_builtin;refine wpList_append_own _ rfl _ _ 200 rfl w4.heap.size 206 i0 (.agg #[.string ByteArray.empty,.slice none 0 0,.int .i64 0,.int .i64 0,.int .i64 0,.slice none 0 0]) 6 88 Tryz.underlying200 hi0 hz0 hz1 hz2 rfl (by decide) _ _ _ rfl (hown.alloc _) ⟨wr.heap.size,0,none⟩ 1 1 (#[.string x,.slice (some ⟨pa,0,none⟩) T T,.int .i64 (T:Int),.int .i64 oe,.int .i64 (cn:Int),.slice la ol.length lc]:Array Value).toList rfl rfl (zX _ #[.string x,.slice (some ⟨pa,0,none⟩) T T,.int .i64 (T:Int),.int .i64 oe,.int .i64 (cn:Int),.slice la ol.length lc] _ rfl) Hone.out (by unfold maxLen;omega) (by omega) (by first | omega | (simp;done) | (simp;omega)) ?_;intro v' w6 hown6 hgrow6 _;obtain⟨av',cv',rfl⟩:=zG hown6)
          have hal:Fr No wr (wr.alloc (.cells #[.string x,.slice (some ⟨pa,0,none⟩) T T,.int .i64 (T:Int),.int .i64 oe,.int .i64 (cn:Int),.slice la ol.length lc] 206)):=(Fr.refl _ _).alloc _;have howa:=Hown.out.alloc (.cells #[.string x,.slice (some ⟨pa,0,none⟩) T T,.int .i64 (T:Int),.int .i64 oe,.int .i64 (cn:Int),.slice la ol.length lc] 206);have hgf:Fr (fun b=>(Value.slice av O.length cv).ownBlock=some b) (wr.alloc (.cells #[.string x,.slice (some ⟨pa,0,none⟩) T T,.int .i64 (T:Int),.int .i64 oe,.int .i64 (cn:Int),.slice la ol.length lc] 206)) w6:=Fr.of_grown hgrow6;obtain⟨hAv,hA2,hA⟩:=HA.out;obtain⟨hAF,hLs,hLB,hSp,hPB⟩:=HS.out;have hS1:Strs wr A.pa A.pc A.ps/\Strs wr A.la A.lc A.l:=by rw[hA];exact⟨hSp,hLs⟩
          have hB1:BlkT wr A.pa 9/\BlkT wr A.la 9:=by rw[hA];exact⟨hPB,hLB⟩
          have hF1:(∀ ad,A.pa=some ad->w4.heap.size<=ad.block)/\∀ ad,A.la=some ad->w4.heap.size<=ad.block:=by
           rw[hA];exact⟨fun ad e=>by cases e;exact Hfr.out.2.1,Hfr.out.1⟩
          have hAF6:AFresh w6 w4.heap.size (O++[A]):=AFresh.own (AFresh.snoc (hAF.fr hal (fun _ _ _=>id)) ⟨hS1.1.no hal (fun _=>id),hS1.2.no hal (fun _=>id)⟩ ⟨hB1.1.fr hal (fun _ _=>id),hB1.2.fr hal (fun _ _=>id)⟩ hF1) howa hgf;have hO6:(O++[A]).map ArrM.toArr=(ids.take (j+1)).map (buildA (zk good L)):=by
           rw[Htj.out,List.map_append,List.map_append,HO.out];simp[hA2]
          have hf6:Fr (From w4.heap.size) w4 w6:=(Hfw.out.step hal (fun _ _ h=>h.elim)).step hgf (fun b _ h=>zN howa h);rw[<-hAv,<-zFO]at hown6;have HF:=Lib.hid (And.intro hown6 (And.intro hAF6 (And.intro hO6 hf6)));clear hown6 hAF6 hO6 hf6 hgrow6 hgf howa hal y0 y1 y2 y3 y4 y5 hown hAv hA2 hA hAF hLs hLB hSp hPB hS1 hB1 hF1
          go_roundw
          case rel=>exact⟨j+1,O++[A],av',cv',by omega,by rw[List.length_append,HOl.out];rfl,by rw[List.length_append];rfl,by go_num,by rw[List.length_append];exact HF.out.1,HF.out.2.1,Lib.hid HF.out.2.2.1,HF.out.2.2.2⟩
          case measure=>simp[intOf];omega
      ·obtain rfl:j=ids.length:=by omega
       obtain⟨a',c',hv,hR,hfresh⟩:=Arrs.of_own hown (fun m hm=>(hAF m hm).1);cases hv;have ho:=HO.out;rw[List.take_length]at ho;have hownw:=zq hown Hw4.out;have H:=Lib.hid (And.intro hR (And.intro hfresh (And.intro hAF (And.intro (And.intro ho hownw) ((Hf4.out.trans hf (fun b hb h=>h) (fun b hb h=>by unfold From at h ⊢;have:=Hw4.out;omega)).mono (T:=No) (fun b hb h=>by unfold From at h;omega))))));clear hown hAF HO hf hR hfresh ho hownw
       go_wp2_with fail
       go_ret;exact⟨⟨_,_,O,ids,rfl,H.out.1,fun ad e=>by have:=H.out.2.1 ad e;have:=Hw4.out;omega,fun m hm=>⟨(H.out.2.2.1 m hm).1,(H.out.2.2.1 m hm).2.1,fun ad e=>by have:=(H.out.2.2.1 m hm).2.2.1 ad e;have:=Hw4.out;omega,fun ad e=>by have:=(H.out.2.2.1 m hm).2.2.2 ad e;have:=Hw4.out;omega⟩,Hids.out,H.out.2.2.2.1.1,by have:=Hlid.out;omega,H.out.2.2.2.1.2⟩,H.out.2.2.2.2⟩
    ·intro x s c kl y ps w3 cnt1 hkey hlk hv hat hrg3 hlt hg3 hs3' hen;obtain⟨x',s',e,hxs,hsw⟩:=zFp hkey;obtain⟨rfl,rfl⟩:x=x'/\s=s':=by simpa using e
     obtain rfl:plL (x,s)=kl:=Option.some.inj ((keyP hxs hsw).symm.trans hkey);have HD:Hid (has D (plL (x,s))=true):=zHl hat;have Hlk:=Lib.hid hlk;have Hgne:Hid (W1.heap.size≠gm):=by have:=HW1.out;unfold Hid;omega
     have Hgm:Hid (W1.heap.size=gm+1):=HW1.out;have Hs3:=Lib.hid hs3';have hs3b:W1.heap.size+1<=w3.heap.size:=by omega
     clear hs3';have hG3:=hG.grown hg3 (fun e=>by have:=Option.some.inj e;exact Hgne.out this.symm) (fun j e=>by have:=Option.some.inj e;omega);have Hf3:Hid (Fr (From w.heap.size) w w3):=Hf.out.step (Fr.of_grown_some hg3) (fun b hb e=>by unfold Is at e;unfold From;have:=Hmw.out;have:=HW1.out;omega);clear hlk hat hv e hkey hg3 Hf hG;have hrg4:=hrg3.alloc (.cells #[.string x,.int .i64 s] 311);have hx4:Fr No w3 (w3.alloc (.cells #[.string x,.int .i64 s] 311)):=(Fr.refl _ _).alloc _;have hG4:=hG3.grown (hx4.grown (row:=none) (fun _ h=>h.elim)) (by simp) (fun j e=>by cases e);have HW4:Hid ((w3.alloc (.cells #[.string x,.int .i64 s] 311)).heap.size=w3.heap.size+1):=by unfold Hid;simp
     have q4:=zD w3 (.cells #[.string x,.int .i64 s] 311)
     go_upto_region 14 with(fail)
     generalize w3.alloc (.cells #[.string x,.int .i64 s] 311)=W4 at *;have hs4:=hx4.size;have hl4:=zE q4;have Hf4:Hid (Fr (From w.heap.size) w W4):=Hf3.out.step hx4 (fun _ _ h=>h.elim);clear hx4 hG3 hrg3 Hf3 hen;refine zY (fun b=>b=gm\/(W1.heap.size+1<=b/\b<w3.heap.size)) (.q 0 (.q 1 (.q 2 (.q 3 (.q 4 (.q 5 (.q 7 (.q 8 (.m2 6 (.m1 9 (.m1 10 (.m1 11 .fin))) 9 (.m1 6 (.m1 10 (.m1 11 .fin)))))))))))) _ (by kernel_rfl) (by kernel_rfl) (fun w0 hf0=>?_) (fun _ _ h=>h);have hgr0:=hf0.grown (row:=none) (fun _ h=>h.elim);have hG0:=hG4.grown hgr0 (by simp) (fun j e=>by cases e);have hrg0:=hrg4.kept hgr0 (by simp) (by simp);have q0:=hf0.heap q4 id;have hs0:=hf0.size;have Hf0:Hid (Fr (From w.heap.size) w w0):=Hf4.out.step hf0 (fun _ _ h=>h.elim);have c0:∀ g:Gr (fun b=>b=gm\/(W1.heap.size+1<=b/\b<w3.heap.size)) w0,g.W.cell? ⟨w3.heap.size,0,none⟩=some (.string x):=fun g=>g.fr.cell (zB q0 0) (fun h=>by have:=HW1.out;rcases h with h | h<;>dsimp only at h<;>omega)
     have c1:∀ g:Gr (fun b=>b=gm\/(W1.heap.size+1<=b/\b<w3.heap.size)) w0,g.W.cell? ⟨w3.heap.size,1,none⟩=some (.int .i64 s):=fun g=>g.fr.cell (zB q0 1) (fun h=>by have:=HW1.out;rcases h with h | h<;>dsimp only at h<;>omega)
     obtain⟨v,hrun,hoi4,hlen,hback⟩:=hG4.look (by unfold maxLen;omega) hxs;have hoi:=hoi4.kept hgr0 (row:=none) (by cases v.ownBlock<;>simp);have hmb0:gm<w0.heap.size:=hG0.lt;have hmap0:w0.heap[gm]?=W4.heap[gm]?:=hf0.block gm hG4.lt id;have Hvb:Hid (∀ b,v.ownBlock=some b->W1.heap.size+1<=b/\b<w3.heap.size):=fun b e=>by
      have h1:=zN hoi4.1 e;have h2:=zU hoi4.1 e;have h3:=BlkT.ne hoi4.1 (a:=some ⟨w3.heap.size,0,none⟩) (T:=311) (fun ad e=>by cases e;exact⟨_,q4⟩) (by decide) _ rfl;have h4:=HW4.out;have h5:b≠w3.heap.size:=fun e'=>h3 (by rw[e,e'])
      unfold From at h1;omega
     have Hback:=Lib.hid hback;have HA:Hid (∀ (av:Option Addr) (wb:World) (vb:Value),w0.grownBy wb v.ownBlock->wb.ownsRow (W1.heap.size+1) 3 1 vb ((f (kb x)).length+1) ((f (kb x)).map (Value.int .i64)++[.int .i64 s])->(vb.ownBlock=v.ownBlock\/vb.ownBlock=some (w0.heap.size+1))->
       ∃ w6,(Instr.mapUpdate 314 (.map (some gm)) (.string x) vb).run Tryz.prog wb=.ok () w6/\GMap w6 (W1.heap.size+1) gm (fun z=>if z=kb x then f (kb x)++[s]else f z) (N+1)/\w6.ranges Tryz.prog 311 heldV w.heap.size W1.heap.size n D (fun z=>left z&&!z.sameKey (plL (x,s))) cnt1/\Fr (fun b=>b=gm\/(W1.heap.size+1<=b/\b<w3.heap.size)) wb w6/\Hid (Fr (From w.heap.size) w w6)/\W1.heap.size+1<=w6.heap.size):=by
      intro av wb vb hg hown hat;obtain⟨w6,r1,r2,r3⟩:=Hback.out s hsw wb vb (hgr0.but _ |>.andThen hg (fun j h=>.inr h)) (hoi.appended hown hsw) (hat.imp id (fun h=>⟨_,h,by omega⟩));have hgm:=Hgm.out;have hwm:=Hmw.out;have hsg:=hg.size;have hs6:=r3.size;refine⟨w6,r1,r2,(hrg0.kept hg ?_ ?_).kept r3 ?_ ?_,(Fr.of_grown_some r3).mono (fun b _ e=>.inl e),(Hf0.out.step (Fr.of_grown hg) ?_).step (Fr.of_grown_some r3) ?_,by omega⟩
      ·intro e;have:=Hvb.out _ e.symm;omega
      ·intro e;have:=Hvb.out _ e.symm;omega
      ·intro e;have:=Option.some.inj e;omega
      ·intro e;have:=Option.some.inj e;omega
      ·intro b hb e;have:=Hvb.out _ e;unfold From;omega
      ·intro b hb e;unfold Is at e;unfold From;omega
     have HGs:Hid (Grp D (fun z=>left z&&!z.sameKey (plL (x,s))) (fun z=>if z=kb x then f (kb x)++[s]else f z)):=HG.out.step hxs hsw Hlk.out HD.out;clear hback Hlk HG
     repeat (apply zM;exact rfl;exact rfl;exact rfl;intro K hK;go_big_quiet_op;go_big_quiet_on)
     clear c0 c1;refine zh rfl rfl ?_ ?_
     ·go_wp2_with (at_lookup;refine zAX rfl _ _ 314 rfl (.map (some gm)) (.string x) v rfl rfl (hrun _ hmap0) ?_)
      refine OnlyN.mk ⟨Fr.refl _ _,?_⟩;refine zH rfl ?_
      go_wp2_with fail
      refine OnlyN.mk ⟨(Fr.refl _ _).alloc _,?_⟩;refine zH rfl ?_
      go_wp2_with (at_builtin;refine wpList_append_own_at _ rfl _ _ 22 rfl (W1.heap.size+1) 3 j0 (.int .i64 0) 1 8 Tryz.underlying22 hj0 hy0 hy1 hy2 rfl (by decide) v _ _ rfl (hoi.1.alloc _) ⟨w0.heap.size,0,none⟩ 1 1 [.int .i64 s] rfl rfl (cell_one_new _ _ _) (ints_oneCell _ [s]) (by unfold maxLen;omega) (by omega) (by simp;omega) ?_;intro vb wb hownb hgrow _ hat)
      have hg1:=(World.grownBy_alloc w0 (.cells #[.int .i64 s] 3) v.ownBlock).andThen hgrow (fun j h=>.inr h);obtain⟨w6,hr6,hG6,hrg6,hf6,Hf6,hs6⟩:=HA.out none wb vb hg1 hownb (by simpa using hat);refine OnlyN.mk ⟨(Fr.of_grown hgrow).mono (fun b _ e=>.inr (Hvb.out b e)),?_⟩;refine zH rfl ?_
      go_wp2_with (at_mapUpdate;refine zDP rfl _ _ _ 314 rfl (.map (some gm)) (.string x) vb rfl rfl rfl hr6 ?_)
      refine OnlyN.mk ⟨hf6,?_⟩;refine zS ?_
      go_wp2_with fail
      go_roundw
      case rel=>exact⟨_,cnt1,N+1,_,hrg6,by omega,hG6,HGs,Hf6,hs6⟩
      case measure=>rw[hrg6.left_eq,hrg.left_eq];exact hlt
     ·go_wp2_with fail
      refine OnlyN.mk ⟨(Fr.refl _ _).alloc _,?_⟩;refine zH rfl ?_
      go_wp2_with (at_lookup;refine zAX rfl _ _ 314 rfl (.map (some gm)) (.string x) v rfl rfl (hrun _ ((((Fr.refl No w0).alloc _).block gm hmb0 id).trans hmap0)) ?_)
      refine OnlyN.mk ⟨Fr.refl _ _,?_⟩;refine zH rfl ?_
      go_wp2_with (at_builtin;refine wpList_append_own_at _ rfl _ _ 22 rfl (W1.heap.size+1) 3 j0 (.int .i64 0) 1 8 Tryz.underlying22 hj0 hy0 hy1 hy2 rfl (by decide) v _ _ rfl (hoi.1.alloc _) ⟨w0.heap.size,0,none⟩ 1 1 [.int .i64 s] rfl rfl (cell_one_new _ _ _) (ints_oneCell _ [s]) (by unfold maxLen;omega) (by omega) (by simp;omega) ?_;intro vb wb hownb hgrow _ hat)
      have hg1:=(World.grownBy_alloc w0 (.cells #[.int .i64 s] 3) v.ownBlock).andThen hgrow (fun j h=>.inr h);obtain⟨w6,hr6,hG6,hrg6,hf6,Hf6,hs6⟩:=HA.out none wb vb hg1 hownb (by simpa using hat);refine OnlyN.mk ⟨(Fr.of_grown hgrow).mono (fun b _ e=>.inr (Hvb.out b e)),?_⟩;refine zH rfl ?_
      go_wp2_with (at_mapUpdate;refine zDP rfl _ _ _ 314 rfl (.map (some gm)) (.string x) vb rfl rfl rfl hr6 ?_)
      refine OnlyN.mk ⟨hf6,?_⟩;refine zS ?_
      go_wp2_with fail
      go_roundw
      case rel=>exact⟨_,cnt1,N+1,_,hrg6,by omega,hG6,HGs,Hf6,hs6⟩
      case measure=>rw[hrg6.left_eq,hrg.left_eq];exact hlt
end Go.Proofs.YtmajgldaplkpiaaGreatDoor
