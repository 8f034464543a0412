import Derived.Test.YtmajgldaplkpiaaGreatDoorQ28
namespace Go.Proofs.YtmajgldaplkpiaaGreatDoor
open Go.RowKit Go.Maps
set_option linter.unusedVariables false
set_option maxRecDepth 100000
set_option maxHeartbeats 3000000
structure Fit (c:Ct):Prop where
 good:c.good=true
 depth:c.depth<=6
 len:c.text.length<=256
 count:c.count<=10000
theorem Fit.valid {c:Ct}(h:Fit c):c.valid=true:=by unfold Ct.valid;rw[h.good,decide_eq_true h.depth];rfl
theorem Fit.small {c:Ct}(h:Fit c):∀ d∈c.walk,SmallC 100000 d:=fun d hd=>by
 have h1:=h.good;rw[zC0]at h1;have h2:=List.all_eq_true.1 h1 d hd;obtain⟨k,i,l,s,t,e,n⟩:=d;obtain⟨h3,h4⟩:=zDG h2;exact⟨Nat.le_trans h3 (by omega),Nat.le_trans h4 (by omega)⟩
theorem zBD {s:ByteArray}{c:Ct}(h:parseC s=some c):Fit c/\c.txt=s:=by
 have h1:=(zBC s c).1 h;obtain⟨hl,hv,ht⟩:=h1;have hv':=hv;unfold Ct.valid at hv';rw[Bool.and_eq_true,decide_eq_true_eq]at hv';refine⟨⟨hv'.2,hv'.1,by rw[ht];exact hl,?_⟩,zCM (by rw[zB3,ht])⟩;have h2:¬ 256<(bl s).length:=by omega
 unfold parseC at h;rw[if_neg h2]at h;split at h
 ·rename_i c' hp;have h3:=(zDu _).1 _ _ _ hp;split at h
  ·injection h with h
   subst h;have h4:c'.count+([]:List UInt8).length<=(bl s).length+1:=h3;rw[List.length_nil]at h4;omega
  ·cases h
 ·cases h
theorem Fit.inner {k s t e:Int}{i l:ByteArray}{n:List Ct}(h:Fit (.mk k i l s t e n)){d:Ct}(hd:d∈n):Fit d:=by
 have hg:=zCG h.good;have hi:=zK0 h.good;have h1:=zCI (List.mem_map_of_mem (f:=Ct.text) hd);have h2:(commas (n.map Ct.text)).length<=_:=hi;have h3:=h.len;have h4:=zAo hd;have h5:=zEW hd;have h6:=h.depth;have h7:=h.count;rw[Ct.count]at h7;rw[Ct.depth]at h6;exact⟨List.all_eq_true.1 hg.2 d hd,by split at h6<;>omega,by omega,by omega⟩
theorem zI2 (k s t e:Int)(i l:ByteArray)(n:List Ct)(a:Option Addr)(cap:Nat)(w:World)(X:Nat->Prop)(hin:InAt w X a cap n)(hF:Fit (.mk k i l s t e n)):
  Calls Tryz.prog 259 #[.agg #[.int .i64 k,.string i,.string l,.int .i64 s,.int .i64 t,.int .i64 e,.slice a n.length cap]] w fun en w2=>en=.returned (.tuple #[.string (Ct.mk k i l s t e n).txt,.int .i64 0])/\Fr No w w2:=by
 have h0:Fr No w (w.alloc (.cells #[.int .i64 k,.string i,.string l,.int .i64 s,.int .i64 t,.int .i64 e,.slice a n.length cap] 256)):=(Fr.refl _ _).alloc _;have q1:=zD w (.cells #[.int .i64 k,.string i,.string l,.int .i64 s,.int .i64 t,.int .i64 e,.slice a n.length cap] 256);obtain⟨W0,hW0⟩:∃ W0,W0=w.alloc (.cells #[.int .i64 k,.string i,.string l,.int .i64 s,.int .i64 t,.int .i64 e,.slice a n.length cap] 256):=⟨_,rfl⟩
 rw[<-hW0]at h0 q1;have hin0:=hin.fr h0 (fun _ _=>id);have H0:=Lib.hid h0;have hck:=zH2 (.mk k i l s t e n) X _ W0 (CAt.of_in hin0 k i l s t e) hF.count hF.small;rw[if_pos hF.valid]at hck;have hcl:=hF.count;have hlen:=hF.len;have hts:(Ct.mk k i l s t e n).txt.size<=256:=hlen;have HF:=Lib.hid hF;clear hF h0 hin;obtain⟨a0,a1,a2,a3,a4,a5,a6⟩:=cl7 q1
 go_enter Tryz.func259,Tryz.ntmps259
 go_upto_region 1 with(fail)
 rw[<-hW0];clear hW0
 go_wp2_with fail
 refine hck.mono ?_;rintro en w1 ⟨rfl,hf1⟩;have q2:=hf1.heap q1 id;have Hf1:=Lib.hid (H0.out.step hf1 (fun _ _ h=>h));have hin1:=hin0.fr hf1 (fun _ _=>id);have htx:=zIz 10000 (by omega) k s t e i l n a cap w1 X (by rw[Ct.count]at hcl;omega) hin1 HF.out.good (by omega);obtain⟨tx,htxe⟩:∃ tx,tx=(Ct.mk k i l s t e n).txt:=⟨_,rfl⟩
 rw[<-htxe]at htx hts;have Htx:=Lib.hid htxe;clear htxe;clear a0 a1 a2 a3 a4 a5 a6 q1 hck hin0 hf1;obtain⟨a0,a1,a2,a3,a4,a5,a6⟩:=cl7 q2
 go_wp2_with fail
 refine htx.mono ?_;rintro en w2 ⟨rfl,hf2⟩;have Hf2:=Lib.hid (Hf1.out.step hf2 (fun _ _ h=>h));have hts':¬ (256:Int)<(tx.size:Int):=by omega
 clear a0 a1 a2 a3 a4 a5 a6 hin1 htx
 go_wp2_with fail
 go_ret2
 exact⟨by rw[<-Htx.out];rfl,Hf2.out⟩
def zKY (w:World)(s:ByteArray)(kd:Int)(e:Ending)(w':World):Prop:=
 ((∀ c,parseC s=some c->c.kind≠kd)/\e=.returned (.tuple #[.agg #[.int .i64 0,.string ⟨#[]⟩,.string ⟨#[]⟩,.int .i64 0,.int .i64 0,.int .i64 0,.slice none 0 0],.slice none 0 0,.bool false]))\/
 (∃ (k sl t le:Int) (i l:ByteArray) (n:List Ct) (a a':Option Addr) (cap cap':Nat),parseC s=some (.mk k i l sl t le n)/\k=kd/\e=.returned (.tuple #[.agg #[.int .i64 k,.string i,.string l,.int .i64 sl,.int .i64 t,.int .i64 le,.slice a n.length cap],.slice a' n.length cap',.bool true])/\InAt w' (From w.heap.size) a cap n/\Strs w' a' cap' (n.map Ct.txt)/\∀ ad,a'=some ad->w.heap.size<=ad.block)
theorem zF6 (s:ByteArray)(kd:Int)(w:World)(hE:Env w)(hs:s.size<=100000):
  Calls Tryz.prog 208 #[.string s,.int .i64 kd] w fun en w2=>zKY w s kd en w2/\Fr No w w2:=by
 obtain⟨i0,hi0,hz0,hz1,hz2⟩:=info_parts infoS;have h0:Fr No w (w.alloc (.cells #[.int .i64 0,.string ⟨#[]⟩,.string ⟨#[]⟩,.int .i64 0,.int .i64 0,.int .i64 0,.slice none 0 0] 256)):=(Fr.refl _ _).alloc _;have q0:=zD w (.cells #[.int .i64 0,.string ⟨#[]⟩,.string ⟨#[]⟩,.int .i64 0,.int .i64 0,.int .i64 0,.slice none 0 0] 256);have hsz:w.heap.size<(w.alloc (.cells #[.int .i64 0,.string ⟨#[]⟩,.string ⟨#[]⟩,.int .i64 0,.int .i64 0,.int .i64 0,.slice none 0 0] 256)).heap.size:=by simp
 obtain⟨W0,hW0⟩:∃ W0,W0=w.alloc (.cells #[.int .i64 0,.string ⟨#[]⟩,.string ⟨#[]⟩,.int .i64 0,.int .i64 0,.int .i64 0,.slice none 0 0] 256):=⟨_,rfl⟩
 rw[<-hW0]at h0 q0 hsz;have hpa:=zKO s W0 (hE.no h0) hs;have H0:=Lib.hid h0;clear h0 hE
 go_enter Tryz.func208,Tryz.ntmps208
 go_upto_region 1 with(fail)
 rw[<-hW0];clear hW0
 go_wp2_with fail
 refine hpa.mono ?_;rintro en w1 ⟨hres,hf1⟩;have hs1:=hf1.size;have q1:=hf1.heap q0 id;have Hf1:=Lib.hid (H0.out.step hf1 (fun _ _ h=>h));clear hpa q0 hf1;rcases hres with⟨er,hpn,her,rfl⟩ | ⟨vs,c,hpc,rfl,hca⟩
 ·have Hn:Hid (∀ c,parseC s=some c->c.kind≠kd):=fun c h=>by rw[hpn]at h;cases h
  clear hpn;have hx:Fr No w1 (w1.alloc (.cells #[.int .i64 0,.string ⟨#[]⟩,.string ⟨#[]⟩,.int .i64 0,.int .i64 0,.int .i64 0,.slice none 0 0] 256)):=(Fr.refl _ _).alloc _;have q2:=hx.heap q1 id;have qt:=zD w1 (.cells #[.int .i64 0,.string ⟨#[]⟩,.string ⟨#[]⟩,.int .i64 0,.int .i64 0,.int .i64 0,.slice none 0 0] 256);have Hf2:=Lib.hid (Hf1.out.step hx (fun _ _ h=>h));clear q1 hx
  go_upto_region 2 with(fail)
  generalize w1.alloc (.cells #[.int .i64 0,.string ⟨#[]⟩,.string ⟨#[]⟩,.int .i64 0,.int .i64 0,.int .i64 0,.slice none 0 0] 256)=W2 at *;obtain⟨b0,b1,b2,b3,b4,b5,b6⟩:=cl7 q2;obtain⟨f0,f1,f2,f3,f4,f5,f6⟩:=fl7 q2;have h7:=set7 q2 rfl (.int .i64 0) (.string ⟨#[]⟩) (.string ⟨#[]⟩) (.int .i64 0) (.int .i64 0) (.int .i64 0) (.slice none 0 0);have Hfin:=Lib.hid (Hf2.out.step h7.2 (fun b hb h=>by unfold Is at h;omega));have Hq:=Lib.hid h7.1;clear h7
  go_wp2_with fail
  have y0:=zB Hq.out 0;have y1:=zB Hq.out 1;have y2:=zB Hq.out 2;have y3:=zB Hq.out 3;have y4:=zB Hq.out 4;have y5:=zB Hq.out 5;have y6:=zB Hq.out 6;refine bodyPost_ret (v:=.tuple #[.agg #[.int .i64 0,.string ⟨#[]⟩,.string ⟨#[]⟩,.int .i64 0,.int .i64 0,.int .i64 0,.slice none 0 0],.slice none 0 0,.bool false]) (by simp[results,Tryz.results208,go_sem,y0,y1,y2,y3,y4,y5,y6]) rfl ?_;exact⟨.inl ⟨Hn.out,rfl⟩,Hfin.out⟩
 ·obtain⟨k,i,l,sl,t,le,n⟩:=c;obtain⟨hFit,htxt⟩:=zBD hpc;obtain⟨a,cap,rfl,hin⟩:=hca.inAt;have Hpc:=Lib.hid hpc;clear hpc hca htxt;have hx:Fr No w1 (w1.alloc (.cells #[.int .i64 k,.string i,.string l,.int .i64 sl,.int .i64 t,.int .i64 le,.slice a n.length cap] 256)):=(Fr.refl _ _).alloc _;have q2:=hx.heap q1 id;have qt:=zD w1 (.cells #[.int .i64 k,.string i,.string l,.int .i64 sl,.int .i64 t,.int .i64 le,.slice a n.length cap] 256);have Hf2:=Lib.hid (Hf1.out.step hx (fun _ _ h=>h));have Hin2:=Lib.hid (hin.fr hx (fun _ _=>id));have HFit:=Lib.hid hFit;clear q1 hx hin hFit
  go_upto_region 2 with(fail)
  generalize w1.alloc (.cells #[.int .i64 k,.string i,.string l,.int .i64 sl,.int .i64 t,.int .i64 le,.slice a n.length cap] 256)=W2 at *;obtain⟨zt0,zt1,zt2,zt3,zt4,zt5,zt6⟩:=cl7 qt;by_cases hk:k=kd
  ·have Hk:=Lib.hid hk;subst hk;have hcl:=HFit.out.count;rw[Ct.count]at hcl;have hnl:=zAN n;have ht2:=zE qt
   go_wp2_with fail
   go_loopw [9,31] (fun v x wr=>∃ (j:Nat) (av:Option Addr) (cv:Nat),j<=n.length/\v=.slice av j cv/\x=.int .i64 (j:Int)/\wr.ownsRow W2.heap.size 9 1 (.slice av j cv) j (((n.take j).map Ct.txt).map Value.string)/\Fr (From W2.heap.size) W2 wr) (fun _ x _=>n.length-(intOf x).toNat)
   case atStart=>exact⟨0,none,0,by omega,rfl,rfl,World.ownsRow_nil _ _ _ _,Fr.refl _ _⟩
   case round=>
    obtain⟨j,av,cv,hj,rfl,rfl,hown,hfr⟩:=hrel;by_cases hlt:j<n.length
    ·have hlt':(j:Int)<n.length:=by omega
     obtain⟨d,hd⟩:∃ d,n[j]?=some d:=⟨_,List.getElem?_eq_getElem hlt⟩
     have hdm:=List.mem_of_getElem? hd;have hdF:=HFit.out.inner hdm;have Htk:Hid (((n.take (j+1)).map Ct.txt).map Value.string=((n.take j).map Ct.txt).map Value.string++[.string d.txt]):=by unfold Hid;rw[List.take_add_one,hd];simp
     obtain⟨k1,i1,l1,s1,t1,e1,n1⟩:=d;have hin3:InAt wr (fun b=>b<W2.heap.size) a cap n:=by
      have h3:=Hin2.out.mono (Y:=fun b=>b<W2.heap.size) (fun b hb _=>hb);exact h3.fr hfr (fun b hb h=>by unfold From at h;omega)
     obtain⟨b,off,a',cap',rfl,hb,hX,⟨y0,y1,y2,y3,y4,y5,y6⟩,hin1⟩:=hin3.at hd;have hsr:=hfr.size;clear hd hin3 hdm zt0 zt1 zt2 zt3 zt4 zt5 zt6;have hx:Fr No wr (wr.alloc (.cells #[.int .i64 k1,.string i1,.string l1,.int .i64 s1,.int .i64 t1,.int .i64 e1,.slice a' n1.length cap'] 256)):=(Fr.refl _ _).alloc _;have hfm:=zI2 k1 s1 t1 e1 i1 l1 n1 a' cap' _ _ (hin1.fr hx (fun _ _=>id)) hdF;obtain⟨tx,htxe⟩:∃ tx,tx=(Ct.mk k1 i1 l1 s1 t1 e1 n1).txt:=⟨_,rfl⟩
     rw[<-htxe]at hfm Htk;clear htxe hdF
     go_wp2_with fail
     refine hfm.mono ?_;rintro e w2 ⟨rfl,hf2⟩;have hxf:=hx.step hf2 (fun _ _ h=>h);have Hfr:=Lib.hid (hfr.step hxf (fun _ _ h=>h.elim));have hown2:=zu hown hxf (fun _ _ h=>h);have hs2:=hxf.size;clear hx hf2 hfr y0 y1 y2 y3 y4 y5 y6 hin1 hown hxf hfm
     go_wp2_with (at_builtin;refine wpList_append_own _ rfl _ _ 44 rfl W2.heap.size 9 i0 (.string ByteArray.empty) 1 16 Tryz.underlying44 hi0 hz0 hz1 hz2 rfl (by decide) _ _ _ rfl (hown2.alloc _) ⟨w2.heap.size,0,none⟩ 1 1 [.string tx] rfl rfl (cell_one_new _ _ _) (zBO [tx]) (by unfold maxLen;omega) (by omega) (by first | omega | (simp;done) | (simp;omega)) ?_;intro v' wb hownb hgrow _;obtain⟨avb,cvb,rfl⟩:=zG hownb)
     have hg6:Fr (From W2.heap.size) w2 wb:=zAi hown2 hgrow;have Hg6:=Lib.hid (Hfr.out.step hg6 (fun _ _ h=>h));have Hown:=Lib.hid hownb;clear hownb hgrow hg6 hown2
     go_roundw
     case rel=>exact⟨j+1,avb,cvb,by omega,rfl,by go_num,by rw[Htk.out];exact Hown.out,Hg6.out⟩
     case measure=>simp[intOf];omega
    ·have hlt':¬ (j:Int)<n.length:=by omega
     obtain rfl:j=n.length:=by omega
     rw[List.take_length]at hown;have q3:=hfr.heap q2 (fun h=>by unfold From at h;omega);have qt3:=hfr.heap qt (fun h=>by unfold From at h;omega);have Hf3:=Lib.hid (Hf2.out.trans (U:=No) hfr (fun _ _ h=>h) (fun b hb h=>by have:=Hf2.out.size;unfold From at h;omega));have hin3:InAt wr (fun b=>w.heap.size<b) a cap n:=by
      have h3:=Hin2.out.mono (Y:=fun b=>w.heap.size<b/\b<W2.heap.size) (fun b hb h=>⟨by unfold From at h;omega,hb⟩);exact(h3.fr hfr (fun b hb h=>by unfold From at h;omega)).mono (fun b _ h=>h.1)
     have hlen:(n.map Ct.txt).length=n.length:=List.length_map _;have hst:∃ a' cap',Value.slice av n.length cv=.slice a' (n.map Ct.txt).length cap'/\Strs wr a' cap' (n.map Ct.txt)/\∀ ad,a'=some ad->W2.heap.size<=ad.block:=Strs.of_own (by rw[hlen];exact hown);obtain⟨a2,cap2,ev,hst,hfresh⟩:=hst;rw[hlen]at ev;cases ev;have Hst:=Lib.hid hst;have Hfresh:=Lib.hid hfresh;have Hin3:=Lib.hid hin3;clear hfr q2 qt hown hst hin3 hfresh hlen zt0 zt1 zt2 zt3 zt4 zt5 zt6;obtain⟨zt0,zt1,zt2,zt3,zt4,zt5,zt6⟩:=cl7 qt3;obtain⟨b0,b1,b2,b3,b4,b5,b6⟩:=cl7 q3;obtain⟨f0,f1,f2,f3,f4,f5,f6⟩:=fl7 q3;have h7:=set7 q3 rfl (.int .i64 k) (.string i) (.string l) (.int .i64 sl) (.int .i64 t) (.int .i64 le) (.slice a n.length cap);have Hfin:=Lib.hid (Hf3.out.step h7.2 (fun b hb h=>by unfold Is at h;omega));have Hst4:=Lib.hid (Hst.out.fr h7.2 (fun ad e hne h=>by have:=Hfresh.out ad e;unfold Is at h;omega));have Hin4:=Lib.hid ((Hin3.out.fr h7.2 (fun b hb h=>by unfold Is at h;omega)).mono (Y:=From w.heap.size) (fun b _ h=>by unfold From;omega));have Hq:=Lib.hid h7.1;clear h7
     go_wp2_with fail
     have y0:=zB Hq.out 0;have y1:=zB Hq.out 1;have y2:=zB Hq.out 2;have y3:=zB Hq.out 3;have y4:=zB Hq.out 4;have y5:=zB Hq.out 5;have y6:=zB Hq.out 6;refine bodyPost_ret (v:=.tuple #[.agg #[.int .i64 k,.string i,.string l,.int .i64 sl,.int .i64 t,.int .i64 le,.slice a n.length cap],.slice av n.length cv,.bool true]) (by simp[results,Tryz.results208,go_sem,y0,y1,y2,y3,y4,y5,y6]) rfl ?_;exact⟨.inr ⟨k,sl,t,le,i,l,n,a,av,cap,cv,Hpc.out,rfl,rfl,Hin4.out,Hst4.out,fun ad e=>by have:=Hfresh.out ad e;omega⟩,Hfin.out⟩
  ·have Hq2:=Lib.hid q2;clear zt1 zt2 zt3 zt4 zt5 zt6 q2 qt;have Hn:Hid (∀ c,parseC s=some c->c.kind≠kd):=fun c h=>by rw[Hpc.out]at h;cases h;exact hk
   go_upto_region 3 with(fail)
   have q2:=Hq2.out;clear zt0;obtain⟨b0,b1,b2,b3,b4,b5,b6⟩:=cl7 q2;obtain⟨f0,f1,f2,f3,f4,f5,f6⟩:=fl7 q2;have h7:=set7 q2 rfl (.int .i64 0) (.string ⟨#[]⟩) (.string ⟨#[]⟩) (.int .i64 0) (.int .i64 0) (.int .i64 0) (.slice none 0 0);have Hfin:=Lib.hid (Hf2.out.step h7.2 (fun b hb h=>by unfold Is at h;omega));have Hq:=Lib.hid h7.1;clear h7
   go_wp2_with fail
   have y0:=zB Hq.out 0;have y1:=zB Hq.out 1;have y2:=zB Hq.out 2;have y3:=zB Hq.out 3;have y4:=zB Hq.out 4;have y5:=zB Hq.out 5;have y6:=zB Hq.out 6;refine bodyPost_ret (v:=.tuple #[.agg #[.int .i64 0,.string ⟨#[]⟩,.string ⟨#[]⟩,.int .i64 0,.int .i64 0,.int .i64 0,.slice none 0 0],.slice none 0 0,.bool false]) (by simp[results,Tryz.results208,go_sem,y0,y1,y2,y3,y4,y5,y6]) rfl ?_;exact⟨.inl ⟨Hn.out,rfl⟩,Hfin.out⟩
def OfRes2 (w:World)(p s:ByteArray)(rd:Int)(e:Ending)(w':World):Prop:=
 ((∀ c,parseC s=some c->c.kind≠2)/\e=.returned (.tuple #[.agg #[.string ⟨#[]⟩,.string ⟨#[]⟩,.int .i64 0,.int .i64 0,.int .i64 0,.int .i64 0,.slice none 0 0],.bool false]))\/
 (∃ (c:Ct) (a':Option Addr) (cap':Nat),parseC s=some c/\c.kind=2/\e=.returned (.tuple #[.agg #[.string p,.string c.id,.int .i64 rd,.int .i64 c.slot,.int .i64 c.total,.int .i64 c.least,.slice a' c.inner.length cap'],.bool true])/\Strs w' a' cap' (c.inner.map Ct.txt)/\∀ ad,a'=some ad->w.heap.size<=ad.block)
theorem zI8 (p s:ByteArray)(rd:Int)(w:World)(hE:Env w)(hs:s.size<=100000):
  Calls Tryz.prog 152 #[.string p,.int .i64 rd,.string s] w fun en w2=>OfRes2 w p s rd en w2/\Fr No w w2:=by
 have h0:Fr No w (w.alloc (.cells #[.string ⟨#[]⟩,.string ⟨#[]⟩,.int .i64 0,.int .i64 0,.int .i64 0,.int .i64 0,.slice none 0 0] 264)):=(Fr.refl _ _).alloc _;have q0:=zD w (.cells #[.string ⟨#[]⟩,.string ⟨#[]⟩,.int .i64 0,.int .i64 0,.int .i64 0,.int .i64 0,.slice none 0 0] 264);have hsz:w.heap.size<(w.alloc (.cells #[.string ⟨#[]⟩,.string ⟨#[]⟩,.int .i64 0,.int .i64 0,.int .i64 0,.int .i64 0,.slice none 0 0] 264)).heap.size:=by simp
 obtain⟨W0,hW0⟩:∃ W0,W0=w.alloc (.cells #[.string ⟨#[]⟩,.string ⟨#[]⟩,.int .i64 0,.int .i64 0,.int .i64 0,.int .i64 0,.slice none 0 0] 264):=⟨_,rfl⟩
 rw[<-hW0]at h0 q0 hsz;have hrd:=zF6 s 2 W0 (hE.no h0) hs;have H0:=Lib.hid h0;clear h0 hE
 go_enter Tryz.func152,Tryz.ntmps152
 go_upto_region 1 with(fail)
 rw[<-hW0];clear hW0
 go_wp2_with fail
 refine hrd.mono ?_;rintro en w1 ⟨hres,hf1⟩;have hs1:=hf1.size;have q1:=hf1.heap q0 id;have Hf1:=Lib.hid (H0.out.step hf1 (fun _ _ h=>h));clear hrd q0 hf1;rcases hres with⟨hno,rfl⟩ | ⟨k,sl,t,le,i,l,n,a,a',cap,cap',hpc,hk,rfl,hin,hst,hfresh⟩
 ·have Hn:Hid (∀ c,parseC s=some c->c.kind≠2):=hno;have hx:Fr No w1 (w1.alloc (.cells #[.int .i64 0,.string ⟨#[]⟩,.string ⟨#[]⟩,.int .i64 0,.int .i64 0,.int .i64 0,.slice none 0 0] 256)):=(Fr.refl _ _).alloc _;have q2:=hx.heap q1 id;have Hf2:=Lib.hid (Hf1.out.step hx (fun _ _ h=>h));have Hq2:=Lib.hid q2;clear q1 hx hno q2
  go_upto_region 3 with(fail)
  generalize w1.alloc (.cells #[.int .i64 0,.string ⟨#[]⟩,.string ⟨#[]⟩,.int .i64 0,.int .i64 0,.int .i64 0,.slice none 0 0] 256)=W2 at *;have q2:=Hq2.out;obtain⟨b0,b1,b2,b3,b4,b5,b6⟩:=cl7 q2;obtain⟨f0,f1,f2,f3,f4,f5,f6⟩:=fl7 q2;have h7:=set7 q2 rfl (.string ⟨#[]⟩) (.string ⟨#[]⟩) (.int .i64 0) (.int .i64 0) (.int .i64 0) (.int .i64 0) (.slice none 0 0);have Hfin:=Lib.hid (Hf2.out.step h7.2 (fun b hb h=>by unfold Is at h;omega));have Hq:=Lib.hid h7.1;clear h7 q2
  go_wp2_with fail
  have y0:=zB Hq.out 0;have y1:=zB Hq.out 1;have y2:=zB Hq.out 2;have y3:=zB Hq.out 3;have y4:=zB Hq.out 4;have y5:=zB Hq.out 5;have y6:=zB Hq.out 6;refine bodyPost_ret (v:=.tuple #[.agg #[.string ⟨#[]⟩,.string ⟨#[]⟩,.int .i64 0,.int .i64 0,.int .i64 0,.int .i64 0,.slice none 0 0],.bool false]) (by simp[results,Tryz.results152,go_sem,y0,y1,y2,y3,y4,y5,y6]) rfl ?_;exact⟨.inl ⟨Hn.out,rfl⟩,Hfin.out⟩
 ·subst hk;have Hpc:Hid (parseC s=some (.mk 2 i l sl t le n)):=hpc;have Hfresh:=Lib.hid hfresh;have hx:Fr No w1 (w1.alloc (.cells #[.int .i64 2,.string i,.string l,.int .i64 sl,.int .i64 t,.int .i64 le,.slice a n.length cap] 256)):=(Fr.refl _ _).alloc _;have Hq2:=Lib.hid (hx.heap q1 id);have qt:=zD w1 (.cells #[.int .i64 2,.string i,.string l,.int .i64 sl,.int .i64 t,.int .i64 le,.slice a n.length cap] 256);have Hf2:=Lib.hid (Hf1.out.step hx (fun _ _ h=>h));have Hst:=Lib.hid (hst.no hx (fun _=>id));clear q1 hx hst hpc hfresh hin
  go_upto_region 4 with(fail)
  generalize w1.alloc (.cells #[.int .i64 2,.string i,.string l,.int .i64 sl,.int .i64 t,.int .i64 le,.slice a n.length cap] 256)=W2 at *;obtain⟨-,zt1,-,zt3,zt4,zt5⟩:=cl6 qt;have q2:=Hq2.out;clear qt;obtain⟨b0,b1,b2,b3,b4,b5,b6⟩:=cl7 q2;obtain⟨f0,f1,f2,f3,f4,f5,f6⟩:=fl7 q2;have h7:=set7 q2 rfl (.string p) (.string i) (.int .i64 rd) (.int .i64 sl) (.int .i64 t) (.int .i64 le) (.slice a' n.length cap');have Hfin:=Lib.hid (Hf2.out.step h7.2 (fun b hb h=>by unfold Is at h;omega));have Hst4:=Lib.hid (Hst.out.fr h7.2 (fun ad e hne h=>by have:=Hfresh.out ad e;unfold Is at h;omega));have Hq:=Lib.hid h7.1;clear h7 q2
  go_wp2_with fail
  have y0:=zB Hq.out 0;have y1:=zB Hq.out 1;have y2:=zB Hq.out 2;have y3:=zB Hq.out 3;have y4:=zB Hq.out 4;have y5:=zB Hq.out 5;have y6:=zB Hq.out 6;refine bodyPost_ret (v:=.tuple #[.agg #[.string p,.string i,.int .i64 rd,.int .i64 sl,.int .i64 t,.int .i64 le,.slice a' n.length cap'],.bool true]) (by simp[results,Tryz.results152,go_sem,y0,y1,y2,y3,y4,y5,y6]) rfl ?_;exact⟨.inr ⟨.mk 2 i l sl t le n,a',cap',Hpc.out,rfl,rfl,Hst4.out,fun ad e=>by have:=Hfresh.out ad e;omega⟩,Hfin.out⟩
def OfRes (w:World)(p s:ByteArray)(rd:Int)(e:Ending)(w':World):Prop:=
 ((∀ c,parseC s=some c->c.kind≠3)/\e=.returned (.tuple #[.agg #[.string ⟨#[]⟩,.string ⟨#[]⟩,.int .i64 0,.int .i64 0,.int .i64 0,.int .i64 0,.slice none 0 0],.bool false]))\/
 (∃ (c:Ct) (a':Option Addr) (cap':Nat),parseC s=some c/\c.kind=3/\e=.returned (.tuple #[.agg #[.string p,.string c.id,.int .i64 rd,.int .i64 0,.int .i64 0,.int .i64 0,.slice a' c.inner.length cap'],.bool true])/\Strs w' a' cap' (c.inner.map Ct.txt)/\∀ ad,a'=some ad->w.heap.size<=ad.block)
theorem zIw (p s:ByteArray)(rd:Int)(w:World)(hE:Env w)(hs:s.size<=100000):
  Calls Tryz.prog 158 #[.string p,.int .i64 rd,.string s] w fun en w2=>OfRes w p s rd en w2/\Fr No w w2:=by
 have h0:Fr No w (w.alloc (.cells #[.string ⟨#[]⟩,.string ⟨#[]⟩,.int .i64 0,.int .i64 0,.int .i64 0,.int .i64 0,.slice none 0 0] 264)):=(Fr.refl _ _).alloc _;have q0:=zD w (.cells #[.string ⟨#[]⟩,.string ⟨#[]⟩,.int .i64 0,.int .i64 0,.int .i64 0,.int .i64 0,.slice none 0 0] 264);have hsz:w.heap.size<(w.alloc (.cells #[.string ⟨#[]⟩,.string ⟨#[]⟩,.int .i64 0,.int .i64 0,.int .i64 0,.int .i64 0,.slice none 0 0] 264)).heap.size:=by simp
 obtain⟨W0,hW0⟩:∃ W0,W0=w.alloc (.cells #[.string ⟨#[]⟩,.string ⟨#[]⟩,.int .i64 0,.int .i64 0,.int .i64 0,.int .i64 0,.slice none 0 0] 264):=⟨_,rfl⟩
 rw[<-hW0]at h0 q0 hsz;have hrd:=zF6 s 3 W0 (hE.no h0) hs;have H0:=Lib.hid h0;clear h0 hE
 go_enter Tryz.func158,Tryz.ntmps158
 go_upto_region 1 with(fail)
 rw[<-hW0];clear hW0
 go_wp2_with fail
 refine hrd.mono ?_;rintro en w1 ⟨hres,hf1⟩;have hs1:=hf1.size;have q1:=hf1.heap q0 id;have Hf1:=Lib.hid (H0.out.step hf1 (fun _ _ h=>h));clear hrd q0 hf1;rcases hres with⟨hno,rfl⟩ | ⟨k,sl,t,le,i,l,n,a,a',cap,cap',hpc,hk,rfl,hin,hst,hfresh⟩
 ·have Hn:Hid (∀ c,parseC s=some c->c.kind≠3):=hno;have hx:Fr No w1 (w1.alloc (.cells #[.int .i64 0,.string ⟨#[]⟩,.string ⟨#[]⟩,.int .i64 0,.int .i64 0,.int .i64 0,.slice none 0 0] 256)):=(Fr.refl _ _).alloc _;have q2:=hx.heap q1 id;have Hf2:=Lib.hid (Hf1.out.step hx (fun _ _ h=>h));have Hq2:=Lib.hid q2;clear q1 hx hno q2
  go_upto_region 3 with(fail)
  generalize w1.alloc (.cells #[.int .i64 0,.string ⟨#[]⟩,.string ⟨#[]⟩,.int .i64 0,.int .i64 0,.int .i64 0,.slice none 0 0] 256)=W2 at *;have q2:=Hq2.out;obtain⟨b0,b1,b2,b3,b4,b5,b6⟩:=cl7 q2;obtain⟨f0,f1,f2,f3,f4,f5,f6⟩:=fl7 q2;have h7:=set7 q2 rfl (.string ⟨#[]⟩) (.string ⟨#[]⟩) (.int .i64 0) (.int .i64 0) (.int .i64 0) (.int .i64 0) (.slice none 0 0);have Hfin:=Lib.hid (Hf2.out.step h7.2 (fun b hb h=>by unfold Is at h;omega));have Hq:=Lib.hid h7.1;clear h7 q2
  go_wp2_with fail
  have y0:=zB Hq.out 0;have y1:=zB Hq.out 1;have y2:=zB Hq.out 2;have y3:=zB Hq.out 3;have y4:=zB Hq.out 4;have y5:=zB Hq.out 5;have y6:=zB Hq.out 6;refine bodyPost_ret (v:=.tuple #[.agg #[.string ⟨#[]⟩,.string ⟨#[]⟩,.int .i64 0,.int .i64 0,.int .i64 0,.int .i64 0,.slice none 0 0],.bool false]) (by simp[results,Tryz.results158,go_sem,y0,y1,y2,y3,y4,y5,y6]) rfl ?_;exact⟨.inl ⟨Hn.out,rfl⟩,Hfin.out⟩
 ·subst hk;have Hpc:Hid (parseC s=some (.mk 3 i l sl t le n)):=hpc;have Hfresh:=Lib.hid hfresh;have hx:Fr No w1 (w1.alloc (.cells #[.int .i64 3,.string i,.string l,.int .i64 sl,.int .i64 t,.int .i64 le,.slice a n.length cap] 256)):=(Fr.refl _ _).alloc _;have Hq2:=Lib.hid (hx.heap q1 id);have qt:=zD w1 (.cells #[.int .i64 3,.string i,.string l,.int .i64 sl,.int .i64 t,.int .i64 le,.slice a n.length cap] 256);have Hf2:=Lib.hid (Hf1.out.step hx (fun _ _ h=>h));have Hst:=Lib.hid (hst.no hx (fun _=>id));clear q1 hx hst hpc hfresh hin
  go_upto_region 4 with(fail)
  generalize w1.alloc (.cells #[.int .i64 3,.string i,.string l,.int .i64 sl,.int .i64 t,.int .i64 le,.slice a n.length cap] 256)=W2 at *;have zt1:W2.cell? ⟨w1.heap.size,1,none⟩=some (.string i):=zB qt 1;have q2:=Hq2.out;clear qt;obtain⟨b0,b1,b2,b3,b4,b5,b6⟩:=cl7 q2;obtain⟨f0,f1,f2,f3,f4,f5,f6⟩:=fl7 q2;have h7:=set7 q2 rfl (.string p) (.string i) (.int .i64 rd) (.int .i64 0) (.int .i64 0) (.int .i64 0) (.slice a' n.length cap');have Hfin:=Lib.hid (Hf2.out.step h7.2 (fun b hb h=>by unfold Is at h;omega));have Hst4:=Lib.hid (Hst.out.fr h7.2 (fun ad e hne h=>by have:=Hfresh.out ad e;unfold Is at h;omega));have Hq:=Lib.hid h7.1;clear h7 q2
  go_wp2_with fail
  have y0:=zB Hq.out 0;have y1:=zB Hq.out 1;have y2:=zB Hq.out 2;have y3:=zB Hq.out 3;have y4:=zB Hq.out 4;have y5:=zB Hq.out 5;have y6:=zB Hq.out 6;refine bodyPost_ret (v:=.tuple #[.agg #[.string p,.string i,.int .i64 rd,.int .i64 0,.int .i64 0,.int .i64 0,.slice a' n.length cap'],.bool true]) (by simp[results,Tryz.results158,go_sem,y0,y1,y2,y3,y4,y5,y6]) rfl ?_;exact⟨.inr ⟨.mk 3 i l sl t le n,a',cap',Hpc.out,rfl,rfl,Hst4.out,fun ad e=>by have:=Hfresh.out ad e;omega⟩,Hfin.out⟩
def OfRes4 (w:World)(p s:ByteArray)(rd:Int)(e:Ending)(w':World):Prop:=
 ((∀ c,parseC s=some c->c.kind≠4)/\e=.returned (.tuple #[.agg #[.string ⟨#[]⟩,.string ⟨#[]⟩,.int .i64 0,.int .i64 0,.int .i64 0,.int .i64 0,.slice none 0 0],.bool false]))\/
 (∃ (c:Ct) (a':Option Addr) (cap':Nat),parseC s=some c/\c.kind=4/\e=.returned (.tuple #[.agg #[.string p,.string c.id,.int .i64 rd,.int .i64 c.slot,.int .i64 c.total,.int .i64 c.total,.slice a' c.inner.length cap'],.bool true])/\Strs w' a' cap' (c.inner.map Ct.txt)/\∀ ad,a'=some ad->w.heap.size<=ad.block)
theorem zG0 (p s:ByteArray)(rd:Int)(w:World)(hE:Env w)(hs:s.size<=100000):
  Calls Tryz.prog 160 #[.string p,.int .i64 rd,.string s] w fun en w2=>OfRes4 w p s rd en w2/\Fr No w w2:=by
 have h0:Fr No w (w.alloc (.cells #[.string ⟨#[]⟩,.string ⟨#[]⟩,.int .i64 0,.int .i64 0,.int .i64 0,.int .i64 0,.slice none 0 0] 264)):=(Fr.refl _ _).alloc _;have q0:=zD w (.cells #[.string ⟨#[]⟩,.string ⟨#[]⟩,.int .i64 0,.int .i64 0,.int .i64 0,.int .i64 0,.slice none 0 0] 264);have hsz:w.heap.size<(w.alloc (.cells #[.string ⟨#[]⟩,.string ⟨#[]⟩,.int .i64 0,.int .i64 0,.int .i64 0,.int .i64 0,.slice none 0 0] 264)).heap.size:=by simp
 obtain⟨W0,hW0⟩:∃ W0,W0=w.alloc (.cells #[.string ⟨#[]⟩,.string ⟨#[]⟩,.int .i64 0,.int .i64 0,.int .i64 0,.int .i64 0,.slice none 0 0] 264):=⟨_,rfl⟩
 rw[<-hW0]at h0 q0 hsz;have hrd:=zF6 s 4 W0 (hE.no h0) hs;have H0:=Lib.hid h0;clear h0 hE
 go_enter Tryz.func160,Tryz.ntmps160
 go_upto_region 1 with(fail)
 rw[<-hW0];clear hW0
 go_wp2_with fail
 refine hrd.mono ?_;rintro en w1 ⟨hres,hf1⟩;have hs1:=hf1.size;have q1:=hf1.heap q0 id;have Hf1:=Lib.hid (H0.out.step hf1 (fun _ _ h=>h));clear hrd q0 hf1;rcases hres with⟨hno,rfl⟩ | ⟨k,sl,t,le,i,l,n,a,a',cap,cap',hpc,hk,rfl,hin,hst,hfresh⟩
 ·have Hn:Hid (∀ c,parseC s=some c->c.kind≠4):=hno;have hx:Fr No w1 (w1.alloc (.cells #[.int .i64 0,.string ⟨#[]⟩,.string ⟨#[]⟩,.int .i64 0,.int .i64 0,.int .i64 0,.slice none 0 0] 256)):=(Fr.refl _ _).alloc _;have q2:=hx.heap q1 id;have Hf2:=Lib.hid (Hf1.out.step hx (fun _ _ h=>h));have Hq2:=Lib.hid q2;clear q1 hx hno q2
  go_upto_region 3 with(fail)
  generalize w1.alloc (.cells #[.int .i64 0,.string ⟨#[]⟩,.string ⟨#[]⟩,.int .i64 0,.int .i64 0,.int .i64 0,.slice none 0 0] 256)=W2 at *;have q2:=Hq2.out;obtain⟨b0,b1,b2,b3,b4,b5,b6⟩:=cl7 q2;obtain⟨f0,f1,f2,f3,f4,f5,f6⟩:=fl7 q2;have h7:=set7 q2 rfl (.string ⟨#[]⟩) (.string ⟨#[]⟩) (.int .i64 0) (.int .i64 0) (.int .i64 0) (.int .i64 0) (.slice none 0 0);have Hfin:=Lib.hid (Hf2.out.step h7.2 (fun b hb h=>by unfold Is at h;omega));have Hq:=Lib.hid h7.1;clear h7 q2
  go_wp2_with fail
  have y0:=zB Hq.out 0;have y1:=zB Hq.out 1;have y2:=zB Hq.out 2;have y3:=zB Hq.out 3;have y4:=zB Hq.out 4;have y5:=zB Hq.out 5;have y6:=zB Hq.out 6;refine bodyPost_ret (v:=.tuple #[.agg #[.string ⟨#[]⟩,.string ⟨#[]⟩,.int .i64 0,.int .i64 0,.int .i64 0,.int .i64 0,.slice none 0 0],.bool false]) (by simp[results,Tryz.results160,go_sem,y0,y1,y2,y3,y4,y5,y6]) rfl ?_;exact⟨.inl ⟨Hn.out,rfl⟩,Hfin.out⟩
 ·subst hk;have Hpc:Hid (parseC s=some (.mk 4 i l sl t le n)):=hpc;have Hfresh:=Lib.hid hfresh;have hx:Fr No w1 (w1.alloc (.cells #[.int .i64 4,.string i,.string l,.int .i64 sl,.int .i64 t,.int .i64 le,.slice a n.length cap] 256)):=(Fr.refl _ _).alloc _;have Hq2:=Lib.hid (hx.heap q1 id);have qt:=zD w1 (.cells #[.int .i64 4,.string i,.string l,.int .i64 sl,.int .i64 t,.int .i64 le,.slice a n.length cap] 256);have Hf2:=Lib.hid (Hf1.out.step hx (fun _ _ h=>h));have Hst:=Lib.hid (hst.no hx (fun _=>id));clear q1 hx hst hpc hfresh hin
  go_upto_region 4 with(fail)
  generalize w1.alloc (.cells #[.int .i64 4,.string i,.string l,.int .i64 sl,.int .i64 t,.int .i64 le,.slice a n.length cap] 256)=W2 at *;obtain⟨-,zt1,-,zt3,zt4⟩:=cl5 qt;have q2:=Hq2.out;clear qt;obtain⟨b0,b1,b2,b3,b4,b5,b6⟩:=cl7 q2;obtain⟨f0,f1,f2,f3,f4,f5,f6⟩:=fl7 q2;have h7:=set7 q2 rfl (.string p) (.string i) (.int .i64 rd) (.int .i64 sl) (.int .i64 t) (.int .i64 t) (.slice a' n.length cap');have Hfin:=Lib.hid (Hf2.out.step h7.2 (fun b hb h=>by unfold Is at h;omega));have Hst4:=Lib.hid (Hst.out.fr h7.2 (fun ad e hne h=>by have:=Hfresh.out ad e;unfold Is at h;omega));have Hq:=Lib.hid h7.1;clear h7 q2
  go_wp2_with fail
  have y0:=zB Hq.out 0;have y1:=zB Hq.out 1;have y2:=zB Hq.out 2;have y3:=zB Hq.out 3;have y4:=zB Hq.out 4;have y5:=zB Hq.out 5;have y6:=zB Hq.out 6;refine bodyPost_ret (v:=.tuple #[.agg #[.string p,.string i,.int .i64 rd,.int .i64 sl,.int .i64 t,.int .i64 t,.slice a' n.length cap'],.bool true]) (by simp[results,Tryz.results160,go_sem,y0,y1,y2,y3,y4,y5,y6]) rfl ?_;exact⟨.inr ⟨.mk 4 i l sl t le n,a',cap',Hpc.out,rfl,rfl,Hst4.out,fun ad e=>by have:=Hfresh.out ad e;omega⟩,Hfin.out⟩
end Go.Proofs.YtmajgldaplkpiaaGreatDoor
