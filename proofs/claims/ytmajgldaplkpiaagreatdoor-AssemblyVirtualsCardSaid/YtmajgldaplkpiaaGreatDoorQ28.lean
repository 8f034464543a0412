import Derived.Test.YtmajgldaplkpiaaGreatDoorQ27
namespace Go.Proofs.YtmajgldaplkpiaaGreatDoor
open Go.RowKit Go.Maps
set_option linter.unusedVariables false
set_option maxRecDepth 100000
set_option maxHeartbeats 2000000
theorem zHR {w:World}{base:Nat}{ty:TypeId}{sz:Nat}{a:Option Addr}{n c m:Nat}{xs:List Value}(h:w.ownsRow base ty sz (.slice a n c) m xs)(hm:0<m):∃ g off,a=some ⟨g,off,none⟩/\∀ j u,xs[j]?=some u->w.cell? ⟨g,off+j,none⟩=some u:=by
 have hs:=zHP h;obtain⟨_,⟨h1,h2⟩ | ⟨g,cap,cur,h1,_⟩⟩:=h
 ·omega
 ·cases h1;refine⟨g,0,rfl,fun j u hu=>?_⟩;have:=hs _ rfl j u hu
  rwa [Addr.add_lit]at this
theorem zI3 (k s t e:Int)(i l:ByteArray)(n:List Ct)(a:Option Addr)(cap:Nat)(w:World)(hn:n.length<=100000)(his:i.size<=100000)(hls:l.size<=100000):
  Calls Tryz.prog 322 #[.agg #[.int .i64 k,.string i,.string l,.int .i64 s,.int .i64 t,.int .i64 e,.slice a n.length cap]] w fun en w2=>en=.returned (.bool (!alike (.mk k i l s t e n)))/\Fr No w w2:=by
 have h0:Fr No w (w.alloc (.cells #[.int .i64 k,.string i,.string l,.int .i64 s,.int .i64 t,.int .i64 e,.slice a n.length cap] 256)):=(Fr.refl _ _).alloc _;have H0:=Lib.hid h0
 go_enter Tryz.func322,Tryz.ntmps322
 clear h0
 go_wp2_with fail
 refine(zKS k s t e i l n a cap _ hn his hls).mono ?_;rintro en w1 ⟨rfl,hf1⟩;have Hf:=Lib.hid (H0.out.step hf1 (fun _ _ h=>h));clear hf1
 go_wp2_with fail
 go_ret;exact⟨rfl,Hf.out⟩
theorem zKQ (la:Option Addr)(lc:Nat)(cs:List Ct)(xs:List Value)(w:World)(hsh:ShFlat xs cs)(hpos:0<cs.length)(hmax:cs.length<=100000)
  (hc:∃ g off,la=some ⟨g,off,none⟩/\∀ j u,xs[j]?=some u->w.cell? ⟨g,off+j,none⟩=some u) (hsm:∀ d∈cs,SmallC 100000 d/\d.inner.length<=100000):
  Calls Tryz.prog 336 #[.slice la cs.length lc,.func (.func 322) #[] #[]] w fun e w'=>(∃ r:Int,e=.returned (.int .i64 r)/\decide (0<=r)=!cs.all alike)/\Fr No w w':=by
 obtain⟨g,off,rfl,hcell⟩:=hc;have Hcell:=Lib.hid hcell;clear hcell
 go_enter Tryz.func336,Tryz.ntmps336
 go_wp2_with fail
 go_loopw [8] (fun x wr=>∃ j:Nat,j<=cs.length/\x=.int .i64 (j:Int)/\Hid ((cs.take j).all alike=true)/\Fr No w wr) (fun x _=>cs.length-(intOf x).toNat)
 case atStart=>exact⟨0,by omega,rfl,by unfold Hid;simp,Fr.refl _ _⟩
 case round=>
  obtain⟨j,hj,rfl,hno,hfr⟩:=hrel;by_cases hlt:j<cs.length
  ·have hlt':(j:Int)<cs.length:=by omega
   obtain⟨d,hd⟩:∃ d,cs[j]?=some d:=⟨_,List.getElem?_eq_getElem hlt⟩
   have Hmem:=Lib.hid (List.mem_of_getElem? hd);have Htk:Hid (cs.take (j+1)=cs.take j++[d]):=by unfold Hid;rw[List.take_add_one,hd];rfl
   obtain⟨⟨hs1,hs2⟩,hs3⟩:=hsm d Hmem.out;obtain⟨k,i,l,s,t,e,n⟩:=d;obtain⟨a,cap,h7⟩:=hsh.at hd;have y0:wr.cell? ⟨g,off+j*7,none⟩=some (.int .i64 k):=hfr.cell (Hcell.out (j*7+0) _ (h7 0 (by omega))) id;have y1:wr.cell? ⟨g,off+j*7+1,none⟩=some (.string i):=hfr.cell (Hcell.out (j*7+1) _ (h7 1 (by omega))) id;have y2:wr.cell? ⟨g,off+j*7+2,none⟩=some (.string l):=hfr.cell (Hcell.out (j*7+2) _ (h7 2 (by omega))) id;have y3:wr.cell? ⟨g,off+j*7+3,none⟩=some (.int .i64 s):=hfr.cell (Hcell.out (j*7+3) _ (h7 3 (by omega))) id;have y4:wr.cell? ⟨g,off+j*7+4,none⟩=some (.int .i64 t):=hfr.cell (Hcell.out (j*7+4) _ (h7 4 (by omega))) id;have y5:wr.cell? ⟨g,off+j*7+5,none⟩=some (.int .i64 e):=hfr.cell (Hcell.out (j*7+5) _ (h7 5 (by omega))) id;have y6:wr.cell? ⟨g,off+j*7+6,none⟩=some (.slice a n.length cap):=hfr.cell (Hcell.out (j*7+6) _ (h7 6 (by omega))) id;clear hd h7
   go_wp2_with fail
   refine(zI3 k s t e i l n a cap _ hs3 hs1 hs2).mono ?_;rintro en w1 ⟨rfl,hf1⟩;have hfr1:=hfr.step hf1 (fun _ _ h=>h);clear y0 y1 y2 y3 y4 y5 y6 hf1;cases hp:alike (.mk k i l s t e n)
   ·have Hr:Hid (cs.all alike=false):=by unfold Hid;rw[List.all_eq_false];exact⟨_,Hmem.out,by rw[hp];simp⟩
    clear hp
    go_wp2_with fail
    go_ret;exact⟨⟨(j:Int),rfl,by rw[Hr.out];simp⟩,hfr1⟩
   ·have Hn:Hid ((cs.take (j+1)).all alike=true):=by unfold Hid;rw[Htk.out,List.all_append,hno.out];simp[hp]
    clear hp
    go_wp2_with fail
    go_roundw
    case rel=>exact⟨j+1,by omega,by go_num,Hn,hfr1⟩
    case measure=>simp[intOf];omega
  ·have h:=hno.out;rw[List.take_of_length_le (by omega)]at h;have Hp:=Lib.hid h;clear h
   go_wp2_with fail
   go_ret;exact⟨⟨-1,rfl,by rw[Hp.out];rfl⟩,hfr⟩
theorem zGn (la:Option Addr)(lc:Nat)(cs:List Ct)(xs:List Value)(w:World)(hsh:ShFlat xs cs)(hpos:0<cs.length)(hmax:cs.length<=100000)
  (hc:∃ g off,la=some ⟨g,off,none⟩/\∀ j u,xs[j]?=some u->w.cell? ⟨g,off+j,none⟩=some u) (hsm:∀ d∈cs,SmallC 100000 d/\d.inner.length<=100000):
  Calls Tryz.prog 320 #[.slice la cs.length lc,.func (.func 322) #[] #[]] w fun e w'=>e=.returned (.bool (!cs.all alike))/\Fr No w w':=by
 have Hc:=Lib.hid (zKQ la lc cs xs w hsh hpos hmax hc hsm);clear hsh hpos hmax hc hsm
 go_enter Tryz.func320,Tryz.ntmps320
 go_wp2_with fail
 refine Hc.out.mono ?_;rintro e w1 ⟨⟨r,rfl,hr⟩,hf1⟩;have Hr:=Lib.hid hr;clear hr
 go_wp2_with fail
 go_ret;exact⟨zK Hr.out,hf1⟩
theorem zH2 (c:Ct)(X:Nat->Prop)(vs:Array Value)(w:World)(h:CAt w X vs c)(hc:c.count<=10000)(hsm:∀ d∈c.walk,SmallC 100000 d):
  Calls Tryz.prog 297 #[.agg vs] w fun en w2=>en=.returned (.int .i64 (if c.valid=true then 0 else 70))/\Fr No w w2:=by
 obtain⟨rv,hrv⟩:∃ rv:Int,rv=if c.valid=true then 0 else 70:=⟨_,rfl⟩
 rw[<-hrv];have Hrv:=Lib.hid hrv;clear hrv;have hsm2:∀ d∈c.walk,SmallC 100000 d/\d.inner.length<=100000:=fun d hd=>⟨hsm d hd,by have:=zCy hd;omega⟩
 have Hsm:=Lib.hid hsm2;clear hsm hsm2;have hin0:=h;obtain⟨k,i,l,s,t,e,n⟩:=c;obtain⟨a,cap,rfl,hin⟩:=h.inAt;have hdc:=zC7 (.mk k i l s t e n);have h0:Fr No w (w.alloc (.cells #[.int .i64 k,.string i,.string l,.int .i64 s,.int .i64 t,.int .i64 e,.slice a n.length cap] 256)):=(Fr.refl _ _).alloc _;have q1:=zD w (.cells #[.int .i64 k,.string i,.string l,.int .i64 s,.int .i64 t,.int .i64 e,.slice a n.length cap] 256);obtain⟨W0,hW0⟩:∃ W0,W0=w.alloc (.cells #[.int .i64 k,.string i,.string l,.int .i64 s,.int .i64 t,.int .i64 e,.slice a n.length cap] 256):=⟨_,rfl⟩
 rw[<-hW0]at h0 q1;obtain⟨a0,a1,a2,a3,a4,a5,a6⟩:=cl7 q1;have hc0:=hin0.no h0;have H0:=Lib.hid h0;clear h0 hin0 hin
 go_enter Tryz.func297,Tryz.ntmps297
 go_upto_region 1 with(fail)
 rw[<-hW0];clear hW0
 go_wp2_with fail
 refine(zKR hc0 hc).mono ?_;rintro en w1 ⟨rfl,hf1⟩;have hc1:=hc0.no hf1;have q2:=hf1.heap q1 id;have Hf1:=Lib.hid (H0.out.step hf1 (fun _ _ h=>h));clear a0 a1 a2 a3 a4 a5 a6 q1 hf1 hc0;obtain⟨a0,a1,a2,a3,a4,a5,a6⟩:=cl7 q2;by_cases hd:(Ct.mk k i l s t e n).depth<=6
 ·have hd':¬ (6:Int)<((Ct.mk k i l s t e n).depth:Int):=by omega
  have Hd:=Lib.hid hd
  go_wp2_with fail
  obtain⟨a',cap',ev,hin1⟩:=hc1.inAt;cases ev;refine(zIy 10000 (by omega) k s t e i l n a cap _ _ (by rw[Ct.count]at hc;omega) hin1).mono ?_;rintro en w2 ⟨⟨ar,cr,xs,rfl,hsh,hown⟩,hf2⟩;have Hf2:=Lib.hid (Hf1.out.step hf2 (fun _ _ h=>h));have hwl:(Ct.mk k i l s t e n).walk.length=Ct.counts n+1:=by rw[zCP,Ct.count]
  have hcl:=zHR hown (by omega);have hcon:=zGn ar cr (Ct.mk k i l s t e n).walk xs w2 hsh (by omega) (by rw[Ct.count]at hc;omega) hcl Hsm.out;rw[hwl]at hcon;have Hcon:=Lib.hid hcon;clear a0 a1 a2 a3 a4 a5 a6 hcon hcl hown hsh q2 hc1 hwl hin1;generalize Ct.counts n+1=cn at *
  go_wp2_with fail
  refine Hcon.out.mono ?_
  ·rintro e w3 ⟨rfl,hf3⟩;have Hf3:=Lib.hid (Hf2.out.step hf3 (fun _ _ h=>h));have Hv:Hid ((Ct.mk k i l s t e n).valid=(Ct.mk k i l s t e n).walk.all alike):=by unfold Hid Ct.valid;rw[zC0,decide_eq_true Hd.out,Bool.true_and]
   cases hal:(Ct.mk k i l s t e n).walk.all alike with
   | true=>
    have Hal:=Lib.hid hal;clear hal
    go_wp2_with fail
    go_ret;exact⟨by rw[Hrv.out,Hv.out,Hal.out];rfl,Hf3.out⟩
   | false=>
    have Hal:=Lib.hid hal;clear hal
    go_wp2_with fail
    go_ret;exact⟨by rw[Hrv.out,Hv.out,Hal.out];rfl,Hf3.out⟩
 ·have hd':(6:Int)<((Ct.mk k i l s t e n).depth:Int):=by omega
  have Hv:Hid ((Ct.mk k i l s t e n).valid=false):=by unfold Hid Ct.valid;rw[decide_eq_false hd];rfl
  go_wp2_with fail
  go_ret;exact⟨by rw[Hrv.out,Hv.out];rfl,Hf1.out⟩
def PaRes (w:World)(s:ByteArray)(e:Ending)(w':World):Prop:=
 (∃ er:Int,parseC s=none/\er≠0/\e=.returned (.tuple #[.agg #[.int .i64 0,.string ⟨#[]⟩,.string ⟨#[]⟩,.int .i64 0,.int .i64 0,.int .i64 0,.slice none 0 0],.int .i64 er]))\/
 (∃ vs c,parseC s=some c/\e=.returned (.tuple #[.agg vs,.int .i64 0])/\CAt w' (From w.heap.size) vs c)
theorem zIc {s:ByteArray}(hl:s.size<=256):parseC s=match pC (s.size+1) (bl s)with | some (c,[])=>if c.valid=true then some c else none | _=>none:=by
 unfold parseC;rw[if_neg (by show ¬ 256<s.size;omega)];rfl
theorem zKO (s:ByteArray)(w:World)(hE:Env w)(hs:s.size<=100000):
  Calls Tryz.prog 258 #[.string s] w fun en w2=>PaRes w s en w2/\Fr No w w2:=by
 have h0:Fr No w (w.alloc (.cells #[.int .i64 0,.string ⟨#[]⟩,.string ⟨#[]⟩,.int .i64 0,.int .i64 0,.int .i64 0,.slice none 0 0] 256)):=(Fr.refl _ _).alloc _;have q0:=zD w (.cells #[.int .i64 0,.string ⟨#[]⟩,.string ⟨#[]⟩,.int .i64 0,.int .i64 0,.int .i64 0,.slice none 0 0] 256);have hE0:=hE.no h0;have h9:=hE.sz;have hsz:w.heap.size<(w.alloc (.cells #[.int .i64 0,.string ⟨#[]⟩,.string ⟨#[]⟩,.int .i64 0,.int .i64 0,.int .i64 0,.slice none 0 0] 256)).heap.size:=by simp
 obtain⟨W0,hW0⟩:∃ W0,W0=w.alloc (.cells #[.int .i64 0,.string ⟨#[]⟩,.string ⟨#[]⟩,.int .i64 0,.int .i64 0,.int .i64 0,.slice none 0 0] 256):=⟨_,rfl⟩
 rw[<-hW0]at h0 q0 hE0 hsz;have H0:=Lib.hid h0;clear h0 hE
 go_enter Tryz.func258,Tryz.ntmps258
 go_upto_region 1 with(fail)
 rw[<-hW0];clear hW0;by_cases hl:256<s.size
 ·have hl':(256:Int)<(s.size:Int):=by omega
  have Hn:Hid (parseC s=none):=by unfold Hid parseC;rw[if_pos (show 256<(bl s).length from hl)]
  obtain⟨b0,b1,b2,b3,b4,b5,b6⟩:=cl7 q0;obtain⟨f0,f1,f2,f3,f4,f5,f6⟩:=fl7 q0;have h7:=set7 q0 rfl (.int .i64 0) (.string ⟨#[]⟩) (.string ⟨#[]⟩) (.int .i64 0) (.int .i64 0) (.int .i64 0) (.slice none 0 0);have Hfin:=Lib.hid (H0.out.step h7.2 (fun b hb h=>by unfold Is at h;omega));have H72:=Lib.hid h7.2;have Hq:=Lib.hid h7.1;clear h7
  go_wp2_with fail
  have y0:=zB Hq.out 0;have y1:=zB Hq.out 1;have y2:=zB Hq.out 2;have y3:=zB Hq.out 3;have y4:=zB Hq.out 4;have y5:=zB Hq.out 5;have y6:=zB Hq.out 6;refine bodyPost_ret (v:=.tuple #[.agg #[.int .i64 0,.string ⟨#[]⟩,.string ⟨#[]⟩,.int .i64 0,.int .i64 0,.int .i64 0,.slice none 0 0],.int .i64 71]) (by simp[results,Tryz.results258,go_sem,y0,y1,y2,y3,y4,y5,y6]) rfl ?_;exact⟨.inl ⟨71,Hn.out,by decide,rfl⟩,Hfin.out⟩
 ·have hl':¬ (256:Int)<(s.size:Int):=by omega
  have hx:Fr No W0 (W0.alloc (.cells #[.string s,.int .i64 0,.bool false] 346)):=(Fr.refl _ _).alloc _;have q1:=zD W0 (.cells #[.string s,.int .i64 0,.bool false] 346);have hsx:W0.heap.size<(W0.alloc (.cells #[.string s,.int .i64 0,.bool false] 346)).heap.size:=by simp
  have q01:=hx.heap q0 id;have hE1:=hE0.no hx;have Hx:=Lib.hid (H0.out.step hx (fun _ _ h=>h));have hpo:=zIc (s:=s) (by omega);clear q0 hE0 hx
  go_upto_region 4 with(fail)
  generalize W0.alloc (.cells #[.string s,.int .i64 0,.bool false] 346)=W1 at *;have hcur:Cur W1 W0.heap.size s (bl s) false:=⟨0,q1,by omega,by simp[bl]⟩
  have hbl:(bl s).length=s.size:=rfl;have Hpo:=Lib.hid hpo;clear hpo q1
  go_wp2_with fail
  refine(zH1 (s.size+1) W0.heap.size s (bl s) _ (by omega) hcur (by omega) hE1 (by omega)).mono ?_;rintro en w2 ⟨k,i,l,sl,t,le,a,m,c,r',bad',rfl,hr,hc2,hf2,hcase⟩;have hs2:=hf2.size;have q02:=hf2.heap q01 (fun h=>by unfold Is at h;omega);have Hf2:=Lib.hid (Hx.out.step hf2 (fun b hb h=>by unfold Is at h;omega));have hal:Fr No w2 (w2.alloc (.cells #[.int .i64 k,.string i,.string l,.int .i64 sl,.int .i64 t,.int .i64 le,.slice a m c] 256)):=(Fr.refl _ _).alloc _;have q5:=zD w2 (.cells #[.int .i64 k,.string i,.string l,.int .i64 sl,.int .i64 t,.int .i64 le,.slice a m c] 256);have hc3:=hc2.no hal;have q03:=hal.heap q02 id;have Hf3:=Lib.hid (Hf2.out.step hal (fun _ _ h=>h));have Hcase:Hid ((bad'=true/\pC (s.size+1) (bl s)=none)\/(bad'=false/\∃ ct,pC (s.size+1) (bl s)=some (ct,r')/\CAt (w2.alloc (.cells #[.int .i64 k,.string i,.string l,.int .i64 sl,.int .i64 t,.int .i64 le,.slice a m c] 256)) (fun b=>w.heap.size<b) #[.int .i64 k,.string i,.string l,.int .i64 sl,.int .i64 t,.int .i64 le,.slice a m c] ct)):=by
   rcases hcase with h | ⟨h1,ct,h2,h3⟩
   ·exact .inl h
   ·exact .inr ⟨h1,ct,h2,(h3.no hal).mono (fun b _ h=>by unfold From at *;omega)⟩
  clear hcase q01 q02 hc2 hf2 hal hcur hE1
  go_upto_region 5 with(fail)
  generalize w2.alloc (.cells #[.int .i64 k,.string i,.string l,.int .i64 sl,.int .i64 t,.int .i64 le,.slice a m c] 256)=W3 at *;obtain⟨at_,qp,hat,hdr⟩:=hc3.blk;obtain⟨-,p1,p2⟩:=cl3 qp;cases bad' with
  | true=>
   have Hn:Hid (parseC s=none):=by
    unfold Hid;rcases Hcase.out with⟨_,h⟩ | ⟨h,_⟩
    ·rw[Hpo.out,h]
    ·cases h
   clear q5;obtain⟨b0,b1,b2,b3,b4,b5,b6⟩:=cl7 q03;obtain⟨f0,f1,f2,f3,f4,f5,f6⟩:=fl7 q03;have h7:=set7 q03 rfl (.int .i64 0) (.string ⟨#[]⟩) (.string ⟨#[]⟩) (.int .i64 0) (.int .i64 0) (.int .i64 0) (.slice none 0 0);have Hfin:=Lib.hid (Hf3.out.step h7.2 (fun b hb h=>by unfold Is at h;omega));have H72:=Lib.hid h7.2;have Hq:=Lib.hid h7.1;clear h7
   go_wp2_with fail
   have y0:=zB Hq.out 0;have y1:=zB Hq.out 1;have y2:=zB Hq.out 2;have y3:=zB Hq.out 3;have y4:=zB Hq.out 4;have y5:=zB Hq.out 5;have y6:=zB Hq.out 6;refine bodyPost_ret (v:=.tuple #[.agg #[.int .i64 0,.string ⟨#[]⟩,.string ⟨#[]⟩,.int .i64 0,.int .i64 0,.int .i64 0,.slice none 0 0],.int .i64 70]) (by simp[results,Tryz.results258,go_sem,y0,y1,y2,y3,y4,y5,y6]) rfl ?_;exact⟨.inl ⟨70,Hn.out,by decide,rfl⟩,Hfin.out⟩
  | false=>
   have Hc2:Hid (∃ ct,pC (s.size+1) (bl s)=some (ct,r')/\CAt W3 (fun b=>w.heap.size<b) #[.int .i64 k,.string i,.string l,.int .i64 sl,.int .i64 t,.int .i64 le,.slice a m c] ct):=by
    rcases Hcase.out with⟨h,_⟩ | ⟨_,h⟩
    ·cases h
    ·exact h
   by_cases hae:at_=s.size
   ·have hae':(at_:Int)=(s.size:Int):=by omega
    have hr0:r'=[]:=by rw[<-hdr,hae];exact List.drop_eq_nil_of_le (Nat.le_refl _)
    obtain⟨ct,hpc,hca⟩:=Hc2.out;rw[hr0]at hpc;have hcnt:=(zDu _).1 _ _ _ hpc;have hsm:∀ d∈ct.walk,SmallC 100000 d:=fun d hd=>((zHO _).1 _ _ _ hpc d hd).mono (by omega)
    have Hp:Hid (parseC s=if ct.valid=true then some ct else none):=by unfold Hid;rw[Hpo.out,hpc]
    have hck:=zH2 ct _ _ W3 hca (by simp at hcnt;omega) hsm;obtain⟨cv,hcv⟩:∃ cv,cv=ct.valid:=⟨_,rfl⟩
    rw[<-hcv]at hck;have Hcv:=Lib.hid hcv;have Hca:=Lib.hid hca;obtain⟨a0,a1,a2,a3,a4,a5,a6⟩:=cl7 q5;clear hpc hca hsm hcv qp hdr hc3
    go_wp2_with fail
    refine hck.mono ?_;rintro en w4 ⟨rfl,hf4⟩;have q04:=hf4.heap q03 id;have q54:=hf4.heap q5 id;have Hf4:=Lib.hid (Hf3.out.step hf4 (fun _ _ h=>h));have Hca4:=Lib.hid (Hca.out.no hf4);clear a0 a1 a2 a3 a4 a5 a6 hck hf4 p1 p2 q03 q5;cases cv with
    | true=>
     have Hp4:Hid (parseC s=some ct):=by unfold Hid;rw[Hp.out,if_pos Hcv.out.symm]
     simp only[if_true]
     go_upto_region 7 with(fail)
     obtain⟨a0,a1,a2,a3,a4,a5,a6⟩:=cl7 q54;obtain⟨b0,b1,b2,b3,b4,b5,b6⟩:=cl7 q04;obtain⟨f0,f1,f2,f3,f4,f5,f6⟩:=fl7 q04;have h7:=set7 q04 rfl (.int .i64 k) (.string i) (.string l) (.int .i64 sl) (.int .i64 t) (.int .i64 le) (.slice a m c);have Hfin:=Lib.hid (Hf4.out.step h7.2 (fun b hb h=>by unfold Is at h;omega));have H72:=Lib.hid h7.2;have Hca5:=Lib.hid (((Hca4.out.fr h7.2 (fun b hb h=>by unfold Is at h;omega)).mono (Y:=From w.heap.size) (fun b _ h=>by unfold From;omega)));have Hq:=Lib.hid h7.1;clear h7
     go_wp2_with fail
     have y0:=zB Hq.out 0;have y1:=zB Hq.out 1;have y2:=zB Hq.out 2;have y3:=zB Hq.out 3;have y4:=zB Hq.out 4;have y5:=zB Hq.out 5;have y6:=zB Hq.out 6;refine bodyPost_ret (v:=.tuple #[.agg #[.int .i64 k,.string i,.string l,.int .i64 sl,.int .i64 t,.int .i64 le,.slice a m c],.int .i64 0]) (by simp[results,Tryz.results258,go_sem,y0,y1,y2,y3,y4,y5,y6]) rfl ?_;exact⟨.inr ⟨_,ct,Hp4.out,rfl,Hca5.out⟩,Hfin.out⟩
    | false=>
     have Hn:Hid (parseC s=none):=by unfold Hid;rw[Hp.out,if_neg (by rw[<-Hcv.out];simp)]
     simp only[Bool.false_eq_true,if_false];clear q54;obtain⟨b0,b1,b2,b3,b4,b5,b6⟩:=cl7 q04;obtain⟨f0,f1,f2,f3,f4,f5,f6⟩:=fl7 q04;have h7:=set7 q04 rfl (.int .i64 0) (.string ⟨#[]⟩) (.string ⟨#[]⟩) (.int .i64 0) (.int .i64 0) (.int .i64 0) (.slice none 0 0);have Hfin:=Lib.hid (Hf4.out.step h7.2 (fun b hb h=>by unfold Is at h;omega));have H72:=Lib.hid h7.2;have Hq:=Lib.hid h7.1;clear h7
     go_wp2_with fail
     have y0:=zB Hq.out 0;have y1:=zB Hq.out 1;have y2:=zB Hq.out 2;have y3:=zB Hq.out 3;have y4:=zB Hq.out 4;have y5:=zB Hq.out 5;have y6:=zB Hq.out 6;refine bodyPost_ret (v:=.tuple #[.agg #[.int .i64 0,.string ⟨#[]⟩,.string ⟨#[]⟩,.int .i64 0,.int .i64 0,.int .i64 0,.slice none 0 0],.int .i64 70]) (by simp[results,Tryz.results258,go_sem,y0,y1,y2,y3,y4,y5,y6]) rfl ?_;exact⟨.inl ⟨70,Hn.out,by decide,rfl⟩,Hfin.out⟩
   ·have hae':¬ (at_:Int)=(s.size:Int):=by omega
    have Hn:Hid (parseC s=none):=by
     unfold Hid;obtain⟨ct,hpc,hca⟩:=Hc2.out;rw[Hpo.out,hpc];cases hr0:r' with
     | cons x y=>rfl
     | nil=>
      have h:(s.data.toList.drop at_).length=0:=by rw[hdr,hr0];rfl
      have h2:s.data.toList.length=s.size:=rfl;rw[List.length_drop,h2]at h;omega
    clear q5;obtain⟨b0,b1,b2,b3,b4,b5,b6⟩:=cl7 q03;obtain⟨f0,f1,f2,f3,f4,f5,f6⟩:=fl7 q03;have h7:=set7 q03 rfl (.int .i64 0) (.string ⟨#[]⟩) (.string ⟨#[]⟩) (.int .i64 0) (.int .i64 0) (.int .i64 0) (.slice none 0 0);have Hfin:=Lib.hid (Hf3.out.step h7.2 (fun b hb h=>by unfold Is at h;omega));have H72:=Lib.hid h7.2;have Hq:=Lib.hid h7.1;clear h7
    go_wp2_with fail
    have y0:=zB Hq.out 0;have y1:=zB Hq.out 1;have y2:=zB Hq.out 2;have y3:=zB Hq.out 3;have y4:=zB Hq.out 4;have y5:=zB Hq.out 5;have y6:=zB Hq.out 6;refine bodyPost_ret (v:=.tuple #[.agg #[.int .i64 0,.string ⟨#[]⟩,.string ⟨#[]⟩,.int .i64 0,.int .i64 0,.int .i64 0,.slice none 0 0],.int .i64 70]) (by simp[results,Tryz.results258,go_sem,y0,y1,y2,y3,y4,y5,y6]) rfl ?_;exact⟨.inl ⟨70,Hn.out,by decide,rfl⟩,Hfin.out⟩
theorem zI1 (av:Option Addr)(cv base:Nat)(n:List Ct)(w:World)(hown:w.ownsRow base 9 1 (.slice av n.length cv) n.length ((n.map Ct.txt).map Value.string))(hs:(commas (n.map Ct.text)).length<=1000)(hn:n.length<=100000):
  Calls Tryz.prog 77 #[.slice av n.length cv,.string ⟨#[44]⟩] w fun e w'=>e=.returned (.string (inTxt n))/\Fr No w w':=by
 cases n with
 | nil=>
  refine(Tryz.strings_Join_none av cv ⟨#[44]⟩ w).mono ?_;rintro e w1 ⟨rfl,rfl⟩;exact⟨rfl,Fr.refl _ _⟩
 | cons c n=>
  have hlen:((c::n).map Ct.txt).length=(c::n).length:=List.length_map _;rw[<-hlen]at hown ⊢;obtain⟨a,cap,ev,hst,_⟩:=Strs.of_own hown;cases ev;obtain⟨b,off,x,rfl,_,_⟩:=hst.at (k:=0) (by simp);obtain⟨_,hb,hc⟩:=hst.cell _ rfl (by simp);refine(Tryz.strings_Join b off cv _ ⟨#[44]⟩ _ (fun j x hx=>hc j x hx) hb (by rw[hlen];omega) hst.len (by show (Lib.join _ [44]).length<=_;rw[zKz];omega)).mono ?_;rintro e w1 ⟨rfl,hf⟩;exact⟨by rw[<-zHi],Fr.of_below_size hf⟩
theorem zIz (m:Nat):m<=10000->∀ (k s t e:Int) (i l:ByteArray) (n:List Ct) (a:Option Addr) (cap:Nat) (w:World) (X:Nat->Prop),Ct.counts n<m->InAt w X a cap n->(Ct.mk k i l s t e n).good=true->(Ct.mk k i l s t e n).text.length<=1000->
  Calls Tryz.prog 298 #[.agg #[.int .i64 k,.string i,.string l,.int .i64 s,.int .i64 t,.int .i64 e,.slice a n.length cap]] w fun en w2=>en=.returned (.string (Ct.mk k i l s t e n).txt)/\Fr No w w2:=by
 obtain⟨i0,hi0,hz0,hz1,hz2⟩:=info_parts infoS
 induction m with
 | zero=>intro _ k s t e i l n a cap w X h;omega
 | succ m ih=>
  intro hm k s t e i l n a cap w X hcn hin hgood htl;have hnl:=zAN n;have hga:=zCG hgood;have hile:=zK0 hgood;have hkd:=zDj hga.1;obtain⟨his,hls⟩:=zDG hga.1;have hall:∀ d∈n,d.good=true:=fun d hd=>List.all_eq_true.1 hga.2 d hd
  have htx:∀ d∈n,d.text.length<=1000:=fun d hd=>by
   have h1:=zCI (List.mem_map_of_mem (f:=Ct.text) hd);have h2:(commas (n.map Ct.text)).length<=_:=hile;omega
  have hin1000:(commas (n.map Ct.text)).length<=1000:=Nat.le_trans hile htl;have Hall:=Lib.hid hall;have Htx:=Lib.hid htx;have Hkd:=Lib.hid hkd;have Hin1:=Lib.hid hin1000;have h0:Fr No w (w.alloc (.cells #[.int .i64 k,.string i,.string l,.int .i64 s,.int .i64 t,.int .i64 e,.slice a n.length cap] 256)):=(Fr.refl _ _).alloc _;have q1:=zD w (.cells #[.int .i64 k,.string i,.string l,.int .i64 s,.int .i64 t,.int .i64 e,.slice a n.length cap] 256);have hsz:w.heap.size<(w.alloc (.cells #[.int .i64 k,.string i,.string l,.int .i64 s,.int .i64 t,.int .i64 e,.slice a n.length cap] 256)).heap.size:=by simp
  obtain⟨W0,hW0⟩:∃ W0,W0=w.alloc (.cells #[.int .i64 k,.string i,.string l,.int .i64 s,.int .i64 t,.int .i64 e,.slice a n.length cap] 256):=⟨_,rfl⟩
  rw[<-hW0]at h0 q1 hsz;have hin0:=hin.fr h0 (fun _ _=>id);have c6:W0.cell? ⟨w.heap.size,6,none⟩=some (.slice a n.length cap):=zB q1 6;have Ih:=Lib.hid (ih (by omega));have H0:=Lib.hid h0;clear ih hin h0 hkd hall htx hga hgood hile htl
  go_enter Tryz.func298,Tryz.ntmps298
  go_upto_region 1 with(fail)
  rw[<-hW0];clear hW0
  go_wp2_with fail
  go_loopw [3,11] (fun v x wr=>∃ (j:Nat) (av:Option Addr) (cv:Nat),j<=n.length/\v=.slice av j cv/\x=.int .i64 (j:Int)/\wr.ownsRow W0.heap.size 9 1 (.slice av j cv) j (((n.take j).map Ct.txt).map Value.string)/\Fr (From W0.heap.size) W0 wr) (fun _ x _=>n.length-(intOf x).toNat)
  case atStart=>exact⟨0,none,0,by omega,rfl,rfl,World.ownsRow_nil _ _ _ _,Fr.refl _ _⟩
  case round=>
   obtain⟨j,av,cv,hj,rfl,rfl,hown,hfr⟩:=hrel;by_cases hlt:j<n.length
   ·have hlt':(j:Int)<n.length:=by omega
    obtain⟨d,hd⟩:∃ d,n[j]?=some d:=⟨_,List.getElem?_eq_getElem hlt⟩
    have hdm:=List.mem_of_getElem? hd;have hdc:=zAo hdm;have hdg:=Hall.out d hdm;have hdt:=Htx.out d hdm;have Htk:Hid (((n.take (j+1)).map Ct.txt).map Value.string=((n.take j).map Ct.txt).map Value.string++[.string d.txt]):=by unfold Hid;rw[List.take_add_one,hd];simp
    obtain⟨k1,i1,l1,s1,t1,e1,n1⟩:=d;rw[Ct.count]at hdc;have hin2:InAt wr (fun b=>b<W0.heap.size) a cap n:=by
     have h3:=hin0.mono (Y:=fun b=>b<W0.heap.size) (fun b hb _=>hb);exact h3.fr hfr (fun b hb h=>by unfold From at h;omega)
    obtain⟨b,off,a',cap',rfl,hb,hX,⟨y0,y1,y2,y3,y4,y5,y6⟩,hin1⟩:=hin2.at hd;have hsr:=hfr.size;clear hd hin2 hdm
    go_wp2_with fail
    have hx:Fr No wr (wr.alloc (.cells #[.int .i64 k1,.string i1,.string l1,.int .i64 s1,.int .i64 t1,.int .i64 e1,.slice a' n1.length cap'] 256)):=(Fr.refl _ _).alloc _;refine(Ih.out k1 s1 t1 e1 i1 l1 n1 a' cap' _ _ (by omega) (hin1.fr hx (fun _ _=>id)) hdg hdt).mono ?_;rintro e w2 ⟨rfl,hf2⟩;have hxf:=hx.step hf2 (fun _ _ h=>h);have Hfr:=Lib.hid (hfr.step hxf (fun _ _ h=>h.elim));have hown2:=zu hown hxf (fun _ _ h=>h);have hs2:=hxf.size;generalize (Ct.mk k1 i1 l1 s1 t1 e1 n1).txt=tx at *;clear hx hf2 hfr y0 y1 y2 y3 y4 y5 y6 hin1 hown hxf hdg hdt
    go_wp2_with (at_builtin;refine wpList_append_own _ rfl _ _ 44 rfl W0.heap.size 9 i0 (.string ByteArray.empty) 1 16 Tryz.underlying44 hi0 hz0 hz1 hz2 rfl (by decide) _ _ _ rfl (hown2.alloc _) ⟨w2.heap.size,0,none⟩ 1 1 [.string tx] rfl rfl (cell_one_new _ _ _) (zBO [tx]) (by unfold maxLen;omega) (by omega) (by first | omega | (simp;done) | (simp;omega)) ?_;intro v' wb hownb hgrow _;obtain⟨avb,cvb,rfl⟩:=zG hownb)
    have hg6:Fr (From W0.heap.size) w2 wb:=zAi hown2 hgrow;have Hg6:=Lib.hid (Hfr.out.step hg6 (fun _ _ h=>h));have Hown:=Lib.hid hownb;clear hownb hgrow hg6 hown2
    go_roundw
    case rel=>exact⟨j+1,avb,cvb,by omega,rfl,by go_num,by rw[Htk.out];exact Hown.out,Hg6.out⟩
    case measure=>simp[intOf];omega
   ·have hlt':¬ (j:Int)<n.length:=by omega
    obtain rfl:j=n.length:=by omega
    rw[List.take_length]at hown;have r1:=hfr.heap q1 (fun h=>by unfold From at h;omega);have Hfr:=Lib.hid (H0.out.trans (U:=No) hfr (fun _ _ h=>h) (fun b hb h=>by unfold From at h;omega));have hjn:=zI1 av cv _ n wr hown Hin1.out (by omega);clear hfr q1 c6 hown
    go_wp2_with fail
    refine hjn.mono ?_;rintro en w5 ⟨rfl,hf5⟩;have r5:=hf5.heap r1 id;have Hf5:=Lib.hid (Hfr.out.step hf5 (fun _ _ h=>h));have Hu:Hid ((⟨#[40]⟩:ByteArray).size=1/\(⟨#[41]⟩:ByteArray).size=1/\(⟨#[58]⟩:ByteArray).size=1/\(⟨#[47]⟩:ByteArray).size=1):=⟨rfl,rfl,rfl,rfl⟩
    have uin:(inTxt n).size<=1000:=Hin1.out;clear hjn hf5 r1;have b1:¬ 9223372036854775807<1+(inTxt n).size:=by omega
    have b2:¬ 9223372036854775807<1+(inTxt n).size+1:=by omega
    have hb2:(((⟨#[40]⟩:ByteArray)++inTxt n++(⟨#[41]⟩:ByteArray))).size<=1002:=by have hu:=Hu.out;simp only[ByteArray.size_append];omega
    have Hbx:Hid (((⟨#[40]⟩:ByteArray)++inTxt n++(⟨#[41]⟩:ByteArray))=boxed n):=rfl;have Hb2:=Lib.hid hb2;clear uin hb2
    go_upto_region 8 with(fail)
    generalize ((⟨#[40]⟩:ByteArray)++inTxt n++(⟨#[41]⟩:ByteArray))=bx at *;clear b1 b2;obtain⟨a0,a1,a2,a3,a4,a5,a6⟩:=cl7 r5;rcases Hkd.out with⟨rfl | rfl,rfl⟩ | ⟨rfl,h2⟩ | rfl | ⟨rfl,h4⟩ | rfl
    ·go_wp2_with fail
     go_ret;exact⟨by rw[txt0];rfl,Hf5.out⟩
    ·have up:(⟨#[102,115,58]⟩:ByteArray).size=3:=rfl;have hb2:=Hb2.out;have z1:¬ 9223372036854775807<3+i.size:=by omega
     have z2:¬ 9223372036854775807<3+i.size+1:=by omega
     have z3:¬ 9223372036854775807<3+i.size+1+l.size:=by omega
     clear hb2 up
     go_wp2_with fail
     go_ret;exact⟨by rw[txt1];rfl,Hf5.out⟩
    ·obtain⟨p0,p1,p2,p3,p4,p5⟩:=h2;obtain⟨sn,rfl⟩:=Int.eq_ofNat_of_zero_le (show 0<=s by omega);obtain⟨tn,rfl⟩:=Int.eq_ofNat_of_zero_le (show 0<=t by omega);obtain⟨en,rfl⟩:=Int.eq_ofNat_of_zero_le (show 0<=e by omega);have up:(⟨#[114,97,105,100,58]⟩:ByteArray).size=5:=rfl;have hb2:=Hb2.out;obtain⟨I0,hI0⟩:∃ I:ByteArray,I=numBA sn:=⟨_,rfl⟩
     have zi0:I0.size<=2:=by rw[hI0];exact zBq (by omega) (by omega)
     have HI0:=Lib.hid hI0;have G0:∀ W,Calls Tryz.prog 39 #[.int .i64 (sn:Int)] W fun e w'=>e=.returned (.string I0)/\w'=W:=by rw[hI0];exact fun W=>Tryz.strconv_Itoa_small sn (by omega) W
     have HG0:=Lib.hid G0;obtain⟨I1,hI1⟩:∃ I:ByteArray,I=numBA tn:=⟨_,rfl⟩
     have zi1:I1.size<=2:=by rw[hI1];exact zBq (by omega) (by omega)
     have HI1:=Lib.hid hI1;have G1:∀ W,Calls Tryz.prog 39 #[.int .i64 (tn:Int)] W fun e w'=>e=.returned (.string I1)/\w'=W:=by rw[hI1];exact fun W=>Tryz.strconv_Itoa_small tn (by omega) W
     have HG1:=Lib.hid G1;obtain⟨I2,hI2⟩:∃ I:ByteArray,I=numBA en:=⟨_,rfl⟩
     have zi2:I2.size<=2:=by rw[hI2];exact zBq (by omega) (by omega)
     have HI2:=Lib.hid hI2;have G2:∀ W,Calls Tryz.prog 39 #[.int .i64 (en:Int)] W fun e w'=>e=.returned (.string I2)/\w'=W:=by rw[hI2];exact fun W=>Tryz.strconv_Itoa_small en (by omega) W
     have HG2:=Lib.hid G2;have z1:¬ 9223372036854775807<5+i.size:=by omega
     have z2:¬ 9223372036854775807<5+i.size+1:=by omega
     have z3:¬ 9223372036854775807<5+i.size+1+I0.size:=by omega
     have z4:¬ 9223372036854775807<5+i.size+1+I0.size+1:=by omega
     have z5:¬ 9223372036854775807<5+i.size+1+I0.size+1+I1.size:=by omega
     have z6:¬ 9223372036854775807<5+i.size+1+I0.size+1+I1.size+1:=by omega
     have z7:¬ 9223372036854775807<5+i.size+1+I0.size+1+I1.size+1+I2.size:=by omega
     have z8:¬ 9223372036854775807<5+i.size+1+I0.size+1+I1.size+1+I2.size+bx.size:=by omega
     clear hb2 up hI0 G0 hI1 G1 hI2 G2
     go_wp2_with fail
     refine zR No [(0,false),(1,false),(2,false),(3,false),(4,false),(5,false),(6,false),(10,false),(11,false),(12,false),(16,false),(17,false),(18,false),(21,false),(7,true),(8,false),(9,false),(13,true),(14,false),(15,false),(19,true),(20,false),(22,false),(23,false)] (by kernel_rfl) (by kernel_rfl) (fun w6 hf6=>?_);have g1:∀ g:Gr No w6,g.W.cell? ⟨w.heap.size,1,none⟩=some (.string i):=fun g=>g.fr.cell (hf6.cell a1 id) id
     have g3:∀ g:Gr No w6,g.W.cell? ⟨w.heap.size,3,none⟩=some (.int .i64 (sn:Int)):=fun g=>g.fr.cell (hf6.cell a3 id) id
     have g4:∀ g:Gr No w6,g.W.cell? ⟨w.heap.size,4,none⟩=some (.int .i64 (tn:Int)):=fun g=>g.fr.cell (hf6.cell a4 id) id
     have g5:∀ g:Gr No w6,g.W.cell? ⟨w.heap.size,5,none⟩=some (.int .i64 (en:Int)):=fun g=>g.fr.cell (hf6.cell a5 id) id
     have Hf6:=Lib.hid (Hf5.out.step hf6 (fun _ _ h=>h));clear a0 a1 a2 a3 a4 a5 a6 r5 hf6
     repeat (apply zT;exact rfl;exact rfl;exact rfl;intro K hK;go_big_quiet_op;go_big_quiet_on)
     clear g1 g3 g4 g5;apply zi;exact rfl
     go_wp2_with fail
     refine(HG0.out _).mono ?_;rintro en w7 ⟨rfl,rfl⟩
     go_wp2_with fail
     refine OnlyN.mk ⟨Fr.refl _ _,?_⟩
     repeat (apply zT;exact rfl;exact rfl;exact rfl;intro K hK;go_big_quiet_op;go_big_quiet_on)
     apply zi;exact rfl
     go_wp2_with fail
     refine(HG1.out _).mono ?_;rintro en w7 ⟨rfl,rfl⟩
     go_wp2_with fail
     refine OnlyN.mk ⟨Fr.refl _ _,?_⟩
     repeat (apply zT;exact rfl;exact rfl;exact rfl;intro K hK;go_big_quiet_op;go_big_quiet_on)
     apply zi;exact rfl
     go_wp2_with fail
     refine(HG2.out _).mono ?_;rintro en w7 ⟨rfl,rfl⟩
     go_wp2_with fail
     refine OnlyN.mk ⟨Fr.refl _ _,?_⟩
     repeat (apply zT;exact rfl;exact rfl;exact rfl;intro K hK;go_big_quiet_op;go_big_quiet_on)
     refine zb ?_
     go_wp2_with fail
     go_ret;exact⟨by rw[txt2,<-Hbx.out,<-HI0.out,<-HI1.out,<-HI2.out];rfl,Hf6.out⟩
    ·have up:(⟨#[99,114,121,112,116,58]⟩:ByteArray).size=6:=rfl;have hb2:=Hb2.out;have z1:¬ 9223372036854775807<6+i.size:=by omega
     have z2:¬ 9223372036854775807<6+i.size+bx.size:=by omega
     clear hb2 up
     go_wp2_with fail
     go_ret;exact⟨by rw[txt3,<-Hbx.out];rfl,Hf5.out⟩
    ·obtain⟨p0,p1,p2,p3⟩:=h4;obtain⟨sn,rfl⟩:=Int.eq_ofNat_of_zero_le (show 0<=s by omega);obtain⟨tn,rfl⟩:=Int.eq_ofNat_of_zero_le (show 0<=t by omega);have up:(⟨#[112,118,58]⟩:ByteArray).size=3:=rfl;have hb2:=Hb2.out;obtain⟨I0,hI0⟩:∃ I:ByteArray,I=numBA sn:=⟨_,rfl⟩
     have zi0:I0.size<=2:=by rw[hI0];exact zBq (by omega) (by omega)
     have HI0:=Lib.hid hI0;have G0:∀ W,Calls Tryz.prog 39 #[.int .i64 (sn:Int)] W fun e w'=>e=.returned (.string I0)/\w'=W:=by rw[hI0];exact fun W=>Tryz.strconv_Itoa_small sn (by omega) W
     have HG0:=Lib.hid G0;obtain⟨I1,hI1⟩:∃ I:ByteArray,I=numBA tn:=⟨_,rfl⟩
     have zi1:I1.size<=2:=by rw[hI1];exact zBq (by omega) (by omega)
     have HI1:=Lib.hid hI1;have G1:∀ W,Calls Tryz.prog 39 #[.int .i64 (tn:Int)] W fun e w'=>e=.returned (.string I1)/\w'=W:=by rw[hI1];exact fun W=>Tryz.strconv_Itoa_small tn (by omega) W
     have HG1:=Lib.hid G1;have z1:¬ 9223372036854775807<3+i.size:=by omega
     have z2:¬ 9223372036854775807<3+i.size+1:=by omega
     have z3:¬ 9223372036854775807<3+i.size+1+I0.size:=by omega
     have z4:¬ 9223372036854775807<3+i.size+1+I0.size+1:=by omega
     have z5:¬ 9223372036854775807<3+i.size+1+I0.size+1+I1.size:=by omega
     have z6:¬ 9223372036854775807<3+i.size+1+I0.size+1+I1.size+bx.size:=by omega
     clear hb2 up hI0 G0 hI1 G1
     go_wp2_with fail
     refine zR No [(0,false),(1,false),(2,false),(3,false),(4,false),(5,false),(6,false),(10,false),(11,false),(12,false),(15,false),(7,true),(8,false),(9,false),(13,true),(14,false),(16,false),(17,false)] (by kernel_rfl) (by kernel_rfl) (fun w6 hf6=>?_);have g1:∀ g:Gr No w6,g.W.cell? ⟨w.heap.size,1,none⟩=some (.string i):=fun g=>g.fr.cell (hf6.cell a1 id) id
     have g3:∀ g:Gr No w6,g.W.cell? ⟨w.heap.size,3,none⟩=some (.int .i64 (sn:Int)):=fun g=>g.fr.cell (hf6.cell a3 id) id
     have g4:∀ g:Gr No w6,g.W.cell? ⟨w.heap.size,4,none⟩=some (.int .i64 (tn:Int)):=fun g=>g.fr.cell (hf6.cell a4 id) id
     have Hf6:=Lib.hid (Hf5.out.step hf6 (fun _ _ h=>h));clear a0 a1 a2 a3 a4 a5 a6 r5 hf6
     repeat (apply zT;exact rfl;exact rfl;exact rfl;intro K hK;go_big_quiet_op;go_big_quiet_on)
     clear g1 g3 g4;apply zi;exact rfl
     go_wp2_with fail
     refine(HG0.out _).mono ?_;rintro en w7 ⟨rfl,rfl⟩
     go_wp2_with fail
     refine OnlyN.mk ⟨Fr.refl _ _,?_⟩
     repeat (apply zT;exact rfl;exact rfl;exact rfl;intro K hK;go_big_quiet_op;go_big_quiet_on)
     apply zi;exact rfl
     go_wp2_with fail
     refine(HG1.out _).mono ?_;rintro en w7 ⟨rfl,rfl⟩
     go_wp2_with fail
     refine OnlyN.mk ⟨Fr.refl _ _,?_⟩
     repeat (apply zT;exact rfl;exact rfl;exact rfl;intro K hK;go_big_quiet_op;go_big_quiet_on)
     refine zb ?_
     go_wp2_with fail
     go_ret;exact⟨by rw[txt4,<-Hbx.out,<-HI0.out,<-HI1.out];rfl,Hf6.out⟩
    ·have up:(⟨#[116,97,98,108,101,58]⟩:ByteArray).size=6:=rfl;have hb2:=Hb2.out;have z1:¬ 9223372036854775807<6+i.size:=by omega
     have z2:¬ 9223372036854775807<6+i.size+bx.size:=by omega
     clear hb2 up
     go_wp2_with fail
     go_ret;exact⟨by rw[txt5,<-Hbx.out];rfl,Hf5.out⟩
end Go.Proofs.YtmajgldaplkpiaaGreatDoor
