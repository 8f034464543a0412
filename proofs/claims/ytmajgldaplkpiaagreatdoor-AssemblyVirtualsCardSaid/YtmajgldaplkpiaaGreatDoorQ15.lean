import Derived.Test.YtmajgldaplkpiaaGreatDoorQ14
namespace Go.Proofs.YtmajgldaplkpiaaGreatDoor
open Go.RowKit Go.Maps
set_option linter.unusedVariables false
set_option maxRecDepth 100000
set_option maxHeartbeats 2000000
def cmpP (s t:ByteArray):Int×Int:=if zt s&&zt t then (cmpN (sparts s) (sparts t),0)else (0,10)
theorem zCK (s t:ByteArray)(m:Int)(w:World)(hs:s.size<=1000000)(ht:t.size<=1000000)(hm:w.cell? ⟨0,0,none⟩=some (.int .i64 m)):
  Calls Tryz.prog 192 #[.string s,.string t] w fun e w'=>e=.returned (.tuple #[.int .i64 (cmpP s t).1,.int .i64 (cmpP s t).2])/\Fr No w w':=by
 obtain⟨r1,h1⟩:∃ r,r=(cmpP s t).1:=⟨_,rfl⟩
 obtain⟨r2,h2⟩:∃ r,r=(cmpP s t).2:=⟨_,rfl⟩
 rw[<-h1,<-h2];have H1:=Lib.hid h1;have H2:=Lib.hid h2;clear h1 h2
 go_enter Tryz.func192,Tryz.ntmps192
 go_wp2_with fail
 refine(zBE s m _ hs hm).mono ?_;rintro e w1 ⟨hr1,hf1⟩;have hm1:=hf1.cell hm id;have Hf1:=Lib.hid hf1;clear hm hf1;rcases hr1 with⟨hg1,rfl⟩ | ⟨hg1,ad1,rfl,hS1,_⟩
 ·have G1:=Lib.hid hg1;clear hg1
  go_wp2_with fail
  refine(zBE t m _ ht hm1).mono ?_;rintro e w2 ⟨hr2,hf2⟩;have Hf2:=Lib.hid (Hf1.out.step hf2 (fun _ _ h=>h));clear hm1 hf2;rcases hr2 with⟨hg2,rfl⟩ | ⟨hg2,ad2,rfl,hS2,_⟩
  ·clear hg2
   go_wp2_with fail
   go_ret2
   exact⟨by rw[H1.out,H2.out,cmpP,G1.out];rfl,Hf2.out⟩
  ·clear hg2 hS2
   go_wp2_with fail
   go_ret2
   exact⟨by rw[H1.out,H2.out,cmpP,G1.out];rfl,Hf2.out⟩
 ·have G1:=Lib.hid hg1;clear hg1
  go_wp2_with fail
  refine(zBE t m _ ht hm1).mono ?_;rintro e w2 ⟨hr2,hf2⟩;have Hf2:=Lib.hid (Hf1.out.step hf2 (fun _ _ h=>h));have hS1':=hS1.no hf2 (fun _=>id);clear hm1 hf2 hS1;rcases hr2 with⟨hg2,rfl⟩ | ⟨hg2,ad2,rfl,hS2,_⟩
  ·have G2:=Lib.hid hg2;clear hg2 hS1'
   go_wp2_with fail
   go_ret2
   exact⟨by rw[H1.out,H2.out,cmpP,G1.out,G2.out];rfl,Hf2.out⟩
  ·have G2:=Lib.hid hg2;have hsc:=zEM (some ad1) _ _ (some ad2) _ _ w2 hS1' hS2;clear hg2 hS1' hS2;obtain⟨p1,e1⟩:∃ p,p=sparts s:=⟨_,rfl⟩
   obtain⟨p2,e2⟩:∃ p,p=sparts t:=⟨_,rfl⟩
   rw[<-e1,<-e2]at hsc ⊢;have E1:=Lib.hid e1;have E2:=Lib.hid e2;clear e1 e2
   go_wp2_with fail
   refine hsc.mono ?_;rintro e w3 ⟨rfl,rfl⟩;have Hr:Hid (r1=cmpN p1 p2/\r2=0):=by unfold Hid;rw[H1.out,H2.out,cmpP,G1.out,G2.out,<-E1.out,<-E2.out];exact⟨rfl,rfl⟩
   generalize cmpN p1 p2=cn at *
   go_wp2_with fail
   go_ret2
   exact⟨by rw[Hr.out.1,Hr.out.2];rfl,Hf2.out⟩
def clB (d d':Dev):Bool:=(d.kind==4&&d'.kind==4&&(d.name.toList==d'.name.toList))||(numK d.kind&&numK d'.kind&&((d.kind==d'.kind&&d.num==d'.num)||((nodeOf d.orig).toList==(nodeOf d'.orig).toList)||benB (nodeOf d.orig) (nodeOf d'.orig)||benB (nodeOf d'.orig) (nodeOf d.orig)))
theorem zKJ (d d':Dev)(m:Int)(w:World)(hs:d.orig.size<=1000000)(hs':d'.orig.size<=1000000)(hm:w.cell? ⟨0,0,none⟩=some (.int .i64 m))(h0:0<w.heap.size):
  Calls Tryz.prog 203 #[.agg d.vals,.agg d'.vals] w fun e w'=>e=.returned (.bool (clB d d'))/\Fr No w w':=by
 obtain⟨W0,hW0⟩:∃ W0,W0=(w.alloc (.cells d.vals 34)).alloc (.cells d'.vals 34):=⟨_,rfl⟩
 have hx:Fr No w W0:=by rw[hW0];exact((Fr.refl _ _).alloc _).alloc _
 have hbx:W0.heap[w.heap.size]?=some (.cells d.vals 34):=by rw[hW0];exact zL _ _ _
 have hby:W0.heap[w.heap.size+1]?=some (.cells d'.vals 34):=by rw[hW0];exact zP _ _ _
 have hmx:=hx.cell hm id;have h0x:0<W0.heap.size:=by have:=hx.size;omega
 have N1:=Lib.hid (fun (W:World) h1 h2=>zHt d m W hs h1 h2);have N2:=Lib.hid (fun (W:World) h1 h2=>zHt d' m W hs' h1 h2);obtain⟨rb,hrb⟩:∃ rb,rb=clB d d':=⟨_,rfl⟩
 rw[<-hrb];obtain⟨NB,hNB⟩:∃ NB,NB=(d.kind==4&&d'.kind==4&&(d.name.toList==d'.name.toList)):=⟨_,rfl⟩
 have Hrb:Hid (rb=(NB||(numK d.kind&&numK d'.kind&&((d.kind==d'.kind&&d.num==d'.num)||((nodeR d).toList==(nodeR d').toList)||benB (nodeR d) (nodeR d')||benB (nodeR d') (nodeR d))))):=by unfold Hid;rw[hrb,hNB];unfold clB nodeR;cases numK d.kind<;>cases numK d'.kind<;>simp
 have HNB:=Lib.hid hNB;have hn1:=zDY d hs;have hn2:=zDY d' hs';have HB1:=Lib.hid (fun W=>zEV (nodeR d) (nodeR d') W hn1 hn2);have HB2:=Lib.hid (fun W=>zEV (nodeR d') (nodeR d) W hn2 hn1);generalize nodeR d=s at *;generalize nodeR d'=u at *;clear hrb hNB hm hn1 hn2 hs hs';obtain⟨a0,a1,a2,a3,a4,a5,a6,a7,a8,a9⟩:=DevB.of hbx;obtain⟨b0,b1,b2,b3,b4,b5,b6,b7,b8,b9⟩:=DevB.of hby;unfold Dev.vals at hW0 N1 N2 ⊢
 go_enter Tryz.func203,Tryz.ntmps203
 go_upto_region 1 with(fail)
 rw[<-hW0];clear hW0
 go_cut [23] (fun v wx=>v=.bool NB/\W0=wx)
 case first=>
  rcases hk:(d.kind==4)with _ | _
  all_goals rcases hk':(d'.kind==4)with _ | _
  all_goals have Hk:=Lib.hid hk
  all_goals have Hk':=Lib.hid hk'
  all_goals
   go_wp2_with fail
   all_goals
    go_meet
    exact⟨by rw[HNB.out,Hk.out,Hk'.out];rfl,rfl⟩
 case rest=>
  obtain⟨rfl,rfl⟩:=hcut;cases hNB:NB with
  | true=>
   have Hv:Hid (rb=true):=by unfold Hid;rw[Hrb.out,hNB];rfl
   clear hNB
   go_wp2_with fail
   go_ret;exact⟨zK Hv.out.symm,hx⟩
  | false=>
   have Hv:Hid (rb=(numK d.kind&&numK d'.kind&&((d.kind==d'.kind&&d.num==d'.num)||(s.toList==u.toList)||benB s u||benB u s))):=by unfold Hid;rw[Hrb.out,hNB];rfl
   clear hNB
   go_wp2_with fail
   refine(N1.out _ hmx h0x).mono ?_;rintro e w1 ⟨rfl,hf1⟩;have hx1:=hx.step hf1 (fun _ _ h=>h);have hbx1:=hf1.heap hbx id;have hby1:=hf1.heap hby id;have hm1:=hf1.cell hmx id;have h01:0<w1.heap.size:=by have:=hf1.size;omega
   clear a0 a1 a2 a3 a4 a5 a6 a7 a8 a9 b0 b1 b2 b3 b4 b5 b6 b7 b8 b9 hbx hby hmx h0x;obtain⟨b0,b1,b2,b3,b4,b5,b6,b7,b8,b9⟩:=DevB.of hby1
   go_wp2_with fail
   refine(N2.out _ hm1 h01).mono ?_;rintro e w2 ⟨rfl,hf2⟩;have hx2:=hx1.step hf2 (fun _ _ h=>h);have hbx2:=hf2.heap hbx1 id;have hby2:=hf2.heap hby1 id;clear b0 b1 b2 b3 b4 b5 b6 b7 b8 b9 hbx1 hby1;obtain⟨a0,a1,a2,a3,a4,a5,a6,a7,a8,a9⟩:=DevB.of hbx2;obtain⟨b0,b1,b2,b3,b4,b5,b6,b7,b8,b9⟩:=DevB.of hby2;rcases hg1:numK d.kind with _ | _
   ·have Hz:Hid (rb=false):=by unfold Hid;rw[Hv.out,hg1];rfl
    clear hg1
    go_wp2_with fail
    go_ret;exact⟨zK Hz.out.symm,hx2⟩
   have Hg1:=Lib.hid hg1;clear hg1;rcases hg2:numK d'.kind with _ | _
   ·have Hz:Hid (rb=false):=by unfold Hid;rw[Hv.out,hg2,Bool.and_false];rfl
    clear hg2
    go_wp2_with fail
    go_ret;exact⟨zK Hz.out.symm,hx2⟩
   have Hw:Hid (rb=((d.kind==d'.kind&&d.num==d'.num)||(s.toList==u.toList)||benB s u||benB u s)):=by unfold Hid;rw[Hv.out,Hg1.out,hg2];rfl
   clear hg2;rcases hk:(d.kind==d'.kind)with _ | _
   all_goals rcases hn:(d.num==d'.num)with _ | _
   all_goals rcases hsu:(s.toList==u.toList)with _ | _
   all_goals have Hk:=Lib.hid hk
   all_goals have Hn:=Lib.hid hn
   all_goals have Hsu:=Lib.hid hsu
   all_goals
    go_wp2_with fail
   all_goals first
    | (go_ret;exact⟨zK (by rw[Hw.out,Hk.out,Hn.out,Hsu.out];rfl),hx2⟩)
    | skip
   all_goals
    refine(HB1.out _).mono ?_;rintro e w3 ⟨rfl,rfl⟩;rcases hb1:benB s u with _ | _
   all_goals have Hb1:=Lib.hid hb1
   all_goals clear hb1
   all_goals
    go_wp2_with fail
   all_goals first
    | (go_ret;exact⟨zK (by rw[Hw.out,Hk.out,Hn.out,Hsu.out,Hb1.out];rfl),hx2⟩)
    | skip
   all_goals
    refine(HB2.out _).mono ?_;rintro e w3 ⟨rfl,rfl⟩
    go_wp2_with fail
    go_ret;exact⟨zK (by rw[Hw.out,Hk.out,Hn.out,Hsu.out,Hb1.out];rfl),hx2⟩
def clP (d:Dev)(x:Dev):Bool:=(x.index != d.index)&&clB x d
theorem zGl (x d:Dev)(b:Nat)(m:Int)(w:World)(hs:x.orig.size<=1000000)(hs':d.orig.size<=1000000)(hb:w.heap[b]?=some (.cells d.vals 34))(hm:w.cell? ⟨0,0,none⟩=some (.int .i64 m))(h0:0<w.heap.size):
  Calls Tryz.prog 202 #[.agg x.vals,.pointer (some ⟨b,0,none⟩)] w fun e w'=>e=.returned (.bool (clP d x))/\Fr No w w':=by
 obtain⟨W0,hW0⟩:∃ W0,W0=w.alloc (.cells x.vals 34):=⟨_,rfl⟩
 have hx:Fr No w W0:=by rw[hW0];exact(Fr.refl _ _).alloc _
 have hbx:W0.heap[w.heap.size]?=some (.cells x.vals 34):=by rw[hW0];exact zD _ _
 have hby:=hx.heap hb id;have hmx:=hx.cell hm id;have h0x:0<W0.heap.size:=by have:=hx.size;omega
 have hc:=zKJ x d m W0 hs hs' hmx h0x;obtain⟨rb,hrb⟩:∃ rb,rb=clP d x:=⟨_,rfl⟩
 rw[<-hrb];have Hrb:Hid (rb=((x.index != d.index)&&clB x d)):=hrb;clear hrb hm hmx h0x hs hs' hb;obtain⟨a0,a1,a2,a3,a4,a5,a6,a7,a8,a9⟩:=DevB.of hbx;obtain⟨b0,b1,b2,b3,b4,b5,b6,b7,b8,b9⟩:=DevB.of hby;unfold Dev.vals at hW0 hc ⊢
 go_enter Tryz.func202,Tryz.ntmps202
 go_upto_region 1 with(fail)
 rw[<-hW0];clear hW0 hbx hby;rcases hi:(x.index != d.index)with _ | _
 ·have Hv:Hid (rb=false):=by unfold Hid;rw[Hrb.out,hi];rfl
  go_wp2_with fail
  go_ret;exact⟨zK Hv.out.symm,hx⟩
 ·have Hv:Hid (rb=clB x d):=by unfold Hid;rw[Hrb.out,hi];rfl
  go_wp2_with fail
  refine hc.mono ?_;rintro e w1 ⟨rfl,hf1⟩
  go_wp2_with fail
  go_ret;exact⟨zK Hv.out.symm,hx.step hf1 (fun _ _ h=>h)⟩
theorem zEI (a:Option Addr)(cap:Nat)(ds:List Dev)(d:Dev)(m:Int)(w:World)(hl:Devs w a cap ds)(hz:∀ x∈ds,x.orig.size<=1000000)(hs':d.orig.size<=1000000)(hm:w.cell? ⟨0,0,none⟩=some (.int .i64 m))(h0:0<w.heap.size):
  Calls Tryz.prog 138 #[.slice a ds.length cap,.agg d.vals] w fun e w'=>e=.returned (.bool (ds.any (clP d)))/\Fr No w w':=by
 obtain⟨W0,hW0⟩:∃ W0,W0=w.alloc (.cells d.vals 34):=⟨_,rfl⟩
 have hx:Fr No w W0:=by rw[hW0];exact(Fr.refl _ _).alloc _
 have hbx:W0.heap[w.heap.size]?=some (.cells d.vals 34):=by rw[hW0];exact zD _ _
 have hmx:=hx.cell hm id;have h0x:0<W0.heap.size:=by have:=hx.size;omega
 have hc:=zKF 202 #[.pointer (some ⟨w.heap.size,0,none⟩)] (fun _ _=>rfl) (clP d) a cap ds W0 (hl.no hx (fun _=>id)) (fun x hxm W hf=>zGl x d w.heap.size m W (hz x hxm) hs' (hf.heap hbx id) (hf.cell hmx id) (by have:=hf.size;omega));clear hm hmx h0x hbx;unfold Dev.vals at hW0 ⊢
 go_enter Tryz.func138,Tryz.ntmps138
 go_upto_region 1 with(fail)
 rw[<-hW0];clear hW0
 go_wp2_with fail
 refine hc.mono ?_;rintro e w1 ⟨rfl,hf1⟩;clear hc
 go_wp2_with fail
 go_ret;exact⟨rfl,hx.step hf1 (fun _ _ h=>h)⟩
theorem zGJ (s t:ByteArray)(m:Int)(w:World)(hs:s.size<=1000000)(ht:t.size<=1000000)(hm:w.cell? ⟨0,0,none⟩=some (.int .i64 m)):
  Calls Tryz.prog 135 #[.string s,.string t] w fun e w'=>e=.returned (.int .i64 (cmpP s t).1)/\Fr No w w':=by
 have h:=zCK s t m w hs ht hm
 go_enter Tryz.func135,Tryz.ntmps135
 go_wp2_with fail
 refine h.mono ?_;rintro e w1 ⟨rfl,hf1⟩
 go_wp2_with fail
 go_ret;exact⟨rfl,hf1⟩
def depthB (s:ByteArray):Nat:=if zt s=true then (sparts s).length else 0
theorem zGL (s:ByteArray)(m:Int)(w:World)(hs:s.size<=1000000)(hm:w.cell? ⟨0,0,none⟩=some (.int .i64 m)):
  Calls Tryz.prog 137 #[.string s] w fun e w'=>e=.returned (.int .i64 (depthB s:Nat))/\Fr No w w':=by
 have h:=zBE s m w hs hm;have Hd:Hid (depthB s=if zt s=true then (sparts s).length else 0):=rfl;generalize depthB s=D at *
 go_enter Tryz.func137,Tryz.ntmps137
 go_wp2_with fail
 refine h.mono ?_;rintro e w1 ⟨hR,hf1⟩;rcases hR with⟨hg,rfl⟩ | ⟨hg,ad,rfl,hS,hb⟩
 ·have Hv:Hid (D=0):=by unfold Hid;rw[Hd.out,hg];rfl
  clear hg
  go_wp2_with fail
  go_ret;exact⟨zAI (by rw[Hv.out];rfl),hf1⟩
 ·have Hv:Hid (D=(sparts s).length):=by unfold Hid;rw[Hd.out,hg];rfl
  clear hg;generalize sparts s=P at *
  go_wp2_with fail
  go_ret;exact⟨zAI (by rw[Hv.out]),hf1⟩
theorem zCN (a:Option Addr)(cap:Nat)(l:List (ByteArray×ByteArray))(w:World)(hl:Atts w a cap l)(hb:l.length<=1000000):
  Calls Tryz.prog 62 #[.slice a l.length cap] w fun e w'=>(∃ a' c',e=.returned (.slice a' l.length c')/\Atts w' a' c' l/\BlkT w' a' 50/\∀ ad,a'=some ad->w.heap.size<=ad.block)/\Fr No w w':=by
 obtain⟨i0,hi,hz0,hz1,hz2⟩:=info_parts infoA;cases a with
 | none=>
  obtain⟨rfl,rfl⟩:=hl.isNil rfl;have hq:=zD3
  go_enter Tryz.func62,Tryz.ntmps62
  go_wp2_with fail
  go_ret;exact⟨⟨none,0,rfl,Atts.nil _,BlkT.none _ _,fun _ e=>by cases e⟩,Fr.refl _ _⟩
 | some ad=>
  have hx:Fr No w (w.alloc (.cells #[] 50)):=(Fr.refl _ _).alloc _;have hlx:=hl.no hx (fun _=>id);have hq:=zD3
  go_enter Tryz.func62,Tryz.ntmps62
  have own0:(w.alloc (.cells #[] 50)).ownsRow w.heap.size 50 2 (.slice (some ⟨w.heap.size,0,none⟩) 0 0) 0 []:=
   ⟨rfl,.inr ⟨w.heap.size,0,#[],rfl,Nat.le_refl _,zD _ _,Nat.le_refl _,by unfold maxLen;omega,rfl,rfl⟩⟩
  go_wp2_with (at_builtin;refine zI rfl _ _ 32 rfl w.heap.size 50 i0 (.agg #[.string ByteArray.empty,.string ByteArray.empty]) 2 32 Tryz.underlying32 hi hz0 hz1 hz2 rfl (by decide) _ 0 [] rfl own0 (some ad) l.length _ (aflat l) rfl (fun e=>by cases e) (zDH l) (fun ad' e=>hlx.src ad' e) (zEn l) (by unfold maxLen;omega) (by omega) (by simp) ?_;intro v' w1 own1 gr1)
  go_ret;simp only[Nat.zero_add,List.nil_append]at own1;obtain⟨a',c',hv,h1,h2⟩:=Atts.of_own own1 hl.wf;subst hv;exact⟨⟨a',c',rfl,h1,zAj own1,h2⟩,((Fr.refl No w).alloc _).step (zm own0 gr1) (fun b hb h=>by unfold From at h;omega)⟩
theorem zC5 (d:Dev)(l:List (ByteArray×ByteArray))(w:World)(hl:Atts w d.aa d.ac l)(han:d.an=l.length)(hb:l.length<=1000000):
  Calls Tryz.prog 79 #[.agg d.vals] w fun e w'=>(∃ a' c',e=.returned (.agg ({ d with aa:=a',ac:=c' }:Dev).vals)/\Atts w' a' c' l/\BlkT w' a' 50/\∀ ad,a'=some ad->w.heap.size<=ad.block)/\Fr No w w':=by
 obtain⟨ix,pa,nm,og,sb,dr,al,kd,nu,aa,an,ac⟩:=d;dsimp only at han hl;subst han;have hx:Fr No w ((w.alloc (.cells #[.int .i64 ix,.int .i64 pa,.string nm,.string og,.string sb,.string dr,.string al,.int .i64 kd,.int .i64 nu,.slice aa l.length ac] 34)).alloc (.cells #[.int .i64 0,.int .i64 0,.string ⟨#[]⟩,.string ⟨#[]⟩,.string ⟨#[]⟩,.string ⟨#[]⟩,.string ⟨#[]⟩,.int .i64 0,.int .i64 0,.slice none 0 0] 34)):=((Fr.refl _ _).alloc _).alloc _;have q0:=zL w (.cells #[.int .i64 ix,.int .i64 pa,.string nm,.string og,.string sb,.string dr,.string al,.int .i64 kd,.int .i64 nu,.slice aa l.length ac] 34) (.cells #[.int .i64 0,.int .i64 0,.string ⟨#[]⟩,.string ⟨#[]⟩,.string ⟨#[]⟩,.string ⟨#[]⟩,.string ⟨#[]⟩,.int .i64 0,.int .i64 0,.slice none 0 0] 34);have q1:=zP w (.cells #[.int .i64 ix,.int .i64 pa,.string nm,.string og,.string sb,.string dr,.string al,.int .i64 kd,.int .i64 nu,.slice aa l.length ac] 34) (.cells #[.int .i64 0,.int .i64 0,.string ⟨#[]⟩,.string ⟨#[]⟩,.string ⟨#[]⟩,.string ⟨#[]⟩,.string ⟨#[]⟩,.int .i64 0,.int .i64 0,.slice none 0 0] 34);show Calls Tryz.prog 79 #[.agg #[.int .i64 ix,.int .i64 pa,.string nm,.string og,.string sb,.string dr,.string al,.int .i64 kd,.int .i64 nu,.slice aa l.length ac]] w _
 go_enter Tryz.func79,Tryz.ntmps79
 go_upto_region 1 with(fail)
 have hW2:w.heap.size+2<=((w.alloc (.cells #[.int .i64 ix,.int .i64 pa,.string nm,.string og,.string sb,.string dr,.string al,.int .i64 kd,.int .i64 nu,.slice aa l.length ac] 34)).alloc (.cells #[.int .i64 0,.int .i64 0,.string ⟨#[]⟩,.string ⟨#[]⟩,.string ⟨#[]⟩,.string ⟨#[]⟩,.string ⟨#[]⟩,.int .i64 0,.int .i64 0,.slice none 0 0] 34)).heap.size:=by simp
 generalize (w.alloc (.cells #[.int .i64 ix,.int .i64 pa,.string nm,.string og,.string sb,.string dr,.string al,.int .i64 kd,.int .i64 nu,.slice aa l.length ac] 34)).alloc (.cells #[.int .i64 0,.int .i64 0,.string ⟨#[]⟩,.string ⟨#[]⟩,.string ⟨#[]⟩,.string ⟨#[]⟩,.string ⟨#[]⟩,.int .i64 0,.int .i64 0,.slice none 0 0] 34)=W0 at *;have c9:W0.cell? ⟨w.heap.size,9,none⟩=some (.slice aa l.length ac):=zB q0 9;have hW0:w.heap.size<=W0.heap.size:=hx.size
 go_wp2_with fail
 refine(zCN aa ac l _ (hl.no hx (fun _=>id)) hb).mono ?_;rintro e w1 ⟨⟨a',c',rfl,hA,hB,hfresh⟩,hf1⟩;have p0:=hf1.heap q0 id;have p1:=hf1.heap q1 id;clear c9 q0 q1;have c9:w1.cell? ⟨w.heap.size,9,none⟩=some (.slice aa l.length ac):=zB p0 9;have f9:w1.frozen? ⟨w.heap.size,9,none⟩=false:=zC p0 9
 go_upto_region 2 with(fail)
 have hx1:Fr (Is w.heap.size) w1 (w1.setCell ⟨w.heap.size,9,none⟩ (.slice a' l.length c')):=Fr.setAt (Fr.refl _ _) _;have r0:=zF p0 9 (.slice a' l.length c');have r1:=hx1.heap p1 (fun e=>by unfold Is at e;omega);have hA1:=hA.fr hx1 (fun ad e _ h=>by have:=hfresh ad e;unfold Is at h;omega);have hB1:=hB.fr hx1 (fun ad e h=>by have:=hfresh ad e;unfold Is at h;omega);clear p0 p1 c9 f9;generalize w1.setCell ⟨w.heap.size,9,none⟩ (.slice a' l.length c')=W1 at *;obtain⟨c0,c1,c2,c3,c4,c5,c6,c7,c8,c9⟩:=cl10 r0;obtain⟨z0,z1,z2,z3,z4,z5,z6,z7,z8,z9⟩:=cl10 r1;obtain⟨y0,y1,y2,y3,y4,y5,y6,y7,y8,y9⟩:=fl10 r1;have h10:=zAy r1 rfl ⟨ix,pa,nm,og,sb,dr,al,kd,nu,a',l.length,c'⟩;have hfin:Hid _:=And.intro (And.intro (hA1.fr h10.2 (fun ad e _ h=>by have:=hfresh ad e;unfold Is at h;omega)) (hB1.fr h10.2 (fun ad e h=>by have:=hfresh ad e;unfold Is at h;omega))) ((((hx.step hf1 (fun _ _ h=>h)).step hx1 (fun b hb e=>by unfold Is at e;omega)).step h10.2 (fun b hb e=>by unfold Is at e;omega)));clear h10 hA1 hA hB hB1 r0 r1 hx1
 go_wp2_with fail
 refine bodyPost_ret (v:=.agg #[.int .i64 ix,.int .i64 pa,.string nm,.string og,.string sb,.string dr,.string al,.int .i64 kd,.int .i64 nu,.slice a' l.length c']) (by simp[results,Tryz.results79,go_sem,z0,z1,z2,z3,z4,z5,z6,z7,z8,z9]) rfl ?_;exact⟨⟨a',c',rfl,hfin.out.1.1,hfin.out.1.2,fun ad e=>by have:=hfresh ad e;omega⟩,hfin.out.2⟩
structure Cop1 (w w':World)(base:Nat)(d d':Dev):Prop where
 eq:d'={ d with aa:=d'.aa,ac:=d'.ac }
 att:∃ l,Atts w d.aa d.ac l/\Atts w' d'.aa d'.ac l/\d.an=l.length/\l.length<=24
 typ:BlkT w' d'.aa 50
 fresh:∀ ad,d'.aa=some ad->base<=ad.block
structure Cop (w w':World)(base:Nat)(ds ds':List Dev):Prop where
 len:ds'.length=ds.length
 el:∀ (i:Nat) (d d':Dev),ds[i]?=some d->ds'[i]?=some d'->Cop1 w w' base d d'
theorem Cop1.fr {w w' w'':World}{base:Nat}{d d':Dev}{S:Nat->Prop}(h:Cop1 w w' base d d')(hf:Fr S w' w'')(hS:∀ ad,d'.aa=some ad->¬ S ad.block):Cop1 w w'' base d d':=by
 obtain⟨l,h1,h2,h3⟩:=h.att;exact⟨h.eq,⟨l,h1,h2.fr hf (fun ad e _=>hS ad e),h3⟩,h.typ.fr hf hS,h.fresh⟩
theorem Cop.fr {w w' w'':World}{base:Nat}{ds ds':List Dev}{S:Nat->Prop}(h:Cop w w' base ds ds')(hf:Fr S w' w'')(hS:∀ d∈ds',∀ ad,d.aa=some ad->¬ S ad.block):Cop w w'' base ds ds':=
 ⟨h.len,fun i d d' h1 h2=>(h.el i d d' h1 h2).fr hf (hS d' (List.mem_of_getElem? h2))⟩
theorem Cop.nil (w w':World)(base:Nat):Cop w w' base [] []:=⟨rfl,fun i d d' h=>by simp at h⟩
theorem Cop.snoc {w w':World}{base:Nat}{ds ds':List Dev}{d d':Dev}(h:Cop w w' base ds ds')(h1:Cop1 w w' base d d'):Cop w w' base (ds++[d]) (ds'++[d']):=by
 have hl:=h.len;refine⟨by simp[hl],fun i x x' e e'=>?_⟩;by_cases hi:i<ds.length
 ·rw[List.getElem?_append_left hi]at e;rw[List.getElem?_append_left (by omega)]at e';exact h.el i x x' e e'
 ·have hi2:i=ds.length:=by
   have:=(List.getElem?_eq_some_iff.1 e).1;simp at this;omega
  subst hi2;rw[List.getElem?_append_right (Nat.le_refl _)]at e;rw[List.getElem?_append_right (by omega),hl]at e';simp at e e';subst e;subst e';exact h1
theorem Cop.mem {w w':World}{base:Nat}{ds ds':List Dev}(h:Cop w w' base ds ds'){d':Dev}(hd:d'∈ds'):∃ d∈ds,Cop1 w w' base d d':=by
 obtain⟨i,hi⟩:=List.getElem?_of_mem hd;have hl:i<ds.length:=by have:=(List.getElem?_eq_some_iff.1 hi).1;have:=h.len;omega
 exact⟨ds[i],List.getElem_mem hl,h.el i _ _ (List.getElem?_eq_getElem hl) hi⟩
theorem Cop.own {w w1 w2:World}{base base':Nat}{ds ds':List Dev}{v:Value}{n:Nat}{xs:List Value}(h:Cop w w1 base ds ds')(ho:w1.ownsRow base' 34 10 v n xs)(hg:Fr (fun b=>v.ownBlock=some b) w1 w2):Cop w w2 base ds ds':=
 h.fr hg (fun d hd ad e hb=>by
  obtain⟨x,_,hc⟩:=h.mem hd;exact hc.typ.ne ho (by decide) ad e hb)
theorem zEt (a:Option Addr)(cap:Nat)(ds:List Dev)(w:World)(hl:Devs w a cap ds)(hn:ds.length<=1000)(hat:∀ d∈ds,∃ l,Atts w d.aa d.ac l/\d.an=l.length/\l.length<=24):
  Calls Tryz.prog 140 #[.slice a ds.length cap] w fun e w'=>(∃ v ds',e=.returned v/\w'.ownsRow w.heap.size 34 10 v ds'.length (flat ds')/\Cop w w' w.heap.size ds ds')/\Fr No w w':=by
 obtain⟨i0,hi0,hz0,hz1,hz2⟩:=info_parts infoD;have hlm:=hl.lenmax;have Hat:=Lib.hid hat;have Hn:=Lib.hid hn;clear hat hn
 go_enter Tryz.func140,Tryz.ntmps140
 go_wp2_with fail
 go_loopw [3,8] (fun v i wr=>∃ (j:Nat) (O:List Dev) (av:Option Addr) (cv:Nat),j<=ds.length/\O.length<=j/\v=.slice av O.length cv/\i=.int .i64 (j:Int)/\wr.ownsRow w.heap.size 34 10 (.slice av O.length cv) O.length (flat O)/\Cop w wr w.heap.size (ds.take j) O/\Fr (From w.heap.size) w wr) (fun _ i _=>ds.length-(intOf i).toNat)
 case atStart=>exact⟨0,[],none,0,by omega,by simp,rfl,rfl,World.ownsRow_nil _ _ _ _,by simpa using Cop.nil _ _ _,Fr.refl _ _⟩
 case round=>
  obtain⟨j,O,av,cv,hj,hOj,rfl,rfl,hown,hC,hf⟩:=hrel;by_cases hlt:j<ds.length
  ·have hlt':(j:Int)<ds.length:=by omega
   have hbl:∀ ad,a=some ad->ds≠[]->¬ From w.heap.size ad.block:=fun ad e hne h=>by have:=(hl.cell ad e hne).2.1;unfold From at h;omega
   obtain⟨bb,off,d,rfl,hd,c0,c1,c2,c3,c4,c5,c6,c7,c8,c9⟩:=(hl.fr hf hbl).dev hlt;have hmem:=List.mem_of_getElem? hd;obtain⟨l,hA0,han,hlb⟩:=Hat.out d hmem;have hA:Atts wr d.aa d.ac l:=hA0.fr hf (fun ad e hne h=>by have:=(hA0.cell ad e hne).2.1;unfold From at h;omega);have Htk:Hid (ds.take (j+1)=ds.take j++[d]):=by unfold Hid;rw[List.take_add_one,hd];rfl
   have HA0:=Lib.hid (And.intro hA0 (And.intro han hlb));clear hd hmem hA0;obtain⟨W1,hW1⟩:∃ W1,W1=wr.alloc (.cells d.vals 34):=⟨_,rfl⟩
   have hx1:Fr No wr W1:=by rw[hW1];exact(Fr.refl _ _).alloc _
   have q1:W1.heap[wr.heap.size]?=some (.cells d.vals 34):=by rw[hW1];exact zD _ _
   have hcp:=zC5 d l W1 (hA.no hx1 (fun _=>id)) han (by omega);obtain⟨z0,z1,z2,z3,z4,z5,z6,z7,z8,z9⟩:=DevB.of q1;have hsr:=hf.size;have hs1:=hx1.size;have hlb1:=zE q1;unfold Dev.vals at hW1;clear han hlb hA;unfold Dev.vals at hcp
   go_upto_region 5 with(fail)
   rw[<-hW1];clear hW1 c0 c1 c2 c3 c4 c5 c6 c7 c8 c9
   go_wp2_with fail
   refine hcp.mono ?_;rintro e w2 ⟨⟨a',c',rfl,hA',hB',hfresh⟩,hf2⟩;clear hcp z0 z1 z2 z3 z4 z5 z6 z7 z8 z9 q1;have hf12:Fr No wr w2:=hx1.step hf2 (fun _ _ h=>h);have hown2:=zJ hown hf12 (fun _ _=>id);have hC2:=hC.fr hf12 (fun _ _ _ _=>id);have hs2:=hf2.size;have HC1:Hid (Cop1 w w2 w.heap.size d { d with aa:=a',ac:=c' }):=⟨rfl,⟨l,HA0.out.1,hA',HA0.out.2.1,HA0.out.2.2⟩,hB',fun ad e=>by have:=hfresh ad e;omega⟩
   have hOl:O.length<=1000:=by have:=Hn.out;omega
   have Hown2:=Lib.hid hown2;have HC2:=Lib.hid hC2;have Hf:=Lib.hid hf;have Hf12:=Lib.hid hf12;clear hC hC2 hown hf hf12 hx1 hf2 hA' hB' hfresh
   go_wp2_with (at_builtin;refine wpList_append_own _ rfl _ _ 26 rfl w.heap.size 34 i0 (.agg #[.int .i64 0,.int .i64 0,.string ByteArray.empty,.string ByteArray.empty,.string ByteArray.empty,.string ByteArray.empty,.string ByteArray.empty,.int .i64 0,.int .i64 0,.slice none 0 0]) 10 136 Tryz.underlying26 hi0 hz0 hz1 hz2 rfl (by decide) _ _ _ rfl (hown2.alloc _) ⟨w2.heap.size,0,none⟩ 1 1 (Dev.vals { d with aa:=a',ac:=c' }).toList rfl rfl (zX _ (Dev.vals { d with aa:=a',ac:=c' }) _ rfl) (zv _) (by unfold maxLen;omega) (by omega) (by first | omega | (simp;done) | (simp;omega)) ?_;intro v' w6 hown6 hgrow6 _;obtain⟨av',cv',rfl⟩:=zG hown6)
   have hal:Fr No w2 (w2.alloc (.cells (Dev.vals { d with aa:=a',ac:=c' }) 34)):=(Fr.refl _ _).alloc _;have howa:=Hown2.out.alloc (.cells (Dev.vals { d with aa:=a',ac:=c' }) 34);have hgf:Fr (fun b=>(Value.slice av O.length cv).ownBlock=some b) (w2.alloc (.cells (Dev.vals { d with aa:=a',ac:=c' }) 34)) w6:=Fr.of_grown hgrow6;have hC6:Cop w w6 w.heap.size (ds.take (j+1)) (O++[{ d with aa:=a',ac:=c' }]):=by
    rw[Htk.out];exact((HC2.out.snoc HC1.out).fr hal (fun _ _ _ _=>id)).own howa hgf
   have hf6:Fr (From w.heap.size) w w6:=((Hf.out.step Hf12.out (fun b _ h=>h.elim)).step hal (fun _ _ h=>h.elim)).step hgf (fun b _ h=>zN howa h);have HF:=Lib.hid (And.intro hown6 (And.intro hC6 hf6));clear hown6 hC6 hf6 hgrow6 hgf howa hal hown2
   go_roundw
   case rel=>exact⟨j+1,O++[{ d with aa:=a',ac:=c' }],av',cv',by omega,by simp;omega,by simp,by go_num,by rw[List.length_append,zBw];exact HF.out.1,HF.out.2.1,HF.out.2.2⟩
   case measure=>simp[intOf];omega
  ·obtain rfl:j=ds.length:=by omega
   rw[List.take_length]at hC;have H:=Lib.hid (And.intro hown (And.intro hC (hf.mono (T:=No) (fun b hb h=>by unfold From at h;omega))));clear hown hC hf
   go_wp2_with fail
   go_ret;exact⟨⟨_,O,rfl,H.out.1,H.out.2.1⟩,H.out.2.2⟩
end Go.Proofs.YtmajgldaplkpiaaGreatDoor
