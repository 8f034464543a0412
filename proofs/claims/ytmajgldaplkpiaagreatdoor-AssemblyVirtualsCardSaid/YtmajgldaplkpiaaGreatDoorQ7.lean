import Derived.Test.YtmajgldaplkpiaaGreatDoorQ6
namespace Go.Proofs.YtmajgldaplkpiaaGreatDoor
open Go.RowKit Go.Maps
set_option linter.unusedVariables false
set_option maxRecDepth 100000
set_option maxHeartbeats 1000000
def OneOf (l:List ByteArray)(e:Ending):Prop:=∃ s,e=.returned (.string s)/\s∈l
theorem zIK (B tb k:Nat)(a:Option Addr)(cap:Nat)(l:List ByteArray)(w:World)(ht:Tape w B tb k)(hk:k<=1000000000000)(hl:Strs w a cap l)(h1:1<=l.length)(h2:l.length<=4294967296)(htb:∀ ad,a=some ad->ad.block≠tb):
  Calls Tryz.prog 15 #[.pointer (some ⟨tb,0,none⟩),.slice a l.length cap] w fun e w'=>OneOf l e/\Tape w' B tb (k+1)/\Fr (Is tb) w w':=by
 have hne:((l.length:Int)==0)=false:=by simp;intro h;subst h;simp at h1
 go_enter Tryz.func15,Tryz.ntmps15
 go_wp2_with fail
 refine(zAH B tb k l.length _ ht hk (by omega) (by omega)).mono ?_;rintro e w1 ⟨r,rfl,hr1,hr2,ht1,hf1⟩;obtain⟨r,rfl⟩:=Int.eq_ofNat_of_zero_le hr1;have hlt:r<l.length:=by omega
 have hl1:=hl.fr hf1 (fun ad e _ h=>htb ad e h);obtain⟨b,off,x,rfl,hx,hc⟩:=hl1.at hlt;have Hx:=Lib.hid hx;clear hx
 go_wp2_with fail
 go_ret;exact⟨⟨x,rfl,List.mem_of_getElem? Hx.out⟩,ht1,hf1⟩
def zAM : List ByteArray:=[
 ⟨#[]⟩,
 ⟨#[102,115,58,102,58]⟩,
 ⟨#[102,115,58,103,58,76]⟩,
 ⟨#[114,97,105,100,58,114,58,49,47,50,47,49,40,102,115,58,102,58,41]⟩,
 ⟨#[114,97,105,100,58,114,58,50,47,50,47,49,40,102,115,58,102,58,41]⟩,
 ⟨#[99,114,121,112,116,58,99,40,102,115,58,103,58,41]⟩,
 ⟨#[112,118,58,118,58,49,47,49,40,102,115,58,102,58,44,99,114,121,112,116,58,99,40,102,115,58,104,58,41,41]⟩,
 ⟨#[116,97,98,108,101,58,116,40,102,115,58,102,58,44,99,114,121,112,116,58,99,40,114,97,105,100,58,114,58,49,47,50,47,49,40,102,115,58,120,58,41,41,41]⟩,
 ⟨#[116,97,98,108,101,58,116,40,114,97,105,100,58,114,58,49,47,50,47,49,40,116,97,98,108,101,58,117,40,102,115,58,102,58,41,41,44,114,97,105,100,58,114,58,50,47,50,47,49,40,116,97,98,108,101,58,117,40,102,115,58,102,58,41,41,41]⟩,
 ⟨#[114,97,105,100,58,114,58,49,47,49,47,49,40,114,97,105,100,58,114,58,49,47,49,47,49,40,102,115,58,102,58,41,41]⟩,
 ⟨#[112,118,58,118,58,49,47,50,40,102,115,58,102,58,41]⟩,
 ⟨#[112,118,58,118,58,50,47,50,40,102,115,58,102,58,41]⟩,
 ⟨#[99,114,121,112,116,58,100,40,112,118,58,118,58,49,47,49,40,114,97,105,100,58,115,58,49,47,51,47,50,40,102,115,58,121,58,41,41,41]⟩,
 ⟨#[114,97,105,100,58,115,58,50,47,51,47,50,40,102,115,58,121,58,41]⟩,
 ⟨#[114,97,105,100,58,115,58,51,47,51,47,50,40,102,115,58,121,58,41]⟩,
 ⟨#[110,111,110,115,101,110,115,101]⟩]
theorem zD6 : ∀ s∈zAM,s.size<=256:=by decide
theorem zBG : zAM.length=16:=rfl
theorem Strs.of_block {w:World}{b:Nat}{l:List ByteArray}{T:TypeId}{fz:Nat×Nat}(h:w.heap[b]?=some (.cells (l.map Value.string).toArray T fz))(hm:l.length<=maxLen):Strs w (some ⟨b,0,none⟩) l.length l:=by
 refine⟨Nat.le_refl _,hm,(fun e=>by cases e),fun ad e hne=>?_⟩;cases e;refine⟨rfl,zE h,fun i x hi=>?_⟩;rw[zB h];simp[hi]
theorem zBu (w:World):
  Calls Tryz.prog 38 #[] w fun e w'=>e=.returned (.slice (some ⟨w.heap.size,0,none⟩) 16 16)/\Strs w' (some ⟨w.heap.size,0,none⟩) 16 zAM/\Fr No w w':=by
 have hb:=zD w (.cells (zAM.map Value.string).toArray 9);have hs:=Strs.of_block hb (by rw[zBG];unfold maxLen;omega);rw[zBG]at hs;have hf:Fr No w (w.alloc (.cells (zAM.map Value.string).toArray 9)):=(Fr.refl _ _).alloc _;have H:=Lib.hid (And.intro hs hf);clear hb hs hf
 go_enter Tryz.func38,Tryz.ntmps38
 go_wp2_with fail
 go_ret;exact⟨rfl,H.out⟩
structure DevS (w W:World)(B tb:Nat)(a:Option Addr)(n cap Bd:Nat)(i:Int)(k:Nat)(d:Dev)(l:List (ByteArray×ByteArray)):Prop where
 fr:Fr (Is tb) w W
 tape:Tape W B tb k
 p0:W.heap[w.heap.size]?=some (.cells #[.slice a n cap] 28)
 p1:W.heap[w.heap.size+1]?=some (.cells Dev.zero.vals 34)
 pd:W.heap[Bd]?=some (.cells d.vals 34)
 lo:w.heap.size+2<=Bd
 tl:tb<w.heap.size
 ix:d.index=i
 drv:d.drv=⟨#[]⟩
 sn:d.name.size<=300
 so:d.orig.size<=300
 ss:d.sub.size<=300
 sa:d.ali.size<=300
 att:Atts W d.aa d.ac l
 an:d.an=l.length
 afr:∀ ad,d.aa=some ad->w.heap.size+2<=ad.block/\ad.block≠Bd
 lb:l.length<=1
section
variable {w W W':World}{B tb:Nat}{a:Option Addr}{n cap Bd:Nat}{i:Int}{k:Nat}{d:Dev}{l:List (ByteArray×ByteArray)}
theorem DevS.step (h:DevS w W B tb a n cap Bd i k d l){k':Nat}(ht:Tape W' B tb k')(hf:Fr (Is tb) W W'):DevS w W' B tb a n cap Bd i k' d l:=by
 have h1:=h.lo;have h2:=h.tl;exact⟨h.fr.step hf (fun _ _ e=>e),ht,hf.heap h.p0 (fun e=>by unfold Is at e;omega),hf.heap h.p1 (fun e=>by unfold Is at e;omega),hf.heap h.pd (fun e=>by unfold Is at e;omega),h1,h2,h.ix,h.drv,h.sn,h.so,h.ss,h.sa,
  h.att.fr hf (fun ad e _ hS=>by have:=(h.afr ad e).1;unfold Is at hS;omega),h.an,h.afr,h.lb⟩
theorem DevS.no (h:DevS w W B tb a n cap Bd i k d l)(hf:Fr No W W'):DevS w W' B tb a n cap Bd i k d l:=
 h.step (h.tape.fr hf (fun _ _=>id) id) (hf.mono (fun _ _ e=>e.elim))
theorem DevS.set (h:DevS w W B tb a n cap Bd i k d l){j:Nat}{v:Value}{d':Dev}(hv:d'.vals=d.vals.setIfInBounds j v)(h1:d'.index=i)(h2:d'.drv=d.drv)(h3:d'.name.size<=300)(h4:d'.orig.size<=300)(h5:d'.sub.size<=300)(h6:d'.ali.size<=300)
  (h7:d'.aa=d.aa) (h8:d'.an=d.an) (h9:d'.ac=d.ac):DevS w (W.setCell ⟨Bd,j,none⟩ v) B tb a n cap Bd i k d' l:=by
 have e1:=h.lo;have e2:=h.tl;have hf:Fr (Is Bd) W (W.setCell ⟨Bd,j,none⟩ v):=Fr.setCell (S:=Is Bd) (p:=⟨Bd,j,none⟩) (Fr.refl _ _) (fun _=>rfl) _;have hB:=h.tape.le;refine⟨h.fr.step hf (fun b hb e=>by unfold Is at e;omega),h.tape.fr hf (fun b hb e=>by unfold Is at e;omega) (fun e=>by unfold Is at e;omega),hf.heap h.p0 (fun e=>by unfold Is at e;omega),hf.heap h.p1 (fun e=>by unfold Is at e;omega),?_,e1,e2,h1,h2.trans h.drv,h3,h4,h5,h6,?_,h8.trans h.an,fun ad e=>h.afr ad (by rw[<-h7];exact e),h.lb⟩
 ·rw[hv];exact zF h.pd j v
 ·rw[h7,h9];exact h.att.fr hf (fun ad e _ hS=>by unfold Is at hS;exact(h.afr ad e).2 hS)
theorem DevS.away (h:DevS w W B tb a n cap Bd i k d l){b:Nat}(hf:Fr (Is b) W W')(h1:w.heap.size+1<b)(h2:Bd≠b)(h3:∀ ad,d.aa=some ad->l≠[]->ad.block≠b):DevS w W' B tb a n cap Bd i k d l:=by
 have e1:=h.lo;have e2:=h.tl;have hB:=h.tape.le;exact⟨h.fr.step hf (fun x hx e=>by unfold Is at e;omega),h.tape.fr hf (fun b hb e=>by unfold Is at e;omega) (fun e=>by unfold Is at e;omega),hf.heap h.p0 (fun e=>by unfold Is at e;omega),hf.heap h.p1 (fun e=>by unfold Is at e;omega),hf.heap h.pd h2,e1,e2,h.ix,h.drv,h.sn,h.so,h.ss,h.sa,
  h.att.fr hf (fun ad e hne hS=>h3 ad e hne hS),h.an,h.afr,h.lb⟩
theorem DevS.attrs (h:DevS w W B tb a n cap Bd i k d l){b:Nat}{x y:ByteArray}(hb:W.heap[b]?=some (.cells #[.string x,.string y] 50))(h1:w.heap.size+2<=b)(h2:b≠Bd)(hx:x.size<=maxLen)(hy:y.size<=maxLen):
  DevS w (W.setCell ⟨Bd,9,none⟩ (.slice (some ⟨b,0,none⟩) 1 1)) B tb a n cap Bd i k { d with aa:=some ⟨b,0,none⟩,an:=1,ac:=1 } [(x,y)]:=by
 have e1:=h.lo;have e2:=h.tl;have hf:Fr (Is Bd) W (W.setCell ⟨Bd,9,none⟩ (.slice (some ⟨b,0,none⟩) 1 1)):=Fr.setCell (S:=Is Bd) (p:=⟨Bd,9,none⟩) (Fr.refl _ _) (fun _=>rfl) _;have hB:=h.tape.le;refine⟨h.fr.step hf (fun b hb e=>by unfold Is at e;omega),h.tape.fr hf (fun b hb e=>by unfold Is at e;omega) (fun e=>by unfold Is at e;omega),hf.heap h.p0 (fun e=>by unfold Is at e;omega),hf.heap h.p1 (fun e=>by unfold Is at e;omega),zF h.pd 9 _,e1,e2,h.ix,h.drv,h.sn,h.so,h.ss,h.sa,?_,rfl,(fun ad e=>by cases e;exact⟨h1,h2⟩),Nat.le_refl _⟩;have hb':=hf.heap hb h2;refine⟨Nat.le_refl _,by unfold maxLen;simp,(fun e=>by cases e),fun z hz=>by simp at hz;subst hz;exact⟨hx,hy⟩,fun ad e _=>?_⟩;cases e;refine⟨rfl,zE hb',fun j z hz=>?_⟩
 match j,hz with
 | 0,hz=>
  simp at hz;subst hz;exact⟨zB hb' 0,zB hb' 1⟩
theorem DevS.dv (h:DevS w W B tb a n cap Bd i k d l)(j:Nat)(hj:j<10):W.cell? ⟨Bd,j,none⟩=some (d.cell j):=by
 rw[zB h.pd,<-Array.getElem?_toList];exact zEr d j hj
theorem DevS.fz (h:DevS w W B tb a n cap Bd i k d l)(j:Nat):W.frozen? ⟨Bd,j,none⟩=false:=zC h.pd j
theorem DevS.t0 (h:DevS w W B tb a n cap Bd i k d l):W.cell? ⟨w.heap.size,0,none⟩=some (.slice a n cap):=zB h.p0 0
theorem DevS.lt (h:DevS w W B tb a n cap Bd i k d l):Bd<W.heap.size:=zE h.pd
end
def TB (tb B0:Nat):Nat->Prop:=fun x=>x=tb\/B0<=x
theorem Fr.swap {T:Nat->Prop}(w:World)(o o':Obj)(h:T w.heap.size):Fr T (w.alloc o) (w.alloc o'):=by
 have f1:Fr No w (w.alloc o):=(Fr.refl _ _).alloc _;have f2:Fr No w (w.alloc o'):=(Fr.refl _ _).alloc _;refine⟨rfl,rfl,rfl,by simp,fun k hk hn=>?_⟩;have hlt:k<w.heap.size:=by
  rw[World.size_alloc]at hk;by_cases e:k=w.heap.size
  ·subst e;exact absurd h hn
  ·omega
 exact(f2.block k hlt id).trans (f1.block k hlt id).symm
def DevAny (w W:World)(B tb:Nat)(a:Option Addr)(n cap Bd:Nat)(i:Int)(K:Nat):Prop:=∃ k d l,k<=K/\DevS w W B tb a n cap Bd i k d l
structure DevTo (w w':World)(B tb k':Nat)(i:Int)(d:Dev)(l:List (ByteArray×ByteArray)):Prop where
 fr:Fr (Is tb) w w'
 tape:Tape w' B tb k'
 ix:d.index=i
 drv:d.drv=⟨#[]⟩
 sz:Sized d
 att:Atts w' d.aa d.ac l
 an:d.an=l.length
 afr:∀ ad,d.aa=some ad->w.heap.size<=ad.block
 lb:l.length<=1
def DevRes (w w':World)(B tb K:Nat)(i:Int)(e:Ending):Prop:=∃ k' d l,k'<=K/\e=.returned (.agg d.vals)/\DevTo w w' B tb k' i d l
theorem zCr (B tb k n:Nat)(l:List ByteArray)(W:World)(ht:Tape W B tb k)(hk:k<=1000000000000)(vs:Array Value)(hv:vs=(l.map Value.string).toArray)(hn:n=l.length)(h1:1<=l.length)(h2:l.length<=4294967296):
  Calls Tryz.prog 15 #[.pointer (some ⟨tb,0,none⟩),.slice (some ⟨W.heap.size,0,none⟩) n n] (W.alloc (.cells vs 9)) fun e w'=>OneOf l e/\Tape w' B tb (k+1)/\Fr (Is tb) W w':=by
 subst hv hn;have hx:Fr No W (W.alloc (.cells (l.map Value.string).toArray 9)):=(Fr.refl _ _).alloc _;have hs:=Strs.of_block (zD W (.cells (l.map Value.string).toArray 9)) (by unfold maxLen;omega);have htl:=ht.lt;exact(zIK B tb k _ _ l _ (ht.fr hx (fun _ _=>id) id) hk hs h1 h2 (fun ad e=>by cases e;simp;omega)).mono fun e w' ⟨h1,h2,h3⟩=>⟨h1,h2,(hx.mono (T:=Is tb) (fun _ _ h=>h.elim)).step h3 (fun _ _ h=>h)⟩
theorem OneOf.short {l:List ByteArray}{e:Ending}(h:OneOf l e){N:Nat}(hl:(l.all fun s=>decide (s.size<=N))=true):∃ s,e=.returned (.string s)/\s.size<=N:=by
 obtain⟨s,h1,h2⟩:=h;exact⟨s,h1,by simpa using List.all_eq_true.1 hl s h2⟩
theorem zCw (B tb k:Nat)(a:Option Addr)(cap:Nat)(ds:List Dev)(i:Int)(w:World)(ht:Tape w B tb k)(hk:k<=1000000000)(hl:Devs w a cap ds)(hb:ds.length<=1000)(hsz:∀ d∈ds,d.orig.size<=32)(htb:∀ ad,a=some ad->ad.block≠tb)(hi:(Lit.int .i64 i).wf=true):
  Calls Tryz.prog 12 #[.pointer (some ⟨tb,0,none⟩),.agg #[.slice a ds.length cap],.int .i64 i] w fun e w'=>DevRes w w' B tb (k+12) i e:=by
 have hx:Fr No w ((w.alloc (.cells #[.slice a ds.length cap] 28)).alloc (.cells #[.int .i64 0,.int .i64 0,.string ⟨#[]⟩,.string ⟨#[]⟩,.string ⟨#[]⟩,.string ⟨#[]⟩,.string ⟨#[]⟩,.int .i64 0,.int .i64 0,.slice none 0 0] 34)):=((Fr.refl _ _).alloc _).alloc _;have q0:=zL w (.cells #[.slice a ds.length cap] 28) (.cells #[.int .i64 0,.int .i64 0,.string ⟨#[]⟩,.string ⟨#[]⟩,.string ⟨#[]⟩,.string ⟨#[]⟩,.string ⟨#[]⟩,.int .i64 0,.int .i64 0,.slice none 0 0] 34);have q1:=zP w (.cells #[.slice a ds.length cap] 28) (.cells #[.int .i64 0,.int .i64 0,.string ⟨#[]⟩,.string ⟨#[]⟩,.string ⟨#[]⟩,.string ⟨#[]⟩,.string ⟨#[]⟩,.int .i64 0,.int .i64 0,.slice none 0 0] 34);have htl:=ht.lt;have hs0:((w.alloc (.cells #[.slice a ds.length cap] 28)).alloc (.cells #[.int .i64 0,.int .i64 0,.string ⟨#[]⟩,.string ⟨#[]⟩,.string ⟨#[]⟩,.string ⟨#[]⟩,.string ⟨#[]⟩,.int .i64 0,.int .i64 0,.slice none 0 0] 34)).heap.size=w.heap.size+2:=by simp
 have hlen:=hl.lenmax;have Hl:=Lib.hid (fun W (hf:Fr (Is tb) w W)=>hl.fr hf (fun ad e _ h=>htb ad e h))
 go_enter Tryz.func12,Tryz.ntmps12
 go_upto_region 1 with(fail)
 generalize (w.alloc (.cells #[.slice a ds.length cap] 28)).alloc (.cells #[.int .i64 0,.int .i64 0,.string ⟨#[]⟩,.string ⟨#[]⟩,.string ⟨#[]⟩,.string ⟨#[]⟩,.string ⟨#[]⟩,.int .i64 0,.int .i64 0,.slice none 0 0] 34)=W0 at *;have ht0:=ht.fr hx (fun _ _=>id) id;have Hs0:=Lib.hid hs0;clear hs0
 go_cut [7] (fun v wx=>∃ Bd,v=.pointer (some ⟨Bd,0,none⟩)/\DevAny w wx B tb a ds.length cap Bd i (k+1))
 case first=>
  go_wp2_with fail
  refine(zCr B tb k 3 [⟨#[117,115,98]⟩,⟨#[112,99,105]⟩,⟨#[115,99,115,105]⟩] W0 ht0 (by omega) _ rfl rfl (by decide) (by decide)).mono ?_;rintro e w1 ⟨hone,ht1,hf1⟩;obtain⟨s,rfl,hs⟩:=hone.short (N:=300) (by decide);have Hss:=Lib.hid hs;clear hs hone
  go_wp2_with fail
  go_meet
  have hfw:Fr (Is tb) w w1:=(hx.mono (T:=Is tb) (fun _ _ h=>h.elim)).step hf1 (fun _ _ h=>h);have z0:=hf1.heap q0 (fun e=>by unfold Is at e;omega);have z1:=hf1.heap q1 (fun e=>by unfold Is at e;omega);have hsz1:w.heap.size+2<=w1.heap.size:=by have:=zE z1;omega
  have hy:Fr No w1 (w1.alloc (.cells (Dev.vals ⟨i,0,ByteArray.empty,ByteArray.empty,s,ByteArray.empty,ByteArray.empty,1,0,none,0,0⟩) 34)):=(Fr.refl _ _).alloc _;refine⟨w1.heap.size,rfl,k+1,⟨i,0,ByteArray.empty,ByteArray.empty,s,ByteArray.empty,ByteArray.empty,1,0,none,0,0⟩,[],Nat.le_refl _,⟨hfw.step hy (fun _ _ h=>h.elim),ht1.fr hy (fun _ _=>id) id,hy.heap z0 id,hy.heap z1 id,zD _ _,hsz1,htl,rfl,rfl,show (ByteArray.empty).size<=300 by decide,show (ByteArray.empty).size<=300 by decide,Hss.out,show (ByteArray.empty).size<=300 by decide,Atts.nil _,rfl,(fun ad e=>by cases e),by simp⟩⟩
 case rest=>
  obtain⟨Bd,rfl,k1,d,l,hk1,hS⟩:=hcut;clear hx q0 q1 ht0 Hs0
  go_wp2_with fail
  refine(zCr B tb k1 4 [⟨#[97]⟩,⟨#[98]⟩,⟨#[104,117,98]⟩,⟨#[120,33,121]⟩] wc hS.tape (by omega) _ rfl rfl (by decide) (by decide)).mono ?_;rintro e w2 ⟨hone,ht2,hf2⟩;obtain⟨s,rfl,hs⟩:=hone.short (N:=100) (by decide);have hS2:=hS.step ht2 hf2;clear hS hone ht2 hf2
  go_upto_region 3 with(fail)
  go_cut [27] (fun v wx=>∃ b,v=.bool b/\(b=true->0<ds.length)/\DevAny w wx B tb a ds.length cap Bd i (k+3))
  case first=>
   have t0:=hS2.t0;by_cases hn:0<ds.length
   ·have hn':(0:Int)<ds.length:=by omega
    go_wp2_with fail
    refine(zAH B tb (k1+1) 4 _ hS2.tape (by omega) (by omega) (by omega)).mono ?_;rintro e w3 ⟨r,rfl,hr1,hr2,ht3,hf3⟩
    go_wp2_with fail
    go_meet
    exact⟨_,rfl,fun _=>hn,k1+1+1,d,l,by omega,hS2.step ht3 hf3⟩
   ·have hn':¬ (0:Int)<ds.length:=by omega
    go_wp2_with fail
    go_meet
    exact⟨false,rfl,(fun h=>by cases h),k1+1,d,l,by omega,hS2⟩
  case rest=>
   clear hS2;obtain⟨b,rfl,hpos,k3,d,l,hk3,hS3⟩:=hcut
   go_upto_if 27 with(fail)
   go_cut [8] (fun v wx=>(∃ s,v=.string s/\s.size<=100)/\DevAny w wx B tb a ds.length cap Bd i (k+5))
   case first=>
    cases b
    ·go_wp2_with fail
     go_meet
     exact⟨⟨s,rfl,hs⟩,k3,d,l,by omega,hS3⟩
    ·have hpos':=hpos rfl
     go_upto_region 4 with(fail)
     go_cut [9] (fun v wx=>∃ (b9:Nat) (p:Dev) (k':Nat),v=.pointer (some ⟨b9,0,none⟩)/\k'<=k+4/\p.orig.size<=32/\wx.heap[b9]?=some (.cells p.vals 34)/\b9≠Bd/\w.heap.size+2<=b9/\DevS w wx B tb a ds.length cap Bd i k' d l)
     case first=>
      refine zY (TB tb wc.heap.size) (.q 0 (.q 1 (.q 2 (.q 3 (.q 4 (.q 5 (.m2 6 (.q 7 (.q 8 (.m1 9 (.m1 10 .fin)))) 9 (.m1 6 (.q 7 (.q 8 (.m1 10 .fin))))))))))) _ (by kernel_rfl) (by kernel_rfl) (fun w0 hf0=>?_) (fun _ _ h=>h);have hSx:=hS3.no hf0;have hxz:=hf0.size;have nt:¬ TB tb wc.heap.size w.heap.size:=by unfold TB;have:=hSx.tl;have:=zE hS3.p1;omega
      have g0:∀ g:Gr (TB tb wc.heap.size) w0,g.W.cell? ⟨w.heap.size,0,none⟩=some (.slice a ds.length cap):=fun g=>g.fr.cell hSx.t0 nt
      repeat (apply zM;exact rfl;exact rfl;exact rfl;intro K hK;go_big_quiet_op;go_big_quiet_on)
      clear g0;refine zh rfl rfl ?_ ?_
      ·go_wp2_with fail
       refine(zAH B tb k3 ds.length _ hSx.tape (by omega) (by omega) (by omega)).mono ?_;rintro e w5 ⟨r,rfl,hr1,hr2,ht5,hf5⟩;obtain⟨r,rfl⟩:=Int.eq_ofNat_of_zero_le hr1;have hlt:r<ds.length:=by omega
       have hlt':(r:Int)<ds.length:=by omega
       have hS5:=hSx.step ht5 hf5
       go_wp2_with fail
       refine OnlyN.mk ⟨hf5.mono (fun _ _ h=>.inl h),?_⟩;obtain⟨b,off,p,rfl,hp,c0,c1,c2,c3,c4,c5,c6,c7,c8,c9⟩:=(Hl.out w5 hS5.fr).dev hlt;have hp32:=hsz p (List.mem_of_getElem? hp);have nb:¬ TB tb wc.heap.size b:=by
        have h1:=htb _ rfl;have h2:=(hl.cell _ rfl (by intro e;subst e;simp at hlt)).2.1;have h3:=zE hS3.p1;simp only at h1 h2;unfold TB;omega
       have e0:∀ g:Gr (TB tb wc.heap.size) w5,g.W.cell? ⟨b,off+r*10,none⟩=some (.int .i64 p.index):=fun g=>g.fr.cell c0 nb
       have e1:∀ g:Gr (TB tb wc.heap.size) w5,g.W.cell? ⟨b,off+r*10+1,none⟩=some (.int .i64 p.parent):=fun g=>g.fr.cell c1 nb
       have e2:∀ g:Gr (TB tb wc.heap.size) w5,g.W.cell? ⟨b,off+r*10+2,none⟩=some (.string p.name):=fun g=>g.fr.cell c2 nb
       have e3:∀ g:Gr (TB tb wc.heap.size) w5,g.W.cell? ⟨b,off+r*10+3,none⟩=some (.string p.orig):=fun g=>g.fr.cell c3 nb
       have e4:∀ g:Gr (TB tb wc.heap.size) w5,g.W.cell? ⟨b,off+r*10+4,none⟩=some (.string p.sub):=fun g=>g.fr.cell c4 nb
       have e5:∀ g:Gr (TB tb wc.heap.size) w5,g.W.cell? ⟨b,off+r*10+5,none⟩=some (.string p.drv):=fun g=>g.fr.cell c5 nb
       have e6:∀ g:Gr (TB tb wc.heap.size) w5,g.W.cell? ⟨b,off+r*10+6,none⟩=some (.string p.ali):=fun g=>g.fr.cell c6 nb
       have e7:∀ g:Gr (TB tb wc.heap.size) w5,g.W.cell? ⟨b,off+r*10+7,none⟩=some (.int .i64 p.kind):=fun g=>g.fr.cell c7 nb
       have e8:∀ g:Gr (TB tb wc.heap.size) w5,g.W.cell? ⟨b,off+r*10+8,none⟩=some (.int .i64 p.num):=fun g=>g.fr.cell c8 nb
       have e9:∀ g:Gr (TB tb wc.heap.size) w5,g.W.cell? ⟨b,off+r*10+9,none⟩=some (.slice p.aa p.an p.ac):=fun g=>g.fr.cell c9 nb
       have Hp:=Lib.hid hp;clear hp c0 c1 c2 c3 c4 c5 c6 c7 c8 c9
       repeat (apply zM;exact rfl;exact rfl;exact rfl;intro K hK;go_big_quiet_op;go_big_quiet_on)
       clear e0 e1 e2 e3 e4 e5 e6 e7 e8 e9;refine zH rfl ?_
       go_wp2_with fail
       refine OnlyN.mk ⟨(Fr.refl _ _).alloc _,?_⟩;refine zH rfl ?_
       go_wp2_with fail
       have h5z:=hf5.size;refine OnlyN.mk ⟨Fr.swap _ _ _ (.inr (by omega)),?_⟩;refine zS ?_
       go_wp2_with fail
       go_meet
       exact⟨w5.heap.size,p,k3+1,rfl,by omega,hp32,zD _ _,by have:=hS5.lt;omega,by have:=zE hS5.p1;omega,hS5.no ((Fr.refl _ _).alloc _)⟩
      ·go_wp2_with fail
       refine OnlyN.mk ⟨(Fr.refl _ _).alloc _,?_⟩;generalize hX:w0.alloc (.cells #[.int .i64 0,.int .i64 0,.string ⟨#[]⟩,.string ⟨#[]⟩,.string ⟨#[]⟩,.string ⟨#[]⟩,.string ⟨#[]⟩,.int .i64 0,.int .i64 0,.slice none 0 0] 34)=X;have hXb:X.heap[w0.heap.size]?=some (.cells #[.int .i64 0,.int .i64 0,.string ⟨#[]⟩,.string ⟨#[]⟩,.string ⟨#[]⟩,.string ⟨#[]⟩,.string ⟨#[]⟩,.int .i64 0,.int .i64 0,.slice none 0 0] 34):=by rw[<-hX];exact zD _ _
       have hXf:Fr No w0 X:=by rw[<-hX];exact(Fr.refl _ _).alloc _
       clear hX;have hSX:=hSx.no hXf;refine zH rfl ?_
       go_wp2_with fail
       refine(zAH B tb k3 ds.length _ hSX.tape (by omega) (by omega) (by omega)).mono ?_;rintro e w5 ⟨r,rfl,hr1,hr2,ht5,hf5⟩;obtain⟨r,rfl⟩:=Int.eq_ofNat_of_zero_le hr1;have hlt:r<ds.length:=by omega
       have hlt':(r:Int)<ds.length:=by omega
       have hS5:=hSX.step ht5 hf5
       go_wp2_with fail
       refine OnlyN.mk ⟨hf5.mono (fun _ _ h=>.inl h),?_⟩;obtain⟨b,off,p,rfl,hp,c0,c1,c2,c3,c4,c5,c6,c7,c8,c9⟩:=(Hl.out w5 hS5.fr).dev hlt;have hp32:=hsz p (List.mem_of_getElem? hp);have nb:¬ TB tb wc.heap.size b:=by
        have h1:=htb _ rfl;have h2:=(hl.cell _ rfl (by intro e;subst e;simp at hlt)).2.1;have h3:=zE hS3.p1;simp only at h1 h2;unfold TB;omega
       have e0:∀ g:Gr (TB tb wc.heap.size) w5,g.W.cell? ⟨b,off+r*10,none⟩=some (.int .i64 p.index):=fun g=>g.fr.cell c0 nb
       have e1:∀ g:Gr (TB tb wc.heap.size) w5,g.W.cell? ⟨b,off+r*10+1,none⟩=some (.int .i64 p.parent):=fun g=>g.fr.cell c1 nb
       have e2:∀ g:Gr (TB tb wc.heap.size) w5,g.W.cell? ⟨b,off+r*10+2,none⟩=some (.string p.name):=fun g=>g.fr.cell c2 nb
       have e3:∀ g:Gr (TB tb wc.heap.size) w5,g.W.cell? ⟨b,off+r*10+3,none⟩=some (.string p.orig):=fun g=>g.fr.cell c3 nb
       have e4:∀ g:Gr (TB tb wc.heap.size) w5,g.W.cell? ⟨b,off+r*10+4,none⟩=some (.string p.sub):=fun g=>g.fr.cell c4 nb
       have e5:∀ g:Gr (TB tb wc.heap.size) w5,g.W.cell? ⟨b,off+r*10+5,none⟩=some (.string p.drv):=fun g=>g.fr.cell c5 nb
       have e6:∀ g:Gr (TB tb wc.heap.size) w5,g.W.cell? ⟨b,off+r*10+6,none⟩=some (.string p.ali):=fun g=>g.fr.cell c6 nb
       have e7:∀ g:Gr (TB tb wc.heap.size) w5,g.W.cell? ⟨b,off+r*10+7,none⟩=some (.int .i64 p.kind):=fun g=>g.fr.cell c7 nb
       have e8:∀ g:Gr (TB tb wc.heap.size) w5,g.W.cell? ⟨b,off+r*10+8,none⟩=some (.int .i64 p.num):=fun g=>g.fr.cell c8 nb
       have e9:∀ g:Gr (TB tb wc.heap.size) w5,g.W.cell? ⟨b,off+r*10+9,none⟩=some (.slice p.aa p.an p.ac):=fun g=>g.fr.cell c9 nb
       have Hp:=Lib.hid hp;clear hp c0 c1 c2 c3 c4 c5 c6 c7 c8 c9
       repeat (apply zM;exact rfl;exact rfl;exact rfl;intro K hK;go_big_quiet_op;go_big_quiet_on)
       clear e0 e1 e2 e3 e4 e5 e6 e7 e8 e9;refine zH rfl ?_;have h05:w0.heap.size≠tb:=by have:=hSx.tl;have:=zE hSx.p1;omega
       have hY:=hf5.heap hXb (fun e=>h05 e);obtain⟨z0,z1,z2,z3,z4,z5,z6,z7,z8,z9⟩:=cl10 hY;obtain⟨y0,y1,y2,y3,y4,y5,y6,y7,y8,y9⟩:=fl10 hY
       go_wp2_with fail
       have h10:=zAy hY rfl p;have hbd:Bd≠w0.heap.size:=by have:=hSx.lt;omega
       refine OnlyN.mk ⟨h10.2.mono (fun _ _ h=>by unfold Is at h;unfold TB;omega),?_⟩;refine zS ?_
       go_wp2_with fail
       go_meet
       exact⟨w0.heap.size,p,k3+1,rfl,by omega,hp32,h10.1,by omega,by have:=zE hSx.p1;omega,hS5.away h10.2 (by have:=zE hSx.p1;omega) (fun e=>hbd e) (fun ad e hne=>by have:=(hSx.att.cell ad e hne).2.1;omega)⟩
     case rest=>
      clear hS3 hpos;obtain⟨b9,p,k9,rfl,hk9,hp32,hb9,hne9,hlo9,hS9⟩:=hcut;have p0:wc.cell? ⟨b9,0,none⟩=some (.int .i64 p.index):=zB hb9 0;have d1:wc.cell? ⟨Bd,1,none⟩=some (.int .i64 d.parent):=hS9.dv 1 (by omega);have f1:=hS9.fz 1
      go_upto_region 6 with(fail)
      have hSa:DevS w _ B tb a ds.length cap Bd i k9 { d with parent:=p.index } l:=hS9.set (j:=1) (v:=.int .i64 p.index) (d':={ d with parent:=p.index }) rfl hS9.ix rfl hS9.sn hS9.so hS9.ss hS9.sa rfl rfl rfl;have hba:=(Fr.setAt (b:=Bd) (i:=1) (Fr.refl _ wc) (.int .i64 p.index)).heap hb9 hne9;clear p0 d1 f1 hS9 hb9;generalize wc.setCell ⟨Bd,1,none⟩ (.int .i64 p.index)=W1 at *;generalize hdd:({ d with parent:=p.index }:Dev)=dd at hSa;clear hdd;have p7:W1.cell? ⟨b9,7,none⟩=some (.int .i64 p.kind):=zB hba 7
      go_cut [47] (fun v wx=>∃ b k',v=.bool b/\k'<=k+5/\wx.heap[b9]?=some (.cells p.vals 34)/\DevS w wx B tb a ds.length cap Bd i k' dd l)
      case first=>
       rcases hk2:(p.kind==2)with _ | _
       ·go_wp2_with fail
        go_meet
        exact⟨false,k9,rfl,by omega,hba,hSa⟩
       ·go_wp2_with fail
        refine(zAH B tb k9 4 _ hSa.tape (by omega) (by omega) (by omega)).mono ?_;rintro e w6 ⟨r,rfl,hr1,hr2,ht6,hf6⟩
        go_wp2_with fail
        go_meet
        exact⟨_,k9+1,rfl,by omega,hf6.heap hba (fun e=>by have:=hSa.tl;unfold Is at e;omega),hSa.step ht6 hf6⟩
      case rest=>
       clear hSa hba p7;obtain⟨b,k7,rfl,hk7,hb7,hS7⟩:=hcut;cases b
       ·go_wp2_with fail
        go_meet
        exact⟨⟨s,rfl,hs⟩,k7,dd,l,hk7,hS7⟩
       ·have p3:wc.cell? ⟨b9,3,none⟩=some (.string p.orig):=zB hb7 3;have d7:wc.cell? ⟨Bd,7,none⟩=some (.int .i64 dd.kind):=hS7.dv 7 (by omega);have f7:=hS7.fz 7;have hps:(p.orig++⟨#[112]⟩).size<=100:=by
         rw[ByteArray.size_append];have:(⟨#[112]⟩:ByteArray).size=1:=rfl;omega
        have Hps:=Lib.hid hps;clear hps
        go_wp2_with fail
        go_meet
        exact⟨⟨_,rfl,Hps.out⟩,k7,{ dd with kind:=2 },l,hk7,hS7.set (j:=7) (v:=.int .i64 2) (d':={ dd with kind:=2 }) rfl hS7.ix rfl hS7.sn hS7.so hS7.ss hS7.sa rfl rfl rfl⟩
   case rest=>
    clear hS3 hs;obtain⟨⟨s,rfl,hs⟩,k4,d,l,hk4,hS4⟩:=hcut;clear hpos
    go_wp2_with fail
    refine(zAH B tb k4 5 _ hS4.tape (by omega) (by omega) (by omega)).mono ?_;rintro e w5 ⟨r,rfl,hr1,hr2,ht5,hf5⟩;have hS5:=hS4.step ht5 hf5;clear hS4 ht5 hf5
    go_upto_block 0 with(fail)
    go_cut [8] (fun v wx=>(∃ s,v=.string s/\s.size<=100)/\DevAny w wx B tb a ds.length cap Bd i (k+7))
    case first=>
     have d7:w5.cell? ⟨Bd,7,none⟩=some (.int .i64 d.kind):=hS5.dv 7 (by omega);have f7:=hS5.fz 7;have hset:∀ K:Int,DevS w (w5.setCell ⟨Bd,7,none⟩ (.int .i64 K)) B tb a ds.length cap Bd i (k4+1) { d with kind:=K } l:=fun K=>hS5.set (j:=7) (v:=.int .i64 K) (d':={ d with kind:=K }) rfl hS5.ix rfl hS5.sn hS5.so hS5.ss hS5.sa rfl rfl rfl
     have Hset:=Lib.hid hset;clear hset;rcases(by omega:r=0\/r=1\/r=2\/r=3\/r=4)with rfl | rfl | rfl | rfl | rfl
     ·go_wp2_with fail
      go_meet
      exact⟨⟨s,rfl,hs⟩,_,_,l,by omega,Hset.out 2⟩
     ·go_wp2_with fail
      go_meet
      exact⟨⟨s,rfl,hs⟩,_,_,l,by omega,Hset.out 2⟩
     ·go_wp2_with fail
      go_meet
      exact⟨⟨s,rfl,hs⟩,_,_,l,by omega,Hset.out 2⟩
     ·rcases hk1:(d.kind==1)with _ | _
      ·go_wp2_with fail
       go_meet
       exact⟨⟨s,rfl,hs⟩,_,_,l,by omega,hS5⟩
      ·have hSk:=Hset.out 4
       go_upto_region 17 with(fail)
       generalize w5.setCell ⟨Bd,7,none⟩ (.int .i64 4)=W1 at *
       go_wp2_with fail
       refine(zCr B tb (k4+1) 2 [⟨#[101,116,104]⟩,⟨#[108,97,110]⟩] W1 hSk.tape (by omega) _ rfl rfl (by decide) (by decide)).mono ?_;rintro e w6 ⟨hone,ht6,hf6⟩;obtain⟨s',rfl,hs'⟩:=hone.short (N:=100) (by decide)
       go_wp2_with fail
       go_meet
       exact⟨⟨s',rfl,hs'⟩,_,_,l,by omega,hSk.step ht6 hf6⟩
     ·go_wp2_with fail
      go_meet
      exact⟨⟨s,rfl,hs⟩,_,_,l,by omega,hS5⟩
    case rest=>
     clear hS5 hs;obtain⟨⟨s,rfl,hs⟩,k5,d,l,hk5,hS5⟩:=hcut;have d7:wc.cell? ⟨Bd,7,none⟩=some (.int .i64 d.kind):=hS5.dv 7 (by omega)
     go_upto_block 1 with(fail)
     go_cut [8] (fun v wx=>(∃ s,v=.string s/\s.size<=100)/\DevAny w wx B tb a ds.length cap Bd i (k+9))
     case first=>
      rcases hk2:(d.kind==2)with _ | _
      ·rcases hk4:(d.kind==4)with _ | _
       ·go_wp2_with fail
        go_meet
        exact⟨⟨s,rfl,hs⟩,_,_,l,by omega,hS5⟩
       ·have d4:wc.cell? ⟨Bd,4,none⟩=some (.string d.sub):=hS5.dv 4 (by omega);have f4:=hS5.fz 4
        go_wp2_with fail
        go_meet
        exact⟨⟨s,rfl,hs⟩,_,_,l,by omega,hS5.set (j:=4) (v:=.string ⟨#[110,101,116]⟩) (d':={ d with sub:=⟨#[110,101,116]⟩ }) rfl hS5.ix rfl hS5.sn hS5.so (show (⟨#[110,101,116]⟩:ByteArray).size<=300 by decide) hS5.sa rfl rfl rfl⟩
      ·have hSa:DevS w _ B tb a ds.length cap Bd i k5 { d with num:=i } l:=hS5.set (j:=8) (v:=.int .i64 i) (d':={ d with num:=i }) rfl hS5.ix rfl hS5.sn hS5.so hS5.ss hS5.sa rfl rfl rfl;have hSb:DevS w _ B tb a ds.length cap Bd i k5 { d with num:=i,sub:=⟨#[98,108,111,99,107]⟩ } l:=hSa.set (j:=4) (v:=.string ⟨#[98,108,111,99,107]⟩) (d':={ d with num:=i,sub:=⟨#[98,108,111,99,107]⟩ }) rfl hS5.ix rfl hS5.sn hS5.so (show (⟨#[98,108,111,99,107]⟩:ByteArray).size<=300 by decide) hS5.sa rfl rfl rfl;have d4:wc.cell? ⟨Bd,4,none⟩=some (.string d.sub):=hS5.dv 4 (by omega);have f4:=hS5.fz 4;have d8:wc.cell? ⟨Bd,8,none⟩=some (.int .i64 d.num):=hS5.dv 8 (by omega);have f8:=hS5.fz 8
       go_upto_region 21 with(fail)
       generalize (wc.setCell ⟨Bd,8,none⟩ (.int .i64 i)).setCell ⟨Bd,4,none⟩ (.string ⟨#[98,108,111,99,107]⟩)=W1 at *;clear hSa hS5 d4 f4 d8 f8 d7;generalize ({ d with num:=i,sub:=⟨#[98,108,111,99,107]⟩ }:Dev)=dd at hSb
       go_cut [88] (fun v wx=>(∃ b,v=.bool b)/\W1=wx)
       case first=>
        go_wp2_with fail
        all_goals
         go_meet
         exact⟨⟨_,rfl⟩,rfl⟩
       case rest=>
        obtain⟨⟨b,rfl⟩,rfl⟩:=hcut
        go_upto_if 88 with(fail)
        go_cut [8] (fun v wx=>(∃ s,v=.string s/\s.size<=100)/\∃ k' d,k'<=k+8/\DevS w wx B tb a ds.length cap Bd i k' d l)
        case first=>
         cases b
         ·go_wp2_with fail
          go_meet
          exact⟨⟨s,rfl,hs⟩,_,_,by omega,hSb⟩
         ·go_wp2_with fail
          refine(zCr B tb k5 4 [⟨#[115,100]⟩,⟨#[110,118,109,101]⟩,⟨#[109,100,45,114]⟩,⟨#[120,33,115,100]⟩] W1 hSb.tape (by omega) _ rfl rfl (by decide) (by decide)).mono ?_;rintro e w6 ⟨hone,ht6,hf6⟩;obtain⟨s',rfl,hs'⟩:=hone.short (N:=100) (by decide)
          go_wp2_with fail
          go_meet
          exact⟨⟨s',rfl,hs'⟩,_,_,by omega,hSb.step ht6 hf6⟩
        case rest=>
         clear hSb hs b;obtain⟨⟨s,rfl,hs⟩,k6,d,hk6,hS6⟩:=hcut
         go_wp2_with fail
         refine(zBu _).mono ?_;rintro e w7 ⟨rfl,hc7,hf7⟩;have hS7:=hS6.no hf7;have hz6:=zE hS6.p1
         go_wp2_with fail
         refine(zBu _).mono ?_;rintro e w8 ⟨rfl,-,hf8⟩;have hc8:=hc7.no hf8 (fun _=>id);have hS8:=hS7.no hf8;clear hS6 hS7 hc7 hf7 hf8
         go_wp2_with fail
         refine(zAH B tb k6 16 _ hS8.tape (by omega) (by omega) (by omega)).mono ?_;rintro e w9 ⟨r,rfl,hr1,hr2,ht9,hf9⟩;obtain⟨r,rfl⟩:=Int.eq_ofNat_of_zero_le hr1;have hS9:=hS8.step ht9 hf9;have hc9:=hc8.fr hf9 (fun ad e _ h=>by cases e;have:=hS8.tl;unfold Is at h;simp at h;omega);clear hS8 hc8 hf9 ht9;have hlt:r<zAM.length:=by rw[zBG];omega
         obtain⟨b,off,c,e',hcm,hcc⟩:=hc9.at hlt;have hcs:c.size<=256:=zD6 c (List.mem_of_getElem? hcm);cases e';rw[Nat.zero_add]at hcc;have Hcs:=Lib.hid hcs;clear hcm hcs hc9;have hr16:(r:Int)<16:=by omega
         go_upto_if 100 with(fail)
         clear hcc;have hSA:=hS9.no ((Fr.refl _ w9).alloc (.cells #[.string ⟨#[99,111,110,116,101,110,116]⟩,.string c] 50));have hAb:=zD w9 (.cells #[.string ⟨#[99,111,110,116,101,110,116]⟩,.string c] 50);have d9:(w9.alloc (.cells #[.string ⟨#[99,111,110,116,101,110,116]⟩,.string c] 50)).cell? ⟨Bd,9,none⟩=some (.slice d.aa d.an d.ac):=hSA.dv 9 (by omega);have f9:=hSA.fz 9;have HA:=Lib.hid (hSA.attrs hAb (by have:=zE hS9.p1;omega) (by have:=hS9.lt;omega) (by decide) (by have:=Hcs.out;unfold maxLen;omega));clear hSA hAb;rcases hc0:c.toList.isEmpty with _ | _
         ·go_wp2_with fail
          go_meet
          exact⟨⟨s,rfl,hs⟩,_,_,_,by omega,HA.out⟩
         ·go_wp2_with fail
          go_meet
          exact⟨⟨s,rfl,hs⟩,_,_,_,by omega,hS9⟩
     case rest=>
      clear hS5 hs d7;obtain⟨⟨s,rfl,hs⟩,k5,d,l,hk5,hS5⟩:=hcut
      go_wp2_with fail
      refine(zAH B tb k5 4 _ hS5.tape (by omega) (by omega) (by omega)).mono ?_;rintro e w6 ⟨r,rfl,hr1,hr2,ht6,hf6⟩;obtain⟨r,rfl⟩:=Int.eq_ofNat_of_zero_le hr1;have hS6:=hS5.step ht6 hf6;clear hS5 ht6 hf6;have er:(1:Int)+(r:Int)=((1+r:Nat):Int):=by omega
      have Her:=Lib.hid er;clear er
      go_wp2_with fail
      rw[Her.out];refine(Tryz.strconv_Itoa_small (1+r) (by omega) _).mono ?_;rintro e w7 ⟨rfl,rfl⟩;have hit:(⟨(Lib.decDigits (1+r)).toArray⟩:ByteArray).size<=10:=by
       have h:(Lib.decDigits (1+r)).length<=10:=by
        unfold Lib.decDigits;rw[dif_pos (by omega)];simp
       show (Array.size (List.toArray _))<=_
       rw[List.size_toArray];exact h
      generalize (⟨(Lib.decDigits (1+r)).toArray⟩:ByteArray)=it at hit ⊢;have hnm:(s++it).size<=300:=by rw[ByteArray.size_append];omega
      have d3:w7.cell? ⟨Bd,3,none⟩=some (.string d.orig):=hS6.dv 3 (by omega);have f3:=hS6.fz 3
      go_upto_region 29 with(fail)
      have hSo:DevS w _ B tb a ds.length cap Bd i (k5+1) { d with orig:=s++it } l:=hS6.set (j:=3) (v:=.string (s++it)) (d':={ d with orig:=s++it }) rfl hS6.ix rfl hS6.sn hnm hS6.ss hS6.sa rfl rfl rfl;generalize w7.setCell ⟨Bd,3,none⟩ (.string (s++it))=W1 at *;have e3:W1.cell? ⟨Bd,3,none⟩=some (.string (s++it)):=hSo.dv 3 (by omega);have e2:W1.cell? ⟨Bd,2,none⟩=some (.string d.name):=hSo.dv 2 (by omega);have f2:=hSo.fz 2
      go_upto_region 30 with(fail)
      have hSn:DevS w _ B tb a ds.length cap Bd i (k5+1) { d with orig:=s++it,name:=s++it } l:=hSo.set (j:=2) (v:=.string (s++it)) (d':={ d with orig:=s++it,name:=s++it }) rfl hS6.ix rfl hnm hnm hS6.ss hS6.sa rfl rfl rfl;generalize W1.setCell ⟨Bd,2,none⟩ (.string (s++it))=W2 at *;generalize ({ d with orig:=s++it,name:=s++it }:Dev)=dd at hSn;clear hSo hS6 e3 e2 f2 d3 f3 hnm hit;have c0:W2.cell? ⟨Bd,0,none⟩=some (.int .i64 dd.index):=hSn.dv 0 (by omega);have c1:W2.cell? ⟨Bd,1,none⟩=some (.int .i64 dd.parent):=hSn.dv 1 (by omega);have c2:W2.cell? ⟨Bd,2,none⟩=some (.string dd.name):=hSn.dv 2 (by omega);have c3:W2.cell? ⟨Bd,3,none⟩=some (.string dd.orig):=hSn.dv 3 (by omega);have c4:W2.cell? ⟨Bd,4,none⟩=some (.string dd.sub):=hSn.dv 4 (by omega);have c5:W2.cell? ⟨Bd,5,none⟩=some (.string dd.drv):=hSn.dv 5 (by omega);have c6:W2.cell? ⟨Bd,6,none⟩=some (.string dd.ali):=hSn.dv 6 (by omega);have c7:W2.cell? ⟨Bd,7,none⟩=some (.int .i64 dd.kind):=hSn.dv 7 (by omega);have c8:W2.cell? ⟨Bd,8,none⟩=some (.int .i64 dd.num):=hSn.dv 8 (by omega);have c9:W2.cell? ⟨Bd,9,none⟩=some (.slice dd.aa dd.an dd.ac):=hSn.dv 9 (by omega);have z0:W2.cell? ⟨w.heap.size+1,0,none⟩=some (.int .i64 0):=zB hSn.p1 0;have z1:W2.cell? ⟨w.heap.size+1,1,none⟩=some (.int .i64 0):=zB hSn.p1 1;have z2:W2.cell? ⟨w.heap.size+1,2,none⟩=some (.string ⟨#[]⟩):=zB hSn.p1 2;have z3:W2.cell? ⟨w.heap.size+1,3,none⟩=some (.string ⟨#[]⟩):=zB hSn.p1 3;have z4:W2.cell? ⟨w.heap.size+1,4,none⟩=some (.string ⟨#[]⟩):=zB hSn.p1 4;have z5:W2.cell? ⟨w.heap.size+1,5,none⟩=some (.string ⟨#[]⟩):=zB hSn.p1 5;have z6:W2.cell? ⟨w.heap.size+1,6,none⟩=some (.string ⟨#[]⟩):=zB hSn.p1 6;have z7:W2.cell? ⟨w.heap.size+1,7,none⟩=some (.int .i64 0):=zB hSn.p1 7;have z8:W2.cell? ⟨w.heap.size+1,8,none⟩=some (.int .i64 0):=zB hSn.p1 8;have z9:W2.cell? ⟨w.heap.size+1,9,none⟩=some (.slice none 0 0):=zB hSn.p1 9;have y0:W2.frozen? ⟨w.heap.size+1,0,none⟩=false:=zC hSn.p1 0;have y1:W2.frozen? ⟨w.heap.size+1,1,none⟩=false:=zC hSn.p1 1;have y2:W2.frozen? ⟨w.heap.size+1,2,none⟩=false:=zC hSn.p1 2;have y3:W2.frozen? ⟨w.heap.size+1,3,none⟩=false:=zC hSn.p1 3;have y4:W2.frozen? ⟨w.heap.size+1,4,none⟩=false:=zC hSn.p1 4;have y5:W2.frozen? ⟨w.heap.size+1,5,none⟩=false:=zC hSn.p1 5;have y6:W2.frozen? ⟨w.heap.size+1,6,none⟩=false:=zC hSn.p1 6;have y7:W2.frozen? ⟨w.heap.size+1,7,none⟩=false:=zC hSn.p1 7;have y8:W2.frozen? ⟨w.heap.size+1,8,none⟩=false:=zC hSn.p1 8;have y9:W2.frozen? ⟨w.heap.size+1,9,none⟩=false:=zC hSn.p1 9;have hfin:=zAy hSn.p1 rfl dd;have Hres:Hid (DevTo w _ B tb (k5+1) i dd l):=⟨(hSn.fr.step hfin.2 (fun b hb e=>by unfold Is at e;omega)),hSn.tape.fr hfin.2 (fun b hb e=>by have:=hSn.tape.le;have:=hSn.tl;unfold Is at e;omega) (fun e=>by have:=hSn.tl;unfold Is at e;omega),hSn.ix,hSn.drv,⟨by have:=hSn.sn;unfold maxLen;omega,by have:=hSn.so;unfold maxLen;omega,by have:=hSn.ss;unfold maxLen;omega,by have:=hSn.drv;rw[this];decide,by have:=hSn.sa;unfold maxLen;omega⟩,hSn.att.fr hfin.2 (fun ad e _ h=>by have:=(hSn.afr ad e).1;unfold Is at h;omega),hSn.an,(fun ad e=>by have:=(hSn.afr ad e).1;omega),hSn.lb⟩
      clear hfin hSn
      go_wp2_with fail
      refine bodyPost_ret (v:=.agg dd.vals) (by simp[results,Tryz.results12,go_sem,Dev.vals,z0,z1,z2,z3,z4,z5,z6,z7,z8,z9]) rfl ?_;exact⟨k5+1,dd,l,by omega,rfl,Hres.out⟩
end Go.Proofs.YtmajgldaplkpiaaGreatDoor
