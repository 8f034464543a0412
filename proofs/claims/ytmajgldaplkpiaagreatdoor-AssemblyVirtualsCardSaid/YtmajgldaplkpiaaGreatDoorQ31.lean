import Derived.Lib.ItoaLen
import Derived.Test.YtmajgldaplkpiaaGreatDoorQ30
namespace Go.Proofs.YtmajgldaplkpiaaGreatDoor
open Go.RowKit Go.Maps Go.Sort Go.Shelf
set_option linter.unusedVariables false
set_option maxRecDepth 100000
set_option maxHeartbeats 4000000
def partT (o:ByteArray)(k:Int):ByteArray:=o++⟨#[112]⟩++⟨(Lib.itoa k).toArray⟩
def partOk (o:ByteArray)(k:Int):Bool:=decide (1<=k)&&decide (k<=16)&&isName o&&isName (partT o k)
theorem zKk (o:ByteArray)(k:Int)(w:World)(hE:Env w)(ho:o.size<=1000000)(hk:(Lit.int .i64 k).wf=true):
  Calls Tryz.prog 210 #[.string o,.int .i64 k] w fun e w'=>e=.returned (.tuple #[.string (if partOk o k=true then partT o k else ⟨#[]⟩),.int .i64 (if partOk o k=true then 0 else 310)])/\Fr No w w':=by
 have hkb:-9223372036854775808<=k/\k<=9223372036854775807:=by simp[Lit.wf,IntKind.min,IntKind.max,IntKind.signed,IntKind.bits]at hk;omega
 have hil:=Lib.itoa_length_le k hkb.1 hkb.2;obtain⟨it,hit⟩:∃ it,it=(⟨(Lib.itoa k).toArray⟩:ByteArray):=⟨_,rfl⟩
 have hits:it.size<=21:=by rw[hit];simpa [ByteArray.size]using hil
 have hL:partT o k=o++(⟨#[112]⟩:ByteArray)++it:=by rw[hit];rfl
 have hop:(o++(⟨#[112]⟩:ByteArray)).size=o.size+1:=by rw[ByteArray.size_append];rfl
 have h1:(o++(⟨#[112]⟩:ByteArray)).size<=9223372036854775807:=by omega
 have h3:(o++(⟨#[112]⟩:ByteArray)++it).size<=9223372036854775807:=by rw[ByteArray.size_append];omega
 have h4:(o++(⟨#[112]⟩:ByteArray)++it).size<=maxLen:=by unfold maxLen;rw[ByteArray.size_append];omega
 have h5:o.size<=maxLen:=by unfold maxLen;omega
 have hz4:¬ 9223372036854775807<(o++(⟨#[112]⟩:ByteArray)).size+it.size:=by omega
 have hz5:(o++(⟨#[112]⟩:ByteArray)).size+it.size<=9223372036854775807:=by omega
 have hz6:¬ 9223372036854775807<o.size+1+it.size:=by omega
 obtain⟨bo,hbo⟩:∃ bo,bo=partOk o k:=⟨_,rfl⟩
 rw[<-hbo,hL];have Hbo:Hid (bo=(decide (1<=k)&&decide (k<=16)&&isName o&&isName (o++(⟨#[112]⟩:ByteArray)++it))):=by unfold Hid;rw[hbo,<-hL];rfl
 have hit2:(⟨(Lib.itoa k).toArray⟩:ByteArray)=it:=hit.symm;clear hbo hL hil hit hop
 go_enter Tryz.func210,Tryz.ntmps210
 go_wp2_with fail
 refine(Tryz.strconv_Itoa k hkb.1 hkb.2 _ hE.tab).mono ?_;rintro e w1 ⟨rfl,kk,os,rfl⟩;have hf1:Fr No w (Go.Sort.grow (w.drewN kk) os):=Fr.of_below_size (Lib.below_grow _ w (Nat.le_refl _) kk os);generalize Go.Sort.grow (w.drewN kk) os=w1 at *;rw[hit2];by_cases hk1:k<1
 ·have hb:bo=false:=by rw[Hbo.out];simp[show ¬ 1<=k from by omega]
  subst hb;have Hf:=Lib.hid hf1;clear hf1
  go_wp2_with fail
  refine bodyPost_ret (v:=.tuple #[.string ⟨#[]⟩,.int .i64 310]) (by simp[results,Tryz.results210,go_sem]) rfl ?_;exact⟨by simp,Hf.out⟩
 ·by_cases hk2:k>16
  ·have hb:bo=false:=by rw[Hbo.out];simp[show ¬ k<=16 from by omega]
   subst hb;have Hf:=Lib.hid hf1;clear hf1
   go_wp2_with fail
   refine bodyPost_ret (v:=.tuple #[.string ⟨#[]⟩,.int .i64 310]) (by simp[results,Tryz.results210,go_sem]) rfl ?_;exact⟨by simp,Hf.out⟩
  ·have Hbo2:Hid (bo=(isName o&&isName (o++(⟨#[112]⟩:ByteArray)++it))):=by unfold Hid;rw[Hbo.out];simp[show 1<=k from by omega,show k<=16 from by omega]
   go_wp2_with fail
   refine(zAF _ _ h5).mono ?_;rintro e w2 ⟨rfl,hf2⟩;have Hf2:=Lib.hid (hf1.step hf2 (fun _ _ h=>h));clear hf1 hf2;rcases hn:isName o with _ | _
   ·have hb:bo=false:=by rw[Hbo2.out,hn];rfl
    subst hb;clear hn
    go_wp2_with fail
    refine bodyPost_ret (v:=.tuple #[.string ⟨#[]⟩,.int .i64 310]) (by simp[results,Tryz.results210,go_sem]) rfl ?_;exact⟨by simp,Hf2.out⟩
   ·have Hbo3:Hid (bo=isName (o++(⟨#[112]⟩:ByteArray)++it)):=by unfold Hid;rw[Hbo2.out,hn];rfl
    clear hn
    go_wp2_with fail
    refine(zAF _ _ h4).mono ?_;rintro e w3 ⟨rfl,hf3⟩;rw[<-Hbo3.out];have Hf3:=Lib.hid (Hf2.out.step hf3 (fun _ _ h=>h));clear hf3;cases bo
    ·go_wp2_with fail
     refine bodyPost_ret (v:=.tuple #[.string ⟨#[]⟩,.int .i64 310]) (by simp[results,Tryz.results210,go_sem]) rfl ?_;exact⟨by simp,Hf3.out⟩
    ·go_wp2_with fail
     refine bodyPost_ret (v:=.tuple #[.string (o++(⟨#[112]⟩:ByteArray)++it),.int .i64 0]) (by simp[results,Tryz.results210,go_sem]) rfl ?_;exact⟨by simp,Hf3.out⟩
def zAQ (p o s:ByteArray)(r k:Int):List Vir:=if partOk o k=true then [⟨p,partT o k,s,r⟩]else []
theorem zLG (bd bl bp br base:Nat)(d:Dev)(p s:ByteArray)(r k:Int)(V:List Vir)(av:Option Addr)(cv:Nat)(w:World)(hE:Env w)(ho:d.orig.size<=1000000)(hk:(Lit.int .i64 k).wf=true)
  (hbd:w.heap[bd]?=some (.cells d.vals 34)) (hbl:w.heap[bl]?=some (.cells #[.slice av V.length cv] 71)) (hbp:w.heap[bp]?=some (.cells #[.string p] 9)) (hbr:w.heap[br]?=some (.cells #[.int .i64 r] 3))
  (hown:w.ownsRow base 79 4 (.slice av V.length cv) V.length (vflat V)) (hV:V.length<=100000) (hbase:base<=w.heap.size):
  Calls Tryz.prog 209 #[.int .i64 k,.string s,.pointer (some ⟨bd,0,none⟩),.pointer (some ⟨bl,0,none⟩),.pointer (some ⟨bp,0,none⟩),.pointer (some ⟨br,0,none⟩)] w fun e w'=>e=.returned (.tuple #[])/\
   (∃ V' av' cv',V'=V++zAQ p d.orig s r k/\w'.heap[bl]?=some (.cells #[.slice av' V'.length cv'] 71)/\w'.ownsRow base 79 4 (.slice av' V'.length cv') V'.length (vflat V'))/\Fr (fun b=>b=bl\/(Value.slice av V.length cv).ownBlock=some b) w w':=by
 obtain⟨i0,hi0,hz0,hz1,hz2⟩:=info_parts infoV;have hnm:=zKk d.orig k w hE ho hk;have x3:=(DevB.of hbd).c3;obtain⟨nm,hnm2⟩:∃ nm,nm=partT d.orig k:=⟨_,rfl⟩
 have HP:Hid (zAQ p d.orig s r k=if partOk d.orig k=true then [⟨p,nm,s,r⟩]else []):=by unfold Hid;rw[hnm2];rfl
 rw[<-hnm2]at hnm;generalize zAQ p d.orig s r k=PO at *;clear hnm2 hE
 go_enter Tryz.func209,Tryz.ntmps209
 rcases hok:partOk d.orig k with _ | _
 ·rw[hok]at hnm HP;simp only[Bool.false_eq_true,if_false]at hnm HP;clear hok
  go_wp2_with fail
  refine hnm.mono ?_;rintro e w1 ⟨rfl,hf1⟩;clear hnm x3;have HR:=Lib.hid (And.intro (hf1.heap hbl id) (And.intro (zJ hown hf1 (fun _ _=>id)) hf1));clear hbl hown hf1 hbd hbp hbr
  go_wp2_with fail
  go_end0
  exact⟨rfl,⟨V,av,cv,by rw[HP.out,List.append_nil],HR.out.1,HR.out.2.1⟩,HR.out.2.2.mono (fun _ _ h=>h.elim)⟩
 ·rw[hok]at hnm HP;simp only[if_true]at hnm HP;clear hok
  go_wp2_with fail
  refine hnm.mono ?_;rintro e w1 ⟨rfl,hf1⟩;have kl:=hf1.heap hbl id;have y0:w1.cell? ⟨bl,0,none⟩=some (.slice av V.length cv):=zB kl 0;have y1:w1.cell? ⟨bp,0,none⟩=some (.string p):=zB (hf1.heap hbp id) 0;have y2:w1.cell? ⟨br,0,none⟩=some (.int .i64 r):=zB (hf1.heap hbr id) 0;have hown1:=zJ hown hf1 (fun _ _=>id);have hne:=zf hown1 kl (by decide);have hs1:=hf1.size;have Hf1:=Lib.hid hf1;clear hnm x3 hbl hown hf1 hbd hbp hbr
  go_wp2_with (at_builtin;refine wpList_append_own _ rfl _ _ 71 rfl base 79 i0 (.agg #[.string ByteArray.empty,.string ByteArray.empty,.string ByteArray.empty,.int .i64 0]) 4 56 Tryz.underlying71 hi0 hz0 hz1 hz2 rfl (by decide) _ _ _ rfl (hown1.alloc _) ⟨w1.heap.size,0,none⟩ 1 1 (Vir.vals ⟨p,nm,s,r⟩).toList rfl rfl (zX _ (Vir.vals ⟨p,nm,s,r⟩) _ rfl) (zBg _) (by unfold maxLen;omega) (by omega) (by first | omega | (simp;done) | (simp;omega)) ?_;intro v' w9 hown9 hgrow9 _;obtain⟨av',cv',rfl⟩:=zG hown9;have hal:Fr No w1 (w1.alloc (.cells (Vir.vals ⟨p,nm,s,r⟩) 79)):=(Fr.refl _ _).alloc _;have hgf:Fr (fun b=>(Value.slice av V.length cv).ownBlock=some b) (w1.alloc (.cells (Vir.vals ⟨p,nm,s,r⟩) 79)) w9:=Fr.of_grown hgrow9;have k9:=hgf.heap (hal.heap kl id) (fun e=>hne e);have y9:w9.cell? ⟨bl,0,none⟩=some (.slice av V.length cv):=zB k9 0;have f9:w9.frozen? ⟨bl,0,none⟩=false:=zC k9 0)
  have hne9:=zf hown9 k9 (by decide);have f5:Fr (Is bl) w9 (w9.setCell ⟨bl,0,none⟩ (.slice av' (V.length+1) cv')):=Fr.setAt (Fr.refl _ _) _;have k5:(w9.setCell ⟨bl,0,none⟩ (.slice av' (V.length+1) cv')).heap[bl]?=some (.cells #[.slice av' (V.length+1) cv'] 71):=zF k9 0 _;have hown5:=zJ hown9 f5 (fun b hb h=>by unfold Is at h;subst h;exact hne9 hb);have hff:Fr (fun b=>b=bl\/(Value.slice av V.length cv).ownBlock=some b) w (w9.setCell ⟨bl,0,none⟩ (.slice av' (V.length+1) cv')):=(((Hf1.out.step hal (fun _ _ h=>h)).mono (fun _ _ h=>h.elim)).step hgf (fun b _ h=>.inr h)).step f5 (fun b _ h=>.inl h);have HR:=Lib.hid (And.intro k5 (And.intro hown5 hff));clear hown9 hgrow9 hgf k9 f5 k5 hown5 hff hne hne9 hown1 hal
  go_end0
  exact⟨rfl,⟨V++[⟨p,nm,s,r⟩],av',cv',by rw[HP.out],by rw[List.length_append];exact HR.out.1,by rw[List.length_append,zBN];exact HR.out.2.1⟩,HR.out.2.2⟩
def pwF (p o:ByteArray)(r:Int)(ins:List ByteArray)(k:Nat):List Vir:=(List.range k).flatMap fun i:Nat=>zAQ p o (ins[i]?.getD ⟨#[]⟩) r ((i:Int)+1)
theorem zDq (p o:ByteArray)(r:Int)(ins:List ByteArray)(k:Nat):pwF p o r ins (k+1)=pwF p o r ins k++zAQ p o (ins[k]?.getD ⟨#[]⟩) r ((k:Int)+1):=by
 unfold pwF;rw[List.range_succ,List.flatMap_append];simp
theorem zE3 (p o s:ByteArray)(r k:Int):(zAQ p o s r k).length<=1:=by unfold zAQ;split<;>simp
theorem zHJ (p o:ByteArray)(r:Int)(ins:List ByteArray)(k:Nat):(pwF p o r ins k).length<=k:=by
 induction k with
 | zero=>simp[pwF]
 | succ k ih=>rw[zDq,List.length_append];have:=zE3 p o (ins[k]?.getD ⟨#[]⟩) r ((k:Int)+1);omega
def pwL (p:ByteArray)(d:Dev)(s:ByteArray)(r:Int):List Vir:=match parseC s with
 | some c=>if c.kind=5/\d.kind=2 then pwF p d.orig r (c.inner.map Ct.txt) c.inner.length else []
 | none=>[]
theorem zJK {p:ByteArray}{d:Dev}{s:ByteArray}{r:Int}(h:∀ c,parseC s=some c->c.kind≠5):pwL p d s r=[]:=by
 unfold pwL;cases hc:parseC s with
 | none=>rfl
 | some c=>exact if_neg (fun e=>h c hc e.1)
theorem zFy {s:ByteArray}{c:Ct}(h:parseC s=some c)(hk:c.kind=5):c.inner.length<=16:=by
 obtain⟨-,h2,-⟩:=(zBC s c).1 h;obtain⟨k,i,l,sl,t,e,n⟩:=c;have hk':k=5:=hk;subst hk';unfold Ct.valid at h2;rw[Bool.and_eq_true]at h2;have h3:=h2.2;rw[Ct.good,Bool.and_eq_true]at h3;have h4:=h3.1;simp[alike,someIn]at h4;show n.length<=16
 omega
theorem zJx (d:Dev)(l:List (ByteArray×ByteArray))(p:ByteArray)(r:Int)(w:World)(hE:Env w)(hA:Atts w d.aa d.ac l)(han:d.an=l.length)(ho:d.orig.size<=1000000)(hg:(getP l zr).size<=100000):
  Calls Tryz.prog 149 #[.agg d.vals,.string p,.int .i64 r] w fun e w'=>(∃ a' c' V,V=pwL p d (getP l zr) r/\e=.returned (.slice a' (V:List Vir).length c')/\Virs w' a' c' V/\(∀ ad,a'=some ad->w.heap.size<=ad.block))/\Fr No w w':=by
 obtain⟨W0,hW0⟩:∃ W0,W0=((w.alloc (.cells d.vals 34)).alloc (.cells #[.string p] 9)).alloc (.cells #[.int .i64 r] 3):=⟨_,rfl⟩
 have hx:Fr No w W0:=by rw[hW0];exact(((Fr.refl _ _).alloc _).alloc _).alloc _
 have q0:W0.heap[w.heap.size]?=some (.cells d.vals 34):=by rw[hW0];exact(((Fr.refl No _).alloc _).alloc _).heap (zD _ _) id
 have q1:W0.heap[w.heap.size+1]?=some (.cells #[.string p] 9):=by
  rw[hW0];have:=zL (w.alloc (.cells d.vals 34)) (.cells #[.string p] 9) (.cells #[.int .i64 r] 3)
  rwa [World.size_alloc]at this
 have q2:W0.heap[w.heap.size+2]?=some (.cells #[.int .i64 r] 3):=by
  rw[hW0];have:=zD ((w.alloc (.cells d.vals 34)).alloc (.cells #[.string p] 9)) (.cells #[.int .i64 r] 3)
  rwa [World.size_alloc,World.size_alloc]at this
 have s0:W0.heap.size=w.heap.size+3:=by rw[hW0];simp
 have hge:=zK1 d.aa d.ac l zr W0 (hA.no hx (fun _=>id));rw[<-han]at hge;have c9:=(DevB.of q0).c9;unfold zr at hge;have Hct:Hid (zr=⟨#[99,111,110,116,101,110,116]⟩):=rfl;rw[Hct.out]at hg;have Hg0:=Lib.hid hg;have Hres:Hid (∀ V,V=pwL p d (getP l zr) r↔V=pwL p d (getP l ⟨#[99,111,110,116,101,110,116]⟩) r):=by unfold Hid;intro V;rw[Hct.out]
 generalize hgt:getP l ⟨#[99,111,110,116,101,110,116]⟩=g at *;have HE:Hid (∀ W,Fr No w W->Env W):=fun W hf=>hE.no hf
 have Hx:=Lib.hid hx;clear hgt hA han hE hg;unfold Dev.vals at hW0 ⊢
 go_enter Tryz.func149,Tryz.ntmps149
 go_upto_region 1 with(fail)
 rw[<-hW0];clear hW0
 go_wp2_with fail
 refine hge.mono ?_;rintro e w1 ⟨⟨b,rfl⟩,hf1⟩;have x1:=Hx.out.step hf1 (fun _ _ h=>h);have hrd:=zF6 g 5 w1 (HE.out w1 x1) Hg0.out;have k0:=hf1.heap q0 id;have k1:=hf1.heap q1 id;have k2:=hf1.heap q2 id;have s1:=hf1.size;clear hge c9 q0 q1 q2 hx hf1
 go_wp2_with fail
 refine hrd.mono ?_;rintro en w2 ⟨hres,hf2⟩;have X2:=Lib.hid (x1.step hf2 (fun _ _ h=>h));have m0:=hf2.heap k0 id;have m1:=hf2.heap k1 id;have m2:=hf2.heap k2 id;have s2:=hf2.size;clear hrd k0 k1 k2 x1 hf2;rcases hres with⟨hno,rfl⟩ | ⟨k,sl,t,le,i,lb,n,a,a',cap,cap',hpc,hk,rfl,hin,hst,hfresh⟩
 ·have Hr:Hid ([]=pwL p d (getP l zr) r):=by unfold Hid;rw[Hres.out,zJK hno]
  have Xf:=Lib.hid (X2.out.alloc (.cells #[.int .i64 0,.string ⟨#[]⟩,.string ⟨#[]⟩,.int .i64 0,.int .i64 0,.int .i64 0,.slice none 0 0] 256));clear hno m1 m2
  go_wp2_with fail
  go_ret;exact⟨⟨none,0,[],Hr.out,rfl,Virs.nil _,fun _ e=>by cases e⟩,Xf.out⟩
 ·subst hk;obtain⟨W4,hW4⟩:∃ W4,W4=(w2.alloc (.cells #[.int .i64 5,.string i,.string lb,.int .i64 sl,.int .i64 t,.int .i64 le,.slice a n.length cap] 256)).alloc (.cells #[.slice none 0 0] 71):=⟨_,rfl⟩
  have hx3:Fr No w2 (w2.alloc (.cells #[.int .i64 5,.string i,.string lb,.int .i64 sl,.int .i64 t,.int .i64 le,.slice a n.length cap] 256)):=(Fr.refl _ _).alloc _;have hx4:Fr No w2 W4:=by rw[hW4];exact hx3.alloc _
  have n0:=hx4.heap m0 id;have n1:=hx4.heap m1 id;have n2:=hx4.heap m2 id;have n3:W4.heap[w2.heap.size+1]?=some (.cells #[.slice none 0 0] 71):=by
   rw[hW4];have:=zD (w2.alloc (.cells #[.int .i64 5,.string i,.string lb,.int .i64 sl,.int .i64 t,.int .i64 le,.slice a n.length cap] 256)) (.cells #[.slice none 0 0] 71)
   rwa [World.size_alloc]at this
  have s4:W4.heap.size=w2.heap.size+2:=by rw[hW4];simp
  have z7:=(DevB.of (hx3.heap m0 id)).c7;have hln:n.length<=16:=zFy hpc rfl;have hst4:=hst.no hx4 (fun _=>id);have hlM:(n.map Ct.txt).length=n.length:=List.length_map ..;by_cases hkd:d.kind=2
  ·have Hr:Hid (pwF p d.orig r (n.map Ct.txt) n.length=pwL p d (getP l zr) r):=by
    unfold Hid;rw[Hres.out];unfold pwL;rw[hpc];exact(if_pos ⟨rfl,hkd⟩).symm
   have H4:=Lib.hid hx4;have S4:=Lib.hid s4;have hsl:∀ ad,a'=some ad->(n.map Ct.txt)≠[]->ad.block<w2.heap.size:=fun ad e hne=>(hst.cell ad e hne).2.1
   clear hpc hin m0 m1 m2 hx3 hx4 hst hfresh
   go_upto_region 7 with(fail)
   rw[<-hW4];clear hW4 z7
   go_wp2_with fail
   go_loopw [38] (fun x wr=>∃ (j:Nat) (V:List Vir) (av:Option Addr) (cv:Nat),j<=n.length/\x=.int .i64 (j:Int)/\Hid (V=pwF p d.orig r (n.map Ct.txt) j)/\wr.heap[w2.heap.size+1]?=some (.cells #[.slice av V.length cv] 71)/\wr.ownsRow W4.heap.size 79 4 (.slice av V.length cv) V.length (vflat V)/\Fr (fun b=>w2.heap.size+1<=b) W4 wr) (fun x _=>n.length-(intOf x).toNat)
   case atStart=>exact⟨0,[],none,0,by omega,rfl,by unfold Hid pwF;simp,n3,World.ownsRow_nil _ _ _ _,Fr.refl _ _⟩
   case round=>
    obtain⟨j,V,av,cv,hj,rfl,HV,kl,hown,hf⟩:=hrel;have hVl:V.length<=16:=by rw[HV.out];have:=zHJ p d.orig r (n.map Ct.txt) j;omega
    have hsr:=hf.size;by_cases hlt:j<n.length
    ·have hlt':(j:Int)<n.length:=by omega
     obtain⟨bb,off,x,rfl,hxj,hc⟩:=(hst4.fr hf (fun ad e hne h=>by have:=hsl ad e hne;omega)).at (show j<(n.map Ct.txt).length by omega);have hfw:Fr No w wr:=(X2.out.step H4.out (fun _ _ h=>h)).step hf (fun b hb h=>by have:=S4.out;omega);have hadd:=zLG w.heap.size (w2.heap.size+1) (w.heap.size+1) (w.heap.size+2) W4.heap.size d p x r ((j:Int)+1) V av cv wr (HE.out wr hfw) ho (WalkArith.wf_i64 (by omega)) (hf.heap n0 (fun h=>by omega)) kl (hf.heap n1 (fun h=>by omega)) (hf.heap n2 (fun h=>by omega)) hown (by omega) hsr;have HV2:Hid (V++zAQ p d.orig x r ((j:Int)+1)=pwF p d.orig r (n.map Ct.txt) (j+1)):=by unfold Hid;rw[zDq,<-HV.out,hxj];rfl
     have hbk:∀ b,(Value.slice av V.length cv).ownBlock=some b->W4.heap.size<=b:=fun b h=>zN hown h
     have Hbk:=Lib.hid hbk;have Hf:=Lib.hid hf;generalize zAQ p d.orig x r ((j:Int)+1)=PO at *;clear hxj kl hown hf hfw hbk
     go_wp2_with fail
     refine hadd.mono ?_;rintro e w9 ⟨rfl,⟨V',av',cv',hV',kl',hown'⟩,hf9⟩;have HF:=Lib.hid (And.intro kl' (And.intro hown' (Hf.out.step hf9 (fun b _ h=>by
      rcases h with h | h
      ·omega
      ·have:=Hbk.out _ h;omega))))
     have HV3:Hid (V'=pwF p d.orig r (n.map Ct.txt) (j+1)):=by unfold Hid;rw[hV',HV2.out]
     clear hadd kl' hown' hf9 hV'
     go_wp2_with fail
     go_roundw
     case rel=>exact⟨j+1,V',av',cv',by omega,by go_num,HV3,HF.out.1,HF.out.2.1,HF.out.2.2⟩
     case measure=>simp[intOf];omega
    ·obtain rfl:j=n.length:=by omega
     have hlt':¬ (n.length:Int)<n.length:=by omega
     have y0:wr.cell? ⟨w2.heap.size+1,0,none⟩=some (.slice av V.length cv):=zB kl 0;obtain⟨a2,c2,hv,hR,hfr2⟩:=Virs.of_own hown;cases hv;have hfw:Fr No w wr:=(X2.out.step H4.out (fun _ _ h=>h)).step hf (fun b hb h=>by have:=S4.out;omega);have H:=Lib.hid (And.intro hR (And.intro hfr2 hfw));have S0:Hid (w.heap.size<=W4.heap.size):=by unfold Hid;have:=S4.out;omega
     clear hown hf hR hfr2 kl hfw
     go_wp2_with fail
     go_ret;exact⟨⟨av,cv,by rw[<-Hr.out,<-HV.out];rfl,by rw[<-Hr.out,<-HV.out];exact H.out.1,fun ad e=>Nat.le_trans S0.out (H.out.2.1 ad e)⟩,H.out.2.2⟩
  ·have Hr:Hid ([]=pwL p d (getP l zr) r):=by unfold Hid;rw[Hres.out];unfold pwL;rw[hpc];exact(if_neg (fun e=>hkd e.2)).symm
   have Xf:=Lib.hid (X2.out.step hx3 (fun _ _ h=>h));clear hpc hin hst hst4 m0 m1 m2 n0 n1 n2 n3 hx4 hW4 hlM
   go_wp2_with fail
   go_ret;exact⟨⟨none,0,[],Hr.out,rfl,Virs.nil _,fun _ e=>by cases e⟩,Xf.out⟩
theorem zHI (p:ByteArray)(d:Dev)(s:ByteArray)(r:Int):(pwL p d s r).length<=16:=by
 unfold pwL;cases hc:parseC s with
 | none=>simp
 | some c=>
  show (if c.kind=5/\d.kind=2 then pwF p d.orig r (c.inner.map Ct.txt) c.inner.length else []).length<=16
  split
  ·rename_i h;have:=zHJ p d.orig r (c.inner.map Ct.txt) c.inner.length;have:=zFy hc h.1;omega
  ·simp
theorem zE2 {p o s:ByteArray}{r k:Int}{v:Vir}(h:v∈zAQ p o s r k):v.q=p/\v.o.size<=32:=by
 unfold zAQ at h;split at h
 ·rename_i hk;simp at h;subst h;refine⟨rfl,?_⟩;unfold partOk at hk;simp only[Bool.and_eq_true]at hk;have:=hk.2;unfold isName at this;simp at this;exact this.1.1.1.2
 ·cases h
theorem zJu {p:ByteArray}{d:Dev}{s:ByteArray}{r:Int}{v:Vir}(h:v∈pwL p d s r):v.q=p/\v.o.size<=32:=by
 unfold pwL at h;cases hc:parseC s with
 | none=>rw[hc]at h;cases h
 | some c=>
  rw[hc]at h;simp only at h;split at h
  ·unfold pwF at h;obtain⟨i,-,hi⟩:=List.mem_flatMap.1 h;exact zE2 hi
  ·cases h
def wantS (tx:Dev->ByteArray)(S:List Src)(M:List Vir)(r:Int)(k:Nat):List Vir:=(S.take k).foldl (fun M s=>zj M (pwL s.o s.d (tx s.d) r)) M
theorem zDT {tx:Dev->ByteArray}{S:List Src}{M:List Vir}{r:Int}{k:Nat}{s:Src}(h:S[k]?=some s):wantS tx S M r (k+1)=zj (wantS tx S M r k) (pwL s.o s.d (tx s.d) r):=by
 unfold wantS;rw[List.take_add_one,h,List.foldl_append];rfl
theorem zED (tx:Dev->ByteArray)(S:List Src)(M:List Vir)(r:Int):∀ k,(wantS tx S M r k).length<=M.length+16*k:=by
 intro k
 induction k with
 | zero=>simp[wantS]
 | succ k ih=>
  by_cases hk:k<S.length
  ·rw[zDT (List.getElem?_eq_getElem hk)];have h1:=zAY (pwL S[k].o S[k].d (tx S[k].d) r) (wantS tx S M r k);have h2:=zHI S[k].o S[k].d (tx S[k].d) r;omega
  ·have:wantS tx S M r (k+1)=wantS tx S M r k:=by unfold wantS;rw[List.take_of_length_le (by omega),List.take_of_length_le (by omega)]
   rw[this];omega
theorem zF0 (W:World)(a:Option Addr)(n c:Nat):(binOp .eql 44 (.slice a n c) (.slice none 0 0)).run Tryz.prog W=.ok (.bool a.isNone) W:=Lib.run_eql_slice_nil W 44 9 a n c 0 0 Tryz.underlying44
theorem Strs.src' {W:World}{a:Option Addr}{cap:Nat}{l:List ByteArray}(h:Strs W a cap l):∀ ad,a=some ad->∀ j u,(l.map Value.string)[j]?=some u->W.cell? (ad.add j)=some u:=by
 intro ad e j u hu;rw[List.getElem?_map]at hu;obtain⟨x,hx,rfl⟩:=Option.map_eq_some_iff.1 hu;obtain⟨h1,_,h3⟩:=h.cell ad e (by intro e;subst e;simp at hx);obtain⟨b,o,sp⟩:=ad;simp only at h1;subst h1;rw[Addr.add_lit];exact h3 j x hx
theorem zAU (a:Option Addr)(cap:Nat)(l:List ByteArray)(w:World)(hl:Strs w a cap l)(hb:l.length<=1000000):
  Calls Tryz.prog 54 #[.slice a l.length cap] w fun e w'=>(∃ a' c',e=.returned (.slice a' l.length c')/\Strs w' a' c' l/\BlkT w' a' 9/\∀ ad,a'=some ad->w.heap.size<=ad.block)/\Fr No w w':=by
 obtain⟨i0,hi,hz0,hz1,hz2⟩:=info_parts infoS;cases a with
 | none=>
  obtain⟨rfl,rfl⟩:=hl.isNil rfl;have hq:=zF0
  go_enter Tryz.func54,Tryz.ntmps54
  go_wp2_with fail
  go_ret;exact⟨⟨none,0,rfl,Strs.nil _,BlkT.none _ _,fun _ e=>by cases e⟩,Fr.refl _ _⟩
 | some ad=>
  have hx:Fr No w (w.alloc (.cells #[] 9)):=(Fr.refl _ _).alloc _;have hlx:=hl.no hx (fun _=>id);have hq:=zF0
  go_enter Tryz.func54,Tryz.ntmps54
  have own0:(w.alloc (.cells #[] 9)).ownsRow w.heap.size 9 1 (.slice (some ⟨w.heap.size,0,none⟩) 0 0) 0 []:=
   ⟨rfl,.inr ⟨w.heap.size,0,#[],rfl,Nat.le_refl _,zD _ _,Nat.le_refl _,by unfold maxLen;omega,rfl,rfl⟩⟩
  go_wp2_with (at_builtin;refine zI rfl _ _ 44 rfl w.heap.size 9 i0 (.string ByteArray.empty) 1 16 Tryz.underlying44 hi hz0 hz1 hz2 rfl (by decide) _ 0 [] rfl own0 (some ad) l.length _ (l.map Value.string) rfl (fun e=>by cases e) (by simp) (fun ad' e=>hlx.src' ad' e) (zBO l) (by unfold maxLen;omega) (by omega) (by first | omega | (simp;done) | (simp;omega)) ?_;intro v' w1 own1 gr1)
  go_ret;simp only[Nat.zero_add,List.nil_append]at own1;obtain⟨a',c',hv,h1,h2⟩:=Strs.of_own own1;subst hv;exact⟨⟨a',c',rfl,h1,zAj own1,h2⟩,((Fr.refl No w).alloc _).step (zm own0 gr1) (fun b hb h=>by unfold From at h;omega)⟩
theorem zB2 (w:World)(o o' o'':Obj):(((w.alloc o).alloc o').alloc o'').heap[w.heap.size]?=some o:=((Fr.refl No _).alloc o'').heap (zL w o o') id
theorem zB1 (w:World)(o o' o'':Obj):(((w.alloc o).alloc o').alloc o'').heap[w.heap.size+1]?=some o':=((Fr.refl No _).alloc o'').heap (zP w o o') id
theorem zB0 (w:World)(o o' o'':Obj):(((w.alloc o).alloc o').alloc o'').heap[w.heap.size+1+1]?=some o'':=by
 have h:=zD ((w.alloc o).alloc o') o'';have e:((w.alloc o).alloc o').heap.size=w.heap.size+1+1:=by simp
 rw[e]at h;exact h
def zBL : Value:=.agg #[.string ⟨#[]⟩,.string ⟨#[]⟩,.int .i64 0,.int .i64 0,.int .i64 0,.int .i64 0,.slice none 0 0]
theorem zFR (w:World):(zeroValue 264).run Tryz.prog w=.ok zBL w:=by kernel_rfl
structure MemSmall2 (L:List Mem):Prop where
 len:L.length<=1000
 p:∀ m∈L,m.p.size<=1000000
 i:∀ m∈L,m.i.size<=1000000
 l:∀ m∈L,m.l.length<=1000000
 s:∀ m∈L,(Lit.int .i64 m.s).wf=true
def ArrRes (w:World)(b:ByteArray×Int->Option Mem)(e:Ending)(w':World):Prop:=
 ∃ (a':Option Addr) (c':Nat) (O:List ArrM) (ids:List ByteArray),e=.returned (.slice a' O.length c')/\Arrs w' a' c' O/\(∀ ad,a'=some ad->w.heap.size<=ad.block)/\AFresh w' w.heap.size O/\IsIds2 b ids/\O.map ArrM.toArr=ids.map (buildA b)/\ids.length<=1000/\w'.ownsRow w.heap.size 206 6 (.slice a' O.length c') O.length (arflat O)
end Go.Proofs.YtmajgldaplkpiaaGreatDoor
