import Derived.Lib.ItoaLen
import Derived.Test.YtinfjnndbfahhaaGreatDoorQ27
namespace Go.Proofs.YtinfjnndbfahhaaGreatDoor
open Go.RowKit Go.Maps Go.Sort Go.Shelf
set_option linter.unusedVariables false
set_option maxRecDepth 100000
set_option maxHeartbeats 4000000
def partT (o:ByteArray)(k:Int):ByteArray:=o++⟨#[112]⟩++⟨(Lib.itoa k).toArray⟩
def partOk (o:ByteArray)(k:Int):Bool:=decide (1<=k)&&decide (k<=16)&&isName o&&isName (partT o k)
theorem zLp (o:ByteArray)(k:Int)(w:World)(hE:Env w)(ho:o.size<=1000000)(hk:(Lit.int .i64 k).wf=true):
  Calls Tryz.prog 158 #[.string o,.int .i64 k] w fun e w'=>e=.returned (.tuple #[.string (if partOk o k=true then partT o k else ⟨#[]⟩),.int .i64 (if partOk o k=true then 0 else 310)])/\Fr No w w':=by
 have h:-9223372036854775808<=k/\k<=9223372036854775807:=by simp[Lit.wf,IntKind.min,IntKind.max,IntKind.signed,IntKind.bits]at hk;omega
 have C:=Lib.itoa_length_le k h.1 h.2;obtain⟨f,q⟩:∃ f,f=(⟨(Lib.itoa k).toArray⟩:ByteArray):=⟨_,rfl⟩
 have Z:f.size<=21:=by rw[q];simpa [ByteArray.size]using C
 have R:partT o k=o++(⟨#[112]⟩:ByteArray)++f:=by rw[q];rfl
 have U:(o++(⟨#[112]⟩:ByteArray)).size=o.size+1:=by rw[ByteArray.size_append];rfl
 have h1:(o++(⟨#[112]⟩:ByteArray)).size<=9223372036854775807:=by omega
 have h3:(o++(⟨#[112]⟩:ByteArray)++f).size<=9223372036854775807:=by rw[ByteArray.size_append];omega
 have h4:(o++(⟨#[112]⟩:ByteArray)++f).size<=maxLen:=by unfold maxLen;rw[ByteArray.size_append];omega
 have h5:o.size<=maxLen:=by unfold maxLen;omega
 have a2:¬ 9223372036854775807<(o++(⟨#[112]⟩:ByteArray)).size+f.size:=by omega
 have a3:(o++(⟨#[112]⟩:ByteArray)).size+f.size<=9223372036854775807:=by omega
 have a4:¬ 9223372036854775807<o.size+1+f.size:=by omega
 obtain⟨u,z⟩:∃ u,u=partOk o k:=⟨_,rfl⟩
 rw[<-z,R];have A:Hid (u=(decide (1<=k)&&decide (k<=16)&&isName o&&isName (o++(⟨#[112]⟩:ByteArray)++f))):=by unfold Hid;rw[z,<-R];rfl
 have D:(⟨(Lib.itoa k).toArray⟩:ByteArray)=f:=q.symm;clear z R C q U
 go_enter Tryz.func158,Tryz.ntmps158
 go_wp2_with fail
 refine(Tryz.strconv_Itoa k h.1 h.2 _ hE.tab).mono ?_;rintro e w1 ⟨rfl,V,X,rfl⟩;have g:Fr No w (Go.Sort.grow (w.drewN V) X):=Fr.of_below_size (Lib.below_grow _ w (Nat.le_refl _) V X);generalize Go.Sort.grow (w.drewN V) X=w1 at *;rw[D];by_cases a5:k<1
 ·have F:u=false:=by rw[A.out];simp[show ¬ 1<=k from by omega]
  subst F;have Y:=zh g;clear g
  go_wp2_with fail
  refine bodyPost_ret (v:=.tuple #[.string ⟨#[]⟩,.int .i64 310]) (by simp[results,Tryz.results158,go_sem]) rfl ?_;exact⟨by simp,Y.out⟩
 ·by_cases a6:k>16
  ·have F:u=false:=by rw[A.out];simp[show ¬ k<=16 from by omega]
   subst F;have Y:=zh g;clear g
   go_wp2_with fail
   refine bodyPost_ret (v:=.tuple #[.string ⟨#[]⟩,.int .i64 310]) (by simp[results,Tryz.results158,go_sem]) rfl ?_;exact⟨by simp,Y.out⟩
  ·have y:Hid (u=(isName o&&isName (o++(⟨#[112]⟩:ByteArray)++f))):=by unfold Hid;rw[A.out];simp[show 1<=k from by omega,show k<=16 from by omega]
   go_wp2_with fail
   refine(zAL _ _ h5).mono ?_;rintro e w2 ⟨rfl,I⟩;have J:=zh (g.step I zi);clear g I;rcases hn:isName o with _ | _
   ·have F:u=false:=by rw[y.out,hn];rfl
    subst F;clear hn
    go_wp2_with fail
    refine bodyPost_ret (v:=.tuple #[.string ⟨#[]⟩,.int .i64 310]) (by simp[results,Tryz.results158,go_sem]) rfl ?_;exact⟨by simp,J.out⟩
   ·have L:Hid (u=isName (o++(⟨#[112]⟩:ByteArray)++f)):=by unfold Hid;rw[y.out,hn];rfl
    clear hn
    go_wp2_with fail
    refine(zAL _ _ h4).mono ?_;rintro e w3 ⟨rfl,N⟩;rw[<-L.out];have O:=zh (J.out.step N zi);clear N;cases u
    ·go_wp2_with fail
     refine bodyPost_ret (v:=.tuple #[.string ⟨#[]⟩,.int .i64 310]) (by simp[results,Tryz.results158,go_sem]) rfl ?_;exact⟨by simp,O.out⟩
    ·go_wp2_with fail
     refine bodyPost_ret (v:=.tuple #[.string (o++(⟨#[112]⟩:ByteArray)++f),.int .i64 0]) (by simp[results,Tryz.results158,go_sem]) rfl ?_;exact⟨by simp,O.out⟩
def zAV (p o s:ByteArray)(r k:Int):List Vir:=if partOk o k=true then [⟨p,partT o k,s,r⟩]else []
theorem zMM (bd C bp br y:Nat)(d:Dev)(p s:ByteArray)(r k:Int)(V:List Vir)(J:Option Addr)(L:Nat)(w:World)(hE:Env w)(ho:d.orig.size<=1000000)(hk:(Lit.int .i64 k).wf=true)
  (R:w.heap[bd]?=some (.cells d.vals 36)) (I:w.heap[C]?=some (.cells #[.slice J V.length L] 50)) (U:w.heap[bp]?=some (.cells #[.string p] 9)) (X:w.heap[br]?=some (.cells #[.int .i64 r] 3))
  (z:w.ownsRow y 94 4 (.slice J V.length L) V.length (vflat V)) (hV:V.length<=100000) (a6:y<=w.heap.size):
  Calls Tryz.prog 157 #[.int .i64 k,.string s,.pointer (some ⟨bd,0,none⟩),.pointer (some ⟨C,0,none⟩),.pointer (some ⟨bp,0,none⟩),.pointer (some ⟨br,0,none⟩)] w fun e w'=>e=.returned (.tuple #[])/\
   (∃ V' q u,V'=V++zAV p d.orig s r k/\w'.heap[C]?=some (.cells #[.slice q V'.length u] 50)/\w'.ownsRow y 94 4 (.slice q V'.length u) V'.length (vflat V'))/\Fr (fun b=>b=C\/(Value.slice J V.length L).ownBlock=some b) w w':=by
 obtain⟨i0,a7,a8,a9,b0⟩:=info_parts infoV;have g:=zLp d.orig k w hE ho hk;have x3:=(DevB.of R).c3;obtain⟨nm,D⟩:∃ nm,nm=partT d.orig k:=⟨_,rfl⟩
 have HP:Hid (zAV p d.orig s r k=if partOk d.orig k=true then [⟨p,nm,s,r⟩]else []):=by unfold Hid;rw[D];rfl
 rw[<-D]at g;generalize zAV p d.orig s r k=PO at *;clear D hE
 go_enter Tryz.func157,Tryz.ntmps157
 rcases hok:partOk d.orig k with _ | _
 ·rw[hok]at g HP;simp only[Bool.false_eq_true,if_false]at g HP;clear hok
  go_wp2_with fail
  refine g.mono ?_;rintro e N ⟨rfl,f⟩;clear g x3;have Y:=zh (And.intro (f.heap I id) (And.intro (zG z f (fun _ _=>id)) f));clear I z f R U X
  go_wp2_with fail
  go_end0
  exact⟨rfl,⟨V,J,L,by rw[HP.out,List.append_nil],Y.out.1,Y.out.2.1⟩,Y.out.2.2.mono zn⟩
 ·rw[hok]at g HP;simp only[if_true]at g HP;clear hok
  go_wp2_with fail
  refine g.mono ?_;rintro e N ⟨rfl,f⟩;have kl:=f.heap I id;have y0:N.cell? ⟨C,0,none⟩=some (.slice J V.length L):=zB kl 0;have y1:N.cell? ⟨bp,0,none⟩=some (.string p):=zB (f.heap U id) 0;have y2:N.cell? ⟨br,0,none⟩=some (.int .i64 r):=zB (f.heap X id) 0;have v:=zG z f (fun _ _=>id);have a4:=zR v kl (by decide);have b2:=f.size;have b1:=zh f;clear g x3 I z f R U X
  go_wp2_with (at_builtin;refine wpList_append_own _ rfl _ _ 50 rfl y 94 i0 (.agg #[.string ByteArray.empty,.string ByteArray.empty,.string ByteArray.empty,.int .i64 0]) 4 56 Tryz.underlying50 a7 a8 a9 b0 rfl (by decide) _ _ _ rfl (v.alloc _) ⟨N.heap.size,0,none⟩ 1 1 (Vir.vals ⟨p,nm,s,r⟩).toList rfl rfl (ze _ (Vir.vals ⟨p,nm,s,r⟩) _ rfl) (zBr _) (by unfold maxLen;omega) (by omega) (by first | omega | (simp;done) | (simp;omega)) ?_;intro v' Z o A _;obtain⟨q,u,rfl⟩:=zJ o;have a2:Fr No N (N.alloc (.cells (Vir.vals ⟨p,nm,s,r⟩) 94)):=(Fr.refl _ _).alloc _;have a3:Fr (fun b=>(Value.slice J V.length L).ownBlock=some b) (N.alloc (.cells (Vir.vals ⟨p,nm,s,r⟩) 94)) Z:=Fr.of_grown A;have k9:=a3.heap (a2.heap kl id) (fun e=>a4 e);have y9:Z.cell? ⟨C,0,none⟩=some (.slice J V.length L):=zB k9 0;have f9:Z.frozen? ⟨C,0,none⟩=false:=zE k9 0)
  have O:=zR o k9 (by decide);have f5:Fr (Is C) Z (Z.setCell ⟨C,0,none⟩ (.slice q (V.length+1) u)):=Fr.setAt (Fr.refl _ _) _;have k5:(Z.setCell ⟨C,0,none⟩ (.slice q (V.length+1) u)).heap[C]?=some (.cells #[.slice q (V.length+1) u] 50):=zF k9 0 _;have F:=zG o f5 (fun b hb h=>by unfold Is at h;subst h;exact O hb);have a5:Fr (fun b=>b=C\/(Value.slice J V.length L).ownBlock=some b) w (Z.setCell ⟨C,0,none⟩ (.slice q (V.length+1) u)):=(((b1.out.step a2 zi).mono zn).step a3 (fun b _ h=>.inr h)).step f5 (fun b _ h=>.inl h);have Y:=zh (And.intro k5 (And.intro F a5));clear o A a3 k9 f5 k5 F a5 a4 O v a2
  go_end0
  exact⟨rfl,⟨V++[⟨p,nm,s,r⟩],q,u,by rw[HP.out],by rw[List.length_append];exact Y.out.1,by rw[List.length_append,zBU];exact Y.out.2.1⟩,Y.out.2.2⟩
def pwF (p o:ByteArray)(r:Int)(ins:List ByteArray)(k:Nat):List Vir:=(List.range k).flatMap fun i:Nat=>zAV p o (ins[i]?.getD ⟨#[]⟩) r ((i:Int)+1)
theorem zEB (p o:ByteArray)(r:Int)(f:List ByteArray)(k:Nat):pwF p o r f (k+1)=pwF p o r f k++zAV p o (f[k]?.getD ⟨#[]⟩) r ((k:Int)+1):=by
 unfold pwF;rw[List.range_succ,List.flatMap_append];simp
theorem zFb (p o s:ByteArray)(r k:Int):(zAV p o s r k).length<=1:=by unfold zAV;split<;>simp
theorem zHy (p o:ByteArray)(r:Int)(f:List ByteArray)(k:Nat):(pwF p o r f k).length<=k:=by
 induction k with
 | zero=>simp[pwF]
 | succ k g=>rw[zEB,List.length_append];have:=zFb p o (f[k]?.getD ⟨#[]⟩) r ((k:Int)+1);omega
def pwL (p:ByteArray)(d:Dev)(s:ByteArray)(r:Int):List Vir:=match parseC s with
 | some c=>if c.kind=5/\d.kind=2 then pwF p d.orig r (c.inner.map Ct.txt) c.inner.length else []
 | none=>[]
theorem zKK {p:ByteArray}{d:Dev}{s:ByteArray}{r:Int}(h:∀ c,parseC s=some c->c.kind≠5):pwL p d s r=[]:=by
 unfold pwL;cases hc:parseC s with
 | none=>rfl
 | some c=>exact if_neg (fun e=>h c hc e.1)
theorem zGd {s:ByteArray}{c:Ct}(h:parseC s=some c)(q:c.kind=5):c.inner.length<=16:=by
 obtain⟨-,f,-⟩:=(zBK s c).1 h;obtain⟨k,i,l,v,t,e,n⟩:=c;have g:k=5:=q;subst g;unfold Ct.valid at f;rw[Bool.and_eq_true]at f;have o:=f.2;rw[Ct.good,Bool.and_eq_true]at o;have u:=o.1;simp[alike,someIn]at u;show n.length<=16
 omega
theorem zK0 (d:Dev)(l:List (ByteArray×ByteArray))(p:ByteArray)(r:Int)(w:World)(hE:Env w)(hA:Atts w d.aa d.ac l)(a6:d.an=l.length)(ho:d.orig.size<=1000000)(hg:(getP l zr).size<=100000):
  Calls Tryz.prog 102 #[.agg d.vals,.string p,.int .i64 r] w fun e w'=>(∃ a' c' V,V=pwL p d (getP l zr) r/\e=.returned (.slice a' (V:List Vir).length c')/\Virs w' a' c' V/\(∀ C,a'=some C->w.heap.size<=C.block))/\Fr No w w':=by
 obtain⟨X,f⟩:∃ X,X=((w.alloc (.cells d.vals 36)).alloc (.cells #[.string p] 9)).alloc (.cells #[.int .i64 r] 3):=⟨_,rfl⟩
 have hx:Fr No w X:=by rw[f];exact(((Fr.refl _ _).alloc _).alloc _).alloc _
 have q0:X.heap[w.heap.size]?=some (.cells d.vals 36):=by rw[f];exact(((Fr.refl No _).alloc _).alloc _).heap (zD _ _) id
 have q1:X.heap[w.heap.size+1]?=some (.cells #[.string p] 9):=by
  rw[f];have:=zI (w.alloc (.cells d.vals 36)) (.cells #[.string p] 9) (.cells #[.int .i64 r] 3)
  rwa [World.size_alloc]at this
 have q2:X.heap[w.heap.size+2]?=some (.cells #[.int .i64 r] 3):=by
  rw[f];have:=zD ((w.alloc (.cells d.vals 36)).alloc (.cells #[.string p] 9)) (.cells #[.int .i64 r] 3)
  rwa [World.size_alloc,World.size_alloc]at this
 have s0:X.heap.size=w.heap.size+3:=by rw[f];simp
 have N:=zL8 d.aa d.ac l zr X (hA.no hx (fun _=>id));rw[<-a6]at N;have c9:=(DevB.of q0).c9;unfold zr at N;have a7:Hid (zr=⟨#[99,111,110,116,101,110,116]⟩):=rfl;rw[a7.out]at hg;have b9:=zh hg;have D:Hid (∀ V,V=pwL p d (getP l zr) r↔V=pwL p d (getP l ⟨#[99,111,110,116,101,110,116]⟩) r):=by unfold Hid;intro V;rw[a7.out]
 generalize c3:getP l ⟨#[99,111,110,116,101,110,116]⟩=g at *;have HE:Hid (∀ W,Fr No w W->Env W):=fun W z=>hE.no z
 have Hx:=zh hx;clear c3 hA a6 hE hg;unfold Dev.vals at f ⊢
 go_enter Tryz.func102,Tryz.ntmps102
 go_upto_region 1 with(fail)
 rw[<-f];clear f
 go_wp2_with fail
 refine N.mono ?_;rintro e w1 ⟨⟨b,rfl⟩,u⟩;have x1:=Hx.out.step u zi;have a8:=zGn g 5 w1 (HE.out w1 x1) b9.out;have k0:=u.heap q0 id;have k1:=u.heap q1 id;have k2:=u.heap q2 id;have s1:=u.size;clear N c9 q0 q1 q2 hx u
 go_wp2_with fail
 refine a8.mono ?_;rintro en A ⟨a9,v⟩;have X2:=zh (x1.step v zi);have m0:=v.heap k0 id;have m1:=v.heap k1 id;have m2:=v.heap k2 id;have s2:=v.size;clear a8 k0 k1 k2 x1 v;rcases a9 with⟨b0,rfl⟩ | ⟨k,sl,t,le,i,lb,n,a,a',a4,d4,F,hk,rfl,b1,O,R⟩
 ·have Hr:Hid ([]=pwL p d (getP l zr) r):=by unfold Hid;rw[D.out,zKK b0]
  have Xf:=zh (X2.out.alloc (.cells #[.int .i64 0,.string ⟨#[]⟩,.string ⟨#[]⟩,.int .i64 0,.int .i64 0,.int .i64 0,.slice none 0 0] 223));clear b0 m1 m2
  go_wp2_with fail
  go_ret;exact⟨⟨none,0,[],Hr.out,rfl,Virs.nil _,fun _ e=>by cases e⟩,Xf.out⟩
 ·subst hk;obtain⟨L,y⟩:∃ L,L=(A.alloc (.cells #[.int .i64 5,.string i,.string lb,.int .i64 sl,.int .i64 t,.int .i64 le,.slice a n.length a4] 223)).alloc (.cells #[.slice none 0 0] 50):=⟨_,rfl⟩
  have U:Fr No A (A.alloc (.cells #[.int .i64 5,.string i,.string lb,.int .i64 sl,.int .i64 t,.int .i64 le,.slice a n.length a4] 223)):=(Fr.refl _ _).alloc _;have q:Fr No A L:=by rw[y];exact U.alloc _
  have n0:=q.heap m0 id;have n1:=q.heap m1 id;have n2:=q.heap m2 id;have n3:L.heap[A.heap.size+1]?=some (.cells #[.slice none 0 0] 50):=by
   rw[y];have:=zD (A.alloc (.cells #[.int .i64 5,.string i,.string lb,.int .i64 sl,.int .i64 t,.int .i64 le,.slice a n.length a4] 223)) (.cells #[.slice none 0 0] 50)
   rwa [World.size_alloc]at this
  have s4:L.heap.size=A.heap.size+2:=by rw[y];simp
  have z7:=(DevB.of (U.heap m0 id)).c7;have d5:n.length<=16:=zGd F rfl;have Y:=O.no q (fun _=>id);have c4:(n.map Ct.txt).length=n.length:=List.length_map ..;by_cases b2:d.kind=2
  ·have Hr:Hid (pwF p d.orig r (n.map Ct.txt) n.length=pwL p d (getP l zr) r):=by
    unfold Hid;rw[D.out];unfold pwL;rw[F];exact(if_pos ⟨rfl,b2⟩).symm
   have H4:=zh q;have S4:=zh s4;have c5:∀ C,a'=some C->(n.map Ct.txt)≠[]->C.block<A.heap.size:=fun C e a5=>(O.cell C e a5).2.1
   clear F b1 m0 m1 m2 U q O R
   go_upto_region 7 with(fail)
   rw[<-y];clear y z7
   go_wp2_with fail
   go_loopw [38] (fun x wr=>∃ (j:Nat) (V:List Vir) (av:Option Addr) (cv:Nat),j<=n.length/\x=.int .i64 (j:Int)/\Hid (V=pwF p d.orig r (n.map Ct.txt) j)/\wr.heap[A.heap.size+1]?=some (.cells #[.slice av V.length cv] 50)/\wr.ownsRow L.heap.size 94 4 (.slice av V.length cv) V.length (vflat V)/\Fr (fun b=>A.heap.size+1<=b) L wr) (fun x _=>n.length-(intOf x).toNat)
   case atStart=>exact⟨0,[],none,0,by omega,rfl,by unfold Hid pwF;simp,n3,World.ownsRow_nil _ _ _ _,Fr.refl _ _⟩
   case round=>
    obtain⟨j,V,av,cv,hj,rfl,HV,kl,o,z⟩:=hrel;have d6:V.length<=16:=by rw[HV.out];have:=zHy p d.orig r (n.map Ct.txt) j;omega
    have c6:=z.size;by_cases d7:j<n.length
    ·have b3:(j:Int)<n.length:=by omega
     obtain⟨bb,d8,x,rfl,b4,hc⟩:=(Y.fr z (fun C e a5 h=>by have:=c5 C e a5;omega)).at (show j<(n.map Ct.txt).length by omega);have I:Fr No w wr:=(X2.out.step H4.out zi).step z (fun b hb h=>by have:=S4.out;omega);have Z:=zMM w.heap.size (A.heap.size+1) (w.heap.size+1) (w.heap.size+2) L.heap.size d p x r ((j:Int)+1) V av cv wr (HE.out wr I) ho (WalkArith.wf_i64 (by omega)) (z.heap n0 (fun h=>by omega)) kl (z.heap n1 (fun h=>by omega)) (z.heap n2 (fun h=>by omega)) o (by omega) c6;have c8:Hid (V++zAV p d.orig x r ((j:Int)+1)=pwF p d.orig r (n.map Ct.txt) (j+1)):=by unfold Hid;rw[zEB,<-HV.out,b4];rfl
     have b5:∀ b,(Value.slice av V.length cv).ownBlock=some b->L.heap.size<=b:=fun b h=>zP o h
     have d0:=zh b5;have Hf:=zh z;generalize zAV p d.orig x r ((j:Int)+1)=PO at *;clear b4 kl o z I b5
     go_wp2_with fail
     refine Z.mono ?_;rintro e w9 ⟨rfl,⟨V',d1,d2,b6,b7,J⟩,b8⟩;have HF:=zh (And.intro b7 (And.intro J (Hf.out.step b8 (fun b _ h=>by
      rcases h with h | h
      ·omega
      ·have:=d0.out _ h;omega))))
     have d3:Hid (V'=pwF p d.orig r (n.map Ct.txt) (j+1)):=by unfold Hid;rw[b6,c8.out]
     clear Z b7 J b8 b6
     go_wp2_with fail
     go_roundw
     case rel=>exact⟨j+1,V',d1,d2,by omega,by go_num,d3,HF.out.1,HF.out.2.1,HF.out.2.2⟩
     case measure=>simp[intOf];omega
    ·obtain rfl:j=n.length:=by omega
     have b3:¬ (n.length:Int)<n.length:=by omega
     have y0:wr.cell? ⟨A.heap.size+1,0,none⟩=some (.slice av V.length cv):=zB kl 0;obtain⟨a2,c2,hv,hR,a3⟩:=Virs.of_own o;cases hv;have I:Fr No w wr:=(X2.out.step H4.out zi).step z (fun b hb h=>by have:=S4.out;omega);have H:=zh (And.intro hR (And.intro a3 I));have S0:Hid (w.heap.size<=L.heap.size):=by unfold Hid;have:=S4.out;omega
     clear o z hR a3 kl I
     go_wp2_with fail
     go_ret;exact⟨⟨av,cv,by rw[<-Hr.out,<-HV.out];rfl,by rw[<-Hr.out,<-HV.out];exact H.out.1,fun C e=>Nat.le_trans S0.out (H.out.2.1 C e)⟩,H.out.2.2⟩
  ·have Hr:Hid ([]=pwL p d (getP l zr) r):=by unfold Hid;rw[D.out];unfold pwL;rw[F];exact(if_neg (fun e=>b2 e.2)).symm
   have Xf:=zh (X2.out.step U zi);clear F b1 O Y m0 m1 m2 n0 n1 n2 n3 q y c4
   go_wp2_with fail
   go_ret;exact⟨⟨none,0,[],Hr.out,rfl,Virs.nil _,fun _ e=>by cases e⟩,Xf.out⟩
theorem zHx (p:ByteArray)(d:Dev)(s:ByteArray)(r:Int):(pwL p d s r).length<=16:=by
 unfold pwL;cases hc:parseC s with
 | none=>simp
 | some c=>
  show (if c.kind=5/\d.kind=2 then pwF p d.orig r (c.inner.map Ct.txt) c.inner.length else []).length<=16
  split
  ·rename_i h;have:=zHy p d.orig r (c.inner.map Ct.txt) c.inner.length;have:=zGd hc h.1;omega
  ·simp
theorem zFa {p o s:ByteArray}{r k:Int}{v:Vir}(h:v∈zAV p o s r k):v.q=p/\v.o.size<=32:=by
 unfold zAV at h;split at h
 ·rename_i f;simp at h;subst h;refine⟨rfl,?_⟩;unfold partOk at f;simp only[Bool.and_eq_true]at f;have:=f.2;unfold isName at this;simp at this;exact this.1.1.1.2
 ·cases h
theorem zKx {p:ByteArray}{d:Dev}{s:ByteArray}{r:Int}{v:Vir}(h:v∈pwL p d s r):v.q=p/\v.o.size<=32:=by
 unfold pwL at h;cases hc:parseC s with
 | none=>rw[hc]at h;cases h
 | some c=>
  rw[hc]at h;simp only at h;split at h
  ·unfold pwF at h;obtain⟨i,-,f⟩:=List.mem_flatMap.1 h;exact zFa f
  ·cases h
def wantS (tx:Dev->ByteArray)(S:List Src)(M:List Vir)(r:Int)(k:Nat):List Vir:=(S.take k).foldl (fun M s=>zl M (pwL s.o s.d (tx s.d) r)) M
theorem zDe {tx:Dev->ByteArray}{S:List Src}{M:List Vir}{r:Int}{k:Nat}{s:Src}(h:S[k]?=some s):wantS tx S M r (k+1)=zl (wantS tx S M r k) (pwL s.o s.d (tx s.d) r):=by
 unfold wantS;rw[List.take_add_one,h,List.foldl_append];rfl
theorem zEc (tx:Dev->ByteArray)(S:List Src)(M:List Vir)(r:Int):∀ k,(wantS tx S M r k).length<=M.length+16*k:=by
 intro k
 induction k with
 | zero=>simp[wantS]
 | succ k g=>
  by_cases f:k<S.length
  ·rw[zDe (List.getElem?_eq_getElem f)];have h:=zAd (pwL S[k].o S[k].d (tx S[k].d) r) (wantS tx S M r k);have q:=zHx S[k].o S[k].d (tx S[k].d) r;omega
  ·have:wantS tx S M r (k+1)=wantS tx S M r k:=by unfold wantS;rw[List.take_of_length_le (by omega),List.take_of_length_le (by omega)]
   rw[this];omega
theorem zGg (W:World)(a:Option Addr)(n c:Nat):(binOp .eql 30 (.slice a n c) (.slice none 0 0)).run Tryz.prog W=.ok (.bool a.isNone) W:=Lib.run_eql_slice_nil W 30 9 a n c 0 0 Tryz.underlying30
theorem Strs.src' {W:World}{a:Option Addr}{g:Nat}{l:List ByteArray}(h:Strs W a g l):∀ f,a=some f->∀ j u,(l.map Value.string)[j]?=some u->W.cell? (f.add j)=some u:=by
 intro f e j u q;rw[List.getElem?_map]at q;obtain⟨x,v,rfl⟩:=Option.map_eq_some_iff.1 q;obtain⟨y,_,z⟩:=h.cell f e (by intro e;subst e;simp at v);obtain⟨b,o,A⟩:=f;simp only at y;subst y;rw[Addr.add_lit];exact z j x v
theorem zAZ (a:Option Addr)(q:Nat)(l:List ByteArray)(w:World)(F:Strs w a q l)(I:l.length<=1000000):
  Calls Tryz.prog 18 #[.slice a l.length q] w fun e w'=>(∃ o c',e=.returned (.slice o l.length c')/\Strs w' o c' l/\BlkT w' o 9/\∀ u,o=some u->w.heap.size<=u.block)/\Fr No w w':=by
 obtain⟨J,L,v,y,z⟩:=info_parts infoS;cases a with
 | none=>
  obtain⟨rfl,rfl⟩:=F.isNil rfl;have N:=zGg
  go_enter Tryz.func18,Tryz.ntmps18
  go_wp2_with fail
  go_ret;exact⟨⟨none,0,rfl,Strs.nil _,BlkT.none _ _,fun _ e=>by cases e⟩,Fr.refl _ _⟩
 | some u=>
  have O:Fr No w (w.alloc (.cells #[] 9)):=(Fr.refl _ _).alloc _;have A:=F.no O (fun _=>id);have N:=zGg
  go_enter Tryz.func18,Tryz.ntmps18
  have g:(w.alloc (.cells #[] 9)).ownsRow w.heap.size 9 1 (.slice (some ⟨w.heap.size,0,none⟩) 0 0) 0 []:=
   ⟨rfl,.inr ⟨w.heap.size,0,#[],rfl,Nat.le_refl _,zD _ _,Nat.le_refl _,by unfold maxLen;omega,rfl,rfl⟩⟩
  go_wp2_with (at_builtin;refine zy rfl _ _ 30 rfl w.heap.size 9 J (.string ByteArray.empty) 1 16 Tryz.underlying30 L v y z rfl (by decide) _ 0 [] rfl g (some u) l.length _ (l.map Value.string) rfl (fun e=>by cases e) (by simp) (fun C e=>A.src' C e) (zCa l) (by unfold maxLen;omega) (by omega) (by first | omega | (simp;done) | (simp;omega)) ?_;intro X Y f D)
  go_ret;simp only[Nat.zero_add,List.nil_append]at f;obtain⟨o,c',R,U,V⟩:=Strs.of_own f;subst R;exact⟨⟨o,c',rfl,U,zAI f,V⟩,((Fr.refl No w).alloc _).step (zGG g D) (fun b I h=>by unfold From at h;omega)⟩
theorem zB9 (w:World)(o g f:Obj):(((w.alloc o).alloc g).alloc f).heap[w.heap.size]?=some o:=((Fr.refl No _).alloc f).heap (zI w o g) id
theorem zB8 (w:World)(o g f:Obj):(((w.alloc o).alloc g).alloc f).heap[w.heap.size+1]?=some g:=((Fr.refl No _).alloc f).heap (zL w o g) id
theorem zB7 (w:World)(o g f:Obj):(((w.alloc o).alloc g).alloc f).heap[w.heap.size+1+1]?=some f:=by
 have h:=zD ((w.alloc o).alloc g) f;have e:((w.alloc o).alloc g).heap.size=w.heap.size+1+1:=by simp
 rw[e]at h;exact h
def zBS : Value:=.agg #[.string ⟨#[]⟩,.string ⟨#[]⟩,.int .i64 0,.int .i64 0,.int .i64 0,.int .i64 0,.slice none 0 0]
theorem zF0 (w:World):(zeroValue 231).run Tryz.prog w=.ok zBS w:=by kernel_rfl
structure MemSmall2 (L:List Mem):Prop where
 len:L.length<=1000
 p:∀ m∈L,m.p.size<=1000000
 i:∀ m∈L,m.i.size<=1000000
 l:∀ m∈L,m.l.length<=1000000
 s:∀ m∈L,(Lit.int .i64 m.s).wf=true
def ArrRes (w:World)(b:ByteArray×Int->Option Mem)(e:Ending)(w':World):Prop:=
 ∃ (a':Option Addr) (c':Nat) (O:List ArrM) (ids:List ByteArray),e=.returned (.slice a' O.length c')/\Arrs w' a' c' O/\(∀ ad,a'=some ad->w.heap.size<=ad.block)/\AFresh w' w.heap.size O/\IsIds2 b ids/\O.map ArrM.toArr=ids.map (buildA b)/\ids.length<=1000/\w'.ownsRow w.heap.size 176 6 (.slice a' O.length c') O.length (arflat O)
end Go.Proofs.YtinfjnndbfahhaaGreatDoor
