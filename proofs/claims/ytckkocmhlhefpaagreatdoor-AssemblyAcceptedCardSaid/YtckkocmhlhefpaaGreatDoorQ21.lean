import Derived.Lib.ItoaLen
import Derived.Test.YtckkocmhlhefpaaGreatDoorQ20
namespace Go.Proofs.YtckkocmhlhefpaaGreatDoor
open Go.RowKit Go.Maps Go.Sort Go.Shelf
set_option linter.unusedVariables false
set_option maxRecDepth 100000
set_option maxHeartbeats 4000000
open Ct renaming txt->af
open Fr renaming refl->ag
open Go renaming World->ae,bodyPost_ret->ak,maxLen->al,results->am
open Go.Lib renaming itoa->ax
open Go.Lit renaming int->az
open Go.Proofs.Tryz renaming prog->ai,results158->aj,func17->be,ntmps17->bf,underlying30->bg
open Go.RowKit renaming Hid->T
open Go.Value renaming slice->aq,string->bh
open Go.World renaming size_alloc->au
open IntKind renaming i64->Q
open Obj renaming cells->B
open Value renaming int->P,slice->a1,string->ab,pointer->ao
open Vir renaming vals->ar
open _root_ renaming Nat->C,ByteArray->E,Int->f,List->a0,Option->ah
open _root_.Bool renaming and_eq_true->aw
open _root_.ByteArray renaming empty->ap
open _root_.List renaming length_append->ay,take_of_length_le->bc
open _root_.Nat renaming le_refl->ba
open _root_.Option renaming some->G,none->K
variable{p s:E}{d:Dev}{r:f}{v:Vir}
def partT (o:E)(k:f):E:=o++⟨#[112]⟩++⟨(ax k).toArray⟩
def partOk (o:E)(k:f):Bool:=decide (1<=k)&&decide (k<=16)&&isName o&&isName (partT o k)
theorem zOf (o:E)(k:f)(w:ae)(hE:Env w)(ho:o.size<=1000000)(hk:(az Q k).wf=true):
  Calls ai 158 #[.string o,.int Q k] w λe w'=>e=.returned (.tuple #[.string (if partOk o k=true then partT o k else ⟨#[]⟩),.int Q (if partOk o k=true then 0 else 310)])/\Fr No w w':=by
 have y:-9223372036854775808<=k/\k<=9223372036854775807:=by simp[Lit.wf,IntKind.min,IntKind.max,IntKind.signed,IntKind.bits]at hk;omega
 have J:=Lib.itoa_length_le k y.1 y.2;obtain⟨h,z⟩:∃ h,h=(⟨(ax k).toArray⟩:E):=⟨_,rfl⟩
 have a3:h.size<=21:=by rw[z];simpa [ByteArray.size]using J
 have Z:partT o k=o++(⟨#[112]⟩:E)++h:=by rw[z];rfl
 have a2:(o++(⟨#[112]⟩:E)).size=o.size+1:=by rw[ByteArray.size_append];rfl
 have h1:(o++(⟨#[112]⟩:E)).size<=9223372036854775807:=by omega
 have h3:(o++(⟨#[112]⟩:E)++h).size<=9223372036854775807:=by rw[ByteArray.size_append];omega
 have h4:(o++(⟨#[112]⟩:E)++h).size<=maxLen:=by unfold al;rw[ByteArray.size_append];omega
 have h5:o.size<=maxLen:=by unfold al;omega
 have a4:¬ 9223372036854775807<(o++(⟨#[112]⟩:E)).size+h.size:=by omega
 have a5:(o++(⟨#[112]⟩:E)).size+h.size<=9223372036854775807:=by omega
 have a6:¬ 9223372036854775807<o.size+1+h.size:=by omega
 obtain⟨A,F⟩:∃ A,A=partOk o k:=⟨_,rfl⟩
 rw[<-F,Z];have I:T (A=(decide (1<=k)&&decide (k<=16)&&isName o&&isName (o++(⟨#[112]⟩:E)++h))):=by unfold T;rw[F,<-Z];rfl
 have N:(⟨(ax k).toArray⟩:E)=h:=z.symm;clear F Z J z a2
 go_enter Tryz.func158,Tryz.ntmps158
 go_wp2_with fail
 refine(Tryz.strconv_Itoa k y.1 y.2 _ hE.tab).mono ?_;rintro e w1 ⟨rfl,kk,os,rfl⟩;have u:Fr No w (Go.Sort.grow (w.drewN kk) os):=Fr.of_below_size (Lib.below_grow _ w (ba _) kk os);generalize Go.Sort.grow (w.drewN kk) os=w1 at *;rw[N];by_cases a7:k<1
 .have O:A=false:=by rw[I.out];simp[show ¬ 1<=k from by omega]
  subst O;have Hf:=zh u;clear u
  go_wp2_with fail
  refine ak (v:=.tuple #[.string ⟨#[]⟩,.int Q 310]) (by simp[am,aj,go_sem]) rfl ?_;exact⟨by simp,Hf.out⟩
 .by_cases a8:k>16
  .have O:A=false:=by rw[I.out];simp[show ¬ k<=16 from by omega]
   subst O;have Hf:=zh u;clear u
   go_wp2_with fail
   refine ak (v:=.tuple #[.string ⟨#[]⟩,.int Q 310]) (by simp[am,aj,go_sem]) rfl ?_;exact⟨by simp,Hf.out⟩
  .have D:T (A=(isName o&&isName (o++(⟨#[112]⟩:E)++h))):=by unfold T;rw[I.out];simp[show 1<=k from by omega,show k<=16 from by omega]
   go_wp2_with fail
   refine(zAN _ _ h5).mono ?_;rintro e w2 ⟨rfl,R⟩;have U:=zh (u.step R zi);clear u R;rcases hn:isName o with _|_
   .have O:A=false:=by rw[D.out,hn];rfl
    subst O;clear hn
    go_wp2_with fail
    refine ak (v:=.tuple #[.string ⟨#[]⟩,.int Q 310]) (by simp[am,aj,go_sem]) rfl ?_;exact⟨by simp,U.out⟩
   .have V:T (A=isName (o++(⟨#[112]⟩:E)++h)):=by unfold T;rw[D.out,hn];rfl
    clear hn
    go_wp2_with fail
    refine(zAN _ _ h4).mono ?_;rintro e w3 ⟨rfl,X⟩;rw[<-V.out];have Y:=zh (U.out.step X zi);clear X;cases A
    .go_wp2_with fail
     refine ak (v:=.tuple #[.string ⟨#[]⟩,.int Q 310]) (by simp[am,aj,go_sem]) rfl ?_;exact⟨by simp,Y.out⟩
    .go_wp2_with fail
     refine ak (v:=.tuple #[.string (o++(⟨#[112]⟩:E)++h),.int Q 0]) (by simp[am,aj,go_sem]) rfl ?_;exact⟨by simp,Y.out⟩
def zAZ (p o s:E)(r k:f):a0 Vir:=if partOk o k=true then [⟨p,partT o k,s,r⟩]else []
theorem zPE (bd J bp br D:C)(d:Dev)(p s:E)(r k:f)(V:a0 Vir)(U:ah Addr)(X:C)(w:ae)(hE:Env w)(ho:d.orig.size<=1000000)(hk:(az Q k).wf=true)
  (a2:w.heap[bd]?=G (B d.vals 36)) (R:w.heap[J]?=G (B #[.slice U V.length X] 49)) (a3:w.heap[bp]?=G (B #[.string p] 9)) (a4:w.heap[br]?=G (B #[.int Q r] 3))
  (F:w.ownsRow D 97 4 (.slice U V.length X) V.length (vflat V)) (hV:V.length<=100000) (a9:D<=(w:C)):
  Calls ai 157 #[.int Q k,.string s,ao (G ⟨bd,0,K⟩),ao (G ⟨J,0,K⟩),ao (G ⟨bp,0,K⟩),ao (G ⟨br,0,K⟩)] w λe w'=>e=.returned (.tuple #[])/\
   (∃ V' y z,V'=V++zAZ p d.orig s r k/\w'.heap[J]?=G (B #[.slice y V'.length z] 49)/\w'.ownsRow D 97 4 (.slice y V'.length z) V'.length (vflat V'))/\Fr (λb=>b=J\/(aq U V.length X).ownBlock=G b) w w':=by
 obtain⟨i0,b0,b1,b2,b3⟩:=info_parts infoV;have u:=zOf d.orig k w hE ho hk;have x3:=(DevB.of a2).c3;obtain⟨nm,N⟩:∃ nm,nm=partT d.orig k:=⟨_,rfl⟩
 have HP:T (zAZ p d.orig s r k=if partOk d.orig k=true then [⟨p,nm,s,r⟩]else []):=by unfold T;rw[N];rfl
 rw[<-N]at u;generalize zAZ p d.orig s r k=PO at *;clear N hE
 go_enter Tryz.func157,Tryz.ntmps157
 rcases hok:partOk d.orig k with _|_
 .rw[hok]at u HP;simp only[Bool.false_eq_true,if_false]at u HP;clear hok
  go_wp2_with fail
  refine u.mono ?_;rintro e Y ⟨rfl,o⟩;clear u x3;have HR:=zg3 (o.heap R id) (zG F o (λ_ _=>id)) o;clear R F o a2 a3 a4
  go_wp2_with fail
  go_end0
  exact⟨rfl,⟨V,U,X,by rw[HP.out,List.append_nil],HR.out.1,HR.out.2.1⟩,HR.out.2.2.mono zn⟩
 .rw[hok]at u HP;simp only[if_true]at u HP;clear hok
  go_wp2_with fail
  refine u.mono ?_;rintro e Y ⟨rfl,o⟩;have kl:=o.heap R id;have y0:Y.cell? ⟨J,0,K⟩=G (.slice U V.length X):=zB kl 0;have y1:Y.cell? ⟨bp,0,K⟩=G (.string p):=zB (o.heap a3 id) 0;have y2:Y.cell? ⟨br,0,K⟩=G (.int Q r):=zB (o.heap a4 id) 0;have A:=zG F o (λ_ _=>id);have a7:=zK A kl (by decide);have b5:=o.size;have b4:=zh o;clear u x3 R F o a2 a3 a4
  go_wp2_with (at_builtin;refine wpList_append_own _ rfl _ _ 49 rfl D 97 i0 (.agg #[.string ap,.string ap,.string ap,.int Q 0]) 4 56 Tryz.underlying49 b0 b1 b2 b3 rfl (by decide) _ _ _ rfl (A.alloc _) ⟨Y,0,K⟩ 1 1 (ar ⟨p,nm,s,r⟩).toList rfl rfl (zg _ (ar ⟨p,nm,s,r⟩) _ rfl) (zCN _) (by unfold al;omega) (by omega) (by first|omega|(simp;done)|(simp;omega)) ?_;intro v' w9 v I _;obtain⟨y,z,rfl⟩:=zI v;have a5:Fr No Y (Y.alloc (B (ar ⟨p,nm,s,r⟩) 97)):=(ag _ _).alloc _;have a6:Fr (λb=>(aq U V.length X).ownBlock=G b) (Y.alloc (B (ar ⟨p,nm,s,r⟩) 97)) w9:=Fr.of_grown I;have k9:=a6.heap (a5.heap kl id) (λe=>a7 e);have y9:w9.cell? ⟨J,0,K⟩=G (.slice U V.length X):=zB k9 0;have f9:w9.frozen? ⟨J,0,K⟩=false:=zD k9 0)
  have Z:=zK v k9 (by decide);have f5:Fr (Is J) w9 (w9.setCell ⟨J,0,K⟩ (.slice y (V.length+1) z)):=Fr.setAt (ag _ _) _;have k5:(w9.setCell ⟨J,0,K⟩ (.slice y (V.length+1) z)).heap[J]?=G (B #[.slice y (V.length+1) z] 49):=zE k9 0 _;have O:=zG v f5 (λb hb h=>by unfold Is at h;subst h;exact Z hb);have a8:Fr (λb=>b=J\/(aq U V.length X).ownBlock=G b) w (w9.setCell ⟨J,0,K⟩ (.slice y (V.length+1) z)):=(((b4.out.step a5 zi).mono zn).step a6 (λb _ h=>.inr h)).step f5 (λb _ h=>.inl h);have HR:=zg3 k5 O a8;clear v I a6 k9 f5 k5 O a8 a7 Z A a5
  go_end0
  exact⟨rfl,⟨V++[⟨p,nm,s,r⟩],y,z,by rw[HP.out],by rw[ay];exact HR.out.1,by rw[ay,zBs];exact HR.out.2.1⟩,HR.out.2.2⟩
def pwF (p o:E)(r:f)(ins:a0 E)(k:C):a0 Vir:=(List.range k).flatMap λi:C=>zAZ p o (ins[i]?.getD ⟨#[]⟩) r ((i:f)+1)
theorem zFK (p o:E)(r:f)(h:a0 E)(k:C):pwF p o r h (k+1)=pwF p o r h k++zAZ p o (h[k]?.getD ⟨#[]⟩) r ((k:f)+1):=by
 unfold pwF;rw[List.range_succ,List.flatMap_append];simp
theorem zG5 (p o s:E)(r k:f):(zAZ p o s r k).length<=1:=by unfold zAZ;split<;>simp
theorem zJz (p o:E)(r:f)(h:a0 E)(k:C):(pwF p o r h k).length<=k:=by
 induction k with
 | zero=>simp[pwF]
 | succ k u=>rw[zFK,ay];have:=zG5 p o (h[k]?.getD ⟨#[]⟩) r ((k:f)+1);omega
def pwL (p:E)(d:Dev)(s:E)(r:f):a0 Vir:=match parseC s with
 | some c=>if c.kind=5/\d.kind=2 then pwF p d.orig r (c.inner.map af) c.inner.length else []
 | none=>[]
theorem zMo (h:∀ c,parseC s=G c->c.kind≠5):pwL p d s r=[]:=by
 unfold pwL;cases hc:parseC s with
 | none=>rfl
 | some c=>exact if_neg (λe=>h c hc e.1)
theorem zIM {c:Ct}(h:parseC s=G c)(y:c.kind=5):c.inner.length<=16:=by
 obtain⟨-,o,-⟩:=(zBC s c).1 h;obtain⟨k,i,l,A,t,e,n⟩:=c;have u:k=5:=y;subst u;unfold Ct.valid at o;rw[aw]at o;have v:=o.2;rw[Ct.good,aw]at v;have z:=v.1;simp[alike,someIn]at z;show n.length<=16
 omega
theorem zNg (d:Dev)(l:a0 (E×E))(p:E)(r:f)(w:ae)(hE:Env w)(hA:Atts w d.aa d.ac l)(a9:d.an=l.length)(ho:d.orig.size<=1000000)(hg:(getP l zAK).size<=100000):
  Calls ai 106 #[.agg d.vals,ab p,P Q r] w λe w'=>(∃ a' c' V,V=pwL p d (getP l zAK) r/\e=.returned (a1 a' (V:a0 Vir).length c')/\Virs w' a' c' V/\(∀ I,a'=G I->(w:C)<=I.block))/\Fr No w w':=by
 obtain⟨W0,o⟩:∃ W0,W0=((w.alloc (B d.vals 36)).alloc (B #[ab p] 9)).alloc (B #[P Q r] 3):=⟨_,rfl⟩
 have hx:Fr No w W0:=by rw[o];exact(((ag _ _).alloc _).alloc _).alloc _
 have q0:W0.heap[(w:C)]?=G (B d.vals 36):=by rw[o];exact(((ag No _).alloc _).alloc _).heap (zF _ _) id
 have q1:W0.heap[(w:C)+1]?=G (B #[ab p] 9):=by
  rw[o];have:=zO (w.alloc (B d.vals 36)) (B #[ab p] 9) (B #[P Q r] 3)
  rwa [au]at this
 have q2:W0.heap[(w:C)+2]?=G (B #[P Q r] 3):=by
  rw[o];have:=zF ((w.alloc (B d.vals 36)).alloc (B #[ab p] 9)) (B #[P Q r] 3)
  rwa [au,au]at this
 have s0:(W0:C)=(w:C)+3:=by rw[o];simp
 have X:=zN8 d.aa d.ac l zAK W0 (hA.no hx (λ_=>id));rw[<-a9]at X;have c9:=(DevB.of q0).c9;unfold zAK at X;have b0:T (zAK=⟨#[99,111,110,116,101,110,116]⟩):=rfl;rw[b0.out]at hg;have d2:=zh hg;have J:T (∀ V,V=pwL p d (getP l zAK) r↔V=pwL p d (getP l ⟨#[99,111,110,116,101,110,116]⟩) r):=by unfold T;intro V;rw[b0.out]
 generalize d3:getP l ⟨#[99,111,110,116,101,110,116]⟩=g at *;have HE:T (∀ W,Fr No w W->Env W):=λW D=>hE.no D
 have Hx:=zh hx;clear d3 hA a9 hE hg;unfold Dev.vals at o ⊢
 go_enter Tryz.func106,Tryz.ntmps106
 go_upto_region 1 with(fail)
 rw[<-o];clear o
 go_wp2_with fail
 refine X.mono ?_;rintro e w1 ⟨⟨b,rfl⟩,y⟩;have x1:=Hx.out.step y zi;have b1:=zIW g 5 w1 (HE.out w1 x1) d2.out;have k0:=y.heap q0 id;have k1:=y.heap q1 id;have k2:=y.heap q2 id;have s1:=y.size;clear X c9 q0 q1 q2 hx y
 go_wp2_with fail
 refine b1.mono ?_;rintro en F ⟨b2,z⟩;have X2:=zh (x1.step z zi);have m0:=z.heap k0 id;have m1:=z.heap k1 id;have m2:=z.heap k2 id;have s2:=z.size;clear b1 k0 k1 k2 x1 z;rcases b2 with⟨b3,rfl⟩|⟨k,sl,t,le,i,lb,n,a,a',a7,e2,N,hk,rfl,b4,Y,Z⟩
 .have Hr:T ([]=pwL p d (getP l zAK) r):=by unfold T;rw[J.out,zMo b3]
  have Xf:=zh (X2.out.alloc (B #[P Q 0,ab ⟨#[]⟩,ab ⟨#[]⟩,P Q 0,P Q 0,P Q 0,a1 K 0 0] 224));clear b3 m1 m2
  go_wp2_with fail
  go_ret;exact⟨⟨K,0,[],Hr.out,rfl,Virs.nil _,λ_ e=>by cases e⟩,Xf.out⟩
 .subst hk;obtain⟨U,A⟩:∃ U,U=(F.alloc (B #[P Q 5,ab i,ab lb,P Q sl,P Q t,P Q le,a1 a n.length a7] 224)).alloc (B #[a1 K 0 0] 49):=⟨_,rfl⟩
  have a3:Fr No F (F.alloc (B #[P Q 5,ab i,ab lb,P Q sl,P Q t,P Q le,a1 a n.length a7] 224)):=(ag _ _).alloc _;have v:Fr No F U:=by rw[A];exact a3.alloc _
  have n0:=v.heap m0 id;have n1:=v.heap m1 id;have n2:=v.heap m2 id;have n3:U.heap[(F:C)+1]?=G (B #[a1 K 0 0] 49):=by
   rw[A];have:=zF (F.alloc (B #[P Q 5,ab i,ab lb,P Q sl,P Q t,P Q le,a1 a n.length a7] 224)) (B #[a1 K 0 0] 49)
   rwa [au]at this
  have s4:(U:C)=(F:C)+2:=by rw[A];simp
  have z7:=(DevB.of (a3.heap m0 id)).c7;have e3:n.length<=16:=zIM N rfl;have a4:=Y.no v (λ_=>id);have d4:(n.map af).length=n.length:=List.length_map ..;by_cases b5:d.kind=2
  .have Hr:T (pwF p d.orig r (n.map af) n.length=pwL p d (getP l zAK) r):=by
    unfold T;rw[J.out];unfold pwL;rw[N];exact(if_pos ⟨rfl,b5⟩).symm
   have H4:=zh v;have S4:=zh s4;have d5:∀ I,a'=G I->(n.map af)≠[]->I.block<(F:C):=λI e a8=>(Y.cell I e a8).2.1
   clear N b4 m0 m1 m2 a3 v Y Z
   go_upto_region 7 with(fail)
   rw[<-A];clear A z7
   go_wp2_with fail
   go_loopw [38] (λx wr=>∃ (j:C) (V:a0 Vir) (av:ah Addr) (cv:C),j<=n.length/\x=P Q (j:f)/\T (V=pwF p d.orig r (n.map af) j)/\wr.heap[(F:C)+1]?=G (B #[a1 av V.length cv] 49)/\wr.ownsRow (U:C) 97 4 (a1 av V.length cv) V.length (vflat V)/\Fr (λb=>(F:C)+1<=b) U wr) (λx _=>n.length-(intOf x).toNat)
   case atStart=>exact⟨0,[],K,0,by omega,rfl,by unfold T pwF;simp,n3,World.ownsRow_nil _ _ _ _,ag _ _⟩
   case round=>
    obtain⟨j,V,av,cv,hj,rfl,HV,kl,u,D⟩:=hrel;have e4:V.length<=16:=by rw[HV.out];have:=zJz p d.orig r (n.map af) j;omega
    have d6:=D.size;by_cases e5:j<n.length
    .have b6:(j:f)<n.length:=by omega
     obtain⟨bb,e6,x,rfl,b7,hc⟩:=(a4.fr D (λI e a8 h=>by have:=d5 I e a8;omega)).at (show j<(n.map af).length by omega);have O:Fr No w wr:=(X2.out.step H4.out zi).step D (λb hb h=>by have:=S4.out;omega);have a5:=zPE (w:C) ((F:C)+1) ((w:C)+1) ((w:C)+2) (U:C) d p x r ((j:f)+1) V av cv wr (HE.out wr O) ho (WalkArith.wf_i64 (by omega)) (D.heap n0 (λh=>by omega)) kl (D.heap n1 (λh=>by omega)) (D.heap n2 (λh=>by omega)) u (by omega) d6;have d7:T (V++zAZ p d.orig x r ((j:f)+1)=pwF p d.orig r (n.map af) (j+1)):=by unfold T;rw[zFK,<-HV.out,b7];rfl
     have b8:∀ b,(aq av V.length cv).ownBlock=G b->(U:C)<=b:=λb h=>zP u h
     have d8:=zh b8;have Hf:=zh D;generalize zAZ p d.orig x r ((j:f)+1)=PO at *;clear b7 kl u D O b8
     go_wp2_with fail
     refine a5.mono ?_;rintro e w9 ⟨rfl,⟨V',d9,e0,b9,d0,R⟩,d1⟩;have HF:=zh (And.intro d0 (And.intro R (Hf.out.step d1 (λb _ h=>by
      rcases h with h|h
      .omega
      .have:=d8.out _ h;omega))))
     have e1:T (V'=pwF p d.orig r (n.map af) (j+1)):=by unfold T;rw[b9,d7.out]
     clear a5 d0 R d1 b9
     go_wp2_with fail
     go_roundw
     case rel=>exact⟨j+1,V',d9,e0,by omega,by go_num,e1,HF.out.1,HF.out.2.1,HF.out.2.2⟩
     case measure=>simp[intOf];omega
    .obtain rfl:j=n.length:=by omega
     have b6:¬ (n.length:f)<n.length:=by omega
     have y0:wr.cell? ⟨(F:C)+1,0,K⟩=G (a1 av V.length cv):=zB kl 0;obtain⟨a2,c2,hv,hR,a6⟩:=Virs.of_own u;cases hv;have O:Fr No w wr:=(X2.out.step H4.out zi).step D (λb hb h=>by have:=S4.out;omega);have H:=zg3 hR a6 O;have S0:T ((w:C)<=(U:C)):=by unfold T;have:=S4.out;omega
     clear u D hR a6 kl O
     go_wp2_with fail
     go_ret;exact⟨⟨av,cv,by rw[<-Hr.out,<-HV.out];rfl,by rw[<-Hr.out,<-HV.out];exact H.out.1,λI e=>Nat.le_trans S0.out (H.out.2.1 I e)⟩,H.out.2.2⟩
  .have Hr:T ([]=pwL p d (getP l zAK) r):=by unfold T;rw[J.out];unfold pwL;rw[N];exact(if_neg (λe=>b5 e.2)).symm
   have Xf:=zh (X2.out.step a3 zi);clear N b4 Y a4 m0 m1 m2 n0 n1 n2 n3 v A d4
   go_wp2_with fail
   go_ret;exact⟨⟨K,0,[],Hr.out,rfl,Virs.nil _,λ_ e=>by cases e⟩,Xf.out⟩
theorem zJy (p:E)(d:Dev)(s:E)(r:f):(pwL p d s r).length<=16:=by
 unfold pwL;cases hc:parseC s with
 | none=>simp
 | some c=>
  show (if c.kind=5/\d.kind=2 then pwF p d.orig r (c.inner.map af) c.inner.length else []).length<=16
  split
  .rename_i h;have:=zJz p d.orig r (c.inner.map af) c.inner.length;have:=zIM hc h.1;omega
  .simp
theorem zG4 {o:E}{k:f}(h:v∈zAZ p o s r k):v.q=p/\v.o.size<=32:=by
 unfold zAZ at h;split at h
 .rename_i u;simp at h;subst h;refine⟨rfl,?_⟩;unfold partOk at u;simp only[aw]at u;have:=u.2;unfold isName at this;simp at this;exact this.1.1.1.2
 .cases h
theorem zNc (h:v∈pwL p d s r):v.q=p/\v.o.size<=32:=by
 unfold pwL at h;cases hc:parseC s with
 | none=>rw[hc]at h;cases h
 | some c=>
  rw[hc]at h;simp only at h;split at h
  .unfold pwF at h;obtain⟨i,-,u⟩:=List.mem_flatMap.1 h;exact zG4 u
  .cases h
def wantS (tx:Dev->E)(S:a0 Src)(M:a0 Vir)(r:f)(k:C):a0 Vir:=(S.take k).foldl (λM s=>zr M (pwL s.o s.d (tx s.d) r)) M
theorem zEb {tx:Dev->E}{S:a0 Src}{M:a0 Vir}{k:C}{s:Src}(h:S[k]?=G s):wantS tx S M r (k+1)=zr (wantS tx S M r k) (pwL s.o s.d (tx s.d) r):=by
 unfold wantS;rw[List.take_add_one,h,List.foldl_append];rfl
theorem zFt (tx:Dev->E)(S:a0 Src)(M:a0 Vir)(r:f):∀ k,(wantS tx S M r k).length<=M.length+16*k:=by
 intro k
 induction k with
 | zero=>simp[wantS]
 | succ k u=>
  by_cases h:k<S.length
  .rw[zEb (List.getElem?_eq_getElem h)];have v:=zAt (pwL S[k].o S[k].d (tx S[k].d) r) (wantS tx S M r k);have y:=zJy S[k].o S[k].d (tx S[k].d) r;omega
  .have:wantS tx S M r (k+1)=wantS tx S M r k:=by unfold wantS;rw[bc (by omega),bc (by omega)]
   rw[this];omega
theorem zIP (W:ae)(a:ah Addr)(n c:C):(binOp .eql 30 (a1 a n c) (a1 K 0 0)).run ai W=.ok (.bool a.isNone) W:=Lib.run_eql_slice_nil W 30 9 a n c 0 0 bg
theorem Strs.src' {W:ae}{a:ah Addr}{y:C}{l:a0 E}(h:Strs W a y l):∀ v,a=G v->∀ j u,(l.map bh)[j]?=G u->W.cell? (v.add j)=G u:=by
 intro v e j u z;rw[List.getElem?_map]at z;obtain⟨x,A,rfl⟩:=Option.map_eq_some_iff.1 z;obtain⟨D,_,F⟩:=h.cell v e (by intro e;subst e;simp at A);obtain⟨b,o,I⟩:=v;simp only at D;subst D;rw[Addr.add_lit];exact F j x A
theorem zAp (a:ah Addr)(y:C)(l:a0 E)(w:ae)(R:Strs w a y l)(U:l.length<=1000000):
  Calls ai 17 #[a1 a l.length y] w λe w'=>(∃ v z,e=.returned (a1 v l.length z)/\Strs w' v z l/\BlkT w' v 9/\∀ A,v=G A->(w:C)<=A.block)/\Fr No w w':=by
 obtain⟨V,X,D,F,I⟩:=info_parts infoS;cases a with
 | none=>
  obtain⟨rfl,rfl⟩:=R.isNil rfl;have Y:=zIP
  go_enter be,bf
  go_wp2_with fail
  go_ret;exact⟨⟨K,0,rfl,Strs.nil _,BlkT.none _ _,λ_ e=>by cases e⟩,ag _ _⟩
 | some A=>
  have Z:Fr No w (w.alloc (B #[] 9)):=(ag _ _).alloc _;have J:=R.no Z (λ_=>id);have Y:=zIP
  go_enter be,bf
  have u:(w.alloc (B #[] 9)).ownsRow (w:C) 9 1 (a1 (G ⟨w,0,K⟩) 0 0) 0 []:=
   ⟨rfl,.inr ⟨(w:C),0,#[],rfl,ba _,zF _ _,ba _,by unfold al;omega,rfl,rfl⟩⟩
  go_wp2_with (at_builtin;refine zx rfl _ _ 30 rfl (w:C) 9 V (ab ap) 1 16 bg X D F I rfl (by decide) _ 0 [] rfl u (G A) l.length _ (l.map bh) rfl (λe=>by cases e) (by simp) (λN e=>J.src' N e) (zBN l) (by unfold al;omega) (by omega) (by first|omega|(simp;done)|(simp;omega)) ?_;intro v' w1 o O)
  go_ret;simp only[Nat.zero_add,List.nil_append]at o;obtain⟨v,z,hv,h1,h2⟩:=Strs.of_own o;subst hv;exact⟨⟨v,z,rfl,h1,zAG o,h2⟩,((ag No w).alloc _).step (zEl u O) (λb U h=>by omega)⟩
theorem zCo (w:ae)(o u h:Obj):(((w.alloc o).alloc u).alloc h).heap[(w:C)]?=G o:=((ag No _).alloc h).heap (zO w o u) id
theorem zCn (w:ae)(o u h:Obj):(((w.alloc o).alloc u).alloc h).heap[(w:C)+1]?=G u:=((ag No _).alloc h).heap (zR w o u) id
theorem zCm (w:ae)(o v u:Obj):(((w.alloc o).alloc v).alloc u).heap[(w:C)+1+1]?=G u:=by
 have h:=zF ((w.alloc o).alloc v) u;have e:((w.alloc o).alloc v).heap.size=(w:C)+1+1:=by simp
 rw[e]at h;exact h
def zBq : Value:=.agg #[ab ⟨#[]⟩,ab ⟨#[]⟩,P Q 0,P Q 0,P Q 0,P Q 0,a1 K 0 0]
theorem zHY (w:ae):(zeroValue 232).run ai w=.ok zBq w:=by kernel_rfl
structure MemSmall2 (L:a0 Mem):Prop where
 len:L.length<=1000
 p:∀ m∈L,m.p.size<=1000000
 i:∀ m∈L,m.i.size<=1000000
 l:∀ m∈L,m.l.length<=1000000
 s:∀ m∈L,(az Q m.s).wf=true
def ArrRes (w:ae)(b:E×f->ah Mem)(e:Ending)(w':ae):Prop:=
 ∃ (a':ah Addr) (c':C) (O:a0 ArrM) (ids:a0 E),e=.returned (a1 a' O.length c')/\Arrs w' a' c' O/\(∀ ad,a'=G ad->(w:C)<=ad.block)/\AFresh w' (w:C) O/\IsIds2 b ids/\O.map ArrM.toArr=ids.map (buildA b)/\ids.length<=1000/\w'.ownsRow (w:C) 183 6 (a1 a' O.length c') O.length (arflat O)
end Go.Proofs.YtckkocmhlhefpaaGreatDoor
