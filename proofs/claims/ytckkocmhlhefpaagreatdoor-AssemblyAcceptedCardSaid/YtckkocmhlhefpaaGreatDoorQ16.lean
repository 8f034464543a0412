import Derived.Test.YtckkocmhlhefpaaGreatDoorQ15
namespace Go.Proofs.YtckkocmhlhefpaaGreatDoor
open Go.RowKit Go.Maps
set_option linter.unusedVariables false
set_option maxRecDepth 100000
set_option maxHeartbeats 2000000
open Ct renaming depths->ag
open Fr renaming refl->ah
open Go renaming Value->K,World->M,Addr->ae
open Go.Proofs.Tryz renaming prog->al
open Go.RowKit renaming Hid->L
open Go.Value renaming slice->aw
open Go.World renaming cell?_of_block->ax
open IntKind renaming i64->C
open Obj renaming cells->af
open Value renaming int->Q,string->H,slice->T
open _root_ renaming Nat->E,List->f,Int->P,ByteArray->p,Array->a0,UInt8->ab,Option->ac
open _root_.Array renaming toList->am
open _root_.Bool renaming false->W,true->aa
open _root_.ByteArray renaming empty->aj
open _root_.List renaming getElem?_eq_getElem->ak,getElem?_append_left->an,getElem?_append_right->ao,length->ap,flatMap_cons->aq
open _root_.Nat renaming lt_of_lt_of_le->ar
open _root_.Option renaming some->G,none->B,getD_some->ai,bind_some->au
variable{w w':M}{X S Y:E->Prop}{o u:a0 K}{c:Ct}{a:ac ae}{cs n:f Ct}{v:K}{k s t e:P}{i l:p}{j:E}
inductive CAt (w:M)(X:E->Prop):a0 K->Ct->Prop
 | mk (k:P) (i l:p) (s t e:P) (n:f Ct) (a:ac ae) (cap:E) (vs:E->a0 K)
  (h1:n.length<=cap) (h2:cap<=maxLen) (h3:a=B->n=[]/\cap=0)
  (h4:∀ ad,a=G ad->n≠[]->ad.spot=B/\ad.block<(w:E)/\X ad.block)
  (h5:∀ ad j d,a=G ad->n[j]?=G d->∀ q,q<7->w.cell? ⟨ad.block,ad.off+(j*7+q),B⟩=(vs j)[q]?)
  (h6:∀ j d,n[j]?=G d->CAt w X (vs j) d):
  CAt w X #[Q C k,H i,H l,Q C s,Q C t,Q C e,T a n.length cap] (.mk k i l s t e n)
theorem CAt.fr (h:CAt w X o c)(I:Fr S w w')(N:∀ b,X b->¬ S b):CAt w' X o c:=by
 induction h with
 | mk k i l s t e n a y o O R U J V h6 Y=>
  refine .mk k i l s t e n a y o O R U (λu v z=>?_) (λu j d v A Z hq=>?_) Y
  .obtain⟨a1,D,F⟩:=J u v z;exact⟨a1,ar D I.size,F⟩
  .obtain⟨a1,D,F⟩:=J u v (λe=>by rw[e]at A;simp at A);rw[<-V u j d v A Z hq];exact ax (I.block _ D (N _ F))
theorem CAt.no (h:CAt w X o c)(u:Fr No w w'):CAt w' X o c:=h.fr u (λ_ _=>id)
theorem CAt.mono (h:CAt w X o c)(z:∀ b,b<(w:E)->X b->Y b):CAt w Y o c:=by
 induction h with
 | mk k i l s t e n a u o A D F I J V N=>
  refine .mk k i l s t e n a u o A D F (λO R v=>?_) J N;obtain⟨a1,y,U⟩:=I O R v;exact⟨a1,y,z _ y U⟩
theorem CAt.size (h:CAt w X o c):o.size=7:=by
 cases h;rfl
structure InAt (w:M)(X:E->Prop)(a:ac ae)(cap:E)(cs:f Ct):Prop where
 len:cs.length<=cap
 max:cap<=maxLen
 isNil:a=B->cs=[]/\cap=0
 el:∃ vs:E->a0 K,(∀ ad,a=G ad->cs≠[]->ad.spot=B/\ad.block<(w:E)/\X ad.block)/\(∀ ad j d,a=G ad->cs[j]?=G d->∀ q,q<7->w.cell? ⟨ad.block,ad.off+(j*7+q),B⟩=(vs j)[q]?)/\∀ j d,cs[j]?=G d->CAt w X (vs j) d
theorem InAt.nil (w:M)(X:E->Prop):InAt w X B 0 []:=⟨by simp,by simp,λ_=>⟨rfl,rfl⟩,λ_=>#[],λ_ e=>(by cases e),λ_ _ _ e=>(by cases e),λj d h=>by simp at h⟩
theorem CAt.of_in {o:E}(h:InAt w X a o cs)(k:P)(i l:p)(s t e:P):CAt w X #[Q C k,H i,H l,Q C s,Q C t,Q C e,T a cs.length o] (.mk k i l s t e cs):=by
 obtain⟨u,v,y,z⟩:=h.el;exact .mk k i l s t e cs a o u h.len h.max h.isNil v y z
theorem InAt.fr {o:E}(h:InAt w X a o cs)(z:Fr S w w')(I:∀ b,X b->¬ S b):InAt w' X a o cs:=by
 obtain⟨N,J,O,R⟩:=h.el;refine⟨h.len,h.max,h.isNil,N,λv y A=>?_,λv j d y u U V=>?_,λj d u=>(R j d u).fr z I⟩
 .obtain⟨a1,D,F⟩:=J v y A;exact⟨a1,ar D z.size,F⟩
 .obtain⟨a1,D,F⟩:=J v y (λe=>by rw[e]at u;simp at u);rw[<-O v j d y u U V];exact ax (z.block _ D (I _ F))
theorem InAt.mono {o:E}(h:InAt w X a o cs)(v:∀ b,b<(w:E)->X b->Y b):InAt w Y a o cs:=by
 obtain⟨z,A,D,F⟩:=h.el;refine⟨h.len,h.max,h.isNil,z,λI J u=>?_,D,λj d N=>(F j d N).mono v⟩;obtain⟨a1,y,O⟩:=A I J u;exact⟨a1,y,v _ y O⟩
structure CRow (w:M)(base:E)(v:K)(cs:f Ct):Prop where
 el:∃ vl:f (a0 K),vl.length=cs.length/\w.ownsRow base 224 7 v cs.length (vl.flatMap am)/\∀ (j:E) (vs:a0 K) (c:Ct),vl[j]?=G vs->cs[j]?=G c->CAt w (λb=>base<=b/\v.ownBlock≠G b) vs c
theorem CRow.nil (w:M)(o:E):CRow w o (T B 0 0) []:=⟨[],rfl,World.ownsRow_nil _ _ _ _,λj u c h=>by simp at h⟩
theorem CRow.fr {o:E}(h:CRow w o v cs)(u:Fr S w w')(y:∀ b,o<=b->¬ S b):CRow w' o v cs:=by
 obtain⟨z,A,D,F⟩:=h.el;exact⟨z,A,zAS D u y,λj I c J N=>(F j I c J N).fr u (λb O=>y b O.1)⟩
theorem zIL : ∀ (A:f (a0 K)),(∀ u∈A,u.size=7)->∀ (j:E) (u:a0 K),A[j]?=G u->∀ o,o<7->(A.flatMap am)[j*7+o]?=u[o]?
 | [],_,j,u,h,o,D=>by simp at h
 | x::t,v,0,u,h,o,D=>by
  simp at h;subst h;have z:=v x (by simp);rw[aq,an (by simp[z];omega)];simp
 | x::t,v,j+1,u,h,o,D=>by
  have z:=v x (by simp);rw[aq,ao (by simp[z];omega),show (j+1)*7+o-x.toList.length=j*7+o by simp[z];omega];exact zIL t (λy F=>v y (by simp[F])) j u (by simpa using h) o D
theorem CRow.inAt {o:E}(h:CRow w o v cs):∃ a u,v=T a cs.length u/\InAt w (From o) a u cs:=by
 obtain⟨y,U,V,O⟩:=h.el;have X:∀ I∈y,I.size=7:=λI J=>by
  obtain⟨j,z⟩:=List.getElem?_of_mem J;have A:j<cs.length:=by rw[<-U];exact(List.getElem?_eq_some_iff.1 z).1
  exact(O j I cs[j] z (ak A)).size
 obtain⟨_,⟨rfl,Y⟩|⟨g,u,Z,rfl,hg,D,h6,h7,h8,h9⟩⟩:=V
 .have:cs=[]:=List.eq_nil_of_length_eq_zero Y;subst this;exact⟨B,0,rfl,InAt.nil _ _⟩
 .refine⟨G ⟨g,0,B⟩,u,rfl,h6,h7,(λe=>by cases e),λj=>(y[j]?).getD #[],λad e a2=>?_,λad j d e F R hq=>?_,λj d F=>?_⟩
  .cases e;exact⟨rfl,zC D,hg⟩
  .cases e;have A:j<cs.length:=(List.getElem?_eq_some_iff.1 F).1;have z:y[j]?=G (y[j]'(by omega)):=ak (by omega);show _=((y[j]?).getD #[])[R]?
   rw[zB D,z];simp only[Nat.zero_add,ai];rw[<-zIL y X j _ z R hq,<-h9,List.getElem?_take_of_lt (by omega),Array.getElem?_toList]
  .have A:j<cs.length:=(List.getElem?_eq_some_iff.1 F).1;have z:y[j]?=G (y[j]'(by omega)):=ak (by omega);have N:=O j _ d z F;show CAt w (From o) ((y[j]?).getD #[]) d
   rw[z];exact N.mono (λb _ D=>D.1)
theorem CRow.push {N:M}{o:E}{D:K}{cs:f Ct}(Z:CAt w (From o) u c)(O:∀ b,v.ownBlock=G b->CAt w (λb'=>o<=b'/\b'≠b) u c)
  {F:f (a0 K)} (h1:F.length=cs.length) (h3:∀ (j:E) (u:a0 K) (c:Ct),F[j]?=G u->cs[j]?=G c->CAt w (λb=>o<=b/\v.ownBlock≠G b) u c)
  (I:N.ownsRow o 224 7 D (cs.length+1) (F.flatMap am++u.toList)) (hf:Fr (λb=>v.ownBlock=G b) w N) (R:D.ownBlock=v.ownBlock\/∃ g,D.ownBlock=G g/\(w:E)<=g):CRow N o D (cs++[c]):=by
 have J:∀ u c,CAt w (λb=>o<=b/\v.ownBlock≠G b) u c->CAt N (λb=>o<=b/\D.ownBlock≠G b) u c:=by
  intro u c h;have h4:=h.mono (Y:=λb=>(o<=b/\v.ownBlock≠G b)/\b<(w:E)) (λb y hx=>⟨hx,y⟩);have h5:=h4.fr hf (λb y=>y.1.2);refine h5.mono (λb _ y=>⟨y.1.1,?_⟩);rcases R with e|⟨g,e,hg⟩
  .rw[e];exact y.1.2
  .rw[e];intro h;cases h;omega
 have U:CAt w (λb=>o<=b/\v.ownBlock≠G b) u c:=by
  cases hob:v.ownBlock with
  | none=>exact Z.mono (λb _ y=>⟨y,by simp⟩)
  | some g=>exact(O g hob).mono (λb _ y=>⟨y.1,λe=>y.2 (Option.some.inj e).symm⟩)
 refine⟨F++[u],by simp[h1],?_,λj V c' z A=>?_⟩
 .rw[List.flatMap_append]
  simpa using I
 .by_cases X:j<cs.length
  .rw[an (by omega)]at z;rw[an X]at A;exact J _ _ (h3 j V c' z A)
  .rw[ao (by omega)]at z;rw[ao (by omega)]at A;have e1:j-F.length=0:=by
    have:=(List.getElem?_eq_some_iff.1 z).1;simp at this;omega
   have e2:j-cs.length=0:=by omega
   rw[e1]at z;rw[e2]at A;simp at z A;subst z;subst A;exact J _ _ U
def CtRes (w:M)(pb:E)(s:p)(r:f ab)(n:E)(e:Ending)(w':M):Prop:=
 ∃ (k:P) (i l:p) (sl t le:P) (a:ac ae) (m c:E) (r':f ab) (bad':Bool),e=.returned (.agg #[Q C k,H i,H l,Q C sl,Q C t,Q C le,T a m c])/\r'.length<=r.length/\Cur w' pb s r' bad'/\Fr (Is pb) w w'/\
  ((bad'=aa/\pC n r=B)\/(bad'=W/\∃ ct,pC n r=G (ct,r')/\CAt w' (From (w:E)) #[Q C k,H i,H l,Q C sl,Q C t,Q C le,T a m c] ct))
def PSpec (n:E):Prop:=∀ (pb:E) (s:p) (r:f ab) (w:M),r.length<n->Cur w pb s r W->s.size<=900->Env w->9<=pb->
 Calls al 240 #[.pointer (G ⟨pb,0,B⟩)] w (CtRes w pb s r n)
def InRes (w:M)(pb:E)(s:p)(r:f ab)(bad:Bool)(n:E)(e:Ending)(w':M):Prop:=
 ∃ (a:ac ae) (m c:E) (r':f ab) (bad':Bool),e=.returned (T a m c)/\r'.length<=r.length/\Cur w' pb s r' bad'/\Fr (Is pb) w w'/\(bad=aa->bad'=aa)/\
  (bad=W->(bad'=aa/\(zW 40 r).bind (pL n [])=B)\/(bad'=W/\∃ cs,(zW 40 r).bind (pL n [])=G (cs,r')/\m=cs.length/\InAt w' (From (w:E)) a c cs))
theorem zAo {b:ab}(r:f ab):((zW b r).getD r).length<=r.length:=by
 cases h:zW b r with
 | none=>simp
 | some t=>rw[zl h];simp
theorem infoC: (Tryz.prog.info? 224).map (λi=>(i.zero,i.size,i.bytes))=G (G (.agg #[Q C 0,H aj,H aj,Q C 0,Q C 0,Q C 0,T B 0 0]),7,88):=by kernel_rfl
def lenOf : K->E
 | .slice _ n _=>n
 | _=>0
theorem zDi (k s t e:P)(i l:p)(a:ac ae)(m c:E):∀ u∈[Value.int C k,H i,H l,Q C s,Q C t,Q C e,T a m c],u.oneCell'=true:=by
 intro u h;simp at h;rcases h with rfl|rfl|rfl|rfl|rfl|rfl|rfl<;>rfl
theorem zHC (a:ac ae)(n c:E):lenOf (T a n c)=n:=rfl
theorem zOG (n:E)(hP:∀ k,k<n->PSpec k)(z:E)(s:p)(r:f ab)(R:Bool)(w:M)(hr:r.length+1<=n)(hc:Cur w z s r R)(hs:s.size<=900)(hE:Env w)(h9:9<=z):
  Calls al 273 #[.pointer (G ⟨z,0,B⟩)] w (InRes w z s r R n):=by
 obtain⟨i0,i5,i6,i7,i8⟩:=info_parts infoC;have k9:=hc.lt;have l0:=hc.le
 go_enter Tryz.func273,Tryz.ntmps273
 go_wp2_with fail
 refine(zCj z s 40 r R _ hc (by omega)).mono ?_;rintro e F ⟨rfl,b6,a7⟩;have i9:=zAo (b:=40) r;obtain⟨N,b7⟩:∃ N,N=(zW 40 r).getD r:=⟨_,rfl⟩
 rw[<-b7]at b6 i9;obtain⟨b1,b8⟩:∃ b1,b1=(R||(zW 40 r).isNone):=⟨_,rfl⟩
 rw[<-b8]at b6;have b9:=zh b7;have a8:=zh b8;have l1:=a7.size;have d7:=zh a7;have d8:=hE.fr a7 (λb A h=>by omega);clear b7 b8 a7 hc
 go_wp2_with fail
 go_loopw [3] (λv wr=>∃ (o:f Ct) (rr:f ab) (bb:Bool) (av:ac ae) (cv:E) (m:E),v=.slice av o.length cv/\o.length+m=n/\rr.length<=N.length/\Cur wr z s rr bb/\L (bb=W->(rr.length+2<=m/\o.length+rr.length<=N.length)/\pL n [] N=pL m o rr/\b1=W)/\L (bb=aa->b1=aa\/pL n [] N=B)/\L (bb=W->CRow wr (F:E) (.slice av o.length cv) o)/\Fr (λb=>b=z\/(F:E)<=b) F wr) (λv _=>n+1-lenOf v)
 case atStart=>
  refine⟨[],N,b1,none,0,n,rfl,by simp,by omega,b6,λh=>?_,λh=>.inl h,λ_=>CRow.nil _ _,ah _ _⟩;have u:=a8.out;rw[h]at u;have h3:(zW 40 r).isNone=false:=by
   cases h4:(zW 40 r).isNone with
   | false=>rfl
   | true=>rw[h4,Bool.or_true]at u;cases u
  cases h5:zW 40 r with
  | none=>rw[h5]at h3;cases h3
  | some t=>
   have h6:=b9.out;rw[h5,ai]at h6;have h7:=congrArg ap (zl h5);rw[h6];simp at h7;exact⟨⟨by omega,by simp⟩,rfl,h⟩
 case round=>
  obtain⟨o,rr,bb,av,cv,m,rfl,hm,l2,Y,H0,H1,HR,Z⟩:=hrel;obtain⟨W2,rfl⟩:∃ W2,W2=wr:=⟨_,rfl⟩
  obtain⟨l3,d0,l4,l5⟩:=Y.blk;have c2:W2.cell? ⟨z,2,B⟩=G (.bool bb):=zB d0 2;have l6:=Z.size;have j0:L (Fr (Is z) w W2):=d7.out.step Z (λb A h=>by omega);cases bb with
  | true=>
   have a2:L (InRes w z s r R n (.returned (.slice B 0 0)) W2):=by
    refine⟨B,0,0,rr,aa,rfl,by omega,Y,j0.out,λ_=>rfl,λd9=>.inl ⟨rfl,?_⟩⟩;cases h5:zW 40 r with
    | none=>rfl
    | some t=>
     have h6:=b9.out;rw[h5,ai]at h6;show pL n [] t=B
     rw[<-h6];rcases H1.out rfl with h|h
     .have u:=a8.out;rw[d9,h5,h]at u;cases u
     .exact h
   clear d0 Y
   go_wp2_with fail
   go_ret;exact a2.out
  | false=>
   obtain⟨⟨l7,l8⟩,e0,e7⟩:=H0.out rfl;have e8:L (CRow W2 (F:E) (.slice av o.length cv) o):=HR.out rfl;obtain⟨m,rfl⟩:∃ m',m=m'+1:=⟨m-1,by omega⟩
   have e9:=d8.fr Z (λb A h=>by have:=d8.sz;omega);have d1:=zh e0;have d2:=zh e7;have k4:o.length<=n:=by omega
   have g0:=hP m (by omega) z s rr W2 (by omega) Y hs e9 h9;clear d0 e0 e7 Y
   go_wp2_with fail
   refine g0.mono ?_;rintro e w3 ⟨k,i,l,sl,t,le,a,mm,c,O,b3,rfl,l9,g1,a9,a3⟩;have m0:=a9.size;have d3:L (CRow w3 (F:E) (.slice av o.length cv) o):=e8.out.fr a9 (λb A h=>by omega);obtain⟨vl,j1,a4,g2⟩:=d3.out.el;have g3:Fr No w3 (w3.alloc (af #[.int C k,.string i,.string l,.int C sl,.int C t,.int C le,.slice a mm c] 224)):=(ah _ _).alloc _;have Hc:=zh a3;have j2:=zh g2;have j3:=zh (Z.step a9 (λb A h=>by omega));have j4:=zh g1;have g4:=zY (b:=0) a4;have d4:L (∀ b,(aw av o.length cv).ownBlock=G b->b<(W2:E)/\(F:E)<=b):=λb A=>by
    obtain⟨m1,_,g5,_⟩:=e8.out.el;exact⟨zY g5 A,zP g5 A⟩
   have k5:(F:E)<=(w3:E):=by omega
   have k6:z<(F:E):=by omega
   clear a3 g2 g0 g1 Z a9 g4
   go_wp2_with (at_builtin;refine wpList_append_own_at _ rfl _ _ 222 rfl (F:E) 224 i0 (.agg #[.int C 0,.string aj,.string aj,.int C 0,.int C 0,.int C 0,.slice B 0 0]) 7 88 Tryz.underlying222 i5 i6 i7 i8 rfl (by decide) _ _ _ rfl (a4.alloc _) ⟨w3,0,B⟩ 1 1 [.int C k,.string i,.string l,.int C sl,.int C t,.int C le,.slice a mm c] rfl rfl (zg _ _ _ rfl) (zDi _ _ _ _ _ _ _ _ _) (by unfold maxLen;omega) (by omega) (by simp;omega) ?_;intro v' wb I a5 _ g6;obtain⟨U,V,rfl⟩:=zI I)
   have b0:Fr (λb=>(aw av o.length cv).ownBlock=G b) w3 wb:=g3.trans (Fr.of_grown a5) zn zi;have g7:=zh b0;have g8:=zh I;have j5:=zh g6;have g9:=j4.out.fr b0 (λh=>by have:=d4.out _ h;omega);have m2:=b0.size;clear I a5 g6 b0 a4 g3 e9
   go_wp2_with fail
   refine(zMz z s 41 O b3 _ g9 (by omega)).mono ?_;rintro e w5 ⟨rfl,D,b2⟩;have m3:=b2.size;have b5:L (Fr (λb=>b=z\/(F:E)<=b) F w5):=(j3.out.step g7.out (λb A h=>by have:=d4.out b h;omega)).step b2 (λb A h=>by omega);have h0:L (Fr (Is z) w w5):=d7.out.step b5.out (λb A h=>by omega)
   -- the row with the new content, if the parse went well
   have a6:L (∀ ct,b3=W->CAt w3 (From (W2:E)) #[.int C k,.string i,.string l,.int C sl,.int C t,.int C le,.slice a mm c] ct->CRow w5 (F:E) (.slice U (o++[ct]).length V) (o++[ct])):=by
    intro ct _ h8;have h1:CRow wb (F:E) (.slice U (o.length+1) V) (o++[ct]):=CRow.push (h8.mono (λb _ A=>by unfold From at *;omega)) (λb A=>h8.mono (λb' _ j6=>by have:=d4.out b A;unfold From at j6;exact⟨by omega,by omega⟩)) j1 j2.out g8.out g7.out (by
     rcases j5.out with h|h
     .exact .inl h
     .exact .inr ⟨_,h,by simp⟩)
    rw[List.length_append,List.length_singleton];exact h1.fr b2 (λb A h=>by omega)
   cases hk:zW 41 O with
   | some r4=>
    rw[hk]at D;simp only[ai]at D;have h7:=congrArg ap (zl hk);simp at h7;have a2:L (InRes w z s r R n (.returned (.slice U (o.length+1) V)) w5):=by
     refine⟨U,o.length+1,V,r4,b3,rfl,by omega,D,h0.out,λj7=>?_,λd9=>?_⟩
     .have u:=a8.out;rw[j7,d2.out]at u;cases u
     .have h6:(zW 40 r).bind (pL n [])=pL n [] N:=by
       cases h5:zW 40 r with
       | none=>have u:=a8.out;rw[h5,d2.out]at u;simp at u
       | some t0=>have h6:=b9.out;rw[h5,ai]at h6;rw[h6];rfl
      rw[h6,d1.out,pL];rcases Hc.out with⟨h1,u⟩|⟨h1,ct,u,h3⟩
      .rw[u];exact .inl ⟨h1,rfl⟩
      .rw[u];simp only[au,hk];refine .inr ⟨h1,o++[ct],rfl,by simp,?_⟩;have i1:=a6.out ct h1 h3;obtain⟨a',k7,hv,j8⟩:=i1.inAt;cases hv;exact j8.mono (λb _ A=>by unfold From at *;omega)
    clear D hk
    go_wp2_with fail
    go_ret;exact a2.out
   | none=>
    rw[hk]at D;simp only[Option.getD_none]at D;have Hk:=zh hk;clear hk
    go_wp2_with fail
    refine(zCj z s 44 O b3 _ D (by omega)).mono ?_;rintro e w6 ⟨rfl,d5,b4⟩;have k8:=zAo (b:=44) O;have m4:=b4.size;have i2:L (Fr (λb=>b=z\/(F:E)<=b) F w6):=b5.out.step b4 (λb A h=>by omega);have i3:∀ ct,b3=W->pC m rr=G (ct,O)->pL n [] N=(zW 44 O).bind λr2=>pL m (o++[ct]) r2:=by
     intro ct _ u;rw[d1.out,pL,u];simp only[au,Hk.out]
    have i4:=zh i3
    -- what the next round has
    have d6:L (∃ (y:f Ct) (J:f ab) (X:Bool),y.length=o.length+1/\J.length<=N.length/\Cur w6 z s J X/\(X=W->(J.length+2<=m/\y.length+J.length<=N.length)/\pL n [] N=pL m y J/\b1=W)/\(X=aa->b1=aa\/pL n [] N=B)/\(X=W->CRow w6 (F:E) (.slice U y.length V) y)):=by
     rcases Hc.out with⟨h1,u⟩|⟨h1,ct,u,h3⟩
     .subst h1;have j9:pL n [] N=none:=by rw[d1.out,pL,u];rfl
      exact⟨o++[Ct.zero],(zW 44 O).getD O,(aa||(zW 44 O).isNone),by simp,by omega,d5,(λh=>by cases h),(λ_=>.inr j9),(λh=>by cases h)⟩
     .subst h1;refine⟨o++[ct],(zW 44 O).getD O,(W||(zW 44 O).isNone),by simp,by omega,d5,λh=>?_,λh=>?_,?_⟩
      .cases h4:zW 44 O with
       | none=>rw[h4]at h;cases h
       | some r4=>
        have h7:=congrArg ap (zl h4);simp at h7;refine⟨⟨by simp;omega,by simp;omega⟩,?_,d2.out⟩;rw[i4.out ct rfl u,h4];rfl
      .cases h4:zW 44 O with
       | none=>exact .inr (by rw[i4.out ct rfl u,h4];rfl)
       | some r4=>rw[h4]at h;cases h
      .intro _;exact(a6.out ct rfl h3).fr b4 (λb A h=>by omega)
    obtain⟨y,J,X,e1,e2,e3,e4,e5,e6⟩:=d6.out;have k0:=zh e3;have k1:=zh e4;have k2:=zh e5;have k3:=zh e6;clear d5 e3 e4 e5 e6 D b4 b2 i3 g9
    go_wp2_with fail
    go_roundw
    case rel=>exact⟨y,J,X,U,V,m,by rw[e1],by omega,e2,k0.out,k1.out,k2.out,k3.out,i2.out⟩
    case measure=>simp only[zHC];omega
theorem CAt.inAt {v:a0 K}(h:CAt w X v (.mk k i l s t e n)):∃ a o,v=#[Q C k,H i,H l,Q C s,Q C t,Q C e,T a n.length o]/\InAt w X a o n:=by
 generalize y:Ct.mk k i l s t e n=c at h;cases h with
 | mk N O l' R U V Y a o u z A D F I J=>
  injection y with e1 e2 e3 e4 e5 e6 e7
  subst e1;subst e2;subst e3;subst e4;subst e5;subst e6;subst e7;exact⟨a,o,rfl,z,A,D,u,F,I,J⟩
structure CtAt (w:M)(b o:E)(k:P)(i l:p)(s t e:P)(v:K):Prop where
 c0:w.cell? ⟨b,o,B⟩=G (Q C k)
 c1:w.cell? ⟨b,o+1,B⟩=G (H i)
 c2:w.cell? ⟨b,o+2,B⟩=G (H l)
 c3:w.cell? ⟨b,o+3,B⟩=G (Q C s)
 c4:w.cell? ⟨b,o+4,B⟩=G (Q C t)
 c5:w.cell? ⟨b,o+5,B⟩=G (Q C e)
 c6:w.cell? ⟨b,o+6,B⟩=G v
theorem InAt.at {A:E}(h:InAt w X a A cs)(y:cs[j]?=G (.mk k i l s t e n)):
  ∃ b u z o,a=G ⟨b,u,B⟩/\b<(w:E)/\X b/\CtAt w b (u+j*7) k i l s t e (T z n.length o)/\InAt w X z o n:=by
 cases a with
 | none=>rw[(h.isNil rfl).1]at y;simp at y
 | some D=>
  obtain⟨Y,O,R,U⟩:=h.el;obtain⟨I,J,N⟩:=O D rfl (λe=>by rw[e]at y;simp at y);obtain⟨z,o,V,F⟩:=(U j _ y).inAt;have v:=R D j _ rfl y;rw[V]at v;obtain⟨b,u,Z⟩:=D;simp only at I J N v;subst I;exact⟨b,u,z,o,rfl,J,N,⟨v 0 (by omega),v 1 (by omega),v 2 (by omega),v 3 (by omega),v 4 (by omega),v 5 (by omega),v 6 (by omega)⟩,F⟩
theorem zHM {d:Ct}(h:n[j]?=G d):ag (n.take (j+1))=max (ag (n.take j)) d.depth:=by
 rw[List.take_add_one,h];exact zEE _ _
theorem zGZ (j:E):ag (n.take j)<=Ct.counts n:=by
 have o:=zBY (n.take j);have h:=zAY (n.take j) (n.drop j);rw[List.take_append_drop]at h;omega
theorem zK1 (m:E):m<=10000->∀ (k s t e:P) (i l:p) (n:f Ct) (a:ac ae) (o:E) (w:M) (X:E->Prop),Ct.counts n<m->InAt w X a o n->
  Calls al 274 #[.agg #[Q C k,H i,H l,Q C s,Q C t,Q C e,T a n.length o]] w λen w2=>en=.returned (Q C ((Ct.mk k i l s t e n).depth:P))/\Fr No w w2:=by
 induction m with
 | zero=>intro _ k s t e i l n a o w X h;omega
 | succ m ih=>
  intro hm k s t e i l n a o w X a5 F;have a6:=zAa n;have R:Fr No w (w.alloc (af #[Q C k,H i,H l,Q C s,Q C t,Q C e,T a n.length o] 224)):=(ah _ _).alloc _;have q1:=zF w (af #[Q C k,H i,H l,Q C s,Q C t,Q C e,T a n.length o] 224);obtain⟨V,D⟩:∃ V,V=w.alloc (af #[Q C k,H i,H l,Q C s,Q C t,Q C e,T a n.length o] 224):=⟨_,rfl⟩
  rw[<-D]at R q1;have I:=F.fr R (λ_ _=>id);obtain⟨c0,-,-,-,-,-,c6⟩:=cl7 q1;have Ih:=zh (ih (by omega));have H0:=zh R;clear ih F R
  go_enter Tryz.func274,Tryz.ntmps274
  go_wp2_with fail
  rw[<-D];clear D
  go_wp2_with fail
  go_loopw [3,9] (λv i wr=>∃ (j:E),j<=n.length/\v=Q C ((ag (n.take j):E):P)/\i=Q C (j:P)/\Fr No V wr) (λ_ i _=>n.length-(intOf i).toNat)
  case atStart=>exact⟨0,by omega,by simp[ag],rfl,ah _ _⟩
  case round=>
   obtain⟨j,hj,rfl,rfl,u⟩:=hrel;have Y:=zGZ (n:=n) j;by_cases Z:j<n.length
   .have J:(j:P)<n.length:=by omega
    obtain⟨d,U⟩:∃ d,n[j]?=G d:=⟨_,ak Z⟩
    have a2:=zBF (List.mem_of_getElem? U);have N:=zHM U;have a4:=zGZ (n:=n) (j+1);obtain⟨k1,i1,l1,s1,t1,e1,n1⟩:=d;rw[Ct.count]at a2;obtain⟨b,a7,a',z,rfl,hb,hX,⟨y0,y1,y2,y3,y4,y5,y6⟩,A⟩:=(I.fr u (λ_ _=>id)).at U;have a3:=zh N;clear N U
    go_wp2_with fail
    have hx:Fr No wr (wr.alloc (af #[Q C k1,H i1,H l1,Q C s1,Q C t1,Q C e1,T a' n1.length z] 224)):=(ah _ _).alloc _;refine(Ih.out k1 s1 t1 e1 i1 l1 n1 a' z _ X (by omega) (A.fr hx (λ_ _=>id))).mono ?_;rintro e w2 ⟨rfl,O⟩;have y:=zh ((u.step hx zi).step O zi);clear hx O u y0 y1 y2 y3 y4 y5 y6 A
    go_wp2_with fail
    go_roundw
    case rel=>exact⟨j+1,by omega,by rw[a3.out];congr 1;omega,by go_num,y.out⟩
    case measure=>simp[intOf];omega
   .have J:¬ (j:P)<n.length:=by omega
    obtain rfl:j=n.length:=by omega
    rw[List.take_length]at Y ⊢;have a8:wr.cell? ⟨w,0,B⟩=G (Q C k):=u.cell c0 id;have y:=zh (H0.out.trans u zi zi);clear u;by_cases hk:k=0
    .subst hk
     go_wp2_with fail
     go_ret;exact⟨by rw[Ct.depth,if_pos rfl];rfl,y.out⟩
    .go_wp2_with fail
     go_ret;exact⟨by rw[Ct.depth,if_neg hk];rfl,y.out⟩
theorem zOI (h:CAt w X u c)(v:c.count<=10000):
  Calls al 274 #[.agg u] w λy z=>y=.returned (Q C (c.depth:P))/\Fr No w z:=by
 obtain⟨k,i,l,s,t,e,n⟩:=c;obtain⟨a,o,rfl,A⟩:=h.inAt;exact zK1 _ v k s t e i l n a o w X (by rw[Ct.count];omega) A
end Go.Proofs.YtckkocmhlhefpaaGreatDoor
