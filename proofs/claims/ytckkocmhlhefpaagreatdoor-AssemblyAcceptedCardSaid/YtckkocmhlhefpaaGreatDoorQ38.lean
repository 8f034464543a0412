import Derived.Test.YtckkocmhlhefpaaGreatDoorQ37
namespace Go.Proofs.YtckkocmhlhefpaaGreatDoor
open Go.RowKit Go.Maps
set_option linter.unusedVariables false
set_option maxRecDepth 100000
set_option maxHeartbeats 2000000
open AscS renaming nodup->bg
open Ct renaming txt->ba
open Go renaming World->aj,Addr->am,Calls->au
open Go.Proofs.Tryz renaming prog->aw
open IntKind renaming i64->af
open Ne renaming symm->ay
open Obj renaming cells->ao
open Prod renaming fst->bb
open Value renaming string->ab,int->ae,slice->ag,agg->ap,pointer->az
open _root_ renaming List->B,ByteArray->H,Nat->a0,Int->ad,Option->ak,congrArg->al
open _root_.List renaming mem_map_of_mem->aq,mem_of_getElem?->ar,length_map->ax,getElem?_of_mem->bc,length->bd,map_map->be,mem_of_mem_take->bf,Nodup->bh,getElem?_map->bi,length_append->bj,pairwise_map->bm,take_length->bn
open _root_.List.Pairwise renaming imp_of_mem->bp
open _root_.Nat renaming le_refl->bo
open _root_.Option renaming some->ah,none->ai
variable{v:Value}{k u o n tb:a0}{L ds:B Dev}{i:H}{O:B ArrM}{M:B Vir}{ct:ad->H}{ix:ad}{w w' D W:aj}{S:a0->Prop}{T:TypeId}{F:B Value}{cs:Array Value}
structure SmR (ds:B Dev)(r:ad)(S:B Src)(M:B Vir)(G:B (H×H)):Prop where
 m:∀ s∈S,s.d∈ds/\s.o.size<=1000000
 s:S.length<=700
 v:M.length<=10000
 g:G.length<=10000
theorem zPU (c:RC)(O:aj)(R:a0)(ds:B Dev)(tx:Dev->H)(E a9:B H)(hB:RB c O R ds tx E a9)(I:ad->B Src->B Vir->B (H×H)->Prop)
  (hI:∀ r S M u U y V,I r S M u->NextR ds tx E a9 c.C r S M u U y V->M.length<y.length->I (r+1) U y V) (hb:∀ r S M u,I r S M u->SmR ds r S M u)
  (sa:ak am) (sc:a0) (ma:ak am) (mc:a0) (S:B Src) (M:B Vir) (u:B (H×H)) (w:aj) (Y:Fr (From (O:a0)) O w) (h:RS c w sa sc ma mc S M u) (h1:I 1 S M u):
  au aw 27 #[az (ah ⟨c.xb,0,ai⟩)] w λe w'=>(e=.returned (az (ah ⟨c.xb,0,ai⟩))/\∃ r S M u U y V A D F J,I r S M u/\NextR ds tx E a9 c.C r S M u U y V/\¬ M.length<(y:B Vir).length/\RS c w' A D F J U y V)/\Fr (From (O:a0)) O w':=by
 have HB:=zh hB;have HI:=zh hI;have Hb:=zh hb;have HS:=zg3 h Y h1;clear hB hI hb h Y h1
 go_enter Tryz.func27,Tryz.ntmps27
 go_wp2_with fail
 go_loopw [3] (λx wr=>∃ (r:ad) (S:B Src) (M:B Vir) (u:B (H×H)) (A:ak am) (D:a0) (F:ak am) (J:a0),x=ae af r/\Hid (1<=r/\r<=M.length+1/\I r S M u)/\Hid (RS c wr A D F J S M u)/\Hid (Fr (From (O:a0)) O wr)) (λx _=>10002-(intOf x).toNat)
 case atStart=>exact⟨1,S,M,u,sa,sc,ma,mc,rfl,⟨by omega,by omega,HS.out.2.2⟩,HS.out.1,HS.out.2.1⟩
 case round=>
  obtain⟨r,Sr,Z,Gr,A,D,F,J,rfl,HX,HR,HF⟩:=hrel;have o:=Hb.out _ _ _ _ HX.out.2.2;have b2:=HX.out.1;have b3:=HX.out.2.1;have hv:=o.v;have hn:=zO4 c O R ds tx E a9 HB.out A D F J Sr Z Gr r wr HF.out HR.out o.m (by have:=o.s;omega) o.s o.v o.g;have b4:=zh o;clear o
  go_wp2_with fail
  refine hn.mono ?_;rintro e w1 ⟨⟨U,y,V,a2,a3,a4,a5,rfl,a6,a7⟩,a8⟩;have z:=zg3 a6 a7 a8;clear hn a6 a7 a8;by_cases N:Z.length<y.length
  .have hd:decide (Z.length<y.length)=true:=decide_eq_true N;rw[hd];have X:=HI.out _ _ _ _ _ _ _ HX.out.2.2 z.out.2.1 N;have b5:=(Hb.out _ _ _ _ X).v;have b0:=zh X;clear X hd
   go_wp2_with fail
   go_roundw
   case rel=>exact⟨r+1,U,y,V,a2,a3,a4,a5,by first|rfl|(go_num;done)|(simp;done),⟨by omega,by omega,b0.out⟩,z.out.1,z.out.2.2⟩
   case measure=>simp[intOf];omega
  .have hd:decide (Z.length<y.length)=false:=decide_eq_false N;rw[hd];have b1:=zh N;clear hd N
   go_wp2_with fail
   go_ret;exact⟨⟨rfl,r,Sr,Z,Gr,U,y,V,a2,a3,a4,a5,HX.out.2.2,z.out.2.1,b1.out,z.out.1⟩,z.out.2.2⟩
theorem zHT (a ra Y ea:ak am)(u rc Z ec v:a0)(wt:ad)(ds:B Dev)(L:B Rec)(tx:Dev->H)(E z:B H)(w:aj)(hl:Tr w v a u ds)(hn:ds.length<=250)(hr:Recs w ra rc L)
  (o:Env w) (a2:Strs w ea ec E) (a3:Strs w Y Z z) (d2:z.length<=1000000) (a4:∀ x∈z,x.size<=maxLen) (a5:TxS w (w:a0) tx ds)
  (I:ad->B Src->B Vir->B (H×H)->Prop)
  (hI:∀ r S M F U D V,I r S M F->NextR ds tx E z (cntL ds L 0 ds) r S M F U D V->M.length<D.length->I (r+1) U D V) (hb:∀ r S M F,I r S M F->SmR ds r S M F)
  (h1:I 1 ((cntL ds L 0 ds).filter λs=>!virB ds s.d.index) [] []):
  au aw 11 #[ap #[ag a ds.length u],ag ra L.length rc,ap #[ag Y z.length Z,ae af wt],ag ea E.length ec] w λe w'=>
   (∃ ma mc r S M F U D V,e=.returned (ag ma (D:B Vir).length mc)/\Virs w' ma mc D/\(∀ J,ma=ah J->(w:a0)<=J.block/\∃ x,w'.heap[J.block]?=ah (ao x 97 (0,0)))/\I r S M F/\NextR ds tx E z (cntL ds L 0 ds) r S M F U D V/\¬ M.length<D.length)/\Fr No w w':=by
 obtain⟨y,a6,A,b1,N⟩:=zw w (ao #[ag a ds.length u] 47) (ao #[ag Y z.length Z,ae af wt] 41);have s0:=A.size;have a7:=zOO a ra Y ea u rc z.length Z E.length ec v wt ds L y (hl.no A) hn (hr.no A (λ_=>id)) (o.no A).err ⟨by have:=(o.no A).sz;omega,by have:=(o.no A).sz;omega⟩;have d3:Hid (∀ ca cc N,RB ⟨Y,z.length,Z,wt,a,ds.length,u,ea,E.length,ec,ca,cc,cntL ds L 0 ds,(y:a0)+2,(y:a0)+3,(y:a0)+4,(y:a0),N⟩ y v ds tx E z):=λca cc N=>by
  refine⟨rfl,o.no A,hl.no A,rfl,hn,a2.no A (λ_=>id),rfl,a3.no A (λ_=>id),rfl,d2,a4,?_,λs hs=>?_,?_⟩
  .intro d hd;obtain⟨l,g1,g2,g3,g4,g5⟩:=a5 d hd;exact⟨l,g1.no A (λ_=>id),g2,g3,g4,λJ e d4=>Nat.lt_of_lt_of_le (g5 J e d4) s0⟩
  .have:=zCf ds L ds 0 s hs;refine⟨this.1,?_,by omega⟩;rw[this.2.1];have:=zBg hl.wf.ok hn s.d.index;omega
  .exact Nat.le_trans (zCg ds L ds 0) hn
 have t1:y.cell? ⟨w,0,ai⟩=ah (ag a ds.length u):=zB b1 0;obtain⟨t2,t3⟩:=cl2 N;have d5:=zh A;have HI:=zh hI;have Hb:=zh hb;have H1:=zh h1;clear hl hr o a2 a3 a5 hI hb h1 b1 N A a4
 go_enter Tryz.func11,Tryz.ntmps11
 go_upto_region 1 with(fail)
 rw[<-a6];clear a6
 go_wp2_with fail
 refine a7.mono ?_;rintro e w1 ⟨⟨ca,cc,N,rfl,X,a8⟩,b3⟩;obtain⟨c,hc⟩:∃ c:RC,c=⟨Y,z.length,Z,wt,a,ds.length,u,ea,E.length,ec,ca,cc,cntL ds L 0 ds,(y:a0)+2,(y:a0)+3,(y:a0)+4,(y:a0),N⟩:=⟨_,rfl⟩
 have b4:=zh (d3.out ca cc N);have b5:(y:a0)+4=c.xb:=by rw[hc]
 have HC:Hid (c.C=cntL ds L 0 ds):=by rw[hc];rfl
 have d6:Hid (c.b0=(y:a0)):=by rw[hc];rfl
 have O:c.b2<=(w1:a0):=by rw[hc];exact a8
 rw[<-hc]at X b4;obtain⟨sa,sc,ma,mc,hR⟩:=X.rs O;have R:=zPU c y v ds tx E z b4.out I (by rw[HC.out];exact HI.out) Hb.out sa sc ma mc _ [] [] w1 (b3.mono zn) hR H1.out;rw[b5];clear hc b5 a7 X hR t1 t2 t3 a8 O b3
 go_wp2_with fail
 refine R.mono ?_;rintro e w2 ⟨⟨rfl,r,S,M,F,U,D,V,e1,e2,d7,d8,hi,b6,b7,hR⟩,b8⟩;have k8:w2.cell? ⟨c.xb,8,ai⟩=ah (ag d7 D.length d8):=zB hR.k 8;obtain⟨a9,c9,d9,b9,d0⟩:=Virs.of_own hR.mo;cases d9;have HV:=zg2 b9 d0;have e0:=zh (zAG hR.mo);have HN:Hid (NextR ds tx E z (cntL ds L 0 ds) r S M F U D V):=by rw[<-HC.out];exact b6
 have d1:=zg2 hi b7;have HF:=zh (d5.out.step b8 (λb hb h=>by omega));clear R hi b6 b7 hR b8 b9 d0
 go_wp2_with fail
 go_ret;exact⟨⟨_,_,r,S,M,F,U,D,V,rfl,HV.out.1,λJ e=>⟨by have:=HV.out.2 J e;rw[d6.out]at this;omega,e0.out J e⟩,d1.out.1,HN.out,d1.out.2⟩,HF.out⟩
def Grow (P:Vir->Prop)(M M':B Vir):Prop:=∃ N,M'=M++N/\(∀ v∈N,P v)/\(DistP M->DistP M')
section
variable {P:Vir->Prop}{M M' M'':B Vir}
theorem Grow.refl: Grow P M M:=⟨[],by simp,by simp,id⟩
theorem Grow.trans (h:Grow P M M')(u:Grow P M' M''):Grow P M M'':=by
 obtain⟨N,rfl,y,z⟩:=h;obtain⟨A,rfl,D,F⟩:=u;refine⟨N++A,by rw[List.append_assoc],λv o=>?_,λh=>F (z h)⟩;rcases List.mem_append.1 o with o|o
 .exact y v o
 .exact D v o
theorem Grow.one {v:Vir}(h:P v):Grow P M (zAE M v):=by
 unfold zAE;cases e:inW M v.q v.o with
 | true=>exact Grow.refl
 | false=>
  rw[if_neg (by simp)];refine⟨[v],rfl,by simpa using h,λA=>?_⟩;unfold DistP;rw[List.pairwise_append];refine⟨A,by simp,λx D y z u=>?_⟩;simp at z;subst z;unfold inW at e;rw[List.any_eq_false]at e;exact e x D (by simpa using u)
theorem Grow.all : ∀ {V:B Vir} {M:B Vir},(∀ v∈V,P v)->Grow P M (zr M V)
 | [],_,_=>Grow.refl
 | v::t,M,h=>(Grow.one (h v (by simp))).trans (Grow.all λx o=>h x (by simp[o]))
end
structure NewV (S:B Src)(r:ad)(v:Vir):Prop where
 ok:VOk v
 r:v.r=r
 q:v.q≠⟨#[]⟩->∃ s∈S,s.d.parent=0/\v.q=pathOf [s.d.orig]
def Known (ds:B Dev)(tx:Dev->H):Prop:=∀ d∈ds,InU (tx d)/\(d.parent≠0->NoTab (tx d))/\(d.parent=0->d.orig∈rootN/\plc ds d.index=pathOf [d.orig])
def SrcOk (ds:B Dev)(S:B Src):Prop:=∀ s∈S,s.d∈ds/\s.o=plc ds s.d.index
section
variable {ds:B Dev}{tx:Dev->H}{E K:B H}{r:ad}{S:B Src}
theorem zOc (R:Known ds tx)(U:SrcOk ds S){s:Src}(F:s∈S):∀ v∈pwL s.o s.d (tx s.d) r,NewV S r v:=by
 intro v h;obtain⟨V,X⟩:=U s F;obtain⟨Y,Z,h3⟩:=R s.d V;unfold pwL at h;cases hc:parseC (tx s.d)with
 | none=>rw[hc]at h;simp at h
 | some c=>
  rw[hc]at h;dsimp only at h;split at h
  .rename_i I;obtain⟨y,_⟩:=Y.parse hc (by omega);have u:s.d.parent=0:=by
    by_cases e:s.d.parent=0
    .exact e
    .exact absurd I.1 (Z e c hc)
   obtain⟨hn,z⟩:=h3 u;obtain⟨J,A⟩:=zPN y I.1;unfold pwF at h;obtain⟨i,D,h⟩:=List.mem_flatMap.1 h;rw[List.mem_range]at D;unfold zAZ at h;split at h
   .rw[List.mem_singleton]at h;subst h;have N:((c.inner.map ba)[i]?.getD ⟨#[]⟩)=c.inner[i].txt:=by rw[bi,List.getElem?_eq_getElem D];rfl
    obtain⟨g1,g2⟩:=A c.inner[i] (List.getElem_mem D);have O:s.o=pathOf [s.d.orig]:=by rw[X,z]
    refine⟨⟨?_,.inr ⟨s.d.orig,hn,O,?_,?_⟩⟩,rfl,λ_=>⟨s,F,u,O⟩⟩
    .show InU ((c.inner.map ba)[i]?.getD ⟨#[]⟩)
     rw[N];exact g1
    .show partT s.d.orig ((i:ad)+1)∈parN s.d.orig
     unfold parN;have:i=0\/i=1:=by omega
     rcases this with rfl|rfl
     .simp
     .simp
    .show NoTab ((c.inner.map ba)[i]?.getD ⟨#[]⟩)
     rw[N];exact g2
   .simp at h
  .simp at h
theorem zJR (v:Known ds tx)(y:SrcOk ds S)(M:B Vir)(k:a0):Grow (NewV S r) M (wantS tx S M r k):=by
 unfold wantS;have u:∀ (l:B Src) (M:B Vir),(∀ s∈l,s∈S)->Grow (NewV S r) M (l.foldl (λM s=>zr M (pwL s.o s.d (tx s.d) r)) M):=by
  intro l
  induction l with
  | nil=>intro M _;exact Grow.refl
  | cons s t z=>
   intro M h;exact(Grow.all (zOc v y (h s (by simp)))).trans (z _ λx A=>h x (by simp[A]))
 exact u _ M λs D=>bf D
theorem zFT {k:ad}(D:k≠0){y:H->ad->Ct->Mem}(F:Known ds tx)(I:SrcOk ds S){L:B Mem}(h:L.map Mem.k=S.filterMap (λs=>ofK k y s.o s.r (tx s.d))){m:Mem}(J:m∈L):∃ s∈S,∃ c∈ctsL,c.kind=k/\m.k=y s.o s.r c:=by
 have z:m.k∈L.map Mem.k:=aq J;rw[h]at z;obtain⟨s,A,u⟩:=List.mem_filterMap.1 z;unfold ofK at u;cases hc:parseC (tx s.d)with
 | none=>rw[hc]at u;cases u
 | some c=>
  rw[hc]at u;simp only at u;split at u
  .rename_i N;obtain⟨v,_⟩:=(F s.d (I s A).1).1.parse hc (by omega);exact⟨s,A,c,v,N,(Option.some.inj u).symm⟩
  .cases u
theorem zFd {c:Ct}(o:c∈ctsL){l:B H}(h:l=c.inner.map ba)(i:a0):InU (l[i]?.getD ⟨#[]⟩):=by
 rw[h,bi];cases e:c.inner[i]? with
 | none=>exact zBj
 | some x=>exact zGc o (ar e)
theorem zGV (l:B H):l.headD ⟨#[]⟩=l[0]?.getD ⟨#[]⟩:=by cases l<;>rfl
theorem zNo (h:i=⟨#[114]⟩\/i=⟨#[115]⟩):mdT++i∈rootN:=by
 rcases h with rfl|rfl
 .exact ar (i:=4) (by kernel_rfl)
 .exact ar (i:=5) (by kernel_rfl)
theorem zKC (h:i=⟨#[99]⟩\/i=⟨#[100]⟩):openT++i∈rootN:=by
 rcases h with rfl|rfl
 .exact ar (i:=6) (by kernel_rfl)
 .exact ar (i:=7) (by kernel_rfl)
theorem zNp (h:k=0\/k=1):lvT ⟨#[118]⟩ ((k:ad)+1)∈rootN:=by
 rcases h with rfl|rfl
 .exact ar (i:=8) (by kernel_rfl)
 .exact ar (i:=9) (by kernel_rfl)
theorem zIc {h:Mem->Bool}{P:H->B H->Prop}{L:B Mem}{u:B H}(v:IsIds2 (zv h L) u)(I:O.map ArrM.toArr=u.map (buildA (zv h L)))(hL:∀ m∈L,P m.i m.l){o:ArrM}(J:o∈O):o.i∈u/\(∃ m∈L,m.i=o.i)/\(o.l=[]\/∃ m∈L,m.i=o.i/\o.l=m.l):=by
 have A:o.toArr∈O.map ArrM.toArr:=aq J;rw[I]at A;obtain⟨y,D,F⟩:=List.mem_map.1 A;have z:o.i=y:=by rw[<-F];rfl
 have N:o.l=(zAX (zv h L) y).l:=by rw[<-F];rfl
 obtain⟨s,R⟩:=(v.mem y).1 D;obtain⟨x,U⟩:=Option.isSome_iff_exists.1 R;obtain⟨V,-,X⟩:=zAk L _ _ U;refine⟨by rw[z];exact D,⟨x,V,by rw[z];exact al bb X⟩,?_⟩;rw[N];unfold zAX;cases hq:zv h L (y,zAw (zv h L) y)with
 | none=>left;rfl
 | some m=>
  obtain⟨Y,-,Z⟩:=zAk L _ _ hq;exact .inr ⟨m,Y,by rw[z];exact al bb Z,rfl⟩
theorem zJM {P:Vir->Prop}(h:∀ m∈O,P (mdOf m.i m.l r))(x:B Vir×B (H×H))(k:a0):Grow P x.1 (arrAll ds E r x O k).1:=by
 unfold arrAll;have o:∀ (l:B ArrM) (x:B Vir×B (H×H)),(∀ m∈l,m∈O)->Grow P x.1 (l.foldl (zA0 ds E r) x).1:=by
  intro l
  induction l with
  | nil=>intro x _;exact Grow.refl
  | cons m t v=>
   intro x u;have z:Grow P x.1 (zA0 ds E r x m).1:=by
    unfold zA0;split
    .split
     .exact Grow.refl
     .exact Grow.one (h m (u m (by simp)))
    .exact Grow.refl
   exact z.trans (v _ λy A=>u y (by simp[A]))
 exact o _ x λm D=>bf D
theorem zI9 {P:Vir->Prop}(h:∀ m∈O,∀ v∈wantL m.i m.t m.n m.l r,P v)(x:B Vir×B (H×H))(k:a0):Grow P x.1 (grpAll r x O k).1:=by
 unfold grpAll;have o:∀ (l:B ArrM) (x:B Vir×B (H×H)),(∀ m∈l,m∈O)->Grow P x.1 (l.foldl (zAb r) x).1:=by
  intro l
  induction l with
  | nil=>intro x _;exact Grow.refl
  | cons m t z=>
   intro x u;have A:Grow P x.1 (zAb r x m).1:=by
    unfold zAb;split
    .split
     .exact Grow.refl
     .exact Grow.all (h m (u m (by simp)))
    .exact Grow.refl
   exact A.trans (z _ λy D=>u y (by simp[D]))
 exact o _ x λm F=>bf F
theorem zHH (x:B Vir×B (H×H))(O:B ArrM)(k:a0):(grpAll r x O k).2.length<=x.2.length+O.length:=by
 unfold grpAll;have h:∀ (l:B ArrM) (x:B Vir×B (H×H)),(l.foldl (zAb r) x).2.length<=x.2.length+l.length:=by
  intro l
  induction l with
  | nil=>intro x;simp
  | cons m t o=>
   intro x;have u:(zAb r x m).2.length<=x.2.length+1:=by
    unfold zAb;split
    .split<;>simp
    .simp
   have:=o (zAb r x m);rw[List.foldl_cons,List.length_cons];omega
 have u:=h (O.take k) x;have v:(O.take k).length<=O.length:=by rw[List.length_take];omega
 omega
theorem zHV (x:B Vir×B (H×H))(O:B ArrM):(arrAll ds E r x O O.length).2.length<=x.2.length+O.length:=(zC9 ds E r x O O.length).2
theorem zE8 {o c:H}(u:o∈rootN)(v:InU c):NewV S r ⟨⟨#[]⟩,o,c,r⟩:=⟨⟨v,.inl ⟨rfl,u⟩⟩,rfl,λh=>absurd rfl h⟩
theorem zH1 {C S':B Src}{M':B Vir}{a5 G':B (H×H)}(hU:Known ds tx)(hS:SrcOk ds S)(h:NextR ds tx E K C r S M a5 S' M' G'):Grow (NewV S r) M M'/\G'.length<=a5.length+3:=by
 obtain⟨⟨M3,G2,L4,O,J,⟨L2,R,U,M2,L3,D,e2,i2,o2,a2,e3,i3,a3⟩,e4,i4,o4,a4⟩,-⟩:=h;have f2:∀ m∈L2,(m.i=⟨#[114]⟩\/m.i=⟨#[115]⟩)/\∃ c∈ctsL,m.l=c.inner.map Ct.txt:=λm u=>by
  obtain⟨s,N,c,y,V,e⟩:=zFT (by decide) hU hS e2 u;have A:m.i=c.id:=al Mem.i e;have z:m.l=c.inner.map Ct.txt:=al Mem.l e;exact⟨by rw[A];exact zPQ y V,c,y,z⟩
 have f3:∀ m∈L3,(m.i=⟨#[99]⟩\/m.i=⟨#[100]⟩)/\∃ c∈ctsL,m.l=c.inner.map Ct.txt:=λm u=>by
  obtain⟨s,N,c,y,V,e⟩:=zFT (by decide) hU hS e3 u;have A:m.i=c.id:=al Mem.i e;have z:m.l=c.inner.map Ct.txt:=al Mem.l e;exact⟨by rw[A];exact zPP y V,c,y,z⟩
 have f4:∀ m∈L4,m.i=⟨#[118]⟩/\m.l.length<=2/\∃ c∈ctsL,m.l=c.inner.map Ct.txt:=λm u=>by
  obtain⟨s,N,c,y,V,e⟩:=zFT (by decide) hU hS e4 u;have A:m.i=c.id:=al Mem.i e;have z:m.l=c.inner.map Ct.txt:=al Mem.l e;have h3:=zPO y V;exact⟨by rw[A];exact h3.1,by rw[z,ax];exact h3.2,c,y,z⟩
 have a9:U.length<=2:=by
  have A:U.length=R.length:=by have:=al bd o2;simpa using this
  have z:=zBV (m:=[(⟨#[114]⟩:H),⟨#[115]⟩]) (bg i2.asc) λx X=>by
   obtain⟨s,N⟩:=(i2.mem x).1 X;obtain⟨m,u⟩:=Option.isSome_iff_exists.1 N;obtain⟨g1,-,Y⟩:=zAk L2 _ _ u;have Z:m.i=x:=al bb Y;have:=(f2 m g1).1;rw[Z]at this
   simpa using this
  rw[A];exact z
 have b0:J.length<=1:=by
  have A:J.length=O.length:=by have:=al bd o4;simpa using this
  have z:=zBV (m:=[(⟨#[118]⟩:H)]) (bg i4.asc) λx X=>by
   obtain⟨s,N⟩:=(i4.mem x).1 X;obtain⟨m,u⟩:=Option.isSome_iff_exists.1 N;obtain⟨g1,-,Y⟩:=zAk L4 _ _ u;have Z:m.i=x:=al bb Y;have:=(f4 m g1).1;rw[Z]at this
   simpa using this
  rw[A];exact z
 have Y:∀ m∈U,NewV S r (mdOf m.i m.l r):=λo ho=>by
  obtain⟨_,⟨m,u,hi⟩,hl⟩:=zIc (P:=λ_ _=>True) i2 o2 (λ_ _=>trivial) ho;refine zE8 (zNo (by rw[<-hi];exact(f2 m u).1)) ?_;rcases hl with e|⟨m',F,_,e⟩
  .rw[e];exact zBj
  .obtain⟨c,y,e'⟩:=(f2 m' F).2;rw[zGV,e];exact zFd y e' 0
 have g4:∀ m∈J,∀ v∈wantL m.i m.t m.n m.l r,NewV S r v:=λo ho v I=>by
  obtain⟨_,⟨m,u,hi⟩,hl⟩:=zIc (P:=λ_ _=>True) i4 o4 (λ_ _=>trivial) ho;have a6:o.i=⟨#[118]⟩:=by rw[<-hi];exact(f4 m u).1
  unfold wantL at I;split at I
  .unfold wantF at I;obtain⟨i,a7,rfl⟩:=List.mem_map.1 I;have b1:=List.mem_range.1 (List.mem_filter.1 a7).1;have a8:o.l.length<=2/\InU (o.l[i]?.getD ⟨#[]⟩):=by
    rcases hl with e|⟨m',F,_,e⟩
    .rw[e];exact⟨by simp,zBj⟩
    .obtain⟨A,z,c,y,e'⟩:=f4 m' F;rw[e];exact⟨z,zFd y e' i⟩
   refine zE8 ?_ a8.2;rw[a6];exact zNp (by omega)
  .cases I
 have Z:∀ v∈(opened D K).map (virOf L3 r),NewV S r v:=λv I=>by
  obtain⟨x,X,rfl⟩:=List.mem_map.1 I;have A:x∈D:=(List.mem_filter.1 X).1;obtain⟨m,u⟩:=Option.isSome_iff_exists.1 ((i3.mem x).1 A);obtain⟨z,-,h3⟩:=zCp L3 _ _ u;have h4:m.i=x:=zB3 (l:=[m.i]) (l':=[x]) (by simp[h3]) |> λh=>by injection h
  obtain⟨h5,c,y,h6⟩:=f3 m z;refine zE8 (zKC (by rw[<-h4];exact h5)) ?_;unfold zKX;rw[u];show InU (m.l.headD ⟨#[]⟩)
  rw[zGV];exact zFd y h6 0
 have q1:=zJR (r:=r) hU hS M S.length;have q2:=zJM (ds:=ds) (E:=E) Y (wantS tx S M r S.length,a5) U.length;rw[<-a2]at q2;have q3:Grow (NewV S r) M2 M3:=by rw[a3];exact Grow.all Z
 have q4:=zI9 g4 (M3,G2) J.length;rw[<-a4]at q4;refine⟨((q1.trans q2).trans q3).trans q4,?_⟩;have l2:=zHV (ds:=ds) (E:=E) (r:=r) (wantS tx S M r S.length,a5) U;rw[<-a2]at l2;have l4:=zHH (r:=r) (M3,G2) J J.length;rw[<-a4]at l4;dsimp only at l2 l4;omega
end
theorem WantB.mono {N:B Vir}{d:Dev}(h:WantB M ds d):WantB (M++N) ds d:=λo=>by
 have:=h o;unfold inW at this ⊢;rw[List.any_append,this];rfl
structure MInv (ds:B Dev)(tx:Dev->H)(C:B Src)(r:ad)(S:B Src)(M:B Vir)(G:B (H×H)):Prop where
 r1:1<=r/\r<=M.length+1
 s:SrcOk ds S/\∀ s∈S,WantB M ds s.d
 sl:S.length<=C.length+M.length
 m:∀ v∈M,VOk v/\v.r<r/\(v.q≠⟨#[]⟩->∃ d∈ds,d.parent=0/\v.q=pathOf [d.orig]/\WantB M ds d)
 d:DistP M
 g:(G.length:ad)<=3*(r-1)
structure MustOk (ds:B Dev)(M:B Vir):Prop where
 v:∀ v∈M,VOk v
 d:DistP M
 q:∀ v∈M,v.q≠⟨#[]⟩->∃ d∈ds,d.parent=0/\v.q=pathOf [d.orig]/\WantB M ds d
theorem zDN (h:∀ v∈M,VOk v)(O:DistP M):M.length<=44:=by
 have u:(M.map Vir.o).Nodup:=by
  unfold bh;rw[bm];refine bp (fun {a b} R U y e=>y ?_) O;have:a.q=b.q:=by
   rcases(h a R).p with⟨V,z⟩|⟨n,A,X,D,_⟩<;>rcases(h b U).p with⟨Y,F⟩|⟨k,I,Z,J,_⟩
   .rw[V,Y]
   .rw[e]at z;have:=zCU z;rw[zBS I J]at this;cases this
   .rw[<-e]at F;have:=zCU F;rw[zBS A D]at this;cases this
   .have u:=zBS A D;rw[e,zBS I J]at u;rw[X,Z,Option.some.inj u]
  rw[this,e]
 have N:=zBV u (m:=allN) λx hx=>by
  obtain⟨v,hv,rfl⟩:=List.mem_map.1 hx;exact(h v hv).all
 rw[ax]at N;exact N
section
variable {ds:B Dev}{tx:Dev->H}{E K:B H}{r:ad}{C S S':B Src}{M M':B Vir}{G G':B (H×H)}
theorem MInv.must (h:MInv ds tx C r S M G)(F:Known ds tx)(I:NextR ds tx E K C r S M G S' M' G'):MustOk ds M':=by
 obtain⟨⟨N,rfl,z,J⟩,_⟩:=zH1 F h.s.1 I;refine⟨λv o=>?_,J h.d,λv o A=>?_⟩
 .rcases List.mem_append.1 o with o|o
  .exact(h.m v o).1
  .exact(z v o).ok
 .rcases List.mem_append.1 o with o|o
  .obtain⟨d,u,y,O,R⟩:=(h.m v o).2.2 A;exact⟨d,u,y,O,R.mono⟩
  .obtain⟨s,D,u,y⟩:=(z v o).q A;exact⟨s.d,(h.s.1 s D).1,u,y,(h.s.2 s D).mono⟩
theorem MInv.next (h:MInv ds tx C r S M G)(V:Known ds tx)(Y:SrcOk ds C)(O:(C.map λs=>s.d.orig).Nodup)(R:NextR ds tx E K C r S M G S' M' G')(Z:M.length<M'.length):MInv ds tx C (r+1) S' M' G':=by
 have F:=h.must V R;obtain⟨⟨N,rfl,hN,hD⟩,hG⟩:=zH1 V h.s.1 R;have J:∀ s∈C,againB ds tx (M++N) r s=true->WantB (M++N) ds s.d/\∃ v∈N,v.o=s.d.orig:=λs u z=>by
  unfold againB at z;cases hf:(M++N).find? (λv=>decide ((v.q,v.o)=(plc ds s.d.parent,s.d.orig)))with
  | none=>rw[hf]at z;cases z
  | some v=>
   rw[hf]at z;dsimp only at z;rw[Bool.and_eq_true,beq_iff_eq]at z;have I:=List.mem_of_find?_eq_some hf;have X:(v.q,v.o)=(plc ds s.d.parent,s.d.orig):=by simpa using List.find?_some hf
   refine⟨λ_=>List.any_eq_true.2 ⟨v,I,by simpa using X⟩,v,?_,al Prod.snd X⟩;rcases List.mem_append.1 I with I|I
   .have:=(h.m v I).2.1;omega
   .exact I
 obtain⟨_,U,_⟩:=R;have y:∀ s∈moreS ds tx (M++N) r C C.length,∃ c∈C,againB ds tx (M++N) r c=true/\s={ c with r:=r }:=λs u=>by
  unfold moreS at u;rw[bn]at u;obtain⟨c,D,rfl⟩:=List.mem_map.1 u;exact⟨c,(List.mem_filter.1 D).1,(List.mem_filter.1 D).2,rfl⟩
 refine⟨⟨by have:=h.r1;omega,by have:=h.r1;push_cast;omega⟩,⟨λs u=>?_,λs u=>?_⟩,?_,λv A=>⟨F.v v A,?_,F.q v A⟩,F.d,?_⟩
 .rcases List.mem_append.1 (U.mem_iff.1 u)with u|u
  .exact h.s.1 s u
  .obtain⟨c,D,_,rfl⟩:=y s u;exact Y c D
 .rcases List.mem_append.1 (U.mem_iff.1 u)with u|u
  .exact(h.s.2 s u).mono
  .obtain⟨c,D,z,rfl⟩:=y s u;exact(J c D z).1
 .have h1:(moreS ds tx (M++N) r C C.length).length<=N.length:=by
   have h2:((moreS ds tx (M++N) r C C.length).map λs=>s.d.orig).Nodup:=by
    unfold moreS;rw[bn,be];exact O.sublist (List.filter_sublist.map _)
   have h3:=zBV h2 (m:=N.map Vir.o) λx hx=>by
    obtain⟨s,u,rfl⟩:=List.mem_map.1 hx;obtain⟨c,D,z,rfl⟩:=y s u;obtain⟨v,A,e⟩:=(J c D z).2;rw[<-e];exact aq A
   rwa [ax,ax]at h3
  have h4:=U.length_eq;rw[bj]at h4;have:=h.sl;rw[bj];omega
 .rcases List.mem_append.1 A with A|A
  .have:=(h.m v A).2.1;omega
  .have:=(hN v A).r;omega
 .have:=h.g;omega
theorem MInv.small (h:MInv ds tx C r S M G)(y:∀ s∈S,s.o.size<=1000000)(A:C.length<=250):SmR ds r S M G:=by
 have D:=zDN (λv z=>(h.m v z).1) h.d;have:=h.sl;have:=h.g;have:=h.r1;exact⟨λs u=>⟨(h.s.1 s u).1,y s u⟩,by omega,by omega,by omega⟩
end
theorem zKT (nm:H)(o:ad)(w:aj):
  au aw 7 #[ab nm,ae af o,ab ⟨#[]⟩] w λe w'=>e=.returned (ap (ocs 1 ⟨#[]⟩ ⟨0,0,⟨#[]⟩,nm,zS,⟨#[]⟩,⟨#[]⟩,2,o,ai,0,0⟩ ⟨#[]⟩ ⟨#[]⟩))/\Fr No w w':=by
 obtain⟨U,y,F,I⟩:=zy w (ao (ocs 0 ⟨#[]⟩ ⟨0,0,⟨#[]⟩,⟨#[]⟩,⟨#[]⟩,⟨#[]⟩,⟨#[]⟩,0,0,ai,0,0⟩ ⟨#[]⟩ ⟨#[]⟩) 38);obtain⟨A,u,D,J⟩:=zy U (ao (Dev.vals ⟨0,0,⟨#[]⟩,nm,zS,⟨#[]⟩,⟨#[]⟩,2,o,ai,0,0⟩) 36);have N:=zh (D.heap I id);have V:=zh (F.step D zi);have X:=zh J;unfold Dev.vals at u;unfold ocs at y;unfold zS at u;dsimp only at y u;clear I J F D
 go_enter Tryz.func7,Tryz.ntmps7
 go_upto_region 1 with(fail)
 rw[<-y];clear y
 go_upto_region 2 with(fail)
 rw[<-u];clear u;obtain⟨c0,c1,c2,c3,c4,c5,c6,c7,c8,c9⟩:=DevB.of X.out;have O:(Tryz.prog.info? 38).map (·.size)=ah 14:=by kernel_rfl
 have Y:=Tryz.underlying38;have Z:=zh (setRow_heap A (w:a0) _ #[ae af 1,ab ⟨#[]⟩,ae af 0,ae af 0,ab ⟨#[]⟩,ab nm,ab zS,ab ⟨#[]⟩,ab ⟨#[]⟩,ae af 2,ae af o,ag ai 0 0,ab ⟨#[]⟩,ab ⟨#[]⟩] 38 (0,0) N.out);have z:Array.all (#[ae af 1,ab ⟨#[]⟩,ae af 0,ae af 0,ab ⟨#[]⟩,ab nm,ab zS,ab ⟨#[]⟩,ab ⟨#[]⟩,ae af 2,ae af o,ag ai 0 0,ab ⟨#[]⟩,ab ⟨#[]⟩]:Array Value) (·.oneCell')=true:=by simp[Value.oneCell']
 go_wp2_with (refine wpList_store_row rfl 38 _ _ rfl (w:a0) #[ae af 1,ab ⟨#[]⟩,ae af 0,ae af 0,ab ⟨#[]⟩,ab nm,ab zS,ab ⟨#[]⟩,ab ⟨#[]⟩,ae af 2,ae af o,ag ai 0 0,ab ⟨#[]⟩,ab ⟨#[]⟩] rfl rfl 38 _ N.out O rfl z ?_)
 refine bodyPost_ret (v:=ap #[ae af 1,ab ⟨#[]⟩,ae af 0,ae af 0,ab ⟨#[]⟩,ab nm,ab zS,ab ⟨#[]⟩,ab ⟨#[]⟩,ae af 2,ae af o,ag ai 0 0,ab ⟨#[]⟩,ab ⟨#[]⟩]) (results_cell_row rfl _ _ (w:a0) 38 _ (0,0) _ rfl Z.out Y rfl O) rfl ?_;have hx:Fr (Is (w:a0)) A (A.setRow (w:a0) #[ae af 1,ab ⟨#[]⟩,ae af 0,ae af 0,ab ⟨#[]⟩,ab nm,ab zS,ab ⟨#[]⟩,ab ⟨#[]⟩,ae af 2,ae af o,ag ai 0 0,ab ⟨#[]⟩,ab ⟨#[]⟩]):=⟨rfl,rfl,rfl,by simp,λb _ R=>setRow_other _ _ _ _ (λe=>R e)⟩
 exact⟨rfl,V.out.step hx (λb R h=>by omega)⟩
structure DoneP (M:B Vir)(K:B Dev)(ck:ad->H)(ix:ad):Prop where
 u:UOk K ck ix
 w:WantC M K ck
 t:∀ v∈M,There K v
 r:Roots M K
 p:0<=ix
theorem PlaP.done {I:ad}(h:PlaP M I M.length L ct){f:ad->ad}{O:B Dev}{R:ad->H}(o:SimK f L ct O R ix)(V:ix<=1000000):DoneP M O R ix:=by
 refine⟨h.u.renK o V,λd F y=>?_,λv y=>?_,λv y X=>?_,o.pos⟩
 .rw[o.eq]at F y ⊢;obtain⟨x,A,rfl⟩:=List.mem_map.1 F;have D:virB (L.map (ren f)) (f x.index)=true:=y;rw[zLP o.ren]at D;obtain⟨J,N⟩:=h.w x A D;have e:plc (L.map (ren f)) (ren f x).parent=plc L x.parent:=zCG o.ren;rw[e];exact⟨J,(o.ct x A).trans N⟩
 .obtain⟨i,U⟩:=bc y;obtain⟨d,F⟩:=h.t i v (List.getElem?_eq_some_iff.1 U).1 U;unfold There;rw[o.eq,zLA o.ren,F];exact⟨_,rfl⟩
 .obtain⟨p,Y,J,N⟩:=h.r v y X;exact⟨ren f p,by rw[o.eq];exact aq Y,by show f p.parent=0;rw[J,o.ren.z],N⟩
theorem zFw (h:∀ v∈M,VOk v):∀ v∈M,v.q.size<=100000/\v.o.size<=100000:=λv y=>by
 have u:=h v y;have D:=(zAW (zAM u.all).1).1;refine⟨?_,by omega⟩;rcases u.p with⟨e,_⟩|⟨n,z,A,_⟩
 .rw[e];decide
 .rw[A];have F:=(zAW (zAM (zB2 z)).1).1;have:pathOf [n]=(⟨#[]⟩:H)++⟨#[47]⟩++n:=rfl;rw[this,ByteArray.size_append,ByteArray.size_append];show 0+1+n.size<=_
  omega
theorem zMh (D:a0)(a:ak am)(O:a0)(ds:B Dev)(ct:ad->H)(M:B Vir)(ma:ak am)(mc:a0)(u:ad)(w:aj)(hl:Tr w D a O ds)(hU:UOk (ds.map strip) ct u)(F:MustOk ds M)(hx:0<=u/\u<=900000)(hE:Env w)(a4:TrT w a ds)(hC:CtO w ds ct)(hV:Virs w ma mc M)(a5:D<=(w:a0))
  (Q:a0->B Dev->B OpA->Prop) (a6:Q 0 (remF M ds (revR ds)).1 (setF M (remF M ds (revR ds)).1 ct (remF M ds (revR ds)).2 (remF M ds (revR ds)).1.length).2) (hQ:∀ j v L ct o L' a7 y,M[j]?=ah v->Q j L o->zCK L ct o v L' a7 y->Q (j+1) L' y):
  au aw 13 #[ap #[ag a ds.length O],ag ma M.length mc] w λe w'=>(∃ (o:B OpA) (av:ak am) (cv:a0) (a3:B Dev) (ck:ad->H) (ix:ad),KRun 44 (ds.map strip) ct u o a3 ck ix/\DoneP M a3 ck ix/\ix<=u+44/\o.length<=132/\(∃ L,Q M.length L o)/\e=.returned (ag av o.length cv)/\w'.ownsRow (w:a0) 38 14 (ag av o.length cv) o.length (opF o)/\OpsOk w' (w:a0) o)/\Fr No w w':=by
 have J:=hU.len;rw[ax]at J;have b1:=zDN F.v F.d;obtain⟨r1,R,r3,r4⟩:=zNa (M:=M) hU;have U:=R.setOk (by omega) F.v ct;have I:Roots M (remF M ds (revR ds)).1:=λv hv hq=>by
  obtain⟨d,A,h1,h2,h3⟩:=F.q v hv hq;refine⟨strip d,r4 _ (aq A) h1 λN=>?_,h1,h2⟩;have e1:virB (ds.map strip) (strip d).index=virB ds d.index:=zAn;have e2:plc (ds.map strip) (strip d).parent=plc ds d.parent:=zAJ;rw[e1]at N;rw[e2];exact h3 N
 have V:=zJp (M:=M) (ct:=ct) R.wf.ok (remF M ds (revR ds)).2 _ (bo _);have a8:PlaP M u 0 (remF M ds (revR ds)).1 (setF M (remF M ds (revR ds)).1 ct (remF M ds (revR ds)).2 (remF M ds (revR ds)).1.length).1:=by
  refine⟨(R.mono (by simp)).cont λd A=>?_,λd A hv=>⟨r3 d A hv,?_⟩,λi v hi=>by omega,I⟩
  .obtain⟨j,z⟩:=bc A;rw[V j d z];split
   .exact R.wco F.v A
   .exact R.co d A
  .obtain⟨j,z⟩:=bc A;rw[V j d z,if_pos ⟨(List.getElem?_eq_some_iff.1 z).1,hv⟩]
 refine(zHS 44 (by omega) D a O ds ct M ma mc w hl J hE a4 hC hV (by omega) F.d (zFw F.v) a5 r1 (λd A=>(hU.dv (strip d) (aq A)).1.kind) R.wf U u hx (λd A=>(hU.dv (strip d) (aq A)).2)
  (λj L c o=>PlaP M u j L c/\Q j L o) ⟨a8,a6⟩ (λj v L c o z h=>?_) (λj v L c o L' c' y z h hs=>?_)).mono ?_
 .have a9:=(List.getElem?_eq_some_iff.1 z).1;exact h.1.ok ⟨hx.1,by omega⟩ (ar z) (F.v v (ar z))
 .have a9:=(List.getElem?_eq_some_iff.1 z).1;exact⟨h.1.step ⟨hx.1,by omega⟩ F.d z (F.v v (ar z)) hs,hQ j v L c o L' c' y z h.2 hs⟩
 .rintro e w' ⟨⟨L,c,o,av,cv,⟨hP,b2,f,a3,ck,ix,X,Y,b3⟩,rfl,Z,a2⟩,b0⟩;exact⟨⟨o,av,cv,a3,ck,ix,X,hP.1.done Y (by omega),by omega,by omega,⟨L,hP.2⟩,rfl,Z,a2⟩,b0⟩
theorem zOW (o:a0)(a:ak am)(A:a0)(ds:B Dev)(ct:ad->H)(M:B Vir)(N:ak am)(O:a0)(ix:ad)(w:aj)(X:Tr w o a A ds)(z:DoneP M (ds.map strip) ct ix)(J:∀ v∈M,VOk v)(y:DistP M)(Y:ix<=1000000)(Z:Env w)(R:TrT w a ds)(hC:CtO w ds ct)(hV:Virs w N O M)(U:o<=(w:a0)):
  au aw 13 #[ap #[ag a ds.length A],ag N M.length O] w λe w'=>(∃ (av:ak am) (cv:a0),e=.returned (ag av 0 cv))/\Fr No w w':=by
 have F:=z.u.len;rw[ax]at F;have a2:=zDN J y;have V:∀ d∈ds,virB ds d.index=true->inW M (plc ds d.parent) d.orig=true/\ct d.index=wcF M (plc ds d.parent,d.orig):=λd y I=>by
  have e1:virB (ds.map strip) (strip d).index=virB ds d.index:=zAn;have e2:plc (ds.map strip) (strip d).parent=plc ds d.parent:=zAJ;have:=z.w (strip d) (aq y) (by rw[e1];exact I);rw[e2]at this;exact this
 exact zGj o a A ds ct M N O w X (by omega) Z R hC hV (by omega) y (zFw J) U (λd y=>(z.u.dv (strip d) (aq y)).1.kind) z.u.wf (z.u.setOk Y J ct) (λd y h=>(V d y h).1) (λd y h=>(V d y h).2) λv D=>by
  obtain⟨p,hp,_⟩:=z.u.parent z.r D (J v D);exact⟨⟨p,hp⟩,z.t v D⟩
theorem UOk.known {b:ad}(h:UOk (ds.map strip) ct b):Known ds (λd=>ct d.index):=λd A=>by
 have o:=aq (f:=strip) A;have v:=h.co (strip d) o;refine⟨v.1,v.2,λy=>⟨?_,?_⟩⟩
 .rcases h.pl (strip d) o with⟨_,z⟩|⟨p,u,F,z,_⟩
  .exact z
  .have:=(h.wf.ok.ix p u).1;have e:(strip d).parent=0:=y;omega
 .rw[<-zAJ];have D:=zCR h o y;exact D
theorem CtO.txs (h:CtO w ds ct)(y:∀ d∈ds,InU (ct d.index)):TxS w (w:a0) (λd=>ct d.index) ds:=λd u=>by
 obtain⟨v,z⟩:=h d u;have A:=zDQ (y d u);exact⟨_,v,z,zD8 _,by dsimp only at A ⊢;omega,λD e o=>(v.cell D e o).2.1⟩
theorem zIS (ds:B Dev)(L:B Rec):∀ (l:B Dev) (i:a0),((cntL ds L i l).map λs=>s.d).Sublist l
 | [],i=>.slnil
 | d::t,i=>by
  unfold cntL;rw[List.map_append];have h:=zIS ds L t (i+1);split
  .exact h.cons_cons d
  .exact h.cons d
theorem zOV (a R U V:ak am)(v X Y Z o:a0)(wt:ad)(ds:B Dev)(L:B Rec)(E D:B H)(ct:ad->H)(b:ad)(w:aj)(hl:Tr w o a v ds)(N:UOk (ds.map strip) ct b)(hC:CtO w ds ct)(hr:Recs w R X L)
  (F:Env w) (a2:Strs w V Z E) (a3:Strs w U Y D) (a4:D.length<=1000000) (a5:∀ x∈D,x.size<=maxLen):
  au aw 11 #[ap #[ag a ds.length v],ag R L.length X,ap #[ag U D.length Y,ae af wt],ag V E.length Z] w λe w'=>
   (∃ z O M,e=.returned (ag z (M:B Vir).length O)/\Virs w' z O M/\BlkT w' z 97/\(∀ A,z=ah A->(w:a0)<=A.block)/\MustOk ds M)/\Fr No w w':=by
 have I:=N.len;rw[ax]at I;have y:=N.known;have a6:=hC.txs λd hd=>(y d hd).1
 have a7:TreeWf ds:=hl.wf;have J:SrcOk ds (cntL ds L 0 ds):=λs u=>⟨(zCf ds L ds 0 s u).1,(zCf ds L ds 0 s u).2.1⟩
 have b2:=zCg ds L ds 0;have a8:((cntL ds L 0 ds).map λs=>s.d.orig).Nodup:=by
  have h1:((ds.map strip).map Dev.orig).Nodup:=by
   have:=N.wf.ok.nd;unfold bh at this ⊢;rw[bm]at this ⊢;exact this.imp_of_mem λha hb a9 e=>a9 (by rw[N.inj ha hb e])
  rw[be]at h1;have h2:((cntL ds L 0 ds).map λs=>s.d.orig)=((cntL ds L 0 ds).map λs=>s.d).map (Dev.orig∘strip):=by rw[be];rfl
  rw[h2];exact h1.sublist ((zIS ds L ds 0).map _)
 refine(zHT a R U V v X Y Z o wt ds L (λd=>ct d.index) E D w hl (by omega) hr F a2 a3 a4 a5 a6 (MInv ds (λd=>ct d.index) (cntL ds L 0 ds)) (λr S M b1 S' M' G' h hn b0=>h.next y J a8 hn b0) (λr S M b1 h=>h.small (λs u=>?_) (by omega)) ⟨⟨by omega,by simp⟩,⟨λs u=>J s (List.mem_filter.1 u).1,λs u hv=>?_⟩,?_,by simp,.nil,by simp⟩).mono ?_
 .rw[(h.s.1 s u).2];have:=zBg a7.ok (by omega:ds.length<=250) s.d.index;omega
 .have:=(List.mem_filter.1 u).2;rw[hv]at this;cases this
 .have:=List.length_filter_le (λs:Src=>!virB ds s.d.index) (cntL ds L 0 ds)
  simpa using this
 .rintro e w' ⟨⟨z,O,r,S,M,b1,S',M',G',rfl,hV,hF,hI,hN,_⟩,hf⟩;exact⟨⟨z,O,M',rfl,hV,λA e=>(hF A e).2,λA e=>(hF A e).1,hI.must y hN⟩,hf⟩
theorem KA.fr {N:a0}(h:KA w N u L ct ix n)(D:Fr S w w')(U:¬ S N)(O:∀ b cs T,u<=b->w.heap[b]?=ah (ao cs T (0,0))->(T=36\/T=78\/T=114)->¬ S b):KA w' N u L ct ix n:=by
 obtain⟨a,R,ds,V,X,Y,v,Z,h3,h4⟩:=h;have A:∀ d∈ds,∀ o,d.aa=ah o->¬ S o.block:=λd F o e=>by obtain⟨x,z⟩:=v.te d F o e;exact O _ _ _ ((v.tr.el d F).fresh o e) z (.inr (.inl rfl))
 have I:∀ o,a=ah o->¬ S o.block:=λo e=>by obtain⟨x,z⟩:=v.ta o e;exact O _ _ _ (v.tr.fresh o e) z (.inl rfl)
 refine⟨a,R,ds,V,X,Y,⟨D.heap v.blk U,v.tr.foot D (λb J=>?_),v.ta.fr D (λo e=>I o e),λd F=>(v.te d F).fr D (λo e=>A d F o e),v.own.elim λxs z=>⟨xs,zG z D (λb J=>?_)⟩,v.nm⟩,Z,AttOf.fr h3 D A,h4⟩
 .rcases J with⟨o,e,rfl⟩|⟨x,z,o,e,rfl⟩
  .exact I o e
  .exact A x z o e
 .have h5:=(zAD z J).1;obtain⟨o,rfl,rfl⟩:=zBU J;obtain⟨y,hy⟩:=zAG z o rfl;exact O _ _ _ h5 hy (.inr (.inr rfl))
theorem KA.low (h:KA w u o L ct ix n)(y:u<=o)(z:Fr S w w')(v:∀ b,u<=b->b<(w:a0)->¬ S b):KA w' u o L ct ix n:=by
 obtain⟨cs,A⟩:∃ cs,w.heap[u]?=ah (ao cs 60):=by
  obtain⟨a,D,ds,I,J,N,F,_⟩:=h;exact⟨_,F.blk⟩
 exact h.fr z (v u (bo _) (zC A)) λb cs T O h _=>v b (by omega) (zC h)
theorem KA.row {z D y m:a0}(h:KA w z o L ct ix n)(A:w.ownsRow D T y v m F)(u:T≠60/\T≠36/\T≠78/\T≠114)(I:Fr (λb=>v.ownBlock=ah b) w w'):KA w' z o L ct ix n:=by
 obtain⟨cs,J⟩:∃ cs,w.heap[z]?=ah (ao cs 60):=by
  obtain⟨a,N,ds,R,U,V,u,_⟩:=h;exact⟨_,u.blk⟩
 refine h.fr I (zK A J (ay u.1)) λb cs X Y h O=>zK A h ?_
 rcases O with rfl|rfl|rfl
 .exact ay u.2.1
 .exact ay u.2.2.1
 .exact ay u.2.2.2
theorem KA.no (h:KA w u o L ct ix n)(v:u<=o)(y:Fr No w w'):KA w' u o L ct ix n:=h.low v y λ_ _ _=>id
theorem KA.blk (h:KA w u o L ct ix n):∃ cs,w.heap[u]?=ah (ao cs 60):=by
 obtain⟨a,v,ds,z,A,D,y,_⟩:=h;exact⟨_,y.blk⟩
theorem EvF.own {y A:a0}(J:EvF y u W D)(h:W.ownsRow A T o v n F)(N:W.heap[y]?=ah (ao cs 60))(O:T≠60)(R:T≠114):D.ownsRow A T o v n F:=zG h J λb I U=>by
 rcases U with rfl|⟨_,z,V⟩
 .exact zK h N (ay O) I
 .exact zK h V (ay R) I
theorem EvF.bt {v:a0}(R:EvF v o W D){a:ak am}(F:BlkT W a T)(I:W.heap[v]?=ah (ao cs 60))(J:T≠60)(N:T≠114):∀ u,a=ah u->¬ (u.block=v\/(o<=u.block/\∃ x,W.heap[u.block]?=ah (ao x 114 (0,0)))):=λu e A=>by
 obtain⟨y,h⟩:=F u e;rcases A with A|⟨_,z,O⟩
 .rw[A,I]at h;injection h with h
  injection h with _ h
  exact J h.symm
 .rw[O]at h;injection h with h
  injection h with _ h
  exact N h.symm
theorem EvF.from {v:aj}(y:EvF u o W v)(z:tb<=u)(A:tb<=o):Fr (From tb) W v:=y.mono λb _ h=>by
 unfold From;rcases h with h|⟨h,_⟩<;>omega
theorem EvF.tape {v:aj}(y:EvF u o W v)(z:tb<u)(A:tb<o)(h:Tape W tb tb k):Tape v tb tb k:=h.fr y (λb D h=>by rcases h with h|⟨h,_⟩<;>omega) (λh=>by rcases h with h|⟨h,_⟩<;>omega)
theorem Env.from {o:aj}(h:Env W)(v:8<tb)(u:Fr (From tb) W o):Env o:=h.fr u (λb y h=>by omega)
theorem zD1 (F o n:a0)(L:B Dev)(ct:ad->H)(ix:ad)(w:aj)(R:KA w F o L ct ix n)(O:L.length<=1000):
  au aw 10 #[az (ah ⟨F,0,ai⟩)] w λe w'=>(∃ u D h,e=.returned (ap #[ag u (bd h) D])/\Tr w' (w:a0) u D h/\TrT w' u h/\CtO w' h ct/\h.map strip=L)/\Fr No w w':=by
 obtain⟨a,I,ds,U,V,X,v,rfl,Y,h4⟩:=R;rw[ax]at O;refine(zOt F a I ds U V X ix w v.blk v.tr.dv O (λd Z=>(v.tr.el d Z).att)).mono ?_;rintro e w' ⟨⟨u,D,h,rfl,hD,hB,hf,y⟩,J⟩;refine⟨⟨u,D,h,rfl,zNH v hD hf y (v.tr.wf.ofStrip y.strip),λb hb=>?_,AttOf.cop Y y,y.strip⟩,J⟩;rcases hb with⟨N,e,rfl⟩|⟨x,A,N,e,rfl⟩
 .obtain⟨x,A⟩:=hB N e;exact⟨x,_,A,.inl rfl⟩
 .obtain⟨z,_,hz⟩:=y.mem A;obtain⟨x,A⟩:=hz.typ N e;exact⟨x,_,A,.inr rfl⟩
theorem zGR (A o n:a0)(L:B Dev)(ct:ad->H)(ix p:ad)(u nm X c:H)(x:Dev)(w:aj)(hK:KA w A o L ct ix n)(D:UOk L ct ix)(hE:Env w)(h8:8<A)(hn:n<=50000)(I:0<=ix/\ix<=900000)(hb:o<=(w:a0))(hA:Atts w x.aa x.ac (cAtt c))(J:x.an=(cAtt c).length)
  (F:x.kind=2/\x.sub=zS/\x.ali=⟨#[]⟩/\1<=x.num/\x.num<=2000000) (hp:ParIs L u p) (y:PlcOk L (addD x ix p)) (Y:InU c) (N:p≠0->NoTab c) (v:∀ e∈L,e.orig≠x.orig/\e.num≠x.num):
  au aw 6 #[az (ah ⟨A,0,ai⟩),ap (ocs 1 u x nm X)] w λe w'=>e=.returned (.tuple #[ae af (ix+1),ae af 0])/\KA w' A o (insAt L (insK L (addD x ix p)) (strip (addD x ix p))) (updC ct (ix+1) c) (ix+1) (n+1)/\UOk (insAt L (insK L (addD x ix p)) (strip (addD x ix p))) (updC ct (ix+1) c) (ix+1)/\EvF A o w w':=by
 have O:DOk (addD x ix p):=⟨F.1,rfl,F.2.1,rfl,F.2.2.1,F.2.2.2⟩
 have z:look L (addD x ix p).index=none:=zo.2 λd hd=>by have:=(D.dv d hd).2;show d.index≠ix+1;omega
 have R:1<=(addD x ix p).index/\(addD x ix p).index<=ix+1:=by show 1<=ix+1/\ix+1<=ix+1;omega
 have Z:=D.free O y (λe U=>(v e U).1) (λe U=>(v e U).2);obtain⟨a1,a2⟩:=D.pre (by omega) O y ⟨R.1,by have:=R.2;omega⟩ z Y;obtain⟨b1,_⟩:=D.ins (b':=ix+1) (by omega) O y R z Y N Z;have V:=y.par D (by omega);exact(zMt A o n L ct ix p u nm X c x w hK hE h8 hn ⟨I.1,by omega⟩ hb hA J F.1 hp (WalkArith.wf_i64 (by have h1:0<=p/\p<=1000000:=V;omega)) a2 a1 Z b1.wf).mono λe w' h=>⟨h.1,h.2.1,b1,h.2.2⟩
theorem zHD (nm c:H)(h:ad)(w:aj)(D:InU c):
  au aw 7 #[ab nm,ae af h,ab c] w λe w'=>(∃ z A,e=.returned (ap (ocs 1 ⟨#[]⟩ ⟨0,0,⟨#[]⟩,nm,zS,⟨#[]⟩,⟨#[]⟩,2,h,z,(cAtt c).length,A⟩ ⟨#[]⟩ ⟨#[]⟩))/\Atts w' z A (cAtt c))/\Fr No w w':=by
 have N:=zDQ D;by_cases o:c.toList.isEmpty=true
 .have u:c=⟨#[]⟩:=by
   rw[ByteArray.toList_eq]at o;have v:c.data.toList=[]:=by simpa using o
   exact ByteArray.ext (Array.toList_inj.1 v)
  subst u;have F:cAtt ⟨#[]⟩=[]:=by kernel_rfl
  rw[F];refine(zKT nm h w).mono ?_;rintro e w' ⟨rfl,y⟩;exact⟨⟨ai,0,rfl,Atts.nil w'⟩,y⟩
 .have v:c.toList.isEmpty=false:=by simpa using o
  have I:cAtt c=[(zM,c)]:=by unfold cAtt;rw[if_neg o]
  rw[I];refine(zOq nm c h w v (by unfold maxLen;omega)).mono ?_;rintro e w' ⟨⟨b,rfl,J,_,_⟩,y⟩;exact⟨⟨ah ⟨b,0,ai⟩,1,rfl,J⟩,y⟩
end Go.Proofs.YtckkocmhlhefpaaGreatDoor
