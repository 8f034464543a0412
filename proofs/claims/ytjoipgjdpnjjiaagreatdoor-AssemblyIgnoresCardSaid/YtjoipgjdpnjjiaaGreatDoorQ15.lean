import Derived.Test.YtjoipgjdpnjjiaaGreatDoorQ14
namespace Go.Proofs.YtjoipgjdpnjjiaaGreatDoor
open Go.RowKit Go.Maps
set_option linter.unusedVariables false
set_option maxRecDepth 100000
set_option maxHeartbeats 8000000
open AscS renaming nodup->cx
open Ct renaming txt->cf
open Dev renaming vals->bj,zero->cg
open Fr renaming refl->bq
open Go renaming World->aq,Addr->ar,Calls->aw,Value->bi
open Go.Lib renaming decDigits->ba,hasPrefix->bg,atoiAll->da,trimPrefix->db
open Go.Proofs renaming intOf->bv
open Go.Proofs.Tryz renaming prog->ay,strings_HasPrefix->cu
open Go.RowKit renaming Hid->al
open Go.Value renaming slice->bu
open IntKind renaming i64->aj
open Ne renaming symm->br
open Obj renaming cells->am
open Prod renaming fst->cd
open Rec renaming vals->bs
open Value renaming slice->ah,int->ai,agg->au,string->bn,pointer->bw
open _root_ renaming List->B,ByteArray->a0,Nat->ab,Int->ae,Option->ao,congrArg->az,if_pos->bd,Bool->bf,absurd->bh,if_neg->bm,decide_eq_true->ce,of_decide_eq_true->dp
open _root_.Array renaming ext'->cw
open _root_.Bool renaming true->ak,false->ap
open _root_.ByteArray renaming empty->bo,ext->cn,data_append->cy
open _root_.Int renaming le_refl->cz
open _root_.List renaming mem_map_of_mem->ax,mem_of_getElem?->be,length_map->bp,filterMap_cons_none->bx,filterMap_cons_some->bz,pairwise_map->cb,getElem?_of_mem->ch,length_append->ci,map_cons->cj,mem_of_find?_eq_some->cl,take_length->cm,length->cp,map_map->cq,mem_of_mem_take->cr,Nodup->dc,drop_left->dd,eq_nil_of_length_eq_zero->de,find?_some->df,getElem?_map->dg,map_append->dh,mem_filterMap->di,pairwise_filterMap->dj
open _root_.List.Pairwise renaming imp_of_mem->dq
open _root_.Nat renaming le_refl->dk,le_trans->dl
open _root_.Option renaming some->af,none->ag,map->dm
open _root_.UInt8 renaming ofNat->dn
variable{s:Src}{k u o z n I tb bc:ab}{L ds L':B Dev}{m:Mem}{c i:a0}{O:B ArrM}{C:B Src}{M N:B Vir}{d p:Dev}{tx:Dev->a0}{r J b ix:ae}{S:ab->Prop}{f:ae->ae}{ct:ae->a0}{D:B (a0×ae×a0)}{F w w' W:aq}{T:TypeId}{cs:Array bi}
structure SmR (ds:B Dev)(r:ae)(S:B Src)(M:B Vir)(G:B (a0×a0)):Prop where
 m:∀ s∈S,s.d∈ds/\s.o.size<=1000000
 s:(S:ab)<=700
 v:(M:ab)<=10000
 g:(G:ab)<=10000
theorem zQt (c:RC)(U:aq)(V:ab)(ds:B Dev)(tx:Dev->a0)(E b0:B a0)(hB:RB c U V ds tx E b0)(I:ae->B Src->B Vir->B (a0×a0)->Prop)
  (hI:∀ r S M u X y Y,I r S M u->NextR ds tx E b0 c.C r S M u X y Y->M.length<y.length->I (r+1) X y Y) (hb:∀ r S M u,I r S M u->SmR ds r S M u)
  (sa:ao ar) (sc:ab) (ma:ao ar) (mc:ab) (S:B Src) (M:B Vir) (u:B (a0×a0)) (w:aq) (a2:Fr (From (U:ab)) U w) (h:RS c w sa sc ma mc S M u) (h1:I 1 S M u):
  aw ay 69 #[bw (af ⟨c.xb,0,ag⟩)] w λe w'=>(e=.returned (bw (af ⟨c.xb,0,ag⟩))/\∃ r S M u X y Y A F J N,I r S M u/\NextR ds tx E b0 c.C r S M u X y Y/\¬ M.length<(y:B Vir).length/\RS c w' A F J N X y Y)/\Fr (From (U:ab)) U w':=by
 have HB:=zh hB;have HI:=zh hI;have Hb:=zh hb;have HS:=zg3 h a2 h1;clear hB hI hb h a2 h1;go_enter Tryz.func69,Tryz.ntmps69;go_wp2_with fail;go_loopw [3] (λx wr=>∃ (r:ae) (S:B Src) (M:B Vir) (u:B (a0×a0)) (A:ao ar) (F:ab) (J:ao ar) (N:ab),x=ai aj r/\al (1<=r/\r<=M.length+1/\I r S M u)/\al (RS c wr A F J N S M u)/\al (Fr (From (U:ab)) U wr)) (λx _=>10002-(bv x).toNat);case atStart=>exact⟨1,S,M,u,sa,sc,ma,mc,rfl,⟨by omega,by omega,HS.2.2⟩,HS.1,HS.2.1⟩
 case round=>
  obtain⟨r,Sr,Mr,Gr,A,F,J,N,rfl,HX,HR,HF⟩:=hrel;have o:=Hb.out _ _ _ _ HX.2.2;have b3:=HX.1;have b4:=HX.2.1;have hv:=o.v;have hn:=zQS c U V ds tx E b0 HB A F J N Sr Mr Gr r wr HF HR o.m (by have:=o.s;omega) o.s o.v o.g;have b5:=zh o;clear o;go_wp2_with fail;apply hn.mono;rintro e w1 ⟨⟨X,y,Y,a3,a4,a5,a6,rfl,a7,a8⟩,a9⟩;have z:=zg3 a7 a8 a9;clear hn a7 a8 a9;by_cases O:(Mr:ab)<y.length
  .have hd:decide ((Mr:ab)<y.length)=true:=ce O;rw[hd];have Z:=HI.out _ _ _ _ _ _ _ HX.2.2 z.2.1 O;have b6:=(Hb _ _ _ _ Z).v;have b1:=zh Z;clear Z hd;go_wp2;go_roundw;case rel=>exact⟨r+1,X,y,Y,a3,a4,a5,a6,by first|rfl|(go_num;done)|(simp;done),⟨by omega,by omega,b1.out⟩,z.1,z.2.2⟩
   case measure=>simp[bv];omega
  .have hd:decide ((Mr:ab)<y.length)=false:=decide_eq_false O;rw[hd];have b2:=zh O;clear hd O;go_wp2;go_ret;exact⟨⟨rfl,r,Sr,Mr,Gr,X,y,Y,a3,a4,a5,a6,HX.2.2,z.2.1,b2,z.1⟩,z.2.2⟩
theorem zH0 (a ra ka ea:ao ar)(u rc kc ec v:ab)(wt:ae)(ds:B Dev)(L:B Rec)(tx:Dev->a0)(E z:B a0)(w:aq)(hl:Tr w v a u ds)(hn:(ds:ab)<=250)(hr:Recs w ra rc L)
  (o:Env w) (a2:Strs w ea ec E) (a3:Strs w ka kc z) (d2:(z:ab)<=1000000) (a4:∀ x∈z,x.size<=maxLen) (a5:TxS w (w:ab) tx ds)
  (I:ae->B Src->B Vir->B (a0×a0)->Prop)
  (hI:∀ r S M J X F Y,I r S M J->NextR ds tx E z (cntL ds L 0 ds) r S M J X F Y->M.length<F.length->I (r+1) X F Y) (hb:∀ r S M J,I r S M J->SmR ds r S M J)
  (h1:I 1 ((cntL ds L 0 ds).filter λs=>!virB ds s.d.index) [] []):
  aw ay 32 #[au #[ah a ds u],ah ra L rc,au #[ah ka z kc,wt],ah ea E ec] w λe w'=>
   (∃ ma mc r S M J X F Y,e=.returned (ah ma (F:B Vir).length mc)/\Virs w' ma mc F/\(∀ N,ma=af N->(w:ab)<=N.block/\∃ x,w'.heap[N.block]?=af (am x 94 (0,0)))/\I r S M J/\NextR ds tx E z (cntL ds L 0 ds) r S M J X F Y/\¬ M.length<F.length)/\Fr No w w':=by
 obtain⟨y,a6,A,b1,O⟩:=zw w (am #[ah a ds u] 48) (am #[ah ka z kc,wt] 32);have s0:=A.size;have a7:=zPi a ra ka ea u rc (z:ab) kc (E:ab) ec v wt ds L y (hl.no A) hn (hr.no A (λ_=>id)) (o.no A).err ⟨by have:=(o.no A).sz;omega,by have:=(o.no A).sz;omega⟩;have d3:al (∀ ca cc O,RB ⟨ka,(z:ab),kc,wt,a,(ds:ab),u,ea,(E:ab),ec,ca,cc,cntL ds L 0 ds,(y:ab)+2,(y:ab)+3,(y:ab)+4,(y:ab),O⟩ y v ds tx E z):=λca cc O=>by
  refine⟨rfl,o.no A,hl.no A,rfl,hn,a2.no A (λ_=>id),rfl,a3.no A (λ_=>id),rfl,d2,a4,?_,λs hs=>?_,?_⟩
  .intro d hd;obtain⟨l,g1,g2,g3,g4,g5⟩:=a5 d hd;exact⟨l,g1.no A (λ_=>id),g2,g3,g4,λN e d4=>Nat.lt_of_lt_of_le (g5 N e d4) s0⟩
  .have:=zAw ds L ds 0 s hs;refine⟨this.1,?_,by omega⟩;rw[this.2.1];have:=zBI hl.wf.ok hn s.d.index;omega
  .exact dl (zCq ds L ds 0) hn
 have t1:y ⟨w,0,ag⟩=af (ah a ds u):=zB b1 0;obtain⟨t2,t3⟩:=cl2 O;have d5:=zh A;have HI:=zh hI;have Hb:=zh hb;have H1:=zh h1;clear hl hr o a2 a3 a5 hI hb h1 b1 O A a4;go_enter Tryz.func32,Tryz.ntmps32;go_upto_region 1 with(fail)
 rw[<-a6];clear a6;go_wp2_with fail;apply a7.mono;rintro e w1 ⟨⟨ca,cc,O,rfl,Z,a8⟩,b3⟩;obtain⟨c,hc⟩:∃ c:RC,c=⟨ka,(z:ab),kc,wt,a,(ds:ab),u,ea,(E:ab),ec,ca,cc,cntL ds L 0 ds,(y:ab)+2,(y:ab)+3,(y:ab)+4,(y:ab),O⟩:=⟨_,rfl⟩
 have b4:=zh (d3 ca cc O);have b5:(y:ab)+4=c.xb:=by rw[hc]
 have HC:al (c.C=cntL ds L 0 ds):=by rw[hc];rfl
 have d6:al (c.b0=(y:ab)):=by rw[hc];rfl
 have U:c.b2<=(w1:ab):=by rw[hc];exact a8
 rw[<-hc]at Z b4;obtain⟨sa,sc,ma,mc,hR⟩:=Z.rs U;have V:=zQt c y v ds tx E z b4 I (by rw[HC];exact HI) Hb sa sc ma mc _ [] [] w1 (b3.mono zn) hR H1;rw[b5];clear hc b5 a7 Z hR t1 t2 t3 a8 U b3;go_wp2_with fail;apply V.mono;rintro e w2 ⟨⟨rfl,r,S,M,J,X,F,Y,e1,e2,d7,d8,hi,b6,b7,hR⟩,b8⟩;have k8:w2 ⟨c.xb,8,ag⟩=af (ah d7 F.length d8):=zB hR.k 8;obtain⟨a9,c9,d9,b9,d0⟩:=Virs.of_own hR.mo;cases d9;have HV:=zg2 b9 d0;have e0:=zh (zAO hR.mo);have HN:al (NextR ds tx E z (cntL ds L 0 ds) r S M J X F Y):=by rw[<-HC];exact b6
 have d1:=zg2 hi b7;have HF:=zh (d5.step b8 (λb hb h=>by omega));clear V hi b6 b7 hR b8 b9 d0;go_wp2;go_ret;exact⟨⟨_,_,r,S,M,J,X,F,Y,rfl,HV.1,λN e=>⟨by have:=HV.2 N e;rw[d6]at this;omega,e0 N e⟩,d1.1,HN,d1.2⟩,HF⟩
def Grow (P:Vir->Prop)(M M':B Vir):Prop:=∃ N,M'=M++N/\(∀ v∈N,P v)/\(DistP M->DistP M')
section
variable {P:Vir->Prop}{M M' M'':B Vir}
theorem Grow.refl: Grow P M M:=⟨[],by simp,by simp,id⟩
theorem Grow.trans (h:Grow P M M')(u:Grow P M' M''):Grow P M M'':=by
 obtain⟨N,rfl,y,z⟩:=h;obtain⟨A,rfl,F,I⟩:=u;refine⟨N++A,by rw[List.append_assoc],λv o=>?_,λh=>I (z h)⟩;rcases List.mem_append.1 o with o|o
 .exact y v o
 .exact F v o
theorem Grow.one {v:Vir}(h:P v):Grow P M (zAG M v):=by
 unfold zAG;cases e:inW M v.q v.o with
 | true=>exact Grow.refl
 | false=>
  rw[bm (by simp)];refine⟨[v],rfl,by simpa using h,λA=>?_⟩;unfold DistP;rw[List.pairwise_append];refine⟨A,by simp,λx F y z u=>?_⟩;simp at z;subst z;unfold inW at e;rw[List.any_eq_false]at e;exact e x F (by simpa using u)
theorem Grow.all : ∀ {V:B Vir} {M:B Vir},(∀ v∈V,P v)->Grow P M (zv M V)
 | [],_,_=>Grow.refl
 | v::t,M,h=>(Grow.one (h v (by simp))).trans (Grow.all λx o=>h x (by simp[o]))
end
structure NewV (S:B Src)(r:ae)(v:Vir):Prop where
 ok:VOk v
 r:v.r=r
 q:v.q≠()->∃ s∈S,s.d.parent=0/\v.q=pathOf [s.d.orig]
def Known (ds:B Dev)(tx:Dev->a0):Prop:=∀ d∈ds,InU (tx d)/\(d.parent≠0->NoTab (tx d))/\(d.parent=0->d.orig∈rootN/\plc ds d.index=pathOf [d.orig])
def SrcOk (ds:B Dev)(S:B Src):Prop:=∀ s∈S,s.d∈ds/\s.o=plc ds s.d.index
section
variable {ds:B Dev}{tx:Dev->a0}{E K:B a0}{r:ae}{S:B Src}
theorem zPv (Y:Known ds tx)(Z:SrcOk ds S)(N:s∈S):∀ v∈pwL s.o s.d (tx s.d) r,NewV S r v/\v.q≠():=by
 intro v h;obtain⟨hd,ho⟩:=Z s N;obtain⟨h1,h2,h3⟩:=Y s.d hd;unfold pwL at h;cases hc:parseC (tx s.d)with
 | none=>rw[hc]at h;simp at h
 | some c=>
  rw[hc]at h;dsimp only at h;split at h
  .rename_i O;obtain⟨z,_⟩:=h1.parse hc (by omega);have y:s.d.parent=0:=by
    by_cases e:s.d.parent=0;·exact e
    .exact bh O.1 (h2 e c hc)
   obtain⟨U,A⟩:=h3 y;obtain⟨V,F⟩:=zQn z O.1;unfold pwF at h;obtain⟨i,I,h⟩:=List.mem_flatMap.1 h;rw[List.mem_range]at I;unfold zAl at h;split at h
   .rw[List.mem_singleton]at h;subst h;have X:((c.inner.map cf)[i]?.getD ⟨#[]⟩)=c.inner[i].txt:=(by rw[dg,List.getElem?_eq_getElem I];rfl);obtain⟨g1,g2⟩:=F c.inner[i] (List.getElem_mem I);have J:s.o=pathOf [s.d.orig]:=(by rw[ho,A]);have u:partT s.d.orig ((i:ae)+1)∈parN s.d.orig:=by
     unfold parN;have:i=0\/i=1:=(by omega);rcases this with rfl|rfl
     .simp
     .simp
    refine⟨⟨⟨?_,.inr ⟨s.d.orig,U,J,u,?_⟩,zKv U u⟩,rfl,λ_=>⟨s,N,y,J⟩⟩,λe=>zFg _ (J.symm.trans e)⟩
    .show InU ((c.inner.map cf)[i]?.getD ⟨#[]⟩)
     rw[X];exact g1
    .show NoTab ((c.inner.map cf)[i]?.getD ⟨#[]⟩)
     rw[X];exact g2
   .simp at h
  .simp at h
theorem zKE (y:Known ds tx)(z:SrcOk ds S)(M:B Vir)(k:ab):Grow (NewV S r) M (wantS tx S M r k):=by
 unfold wantS;have u:∀ (l:B Src) (M:B Vir),(∀ s∈l,s∈S)->Grow (NewV S r) M (l.foldl (λM s=>zv M (pwL s.o s.d (tx s.d) r)) M):=by
  intro l
  induction l with
  | nil=>intro M _;exact Grow.refl
  | cons s t A=>
   intro M h;exact(Grow.all λv F=>(zPv y z (h s (by simp)) v F).1).trans (A _ λx I=>h x (by simp[I]))
 exact u _ M λs J=>cr J
theorem zFp {k:ae}(F:k≠0){y:a0->ae->Ct->Mem}(I:Known ds tx)(J:SrcOk ds S){L:B Mem}(h:L.map Mem.k=S.filterMap (λs=>ofK k y s.o s.r (tx s.d)))(N:m∈L):∃ s∈S,∃ c∈ctsL,tx s.d=c.txt/\c.kind=k/\m.k=y s.o s.r c:=by
 have z:m.k∈L.map Mem.k:=ax N;rw[h]at z;obtain⟨s,A,u⟩:=List.mem_filterMap.1 z;unfold ofK at u;cases hc:parseC (tx s.d)with
 | none=>rw[hc]at u;cases u
 | some c=>
  rw[hc]at u;simp only at u;split at u
  .rename_i O;obtain⟨v,U⟩:=(I s.d (J s A).1).1.parse hc (by omega);exact⟨s,A,c,v,U,O,(Option.some.inj u).symm⟩
  .cases u
theorem zF2 {c:Ct}(o:c∈ctsL){l:B a0}(h:l=c.inner.map cf)(i:ab):InU (l[i]?.getD ⟨#[]⟩):=by
 rw[h,dg];cases e:c.inner[i]? with
 | none=>exact zCm
 | some x=>exact zG5 o (be e)
theorem zGx (l:B a0):l.headD ⟨#[]⟩=l[0]?.getD ⟨#[]⟩:=by cases l<;>rfl
theorem zO2 (h:i=⟨#[114]⟩\/i=⟨#[115]⟩):mdT++i∈rootN/\isDk (mdT++i)=false:=by
 rcases h with rfl|rfl
 .exact⟨be (i:=4) (by kernel_rfl),by kernel_rfl⟩
 .exact⟨be (i:=5) (by kernel_rfl),by kernel_rfl⟩
theorem zK4 (h:i=⟨#[99]⟩\/i=⟨#[100]⟩):openT++i∈rootN/\isDk (openT++i)=false:=by
 rcases h with rfl|rfl
 .exact⟨be (i:=6) (by kernel_rfl),by kernel_rfl⟩
 .exact⟨be (i:=7) (by kernel_rfl),by kernel_rfl⟩
theorem zO3 (h:k=0\/k=1):lvT ⟨#[118]⟩ ((k:ae)+1)∈rootN/\isDk (lvT ⟨#[118]⟩ ((k:ae)+1))=false:=by
 rcases h with rfl|rfl
 .exact⟨be (i:=8) (by kernel_rfl),by kernel_rfl⟩
 .exact⟨be (i:=9) (by kernel_rfl),by kernel_rfl⟩
theorem zJK {h:Mem->bf}{P:a0->B a0->Prop}{L:B Mem}{u:B a0}(v:IsIds2 (zr h L) u)(J:O.map ArrM.toArr=u.map (buildA (zr h L)))(hL:∀ m∈L,P m.i m.l){o:ArrM}(N:o∈O):o.i∈u/\(∃ m∈L,m.i=o.i)/\(o.l=[]\/∃ m∈L,m.i=o.i/\o.l=m.l):=by
 have A:o.toArr∈O.map ArrM.toArr:=ax N;rw[J]at A;obtain⟨y,F,I⟩:=List.mem_map.1 A;have z:o.i=y:=by rw[<-I];rfl
 have U:o.l=(zAJ (zr h L) y).l:=by rw[<-I];rfl
 obtain⟨s,V⟩:=(v.mem y).1 F;obtain⟨x,X⟩:=Option.isSome_iff_exists.1 V;obtain⟨Y,-,Z⟩:=zAk L _ _ X;refine⟨by rw[z];exact F,⟨x,Y,by rw[z];exact az cd Z⟩,?_⟩;rw[U];unfold zAJ;cases hq:zr h L (y,zAY (zr h L) y)with
 | none=>left;rfl
 | some m=>
  obtain⟨g3,-,g4⟩:=zAk L _ _ hq;exact .inr ⟨m,g3,by rw[z];exact az cd g4,rfl⟩
theorem zJ8 {P:Vir->Prop}(h:∀ m∈O,mustB m.t m.e m.n (exB ds m.i) (hasS E m.i)=ak->P (mdOf m.i m.l r))(x:B Vir×B (a0×a0))(k:ab):Grow P x.1 (arrAll ds E r x O k).1:=by
 unfold arrAll;have o:∀ (l:B ArrM) (x:B Vir×B (a0×a0)),(∀ m∈l,m∈O)->Grow P x.1 (l.foldl (zAW ds E r) x).1:=by
  intro l
  induction l with
  | nil=>intro x _;exact Grow.refl
  | cons m t z=>
   intro x v;have A:Grow P x.1 (zAW ds E r x m).1:=by
    unfold zAW;split
    .rename_i u;split;·exact Grow.refl
     .exact Grow.one (h m (v m (by simp)) u)
    .exact Grow.refl
   exact A.trans (z _ λy F=>v y (by simp[F]))
 exact o _ x λm u=>cr u
theorem zJu {P:Vir->Prop}(h:∀ m∈O,∀ v∈wantL m.i m.t m.n m.l r,P v)(x:B Vir×B (a0×a0))(k:ab):Grow P x.1 (grpAll r x O k).1:=by
 unfold grpAll;have o:∀ (l:B ArrM) (x:B Vir×B (a0×a0)),(∀ m∈l,m∈O)->Grow P x.1 (l.foldl (zAQ r) x).1:=by
  intro l
  induction l with
  | nil=>intro x _;exact Grow.refl
  | cons m t z=>
   intro x u;have A:Grow P x.1 (zAQ r x m).1:=by
    unfold zAQ;split
    .split;·exact Grow.refl
     .exact Grow.all (h m (u m (by simp)))
    .exact Grow.refl
   exact A.trans (z _ λy F=>u y (by simp[F]))
 exact o _ x λm I=>cr I
theorem zHo (x:B Vir×B (a0×a0))(O:B ArrM)(k:ab):(grpAll r x O k).2.length<=x.2.length+(O:ab):=by
 unfold grpAll;have h:∀ (l:B ArrM) (x:B Vir×B (a0×a0)),(l.foldl (zAQ r) x).2.length<=x.2.length+(l:ab):=by
  intro l
  induction l with
  | nil=>intro x;simp
  | cons m t o=>
   intro x;have u:(zAQ r x m).2.length<=x.2.length+1:=by
    unfold zAQ;split;·split<;>simp
    .simp
   have:=o (zAQ r x m);rw[List.foldl_cons,List.length_cons];omega
 have u:=h (O.take k) x;have v:(O.take k).length<=(O:ab):=by rw[List.length_take];omega
 omega
theorem zH2 (x:B Vir×B (a0×a0))(O:B ArrM):(arrAll ds E r x O (O:ab)).2.length<=x.2.length+(O:ab):=(zDJ ds E r x O (O:ab)).2
theorem zFS {o:a0}(u:o∈rootN/\isDk o=ap)(v:InU c):NewV S r ⟨(),o,c,r⟩:=⟨⟨v,.inl ⟨rfl,u.1⟩,u.2⟩,rfl,λh=>bh rfl h⟩
theorem zCg {S':B Src}{M':B Vir}{a5 G':B (a0×a0)}(hU:Known ds tx)(hS:SrcOk ds S)(h:NextR ds tx E K C r S M a5 S' M' G'):Grow (NewV S r) M M'/\(G':ab)<=(a5:ab)+3:=by
 obtain⟨⟨M3,G2,L4,U,N,⟨L2,V,X,M2,L3,F,e2,i2,o2,a2,e3,i3,a3⟩,e4,i4,o4,a4⟩,-⟩:=h;have f2:∀ m∈L2,(m.i=⟨#[114]⟩\/m.i=⟨#[115]⟩)/\∃ c∈ctsL,m.l=c.inner.map Ct.txt:=λm u=>by
  obtain⟨s,O,c,y,_,Y,e⟩:=zFp (by decide) hU hS e2 u;have A:m.i=c.id:=az Mem.i e;have z:m.l=c.inner.map Ct.txt:=az Mem.l e;exact⟨by rw[A];exact zQL y Y,c,y,z⟩
 have f3:∀ m∈L3,(m.i=⟨#[99]⟩\/m.i=⟨#[100]⟩)/\∃ c∈ctsL,m.l=c.inner.map Ct.txt:=λm u=>by
  obtain⟨s,O,c,y,_,Y,e⟩:=zFp (by decide) hU hS e3 u;have A:m.i=c.id:=az Mem.i e;have z:m.l=c.inner.map Ct.txt:=az Mem.l e;exact⟨by rw[A];exact zQp y Y,c,y,z⟩
 have f4:∀ m∈L4,m.i=⟨#[118]⟩/\m.l.length<=2/\∃ c∈ctsL,m.l=c.inner.map Ct.txt:=λm u=>by
  obtain⟨s,O,c,y,_,Y,e⟩:=zFp (by decide) hU hS e4 u;have A:m.i=c.id:=az Mem.i e;have z:m.l=c.inner.map Ct.txt:=az Mem.l e;have h3:=zQo y Y;exact⟨by rw[A];exact h3.1,by rw[z,bp];exact h3.2,c,y,z⟩
 have a9:(X:ab)<=2:=by
  have A:(X:ab)=(V:ab):=by have:=az cp o2;simpa using this
  have z:=zBe (m:=[(⟨#[114]⟩:a0),⟨#[115]⟩]) (cx i2.asc) λx Z=>by
   obtain⟨s,O⟩:=(i2.mem x).1 Z;obtain⟨m,u⟩:=Option.isSome_iff_exists.1 O;obtain⟨g1,-,g2⟩:=zAk L2 _ _ u;have g3:m.i=x:=az cd g2;have:=(f2 m g1).1;rw[g3]at this
   simpa using this
  rw[A];exact z
 have b0:(N:ab)<=1:=by
  have A:(N:ab)=(U:ab):=by have:=az cp o4;simpa using this
  have z:=zBe (m:=[(⟨#[118]⟩:a0)]) (cx i4.asc) λx Z=>by
   obtain⟨s,O⟩:=(i4.mem x).1 Z;obtain⟨m,u⟩:=Option.isSome_iff_exists.1 O;obtain⟨g1,-,g2⟩:=zAk L4 _ _ u;have g3:m.i=x:=az cd g2;have:=(f4 m g1).1;rw[g3]at this
   simpa using this
  rw[A];exact z
 have g2:∀ m∈X,NewV S r (mdOf m.i m.l r):=λo ho=>by
  obtain⟨_,⟨m,u,hi⟩,hl⟩:=zJK (P:=λ_ _=>True) i2 o2 (λ_ _=>trivial) ho;refine zFS (zO2 (by rw[<-hi];exact(f2 m u).1)) ?_;rcases hl with e|⟨m',I,_,e⟩
  .rw[e];exact zCm
  .obtain⟨c,y,e'⟩:=(f2 m' I).2;rw[zGx,e];exact zF2 y e' 0
 have g4:∀ m∈N,∀ v∈wantL m.i m.t m.n m.l r,NewV S r v:=λo ho v J=>by
  obtain⟨_,⟨m,u,hi⟩,hl⟩:=zJK (P:=λ_ _=>True) i4 o4 (λ_ _=>trivial) ho;have a6:o.i=⟨#[118]⟩:=by rw[<-hi];exact(f4 m u).1
  unfold wantL at J;split at J
  .unfold wantF at J;obtain⟨i,a7,rfl⟩:=List.mem_map.1 J;have b1:=List.mem_range.1 (List.mem_filter.1 a7).1;have a8:o.l.length<=2/\InU (o.l[i]?.getD ⟨#[]⟩):=by
    rcases hl with e|⟨m',I,_,e⟩
    .rw[e];exact⟨by simp,zCm⟩
    .obtain⟨A,z,c,y,e'⟩:=f4 m' I;rw[e];exact⟨z,zF2 y e' i⟩
   refine zFS ?_ a8.2;rw[a6];exact zO3 (by omega)
  .cases J
 have g3:∀ v∈(opened F K).map (virOf L3 r),NewV S r v:=λv J=>by
  obtain⟨x,Z,rfl⟩:=List.mem_map.1 J;have A:x∈F:=(List.mem_filter.1 Z).1;obtain⟨m,u⟩:=Option.isSome_iff_exists.1 ((i3.mem x).1 A);obtain⟨z,-,h3⟩:=zCz L3 _ _ u;have h4:m.i=x:=zBP (l:=[m.i]) (l':=[x]) (by simp[h3]) |> λh=>by injection h
  obtain⟨h5,c,y,h6⟩:=f3 m z;refine zFS (zK4 (by rw[<-h4];exact h5)) ?_;unfold zIo;rw[u];show InU (m.l.headD ⟨#[]⟩)
  rw[zGx];exact zF2 y h6 0
 have q1:=zKE (r:=r) hU hS M (S:ab);have q2:=zJ8 (ds:=ds) (E:=E) (λm u _=>g2 m u) (wantS tx S M r (S:ab),a5) (X:ab);rw[<-a2]at q2;have q3:Grow (NewV S r) M2 M3:=by rw[a3];exact Grow.all g3
 have q4:=zJu g4 (M3,G2) (N:ab);rw[<-a4]at q4;refine⟨((q1.trans q2).trans q3).trans q4,?_⟩;have l2:=zH2 (ds:=ds) (E:=E) (r:=r) (wantS tx S M r (S:ab),a5) X;rw[<-a2]at l2;have l4:=zHo (r:=r) (M3,G2) N (N:ab);rw[<-a4]at l4;dsimp only at l2 l4;omega
end
theorem WantB.mono (h:WantB M ds d):WantB (M++N) ds d:=λo=>by
 have:=h o;unfold inW at this ⊢;rw[List.any_append,this];rfl
structure MInv (ds:B Dev)(tx:Dev->a0)(C:B Src)(r:ae)(S:B Src)(M:B Vir)(G:B (a0×a0)):Prop where
 r1:1<=r/\r<=(M:ab)+1
 s:SrcOk ds S/\∀ s∈S,WantB M ds s.d
 sl:(S:ab)<=(C:ab)+(M:ab)
 m:∀ v∈M,VOk v/\v.r<r/\(v.q≠()->∃ d∈ds,d.parent=0/\v.q=pathOf [d.orig]/\WantB M ds d)
 d:DistP M
 g:((G:ab):ae)<=3*(r-1)
structure MustOk (ds:B Dev)(M:B Vir):Prop where
 v:∀ v∈M,VOk v
 d:DistP M
 q:∀ v∈M,v.q≠()->∃ d∈ds,d.parent=0/\v.q=pathOf [d.orig]/\WantB M ds d
theorem zO0 (h:∀ v∈M,VOk v)(O:DistP M):(M.map Vir.o).Nodup:=by
 unfold dc;rw[cb];refine dq (fun {a b} U V u e=>u ?_) O;have:a.q=b.q:=by
  rcases(h a U).p with⟨X,y⟩|⟨n,z,Y,A,_⟩<;>rcases(h b V).p with⟨Z,F⟩|⟨k,I,k2,J,_⟩
  .rw[X,Z]
  .rw[e]at y;have:=zBc y;rw[zAh I J]at this;cases this
  .rw[<-e]at F;have:=zBc F;rw[zAh z A]at this;cases this
  .have N:=zAh z A;rw[e,zAh I J]at N;rw[Y,k2,Option.some.inj N]
 rw[this,e]
theorem zDZ (h:∀ v∈M,VOk v)(z:DistP M):(M:ab)<=30:=by
 have A:=zO0 h z;have u:=zBe A (m:=allN.filter λo=>!isDk o) λx F=>by
  obtain⟨v,y,rfl⟩:=List.mem_map.1 F;exact List.mem_filter.2 ⟨(h v y).all,by rw[(h v y).n];rfl⟩
 rw[bp]at u;exact dl u (Nat.le_of_eq (show (allN.filter λo=>!isDk o).length=30 by kernel_rfl))
section
variable {ds:B Dev}{tx:Dev->a0}{E K:B a0}{r:ae}{C S S':B Src}{M M':B Vir}{G G':B (a0×a0)}
theorem MInv.must (h:MInv ds tx C r S M G)(I:Known ds tx)(J:NextR ds tx E K C r S M G S' M' G'):MustOk ds M':=by
 obtain⟨⟨N,rfl,z,O⟩,_⟩:=zCg I h.s.1 J;refine⟨λv o=>?_,O h.d,λv o A=>?_⟩
 .rcases List.mem_append.1 o with o|o
  .exact(h.m v o).1
  .exact(z v o).ok
 .rcases List.mem_append.1 o with o|o
  .obtain⟨d,u,y,U,V⟩:=(h.m v o).2.2 A;exact⟨d,u,y,U,V.mono⟩
  .obtain⟨s,F,u,y⟩:=(z v o).q A;exact⟨s.d,(h.s.1 s F).1,u,y,(h.s.2 s F).mono⟩
theorem MInv.next (h:MInv ds tx C r S M G)(Y:Known ds tx)(hC:SrcOk ds C)(U:(C.map λs=>s.d.orig).Nodup)(V:NextR ds tx E K C r S M G S' M' G')(a2:(M:ab)<(M':ab)):MInv ds tx C (r+1) S' M' G':=by
 have I:=h.must Y V;obtain⟨⟨N,rfl,hN,hD⟩,hG⟩:=zCg Y h.s.1 V;have O:∀ s∈C,againB ds tx (M++N) r s=ak->WantB (M++N) ds s.d/\∃ v∈N,v.o=s.d.orig:=λs u z=>by
  unfold againB at z;cases hf:(M++N).find? (λv=>decide ((v.q,v.o)=(plc ds s.d.parent,s.d.orig)))with
  | none=>rw[hf]at z;cases z
  | some v=>
   rw[hf]at z;dsimp only at z;rw[Bool.and_eq_true,beq_iff_eq]at z;have J:=cl hf;have Z:(v.q,v.o)=(plc ds s.d.parent,s.d.orig):=(by simpa using df hf);refine⟨λ_=>List.any_eq_true.2 ⟨v,J,by simpa using Z⟩,v,?_,az Prod.snd Z⟩;rcases List.mem_append.1 J with J|J
   .have:=(h.m v J).2.1;omega
   .exact J
 obtain⟨_,X,_⟩:=V;have y:∀ s∈moreS ds tx (M++N) r C (C:ab),∃ c∈C,againB ds tx (M++N) r c=ak/\s={ c with r:=r }:=λs u=>by
  unfold moreS at u;rw[cm]at u;obtain⟨c,F,rfl⟩:=List.mem_map.1 u;exact⟨c,(List.mem_filter.1 F).1,(List.mem_filter.1 F).2,rfl⟩
 refine⟨⟨by have:=h.r1;omega,by have:=h.r1;push_cast;omega⟩,⟨λs u=>?_,λs u=>?_⟩,?_,λv A=>⟨I.v v A,?_,I.q v A⟩,I.d,?_⟩
 .rcases List.mem_append.1 (X.mem_iff.1 u)with u|u
  .exact h.s.1 s u
  .obtain⟨c,F,_,rfl⟩:=y s u;exact hC c F
 .rcases List.mem_append.1 (X.mem_iff.1 u)with u|u
  .exact(h.s.2 s u).mono
  .obtain⟨c,F,z,rfl⟩:=y s u;exact(O c F z).1
 .have h1:(moreS ds tx (M++N) r C (C:ab)).length<=(N:ab):=by
   have h2:((moreS ds tx (M++N) r C (C:ab)).map λs=>s.d.orig).Nodup:=by
    unfold moreS;rw[cm,cq];exact U.sublist (List.filter_sublist.map _)
   have h3:=zBe h2 (m:=N.map Vir.o) λx hx=>by
    obtain⟨s,u,rfl⟩:=List.mem_map.1 hx;obtain⟨c,F,z,rfl⟩:=y s u;obtain⟨v,A,e⟩:=(O c F z).2;rw[<-e];exact ax A
   rwa [bp,bp]at h3
  have h4:=X.length_eq;rw[ci]at h4;have:=h.sl;rw[ci];omega
 .rcases List.mem_append.1 A with A|A
  .have:=(h.m v A).2.1;omega
  .have:=(hN v A).r;omega
 .have:=h.g;omega
theorem MInv.small (h:MInv ds tx C r S M G)(y:∀ s∈S,s.o.size<=1000000)(A:(C:ab)<=250):SmR ds r S M G:=by
 have F:=zDZ (λv z=>(h.m v z).1) h.d;have:=h.sl;have:=h.g;have:=h.r1;exact⟨λs u=>⟨(h.s.1 s u).1,y s u⟩,by omega,by omega,by omega⟩
end
def keyB (ds:B Dev)(s:Src)(v:Vir):Bool:=decide ((v.q,v.o)=(plc ds s.d.parent,s.d.orig))
def agO (r:ae)(t:a0):ao Vir->bf
 | some v=>(v.r==r)&&(v.c.toList==t.toList)
 | none=>ap
theorem zHF (ds:B Dev)(tx:Dev->a0)(M:B Vir)(r:ae)(s:Src):againB ds tx M r s=agO r (tx s.d) (M.find? (keyB ds s)):=by
 unfold againB agO;rfl
def srO (s:Src)(t:a0)(r:ae):ao Vir->ao Src
 | some v=>if (decide (v.r<r)&&(v.c.toList==t.toList))=ak then af { s with r:=v.r }else ag
 | none=>ag
def srcE (ds:B Dev)(tx:Dev->a0)(M:B Vir)(r:ae)(s:Src):ao Src:=
 if virB ds s.d.index=ak then
  srO s (tx s.d) r (M.find? (keyB ds s))
 else af s
def srcF (ds:B Dev)(tx:Dev->a0)(C:B Src)(M:B Vir)(r:ae):B Src:=C.filterMap (srcE ds tx M r)
theorem zGi {f h:Src->ao Src}{p:Src->bf}{q:Src->Src}:∀ (C:B Src),(∀ s∈C,(p s=ak->f s=ag/\h s=af (q s))/\(p s=ap->h s=f s))->(C.filterMap f++(C.filter p).map q).Perm (C.filterMap h)
 | [],_=>List.Perm.refl _
 | s::C,H=>by
  have o:=zGi C λy u=>H y (by simp[u])
  obtain⟨v,z⟩:=H s (by simp);cases hp:p s with
  | true=>
   obtain⟨A,F⟩:=v hp;rw[bx A,List.filter_cons_of_pos hp,cj,bz F];exact List.perm_middle.trans (o.cons _)
  | false=>
   have e:=z hp;rw[List.filter_cons_of_neg (by simp[hp])];cases hf:f s with
   | none=>rw[bx hf,bx (e.trans hf)];exact o
   | some y=>rw[bz hf,bz (e.trans hf)];exact o.cons _
theorem zKc {y:Src}(h:srcE ds tx M r s=af y):y.at_=s.at_:=by
 unfold srcE at h;split at h
 .unfold srO at h;split at h
  .split at h;·injection h with h;rw[<-h]
   .cases h
  .cases h
 .injection h with h;rw[<-h]
theorem zMZ:∀ {C:B Src},C.Pairwise (λx y=>x.at_<y.at_)->(srcF ds tx C M r).Pairwise λx y=>x.at_<y.at_:=by
 intro C h;unfold srcF;rw[dj];exact h.imp fun {a b} o x u y v=>by rw[zKc u,zKc v];exact o
theorem zPd {X:B Src}(h:X.Pairwise λx y=>x.at_<y.at_):∀ a∈X,∀ b∈X,a.at_=b.at_->a=b:=by
 intro a F b I e;obtain⟨i,J⟩:=List.mem_iff_getElem?.1 F;obtain⟨j,N⟩:=List.mem_iff_getElem?.1 I;obtain⟨v,o⟩:=List.getElem?_eq_some_iff.1 J;obtain⟨z,u⟩:=List.getElem?_eq_some_iff.1 N;have A:=List.pairwise_iff_getElem.1 h;rcases Nat.lt_trichotomy i j with c|rfl|c
 .have:=A i j v z c;rw[o,u]at this;omega
 .rw[<-o,<-u]
 .have:=A j i z v c;rw[o,u]at this;omega
theorem zLa {k:Vir->bf}:(M++N).find? k=(M.find? k).or (N.find? k):=List.find?_append
theorem zKa {ds:B Dev}{tx:Dev->a0}{S z:B Src}{o:B Vir}(V:C.Pairwise λx y=>x.at_<y.at_)(X:∀ v∈M,v.r<r)(Y:∀ v∈N,v.r=r)(Z:o=M++N)
  (A:∀ s∈C,virB ds s.d.index=ap->againB ds tx o r s=ap) (hS:S=srcF ds tx C M r) (hp:z.Perm (S++moreS ds tx o r C (C:ab))) (hs:z.Pairwise λx y=>x.at_<=y.at_):z=srcF ds tx C o (r+1):=by
 have h1:(S++moreS ds tx o r C (C:ab)).Perm (srcF ds tx C o (r+1)):=by
  rw[hS];unfold srcF moreS;rw[cm];refine zGi C λs F=>?_
  have A:=A s F;unfold srcE;rw[zHF]at *;subst Z;rw[zLa]at *;cases hb:virB ds s.d.index with
  | false=>
   have:=A hb;refine⟨λh=>?_,λ_=>by simp⟩;rw[this]at h;cases h
  | true=>
   rw[bd rfl,bd rfl];rcases hf:M.find? (keyB ds s)with _|v
   .rcases hn:N.find? (keyB ds s)with _|v
    .simp[agO,srO]
    .have u:=Y v (cl hn);have I:(v.r==r)=true:=(by simp[u]);have J:decide (v.r<r+1)=true:=ce (by omega);simp only[Option.none_or,agO,srO,I,J,Bool.true_and];refine⟨λh=>⟨by trivial,?_⟩,λh=>?_⟩;·rw[bd h,u]
     .rw[bm (by simp[h])]
   .have u:=X v (cl hf);have I:(v.r==r)=false:=(by simp;omega);have J:decide (v.r<r)=true:=ce u;have e3:decide (v.r<r+1)=true:=ce (by omega);simp only[Option.some_or,agO,srO,I,J,e3,Bool.false_and];exact⟨λh=>by simp at h,λ_=>trivial⟩
 have O:=hp.trans h1;have U:=zMZ (ds:=ds) (tx:=tx) (M:=o) (r:=r+1) V;exact O.eq_of_pairwise (λa b h3 h4 h5 h6=>zPd U a (O.mem_iff.1 h3) b h4 (by omega)) hs (U.imp λh=>Int.le_of_lt h)
structure Kx where
 o:a0
 q:a0
 n:a0
 v:bf
 t:a0
 k:ae
def kx (ds:B Dev)(tx:Dev->a0)(s:Src):Kx:=⟨s.o,plc ds s.d.parent,s.d.orig,virB ds s.d.index,tx s.d,s.d.kind⟩
def kxB (k:Kx)(v:Vir):Bool:=decide ((v.q,v.o)=(k.q,k.n))
def kxO (r:ae)(k:Kx):ao Vir->ao (a0×ae×a0×a0×ae)
 | some v=>if (decide (v.r<r)&&(v.c.toList==k.t.toList))=ak then af (k.o,v.r,k.t,k.n,k.k)else ag
 | none=>ag
def kxF (M:B Vir)(r:ae)(k:Kx):ao (a0×ae×a0×a0×ae):=if k.v=ak then kxO r k (M.find? (kxB k))else af (k.o,0,k.t,k.n,k.k)
theorem zOf (h:s.r=0):(srcE ds tx M r s).map (sx tx)=kxF M r (kx ds tx s):=by
 unfold srcE kxF;show dm (sx tx) (if virB ds s.d.index=ak then srO s (tx s.d) r (M.find? (keyB ds s))else af s)=if virB ds s.d.index=ak then kxO r (kx ds tx s) (M.find? (keyB ds s))else af (s.o,0,tx s.d,s.d.orig,s.d.kind)
 cases virB ds s.d.index with
 | false=>rw[bm (by decide),bm (by decide)];unfold sx;rw[Option.map_some,h]
 | true=>
  rw[bd rfl,bd rfl];cases M.find? (keyB ds s)with
  | none=>rfl
  | some v=>
   show dm (sx tx) (if (decide (v.r<r)&&(v.c.toList==(tx s.d).toList))=ak then af { s with r:=v.r }else ag)=if (decide (v.r<r)&&(v.c.toList==(tx s.d).toList))=ak then af (s.o,v.r,tx s.d,s.d.orig,s.d.kind)else ag
   split<;>rfl
theorem zHQ {ds:B Dev}{tx:Dev->a0}{M:B Vir}{r:ae}:∀ {C:B Src},(∀ s∈C,s.r=0)->(srcF ds tx C M r).map (sx tx)=(C.map (kx ds tx)).filterMap (kxF M r)
 | [],_=>rfl
 | s::C,h=>by
  have o:=zHQ (ds:=ds) (tx:=tx) (M:=M) (r:=r) (C:=C) λy u=>h y (by simp[u])
  have e:=zOf (ds:=ds) (tx:=tx) (M:=M) (r:=r) (h s (by simp));unfold srcF at o ⊢;rw[cj];cases hs:srcE ds tx M r s with
  | none=>
   rw[hs]at e;rw[bx hs,bx e.symm,o]
  | some y=>
   rw[hs]at e;rw[bz hs,bz e.symm,cj,o]
theorem zQA {k:Kx}{y:a0×ae×a0×a0×ae}(h:kxF M r k=af y):y.1=k.o:=by
 unfold kxF at h;split at h
 .unfold kxO at h;split at h
  .split at h;·injection h with h;rw[<-h]
   .cases h
  .cases h
 .injection h with h;rw[<-h]
theorem zE2 {α:Type}{f:α->a0}{X Y:B α}(o:X.Pairwise λx y=>pathO (f x) (f y)<0)(u:Y.Pairwise λx y=>pathO (f x) (f y)<0)(h:∀ a,a∈X↔a∈Y):X=Y:=by
 have v:∀ {Z:B α},Z.Pairwise (λx y=>pathO (f x) (f y)<0)->Z.Nodup:=λz=>z.imp fun {a b} A e=>by
  subst e;have:=zB6.self (f a);omega
 refine((List.perm_ext_iff_of_nodup (v o) (v u)).2 h).eq_of_pairwise (λa b _ _ F I=>?_) o u;have:=zB6.turn (f a) (f b);omega
theorem zKb {ds z:B Dev}{tx u:Dev->a0}{A:B Src}{M:B Vir}{r:ae}(U:∀ s∈C,s.r=0)(F:∀ s∈A,s.r=0)
  (I:C.Pairwise λx y=>pathO x.o y.o<0) (J:A.Pairwise λx y=>pathO x.o y.o<0)
  (h:∀ y,(∃ s∈C,kxF M r (kx ds tx s)=af y)↔∃ s∈A,kxF M r (kx z u s)=af y):(srcF ds tx C M r).map (sx tx)=(srcF z u A M r).map (sx u):=by
 rw[zHQ U,zHQ F];have v:∀ {ds:B Dev} {tx:Dev->a0} {C:B Src},C.Pairwise (λx y=>pathO x.o y.o<0)->((C.map (kx ds tx)).filterMap (kxF M r)).Pairwise λx y=>pathO x.1 y.1<0:=by
  intro ds tx C I;rw[dj,cb];exact I.imp fun {a b} N x V y X=>by rw[zQA V,zQA X];exact N
 refine zE2 (f:=λx=>x.1) (v I) (v J) λy=>?_
 rw[di,di];have O:∀ {ds:B Dev} {tx:Dev->a0} {C:B Src},(∃ a,a∈C.map (kx ds tx)/\kxF M r a=af y)↔∃ s∈C,kxF M r (kx ds tx s)=af y:=by
  intro ds tx C;constructor
  .rintro ⟨a,Y,e⟩;obtain⟨s,v,rfl⟩:=List.mem_map.1 Y;exact⟨s,v,e⟩
  .rintro ⟨s,v,e⟩;exact⟨_,ax v,e⟩
 rw[O,O];exact h y
inductive Chain (ds:B Dev)(tx:Dev->a0)(E K:B a0)(C:B Src):ae->B Src->B Vir->B (a0×a0)->Prop
 | base:Chain ds tx E K C 1 (C.filter λs=>!virB ds s.d.index) [] []
 | step {r:ae} {S S':B Src} {M M':B Vir} {G G':B (a0×a0)}:Chain ds tx E K C r S M G->NextR ds tx E K C r S M G S' M' G'->(M:ab)<(M':ab)->Chain ds tx E K C (r+1) S' M' G'
structure TreeC (ds:B Dev)(tx:Dev->a0)(C:B Src):Prop where
 kn:Known ds tx
 ok:SrcOk ds C
 nd:(C.map λs=>s.d.orig).Nodup
 asc:C.Pairwise λx y=>x.at_<y.at_
 r0:∀ s∈C,s.r=0
 pa:C.Pairwise λx y=>pathO x.o y.o<0
 nv:∀ s∈C,virB ds s.d.index=ap->∀ v,VOk v->keyB ds s v=ap
section
variable {ds ds':B Dev}{tx tx':Dev->a0}{E K:B a0}{C C':B Src}{r:ae}{S S':B Src}{M M':B Vir}{G G':B (a0×a0)}
theorem Chain.inv (T:TreeC ds tx C)(h:Chain ds tx E K C r S M G):MInv ds tx C r S M G/\S=srcF ds tx C M r:=by
 induction h with
 | base=>
  refine⟨⟨⟨by omega,by simp⟩,⟨λs u=>T.ok s (List.mem_filter.1 u).1,λs u o=>?_⟩,?_,by simp,.nil,by simp⟩,?_⟩
  .have:=(List.mem_filter.1 u).2;rw[o]at this;cases this
  .have:=List.length_filter_le (λs:Src=>!virB ds s.d.index) C
   simpa using this
  .unfold srcF;rw[<-List.filterMap_eq_filter]
   congr 1
   funext s
   unfold srcE;cases hb:virB ds s.d.index<;>simp[Option.guard,hb,srO]
 | step U y z I=>
  obtain⟨A,J⟩:=I;have F:=A.next T.kn T.ok T.nd y z;refine⟨F,?_⟩;obtain⟨⟨N,e,O,_⟩,_⟩:=zCg T.kn A.s.1 y;refine zKa T.asc (λv o=>(A.m v o).2.1) (λv o=>(O v o).r) e (λs u hb=>?_) J y.2.1 y.2.2;rw[zHF,List.find?_eq_none.2 λv o=>by rw[T.nv s u hb v (F.m v o).1];decide];rfl
theorem Chain.pred (h:Chain ds tx E K C r S M G):(r=1/\M=[]/\G=[])\/∃ o y u z,r=o+1/\Chain ds tx E K C o y u z/\NextR ds tx E K C o y u z S M G/\u.length<(M:ab):=by
 cases h with
 | base=>exact .inl ⟨rfl,rfl,rfl⟩
 | step A F v=>exact .inr ⟨_,_,_,_,rfl,A,F,v⟩
theorem zKZ (h:S=srcF ds tx C M r)(F:m∈S.filterMap λs=>ofK 2 mk2 s.o s.r (tx s.d)):∃ s∈C,∃ r,ofK 2 mk2 s.o r (tx s.d)=af m:=by
 obtain⟨s,z,e⟩:=List.mem_filterMap.1 F;rw[h]at z;obtain⟨v,y,u⟩:=List.mem_filterMap.1 z;have A:s.d=v.d/\s.o=v.o:=by
  unfold srcE srO at u;split at u
  .split at u
   .split at u;·injection u with u;rw[<-u];exact⟨rfl,rfl⟩
    .cases u
   .cases u
  .injection u with u;rw[<-u];exact⟨rfl,rfl⟩
 rw[A.1,A.2]at e;exact⟨v,y,_,e⟩
theorem Chain.self (T:TreeC ds tx C)(h:Chain ds tx E K C r S M G):∀ {y u v},Chain ds tx E K C r y u v->M=u/\G=v:=by
 induction h with
 | base=>
  intro y u v z;rcases z.pred with⟨_,rfl,rfl⟩|⟨I,N,O,U,e,A,_⟩
  .exact⟨rfl,rfl⟩
  .have:=(A.inv T).1.r1;omega
 | @step r S S1 M M1 G G1 A V X Y=>
  intro y u v z;have J:=A.inv T;rcases z.pred with⟨e,_⟩|⟨I,N,O,U,e,o,F,_⟩
  .have:=J.1.r1;omega
  .obtain rfl:I=r:=by omega
   obtain⟨rfl,rfl⟩:=Y o;have Z:=o.inv T;exact zBN (by rw[J.2,Z.2]) (λ_ _=>.inr rfl) V F
end
structure Fixed (ds:B Dev)(tx:Dev->a0)(C:B Src)(W:B Vir):Prop where
 t:TreeC ds tx C
 w:∀ v∈W,∃ s∈C,virB ds s.d.index=ak/\keyB ds s v=ak/\tx s.d=v.c/\s.d.kind=2/\s.o=v.q++⟨#[47]⟩++v.o
section
variable {ds ds':B Dev}{tx tx':Dev->a0}{E K:B a0}{C C':B Src}{r:ae}{S S':B Src}{M W W':B Vir}{G G':B (a0×a0)}
theorem zIV : ∀ {C:B Src},(C.map λs=>s.d.orig).Nodup->∀ {a b:Src},a∈C->b∈C->a.d.orig=b.d.orig->a=b
 | [],_,a,b,h,_,_=>by simp at h
 | x::C,o,a,b,I,J,e=>by
  rw[cj,List.nodup_cons]at o;have u:∀ {z:Src},z∈C->z.d.orig∈C.map λs=>s.d.orig:=λh=>ax h
  rcases List.mem_cons.1 I with v|y<;>rcases List.mem_cons.1 J with A|F
  .rw[v,A]
  .exact bh (by rw[<-v,e];exact u F) o.1
  .exact bh (by rw[<-A,<-e];exact u y) o.1
  .exact zIV o.2 y F e
theorem zFx {v:Vir}(h:keyB ds s v=ak):plc ds s.d.parent=v.q/\s.d.orig=v.o:=by
 unfold keyB at h;have:=dp h;rw[Prod.mk.injEq]at this;exact⟨this.1.symm,this.2.symm⟩
def kv (v:Vir):Kx:=⟨v.q++⟨#[47]⟩++v.o,v.q,v.o,ak,v.c,2⟩
theorem Fixed.at (F:Fixed ds tx C W){v:Vir}(o:v∈W):∃ s∈C,keyB ds s v=ak/\kx ds tx s=kv v:=by
 obtain⟨s,u,y,h,z,A,I⟩:=F.w v o;obtain⟨J,N⟩:=zFx h;refine⟨s,u,h,?_⟩;unfold kx kv;rw[y,z,A,I,J,N]
theorem zIy (F:Fixed ds tx C W)(U:Fixed ds' tx' C' W')(V:∀ k:Kx,k.v=ap->(∃ s∈C,kx ds tx s=k)->∃ s∈C',kx ds' tx' s=k)(X:∀ v∈M,v∈W/\v∈W')
  {y:a0×ae×a0×a0×ae} (h:∃ s∈C,kxF M r (kx ds tx s)=af y):∃ s∈C',kxF M r (kx ds' tx' s)=af y:=by
 obtain⟨s,O,z⟩:=h;cases hv:virB ds s.d.index with
 | false=>
  obtain⟨A,o,e⟩:=V (kx ds tx s) hv ⟨s,O,rfl⟩;exact⟨A,o,by rw[e];exact z⟩
 | true=>
  have u:=z;unfold kxF at u;rw[bd (show (kx ds tx s).v=ak from hv)]at u;cases hf:M.find? (kxB (kx ds tx s))with
  | none=>rw[hf]at u;cases u
  | some v=>
   have Y:keyB ds s v=true:=df hf;obtain⟨Z,I⟩:=X v (cl hf);obtain⟨s1,J,N,e1⟩:=F.at Z;obtain rfl:s=s1:=zIV F.t.nd O J (by rw[(zFx Y).2,(zFx N).2]);obtain⟨A,o,_,e'⟩:=U.at I;exact⟨A,o,by rw[e',<-e1];exact z⟩
theorem Chain.sub (T:TreeC ds tx C)(h:Chain ds tx E K C r S M G){r':ae}{y:B Vir}(F:Chain ds tx E K C r' S' y G')(O:r<=r'):∀ v∈M,v∈y:=by
 induction F with
 | base=>
  have U:=(h.inv T).1.r1;obtain rfl:r=1:=by omega
  rw[(h.self T .base).1];exact λv o=>o
 | @step I V X Y Z G1 G2 z A u J=>
  by_cases e:r=I+1
  .subst e;rw[(h.self T (.step z A u)).1];exact λv o=>o
  .obtain⟨⟨N,e,_,_⟩,_⟩:=zCg T.kn (z.inv T).1.s.1 A;intro v o;rw[e];exact List.mem_append_left _ (J (by omega) v o)
end
def EndC (ds:B Dev)(tx:Dev->a0)(E K:B a0)(C:B Src)(r:ae)(M:B Vir):Prop:=∃ S G S' G',Chain ds tx E K C r S M G/\NextR ds tx E K C r S M G S' M G'
def InvC (ds:B Dev)(tx:Dev->a0)(E K:B a0)(C:B Src)(t:ae):Prop:=∀ r S M G,r<=t->Chain ds tx E K C r S M G->Fixed ds tx C M
def Both (ds:B Dev)(tx:Dev->a0)(C:B Src)(ds':B Dev)(tx':Dev->a0)(C':B Src)(E K:B a0)(t:ae):Prop:=∀ r S M G S' G',r<=t->Chain ds tx E K C r S M G->Chain ds' tx' E K C' r S' M G'->Fixed ds tx C M/\Fixed ds' tx' C' M
def SameD (ds:B Dev)(tx:Dev->a0)(C:B Src)(ds':B Dev)(tx':Dev->a0)(C':B Src):Prop:=∀ k:Kx,k.v=ap->((∃ s∈C,kx ds tx s=k)↔∃ s∈C',kx ds' tx' s=k)
section
variable {ds ds':B Dev}{tx tx':Dev->a0}{E K:B a0}{C C':B Src}{r re re' t:ae}{S S':B Src}{M M' Me Me':B Vir}{G G':B (a0×a0)}
theorem Chain.one (T:TreeC ds tx C)(h:Chain ds tx E K C r S M G):1<=r:=(h.inv T).1.r1.1
theorem Chain.pre (h:Chain ds tx E K C r S M G):∀ {q:ae},1<=q->q<=r->∃ S M G,Chain ds tx E K C q S M G:=by
 induction h with
 | base=>
  intro q u v;obtain rfl:q=1:=by omega
  exact⟨_,_,_,.base⟩
 | @step r S F M I G J y z o A=>
  intro q u v;by_cases e:q=r+1;·subst e;exact⟨_,_,_,.step y z o⟩
  .exact A u (by omega)
theorem Chain.same (T:TreeC ds tx C)(h:Chain ds tx E K C r S M G)(o:Chain ds tx E K C r S' M' G'):S=S'/\M=M'/\G=G':=by
 obtain⟨rfl,rfl⟩:=h.self T o;exact⟨(h.inv T).2.trans (o.inv T).2.symm,rfl,rfl⟩
theorem Chain.grow (T:TreeC ds tx C)(h:Chain ds tx E K C r S M G)(A:Chain ds tx E K C re S' M' G')(N:r<re):∃ u o v,NextR ds tx E K C r S M G u o v/\(M:ab)<o.length/\Chain ds tx E K C (r+1) u o v:=by
 have O:=h.one T;obtain⟨u,o,v,z⟩:=A.pre (q:=r+1) (by omega) (by omega);rcases z.pred with⟨e,_⟩|⟨F,U,V,X,e,I,J,y⟩
 .omega
 .obtain rfl:F=r:=by omega
  obtain⟨rfl,rfl,rfl⟩:=h.same T I;exact⟨u,o,v,J,y,z⟩
theorem EndC.max (T:TreeC ds tx C)(v:EndC ds tx E K C re Me)(h:Chain ds tx E K C r S M G):r<=re:=by
 obtain⟨J,N,y,z,A,F⟩:=v;refine Int.not_lt.1 λo=>?_
 obtain⟨O,U,V,u,I,_⟩:=A.grow T h o;rw[(zBN rfl (λ_ _=>.inr rfl) u F).1]at I;omega
theorem EndC.sub (T:TreeC ds tx C)(o:EndC ds tx E K C re Me)(h:Chain ds tx E K C r S M G):∀ v∈M,v∈Me:=by
 have u:=o.max T h;obtain⟨F,I,y,z,A,J⟩:=o;exact h.sub T A u
theorem Fixed.mono (h:Fixed ds tx C M)(o:∀ v∈M',v∈M):Fixed ds tx C M':=⟨h.t,λv u=>h.w v (o v u)⟩
theorem zIE (A:SameD ds tx C ds' tx' C')(F:Fixed ds tx C M)(o:Fixed ds' tx' C' M)(h:Chain ds tx E K C r S M G)(I:Chain ds' tx' E K C' r S' M G'):S.map (sx tx)=S'.map (sx tx'):=by
 rw[(h.inv F.t).2,(I.inv o.t).2];exact zKb F.t.r0 o.t.r0 F.t.pa o.t.pa λy=>⟨zIy F o (λk z h=>(A k z).1 h) (λv u=>⟨u,u⟩),zIy o F (λk z h=>(A k z).2 h) (λv u=>⟨u,u⟩)⟩
theorem Chain.over (T:TreeC ds tx C)(V:SameD ds tx C ds' tx' C')(X:∀ s∈C,∀ r m,ofK 2 mk2 s.o r (tx s.d)=af m->hasS E m.i=ak\/exB ds m.i=exB ds' m.i)
  (Y:Both ds tx C ds' tx' C' E K t) (J:EndC ds tx E K C re Me) (Z:Chain ds' tx' E K C' r S' M' G') (hr:r<=t+1):∃ S,Chain ds tx E K C r S M' G':=by
 induction Z with
 | base=>exact⟨_,.base⟩
 | @step r a2 a3 M0 M1 G0 G1 u v z ih=>
  obtain⟨S0,h⟩:=ih (by omega);obtain⟨F,F'⟩:=Y _ _ _ _ _ _ (by omega) h u;have N:=zIE V F F' h u;have O:∀ m,m∈S0.filterMap (λs=>ofK 2 mk2 s.o s.r (tx s.d))->hasS E m.i=ak\/exB ds m.i=exB ds' m.i:=λm U=>by
   obtain⟨s,hs,q,e⟩:=zKZ (h.inv T).2 U;exact X s hs q m e
  have U:=J.max T h;obtain⟨Se,Ge,a4,a5,y,A⟩:=J;by_cases e:r=re
  .subst e;obtain⟨rfl,rfl,rfl⟩:=h.same T y;rw[(zBN N O A v).1]at z;omega
  .obtain⟨S1,a6,a7,hn,_,I⟩:=h.grow T y (by omega);obtain⟨rfl,rfl⟩:=zBN N O hn v;exact⟨S1,I⟩
theorem EndC.eq (T:TreeC ds tx C)(T':TreeC ds' tx' C')(A:SameD ds tx C ds' tx' C')(I:∀ s∈C,∀ r m,ofK 2 mk2 s.o r (tx s.d)=af m->hasS E m.i=ak\/exB ds m.i=exB ds' m.i)
  (J:Both ds tx C ds' tx' C' E K t) (v:EndC ds tx E K C re Me) (y:EndC ds' tx' E K C' re' Me') (ht:re<=t):Me=Me':=by
 have h1:re'<=re:=by
  refine Int.not_lt.1 λV=>?_
  obtain⟨X,Y,_,_,h,_⟩:=y;have h0:1<=re:=by
   obtain⟨_,_,_,_,u,_⟩:=v;exact u.one T
  obtain⟨_,_,_,N⟩:=h.pre (q:=re+1) (by omega) (by omega);obtain⟨_,O⟩:=N.over T A I J v (by omega);have:=v.max T O;omega
 obtain⟨X,Y,Z,a2,h,U⟩:=y;obtain⟨S,u⟩:=h.over T A I J v (by omega);obtain⟨F,F'⟩:=J _ _ _ _ _ _ (by omega) u h;obtain⟨Se,Ge,a3,a4,z,a5⟩:=v;by_cases e:re'=re
 .subst e;exact(z.same T u).2.1
 .obtain⟨S1,M1,G1,hn,hg,_⟩:=u.grow T z (by omega);rw[(zBN (zIE A F F' u h) (λm hm=>by
   obtain⟨s,hs,q,e⟩:=zKZ (u.inv T).2 hm;exact I s hs q m e) hn U).1]at hg
  omega
theorem InvC.one (T:TreeC ds tx C):InvC ds tx E K C 1:=λr S M u v h=>by
 rcases h.pred with⟨_,rfl,rfl⟩|⟨y,z,A,F,e,o,_⟩
 .exact⟨T,by simp⟩
 .have:=o.one T;omega
theorem InvC.step (T:TreeC ds tx C)(A:SameD ds tx C ds' tx' C')(F:∀ s∈C,∀ r m,ofK 2 mk2 s.o r (tx s.d)=af m->hasS E m.i=ak\/exB ds m.i=exB ds' m.i)
  (I:InvC ds tx E K C t) (u:EndC ds tx E K C re Me) (y:Fixed ds' tx' C' Me):Both ds tx C ds' tx' C' E K t/\InvC ds' tx' E K C' (t+1):=by
 have z:Both ds tx C ds' tx' C' E K t:=λr S M J U V v h N=>⟨I _ _ _ _ v h,y.mono (u.sub T h)⟩
 refine⟨z,λr S M J v h=>?_⟩;obtain⟨X,O⟩:=h.over T A F z u v;exact y.mono (u.sub T O)
theorem zNM (z:SameD ds tx C ds' tx' C')(A:∀ s∈C,∀ r m,ofK 2 mk2 s.o r (tx s.d)=af m->hasS E m.i=ak\/exB ds m.i=exB ds' m.i)
  (y:EndC ds tx E K C re Me) (h:EndC ds' tx' E K C' re' Me') (F:Fixed ds tx C Me) (u:Fixed ds' tx' C' Me'):Me=Me':=
 y.eq (t:=re) F.t u.t z A (λr S M J N O _ I v=>⟨F.mono (y.sub F.t I),u.mono (h.sub u.t v)⟩) h (cz _)
end
theorem zO5 (nm:a0)(o:ae)(w:aq):
  aw ay 9 #[nm,o,()] w λe w'=>e=.returned (au (ocs 1 () ⟨0,0,(),nm,zV,(),(),2,o,ag,0,0⟩ () ()))/\Fr No w w':=by
 obtain⟨X,y,I,J⟩:=zy w (am (ocs 0 () ⟨0,0,(),(),(),(),(),0,0,ag,0,0⟩ () ()) 43);obtain⟨A,u,F,N⟩:=zy X (am (bj ⟨0,0,(),nm,zV,(),(),2,o,ag,0,0⟩) 41);have O:=zh (F.heap J id);have Y:=zh (I.step F zi);have Z:=zh N;unfold bj at u;unfold ocs at y;unfold zV at u;dsimp only at y u;clear J N I F;go_enter Tryz.func9,Tryz.ntmps9;go_upto_region 1 with(fail)
 rw[<-y];clear y;go_upto_region 2 with(fail)
 rw[<-u];clear u;obtain⟨c0,c1,c2,c3,c4,c5,c6,c7,c8,c9⟩:=DevB.of Z;have U:(Tryz.prog.info? 43).map (·.size)=af 14:=by kernel_rfl
 have hu:=Tryz.underlying43;have HG:=zh (setRow_heap A (w:ab) _ #[ai aj 1,(),ai aj 0,ai aj 0,(),nm,zV,(),(),ai aj 2,o,ah ag 0 0,(),()] 43 (0,0) O);have z:Array.all (#[ai aj 1,(),ai aj 0,ai aj 0,(),nm,zV,(),(),ai aj 2,o,ah ag 0 0,(),()]:Array bi) (·.oneCell')=true:=by simp[Value.oneCell']
 go_wp2_with (refine wpList_store_row rfl 43 _ _ rfl (w:ab) #[ai aj 1,(),ai aj 0,ai aj 0,(),nm,zV,(),(),ai aj 2,o,ah ag 0 0,(),()] rfl rfl 43 _ O U rfl z ?_)
 refine bodyPost_ret (v:=au #[ai aj 1,(),ai aj 0,ai aj 0,(),nm,zV,(),(),ai aj 2,o,ah ag 0 0,(),()]) (results_cell_row rfl _ _ (w:ab) 43 _ (0,0) _ rfl HG hu rfl U) rfl ?_;have hx:Fr (Is (w:ab)) A (A.setRow (w:ab) #[ai aj 1,(),ai aj 0,ai aj 0,(),nm,zV,(),(),ai aj 2,o,ah ag 0 0,(),()]):=⟨rfl,rfl,rfl,by simp,λb _ V=>setRow_other _ _ _ _ (λe=>V e)⟩
 exact⟨rfl,Y.step hx (λb V h=>by omega)⟩
structure DoneP (M:B Vir)(K:B Dev)(ck:ae->a0)(ix:ae):Prop where
 u:UOk K ck ix
 w:WantC M K ck
 t:∀ v∈M,There K v
 r:Roots M K
 p:0<=ix
theorem PlaP.done (h:PlaP M J (M:ab) L ct){V:B Dev}{X:ae->a0}{N:ae}(o:SimK f L ct V X N)(Z:N<=1000000):DoneP M V X N:=by
 refine⟨h.u.renK o Z,λd I y=>?_,λv y=>?_,λv y hq=>?_,o.pos⟩
 .rw[o.eq]at I y ⊢;obtain⟨x,A,rfl⟩:=List.mem_map.1 I;have F:virB (L.map (ren f)) (f x.index)=true:=y;rw[zML o.ren]at F;obtain⟨O,U⟩:=h.w x A F;have e:plc (L.map (ren f)) (ren f x).parent=plc L x.parent:=zCR o.ren;rw[e];exact⟨O,(o.ct x A).trans U⟩
 .obtain⟨i,Y⟩:=ch y;obtain⟨d,I⟩:=h.t i v (List.getElem?_eq_some_iff.1 Y).1 Y;unfold There;rw[o.eq,zL6 o.ren,I];exact⟨_,rfl⟩
 .obtain⟨p,hp,O,U⟩:=h.r v y hq;exact⟨ren f p,by rw[o.eq];exact ax hp,by show f p.parent=0;rw[O,o.ren.z],U⟩
theorem zGN (h:∀ v∈M,VOk v):∀ v∈M,v.q.size<=100000/\v.o.size<=100000:=λv y=>by
 have u:=h v y;have F:=(zAi (zAS u.all).1).1;refine⟨?_,by omega⟩;rcases u.p with⟨e,_⟩|⟨n,z,A,_⟩
 .rw[e];decide
 .rw[A];have I:=(zAi (zAS (zCD z)).1).1;have:pathOf [n]=(():a0)++⟨#[47]⟩++n:=rfl;rw[this,ByteArray.size_append,ByteArray.size_append];show 0+1+n.size<=_
  omega
structure DskP (D:B (a0×ae×a0))(L:B Dev)(ct:ae->a0):Prop where
 a:∀ d∈L,isDk d.orig=ak->(d.orig,d.num,ct d.index)∈D
 b:∀ x∈D,isDk x.1=ak/\∃ d∈L,d.orig=x.1/\d.num=x.2.1/\ct d.index=x.2.2
 n:∀ d∈L,isDk d.orig=ap->1048576<=d.num
theorem DskP.sim (h:DskP D L ct){A:B Dev}{F:ae->a0}(o:SimK f L ct A F J):DskP D A F:=by
 refine⟨λd u z=>?_,λx N=>?_,λd u z=>?_⟩
 .rw[o.eq]at u;obtain⟨y,v,rfl⟩:=List.mem_map.1 u;have:=h.a y v z;rw[<-o.ct y v]at this;exact this
 .obtain⟨O,d,I,U,V,X⟩:=h.b x N;exact⟨O,ren f d,by rw[o.eq];exact ax I,U,V,(o.ct d I).trans X⟩
 .rw[o.eq]at u;obtain⟨y,v,rfl⟩:=List.mem_map.1 u;exact h.n y v z
theorem DskP.step (h:DskP D L ct){J:B OpA}{v:Vir}{N:B Dev}{y:ae->a0}{z:B OpA}(U:zBx L ct J v N y z)(V:isDk v.o=ap):DskP D N y:=by
 rcases U with⟨_,rfl,rfl,rfl⟩|⟨X,k,aa,p,hk,hu,hp,rfl,rfl,rfl⟩
 .exact h
 .have A:∀ d∈L,updC ct (maxI L+1) v.c d.index=ct d.index:=λd u=>by
   unfold updC;rw[bm (by have:=(zEG L).2.1 d u;omega)]
  refine⟨λd u F=>?_,λx Y=>?_,λd u F=>?_⟩
  .rcases zU.1 u with rfl|u
   .have I:isDk v.o=true:=F;rw[V]at I;cases I
   .rw[A d u];exact h.a d u F
  .obtain⟨I,d,O,Z,h4,h5⟩:=h.b x Y;exact⟨I,d,zU.2 (.inr O),Z,h4,(A d O).trans h5⟩
  .rcases zU.1 u with rfl|u
   .show (1048576:ae)<=1048576+(k:ae);omega
   .exact h.n d u F
theorem UOk.rootD (h:UOk L ct b)(u:d∈L)(o:isDk d.orig=ak):d.parent=0:=by
 rcases h.pl d u with⟨v,_⟩|⟨p,_,_,_,y,z⟩
 .exact v
 .rw[zKv y z]at o;cases o
theorem zNo (F:ab)(a:ao ar)(Y:ab)(ds:B Dev)(ct:ae->a0)(M:B Vir)(ma:ao ar)(mc:ab)(y:ae)(w:aq)(hl:Tr w F a Y ds)(hU:UOk (ds.map strip) ct y)(I:MustOk ds M)(hx:0<=y/\y<=900000)(hE:Env w)(b0:TrT w a ds)(hC:CtO w ds ct)(hV:Virs w ma mc M)(b1:F<=(w:ab))
  (Q:ab->B Dev->B OpA->Prop) (b2:Q 0 (remF M ds (revR ds)).1 (setF M (remF M ds (revR ds)).1 ct (remF M ds (revR ds)).2 (remF M ds (revR ds)).1.length).2) (hQ:∀ j v L ct o L' b3 A,M[j]?=af v->Q j L o->zBx L ct o v L' b3 A->Q (j+1) L' A):
  aw ay 31 #[au #[ah a ds Y],ah ma M mc] w λe w'=>(∃ (o:B OpA) (av:ao ar) (cv:ab) (a3:B Dev) (ck:ae->a0) (ix:ae),KRun 44 (ds.map strip) ct y o a3 ck ix/\DoneP M a3 ck ix/\(∀ D,DskP D (ds.map strip) ct->DskP D a3 ck)/\ix<=y+44/\o.length<=132/\(∃ L,Q (M:ab) L o)/\e=.returned (ah av o.length cv)/\w'.ownsRow (w:ab) 43 14 (ah av o.length cv) o.length (opF o)/\OpsOk w' (w:ab) o)/\Fr No w w':=by
 have O:=hU.len;rw[bp]at O;have b7:=zDZ I.v I.d;obtain⟨r1,Z,r3,r4⟩:=zOm (M:=M) hU;have a4:=Z.setOk (by omega) I.v ct;have N:Roots M (remF M ds (revR ds)).1:=λv hv hq=>by
  obtain⟨d,u,U,h2,h3⟩:=I.q v hv hq;refine⟨strip d,r4 _ (ax u) U λV=>?_,U,h2⟩;have e1:virB (ds.map strip) (strip d).index=virB ds d.index:=zAM;have e2:plc (ds.map strip) (strip d).parent=plc ds d.parent:=zAI;rw[e1]at V;rw[e2];exact h3 V
 have a2:=zKi (M:=M) (ct:=ct) Z.wf.ok (remF M ds (revR ds)).2 _ (dk _);have b4:PlaP M y 0 (remF M ds (revR ds)).1 (setF M (remF M ds (revR ds)).1 ct (remF M ds (revR ds)).2 (remF M ds (revR ds)).1.length).1:=by
  refine⟨(Z.mono (by simp)).cont λd u=>?_,λd u hv=>⟨r3 d u hv,?_⟩,λi v hi=>by omega,N⟩
  .obtain⟨j,z⟩:=ch u;rw[a2 j d z];split;·exact Z.wco I.v u
   .exact Z.co d u
  .obtain⟨j,z⟩:=ch u;rw[a2 j d z,bd ⟨(List.getElem?_eq_some_iff.1 z).1,hv⟩]
 have a5:∀ D,DskP D (ds.map strip) ct->DskP D (remF M ds (revR ds)).1 (setF M (remF M ds (revR ds)).1 ct (remF M ds (revR ds)).2 (remF M ds (revR ds)).1.length).1:=λD h=>by
  have a6:∀ d∈(remF M ds (revR ds)).1,isDk d.orig=ak->(setF M (remF M ds (revR ds)).1 ct (remF M ds (revR ds)).2 (remF M ds (revR ds)).1.length).1 d.index=ct d.index:=λd u J=>by
   obtain⟨j,z⟩:=ch u;rw[a2 j d z,bm λh=>by
    have U:=h.2;rw[Z.vir u,J]at U;cases U]
  refine⟨λd u J=>by rw[a6 d u J];exact h.a d (zFd _ d u) J,λx hx=>?_,λd u J=>h.n d (zFd _ d u) J⟩;obtain⟨U,d,h2,h3,h4,h5⟩:=h.b x hx;have J:isDk d.orig=true:=by rw[h3];exact U
  have h6:=r4 d h2 (hU.rootD h2 J) λhv=>by
   rw[hU.vir h2,J]at hv;cases hv
  exact⟨U,d,h6,h3,h4,(a6 d h6 J).trans h5⟩
 refine(zHz 44 (by omega) F a Y ds ct M ma mc w hl O hE b0 hC hV (by omega) I.d (zGN I.v) b1 r1 (λd u=>(hU.dv (strip d) (ax u)).1.kind) Z.wf a4 y hx (λd u=>(hU.dv (strip d) (ax u)).2)
  (λj L c o=>PlaP M y j L c/\(∀ D,DskP D (ds.map strip) ct->DskP D L c)/\Q j L o) ⟨b4,a5,b2⟩ (λj v L c o z h=>?_) (λj v L c o L' c' A z h hs=>?_)).mono ?_
 .have b5:=(List.getElem?_eq_some_iff.1 z).1;exact h.1.ok ⟨hx.1,by omega⟩ (be z) (I.v v (be z))
 .have b5:=(List.getElem?_eq_some_iff.1 z).1;exact⟨h.1.step ⟨hx.1,by omega⟩ I.d z (I.v v (be z)) hs,λD u=>(h.2.1 D u).step hs (I.v v (be z)).n,hQ j v L c o L' c' A z h.2.2 hs⟩
 .rintro e w' ⟨⟨L,c,o,av,cv,⟨hP,b8,f,a3,ck,ix,a7,X,b9⟩,rfl,a8,a9⟩,b6⟩;exact⟨⟨o,av,cv,a3,ck,ix,a7,hP.1.done X (by omega),λD h=>(hP.2.1 D h).sim X,by omega,by omega,⟨L,hP.2.2⟩,rfl,a8,a9⟩,b6⟩
theorem zPp (o:ab)(a:ao ar)(A:ab)(ds:B Dev)(ct:ae->a0)(M:B Vir)(O:ao ar)(U:ab)(Y:ae)(w:aq)(hl:Tr w o a A ds)(z:DoneP M (ds.map strip) ct Y)(N:∀ v∈M,VOk v)(y:DistP M)(hx:Y<=1000000)(hE:Env w)(V:TrT w a ds)(hC:CtO w ds ct)(hV:Virs w O U M)(X:o<=(w:ab)):
  aw ay 31 #[au #[ah a ds A],ah O M U] w λe w'=>(∃ (av:ao ar) (cv:ab),e=.returned (ah av 0 cv))/\Fr No w w':=by
 have I:=z.u.len;rw[bp]at I;have a2:=zDZ N y;have Z:∀ d∈ds,virB ds d.index=ak->inW M (plc ds d.parent) d.orig=ak/\ct d.index=wcF M (plc ds d.parent,d.orig):=λd y J=>by
  have e1:virB (ds.map strip) (strip d).index=virB ds d.index:=zAM;have e2:plc (ds.map strip) (strip d).parent=plc ds d.parent:=zAI;have:=z.w (strip d) (ax y) (by rw[e1];exact J);rw[e2]at this;exact this
 exact zHC o a A ds ct M O U w hl (by omega) hE V hC hV (by omega) y (zGN N) X (λd y=>(z.u.dv (strip d) (ax y)).1.kind) z.u.wf (z.u.setOk hx N ct) (λd y h=>(Z d y h).1) (λd y h=>(Z d y h).2) λv F=>by
  obtain⟨p,hp,_⟩:=z.u.parent z.r F (N v F);exact⟨⟨p,hp⟩,z.t v F⟩
theorem UOk.known (h:UOk (ds.map strip) ct b):Known ds (λd=>ct d.index):=λd A=>by
 have o:=ax (f:=strip) A;have v:=h.co (strip d) o;refine⟨v.1,v.2,λy=>⟨?_,?_⟩⟩
 .rcases h.pl (strip d) o with⟨_,z⟩|⟨p,u,I,z,_⟩
  .exact z
  .have:=(h.wf.ok.ix p u).1;have e:(strip d).parent=0:=y;omega
 .rw[<-zAI];have F:=zBa h o y;exact F
theorem CtO.txs (h:CtO w ds ct)(y:∀ d∈ds,InU (ct d.index)):TxS w (w:ab) (λd=>ct d.index) ds:=λd u=>by
 obtain⟨v,z⟩:=h d u;have A:=zCE (y d u);exact⟨_,v,z,zCn _,by dsimp only at A ⊢;omega,λF e o=>(v.cell F e o).2.1⟩
theorem zI7 (ds:B Dev)(L:B Rec):∀ (l:B Dev) (i:ab),((cntL ds L i l).map λs=>s.d).Sublist l
 | [],i=>.slnil
 | d::t,i=>by
  unfold cntL;rw[dh];have h:=zI7 ds L t (i+1);split;·exact h.cons_cons d
  .exact h.cons d
theorem zI9 (ds:B Dev)(L:B Rec):∀ (l:B Dev) (i:ab),(cntL ds L i l).Pairwise (λx y=>x.at_<y.at_)/\∀ s∈cntL ds L i l,(i:ae)<=s.at_
 | [],i=>by simp[cntL]
 | d::t,i=>by
  obtain⟨u,o⟩:=zI9 ds L t (i+1);unfold cntL;split
  .refine⟨List.pairwise_cons.2 ⟨λy v=>?_,u⟩,λs h=>?_⟩
   .have:=o y v;show (i:ae)<y.at_
    omega
   .rcases List.mem_cons.1 h with rfl|h
    .exact cz _
    .have:=o s h;omega
  .refine⟨u,λs h=>?_⟩;have:=o s h;omega
theorem UOk.treeC (h:UOk (ds.map strip) ct b)(L:B Rec):TreeC ds (λd=>ct d.index) (cntL ds L 0 ds):=by
 have z:=λs o=>zAw ds L ds 0 s o
 have u:=zI7 ds L ds 0;refine⟨h.known,λs o=>⟨(z s o).1,(z s o).2.1⟩,?_,(zI9 ds L ds 0).1,λs o=>(z s o).2.2.1,?_,λs o U v J=>?_⟩
 .have A:((ds.map strip).map Dev.orig).Nodup:=by
   have:=h.wf.ok.nd;unfold dc at this ⊢;rw[cb]at this ⊢;exact this.imp_of_mem λV X N e=>N (by rw[h.inj V X e])
  rw[cq]at A;have I:((cntL ds L 0 ds).map λs=>s.d.orig)=((cntL ds L 0 ds).map λs=>s.d).map (Dev.orig∘strip):=by rw[cq];rfl
  rw[I];exact A.sublist (u.map _)
 .have A:=h.so;rw[cb]at A;have I:=A.sublist u;rw[cb]at I;refine I.imp_of_mem fun {x y} Y Z O=>?_
  have F:pathO (plc (ds.map strip) x.d.index) (plc (ds.map strip) y.d.index)<0:=O;rw[zAI,zAI]at F;rw[(z x Y).2.1,(z y Z).2.1];exact F
 .cases hk:keyB ds s v with
  | false=>rfl
  | true=>
   have F:virB (ds.map strip) s.d.index=!isDk s.d.orig:=h.vir (d:=strip s.d) (ax (f:=strip) (z s o).1);rw[zAM,U,(zFx hk).2,J.n]at F;cases F
theorem zPo (a O U V:ao ar)(u X Y Z o:ab)(wt:ae)(ds:B Dev)(L:B Rec)(E v:B a0)(ct:ae->a0)(b:ae)(w:aq)(hl:Tr w o a u ds)(hU:UOk (ds.map strip) ct b)(hC:CtO w ds ct)(hr:Recs w O X L)
  (F:Env w) (a2:Strs w V Z E) (a3:Strs w U Y v) (a4:(v:ab)<=1000000) (a5:∀ x∈v,x.size<=maxLen):
  aw ay 32 #[au #[ah a ds u],ah O L X,au #[ah U v Y,wt],ah V E Z] w λe w'=>
   (∃ z J M,e=.returned (ah z (M:B Vir).length J)/\Virs w' z J M/\BlkT w' z 94/\(∀ A,z=af A->(w:ab)<=A.block)/\MustOk ds M/\∃ r,EndC ds (λd=>ct d.index) E v (cntL ds L 0 ds) r M)/\Fr No w w':=by
 have I:=hU.len;rw[bp]at I;have y:=hU.known;have a6:=hC.txs λd hd=>(y d hd).1
 have a7:TreeWf ds:=hl.wf;have T:=hU.treeC L;have b2:=zCq ds L ds 0;refine(zH0 a O U V u X Y Z o wt ds L (λd=>ct d.index) E v w hl (by omega) hr F a2 a3 a4 a5 a6 (Chain ds (λd=>ct d.index) E v (cntL ds L 0 ds)) (λr S M a8 S' M' G' h hn a9=>h.step hn a9) (λr S M a8 h=>(h.inv T).1.small (λs hs=>?_) (by omega)) .base).mono ?_
 .rw[((h.inv T).1.s.1 s hs).2];have:=zBI a7.ok (by omega:(ds:ab)<=250) s.d.index;omega
 .rintro e w' ⟨⟨z,J,r,S,M,a8,S',M',G',rfl,hV,hF,hI,hN,b0⟩,hf⟩;have hi:=(hI.inv T).1;obtain⟨⟨N,e,_⟩,_⟩:=zCg y hi.s.1 hN;have b1:N=[]:=de (by rw[e,ci]at b0;omega);rw[b1,List.append_nil]at e;subst e;exact⟨⟨z,J,M',rfl,hV,λA e=>(hF A e).2,λA e=>(hF A e).1,hi.must y hN,r,S,a8,S',G',hI,hN⟩,hf⟩
theorem KA.fr {O:ab}{X:ae}(h:KA w O u L ct X n)(F:Fr S w w')(Y:¬ S O)(U:∀ b cs T,u<=b->w.heap[b]?=af (am cs T (0,0))->(T=41\/T=79\/T=104)->¬ S b):KA w' O u L ct X n:=by
 obtain⟨a,V,ds,Z,en,ec,v,h2,h3,h4⟩:=h;have A:∀ d∈ds,∀ o,d.aa=af o->¬ S o.block:=λd I o e=>by obtain⟨x,z⟩:=v.te d I o e;exact U _ _ _ ((v.tr.el d I).fresh o e) z (.inr (.inl rfl))
 have J:∀ o,a=af o->¬ S o.block:=λo e=>by obtain⟨x,z⟩:=v.ta o e;exact U _ _ _ (v.tr.fresh o e) z (.inl rfl)
 refine⟨a,V,ds,Z,en,ec,⟨F.heap v.blk Y,v.tr.foot F (λb N=>?_),v.ta.fr F (λo e=>J o e),λd I=>(v.te d I).fr F (λo e=>A d I o e),v.own.elim λxs z=>⟨xs,zG z F (λb N=>?_)⟩,v.nm⟩,h2,AttOf.fr h3 F A,h4⟩
 .rcases N with⟨o,e,rfl⟩|⟨x,z,o,e,rfl⟩
  .exact J o e
  .exact A x z o e
 .have h5:=(zAH z N).1;obtain⟨o,rfl,rfl⟩:=zBd N;obtain⟨y,hy⟩:=zAO z o rfl;exact U _ _ _ h5 hy (.inr (.inr rfl))
theorem KA.low {v:ae}(h:KA w u o L ct v n)(z:u<=o)(A:Fr S w w')(y:∀ b,u<=b->b<(w:ab)->¬ S b):KA w' u o L ct v n:=by
 obtain⟨cs,F⟩:∃ cs,w.heap[u]?=af (am cs 62):=by
  obtain⟨a,I,ds,N,O,U,J,_⟩:=h;exact⟨_,J.blk⟩
 exact h.fr A (y u (dk _) (zC F)) λb cs T V h _=>y b (by omega) (zC h)
theorem KA.row {y m:ab}{A:ae}{v:bi}{J:B bi}(h:KA w z o L ct A n)(F:w.ownsRow I T y v m J)(u:T≠62/\T≠41/\T≠79/\T≠104)(N:Fr (λb=>v.ownBlock=af b) w w'):KA w' z o L ct A n:=by
 obtain⟨cs,O⟩:∃ cs,w.heap[z]?=af (am cs 62):=by
  obtain⟨a,U,ds,X,Y,Z,u,_⟩:=h;exact⟨_,u.blk⟩
 refine h.fr N (zJ F O (br u.1)) λb cs T' hb h V=>zJ F h ?_
 rcases V with rfl|rfl|rfl
 .exact br u.2.1
 .exact br u.2.2.1
 .exact br u.2.2.2
theorem KA.no {y:ae}(h:KA w u o L ct y n)(v:u<=o)(z:Fr No w w'):KA w' u o L ct y n:=h.low v z λ_ _ _=>id
theorem KA.blk {v:ae}(h:KA w u o L ct v n):∃ cs,w.heap[u]?=af (am cs 62):=by
 obtain⟨a,y,ds,A,F,I,z,_⟩:=h;exact⟨_,z.blk⟩
theorem EvF.own {y A:ab}{v:bi}{I:B bi}(N:EvF y u W F)(h:W.ownsRow A T o v n I)(O:W.heap[y]?=af (am cs 62))(U:T≠62)(V:T≠104):F.ownsRow A T o v n I:=zG h N λb J X=>by
 rcases X with rfl|⟨_,z,Y⟩
 .exact zJ h O (br U) J
 .exact zJ h Y (br V) J
theorem EvF.bt {v:ab}(V:EvF v o W F){a:ao ar}(I:BlkT W a T)(J:W.heap[v]?=af (am cs 62))(N:T≠62)(O:T≠104):∀ u,a=af u->¬ (u.block=v\/(o<=u.block/\∃ x,W.heap[u.block]?=af (am x 104 (0,0)))):=λu e A=>by
 obtain⟨y,h⟩:=I u e;rcases A with A|⟨_,z,U⟩
 .rw[A,J]at h;injection h with h
  injection h with _ h
  exact N h.symm
 .rw[U]at h;injection h with h
  injection h with _ h
  exact O h.symm
theorem EvF.from {v:aq}(y:EvF u o W v)(z:tb<=u)(A:tb<=o):Fr (From tb) W v:=y.mono λb _ h=>by
 unfold From;rcases h with h|⟨h,_⟩<;>omega
theorem EvF.tape {v:aq}(y:EvF u o W v)(z:tb<u)(A:tb<o)(h:Tape W tb tb k):Tape v tb tb k:=h.fr y (λb F h=>by rcases h with h|⟨h,_⟩<;>omega) (λh=>by rcases h with h|⟨h,_⟩<;>omega)
theorem Env.from {o:aq}(h:Env W)(v:8<tb)(u:Fr (From tb) W o):Env o:=h.fr u (λb y h=>by omega)
theorem zBs (I o n:ab)(L:B Dev)(ct:ae->a0)(U:ae)(w:aq)(X:KA w I o L ct U n)(V:(L:ab)<=1000):
  aw ay 11 #[bw (af ⟨I,0,ag⟩)] w λe w'=>(∃ u F h,e=.returned (au #[ah u (cp h) F])/\Tr w' (w:ab) u F h/\TrT w' u h/\CtO w' h ct/\h.map strip=L)/\Fr No w w':=by
 obtain⟨a,J,ds,Y,Z,ec,v,rfl,h3,h4⟩:=X;rw[bp]at V;apply (zQC I a J ds Y Z ec U w v.blk v.tr.dv V (λd hd=>(v.tr.el d hd).att)).mono;rintro e w' ⟨⟨u,F,h,rfl,hD,hB,hf,y⟩,N⟩;refine⟨⟨u,F,h,rfl,zOS v hD hf y (v.tr.wf.ofStrip y.strip),λb hb=>?_,AttOf.cop h3 y,y.strip⟩,N⟩;rcases hb with⟨O,e,rfl⟩|⟨x,A,O,e,rfl⟩
 .obtain⟨x,A⟩:=hB O e;exact⟨x,_,A,.inl rfl⟩
 .obtain⟨z,_,hz⟩:=y.mem A;obtain⟨x,A⟩:=hz.typ O e;exact⟨x,_,A,.inr rfl⟩
theorem zLK (F u n:ab)(L:B Dev)(ct:ae->a0)(o p:ae)(v nm vl c:a0)(x:Dev)(w:aq)(hK:KA w F u L ct o n)(I:UOk L ct o)(hE:Env w)(h8:8<F)(hn:n<=50000000)(N:0<=o/\o<=900000)(hb:u<=(w:ab))(hA:Atts w x.aa x.ac (cAtt c))(O:x.an=(cAtt c).length)
  (J:x.kind=2/\x.sub=zV/\x.ali=()/\1<=x.num/\x.num<=2000000) (hp:ParIs L v p) (z:PlcOk L (addD x o p)) (hc:InU c) (U:p≠0->NoTab c) (y:∀ e∈L,e.orig≠x.orig/\e.num≠x.num):
  aw ay 8 #[bw (af ⟨F,0,ag⟩),au (ocs 1 v x nm vl)] w λe w'=>e=.returned (.tuple #[ai aj (o+1),ai aj 0])/\KA w' F u (insAt L (insK L (addD x o p)) (strip (addD x o p))) (updC ct (o+1) c) (o+1) (n+1)/\UOk (insAt L (insK L (addD x o p)) (strip (addD x o p))) (updC ct (o+1) c) (o+1)/\EvF F u w w'/\EvG F w w':=by
 have V:DOk (addD x o p):=⟨J.1,rfl,J.2.1,rfl,J.2.2.1,J.2.2.2⟩
 have A:look L (addD x o p).index=none:=zx.2 λd hd=>by have:=(I.dv d hd).2;show d.index≠o+1;omega
 have X:1<=(addD x o p).index/\(addD x o p).index<=o+1:=by show 1<=o+1/\o+1<=o+1;omega
 have hf:=I.free V z (λe Y=>(y e Y).1) (λe Y=>(y e Y).2);obtain⟨a1,a2⟩:=I.pre (by omega) V z ⟨X.1,by have:=X.2;omega⟩ A hc;obtain⟨b1,_⟩:=I.ins (b':=o+1) (by omega) V z X A hc U hf;have Z:=z.par I (by omega);exact(zN1 F u n L ct o p v nm vl c x w hK hE h8 hn ⟨N.1,by omega⟩ hb hA O J.1 hp (WalkArith.wf_i64 (by have h1:0<=p/\p<=1000000:=Z;omega)) a2 a1 hf b1.wf).mono λe w' h=>⟨h.1,h.2.1,b1,h.2.2⟩
theorem zFw (nm c:a0)(h:ae)(w:aq)(I:InU c):
  aw ay 9 #[nm,h,c] w λe w'=>(∃ o F,e=.returned (au (ocs 1 () ⟨0,0,(),nm,zV,(),(),2,h,o,(cAtt c).length,F⟩ () ()))/\Atts w' o F (cAtt c)/\BlkT w' o 79/\∀ v,o=af v->(w:ab)<=v.block)/\Fr No w w':=by
 have X:=zCE I;by_cases u:c.toList.isEmpty=ak
 .have y:c=():=by
   rw[ByteArray.toList_eq]at u;have z:c.data.toList=[]:=(by simpa using u);exact cn (Array.toList_inj.1 z)
  subst y;have J:cAtt ()=[]:=by kernel_rfl
  rw[J];apply (zO5 nm h w).mono;rintro e w' ⟨rfl,A⟩;exact⟨⟨ag,0,rfl,Atts.nil w',BlkT.none _ _,λ_ e=>by cases e⟩,A⟩
 .have z:c.toList.isEmpty=false:=by simpa using u
  have N:cAtt c=[(zM,c)]:=by unfold cAtt;rw[bm u]
  rw[N];refine(zP8 nm c h w z (by unfold maxLen;omega)).mono ?_;rintro e w' ⟨⟨b,rfl,O,U,V⟩,A⟩;exact⟨⟨some ⟨b,0,none⟩,1,rfl,O,U,λv e=>by cases e;exact V⟩,A⟩
def CntOk (ds:B Dev)(R:B Rec)(ig:a0->bf):Prop:=∀ d∈ds,cntB ds R d.index=!ig d.orig
def Live (D:B (a0×ae×a0))(ig:a0->bf)(o c:a0):Prop:=∃ n,(o,n,c)∈D/\ig o=ap
theorem zI8 (ds:B Dev)(L:B Rec):∀ (l:B Dev) (i:ab),∀ s∈cntL ds L i l,cntB ds L s.d.index=ak
 | [],i,s,h=>by simp[cntL]at h
 | d::t,i,s,h=>by
  unfold cntL at h;rcases List.mem_append.1 h with h|h
  .split at h
   .obtain rfl:=List.mem_singleton.1 h;assumption
   .cases h
  .exact zI8 ds L t (i+1) s h
theorem zF8 (ds:B Dev)(L:B Rec):∀ (l:B Dev) (i:ab) (d:Dev),d∈l->cntB ds L d.index=ak->∃ s∈cntL ds L i l,s.d=d
 | x::t,i,d,h,o=>by
  unfold cntL;rcases List.mem_cons.1 h with rfl|h
  .rw[bd o];exact⟨_,List.mem_append.2 (.inl (List.mem_singleton.2 rfl)),rfl⟩
  .obtain⟨s,u,v⟩:=zF8 ds L t (i+1) d h o;exact⟨s,List.mem_append.2 (.inr u),v⟩
theorem UOk.key (h:UOk L ct b)(N:d∈L){v:Vir}(O:VOk v)(z:d.orig=v.o):plc L d.parent=v.q:=by
 rcases h.pl d N with⟨A,u⟩|⟨p,U,A,u,F,y⟩<;>rcases O.p with⟨V,X⟩|⟨n,I,Y,J,_⟩
 .rw[A,zDX h.wf.ok,V]
 .rw[z]at u;have:=zBc u;rw[zAh I J]at this;cases this
 .rw[z]at y;have:=zBc X;rw[zAh F y]at this;cases this
 .rw[z]at y;have:=zAh F y;rw[zAh I J]at this;rw[Y,Option.some.inj this,<-A];exact zBa h U u
section
variable {ds ds':B Dev}{ct ct':ae->a0}{b b':ae}{R R':B Rec}{ig ig':a0->bf}{D D':B (a0×ae×a0)}{M:B Vir}{E:B a0}
theorem DoneP.fixed (h:DoneP M (ds.map strip) ct b)(Y:∀ v∈M,VOk v)(Z:DistP M)(hR:CntOk ds R ig)(hi:∀ o,isDk o=ap->ig o=ap):Fixed ds (λd=>ct d.index) (cntL ds R 0 ds) M:=
 ⟨h.u.treeC R,λv F=>by
  have z:=Y v F;obtain⟨e,I,A⟩:=(zB1 h.u z).1 (h.t v F);obtain⟨y,O,rfl⟩:=List.mem_map.1 I;have A:y.orig=v.o:=A;obtain⟨s,U,rfl⟩:=zF8 ds R ds 0 y O (by rw[hR y O,hi _ (by rw[A];exact z.n)];rfl);have J:virB (ds.map strip) s.d.index=!isDk s.d.orig:=h.u.vir (d:=strip s.d) I;have N:plc (ds.map strip) s.d.parent=v.q:=h.u.key (d:=strip s.d) I z A;have V:=(h.w (strip s.d) I (by show virB (ds.map strip) s.d.index=ak;rw[J,A,z.n];rfl)).2;have X:plc (ds.map strip) s.d.index=pathOf (orgOf s.d.orig):=h.u.pth (d:=strip s.d) I;have e3:(plc (ds.map strip) (strip s.d).parent,(strip s.d).orig)=(v.q,v.o):=by
   show (plc (ds.map strip) s.d.parent,s.d.orig)=_
   rw[N,A]
  rw[e3,zKD Z F]at V;rw[zAM]at J;rw[zAI]at N X;refine⟨s,U,by rw[J,A,z.n];rfl,?_,V,(h.u.dv _ I).1.kind,?_⟩
  .unfold keyB;rw[N,A];exact ce rfl
  .rw[(zAw ds R ds 0 s U).2.1,X,A];exact z.path.symm⟩
def kd (o c:a0):Kx:=⟨pathOf [o],(),o,ap,c,2⟩
theorem zP9 (h:UOk (ds.map strip) ct b)(F:s∈cntL ds R 0 ds)(u:isDk s.d.orig=ak):kx ds (λd=>ct d.index) s=kd s.d.orig (ct s.d.index):=by
 obtain⟨I,J,_⟩:=zAw ds R ds 0 s F;have o:=ax (f:=strip) I;have v:s.d.parent=0:=h.rootD (d:=strip s.d) o u;have y:virB (ds.map strip) s.d.index=!isDk s.d.orig:=h.vir (d:=strip s.d) o;have z:plc (ds.map strip) s.d.index=pathOf [s.d.orig]:=zBa (d:=strip s.d) h o v;have A:plc (ds.map strip) 0=():=zDX h.wf.ok;have N:s.d.kind=2:=(h.dv _ o).1.kind;rw[zAM,u]at y;rw[zAI]at z A;unfold kx kd;rw[J,z,v,A,y,N];rfl
theorem zNz (h:UOk (ds.map strip) ct b)(O:DskP D (ds.map strip) ct)(hR:CntOk ds R ig)(k:Kx)(X:k.v=ap):(∃ s∈cntL ds R 0 ds,kx ds (λd=>ct d.index) s=k)↔∃ o c,Live D ig o c/\kd o c=k:=by
 constructor
 .rintro ⟨s,u,rfl⟩;have U:=(zAw ds R ds 0 s u).1;have A:=ax (f:=strip) U;have F:virB (ds.map strip) s.d.index=!isDk s.d.orig:=h.vir (d:=strip s.d) A;rw[zAM]at F;have J:isDk s.d.orig=true:=by
   have z:virB ds s.d.index=false:=X;rw[z]at F
   simpa using F.symm
  have z:=zI8 ds R ds 0 s u;rw[hR _ U]at z;exact⟨_,_,⟨_,O.a _ A J,(by simpa using z:ig s.d.orig=ap)⟩,(zP9 h u J).symm⟩
 .rintro ⟨o,c,⟨n,F,J⟩,rfl⟩;obtain⟨z,e,Y,I,_,N⟩:=O.b _ F;obtain⟨y,V,rfl⟩:=List.mem_map.1 Y;have I:y.orig=o:=I;have N:ct y.index=c:=N;obtain⟨s,u,rfl⟩:=zF8 ds R ds 0 y V (by rw[hR y V,I,J];rfl);exact⟨s,u,by rw[zP9 h u (by rw[I];exact z),I,N]⟩
theorem sameD (h:UOk (ds.map strip) ct b)(z:UOk (ds'.map strip) ct' b')(A:DskP D (ds.map strip) ct)(u:DskP D' (ds'.map strip) ct')(hR:CntOk ds R ig)(v:CntOk ds' R' ig')(F:∀ o c,Live D ig o c↔Live D' ig' o c):
  SameD ds (λd=>ct d.index) (cntL ds R 0 ds) ds' (λd=>ct' d.index) (cntL ds' R' 0 ds'):=λk y=>by
 rw[zNz h A hR k y,zNz z u v k y];exact exists_congr λo=>exists_congr λc=>by rw[F]
def AllE (E:B a0):Prop:=∀ i,(i=⟨#[114]⟩\/i=⟨#[115]⟩)->hasS E i=ak
theorem allE (v:AllE E)(h:UOk (ds.map strip) ct b):∀ s∈cntL ds R 0 ds,∀ r m,ofK 2 mk2 s.o r (ct s.d.index)=af m->hasS E m.i=ak\/exB ds m.i=exB ds' m.i:=λs y r m u=>by
 left;unfold ofK at u;cases hc:parseC (ct s.d.index)with
 | none=>rw[hc]at u;cases u
 | some c=>
  rw[hc]at u;dsimp only at u;split at u
  .rename_i z;injection u with u
   subst u;exact v _ (zQL ((h.known s.d (zAw ds R ds 0 s y).1).1.parse hc (by omega)).1 z)
  .cases u
end
structure SetS (E K:B a0)(ig:a0->bf)(D:B (a0×ae×a0))(t:ae)(L:B Dev)(ct:ae->a0)(ix:ae):Prop where
 u:UOk L ct ix
 d:DskP D L ct
 i:∀ ds R,ds.map strip=L->CntOk ds R ig->InvC ds (λd=>ct d.index) E K (cntL ds R 0 ds) t
 f:t<=31\/∀ ds R r M,ds.map strip=L->CntOk ds R ig->EndC ds (λd=>ct d.index) E K (cntL ds R 0 ds) r M->DoneP M L ct ix
structure SetE (E K:B a0)(ig:a0->bf)(D:B (a0×ae×a0))(L:B Dev)(ct:ae->a0)(ix:ae):Prop where
 u:UOk L ct ix
 d:DskP D L ct
 e:∃ ds R r M,ds.map strip=L/\CntOk ds R ig/\EndC ds (λd=>ct d.index) E K (cntL ds R 0 ds) r M/\MustOk ds M/\DoneP M L ct ix
section
variable {E K:B a0}{ig ig':a0->bf}{D D':B (a0×ae×a0)}{t:ae}{L L':B Dev}{ct ct':ae->a0}{ix ix' r:ae}{M:B Vir}
theorem SetS.one (h:UOk L ct ix)(o:DskP D L ct):SetS E K ig D 1 L ct ix:=⟨h,o,λds R u _=>InvC.one (by subst u;exact h.treeC R),.inl (by decide)⟩
theorem EndC.le (T:TreeC ds tx C)(h:EndC ds tx E K C r M):r<=31:=by
 obtain⟨S,z,_,_,u,_⟩:=h;have o:=(u.inv T).1;have A:=zDZ (λv y=>(o.m v y).1) o.d;have F:=o.r1;omega
theorem SetS.step (h:SetS E K ig D t L ct ix)(U:AllE E)(hi:∀ o,isDk o=ap->ig o=ap){R:B Rec}(hs:ds.map strip=L)(hR:CntOk ds R ig)(N:EndC ds (λd=>ct d.index) E K (cntL ds R 0 ds) r M)(V:MustOk ds M)(I:DoneP M L' ct' ix')(X:DskP D L' ct'):SetS E K ig D (t+1) L' ct' ix':=by
 subst hs;have T:=h.u.treeC R;have J:∀ y A,y.map strip=L'->CntOk y A ig->SameD ds (λd=>ct d.index) (cntL ds R 0 ds) y (λd=>ct' d.index) (cntL y A 0 y)/\Both ds (λd=>ct d.index) (cntL ds R 0 ds) y (λd=>ct' d.index) (cntL y A 0 y) E K t/\InvC y (λd=>ct' d.index) E K (cntL y A 0 y) (t+1)/\TreeC y (λd=>ct' d.index) (cntL y A 0 y):=λy A F z=>by
  subst F;have Y:=sameD h.u I.u h.d X hR z (λ_ _=>Iff.rfl);have Z:=InvC.step T Y (allE U h.u) (h.i ds R rfl hR) N (I.fixed V.v V.d z hi);exact⟨Y,Z.1,Z.2,I.u.treeC A⟩
 refine⟨I.u,X,λy A F z=>(J y A F z).2.2.1,?_⟩;by_cases ht:t+1<=31;·exact .inl ht
 .refine .inr λy A r' M' F z O=>?_
  obtain⟨k1,k2,_,k4⟩:=J y A F z;have hr:=N.le T;rw[<-EndC.eq T k4 k1 (allE U h.u) k2 N O (by omega)];exact I
def VL (L:B Dev)(ct:ae->a0):B (a0×a0):=(L.filter λd=>!isDk d.orig).map λd=>(plc L d.index,ct d.index)
theorem zNn (h:DoneP M L ct ix)(F:∀ v∈M,VOk v)(O:DistP M)(x:a0×a0):x∈VL L ct↔∃ v∈M,x=(v.q++⟨#[47]⟩++v.o,v.c):=by
 have N:∀ d∈L,∀ v∈M,d.orig=v.o->(plc L d.index,ct d.index)=(v.q++⟨#[47]⟩++v.o,v.c):=λd z v y A=>by
  have I:=(h.w d z (by rw[h.u.vir z,A,(F v y).n];rfl)).2;rw[h.u.key z (F v y) A,A,zKD O y]at I;rw[I,h.u.pth z,A,(F v y).path]
 unfold VL;rw[List.mem_map];constructor
 .rintro ⟨d,J,rfl⟩;obtain⟨z,U⟩:=List.mem_filter.1 J;have I:=(h.w d z (by rw[h.u.vir z];exact U)).1;obtain⟨v,y,V⟩:=List.any_eq_true.1 I;exact⟨v,y,N d z v y (az Prod.snd (dp V)).symm⟩
 .rintro ⟨v,y,rfl⟩;obtain⟨d,z,A⟩:=(zB1 h.u (F v y)).1 (h.t v y);exact⟨d,List.mem_filter.2 ⟨z,by rw[A,(F v y).n];rfl⟩,N d z v y A⟩
theorem SetE.same (h:SetE E K ig D L ct ix)(I:SetE E K ig' D' L' ct' ix')(X:AllE E)(Y:∀ o,isDk o=ap->ig o=ap)(N:∀ o,isDk o=ap->ig' o=ap)(Z:∀ o c,Live D ig o c↔Live D' ig' o c):VL L ct=VL L' ct':=by
 obtain⟨ds,R,r,M,rfl,hR,he,J,U⟩:=h.e;obtain⟨a2,R',r',M',rfl,A,O,z,F⟩:=I.e;have e:=zNM (sameD h.u I.u h.d I.d hR A Z) (allE X h.u) he O (U.fixed J.v J.d hR Y) (F.fixed z.v z.d A N);subst e;have V:∀ {L:B Dev} {ct:ae->a0} {b:ae},UOk L ct b->(VL L ct).Pairwise λx y=>pathO x.1 y.1<0:=λhu=>List.pairwise_map.2 (hu.so.filter _)
 exact zE2 (f:=cd) (V h.u) (V I.u) λx=>by rw[zNn U J.v J.d,zNn F z.v z.d]
theorem zMf (h:UOk L ct ix)(I:DskP D L ct){o:a0}{n:ae}(hm:(o,n,c)∈D):∃ d,L.find? (atP L (pathOf [o]))=af d/\TreeWf (remL d.index L)/\UOk (remL d.index L) ct ix/\DskP (D.filter λx=>!eqB x.1 o) (remL d.index L) ct:=by
 obtain⟨h3,d,z,y,_,h5⟩:=I.b _ hm;have y:d.orig=o:=y;have h0:=h.rootD z (by rw[y];exact h3);have X:=zHB h.wf z;rw[zBa h z h0,y]at X;have hF:=h.wf.ok.subF (n:=d.index);have J:=h.sub hF;rw[<-zBp]at J;have u:∀ e∈remL d.index L,e∈L:=λe v=>(List.mem_filter.1 v).1
 have N:∀ e∈remL d.index L,e.orig≠o:=λe v ho=>zGg h.wf.ok v (by rw[h.inj (u e v) z (by rw[ho,y])])
 refine⟨d,X,J.wf,J,λe v A=>List.mem_filter.2 ⟨I.a e (u e v) A,?_⟩,λx A=>?_,λe v A=>I.n e (u e v) A⟩
 .cases hb:eqB e.orig o with
  | false=>rfl
  | true=>exact bh (zAD.1 hb) (N e v)
 .obtain⟨O,F⟩:=List.mem_filter.1 A;obtain⟨Y,e,U,V,g4,g5⟩:=I.b x O;refine⟨Y,e,zGf h.wf.ok U (h.rootD U (by rw[V];exact Y)) (λhi=>?_),V,g4,g5⟩;have:e.orig=d.orig:=by
   have Z:=h.wf.ok.lk U;rw[hi,h.wf.ok.lk z]at Z;rw[Option.some.inj Z]
  rw[V,y]at this;rw[this,zAD.2 rfl]at F;cases F
theorem DskP.nil (ct:ae->a0):DskP [] [] ct:=⟨by simp,by simp,by simp⟩
theorem DskP.put (h:DskP D L ct)(N:UOk L ct ix){x:Dev}{p:ae}(I:isDk x.orig=ak):DskP ((x.orig,x.num,c)::D) (insAt L k (strip (addD x ix p))) (updC ct (ix+1) c):=by
 have u:∀ d∈L,updC ct (ix+1) c d.index=ct d.index:=λd o=>by
  unfold updC;rw[bm (by have:=(N.dv d o).2;omega)]
 have v:updC ct (ix+1) c (strip (addD x ix p)).index=c:=by
  show updC ct (ix+1) c (ix+1)=c
  unfold updC;rw[bd rfl]
 refine⟨λd o z=>?_,λy F=>?_,λd o z=>?_⟩
 .rcases zU.1 o with rfl|o
  .rw[v];exact List.mem_cons_self
  .rw[u d o];exact List.mem_cons_of_mem _ (h.a d o z)
 .rcases List.mem_cons.1 F with rfl|F
  .exact⟨I,_,zU.2 (.inl rfl),rfl,rfl,v⟩
  .obtain⟨A,d,J,O,U,V⟩:=h.b y F;exact⟨A,d,zU.2 (.inr J),O,U,(u d J).trans V⟩
 .rcases zU.1 o with rfl|o
  .have A:isDk x.orig=false:=z;rw[I]at A;cases A
  .exact h.n d o z
theorem DskP.free (h:DskP D L ct){o:a0}{n:ae}(y:isDk o=ak)(z:n<1048576)(u:∀ x∈D,x.1≠o/\x.2.1≠n):∀ e∈L,e.orig≠o/\e.num≠n:=λe v=>by
 cases hx:isDk e.orig with
 | true=>exact u _ (h.a e v hx)
 | false=>
  have A:=h.n e v hx;exact⟨(λh=>by rw[h,y]at hx;cases hx),by omega⟩
end
theorem infoR: (Tryz.prog.info? 56).map (λi=>(i.zero,i.size,i.bytes))=af (af (au #[bo,ai aj 0,ah ag 0 0,ah ag 0 0,ah ag 0 0,ah ag 0 0,ah ag 0 0,bo,ai aj 0,bo,bo,ai aj 0]),12,208):=by kernel_rfl
def rflat (l:B Rec):B bi:=l.flatMap (λr=>r.vals.toList)
theorem zJb (l:B Rec)(r:Rec):rflat (l++[r])=rflat l++r.vals.toList:=by simp[rflat]
theorem zMe (r:Rec)(j:ab)(h:j<12):r.vals.toList[j]?=af (r.cell j):=by
 unfold bs
 match j,h with
 | 0,_=>rfl
 | 1,_=>rfl
 | 2,_=>rfl
 | 3,_=>rfl
 | 4,_=>rfl
 | 5,_=>rfl
 | 6,_=>rfl
 | 7,_=>rfl
 | 8,_=>rfl
 | 9,_=>rfl
 | 10,_=>rfl
 | 11,_=>rfl
theorem zIL : ∀ (l:B Rec) (i:ab) (r:Rec),l[i]?=af r->∀ j,j<12->(rflat l)[i*12+j]?=af (r.cell j)
 | [],i,d,h,j,o=>by simp at h
 | x::t,0,d,h,j,o=>by
  simp at h;subst h;have:rflat (x::t)=x.vals.toList++rflat t:=by simp[rflat]
  rw[this,List.getElem?_append_left (by simp[bs];omega)]
  simpa using zMe x j o
 | x::t,i+1,d,h,j,o=>by
  have:rflat (x::t)=x.vals.toList++rflat t:=by simp[rflat]
  rw[this,List.getElem?_append_right (by simp[bs];omega)];have u:=zIL t i d (by simpa using h) j o;rw[show (i+1)*12+j-x.vals.toList.length=i*12+j from by simp[bs];omega];exact u
theorem zGd (r:Rec):∀ u∈r.vals.toList,u.oneCell'=true:=by
 intro u h;simp[bs]at h;rcases h with rfl|rfl|rfl|rfl|rfl|rfl|rfl|rfl|rfl|rfl|rfl|rfl<;>rfl
theorem Recs.of_own {e:TypeId}{v:bi}{l:B Rec}(h:w.ownsRow u e 12 v (l:ab) (rflat l))(z:∀ r∈l,RecOk w r):
  ∃ a o,v=ah a l o/\Recs w a o l/\∀ y,a=af y->u<=y.block:=by
 obtain⟨_,⟨rfl,A⟩|⟨g,o,F,rfl,O,I,U,A,h3,V⟩⟩:=h
 .have:l=[]:=de A;subst this;exact⟨ag,0,rfl,Recs.nil w,λ_ e=>by cases e⟩
 .refine⟨af ⟨g,0,ag⟩,o,rfl,⟨U,A,(λe=>by cases e),z,?_⟩,λy e=>by cases e;exact O⟩;intro y e X;cases e;refine⟨rfl,zC I,λi d J j Y=>?_⟩;rw[zB I];simp only[Nat.zero_add];have Z:i<(l:ab):=(List.getElem?_eq_some_iff.1 J).1;have N:(F.toList.take ((l:ab)*12))[i*12+j]?=(rflat l)[i*12+j]?:=by rw[V]
  rw[List.getElem?_take_of_lt (by omega),zIL l i d J j Y]at N;rw[<-Array.getElem?_toList,N]
def numOf (p d:Dev)(k:ab):Prop:=d.orig=p.orig++⟨#[112]⟩++⟨(ba k).toArray⟩
theorem zQm (k:ab)(o:1<=k)(u:k<=16):ba k=if k<10 then [dn (48+k)]else [49,dn (48+k % 10)]:=by
 rw[ba];by_cases h:k<10;·rw[dif_pos h,bd h]
 .rw[dif_neg h,bm h,ba,dif_pos (by omega)];have:k / 10=1:=by omega
  rw[this];rfl
theorem zJ6: ∀ k:ab,1<=k->k<=16->da (ba k)=.ok (k:ae):=by
 intro k h o;rw[zQm k h o];rcases(by omega:k=1\/k=2\/k=3\/k=4\/k=5\/k=6\/k=7\/k=8\/k=9\/k=10\/k=11\/k=12\/k=13\/k=14\/k=15\/k=16)with rfl|rfl|rfl|rfl|rfl|rfl|rfl|rfl|rfl|rfl|rfl|rfl|rfl|rfl|rfl|rfl<;>rfl
theorem zGj:(partB p d).isSome=ak↔d.kind=2/\p.kind=2/\∃ k:ab,1<=k/\k<=16/\numOf p d k:=by
 constructor
 .intro h;rcases hv:da (zAR p d).data.toList with v|_|_
  .rw[zFi hv]at h;split at h
   .rename_i O;obtain⟨z,F,I,o,A,U⟩:=O;refine⟨A,U,v.toNat,by omega,by omega,?_⟩;unfold cutB bg at z;unfold zAR db bg at o;rw[bd z]at o;obtain⟨t,J⟩:=List.isPrefixOf_iff_prefix.1 z;rw[<-J]at o;replace o:ba v.toNat=t:=by rw[o];exact dd
    unfold numOf;apply cn;apply cw;rw[<-J,o];simp[cy]
   .cases h
  .rw[zD6 (λv e=>by rw[hv]at e;cases e)]at h;cases h
  .rw[zD6 (λv e=>by rw[hv]at e;cases e)]at h;cases h
 .rintro ⟨z,F,k,I,o,A⟩;have N:d.orig.data.toList=(p.orig++⟨#[112]⟩).data.toList++ba k:=by
   unfold numOf at A;rw[A];simp[cy]
  have u:bg d.orig.data.toList (p.orig++⟨#[112]⟩).data.toList=true:=by
   unfold bg;rw[N];exact List.isPrefixOf_iff_prefix.2 ⟨_,rfl⟩
  have y:(zAR p d).data.toList=ba k:=by
   unfold zAR db;rw[bd u,N];exact dd
  have hv:=zJ6 k I o;rw[<-y]at hv;rw[zFi hv,bd ⟨u,by omega,by omega,by rw[y];simp,z,F⟩];rfl
def numTxt (p:a0)(k:ab):a0:=p++⟨#[112]⟩++⟨(ba k).toArray⟩
def NumR (p o:a0)(k:ab):Prop:=(1<=k/\k<=16/\o=numTxt p k)\/(k=0/\∀ j:ab,1<=j->j<=16->o≠numTxt p j)
theorem zPN (k:ab)(h:1<=k)(o:k<=16):(ba k).length<=2:=by
 rw[ba];split;·simp
 .rw[ba,dif_pos (by omega)];simp
theorem zJg (p o:a0)(w:aq)(Z:p.size<=1000):
  aw ay 112 #[p,o] w λe w'=>(∃ k:ab,e=.returned (ai aj (k:ae))/\NumR p o k)/\w=w':=by
 have U:(p++(⟨#[112]⟩:a0)).size<=9223372036854775807:=by rw[ByteArray.size_append];show p.size+1<=_;omega
 go_enter Tryz.func112,Tryz.ntmps112;go_wp2_with fail
 go_loop [5] (λi=>∃ k:ab,1<=k/\k<=17/\i=ai aj (k:ae)/\al (∀ j:ab,1<=j->j<k->o≠numTxt p j)) (λi=>17-(bv i).toNat)
 case atStart=>exact⟨1,by omega,by omega,rfl,λj F N=>by omega⟩
 case round=>
  obtain⟨k,v,V,rfl,y⟩:=hrel;by_cases z:k<=16
  .have A:(k:ae)<=16:=by omega
   go_wp2_with fail;apply (Tryz.strconv_Itoa_small k (by omega) _).mono;rintro e w1 ⟨rfl,rfl⟩;obtain⟨u,h⟩:=ε (⟨(ba k).toArray⟩:a0)
   rw[<-h];have X:u.size<=2:=(by rw[h];simpa [ByteArray.size]using zPN k v z);have Y:(p++(⟨#[112]⟩:a0)++u).size<=9223372036854775807:=by rw[ByteArray.size_append,ByteArray.size_append];show p.size+1+u.size<=_;omega
   have O:al (numTxt p k=p++⟨#[112]⟩++u):=(by unfold al numTxt;rw[h]);clear h;rcases he:(o.toList==(p++(⟨#[112]⟩:a0)++u).toList)with _|_
   .have I:al (o≠numTxt p k):=by
     intro e;rw[O]at e;rw[<-e]at he;simp at he
    go_wp2_with fail
    go_round
    case rel=>exact⟨k+1,by omega,by omega,by go_num,λj F N=>by
     by_cases e:j=k;·subst e;exact I
     .exact y j F (by omega)⟩
    case measure=>simp[bv];omega
   .have J:al (o=numTxt p k):=by
     unfold al;rw[O];rw[beq_iff_eq,ByteArray.toList_eq,ByteArray.toList_eq]at he;exact cn (cw he)
    go_wp2;go_ret;exact⟨⟨k,rfl,.inl ⟨v,z,J⟩⟩,rfl⟩
  .have A:¬ (k:ae)<=16:=by omega
   go_wp2;go_ret;exact⟨⟨0,rfl,.inr ⟨rfl,λj F N=>y j F (by omega)⟩⟩,rfl⟩
theorem zMq (h:NumR p.orig d.orig k)(u:d.kind=2)(v:p.kind=2):(partB p d).isSome=decide (0<k):=by
 rw[Bool.eq_iff_iff,zGj,decide_eq_true_iff];constructor
 .rintro ⟨_,_,j,y,z,A⟩;rcases h with⟨o,_,_⟩|⟨_,o⟩
  .omega
  .exact bh A (o j y z)
 .intro J;rcases h with⟨o,F,I⟩|⟨o,_⟩
  .exact⟨u,v,k,o,F,I⟩
  .omega
theorem zD5 (h:¬ (d.kind=2/\p.kind=2)):(partB p d).isSome=false:=by
 cases hb:(partB p d).isSome with
 | false=>rfl
 | true=>
  have:=zGj.1 hb;exact bh ⟨this.1,this.2.1⟩ h
theorem zMj (a:ao ar)(o:ab)(ds:B Dev)(n:ae)(w:aq)(hl:Devs w a o ds)(hT:TreeOk ds):
  aw ay 71 #[au #[ah a ds o],n] w λe w'=>(∃ k:ae,e=.returned (.tuple #[k,.bool (partOf ds n).isSome]))/\Fr No w w':=by
 have Y:Fr No w (w.alloc (am #[ah a ds o] 48)):=(bq _ _).alloc _;have q2:=zF w (am #[ah a ds o] 48);have A:=hl.no Y (λ_=>id);go_enter Tryz.func71,Tryz.ntmps71;go_wp2_with fail;generalize w.alloc (am #[ah a ds o] 48)=W0 at *;clear hl;cases hlk:look ds n with
 | none=>
  apply (zAg a o ds n _ A hlk).mono;rintro e J ⟨rfl,u⟩;have V:al ((partOf ds n).isSome=ap):=by unfold al partOf;rw[hlk];rfl
  have N:Fr No J (J.alloc (am Dev.zero.vals 41)):=(bq _ _).alloc _;have O:=N.heap (u.heap q2 id) id;have q6:=zF J (am Dev.zero.vals 41);have z:=(A.no u (λ_=>id)).no N (λ_=>id);have U:=zh ((Y.step u zi).step N zi);have c2:(J.alloc (am Dev.zero.vals 41)) ⟨w,0,ag⟩=af (ah a ds o):=zB O 0;unfold bj cg at *;clear A N u Y q2;go_wp2_with fail;apply (zAg a o ds 0 _ z hT.zero).mono;rintro e Z ⟨rfl,v⟩;have Hf:=zh ((U.step v zi).alloc (am Dev.zero.vals 41));unfold bj cg at *;clear v z hlk;go_wp2;go_ret2;exact⟨⟨0,by rw[V];rfl⟩,Hf⟩
 | some d=>
  apply (zAv a o ds n d _ A hlk).mono;rintro e J ⟨rfl,u⟩;have hd:=zAL hlk;have N:Fr No J (J.alloc (am d.vals 41)):=(bq _ _).alloc _;have O:=N.heap (u.heap q2 id) id;have q6:=zF J (am d.vals 41);have z:=(A.no u (λ_=>id)).no N (λ_=>id);have U:=zh ((Y.step u zi).step N zi);have c2:(J.alloc (am d.vals 41)) ⟨w,0,ag⟩=af (ah a ds o):=zB O 0;have a2:=zh hlk;have Hd:=zh hd.1;unfold bj at *;clear A N u Y q2 hlk hd;go_wp2_with fail;cases hlp:look ds d.parent with
  | none=>
   apply (zAg a o ds d.parent _ z hlp).mono;rintro e Z ⟨rfl,v⟩;have V:al ((partOf ds n).isSome=ap):=(by unfold al partOf;rw[a2.out];simp only;rw[hlp];rfl);have Hf:=zh ((U.step v zi).alloc (am Dev.zero.vals 41));unfold bj cg at *;clear v z hlp;go_wp2;go_ret2;exact⟨⟨0,by rw[V];rfl⟩,Hf⟩
  | some p=>
   apply (zAv a o ds d.parent p _ z hlp).mono;rintro e Z ⟨rfl,v⟩;have V:al (partOf ds n=partB p d):=(by unfold al partOf;rw[a2.out];simp only;rw[hlp]);have Hp:=zh (zAL hlp).1;have hz:Fr No Z (Z.alloc (am p.vals 41)):=(bq _ _).alloc _;have a3:=hz.heap (v.heap q6 id) id;have q8:=zF Z (am p.vals 41);have X:=zh ((U.step v zi).step hz zi);unfold bj at *;obtain⟨-,-,-,d3,-,-,-,d7⟩:=cl8 a3;obtain⟨-,-,-,p3,-,-,-,p7⟩:=cl8 q8;have a6:=hT.sz p Hp;clear v z hlp hz a3 q6 q8 O c2;by_cases F:d.kind=2
   .have a4:(d.kind != 2)=false:=(by simpa using F);by_cases I:p.kind=2
    .have a5:(p.kind != 2)=false:=(by simpa using I);have Hk:=zg2 F I;clear F I;go_wp2_with fail;apply (zJg p.orig d.orig _ (by omega)).mono;rintro e w3 ⟨⟨k,rfl,hN⟩,rfl⟩;have y:al ((partOf ds n).isSome=decide (0<k)):=(by unfold al;rw[V];exact zMq hN Hk.1 Hk.2);clear hN;go_wp2;go_ret2;exact⟨⟨(k:ae),by rw[y];rfl⟩,X⟩
    .have a5:(p.kind != 2)=true:=(by simpa using I);have y:al ((partOf ds n).isSome=ap):=(by unfold al;rw[V];exact zD5 (λh=>I h.2));go_wp2;go_ret2;exact⟨⟨0,by rw[y];rfl⟩,X⟩
   .have a4:(d.kind != 2)=true:=(by simpa using F);have y:al ((partOf ds n).isSome=ap):=(by unfold al;rw[V];exact zD5 (λh=>F h.1));go_wp2;go_ret2;exact⟨⟨0,by rw[y];rfl⟩,X⟩
theorem zHX (a:ao ar)(o:ab)(ds:B Dev)(n:ae)(w:aq)(hl:Devs w a o ds)(hT:TreeOk ds):
  aw ay 33 #[au #[ah a ds o],n] w λe w'=>e=.returned (.bool (virB ds n))/\Fr No w w':=by
 obtain⟨Z,N,O,q0⟩:=zy w (am #[ah a ds o] 48);have t0:Z ⟨w,0,ag⟩=af (ah a ds o):=zB q0 0;have v:=hl.no O (λ_=>id);clear hl;go_enter Tryz.func33,Tryz.ntmps33;go_upto_region 1 with(fail)
 rw[<-N];clear N;cases hlk:look ds n with
 | none=>
  have F:al (virB ds n=ap):=by unfold al virB;rw[hlk]
  have y:=zAg a o ds n Z v hlk;have X:=zh O;clear hlk v O;go_wp2_with fail;apply y.mono;rintro e Y ⟨rfl,z⟩;have Hf:=zh ((X.step z zi).alloc (am Dev.zero.vals 41));unfold bj cg at *;clear z y;go_wp2;go_ret;exact⟨by rw[F];rfl,Hf⟩
 | some d=>
  have F:al (virB ds n=((partOf ds n).isSome||((d.parent==0)&&(bg d.orig.data.toList [109,100,45]||Lib.hasPrefix d.orig.data.toList [111,112,101,110,45]||Lib.hasPrefix d.orig.data.toList [108,118,45])))):=by unfold al virB;rw[hlk];rfl
  have y:=zAv a o ds n d Z v hlk;have a2:al (∀ W,aw ay 72 #[d.orig,bn ⟨#[109,100,45]⟩] W λe w'=>e=.returned (.bool (bg d.orig.data.toList [109,100,45]))/\W=w'):=λW=>(cu d.orig ⟨#[109,100,45]⟩ W).mono (λe w' h=>⟨h.1,h.2.symm⟩)
  have a3:al (∀ W,aw ay 72 #[d.orig,bn ⟨#[111,112,101,110,45]⟩] W λe w'=>e=.returned (.bool (bg d.orig.data.toList [111,112,101,110,45]))/\W=w'):=λW=>(cu d.orig ⟨#[111,112,101,110,45]⟩ W).mono (λe w' h=>⟨h.1,h.2.symm⟩)
  have a4:al (∀ W,aw ay 72 #[d.orig,bn ⟨#[108,118,45]⟩] W λe w'=>e=.returned (.bool (bg d.orig.data.toList [108,118,45]))/\W=w'):=λW=>(cu d.orig ⟨#[108,118,45]⟩ W).mono (λe w' h=>⟨h.1,h.2.symm⟩)
  generalize bg d.orig.data.toList [109,100,45]=p0 at *;generalize bg d.orig.data.toList [111,112,101,110,45]=p1 at *;generalize bg d.orig.data.toList [108,118,45]=p2 at *;have X:=zg2 O v;have Q0:=zh q0;clear hlk v O q0;go_wp2_with fail;apply y.mono;rintro e Y ⟨rfl,z⟩;obtain⟨W2,I,h2,d2⟩:=zy Y (am d.vals 41);have u:=z.step h2 zi;have U:=zMj a o ds n W2 (X.2.no u (λ_=>id)) hT;have a5:=zh (X.1.step u zi);have t2:W2 ⟨w,0,ag⟩=af (ah a ds o):=zB (u.heap Q0 id) 0;have D2:=zh d2;unfold bj at I ⊢;clear y z h2 d2 u t0;go_upto_region 2 with(fail)
  rw[<-I];clear I;go_wp2_with fail;apply U.mono;rintro e V ⟨⟨k,rfl⟩,J⟩;have d3:=J.heap D2 id;have c1:V ⟨Y,1,ag⟩=af (ai aj d.parent):=(DevB.of d3).c1;have c3:V ⟨Y,3,ag⟩=af (bn d.orig):=(DevB.of d3).c3;have A:=zh (a5.step J zi);clear U J d3 t2;generalize (partOf ds n).isSome=pt at *;generalize a6:(d.parent==0)=pp at *;cases pt with
  | true=>
   go_wp2;go_ret;exact⟨by rw[F];rfl,A⟩
  | false=>
   cases pp with
   | false=>
    go_wp2;go_ret;exact⟨by rw[F];rfl,A⟩
   | true=>
    go_wp2_with fail;apply (a2 V).mono;rintro e w4 ⟨rfl,rfl⟩;cases p0 with
    | true=>
     go_wp2;go_ret;exact⟨by rw[F];rfl,A⟩
    | false=>
     go_wp2_with fail;apply (a3 V).mono;rintro e w4 ⟨rfl,rfl⟩;cases p1 with
     | true=>
      go_wp2;go_ret;exact⟨by rw[F];rfl,A⟩
     | false=>
      go_wp2_with fail;apply (a4 V).mono;rintro e w4 ⟨rfl,rfl⟩;go_wp2;go_ret;exact⟨by rw[F.out];simp,A.out⟩
def recA (p:a0)(i:ae)(pa:ao ar)(ps:B (a0×a0)):Rec:=⟨p,i,ps,[],pa,(ps:ab),ag,0,ag,0,0,ag,0,0,ag,0,0,(),0,(),(),0⟩
def recL (ds l:B Dev):B Rec:=l.map λd=>recA (pathOf (origin ds d.index)) d.index ag []
theorem zOo (w:aq)(ds l:B Dev):∀ r∈recL ds l,RecOk w r:=λr h=>by
 obtain⟨d,_,rfl⟩:=List.mem_map.1 h;exact⟨Atts.nil w,Strs.nil w⟩
theorem zJq (tv:bi)(a:ao ar)(o:ab)(ds:B Dev)(w:aq)(hl:Devs w a o ds)(hT:TreeOk ds)(hn:(ds:ab)<=1000):
  aw ay 29 #[tv,au #[ah a ds o],.bool ak] w λe w'=>(∃ ra rc,e=.returned (ah ra (recL ds ds).length rc)/\Recs w' ra rc (recL ds ds)/\(∀ ad,ra=af ad->(w:ab)<=ad.block)/\BlkT w' ra 56)/\Fr No w w':=by
 obtain⟨i0,d4,d5,d6,d7⟩:=info_parts infoR;have hm:=hl.lenmax;have h0:Fr No w (w.alloc (am #[ah a ds o] 48)):=(bq _ _).alloc _;have q3:=zF w (am #[ah a ds o] 48);have g1:(w.alloc (am #[ah a ds o] 48)).heap.size=(w:ab)+1:=by simp
 have a9:=hl.no h0 (λ_=>id);have d8:=zh h0;go_enter Tryz.func29,Tryz.ntmps29;go_wp2_with fail;generalize w.alloc (am #[ah a ds o] 48)=w1 at *;clear hl h0;go_loopw [7,8] (λv i wr=>∃ (k:ab) (R:B Rec) (av:ao ar) (cv:ab),k<=(ds:ab)/\v=ah av R cv/\i=ai aj (k:ae)/\al (R=recL ds (ds.take k))/\(R:ab)<=k/\wr.ownsRow (w1:ab) 56 12 (ah av R cv) (R:ab) (rflat R)/\Fr (From (w1:ab)) w1 wr) (λ_ i _=>(ds:ab)-(bv i).toNat);case atStart=>exact⟨0,[],ag,0,by omega,rfl,rfl,by unfold al recL;simp,by simp,World.ownsRow_nil _ _ _ _,bq _ _⟩
 case round=>
  obtain⟨k,R,av,cv,g2,rfl,rfl,HR,g4,u,z⟩:=hrel;obtain⟨Y,rfl⟩:=ε wr
  have b0:∀ b,b<(w1:ab)->¬ From (w1:ab) b:=λb h1 h3=>by omega
  have O:=z.heap q3 (b0 _ (by omega));have c4:Y ⟨w,0,ag⟩=af (ah a ds o):=zB O 0;have g5:=z.size;by_cases a4:k<(ds:ab)
  .have e8:(k:ae)<(ds:ab):=by omega
   have A:Devs Y a o ds:=a9.fr z (λad e d9=>b0 _ (a9.cell ad e d9).2.1);obtain⟨bb,b1,x,V,a5,y0,_,_,_,_,_,_,_,_,_⟩:=A.dev a4;have e0:=(A.cell _ V (by intro e;rw[e]at a4;simp at a4)).2.1;have a3:=A;rw[V]at A;have g6:=hT.ix x (be a5);have e1:al (recL ds (ds.take (k+1))=recL ds (ds.take k)++[recA (pathOf (origin ds x.index)) x.index ag []]):=by
    unfold al recL;rw[List.take_add_one,a5,dh];rfl
   have g7:=zh V;have e2:=zh z;rw[V]at c4 O;clear a5 z V;simp only at e0;go_upto_region 5 with(fail)
   go_cut [9] (λv wc=>∃ b7,v=bw (af ⟨b7,0,ag⟩)/\wc.heap[b7]?=af (am (recA (pathOf (origin ds x.index)) x.index ag []).vals 56)/\(Y:ab)<=b7/\Fr No Y wc);case first=>
    refine zZ (From (Y:ab)) (.q 0 (.q 1 (.q 2 (.q 3 (.q 4 (.q 5 (.q 6 (.q 8 (.q 9 (.q 10 (.q 11 (.q 12 (.q 13 (.m2 7 (.q 14 (.m1 15 (.m1 16 .fin))) 15 (.m1 7 (.q 14 (.m1 16 .fin))))))))))))))))) _ (λw0 U=>?_) zj;have g8:=U.size;have g9:=zC O;have g3:∀ g:Gr (From (Y:ab)) w0,g.W ⟨w,0,ag⟩=af (ah (af ⟨bb,b1,ag⟩) ds o):=λg=>g.fr.cell (zB (U.heap O id) 0) (by unfold From;simp only;omega)
    have g0:∀ g:Gr (From (Y:ab)) w0,g.W ⟨bb,b1+k*10,ag⟩=af (ai aj x.index):=λg=>g.fr.cell (U.cell y0 id) (by unfold From;simp only;omega)
    have b2:=A.no U (λ_=>id);have b3:=zh U;obtain⟨rx,b4⟩:=ε (recA (pathOf (origin ds x.index)) x.index ag [])
    have h2:=zh b4;clear y0 O A a3 u U b4 c4;(repeat apply zN rfl rfl rfl;intro e9 hK;go_big_quiet_op;go_big_quiet_on);clear g3 g0;refine zAC rfl rfl ?_ ?_
    .go_wp2_with fail;apply (zD1 _ o ds x.index _ b2 hT (by omega)).mono;rintro e w5 ⟨rfl,y⟩;generalize e3:pathOf (origin ds x.index)=pp at *;go_wp2_with fail;apply zm y;(repeat apply zN rfl rfl rfl;intro e9 hK;go_big_quiet_op;go_big_quiet_on);apply zH rfl;go_wp2_with fail;apply zp;apply zH rfl;go_wp2_with fail;refine OnlyN.mk ⟨Fr.swap _ _ _ (by have:=y.size;omega),?_⟩;apply zW;go_wp2;go_meet;exact⟨(w5:ab),rfl,zF _ _,by have:=y.size;omega,(b3.step y zi).alloc _⟩
    .go_wp2_with fail;apply zp;generalize hX:w0.alloc (am #[(),ai aj 0,ah ag 0 0,ah ag 0 0,ah ag 0 0,ah ag 0 0,ah ag 0 0,(),ai aj 0,(),(),ai aj 0] 56)=X;have e4:X.heap[(w0:ab)]?=af (am #[(),ai aj 0,ah ag 0 0,ah ag 0 0,ah ag 0 0,ah ag 0 0,ah ag 0 0,(),ai aj 0,(),(),ai aj 0] 56):=(by rw[<-hX];exact zF _ _);have b5:Fr No w0 X:=(by rw[<-hX];exact(bq _ _).alloc _);clear hX;apply zH rfl;go_wp2_with fail;apply (zD1 _ o ds x.index _ (b2.no b5 (λ_=>id)) hT (by omega)).mono;rintro e w5 ⟨rfl,y⟩;generalize e3:pathOf (origin ds x.index)=pp at *;go_wp2_with fail;apply zm y;(repeat apply zN rfl rfl rfl;intro e9 hK;go_big_quiet_op;go_big_quiet_on);apply zH rfl;have a6:=y.heap e4 id;obtain⟨z0,z1,z2,z3,z4,z5,z6,z7,z8,z9,b6,b8⟩:=cl12 a6;obtain⟨y0,y1,y2,y3,y4,y5,y6,y7,y8,y9,h4,h5⟩:=fl12 a6;go_wp2_with fail;have Z:=zOj a6 rfl (recA pp x.index ag []);unfold recA at Z;refine OnlyN.mk ⟨Z.2.mono (λ_ _ h=>by omega),?_⟩;apply zW;go_wp2;go_meet;exact⟨(w0:ab),rfl,Z.1,by omega,((b3.step b5 zi).step y zi).step Z.2 (λb hb e=>by omega)⟩
   case rest=>
    obtain⟨b7,rfl,q7,h6,a2⟩:=hcut;obtain⟨W5,rfl⟩:=ε wc
    have F:=zAa u a2 (λ_ _=>id);have e5:=zh (e2.step a2 zn);have h7:=a2.size;generalize pathOf (origin ds x.index)=pp at *;unfold bs recA at q7;simp only[List.length_nil]at q7;obtain⟨z0,z1,z2,z3,z4,z5,z6,z7,z8,z9,b6,b8⟩:=cl12 q7;clear y0 O A a3 u c4 q7 a2;go_wp2_with (at_builtin;refine wpList_append_own _ rfl _ _ 84 rfl (w1:ab) 56 i0 (au #[bo,ai aj 0,ah ag 0 0,ah ag 0 0,ah ag 0 0,ah ag 0 0,ah ag 0 0,bo,ai aj 0,bo,bo,ai aj 0]) 12 208 Tryz.underlying84 d4 d5 d6 d7 rfl (by decide) _ _ _ rfl (F.alloc _) ⟨W5,0,ag⟩ 1 1 [bn pp,ai aj x.index,ah ag 0 0,ah ag 0 0,ah ag 0 0,ah ag 0 0,ah ag 0 0,bn (),ai aj 0,bn (),bn (),ai aj 0] rfl rfl (zk _ _ _ rfl) (zGd (recA pp x.index ag [])) (by unfold maxLen;omega) (by omega) (by first|omega|(simp;omega)) ?_;intro v' w7 I J _;obtain⟨b9,d0,rfl⟩:=zI I)
    have d1:Fr (From (w1:ab)) W5 w7:=zCG F J;have e6:=zh (e5.step d1 (λb hb h=>h));have a7:al (w7.ownsRow (w1:ab) 56 12 (ah b9 (R++[recA pp x.index ag []]).length d0) (R++[recA pp x.index ag []]).length (rflat (R++[recA pp x.index ag []]))):=by
     unfold al;rw[zJb,ci];exact I
    have d2:(R:ab)+1=(R++[recA pp x.index ag []]).length:=(by simp);clear d1 I J F z0 z1 z2 z3 z4 z5 z6 z7 z8 z9 b6 b8;go_roundw;case rel=>exact⟨k+1,R++[recA pp x.index ag []],b9,d0,by omega,by rw[<-d2],by go_num,by unfold al;rw[e1,HR],by rw[<-d2];omega,a7,e6⟩
    case measure=>simp[bv];omega
  .obtain rfl:k=(ds:ab):=by omega
   have hR:=HR.out;rw[cm]at hR;obtain⟨a',c',e7,a8,N⟩:=Recs.of_own u (λr hr=>zOo _ ds ds r (hR▸hr));cases e7;rw[hR]at a8 ⊢;have d3:=zAO u;have H:=zg3 (And.intro a8 d3) N ((d8.step z (λb hb h=>by omega)));clear u z a8 N hR HR d3;go_wp2;go_ret;exact⟨⟨_,_,rfl,H.1.1,λad e=>by have:=H.2.1 ad e;omega,H.1.2⟩,H.2.2⟩
structure StK (W:aq)(tb sb:ab)(ka ea:ao ar)(kc ec:ab)(K E:B a0):Prop where
 box:W.heap[sb]?=af (am #[ah ka K kc,ai aj 0] 32)
 ks:Strs W ka kc K
 es:Strs W ea ec E
 kt:BlkT W ka 9
 et:BlkT W ea 9
 kf:∀ ad,ka=af ad->tb<ad.block
 ef:∀ ad,ea=af ad->tb<ad.block
 sf:tb<sb
section
variable {W W':aq}{tb sb:ab}{ka ea:ao ar}{kc ec:ab}{K E:B a0}
theorem StK.fr (h:StK W tb sb ka ea kc ec K E)(u:Fr S W W')(z:¬ S sb)(v:∀ o,ka=af o->¬ S o.block)(y:∀ o,ea=af o->¬ S o.block):StK W' tb sb ka ea kc ec K E:=
 ⟨u.heap h.box z,h.ks.fr u (λo e _=>v o e),h.es.fr u (λo e _=>y o e),h.kt.fr u v,h.et.fr u y,h.kf,h.ef,h.sf⟩
theorem StK.no (h:StK W tb sb ka ea kc ec K E)(o:Fr No W W'):StK W' tb sb ka ea kc ec K E:=h.fr o id (λ_ _=>id) (λ_ _=>id)
theorem StK.tape (h:StK W tb sb ka ea kc ec K E)(u:Fr (Is tb) W W'):StK W' tb sb ka ea kc ec K E:=
 h.fr u (λe=>by have:=h.sf;omega) (λo e v=>by have:=h.kf o e;omega) (λo e v=>by have:=h.ef o e;omega)
theorem StK.ev {y:ab}(h:StK W tb sb ka ea kc ec K E)(u:EvF y o W W')(v:W.heap[y]?=af (am cs 62)):StK W' tb sb ka ea kc ec K E:=by
 refine h.fr u (λz=>?_) (u.bt h.kt v (by decide) (by decide)) (u.bt h.et v (by decide) (by decide));exact u.bt (a:=af ⟨sb,0,ag⟩) (T:=32) (λA e=>by cases e;exact⟨_,h.box⟩) v (by decide) (by decide) _ rfl z
end
theorem KA.v {y:ae}(h:KA W u o L ct y n):∃ v,W ⟨u,3,ag⟩=af v:=by
 obtain⟨a,z,ds,F,I,J,A,_⟩:=h;exact⟨_,zB A.blk 3⟩
def KSep (W:aq)(kb kc:ab):Prop:=∀ u v b,W ⟨kb,3,ag⟩=af u->W ⟨kc,3,ag⟩=af v->u.ownBlock=af b->v.ownBlock=af b->False
theorem KSep.symm {y:ab}(h:KSep W o y):KSep W y o:=λu v b z A F I=>h v u b A z I F
theorem KSep.fr {I:aq}{X Y Z:ab}{A:ae->a0}{F:ae}(h:KSep W o z)(J:Fr S W I)(h1:¬ S o)(h2:¬ S z)(hB:KA W o Z L ct ix X)(hC:KA W z bc L' A F Y):KSep I o z:=λu v b N O=>by
 obtain⟨x,U⟩:=hB.v;obtain⟨y,V⟩:=hC.v;have e1:=J.cell U h1;have e2:=J.cell V h2;rw[e1]at N;rw[e2]at O;cases N;cases O;exact h _ _ b U V
theorem KA.other {U V nc:ab}{a6:ae->a0}{a7:ae}(hB:KA w U V L ct ix n)(hC:KA w I bc L' a6 a7 nc)(a8:U≠I)(J:KSep w U I)(hg:EvG I w w'):KA w' U V L ct ix n/\KSep w' U I:=by
 obtain⟨y,hy⟩:=hC.v;obtain⟨Y,hn⟩:=hg y hy;obtain⟨a2,b2,b3,z,A,F,g1,_⟩:=hC;obtain⟨b4,a3⟩:=g1.own;have a9:y=ah z A F:=by
  rw[show w ⟨I,3,ag⟩=af (ah z A F)from zB g1.blk 3]at hy;cases hy;rfl
 subst a9;obtain⟨a,b0,ds,ev,en,ec,N,h2,h3,h4⟩:=hB;have hT:∀ b cs T,w.heap[b]?=af (am cs T (0,0))->(b=I\/(bu z A F).ownBlock=af b)->T=62\/T=104:=λb cs T X J=>by
  rcases J with rfl|J
  .rw[g1.blk]at X;cases X;exact .inl rfl
  .refine .inr (Classical.byContradiction λhT=>zJ a3 X hT J)
 have a4:¬ (U=I\/(bu z A F).ownBlock=af U):=λh=>by
  rcases h with h|h
  .exact a8 h
  .exact zJ a3 N.blk (by decide) h
 have Z:∀ d∈ds,∀ o,d.aa=af o->¬ (o.block=I\/(bu z A F).ownBlock=af o.block):=λd hd o e J=>by
  obtain⟨x,O⟩:=N.te d hd o e;rcases hT _ _ _ O J with h|h<;>exact bh h (by decide)
 have a5:∀ o,a=af o->¬ (o.block=I\/(bu z A F).ownBlock=af o.block):=λo e J=>by
  obtain⟨x,O⟩:=N.ta o e;rcases hT _ _ _ O J with h|h<;>exact bh h (by decide)
 have hv:w ⟨U,3,ag⟩=af (ah ev en ec):=zB N.blk 3;obtain⟨xs,O⟩:=N.own;have b1:∀ b,(bu ev en ec).ownBlock=af b->¬ (b=I\/(bu z A F).ownBlock=af b):=λb X h=>by
  rcases h with rfl|h
  .exact zJ O g1.blk (by decide) X
  .exact J _ _ b hv hy X h
 refine⟨⟨a,b0,ds,ev,en,ec,⟨Y.heap N.blk a4,N.tr.foot Y (λb X=>?_),N.ta.fr Y (λo e=>a5 o e),λd hd=>(N.te d hd).fr Y (λo e=>Z d hd o e),⟨xs,zG O Y b1⟩,N.nm⟩,h2,AttOf.fr h3 Y Z,h4⟩,λu v b q1 q2 q3 q4=>?_⟩
 .rcases X with⟨o,e,rfl⟩|⟨x,O,o,e,rfl⟩
  .exact a5 o e
  .exact Z x O o e
 .rw[Y.cell hv a4]at q1;cases q1;rcases hn v b q2 q4 with h|h
  .exact J _ _ b hv hy q3 h
  .have:=(zAH O q3).2;omega
end Go.Proofs.YtjoipgjdpnjjiaaGreatDoor
