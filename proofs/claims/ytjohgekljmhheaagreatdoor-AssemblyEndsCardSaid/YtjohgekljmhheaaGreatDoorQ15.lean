import Derived.Test.YtjohgekljmhheaaGreatDoorQ14
namespace Go.Proofs.YtjohgekljmhheaaGreatDoor
open Go.RowKit Go.Maps
set_option linter.unusedVariables false
set_option maxRecDepth 100000
set_option maxHeartbeats 2000000
open ArrM renaming toArr->cu
open AscS renaming nodup->cw
open Ct renaming txt->bb
open Go renaming World->aq,Addr->au,Calls->bc,Value->bn
open Go.Proofs.Tryz renaming prog->bf
open IntKind renaming i64->ak
open Mem renaming i->bo,l->bp,k->bx
open Ne renaming symm->bq
open Obj renaming cells->aw
open Prod renaming fst->bh,snd->bz
open Value renaming slice->ai,int->aj,agg->ba,pointer->ce
open Vir renaming o->cb
open _root_ renaming List->B,ByteArray->a0,Nat->ab,Int->ad,congrArg->ag,Option->al,absurd->ao,True->ar,Bool->ax,if_pos->az,if_neg->bg,decide_eq_true->bm,of_decide_eq_true->cd,decide_eq_true_eq->cr
open _root_.Bool renaming true->ae,false->ah,and_eq_true->bi,false_or->cx,not_true->cy,or_eq_true->cz
open _root_.ByteArray renaming append_assoc->da,ext->db
open _root_.Int renaming toNat_natCast->dc
open _root_.List renaming mem_map_of_mem->ap,mem_of_getElem?->ay,length_map->bd,take_length->be,range->bj,filterMap_cons_none->br,filterMap_cons_some->bs,length_append->bu,mem_of_find?_eq_some->bv,pairwise_map->bw,any_append->cf,any_eq_false->cg,find?_some->ch,foldl_cons->ci,getElem?_of_mem->cj,map_cons->cl,mem_of_mem_take->cm,getElem?_map->cn,length->cp,map_map->cq,Nodup->dd,mem_filterMap->de,mem_singleton->df,pairwise_append->dg,pairwise_filterMap->dh
open _root_.List.Pairwise renaming imp_of_mem->dl
open _root_.Nat renaming le_refl->di,le_trans->dj
open _root_.Option renaming some->af,none->am,map->dk
variable{v:Vir}{s:Src}{k u o n t tb:ab}{L ds K:B Dev}{m:Mem}{c:Ct}{l:B a0}{i:a0}{h:Mem->ax}{P:Vir->Prop}{O:B ArrM}{C:B Src}{M N:B Vir}{d:Dev}{tx:Dev->a0}{r r':ad}{S:ab->Prop}{f:ad->ad}{b:a0×ad->al Mem}{ct:ad->a0}{D:B (a0×ad×a0)}{w w' W F:aq}{T:TypeId}{cs:Array bn}
structure SmR (ds:B Dev)(r:ad)(S:B Src)(M:B Vir)(G:B (a0×a0)):Prop where
 m:∀ s∈S,s.d∈ds/\s.o.size<=1000000
 s:(S:ab)<=700
 v:(M:ab)<=10000
 g:(G:ab)<=10000
theorem zQ0 (c:RC)(U:aq)(V:ab)(ds:B Dev)(tx:Dev->a0)(E K:B a0)(hB:RB c U V ds tx E K)(I:ad->B Src->B Vir->B (a0×a0)->Prop)
  (hI:∀ r S M u X y Y,I r S M u->NextR ds tx E K c.C r S M u X y Y->M.length<y.length->I (r+1) X y Y) (hb:∀ r S M u,I r S M u->SmR ds r S M u)
  (sa:al au) (sc:ab) (ma:al au) (mc:ab) (S:B Src) (M:B Vir) (u:B (a0×a0)) (w:aq) (a2:Fr (From (U:ab)) U w) (h:RS c w sa sc ma mc S M u) (h1:I 1 S M u):
  bc bf 26 #[ce (af ⟨c.xb,0,am⟩)] w λe w'=>(e=.returned (ce (af ⟨c.xb,0,am⟩))/\∃ r S M u X y Y A F J N,I r S M u/\NextR ds tx E K c.C r S M u X y Y/\¬ M.length<(y:B Vir).length/\RS c w' A F J N X y Y)/\Fr (From (U:ab)) U w':=by
 have HB:=zh hB;have HI:=zh hI;have Hb:=zh hb;have HS:=zg3 h a2 h1;clear hB hI hb h a2 h1;go_enter Tryz.func26,Tryz.ntmps26;go_wp2_with fail;go_loopw [3] (λx wr=>∃ (r:ad) (S:B Src) (M:B Vir) (u:B (a0×a0)) (A:al au) (F:ab) (J:al au) (N:ab),x=aj ak r/\Hid (1<=r/\r<=M.length+1/\I r S M u)/\Hid (RS c wr A F J N S M u)/\Hid (Fr (From (U:ab)) U wr)) (λx _=>10002-(intOf x).toNat);case atStart=>exact⟨1,S,M,u,sa,sc,ma,mc,rfl,⟨by omega,by omega,HS.2.2⟩,HS.1,HS.2.1⟩
 case round=>
  obtain⟨r,Sr,Mr,Gr,A,F,J,N,rfl,HX,HR,HF⟩:=hrel;have o:=Hb.out _ _ _ _ HX.2.2;have b2:=HX.1;have b3:=HX.2.1;have hv:=o.v;have hn:=zQa c U V ds tx E K HB A F J N Sr Mr Gr r wr HF HR o.m (by have:=o.s;omega) o.s o.v o.g;have b4:=zh o;clear o;go_wp2_with fail;apply hn.mono;rintro e w1 ⟨⟨X,y,Y,a3,a4,a5,a6,rfl,a7,a8⟩,a9⟩;have z:=zg3 a7 a8 a9;clear hn a7 a8 a9;by_cases O:(Mr:ab)<y.length
  .have hd:decide ((Mr:ab)<y.length)=true:=bm O;rw[hd];have Z:=HI.out _ _ _ _ _ _ _ HX.2.2 z.2.1 O;have b5:=(Hb _ _ _ _ Z).v;have b0:=zh Z;clear Z hd;go_wp2;go_roundw;case rel=>exact⟨r+1,X,y,Y,a3,a4,a5,a6,by first|rfl|(go_num;done)|(simp;done),⟨by omega,by omega,b0.out⟩,z.1,z.2.2⟩
   case measure=>simp[intOf];omega
  .have hd:decide ((Mr:ab)<y.length)=false:=decide_eq_false O;rw[hd];have b1:=zh O;clear hd O;go_wp2;go_ret;exact⟨⟨rfl,r,Sr,Mr,Gr,X,y,Y,a3,a4,a5,a6,HX.2.2,z.2.1,b1,z.1⟩,z.2.2⟩
theorem zH9 (a ra Z ea:al au)(u rc kc ec v:ab)(wt:ad)(ds:B Dev)(L:B Rec)(tx:Dev->a0)(E K:B a0)(w:aq)(hl:Tr w v a u ds)(hn:(ds:ab)<=250)(hr:Recs w ra rc L)
  (o:Env w) (a2:Strs w ea ec E) (a3:Strs w Z kc K) (d2:(K:ab)<=1000000) (a4:∀ x∈K,x.size<=maxLen) (a5:TxS w (w:ab) tx ds)
  (I:ad->B Src->B Vir->B (a0×a0)->Prop)
  (hI:∀ r S M F V A X,I r S M F->NextR ds tx E K (cntL ds L 0 ds) r S M F V A X->M.length<A.length->I (r+1) V A X) (hb:∀ r S M F,I r S M F->SmR ds r S M F)
  (h1:I 1 ((cntL ds L 0 ds).filter λs=>!virB ds s.d.index) [] []):
  bc bf 9 #[ba #[ai a ds u],ai ra L rc,ba #[ai Z K kc,wt],ai ea E ec] w λe w'=>
   (∃ ma mc r S M F V A X,e=.returned (ai ma (A:B Vir).length mc)/\Virs w' ma mc A/\(∀ J,ma=af J->(w:ab)<=J.block/\∃ x,w'.heap[J.block]?=af (aw x 52 (0,0)))/\I r S M F/\NextR ds tx E K (cntL ds L 0 ds) r S M F V A X/\¬ M.length<A.length)/\Fr No w w':=by
 obtain⟨y,a6,z,b1,N⟩:=zw w (aw #[ai a ds u] 39) (aw #[ai Z K kc,wt] 33);have s0:=z.size;have a7:=zPm a ra Z ea u rc (K:ab) kc (E:ab) ec v wt ds L y (hl.no z) hn (hr.no z (λ_=>id)) (o.no z).err ⟨by have:=(o.no z).sz;omega,by have:=(o.no z).sz;omega⟩;have d3:Hid (∀ ca cc N,RB ⟨Z,(K:ab),kc,wt,a,(ds:ab),u,ea,(E:ab),ec,ca,cc,cntL ds L 0 ds,(y:ab)+2,(y:ab)+3,(y:ab)+4,(y:ab),N⟩ y v ds tx E K):=λca cc N=>by
  refine⟨rfl,o.no z,hl.no z,rfl,hn,a2.no z (λ_=>id),rfl,a3.no z (λ_=>id),rfl,d2,a4,?_,λs hs=>?_,?_⟩
  .intro d hd;obtain⟨l,g1,g2,g3,g4,g5⟩:=a5 d hd;exact⟨l,g1.no z (λ_=>id),g2,g3,g4,λJ e d4=>Nat.lt_of_lt_of_le (g5 J e d4) s0⟩
  .have:=zAm ds L ds 0 s hs;refine⟨this.1,?_,by omega⟩;rw[this.2.1];have:=zBp hl.wf.ok hn s.d.index;omega
  .exact dj (zCv ds L ds 0) hn
 have t1:y ⟨w,0,am⟩=af (ai a ds u):=zB b1 0;obtain⟨t2,t3⟩:=cl2 N;have d5:=zh z;have HI:=zh hI;have Hb:=zh hb;have H1:=zh h1;clear hl hr o a2 a3 a5 hI hb h1 b1 N z a4;go_enter Tryz.func9,Tryz.ntmps9;go_upto_region 1 with(fail)
 rw[<-a6];clear a6;go_wp2_with fail;apply a7.mono;rintro e w1 ⟨⟨ca,cc,N,rfl,Y,a8⟩,b3⟩;obtain⟨c,hc⟩:∃ c:RC,c=⟨Z,(K:ab),kc,wt,a,(ds:ab),u,ea,(E:ab),ec,ca,cc,cntL ds L 0 ds,(y:ab)+2,(y:ab)+3,(y:ab)+4,(y:ab),N⟩:=⟨_,rfl⟩
 have b4:=zh (d3 ca cc N);have b5:(y:ab)+4=c.xb:=by rw[hc]
 have HC:Hid (c.C=cntL ds L 0 ds):=by rw[hc];rfl
 have d6:Hid (c.b0=(y:ab)):=by rw[hc];rfl
 have O:c.b2<=(w1:ab):=by rw[hc];exact a8
 rw[<-hc]at Y b4;obtain⟨sa,sc,ma,mc,hR⟩:=Y.rs O;have U:=zQ0 c y v ds tx E K b4 I (by rw[HC];exact HI) Hb sa sc ma mc _ [] [] w1 (b3.mono zn) hR H1;rw[b5];clear hc b5 a7 Y hR t1 t2 t3 a8 O b3;go_wp2_with fail;apply U.mono;rintro e w2 ⟨⟨rfl,r,S,M,F,V,A,X,e1,e2,d7,d8,hi,b6,b7,hR⟩,b8⟩;have k8:w2 ⟨c.xb,8,am⟩=af (ai d7 A.length d8):=zB hR.k 8;obtain⟨a9,c9,d9,b9,d0⟩:=Virs.of_own hR.mo;cases d9;have HV:=zg2 b9 d0;have e0:=zh (zAI hR.mo);have HN:Hid (NextR ds tx E K (cntL ds L 0 ds) r S M F V A X):=by rw[<-HC];exact b6
 have d1:=zg2 hi b7;have HF:=zh (d5.step b8 (λb hb h=>by omega));clear U hi b6 b7 hR b8 b9 d0;go_wp2;go_ret;exact⟨⟨_,_,r,S,M,F,V,A,X,rfl,HV.1,λJ e=>⟨by have:=HV.2 J e;rw[d6]at this;omega,e0 J e⟩,d1.1,HN,d1.2⟩,HF⟩
def Grow (P:Vir->Prop)(M M':B Vir):Prop:=∃ N,M'=M++N/\(∀ v∈N,P v)/\(DistP M->DistP M')
section
variable {P:Vir->Prop}{M M' M'':B Vir}
theorem Grow.refl: Grow P M M:=⟨[],by simp,by simp,id⟩
theorem Grow.trans (h:Grow P M M')(u:Grow P M' M''):Grow P M M'':=by
 obtain⟨N,rfl,y,z⟩:=h;obtain⟨A,rfl,F,I⟩:=u;refine⟨N++A,by rw[List.append_assoc],λv o=>?_,λh=>I (z h)⟩;rcases List.mem_append.1 o with o|o
 .exact y v o
 .exact F v o
theorem Grow.one (h:P v):Grow P M (zAA M v):=by
 unfold zAA;cases e:inW M v.q v.o with
 | true=>exact Grow.refl
 | false=>
  rw[bg (by simp)];refine⟨[v],rfl,by simpa using h,λA=>?_⟩;unfold DistP;rw[dg];refine⟨A,by simp,λx F y z u=>?_⟩;simp at z;subst z;unfold inW at e;rw[cg]at e;exact e x F (by simpa using u)
theorem Grow.all : ∀ {V:B Vir} {M:B Vir},(∀ v∈V,P v)->Grow P M (zg M V)
 | [],_,_=>Grow.refl
 | v::t,M,h=>(Grow.one (h v (by simp))).trans (Grow.all λx o=>h x (by simp[o]))
end
structure NewV (S:B Src)(r:ad)(v:Vir):Prop where
 ok:VOk v
 r:v.r=r
 q:v.q≠()->∃ s∈S,s.d.parent=0/\v.q=pathOf [s.d.orig]
def Known (ds:B Dev)(tx:Dev->a0):Prop:=∀ d∈ds,InU (tx d)/\(d.parent≠0->NoTab (tx d))/\(d.parent=0->d.orig∈rootN/\plc ds d.index=pathOf [d.orig])
def SrcOk (ds:B Dev)(S:B Src):Prop:=∀ s∈S,s.d∈ds/\s.o=plc ds s.d.index
section
variable {ds:B Dev}{tx:Dev->a0}{E K:B a0}{r:ad}{S:B Src}
theorem zKu (Y:Known ds tx)(Z:SrcOk ds S)(N:s∈S):∀ v∈pwL s.o s.d (tx s.d) r,NewV S r v/\v.q≠():=by
 intro v h;obtain⟨hd,ho⟩:=Z s N;obtain⟨h1,h2,h3⟩:=Y s.d hd;unfold pwL at h;cases hc:parseC (tx s.d)with
 | none=>rw[hc]at h;simp at h
 | some c=>
  rw[hc]at h;dsimp only at h;split at h
  .rename_i O;obtain⟨z,_⟩:=h1.parse hc (by omega);have y:s.d.parent=0:=by
    by_cases e:s.d.parent=0;·exact e
    .exact ao O.1 (h2 e c hc)
   obtain⟨U,A⟩:=h3 y;obtain⟨V,F⟩:=zQR z O.1;unfold pwF at h;obtain⟨i,I,h⟩:=List.mem_flatMap.1 h;rw[List.mem_range]at I;unfold zAb at h;split at h
   .rw[df]at h;subst h;have X:((c.inner.map bb)[i]?.getD ⟨#[]⟩)=c.inner[i].txt:=(by rw[cn,List.getElem?_eq_getElem I];rfl);obtain⟨g1,g2⟩:=F c.inner[i] (List.getElem_mem I);have J:s.o=pathOf [s.d.orig]:=(by rw[ho,A]);have u:partT s.d.orig ((i:ad)+1)∈parN s.d.orig:=by
     unfold parN;have:i=0\/i=1:=(by omega);rcases this with rfl|rfl
     .simp
     .simp
    refine⟨⟨⟨?_,.inr ⟨s.d.orig,U,J,u,?_⟩,zK1 U u⟩,rfl,λ_=>⟨s,N,y,J⟩⟩,λe=>zDh _ (J.symm.trans e)⟩
    .show InU ((c.inner.map bb)[i]?.getD ⟨#[]⟩)
     rw[X];exact g1
    .show NoTab ((c.inner.map bb)[i]?.getD ⟨#[]⟩)
     rw[X];exact g2
   .simp at h
  .simp at h
theorem zKH (y:Known ds tx)(z:SrcOk ds S)(M:B Vir)(k:ab):Grow (NewV S r) M (wantS tx S M r k):=by
 unfold wantS;have u:∀ (l:B Src) (M:B Vir),(∀ s∈l,s∈S)->Grow (NewV S r) M (l.foldl (λM s=>zg M (pwL s.o s.d (tx s.d) r)) M):=by
  intro l
  induction l with
  | nil=>intro M _;exact Grow.refl
  | cons s t A=>
   intro M h;exact(Grow.all λv F=>(zKu y z (h s (by simp)) v F).1).trans (A _ λx I=>h x (by simp[I]))
 exact u _ M λs J=>cm J
theorem zBd {k:ad}(F:k≠0){y:a0->ad->Ct->Mem}(I:Known ds tx)(J:SrcOk ds S){L:B Mem}(h:L.map bx=S.filterMap (λs=>ofK k y s.o s.r (tx s.d)))(N:m∈L):∃ s∈S,∃ c∈ctsL,tx s.d=c.txt/\c.kind=k/\m.k=y s.o s.r c:=by
 have z:m.k∈L.map Mem.k:=ap N;rw[h]at z;obtain⟨s,A,u⟩:=List.mem_filterMap.1 z;unfold ofK at u;cases hc:parseC (tx s.d)with
 | none=>rw[hc]at u;cases u
 | some c=>
  rw[hc]at u;simp only at u;split at u
  .rename_i O;obtain⟨v,U⟩:=(I s.d (J s A).1).1.parse hc (by omega);exact⟨s,A,c,v,U,O,(Option.some.inj u).symm⟩
  .cases u
theorem zF8 (o:c∈ctsL)(h:l=c.inner.map bb)(i:ab):InU (l[i]?.getD ⟨#[]⟩):=by
 rw[h,cn];cases e:c.inner[i]? with
 | none=>exact zBs
 | some x=>exact zG9 o (ay e)
theorem zCr (l:B a0):l.headD ⟨#[]⟩=l[0]?.getD ⟨#[]⟩:=by cases l<;>rfl
theorem zDJ (h:i=⟨#[114]⟩\/i=⟨#[115]⟩):mdT++i∈rootN/\isDk (mdT++i)=false:=by
 rcases h with rfl|rfl
 .exact⟨ay (i:=4) (by kernel_rfl),by kernel_rfl⟩
 .exact⟨ay (i:=5) (by kernel_rfl),by kernel_rfl⟩
theorem zLA (h:i=⟨#[99]⟩\/i=⟨#[100]⟩):openT++i∈rootN/\isDk (openT++i)=false:=by
 rcases h with rfl|rfl
 .exact⟨ay (i:=6) (by kernel_rfl),by kernel_rfl⟩
 .exact⟨ay (i:=7) (by kernel_rfl),by kernel_rfl⟩
theorem zO9 (h:k=0\/k=1):lvT ⟨#[118]⟩ ((k:ad)+1)∈rootN/\isDk (lvT ⟨#[118]⟩ ((k:ad)+1))=false:=by
 rcases h with rfl|rfl
 .exact⟨ay (i:=8) (by kernel_rfl),by kernel_rfl⟩
 .exact⟨ay (i:=9) (by kernel_rfl),by kernel_rfl⟩
theorem zDq {P:a0->B a0->Prop}{L:B Mem}{u:B a0}(v:IsIds2 (zU h L) u)(J:O.map cu=u.map (buildA (zU h L)))(hL:∀ m∈L,P m.i m.l){o:ArrM}(N:o∈O):o.i∈u/\(∃ m∈L,m.i=o.i)/\(o.l=[]\/∃ m∈L,m.i=o.i/\o.l=m.l):=by
 have A:o.toArr∈O.map ArrM.toArr:=ap N;rw[J]at A;obtain⟨y,F,I⟩:=List.mem_map.1 A;have z:o.i=y:=by rw[<-I];rfl
 have U:o.l=(zr (zU h L) y).l:=by rw[<-I];rfl
 obtain⟨s,V⟩:=(v.mem y).1 F;obtain⟨x,X⟩:=Option.isSome_iff_exists.1 V;obtain⟨Y,-,Z⟩:=zAN L _ _ X;refine⟨by rw[z];exact F,⟨x,Y,by rw[z];exact ag bh Z⟩,?_⟩;rw[U];unfold zr;cases hq:zU h L (y,zAS (zU h L) y)with
 | none=>left;rfl
 | some m=>
  obtain⟨g3,-,g4⟩:=zAN L _ _ hq;exact .inr ⟨m,g3,by rw[z];exact ag bh g4,rfl⟩
theorem zBS (h:∀ m∈O,mustB m.t m.e m.n (exB ds m.i) (hasS E m.i)=ae->P (mdOf m.i m.l r))(x:B Vir×B (a0×a0))(k:ab):Grow P x.1 (arrAll ds E r x O k).1:=by
 unfold arrAll;have o:∀ (l:B ArrM) (x:B Vir×B (a0×a0)),(∀ m∈l,m∈O)->Grow P x.1 (l.foldl (zAG ds E r) x).1:=by
  intro l
  induction l with
  | nil=>intro x _;exact Grow.refl
  | cons m t z=>
   intro x v;have A:Grow P x.1 (zAG ds E r x m).1:=by
    unfold zAG;split
    .rename_i u;split;·exact Grow.refl
     .exact Grow.one (h m (v m (by simp)) u)
    .exact Grow.refl
   exact A.trans (z _ λy F=>v y (by simp[F]))
 exact o _ x λm u=>cm u
theorem zBQ (h:∀ m∈O,∀ v∈wantL m.i m.t m.n m.l r,P v)(x:B Vir×B (a0×a0))(k:ab):Grow P x.1 (grpAll r x O k).1:=by
 unfold grpAll;have o:∀ (l:B ArrM) (x:B Vir×B (a0×a0)),(∀ m∈l,m∈O)->Grow P x.1 (l.foldl (zAK r) x).1:=by
  intro l
  induction l with
  | nil=>intro x _;exact Grow.refl
  | cons m t z=>
   intro x u;have A:Grow P x.1 (zAK r x m).1:=by
    unfold zAK;split
    .split;·exact Grow.refl
     .exact Grow.all (h m (u m (by simp)))
    .exact Grow.refl
   exact A.trans (z _ λy F=>u y (by simp[F]))
 exact o _ x λm I=>cm I
theorem zHv (x:B Vir×B (a0×a0))(O:B ArrM)(k:ab):(grpAll r x O k).2.length<=x.2.length+(O:ab):=by
 unfold grpAll;have h:∀ (l:B ArrM) (x:B Vir×B (a0×a0)),(l.foldl (zAK r) x).2.length<=x.2.length+(l:ab):=by
  intro l
  induction l with
  | nil=>intro x;simp
  | cons m t o=>
   intro x;have u:(zAK r x m).2.length<=x.2.length+1:=by
    unfold zAK;split;·split<;>simp
    .simp
   have:=o (zAK r x m);rw[ci,List.length_cons];omega
 have u:=h (O.take k) x;have v:(O.take k).length<=(O:ab):=by rw[List.length_take];omega
 omega
theorem zIB (x:B Vir×B (a0×a0))(O:B ArrM):(arrAll ds E r x O (O:ab)).2.length<=x.2.length+(O:ab):=(zDR ds E r x O (O:ab)).2
theorem zFZ {o c:a0}(u:o∈rootN/\isDk o=ah)(v:InU c):NewV S r ⟨(),o,c,r⟩:=⟨⟨v,.inl ⟨rfl,u.1⟩,u.2⟩,rfl,λh=>ao rfl h⟩
theorem zBB {S':B Src}{M':B Vir}{a5 G':B (a0×a0)}(hU:Known ds tx)(hS:SrcOk ds S)(h:NextR ds tx E K C r S M a5 S' M' G'):Grow (NewV S r) M M'/\(G':ab)<=(a5:ab)+3:=by
 obtain⟨⟨M3,G2,L4,U,N,⟨L2,V,X,M2,L3,F,e2,i2,o2,a2,e3,i3,a3⟩,e4,i4,o4,a4⟩,-⟩:=h;have f2:∀ m∈L2,(m.i=⟨#[114]⟩\/m.i=⟨#[115]⟩)/\∃ c∈ctsL,m.l=c.inner.map Ct.txt:=λm u=>by
  obtain⟨s,O,c,y,_,Y,e⟩:=zBd (by decide) hU hS e2 u;have A:m.i=c.id:=ag bo e;have z:m.l=c.inner.map Ct.txt:=ag bp e;exact⟨by rw[A];exact zQS y Y,c,y,z⟩
 have f3:∀ m∈L3,(m.i=⟨#[99]⟩\/m.i=⟨#[100]⟩)/\∃ c∈ctsL,m.l=c.inner.map Ct.txt:=λm u=>by
  obtain⟨s,O,c,y,_,Y,e⟩:=zBd (by decide) hU hS e3 u;have A:m.i=c.id:=ag bo e;have z:m.l=c.inner.map Ct.txt:=ag bp e;exact⟨by rw[A];exact zQw y Y,c,y,z⟩
 have f4:∀ m∈L4,m.i=⟨#[118]⟩/\m.l.length<=2/\∃ c∈ctsL,m.l=c.inner.map Ct.txt:=λm u=>by
  obtain⟨s,O,c,y,_,Y,e⟩:=zBd (by decide) hU hS e4 u;have A:m.i=c.id:=ag bo e;have z:m.l=c.inner.map Ct.txt:=ag bp e;have h3:=zQv y Y;exact⟨by rw[A];exact h3.1,by rw[z,bd];exact h3.2,c,y,z⟩
 have a9:(X:ab)<=2:=by
  have A:(X:ab)=(V:ab):=by have:=ag cp o2;simpa using this
  have z:=zAg (m:=[(⟨#[114]⟩:a0),⟨#[115]⟩]) (cw i2.asc) λx Z=>by
   obtain⟨s,O⟩:=(i2.mem x).1 Z;obtain⟨m,u⟩:=Option.isSome_iff_exists.1 O;obtain⟨g1,-,g2⟩:=zAN L2 _ _ u;have g3:m.i=x:=ag bh g2;have:=(f2 m g1).1;rw[g3]at this
   simpa using this
  rw[A];exact z
 have b0:(N:ab)<=1:=by
  have A:(N:ab)=(U:ab):=by have:=ag cp o4;simpa using this
  have z:=zAg (m:=[(⟨#[118]⟩:a0)]) (cw i4.asc) λx Z=>by
   obtain⟨s,O⟩:=(i4.mem x).1 Z;obtain⟨m,u⟩:=Option.isSome_iff_exists.1 O;obtain⟨g1,-,g2⟩:=zAN L4 _ _ u;have g3:m.i=x:=ag bh g2;have:=(f4 m g1).1;rw[g3]at this
   simpa using this
  rw[A];exact z
 have g2:∀ m∈X,NewV S r (mdOf m.i m.l r):=λo ho=>by
  obtain⟨_,⟨m,u,hi⟩,hl⟩:=zDq (P:=λ_ _=>ar) i2 o2 (λ_ _=>trivial) ho;refine zFZ (zDJ (by rw[<-hi];exact(f2 m u).1)) ?_;rcases hl with e|⟨m',I,_,e⟩
  .rw[e];exact zBs
  .obtain⟨c,y,e'⟩:=(f2 m' I).2;rw[zCr,e];exact zF8 y e' 0
 have g4:∀ m∈N,∀ v∈wantL m.i m.t m.n m.l r,NewV S r v:=λo ho v J=>by
  obtain⟨_,⟨m,u,hi⟩,hl⟩:=zDq (P:=λ_ _=>ar) i4 o4 (λ_ _=>trivial) ho;have a6:o.i=⟨#[118]⟩:=by rw[<-hi];exact(f4 m u).1
  unfold wantL at J;split at J
  .unfold wantF at J;obtain⟨i,a7,rfl⟩:=List.mem_map.1 J;have b1:=List.mem_range.1 (List.mem_filter.1 a7).1;have a8:o.l.length<=2/\InU (o.l[i]?.getD ⟨#[]⟩):=by
    rcases hl with e|⟨m',I,_,e⟩
    .rw[e];exact⟨by simp,zBs⟩
    .obtain⟨A,z,c,y,e'⟩:=f4 m' I;rw[e];exact⟨z,zF8 y e' i⟩
   refine zFZ ?_ a8.2;rw[a6];exact zO9 (by omega)
  .cases J
 have g3:∀ v∈(opened F K).map (virOf L3 r),NewV S r v:=λv J=>by
  obtain⟨x,Z,rfl⟩:=List.mem_map.1 J;have A:x∈F:=(List.mem_filter.1 Z).1;obtain⟨m,u⟩:=Option.isSome_iff_exists.1 ((i3.mem x).1 A);obtain⟨z,-,h3⟩:=zCI L3 _ _ u;have h4:m.i=x:=zBN (l:=[m.i]) (l':=[x]) (by simp[h3]) |> λh=>by injection h
  obtain⟨h5,c,y,h6⟩:=f3 m z;refine zFZ (zLA (by rw[<-h4];exact h5)) ?_;unfold zGy;rw[u];show InU (m.l.headD ⟨#[]⟩)
  rw[zCr];exact zF8 y h6 0
 have q1:=zKH (r:=r) hU hS M (S:ab);have q2:=zBS (ds:=ds) (E:=E) (λm u _=>g2 m u) (wantS tx S M r (S:ab),a5) (X:ab);rw[<-a2]at q2;have q3:Grow (NewV S r) M2 M3:=by rw[a3];exact Grow.all g3
 have q4:=zBQ g4 (M3,G2) (N:ab);rw[<-a4]at q4;refine⟨((q1.trans q2).trans q3).trans q4,?_⟩;have l2:=zIB (ds:=ds) (E:=E) (r:=r) (wantS tx S M r (S:ab),a5) X;rw[<-a2]at l2;have l4:=zHv (r:=r) (M3,G2) N (N:ab);rw[<-a4]at l4;dsimp only at l2 l4;omega
end
theorem WantB.mono (h:WantB M ds d):WantB (M++N) ds d:=λo=>by
 have:=h o;unfold inW at this ⊢;rw[cf,this];rfl
structure MInv (ds:B Dev)(tx:Dev->a0)(C:B Src)(r:ad)(S:B Src)(M:B Vir)(G:B (a0×a0)):Prop where
 r1:1<=r/\r<=(M:ab)+1
 s:SrcOk ds S/\∀ s∈S,WantB M ds s.d
 sl:(S:ab)<=(C:ab)+(M:ab)
 m:∀ v∈M,VOk v/\v.r<r/\(v.q≠()->∃ d∈ds,d.parent=0/\v.q=pathOf [d.orig]/\WantB M ds d)
 d:DistP M
 g:((G:ab):ad)<=3*(r-1)
structure MustOk (ds:B Dev)(M:B Vir):Prop where
 v:∀ v∈M,VOk v
 d:DistP M
 q:∀ v∈M,v.q≠()->∃ d∈ds,d.parent=0/\v.q=pathOf [d.orig]/\WantB M ds d
theorem zHj (h:∀ v∈M,VOk v)(O:DistP M):(M.map cb).Nodup:=by
 unfold dd;rw[bw];refine dl (fun {a b} U V u e=>u ?_) O;have:a.q=b.q:=by
  rcases(h a U).p with⟨X,y⟩|⟨n,z,Y,A,_⟩<;>rcases(h b V).p with⟨Z,F⟩|⟨k,I,k2,J,_⟩
  .rw[X,Z]
  .rw[e]at y;have:=zBA y;rw[zAZ I J]at this;cases this
  .rw[<-e]at F;have:=zBA F;rw[zAZ z A]at this;cases this
  .have N:=zAZ z A;rw[e,zAZ I J]at N;rw[Y,k2,Option.some.inj N]
 rw[this,e]
theorem zDj (h:∀ v∈M,VOk v)(z:DistP M):(M:ab)<=30:=by
 have A:=zHj h z;have u:=zAg A (m:=allN.filter λo=>!isDk o) λx F=>by
  obtain⟨v,y,rfl⟩:=List.mem_map.1 F;exact List.mem_filter.2 ⟨(h v y).all,by rw[(h v y).n];rfl⟩
 rw[bd]at u;exact dj u (Nat.le_of_eq (show (allN.filter λo=>!isDk o).length=30 by kernel_rfl))
section
variable {ds:B Dev}{tx:Dev->a0}{E K:B a0}{r:ad}{C S S':B Src}{M M':B Vir}{G G':B (a0×a0)}
theorem MInv.must (h:MInv ds tx C r S M G)(I:Known ds tx)(J:NextR ds tx E K C r S M G S' M' G'):MustOk ds M':=by
 obtain⟨⟨N,rfl,z,O⟩,_⟩:=zBB I h.s.1 J;refine⟨λv o=>?_,O h.d,λv o A=>?_⟩
 .rcases List.mem_append.1 o with o|o
  .exact(h.m v o).1
  .exact(z v o).ok
 .rcases List.mem_append.1 o with o|o
  .obtain⟨d,u,y,U,V⟩:=(h.m v o).2.2 A;exact⟨d,u,y,U,V.mono⟩
  .obtain⟨s,F,u,y⟩:=(z v o).q A;exact⟨s.d,(h.s.1 s F).1,u,y,(h.s.2 s F).mono⟩
theorem MInv.next (h:MInv ds tx C r S M G)(Y:Known ds tx)(hC:SrcOk ds C)(U:(C.map λs=>s.d.orig).Nodup)(V:NextR ds tx E K C r S M G S' M' G')(a2:(M:ab)<(M':ab)):MInv ds tx C (r+1) S' M' G':=by
 have I:=h.must Y V;obtain⟨⟨N,rfl,hN,hD⟩,hG⟩:=zBB Y h.s.1 V;have O:∀ s∈C,againB ds tx (M++N) r s=ae->WantB (M++N) ds s.d/\∃ v∈N,v.o=s.d.orig:=λs u z=>by
  unfold againB at z;cases hf:(M++N).find? (λv=>decide ((v.q,v.o)=(plc ds s.d.parent,s.d.orig)))with
  | none=>rw[hf]at z;cases z
  | some v=>
   rw[hf]at z;dsimp only at z;rw[bi,beq_iff_eq]at z;have J:=bv hf;have Z:(v.q,v.o)=(plc ds s.d.parent,s.d.orig):=(by simpa using ch hf);refine⟨λ_=>List.any_eq_true.2 ⟨v,J,by simpa using Z⟩,v,?_,ag bz Z⟩;rcases List.mem_append.1 J with J|J
   .have:=(h.m v J).2.1;omega
   .exact J
 obtain⟨_,X,_⟩:=V;have y:∀ s∈moreS ds tx (M++N) r C (C:ab),∃ c∈C,againB ds tx (M++N) r c=ae/\s={ c with r:=r }:=λs u=>by
  unfold moreS at u;rw[be]at u;obtain⟨c,F,rfl⟩:=List.mem_map.1 u;exact⟨c,(List.mem_filter.1 F).1,(List.mem_filter.1 F).2,rfl⟩
 refine⟨⟨by have:=h.r1;omega,by have:=h.r1;push_cast;omega⟩,⟨λs u=>?_,λs u=>?_⟩,?_,λv A=>⟨I.v v A,?_,I.q v A⟩,I.d,?_⟩
 .rcases List.mem_append.1 (X.mem_iff.1 u)with u|u
  .exact h.s.1 s u
  .obtain⟨c,F,_,rfl⟩:=y s u;exact hC c F
 .rcases List.mem_append.1 (X.mem_iff.1 u)with u|u
  .exact(h.s.2 s u).mono
  .obtain⟨c,F,z,rfl⟩:=y s u;exact(O c F z).1
 .have h1:(moreS ds tx (M++N) r C (C:ab)).length<=(N:ab):=by
   have h2:((moreS ds tx (M++N) r C (C:ab)).map λs=>s.d.orig).Nodup:=by
    unfold moreS;rw[be,cq];exact U.sublist (List.filter_sublist.map _)
   have h3:=zAg h2 (m:=N.map cb) λx hx=>by
    obtain⟨s,u,rfl⟩:=List.mem_map.1 hx;obtain⟨c,F,z,rfl⟩:=y s u;obtain⟨v,A,e⟩:=(O c F z).2;rw[<-e];exact ap A
   rwa [bd,bd]at h3
  have h4:=X.length_eq;rw[bu]at h4;have:=h.sl;rw[bu];omega
 .rcases List.mem_append.1 A with A|A
  .have:=(h.m v A).2.1;omega
  .have:=(hN v A).r;omega
 .have:=h.g;omega
theorem MInv.small (h:MInv ds tx C r S M G)(y:∀ s∈S,s.o.size<=1000000)(A:(C:ab)<=250):SmR ds r S M G:=by
 have F:=zDj (λv z=>(h.m v z).1) h.d;have:=h.sl;have:=h.g;have:=h.r1;exact⟨λs u=>⟨(h.s.1 s u).1,y s u⟩,by omega,by omega,by omega⟩
end
def keyB (ds:B Dev)(s:Src)(v:Vir):Bool:=decide ((v.q,v.o)=(plc ds s.d.parent,s.d.orig))
def agO (r:ad)(t:a0):al Vir->ax
 | some v=>(v.r==r)&&(v.c.toList==t.toList)
 | none=>ah
theorem zHI (ds:B Dev)(tx:Dev->a0)(M:B Vir)(r:ad)(s:Src):againB ds tx M r s=agO r (tx s.d) (M.find? (keyB ds s)):=by
 unfold againB agO;rfl
def srO (s:Src)(t:a0)(r:ad):al Vir->al Src
 | some v=>if (decide (v.r<r)&&(v.c.toList==t.toList))=ae then af { s with r:=v.r }else am
 | none=>am
def srcE (ds:B Dev)(tx:Dev->a0)(M:B Vir)(r:ad)(s:Src):al Src:=
 if virB ds s.d.index=ae then
  srO s (tx s.d) r (M.find? (keyB ds s))
 else af s
def srcF (ds:B Dev)(tx:Dev->a0)(C:B Src)(M:B Vir)(r:ad):B Src:=C.filterMap (srcE ds tx M r)
theorem zGl {f h:Src->al Src}{p:Src->ax}{q:Src->Src}:∀ (C:B Src),(∀ s∈C,(p s=ae->f s=am/\h s=af (q s))/\(p s=ah->h s=f s))->(C.filterMap f++(C.filter p).map q).Perm (C.filterMap h)
 | [],_=>List.Perm.refl _
 | s::C,H=>by
  have o:=zGl C λy u=>H y (by simp[u])
  obtain⟨v,z⟩:=H s (by simp);cases hp:p s with
  | true=>
   obtain⟨A,F⟩:=v hp;rw[br A,List.filter_cons_of_pos hp,cl,bs F];exact List.perm_middle.trans (o.cons _)
  | false=>
   have e:=z hp;rw[List.filter_cons_of_neg (by simp[hp])];cases hf:f s with
   | none=>rw[br hf,br (e.trans hf)];exact o
   | some y=>rw[bs hf,bs (e.trans hf)];exact o.cons _
theorem zKe {y:Src}(h:srcE ds tx M r s=af y):y.at_=s.at_:=by
 unfold srcE at h;split at h
 .unfold srO at h;split at h
  .split at h;·injection h with h;rw[<-h]
   .cases h
  .cases h
 .injection h with h;rw[<-h]
theorem zMg:∀ {C:B Src},C.Pairwise (λx y=>x.at_<y.at_)->(srcF ds tx C M r).Pairwise λx y=>x.at_<y.at_:=by
 intro C h;unfold srcF;rw[dh];exact h.imp fun {a b} o x u y v=>by rw[zKe u,zKe v];exact o
theorem zPh {X:B Src}(h:X.Pairwise λx y=>x.at_<y.at_):∀ a∈X,∀ b∈X,a.at_=b.at_->a=b:=by
 intro a F b I e;obtain⟨i,J⟩:=List.mem_iff_getElem?.1 F;obtain⟨j,N⟩:=List.mem_iff_getElem?.1 I;obtain⟨v,o⟩:=List.getElem?_eq_some_iff.1 J;obtain⟨z,u⟩:=List.getElem?_eq_some_iff.1 N;have A:=List.pairwise_iff_getElem.1 h;rcases Nat.lt_trichotomy i j with c|rfl|c
 .have:=A i j v z c;rw[o,u]at this;omega
 .rw[<-o,<-u]
 .have:=A j i z v c;rw[o,u]at this;omega
theorem zLl {k:Vir->ax}:(M++N).find? k=(M.find? k).or (N.find? k):=List.find?_append
theorem zKc {ds:B Dev}{tx:Dev->a0}{S z:B Src}{o:B Vir}(V:C.Pairwise λx y=>x.at_<y.at_)(X:∀ v∈M,v.r<r)(Y:∀ v∈N,v.r=r)(Z:o=M++N)
  (A:∀ s∈C,virB ds s.d.index=ah->againB ds tx o r s=ah) (hS:S=srcF ds tx C M r) (hp:z.Perm (S++moreS ds tx o r C (C:ab))) (hs:z.Pairwise λx y=>x.at_<=y.at_):z=srcF ds tx C o (r+1):=by
 have h1:(S++moreS ds tx o r C (C:ab)).Perm (srcF ds tx C o (r+1)):=by
  rw[hS];unfold srcF moreS;rw[be];refine zGl C λs F=>?_
  have A:=A s F;unfold srcE;rw[zHI]at *;subst Z;rw[zLl]at *;cases hb:virB ds s.d.index with
  | false=>
   have:=A hb;refine⟨λh=>?_,λ_=>by simp⟩;rw[this]at h;cases h
  | true=>
   rw[az rfl,az rfl];rcases hf:M.find? (keyB ds s)with _|v
   .rcases hn:N.find? (keyB ds s)with _|v
    .simp[agO,srO]
    .have u:=Y v (bv hn);have I:(v.r==r)=true:=(by simp[u]);have J:decide (v.r<r+1)=true:=bm (by omega);simp only[Option.none_or,agO,srO,I,J,Bool.true_and];refine⟨λh=>⟨by trivial,?_⟩,λh=>?_⟩;·rw[az h,u]
     .rw[bg (by simp[h])]
   .have u:=X v (bv hf);have I:(v.r==r)=false:=(by simp;omega);have J:decide (v.r<r)=true:=bm u;have e3:decide (v.r<r+1)=true:=bm (by omega);simp only[Option.some_or,agO,srO,I,J,e3,Bool.false_and];exact⟨λh=>by simp at h,λ_=>trivial⟩
 have O:=hp.trans h1;have U:=zMg (ds:=ds) (tx:=tx) (M:=o) (r:=r+1) V;exact O.eq_of_pairwise (λa b h3 h4 h5 h6=>zPh U a (O.mem_iff.1 h3) b h4 (by omega)) hs (U.imp λh=>Int.le_of_lt h)
structure Kx where
 o:a0
 q:a0
 n:a0
 v:ax
 t:a0
 k:ad
def kx (ds:B Dev)(tx:Dev->a0)(s:Src):Kx:=⟨s.o,plc ds s.d.parent,s.d.orig,virB ds s.d.index,tx s.d,s.d.kind⟩
def kxB (k:Kx)(v:Vir):Bool:=decide ((v.q,v.o)=(k.q,k.n))
def kxO (r:ad)(k:Kx):al Vir->al (a0×ad×a0×a0×ad)
 | some v=>if (decide (v.r<r)&&(v.c.toList==k.t.toList))=ae then af (k.o,v.r,k.t,k.n,k.k)else am
 | none=>am
def kxF (M:B Vir)(r:ad)(k:Kx):al (a0×ad×a0×a0×ad):=if k.v=ae then kxO r k (M.find? (kxB k))else af (k.o,0,k.t,k.n,k.k)
theorem zOl (h:s.r=0):(srcE ds tx M r s).map (sx tx)=kxF M r (kx ds tx s):=by
 unfold srcE kxF;show dk (sx tx) (if virB ds s.d.index=ae then srO s (tx s.d) r (M.find? (keyB ds s))else af s)=if virB ds s.d.index=ae then kxO r (kx ds tx s) (M.find? (keyB ds s))else af (s.o,0,tx s.d,s.d.orig,s.d.kind)
 cases virB ds s.d.index with
 | false=>rw[bg (by decide),bg (by decide)];unfold sx;rw[Option.map_some,h]
 | true=>
  rw[az rfl,az rfl];cases M.find? (keyB ds s)with
  | none=>rfl
  | some v=>
   show dk (sx tx) (if (decide (v.r<r)&&(v.c.toList==(tx s.d).toList))=ae then af { s with r:=v.r }else am)=if (decide (v.r<r)&&(v.c.toList==(tx s.d).toList))=ae then af (s.o,v.r,tx s.d,s.d.orig,s.d.kind)else am
   split<;>rfl
theorem zHT {ds:B Dev}{tx:Dev->a0}{M:B Vir}{r:ad}:∀ {C:B Src},(∀ s∈C,s.r=0)->(srcF ds tx C M r).map (sx tx)=(C.map (kx ds tx)).filterMap (kxF M r)
 | [],_=>rfl
 | s::C,h=>by
  have o:=zHT (ds:=ds) (tx:=tx) (M:=M) (r:=r) (C:=C) λy u=>h y (by simp[u])
  have e:=zOl (ds:=ds) (tx:=tx) (M:=M) (r:=r) (h s (by simp));unfold srcF at o ⊢;rw[cl];cases hs:srcE ds tx M r s with
  | none=>
   rw[hs]at e;rw[br hs,br e.symm,o]
  | some y=>
   rw[hs]at e;rw[bs hs,bs e.symm,cl,o]
theorem zQD {k:Kx}{y:a0×ad×a0×a0×ad}(h:kxF M r k=af y):y.1=k.o:=by
 unfold kxF at h;split at h
 .unfold kxO at h;split at h
  .split at h;·injection h with h;rw[<-h]
   .cases h
  .cases h
 .injection h with h;rw[<-h]
theorem zJf {α:Type}{f:α->a0}{X Y:B α}(o:X.Pairwise λx y=>pathO (f x) (f y)<0)(u:Y.Pairwise λx y=>pathO (f x) (f y)<0)(h:∀ a,a∈X↔a∈Y):X=Y:=by
 have v:∀ {Z:B α},Z.Pairwise (λx y=>pathO (f x) (f y)<0)->Z.Nodup:=λz=>z.imp fun {a b} A e=>by
  subst e;have:=zB6.self (f a);omega
 refine((List.perm_ext_iff_of_nodup (v o) (v u)).2 h).eq_of_pairwise (λa b _ _ F I=>?_) o u;have:=zB6.turn (f a) (f b);omega
theorem zKd {ds z:B Dev}{tx u:Dev->a0}{A:B Src}{M:B Vir}{r:ad}(U:∀ s∈C,s.r=0)(F:∀ s∈A,s.r=0)
  (I:C.Pairwise λx y=>pathO x.o y.o<0) (J:A.Pairwise λx y=>pathO x.o y.o<0)
  (h:∀ y,(∃ s∈C,kxF M r (kx ds tx s)=af y)↔∃ s∈A,kxF M r (kx z u s)=af y):(srcF ds tx C M r).map (sx tx)=(srcF z u A M r).map (sx u):=by
 rw[zHT U,zHT F];have v:∀ {ds:B Dev} {tx:Dev->a0} {C:B Src},C.Pairwise (λx y=>pathO x.o y.o<0)->((C.map (kx ds tx)).filterMap (kxF M r)).Pairwise λx y=>pathO x.1 y.1<0:=by
  intro ds tx C I;rw[dh,bw];exact I.imp fun {a b} N x V y X=>by rw[zQD V,zQD X];exact N
 refine zJf (f:=λx=>x.1) (v I) (v J) λy=>?_
 rw[de,de];have O:∀ {ds:B Dev} {tx:Dev->a0} {C:B Src},(∃ a,a∈C.map (kx ds tx)/\kxF M r a=af y)↔∃ s∈C,kxF M r (kx ds tx s)=af y:=by
  intro ds tx C;constructor
  .rintro ⟨a,Y,e⟩;obtain⟨s,v,rfl⟩:=List.mem_map.1 Y;exact⟨s,v,e⟩
  .rintro ⟨s,v,e⟩;exact⟨_,ap v,e⟩
 rw[O,O];exact h y
inductive Chain (ds:B Dev)(tx:Dev->a0)(E K:B a0)(C:B Src):ad->B Src->B Vir->B (a0×a0)->Prop
 | base:Chain ds tx E K C 1 (C.filter λs=>!virB ds s.d.index) [] []
 | step {r:ad} {S S':B Src} {M M':B Vir} {G G':B (a0×a0)}:Chain ds tx E K C r S M G->NextR ds tx E K C r S M G S' M' G'->(M:ab)<(M':ab)->Chain ds tx E K C (r+1) S' M' G'
structure TreeC (ds:B Dev)(tx:Dev->a0)(C:B Src):Prop where
 kn:Known ds tx
 ok:SrcOk ds C
 nd:(C.map λs=>s.d.orig).Nodup
 asc:C.Pairwise λx y=>x.at_<y.at_
 r0:∀ s∈C,s.r=0
 pa:C.Pairwise λx y=>pathO x.o y.o<0
 nv:∀ s∈C,virB ds s.d.index=ah->∀ v,VOk v->keyB ds s v=ah
section
variable {ds ds':B Dev}{tx tx':Dev->a0}{E K:B a0}{C C':B Src}{r:ad}{S S':B Src}{M M':B Vir}{G G':B (a0×a0)}
theorem Chain.inv (T:TreeC ds tx C)(h:Chain ds tx E K C r S M G):MInv ds tx C r S M G/\S=srcF ds tx C M r:=by
 induction h with
 | base=>
  refine⟨⟨⟨by omega,by simp⟩,⟨λs u=>T.ok s (List.mem_filter.1 u).1,λs u o=>?_⟩,?_,by simp,.nil,by simp⟩,?_⟩
  .have:=(List.mem_filter.1 u).2;rw[o]at this;cases this
  .have:=List.length_filter_le (λs:Src=>!virB ds s.d.index) C
   simpa using this
  .unfold srcF;rw[<-List.filterMap_eq_filter]
   congr 1
   funext s
   unfold srcE;cases hb:virB ds s.d.index<;>simp[Option.guard,hb,srO]
 | step U y z I=>
  obtain⟨A,J⟩:=I;have F:=A.next T.kn T.ok T.nd y z;refine⟨F,?_⟩;obtain⟨⟨N,e,O,_⟩,_⟩:=zBB T.kn A.s.1 y;refine zKc T.asc (λv o=>(A.m v o).2.1) (λv o=>(O v o).r) e (λs u hb=>?_) J y.2.1 y.2.2;rw[zHI,List.find?_eq_none.2 λv o=>by rw[T.nv s u hb v (F.m v o).1];decide];rfl
theorem Chain.pred (h:Chain ds tx E K C r S M G):(r=1/\M=[]/\G=[])\/∃ o y u z,r=o+1/\Chain ds tx E K C o y u z/\NextR ds tx E K C o y u z S M G/\u.length<(M:ab):=by
 cases h with
 | base=>exact .inl ⟨rfl,rfl,rfl⟩
 | step A F v=>exact .inr ⟨_,_,_,_,rfl,A,F,v⟩
theorem zKb (h:S=srcF ds tx C M r)(F:m∈S.filterMap λs=>ofK 2 mk2 s.o s.r (tx s.d)):∃ s∈C,∃ r,ofK 2 mk2 s.o r (tx s.d)=af m:=by
 obtain⟨s,z,e⟩:=List.mem_filterMap.1 F;rw[h]at z;obtain⟨v,y,u⟩:=List.mem_filterMap.1 z;have A:s.d=v.d/\s.o=v.o:=by
  unfold srcE srO at u;split at u
  .split at u
   .split at u;·injection u with u;rw[<-u];exact⟨rfl,rfl⟩
    .cases u
   .cases u
  .injection u with u;rw[<-u];exact⟨rfl,rfl⟩
 rw[A.1,A.2]at e;exact⟨v,y,_,e⟩
theorem Chain.self (T:TreeC ds tx C)(h:Chain ds tx E K C r S M G):∀ {y u v},Chain ds tx E K C r y u v->M=u/\G=v:=by
 induction h with
 | base=>
  intro y u v z;rcases z.pred with⟨_,rfl,rfl⟩|⟨I,N,O,U,e,A,_⟩
  .exact⟨rfl,rfl⟩
  .have:=(A.inv T).1.r1;omega
 | @step r S S1 M M1 G G1 A V X Y=>
  intro y u v z;have J:=A.inv T;rcases z.pred with⟨e,_⟩|⟨I,N,O,U,e,o,F,_⟩
  .have:=J.1.r1;omega
  .obtain rfl:I=r:=by omega
   obtain⟨rfl,rfl⟩:=Y o;have Z:=o.inv T;exact zBL (by rw[J.2,Z.2]) (λ_ _=>.inr rfl) V F
end
structure Fixed (ds:B Dev)(tx:Dev->a0)(C:B Src)(W:B Vir):Prop where
 t:TreeC ds tx C
 w:∀ v∈W,∃ s∈C,virB ds s.d.index=ae/\keyB ds s v=ae/\tx s.d=v.c/\s.d.kind=2/\s.o=v.q++⟨#[47]⟩++v.o
section
variable {ds ds':B Dev}{tx tx':Dev->a0}{E K:B a0}{C C':B Src}{r:ad}{S S':B Src}{M W W':B Vir}{G G':B (a0×a0)}
theorem zIg : ∀ {C:B Src},(C.map λs=>s.d.orig).Nodup->∀ {a b:Src},a∈C->b∈C->a.d.orig=b.d.orig->a=b
 | [],_,a,b,h,_,_=>by simp at h
 | x::C,o,a,b,I,J,e=>by
  rw[cl,List.nodup_cons]at o;have u:∀ {z:Src},z∈C->z.d.orig∈C.map λs=>s.d.orig:=λh=>ap h
  rcases List.mem_cons.1 I with v|y<;>rcases List.mem_cons.1 J with A|F
  .rw[v,A]
  .exact ao (by rw[<-v,e];exact u F) o.1
  .exact ao (by rw[<-A,<-e];exact u y) o.1
  .exact zIg o.2 y F e
theorem zCU (h:keyB ds s v=ae):plc ds s.d.parent=v.q/\s.d.orig=v.o:=by
 unfold keyB at h;have:=cd h;rw[Prod.mk.injEq]at this;exact⟨this.1.symm,this.2.symm⟩
def kv (v:Vir):Kx:=⟨v.q++⟨#[47]⟩++v.o,v.q,v.o,ae,v.c,2⟩
theorem Fixed.at (F:Fixed ds tx C W)(o:v∈W):∃ s∈C,keyB ds s v=ae/\kx ds tx s=kv v:=by
 obtain⟨s,u,y,h,z,A,I⟩:=F.w v o;obtain⟨J,N⟩:=zCU h;refine⟨s,u,h,?_⟩;unfold kx kv;rw[y,z,A,I,J,N]
theorem zI7 (F:Fixed ds tx C W)(U:Fixed ds' tx' C' W')(V:∀ k:Kx,k.v=ah->(∃ s∈C,kx ds tx s=k)->∃ s∈C',kx ds' tx' s=k)(X:∀ v∈M,v∈W/\v∈W')
  {y:a0×ad×a0×a0×ad} (h:∃ s∈C,kxF M r (kx ds tx s)=af y):∃ s∈C',kxF M r (kx ds' tx' s)=af y:=by
 obtain⟨s,O,z⟩:=h;cases hv:virB ds s.d.index with
 | false=>
  obtain⟨A,o,e⟩:=V (kx ds tx s) hv ⟨s,O,rfl⟩;exact⟨A,o,by rw[e];exact z⟩
 | true=>
  have u:=z;unfold kxF at u;rw[az (show (kx ds tx s).v=ae from hv)]at u;cases hf:M.find? (kxB (kx ds tx s))with
  | none=>rw[hf]at u;cases u
  | some v=>
   have Y:keyB ds s v=true:=ch hf;obtain⟨Z,I⟩:=X v (bv hf);obtain⟨s1,J,N,e1⟩:=F.at Z;obtain rfl:s=s1:=zIg F.t.nd O J (by rw[(zCU Y).2,(zCU N).2]);obtain⟨A,o,_,e'⟩:=U.at I;exact⟨A,o,by rw[e',<-e1];exact z⟩
theorem Chain.sub (T:TreeC ds tx C)(h:Chain ds tx E K C r S M G){y:B Vir}(F:Chain ds tx E K C r' S' y G')(O:r<=r'):∀ v∈M,v∈y:=by
 induction F with
 | base=>
  have U:=(h.inv T).1.r1;obtain rfl:r=1:=by omega
  rw[(h.self T .base).1];exact λv o=>o
 | @step I V X Y Z G1 G2 z A u J=>
  by_cases e:r=I+1
  .subst e;rw[(h.self T (.step z A u)).1];exact λv o=>o
  .obtain⟨⟨N,e,_,_⟩,_⟩:=zBB T.kn (z.inv T).1.s.1 A;intro v o;rw[e];exact List.mem_append_left _ (J (by omega) v o)
end
def EndC (ds:B Dev)(tx:Dev->a0)(E K:B a0)(C:B Src)(r:ad)(M:B Vir):Prop:=∃ S G S' G',Chain ds tx E K C r S M G/\NextR ds tx E K C r S M G S' M G'
def InvC (ds:B Dev)(tx:Dev->a0)(E K:B a0)(C:B Src)(t:ad):Prop:=∀ r S M G,r<=t->Chain ds tx E K C r S M G->Fixed ds tx C M
def Both (ds:B Dev)(tx:Dev->a0)(C:B Src)(ds':B Dev)(tx':Dev->a0)(C':B Src)(E K:B a0)(t:ad):Prop:=∀ r S M G S' G',r<=t->Chain ds tx E K C r S M G->Chain ds' tx' E K C' r S' M G'->Fixed ds tx C M/\Fixed ds' tx' C' M
def SameD (ds:B Dev)(tx:Dev->a0)(C:B Src)(ds':B Dev)(tx':Dev->a0)(C':B Src):Prop:=∀ k:Kx,k.v=ah->((∃ s∈C,kx ds tx s=k)↔∃ s∈C',kx ds' tx' s=k)
section
variable {ds ds':B Dev}{tx tx':Dev->a0}{E K:B a0}{C C':B Src}{r re re' t:ad}{S S':B Src}{M M' Me Me':B Vir}{G G':B (a0×a0)}
theorem Chain.one (T:TreeC ds tx C)(h:Chain ds tx E K C r S M G):1<=r:=(h.inv T).1.r1.1
theorem Chain.pre (h:Chain ds tx E K C r S M G):∀ {q:ad},1<=q->q<=r->∃ S M G,Chain ds tx E K C q S M G:=by
 induction h with
 | base=>
  intro q u v;obtain rfl:q=1:=by omega
  exact⟨_,_,_,.base⟩
 | @step r S F M I G J y z o A=>
  intro q u v;by_cases e:q=r+1;·subst e;exact⟨_,_,_,.step y z o⟩
  .exact A u (by omega)
theorem Chain.same (T:TreeC ds tx C)(h:Chain ds tx E K C r S M G)(o:Chain ds tx E K C r S' M' G'):S=S'/\M=M'/\G=G':=by
 obtain⟨rfl,rfl⟩:=h.self T o;exact⟨(h.inv T).2.trans (o.inv T).2.symm,rfl,rfl⟩
theorem Chain.grow (T:TreeC ds tx C)(h:Chain ds tx E K C r S M G)(A:Chain ds tx E K C re S' M' G')(N:r<re):∃ u o v,NextR ds tx E K C r S M G u o v/\(M:ab)<o.length/\Chain ds tx E K C (r+1) u o v:=by
 have O:=h.one T;obtain⟨u,o,v,z⟩:=A.pre (q:=r+1) (by omega) (by omega);rcases z.pred with⟨e,_⟩|⟨F,U,V,X,e,I,J,y⟩
 .omega
 .obtain rfl:F=r:=by omega
  obtain⟨rfl,rfl,rfl⟩:=h.same T I;exact⟨u,o,v,J,y,z⟩
theorem EndC.max (T:TreeC ds tx C)(v:EndC ds tx E K C re Me)(h:Chain ds tx E K C r S M G):r<=re:=by
 obtain⟨J,N,y,z,A,F⟩:=v;refine Int.not_lt.1 λo=>?_
 obtain⟨O,U,V,u,I,_⟩:=A.grow T h o;rw[(zBL rfl (λ_ _=>.inr rfl) u F).1]at I;omega
theorem EndC.sub (T:TreeC ds tx C)(o:EndC ds tx E K C re Me)(h:Chain ds tx E K C r S M G):∀ v∈M,v∈Me:=by
 have u:=o.max T h;obtain⟨F,I,y,z,A,J⟩:=o;exact h.sub T A u
theorem Fixed.mono (h:Fixed ds tx C M)(o:∀ v∈M',v∈M):Fixed ds tx C M':=⟨h.t,λv u=>h.w v (o v u)⟩
theorem zFf (A:SameD ds tx C ds' tx' C')(F:Fixed ds tx C M)(o:Fixed ds' tx' C' M)(h:Chain ds tx E K C r S M G)(I:Chain ds' tx' E K C' r S' M G'):S.map (sx tx)=S'.map (sx tx'):=by
 rw[(h.inv F.t).2,(I.inv o.t).2];exact zKd F.t.r0 o.t.r0 F.t.pa o.t.pa λy=>⟨zI7 F o (λk z h=>(A k z).1 h) (λv u=>⟨u,u⟩),zI7 o F (λk z h=>(A k z).2 h) (λv u=>⟨u,u⟩)⟩
theorem Chain.over (T:TreeC ds tx C)(V:SameD ds tx C ds' tx' C')(X:∀ s∈C,∀ r m,ofK 2 mk2 s.o r (tx s.d)=af m->hasS E m.i=ae\/exB ds m.i=exB ds' m.i)
  (Y:Both ds tx C ds' tx' C' E K t) (J:EndC ds tx E K C re Me) (Z:Chain ds' tx' E K C' r S' M' G') (hr:r<=t+1):∃ S,Chain ds tx E K C r S M' G':=by
 induction Z with
 | base=>exact⟨_,.base⟩
 | @step r a2 a3 M0 M1 G0 G1 u v z ih=>
  obtain⟨S0,h⟩:=ih (by omega);obtain⟨F,F'⟩:=Y _ _ _ _ _ _ (by omega) h u;have N:=zFf V F F' h u;have O:∀ m,m∈S0.filterMap (λs=>ofK 2 mk2 s.o s.r (tx s.d))->hasS E m.i=ae\/exB ds m.i=exB ds' m.i:=λm U=>by
   obtain⟨s,hs,q,e⟩:=zKb (h.inv T).2 U;exact X s hs q m e
  have U:=J.max T h;obtain⟨Se,Ge,a4,a5,y,A⟩:=J;by_cases e:r=re
  .subst e;obtain⟨rfl,rfl,rfl⟩:=h.same T y;rw[(zBL N O A v).1]at z;omega
  .obtain⟨S1,a6,a7,hn,_,I⟩:=h.grow T y (by omega);obtain⟨rfl,rfl⟩:=zBL N O hn v;exact⟨S1,I⟩
theorem EndC.eq (T:TreeC ds tx C)(T':TreeC ds' tx' C')(A:SameD ds tx C ds' tx' C')(I:∀ s∈C,∀ r m,ofK 2 mk2 s.o r (tx s.d)=af m->hasS E m.i=ae\/exB ds m.i=exB ds' m.i)
  (J:Both ds tx C ds' tx' C' E K t) (v:EndC ds tx E K C re Me) (y:EndC ds' tx' E K C' re' Me') (ht:re<=t):Me=Me':=by
 have h1:re'<=re:=by
  refine Int.not_lt.1 λV=>?_
  obtain⟨X,Y,_,_,h,_⟩:=y;have h0:1<=re:=by
   obtain⟨_,_,_,_,u,_⟩:=v;exact u.one T
  obtain⟨_,_,_,N⟩:=h.pre (q:=re+1) (by omega) (by omega);obtain⟨_,O⟩:=N.over T A I J v (by omega);have:=v.max T O;omega
 obtain⟨X,Y,Z,a2,h,U⟩:=y;obtain⟨S,u⟩:=h.over T A I J v (by omega);obtain⟨F,F'⟩:=J _ _ _ _ _ _ (by omega) u h;obtain⟨Se,Ge,a3,a4,z,a5⟩:=v;by_cases e:re'=re
 .subst e;exact(z.same T u).2.1
 .obtain⟨S1,M1,G1,hn,hg,_⟩:=u.grow T z (by omega);rw[(zBL (zFf A F F' u h) (λm hm=>by
   obtain⟨s,hs,q,e⟩:=zKb (u.inv T).2 hm;exact I s hs q m e) hn U).1]at hg
  omega
theorem InvC.one (T:TreeC ds tx C):InvC ds tx E K C 1:=λr S M u v h=>by
 rcases h.pred with⟨_,rfl,rfl⟩|⟨y,z,A,F,e,o,_⟩
 .exact⟨T,by simp⟩
 .have:=o.one T;omega
theorem InvC.step (T:TreeC ds tx C)(A:SameD ds tx C ds' tx' C')(F:∀ s∈C,∀ r m,ofK 2 mk2 s.o r (tx s.d)=af m->hasS E m.i=ae\/exB ds m.i=exB ds' m.i)
  (I:InvC ds tx E K C t) (u:EndC ds tx E K C re Me) (y:Fixed ds' tx' C' Me):Both ds tx C ds' tx' C' E K t/\InvC ds' tx' E K C' (t+1):=by
 have z:Both ds tx C ds' tx' C' E K t:=λr S M J U V v h N=>⟨I _ _ _ _ v h,y.mono (u.sub T h)⟩
 refine⟨z,λr S M J v h=>?_⟩;obtain⟨X,O⟩:=h.over T A F z u v;exact y.mono (u.sub T O)
end
def ArrW (ds:B Dev)(tx:Dev->a0)(E:B a0)(S:B Src)(i:a0):Prop:=∃ L:B Mem,L.map bx=S.filterMap (λs=>ofK 2 mk2 s.o s.r (tx s.d))/\(∃ z,(zU soundA L (i,z)).isSome=ae)/\mustB (buildA (zU soundA L) i).t (buildA (zU soundA L) i).e (buildA (zU soundA L) i).n (exB ds i) (hasS E i)=ae
structure Pr (ds:B Dev)(tx:Dev->a0)(E:B a0)(S:B Src)(r:ad)(v:Vir):Prop where
 t:v.c=()\/∃ s∈S,∃ c∈ctsL,tx s.d=c.txt/\(c.inner.any λx=>eqB v.c x.txt)=ae/\(c.kind=2->v.o=mdT++c.id)/\(c.kind=5->v∈pwL s.o s.d (tx s.d) r)
 q:v.q=()\/∃ s∈S,v∈pwL s.o s.d (tx s.d) r
 a:v.q=()->∀ i,(i=⟨#[114]⟩\/i=⟨#[115]⟩)->v.o=mdT++i->ArrW ds tx E S i
theorem zHw (h:l=c.inner.map bb)(i:ab):l[i]?.getD ⟨#[]⟩=()\/(c.inner.any λx=>eqB (l[i]?.getD ⟨#[]⟩) x.txt)=true:=by
 rw[h,cn];cases e:c.inner[i]? with
 | none=>exact .inl rfl
 | some x=>exact .inr (List.any_eq_true.2 ⟨x,ay e,zAP.2 rfl⟩)
theorem zQV {L:B Mem}{u:B a0}(v:IsIds2 (zU h L) u)(I:O.map cu=u.map (buildA (zU h L))){o:ArrM}(J:o∈O):o.toArr=buildA (zU h L) o.i/\∃ z,(zU h L (o.i,z)).isSome=true:=by
 have y:o.toArr∈O.map ArrM.toArr:=ap J;rw[I]at y;obtain⟨A,N,F⟩:=List.mem_map.1 y;have U:o.i=A:=by rw[<-F];rfl
 rw[U];exact⟨F.symm,(v.mem A).1 N⟩
theorem zIz {a x:a0}{n:UInt8}{t:B UInt8}(h:a.data.toList=n::t):(a++x).data.toList.head?=af n:=by
 rw[ByteArray.data_append,Array.toList_append,h];rfl
theorem zFo {p:a0}{t:a0}:v∈pwL p d t r↔∃ c,parseC t=af c/\(c.kind=5/\d.kind=2)/\∃ i<c.inner.length,partOk d.orig ((i:ad)+1)=ae/\v=⟨p,partT d.orig ((i:ad)+1),(c.inner.map bb)[i]?.getD ⟨#[]⟩,r⟩:=by
 unfold pwL;cases hc:parseC t with
 | none=>simp
 | some c=>
  dsimp only;by_cases o:c.kind=5/\d.kind=2
  .rw[az o];unfold pwF;rw[List.mem_flatMap];constructor
   .rintro ⟨i,y,u⟩;unfold zAb at u;split at u
    .rename_i z;exact⟨c,rfl,o,i,List.mem_range.1 y,z,List.mem_singleton.1 u⟩
    .cases u
   .rintro ⟨A,e,_,i,y,z,rfl⟩;cases e;exact⟨i,List.mem_range.2 y,by unfold zAb;rw[az z];exact List.mem_singleton.2 rfl⟩
  .rw[bg o];constructor;·intro h;cases h
   .rintro ⟨A,e,h,_⟩;cases e;exact ao h o
section
variable {ds:B Dev}{tx:Dev->a0}{E K:B a0}{r:ad}{C S S':B Src}{M M':B Vir}{G G':B (a0×a0)}
theorem zQg (I:Known ds tx)(J:SrcOk ds S)(u:s∈S):∀ v∈pwL s.o s.d (tx s.d) r,Pr ds tx E S r v:=by
 intro v y;refine⟨?_,.inr ⟨s,u,y⟩,λN=>ao N (zKu I J u v y).2⟩;obtain⟨c,O,U,i,V,_,e⟩:=zFo.1 y;obtain⟨z,A⟩:=(I s.d (J s u).1).1.parse O (by omega);rcases zHw (c:=c) rfl i with F|F
 .left;rw[e];exact F
 .exact .inr ⟨s,u,c,z,A,by rw[e];exact F,λh=>ao (h.symm.trans U.1) (by decide),λ_=>y⟩
theorem zKn {o:a0}{k:ad}(u:k≠2/\k≠5){j:ab}(y:l=[]\/∃ s∈S,∃ c∈ctsL,tx s.d=c.txt/\c.kind=k/\l=c.inner.map bb)(z:∀ i,(i=⟨#[114]⟩\/i=⟨#[115]⟩)->o≠mdT++i):Pr ds tx E S r ⟨(),o,l[j]?.getD ⟨#[]⟩,r⟩:=by
 refine⟨?_,.inl rfl,λ_ i A e=>ao e (z i A)⟩;rcases y with rfl|⟨s,F,c,I,J,v,N⟩
 .exact .inl rfl
 .rcases zHw N j with e|e
  .exact .inl e
  .exact .inr ⟨s,F,c,I,J,e,λh=>ao (v.symm.trans h) u.1,λh=>ao (v.symm.trans h) u.2⟩
theorem zO5 (U:Known ds tx)(V:SrcOk ds S)(h:NextR ds tx E K C r S M G S' M' G'):Grow (Pr ds tx E S r) M M':=by
 obtain⟨⟨M3,G2,L4,a7,O4,⟨L2,a8,O2,M2,Z,I,e2,i2,o2,a2,e3,i3,a3⟩,e4,i4,o4,a4⟩,-⟩:=h;have g2:∀ m∈O2,mustB m.t m.e m.n (exB ds m.i) (hasS E m.i)=ae->Pr ds tx E S r (mdOf m.i m.l r):=λo X u=>by
  obtain⟨hi,hz⟩:=zQV i2 o2 X;obtain⟨_,_,hl⟩:=zDq (P:=λ_ _=>ar) i2 o2 (λ_ _=>trivial) X;refine⟨?_,.inl rfl,λ_ i Y he=>?_⟩
  .show o.l.headD ⟨#[]⟩=()\/∃ s∈S,∃ c∈ctsL,tx s.d=c.txt/\(c.inner.any λx=>eqB (o.l.headD ⟨#[]⟩) x.txt)=ae/\_
   rw[zCr];rcases hl with e|⟨m,u,a5,e⟩
   .left;rw[e];rfl
   .obtain⟨s,z,c,J,N,O,F⟩:=zBd (by decide) U V e2 u;have y:m.l=c.inner.map Ct.txt:=ag bp F;have Y:m.i=c.id:=ag bo F;rcases zHw (e.trans y) 0 with h|h
    .exact .inl h
    .refine .inr ⟨s,z,c,J,N,h,λ_=>?_,λh=>ao (h.symm.trans O) (by decide)⟩;show mdT++o.i=mdT++c.id
     rw[<-a5,Y]
  .have h3:o.i=i:=zKC he;subst h3;refine⟨L2,e2,hz,?_⟩;rw[<-hi];exact u
 have g4:∀ m∈O4,∀ v∈wantL m.i m.t m.n m.l r,Pr ds tx E S r v:=λo X v A=>by
  obtain⟨_,_,hl⟩:=zDq (P:=λ_ _=>ar) i4 o4 (λ_ _=>trivial) X;unfold wantL at A;split at A
  .unfold wantF at A;obtain⟨i,_,rfl⟩:=List.mem_map.1 A;refine zKn (k:=4) (by decide) ?_ λj _ e=>?_
   .rcases hl with h|⟨m,u,_,e⟩
    .exact .inl h
    .obtain⟨s,z,c,J,N,O,F⟩:=zBd (by decide) U V e4 u;exact .inr ⟨s,z,c,J,N,O,e.trans (show m.l=c.inner.map bb from ag bp F)⟩
   .have y:=ag (λb:a0=>b.data.toList.head?) e;unfold lvT at y;rw[da,da,zIz (n:=108) (t:=[118,45]) rfl,zIz (n:=109) (t:=[100,45]) rfl]at y;cases y
  .cases A
 have g3:∀ v∈(opened I K).map (virOf Z r),Pr ds tx E S r v:=λv A=>by
  obtain⟨x,hx,rfl⟩:=List.mem_map.1 A;obtain⟨m,u⟩:=Option.isSome_iff_exists.1 ((i3.mem x).1 (List.mem_filter.1 hx).1);obtain⟨Y,-,_⟩:=zCI Z _ _ u;have h0:virOf Z r x=⟨(),openT++x,m.l[0]?.getD ⟨#[]⟩,r⟩:=by
   unfold virOf zGy;rw[u,<-zCr];rfl
  rw[h0];refine zKn (k:=3) (by decide) (.inr ?_) λj _ e=>?_
  .obtain⟨s,z,c,J,N,O,F⟩:=zBd (by decide) U V e3 Y;exact⟨s,z,c,J,N,O,(show m.l=c.inner.map bb from ag bp F)⟩
  .have y:=ag (λb:a0=>b.data.toList.head?) e;rw[zIz (n:=111) (t:=[112,101,110,45]) rfl,zIz (n:=109) (t:=[100,45]) rfl]at y;cases y
 have q1:Grow (Pr ds tx E S r) M (wantS tx S M r (S:ab)):=by
  unfold wantS;have a6:∀ (l:B Src) (M:B Vir),(∀ s∈l,s∈S)->Grow (Pr ds tx E S r) M (l.foldl (λM s=>zg M (pwL s.o s.d (tx s.d) r)) M):=by
   intro l
   induction l with
   | nil=>intro M _;exact Grow.refl
   | cons s t ih=>
    intro M h;exact(Grow.all (zQg U V (h s (by simp)))).trans (ih _ λx hx=>h x (by simp[hx]))
  exact a6 _ M λs z=>cm z
 have q2:=zBS (ds:=ds) (E:=E) g2 (wantS tx S M r (S:ab),G) (O2:ab);rw[<-a2]at q2;have q3:Grow (Pr ds tx E S r) M2 M3:=by rw[a3];exact Grow.all g3
 have q4:=zBQ g4 (M3,G2) (O4:ab);rw[<-a4]at q4;exact((q1.trans q2).trans q3).trans q4
theorem Chain.pr (T:TreeC ds tx C)(h:Chain ds tx E K C r S M G):∀ v∈M,1<=v.r/\v.r<r/\∃ O U X,Chain ds tx E K C v.r O U X/\inW U v.q v.o=ah/\Pr ds tx E O v.r v:=by
 induction h with
 | base=>simp
 | @step r S S' M M' G G' A V Y Z=>
  have y:=(A.inv T).1;obtain⟨⟨N,e,hN,hD⟩,_⟩:=zBB T.kn y.s.1 V;obtain⟨N',e',F,_⟩:=zO5 T.kn y.s.1 V;obtain rfl:N=N':=List.append_cancel_left (e.symm.trans e');subst e;intro v u;rcases List.mem_append.1 u with u|u
  .obtain⟨I,h2,z⟩:=Z v u;exact⟨I,by omega,z⟩
  .have I:=(hN v u).r;have h2:=y.r1;have z:=F v u;rw[<-I]at A z;refine⟨by omega,by omega,S,M,G,A,?_,z⟩;have J:=hD y.d;unfold DistP at J;rw[dg]at J;unfold inW;rw[cg];intro x hx hh;exact J.2.2 x hx v u (cd hh)
theorem Chain.src (T:TreeC ds tx C)(h:Chain ds tx E K C r S M G)(z:s∈S):∃ u∈C,u.d=s.d/\u.o=s.o/\(virB ds s.d.index=ah\/∃ v∈M,keyB ds s v=ae/\v.c=tx s.d):=by
 rw[(h.inv T).2]at z;obtain⟨u,y,e⟩:=List.mem_filterMap.1 z;unfold srcE srO at e;split at e
 .rename_i A;split at e
  .rename_i v F;split at e
   .rename_i I;injection e with e
    subst e;rw[bi,beq_iff_eq]at I;have J:=ch F;have N:v.c=tx u.d:=by
     have:=I.2;rw[ByteArray.toList_eq,ByteArray.toList_eq]at this;exact db (Array.toList_inj.1 this)
    exact⟨u,y,rfl,rfl,.inr ⟨v,bv F,J,N⟩⟩
   .cases e
  .cases e
 .rename_i A;injection e with e
  subst e;exact⟨u,y,rfl,rfl,.inl (by simpa using A)⟩
end
def idR : a0:=⟨#[114]⟩
def idS : a0:=⟨#[115]⟩
def rB (i:a0)(c:Ct):Bool:=decide (c.kind=2)&&eqB c.id i
def stB (t:a0)(c:Ct):Bool:=c.inner.any λx=>eqB t x.txt
def innB (t:a0):Bool:=ctsL.any (stB t)
def zQN (c:Ct):Bool:=!decide (c.kind=5)||ctsL.all λd=>!stB c.txt d||rB idR d
theorem zNR: ∀ c∈ctsL,zQN c=true:=List.all_eq_true.1 (by kernel_rfl)
theorem zIc (h:rB i c=ae):c.kind=2/\c.id=i:=by
 unfold rB at h;rw[bi]at h;exact⟨cd h.1,zAP.1 h.2⟩
def oddN : B a0:=(rootN.filter λo=>!isDk o)++parN (mdT++idR)
theorem zCE {u:B Vir}(h:Grow P M u){q o:a0}(v:inW M q o=ae):inW u q o=true:=by
 obtain⟨N,rfl,_⟩:=h;unfold inW at v ⊢;rw[cf,v];rfl
theorem zLb (v:Vir):inW (zAA M v) v.q v.o=true:=by
 unfold zAA;split;·assumption
 .exact zHt (by simp)
theorem zNK:Grow (λ_=>ar) M (zAA M v):=Grow.one trivial
theorem zBf {V:B Vir}:Grow (λ_=>ar) M (zg M V):=Grow.all λ_ _=>trivial
theorem zLc : ∀ {V M:B Vir} {v:Vir},v∈V->inW (zg M V) v.q v.o=ae
 | x::t,M,v,h=>by
  show inW (zg (zAA M x) t) v.q v.o=ae
  rcases List.mem_cons.1 h with rfl|h
  .exact zCE zBf (zLb _)
  .exact zLc h
section
variable {ds:B Dev}{tx:Dev->a0}{E K:B a0}{r:ad}{C S S':B Src}{M M':B Vir}{G G':B (a0×a0)}
theorem zLa (z:s∈S)(A:v∈pwL s.o s.d (tx s.d) r):inW (wantS tx S M r (S:ab)) v.q v.o=true:=by
 unfold wantS;rw[be];have u:∀ (l:B Src) (M:B Vir),Grow (λ_=>ar) M (l.foldl (λM s=>zg M (pwL s.o s.d (tx s.d) r)) M):=by
  intro l
  induction l with
  | nil=>intro M;exact Grow.refl
  | cons s t y=>intro M;exact zBf.trans (y _)
 have F:∀ (l:B Src) (M:B Vir),s∈l->inW (l.foldl (λM s=>zg M (pwL s.o s.d (tx s.d) r)) M) v.q v.o=true:=by
  intro l
  induction l with
  | nil=>intro M h;cases h
  | cons x t y=>
   intro M h;rw[ci];rcases List.mem_cons.1 h with rfl|h
   .exact zCE (u t _) (zLc A)
   .exact y _ h
 exact F S M z
theorem zLC (h:NextR ds tx E K C r S M G S' M' G')(U:s∈S)(V:v∈pwL s.o s.d (tx s.d) r):inW M' v.q v.o=true:=by
 obtain⟨⟨u,X,L4,y,z,⟨L2,A,F,Y,L3,I,e2,i2,o2,Z,e3,i3,a3⟩,e4,i4,o4,a4⟩,-⟩:=h;have J:=zBS (ds:=ds) (E:=E) (r:=r) (P:=λ_=>ar) (O:=F) (λ_ _ _=>trivial) (wantS tx S M r (S:ab),G) (F:ab);rw[<-Z]at J;have q3:Grow (λ_=>ar) Y u:=by rw[a3];exact zBf
 have N:=zBQ (r:=r) (P:=λ_=>ar) (O:=z) (λ_ _ _ _=>trivial) (u,X) (z:ab);rw[<-a4]at N;exact zCE ((J.trans q3).trans N) (zLa U V)
theorem Chain.one' (T:TreeC ds tx C)(h:Chain ds tx E K C r S M G)(X:2<=r)(u:s∈C)(y:virB ds s.d.index=ah)(z:v∈pwL s.o s.d (tx s.d) r'):inW M v.q v.o=true:=by
 obtain⟨Y,Z,G1,A,_,F⟩:=Chain.grow T (.base (E:=E) (K:=K)) h (by omega);obtain⟨c,I,J,i,N,O,rfl⟩:=zFo.1 z;have U:=zLC (v:=⟨s.o,partT s.d.orig ((i:ad)+1),(c.inner.map bb)[i]?.getD ⟨#[]⟩,1⟩) A (List.mem_filter.2 ⟨u,by simp[y]⟩) (zFo.2 ⟨c,I,J,i,N,O,rfl⟩);obtain⟨x,V,e⟩:=List.any_eq_true.1 U;exact List.any_eq_true.2 ⟨x,F.sub T h (by omega) x V,e⟩
theorem Chain.late (T:TreeC ds tx C)(h:Chain ds tx E K C r S M G):∀ v∈M,2<=v.r->v.o∈oddN:=by
 intro v hv J;obtain⟨_,_,S0,M0,G0,N,hw,hp⟩:=h.pr T v hv;have A:=((h.inv T).1.m v hv).1;rcases hp.q with hq|⟨s,hs,u⟩
 .rcases A.p with⟨_,h3⟩|⟨n,_,e,_⟩
  .exact List.mem_append.2 (.inl (List.mem_filter.2 ⟨h3,by rw[A.n];rfl⟩))
  .exact ao (e.symm.trans hq) (zDh n)
 .obtain⟨s',U,hd,ho,y⟩:=N.src T hs;rcases y with O|⟨v',V,O,ht⟩
  .rw[<-hd,<-ho]at u;rw[<-hd]at O;rw[N.one' T J U O u]at hw;cases hw
  .obtain⟨c,h1,J,i,h3,h4,X⟩:=zFo.1 u;have Y:=((N.inv T).1.s.1 s hs).1;obtain⟨z,F⟩:=(T.kn s.d Y).1.parse h1 (by omega);obtain⟨_,_,S1,M1,G1,I,_,Z⟩:=N.pr T v' V;rcases Z.t with e|⟨s1,_,c1,I,_,a2,a3,_⟩
   .have:=(zEg c z).2.2.2;rw[<-F,<-ht,e]at this;exact ao this (by decide)
   .have h5:=zNR c z;unfold zQN at h5;rw[J.1]at h5;have h6:stB c.txt c1=ah\/rB idR c1=true:=(show ∀ x,x∈ctsL->stB c.txt x=ah\/rB idR x=ae by simpa using h5) c1 I;have h7:stB c.txt c1=true:=(by unfold stB;rw[<-F,<-ht];exact a2);obtain⟨k1,k2⟩:=zIc (h6.resolve_left (by rw[h7];decide));have h8:s.d.orig=mdT++idR:=(by rw[(zCU O).2,a3 k1,k2]);refine List.mem_append.2 (.inr ?_);have a4:=(zQR z J.1).1;rw[show v.o=partT s.d.orig ((i:ad)+1)from ag cb X,h8];unfold parN;have:i=0\/i=1:=(by omega);rcases this with rfl|rfl<;>simp
theorem Chain.le (T:TreeC ds tx C)(h:Chain ds tx E K C r S M G):r<=10:=by
 have I:r<=((M.filter λv=>decide (2<=v.r)).length:ad)+2:=by
  induction h with
  | base=>simp
  | @step r S Z M M' G G' J O y ih=>
   obtain⟨⟨N,rfl,U,_⟩,_⟩:=zBB T.kn (J.inv T).1.s.1 O;by_cases z:2<=r
   .have A:N.filter (λv=>decide (2<=v.r))=N:=List.filter_eq_self.2 λv u=>bm (by rw[(U v u).r];exact z)
    rw[List.filter_append,A,bu];rw[bu]at y
    push_cast
    omega
   .have:(0:ad)<=((List.filter (λv:Vir=>decide (2<=v.r)) (M++N)).length:ad):=(by omega);omega
 have F:=(h.inv T).1;have V:=(zHj (λv u=>(F.m v u).1) F.d).sublist (List.filter_sublist.map _:List.Sublist ((M.filter λv=>decide (2<=v.r)).map cb) (M.map cb));have z:=zAg V (m:=oddN) λx X=>by
  obtain⟨v,u,rfl⟩:=List.mem_map.1 X;obtain⟨A,Y⟩:=List.mem_filter.1 u;exact h.late T v A (cd Y)
 rw[bd,show (oddN:ab)=8 by kernel_rfl]at z;omega
end
def sB (k:ad)(c:Ct):Bool:=rB idS c&&decide (c.slot=k)
def zQQ (c:Ct):Bool:=!rB idR c||eqB c.txt rX.txt||ctsL.all λd=>!stB c.txt d||(rB idR d||(decide (d.kind=5)&&!innB d.txt))
theorem zNU: ∀ c∈ctsL,zQQ c=true:=List.all_eq_true.1 (by kernel_rfl)
def zQP (c:Ct):Bool:=!rB idR c||(decide (c.least=1)&&decide (1<=c.slot)&&decide (c.slot<=c.total)&&decide (c.total<=2)&&decide ((c.inner:ab)=1)&&(!eqB c.txt rX.txt||(decide (c.slot=1)&&decide (c.total=2))))
theorem zNT: ∀ c∈ctsL,zQP c=true:=List.all_eq_true.1 (by kernel_rfl)
def zQO (c:Ct):Bool:=!rB idS c||(decide (c.least=2)&&decide (1<=c.slot)&&decide (c.slot<=3)&&decide (c.total=3)&&decide ((c.inner:ab)=1)&&(decide (c.slot=1)||!innB c.txt))
theorem zNS: ∀ c∈ctsL,zQO c=true:=List.all_eq_true.1 (by kernel_rfl)
theorem zOv (h:c∈ctsL)(u:rB idR c=ae):c.least=1/\1<=c.slot/\c.slot<=c.total/\c.total<=2/\(c.inner:ab)=1/\(eqB c.txt rX.txt=ae->c.slot=1/\c.total=2):=by
 have:=zNT c h;unfold zQP at this;rw[u]at this;simp only[cy,cx,bi,cr]at this;obtain⟨⟨⟨⟨⟨v,y⟩,z⟩,A⟩,F⟩,o⟩:=this;exact⟨v,y,z,A,F,λe=>by rw[e]at o;simpa using o⟩
theorem zMk (h:c∈ctsL)(o:rB idS c=ae):c.least=2/\1<=c.slot/\c.slot<=3/\c.total=3/\(c.inner:ab)=1/\(c.slot≠1->innB c.txt=ah):=by
 have:=zNS c h;unfold zQO at this;rw[o]at this;simp only[cy,cx,bi,cr]at this;obtain⟨⟨⟨⟨⟨u,v⟩,y⟩,z⟩,A⟩,F⟩:=this;exact⟨u,v,y,z,A,λe=>by simpa [e]using F⟩
theorem zCH {L:B Mem}{z:ad}(h:(zU soundA L (i,z)).isSome=ae):∃ m∈L,zr (zU soundA L) i=m/\m.i=i/\(zU soundA L (i,m.s)).isSome=ae/\1<=m.s:=by
 obtain⟨x,F⟩:=Option.isSome_iff_exists.1 h;obtain⟨_,I,J⟩:=zAN L _ x F;have u:=zDV I;unfold soundB at u;simp only[bi,cr]at u;have V:x.s=z:=ag bz J;have o:∃ k,(bj 16).find? (λ(k:ab)=>(zU soundA L (i,(k:ad)+1)).isSome)=af k:=by
  cases hf:(bj 16).find? (λ(k:ab)=>(zU soundA L (i,(k:ad)+1)).isSome)with
  | some k=>exact⟨k,rfl⟩
  | none=>
   refine ao ?_ (List.find?_eq_none.1 hf (z-1).toNat (List.mem_range.2 (by omega)));rw[show (((z-1).toNat:ab):ad)+1=z by omega];exact h
 obtain⟨k,o⟩:=o;have N:zAS (zU soundA L) i=(k:ad)+1:=by unfold zAS;rw[o];rfl
 have v:=ch o;obtain⟨m,y⟩:=Option.isSome_iff_exists.1 v;obtain⟨O,_,A⟩:=zAN L _ m y;have U:m.s=(k:ad)+1:=ag bz A;refine⟨m,O,?_,ag bh A,by rw[U];exact v,by omega⟩;unfold zr;rw[N,y];rfl
theorem zGf (o:(buildA b i).t=t)(u:(buildA b i).n=(buildA b i).t)(v:k<t):(b (i,(k:ad)+1)).isSome=true:=by
 have h:(zr b i).t=t:=o;have y:((((bj (zr b i).t.toNat).filter λ(k:ab)=>(b (i,(k:ad)+1)).isSome).length:ab):ad)=(zr b i).t:=u;rw[h,dc]at y;have z:((bj t).filter λ(k:ab)=>(b (i,(k:ad)+1)).isSome).length=(bj t).length:=by rw[List.length_range];omega
 exact List.length_filter_eq_length_iff.1 z k (List.mem_range.2 v)
theorem zIT (v:(buildA b i).t=t){l:B ab}(y:l.Nodup)(h:∀ k∈l,k<t/\(b (i,(k:ad)+1)).isSome=ae):((l:ab):ad)<=(buildA b i).n:=by
 have o:(zr b i).t=t:=v;show ((l:ab):ad)<=((((bj (zr b i).t.toNat).filter λ(k:ab)=>(b (i,(k:ad)+1)).isSome).length:ab):ad)
 rw[o,dc];have:=zAg y (m:=(bj t).filter λ(k:ab)=>(b (i,(k:ad)+1)).isSome) λk u=>List.mem_filter.2 ⟨List.mem_range.2 (h k u).1,(h k u).2⟩
 omega
section
variable {ds:B Dev}{tx:Dev->a0}{E K:B a0}{r:ad}{C S S':B Src}{M M':B Vir}{G G':B (a0×a0)}{L:B Mem}{i:a0}
def W1 (ds:B Dev)(tx:Dev->a0)(C:B Src):B Vir:=wantS tx (C.filter λs=>!virB ds s.d.index) [] 1 (C.filter λs=>!virB ds s.d.index).length
theorem zMQ {o:B Dev}{u:Dev->a0}{v:B Src}(T:TreeC ds tx C)(y:TreeC o u v)(z:SameD ds tx C o u v):W1 ds tx C=W1 o u v:=by
 have h:=zFf z ⟨T,by simp⟩ ⟨y,by simp⟩ (.base (E:=[]) (K:=[])) .base;unfold W1 wantS;rw[be,be];exact zC8 _ h
theorem zHz (h:NextR ds tx E K C 1 (C.filter λs=>!virB ds s.d.index) [] [] S' M' G'):Grow (λv=>v.q=()) (W1 ds tx C) M':=by
 obtain⟨⟨y,U,L4,z,A,⟨L2,F,I,V,L3,J,e2,i2,o2,X,e3,i3,Y⟩,e4,i4,o4,Z⟩,-⟩:=h;have u:=zBS (ds:=ds) (E:=E) (r:=1) (P:=λv=>v.q=()) (O:=I) (λ_ _ _=>rfl) (W1 ds tx C,[]) (I:ab);unfold W1 at u ⊢;rw[<-X]at u;have q3:Grow (λv=>v.q=()) V y:=by
  rw[Y];refine Grow.all λv o=>?_
  obtain⟨x,_,rfl⟩:=List.mem_map.1 o;rfl
 have N:=zBQ (r:=1) (P:=λv=>v.q=()) (O:=A) (λm _ v o=>by
  unfold wantL at o;split at o
  .unfold wantF at o;obtain⟨i,_,rfl⟩:=List.mem_map.1 o;rfl
  .cases o) (y,U) (A:ab)
 rw[<-Z]at N;exact(u.trans q3).trans N
theorem Chain.back (T:TreeC ds tx C)(h:Chain ds tx E K C r S M G){q:ad}(A:Chain ds tx E K C q S' M' G')(J:q<=r):∀ v∈M,v.r<q->v∈M':=by
 induction h with
 | base=>simp
 | @step r S O M U G V y z o F=>
  by_cases e:q=r+1
  .subst e;rw[(A.self T (.step y z o)).1];exact λv u _=>u
  .obtain⟨⟨N,rfl,I,_⟩,_⟩:=zBB T.kn (y.inv T).1.s.1 z;intro v u o;rcases List.mem_append.1 u with u|u
   .exact F (by omega) v u o
   .have:=(I v u).r;omega
def DC (ds:B Dev)(tx:Dev->a0)(C:B Src)(p:Ct->ax):Prop:=∃ s∈C,virB ds s.d.index=ah/\∃ c∈ctsL,tx s.d=c.txt/\p c=ae
theorem Chain.top (T:TreeC ds tx C)(h:Chain ds tx E K C r S M G)(U:s∈S)(N:c∈ctsL)(y:tx s.d=c.txt)(z:innB c.txt=ah){p:Ct->ax}(V:p c=ae):DC ds tx C p:=by
 obtain⟨X,A,O,_,F|⟨v,F,_,o⟩⟩:=h.src T U;·exact⟨X,A,by rw[O];exact F,c,N,by rw[O];exact y,V⟩
 .obtain⟨_,_,S0,M0,G0,Y,_,I⟩:=h.pr T v F;rcases I.t with e|⟨s1,Z,d,J,_,u,_⟩
  .have:=(zEg c N).2.2.2;rw[<-y,<-o,e]at this;exact ao this (by decide)
  .rw[o,y]at u;unfold innB at z;rw[cg]at z;exact ao u (z d J)
theorem zLL (T:TreeC ds tx C)(h:Chain ds tx E K C r S M G)(e:L.map bx=S.filterMap (λs=>ofK 2 mk2 s.o s.r (tx s.d)))(v:m∈L):∃ s∈S,∃ c∈ctsL,tx s.d=c.txt/\rB m.i c=ae/\m.s=c.slot/\m.t=c.total/\m.e=c.least:=by
 obtain⟨s,y,c,z,A,F,u⟩:=zBd (by decide) T.kn (h.inv T).1.s.1 e v;refine⟨s,y,c,z,A,?_,ag Mem.s u,ag Mem.t u,ag Mem.e u⟩;unfold rB;rw[F,(show m.i=c.id from ag bo u),zAP.2 rfl];rfl
def RM (ds:B Dev)(tx:Dev->a0)(C:B Src):Prop:=DC ds tx C (rB idR)\/∃ v∈W1 ds tx C,∃ c∈ctsL,v.c=c.txt/\rB idR c=ae
theorem ArrW.rr (T:TreeC ds tx C)(h:Chain ds tx E K C r S M G)(a7:∀ s∈C,s.d.orig=mdT++idR->exB ds idR=ae)(ha:ArrW ds tx E S idR)(he:exB ds idR=ah)(hx:hasS E idR=ah):RM ds tx C:=by
 obtain⟨L,e,⟨z,hz⟩,I⟩:=ha;rw[he,hx]at I;have hn:(buildA (zU soundA L) idR).n=(buildA (zU soundA L) idR).t:=by simpa [mustB]using I
 have U:∀ m∈L,m.i=idR->(m.s=1/\m.t=2)\/RM ds tx C:=λm I hi=>by
  obtain⟨s,hs,c,V,J,X,h1,h2,_⟩:=zLL T h e I;rw[hi]at X;cases hX:eqB c.txt rX.txt with
  | true=>
   have:=(zOv V X).2.2.2.2.2 hX;exact .inl ⟨by omega,by omega⟩
  | false=>
   right;obtain⟨s',Y,hd,_,hv|⟨v,hv,hk,A⟩⟩:=h.src T hs;·exact .inl ⟨s',Y,by rw[hd];exact hv,c,V,by rw[hd];exact J,X⟩
   .obtain⟨b7,b8,S0,M0,G0,o,hw,a8⟩:=h.pr T v hv;rcases a8.t with e|⟨s1,Z,d,a2,a3,a4,a9,b0⟩
    .have:=(zEg c V).2.2.2;rw[<-J,<-A,e]at this;exact ao this (by decide)
    .have h5:=zNU c V;unfold zQQ at h5;rw[X,hX]at h5;rw[A,J]at a4;have F:=(show ∀ x,x∈ctsL->stB c.txt x=ah\/(rB idR x=ae\/(x.kind=5/\innB x.txt=ah)) by simpa using h5) d a2;have F:=F.resolve_left (by rw[show stB c.txt d=ae from a4];decide);rcases F with F|⟨F,h7⟩
     .obtain⟨k1,k2⟩:=zIc F;have h8:s'.d.orig=mdT++idR:=(by rw[hd,(zCU hk).2,a9 k1,k2]);rw[a7 s' Y h8]at he;cases he
     .right;obtain⟨s2,b1,u,b2,a5|⟨x,hx,_,a6⟩⟩:=o.src T Z
      .have hp:=b0 F;have hq:=(zKu T.kn (o.inv T).1.s.1 Z v hp).2;have h1:v.r=1:=by
        by_cases h2:2<=v.r
        .rw[<-u,<-b2]at hp;rw[<-u]at a5;rw[o.one' T h2 b1 a5 hp]at hw;cases hw
        .omega
       obtain⟨S1,M1,G1,b3,_,b4⟩:=Chain.grow T (.base (E:=E) (K:=K)) h (by omega);obtain⟨N,e1,hN,_⟩:=zHz b3;have O:=h.back T b4 (by omega) v hv (by omega);rw[e1]at O;rcases List.mem_append.1 O with O|O
       .exact⟨v,O,c,V,by rw[A,J],X⟩
       .exact ao (hN v O) hq
      .obtain⟨_,_,S3,M3,G3,_,_,b5⟩:=o.pr T x hx;exfalso;rcases b5.t with e|⟨_,_,d2,u,_,y,_⟩
       .have:=(zEg d a2).2.2.2;rw[<-a3,<-a6,e]at this;exact ao this (by decide)
       .rw[a6,a3]at y;unfold innB at h7;rw[cg]at h7;exact h7 d2 u y
 obtain⟨m,I,hf,hi,_⟩:=zCH hz;rcases U m I hi with⟨_,J⟩|h
 .have h1:=zGf (t:=2) (by show (zr (zU soundA L) idR).t=_;rw[hf,J];rfl) hn (k:=1) (by decide);obtain⟨m2,b6⟩:=Option.isSome_iff_exists.1 h1;obtain⟨g1,_,g3⟩:=zAN L _ _ b6;have g4:m2.s=((1:ab):ad)+1:=ag bz g3;rcases U m2 g1 (ag bh g3)with⟨h,_⟩|h
  .omega
  .exact h
 .exact h
theorem ArrW.ss (T:TreeC ds tx C)(h:Chain ds tx E K C r S M G)(V:ArrW ds tx E S idS)(X:exB ds idS=ah)(Y:hasS E idS=ah):DC ds tx C (sB 2)/\DC ds tx C (sB 3):=by
 obtain⟨L,e,⟨z,Z⟩,v⟩:=V;rw[X,Y]at v;have hn:(buildA (zU soundA L) idS).n=(buildA (zU soundA L) idS).t:=by simpa [mustB]using v
 obtain⟨m,v,hf,hi,_⟩:=zCH Z;have y:m.t=3:=by
  obtain⟨s,J,c,A,y,o,F,N,_⟩:=zLL T h e v;rw[hi]at o;rw[N];exact(zMk A o).2.2.2.1
 have u:∀ k:ab,k<3->k≠0->DC ds tx C (sB ((k:ad)+1)):=λk hk h0=>by
  have F:=zGf (t:=3) (by show (zr (zU soundA L) idS).t=_;rw[hf,y];rfl) hn hk;obtain⟨O,I⟩:=Option.isSome_iff_exists.1 F;obtain⟨g1,_,U⟩:=zAN L _ _ I;have g4:O.s=(k:ad)+1:=ag bz U;obtain⟨s,J,c,A,y,o,F,N,_⟩:=zLL T h e g1;rw[(show O.i=idS from ag bh U)]at o;refine h.top T J A y ((zMk A o).2.2.2.2.2 (by omega)) ?_;unfold sB;rw[o,<-F,g4];simp
 exact⟨u 1 (by decide) (by decide),u 2 (by decide) (by decide)⟩
def GM (M:B Vir)(G:B (a0×a0)):Prop:=∀ i,(G.any λy=>decide (y=(mdK,i)))=ae->inW M () (mdT++i)=ae
theorem GM.grow (h:GM M G)(o:Grow P M M'):GM M' G:=λi u=>zCE o (h i u)
theorem GM.md (h:GM M G)(u:inW M () (mdT++i)=ae):GM M (G++[(mdK,i)]):=λj o=>by
 rw[cf,cz]at o;rcases o with o|o
 .exact h j o
 .have:j=i:=by simpa [eq_comm]using o
  rw[this];exact u
theorem zQW:∀ (x:B Vir×B (a0×a0)),GM x.1 x.2->GM (O.foldl (zAG ds E r) x).1 (O.foldl (zAG ds E r) x).2/\∀ o∈O,mustB o.t o.e o.n (exB ds o.i) (hasS E o.i)=ae->inW (O.foldl (zAG ds E r) x).1 () (mdT++o.i)=true:=by
 induction O with
 | nil=>intro x h;exact⟨h,by simp⟩
 | cons m t I=>
  intro x h;rw[ci];have z:GM (zAG ds E r x m).1 (zAG ds E r x m).2/\(mustB m.t m.e m.n (exB ds m.i) (hasS E m.i)=ae->inW (zAG ds E r x m).1 () (mdT++m.i)=ae):=by
   unfold zAG;split
   .split
    .rename_i A;exact⟨h.md (h _ A),λ_=>h _ A⟩
    .have F:inW (zAA x.1 (mdOf m.i m.l r)) () (mdT++m.i)=true:=zLb (mdOf m.i m.l r);exact⟨(h.grow zNK).md F,λ_=>F⟩
   .rename_i u;exact⟨h,λe=>ao e u⟩
  obtain⟨J,N⟩:=I _ z.1;refine⟨J,λo v u=>?_⟩;rcases List.mem_cons.1 v with rfl|v
  .have y:=zBS (P:=λ_=>ar) (O:=t) (ds:=ds) (E:=E) (r:=r) (λ_ _ _=>trivial) (zAG ds E r x o) (t:ab);unfold arrAll at y;rw[be]at y;exact zCE y (z.2 u)
  .exact N o v u
theorem zQM:∀ (x:B Vir×B (a0×a0)),GM x.1 x.2->GM (O.foldl (zAK r) x).1 (O.foldl (zAK r) x).2:=by
 induction O with
 | nil=>intro x h;exact h
 | cons m t v=>
  intro x h;rw[ci];apply v _;have u:∀ {M:B Vir},GM M x.2->GM M (x.2++[(lvK,m.i)]):=λy j o=>by
   rw[cf,cz]at o;rcases o with o|o
   .exact y j o
   .have z:((lvK,m.i):a0×a0)=(mdK,j):=(by simpa using o);exact ao (show lvK=mdK from ag bh z) (by decide)
  unfold zAK;split
  .split;·exact u h
   .exact u (h.grow zBf)
  .exact h
theorem zHh (h:NextR ds tx E K C r S M G S' M' G')(U:GM M G):GM M' G'/\∀ i,exB ds i=ae->(∀ L:B Mem,L.map bx=S.filterMap (λs=>ofK 2 mk2 s.o s.r (tx s.d))->(∃ z,(zU soundA L (i,z)).isSome=ae)/\(buildA (zU soundA L) i).e<=(buildA (zU soundA L) i).n)->inW M' () (mdT++i)=true:=by
 obtain⟨⟨y,A,L4,V,F,⟨I,u,J,X,L3,Y,e2,i2,o2,Z,e3,i3,a3⟩,e4,i4,o4,a4⟩,-⟩:=h;have q1:Grow (λ_=>ar) M (wantS tx S M r (S:ab)):=by
  unfold wantS;generalize S.take (S:ab)=l;clear Z
  induction l generalizing M with
  | nil=>exact Grow.refl
  | cons s t ih=>exact zBf.trans (ih (U.grow zBf))
 obtain⟨h1,h2⟩:=zQW (ds:=ds) (E:=E) (r:=r) (O:=J) (wantS tx S M r (S:ab),G) (U.grow q1);have e5:J.foldl (zAG ds E r) (wantS tx S M r (S:ab),G)=(X,A):=by rw[Z];unfold arrAll;rw[be]
 rw[e5]at h1 h2;have q3:Grow (λ_=>ar) X y:=by rw[a3];exact zBf
 have h3:=zQM (r:=r) (O:=F) (y,A) (h1.grow q3);have e6:F.foldl (zAK r) (y,A)=(M',G'):=by rw[a4];unfold grpAll;rw[be]
 rw[e6]at h3;refine⟨h3,λi hx hA=>?_⟩;obtain⟨⟨z,hz⟩,N⟩:=hA I e2;have hi:i∈u:=(i2.mem i).2 ⟨z,hz⟩;have h4:buildA (zU soundA I) i∈J.map ArrM.toArr:=by rw[o2];exact ap hi
 obtain⟨o,ho,e⟩:=List.mem_map.1 h4;have v:o.i=i:=ag Arr.i e;have hm:mustB o.t o.e o.n (exB ds o.i) (hasS E o.i)=true:=by
  have k1:o.e=(buildA (zU soundA I) i).e:=ag Arr.e e;have k2:o.n=(buildA (zU soundA I) i).n:=ag Arr.n e;unfold mustB;rw[v,hx,k1,k2,bm N];simp
 have h5:=h2 o ho hm;rw[v]at h5;have q4:=zBQ (r:=r) (P:=λ_=>ar) (O:=F) (λ_ _ _ _=>trivial) (y,A) (F:ab);rw[<-a4]at q4;exact zCE (q3.trans q4) h5
theorem Chain.gm (h:Chain ds tx E K C r S M G):GM M G:=by
 induction h with
 | base=>intro i h;cases h
 | step y o u v=>exact(zHh o v).1
theorem zIP (e:L.map bx=S.filterMap (λs=>ofK 2 mk2 s.o s.r (tx s.d)))(v:s∈S)(h:s.o.toList≠[])(y:c∈ctsL)(z:tx s.d=c.txt)(A:c.kind=2)(F:1<=c.slot/\c.slot<=16)(I:1<=c.total/\c.total<=16)(J:(c.inner:ab)=1):(zU soundA L (c.id,c.slot)).isSome=true:=by
 have N:mk2 s.o s.r c∈L.map Mem.k:=by
  rw[e];refine List.mem_filterMap.2 ⟨s,v,?_⟩;unfold ofK;rw[z,zEf y];exact az A
 obtain⟨m,O,u⟩:=List.mem_map.1 N;have U:soundA m=true:=by
  rw[<-zFg,u];unfold soundA soundB mk2;simp[F,I,J,h]
 obtain⟨o,h⟩:=zKA L m O U;have V:m.i=c.id:=ag bo u;have X:m.s=c.slot:=ag Mem.s u;rw[V,X]at h;rw[h];rfl
theorem zN0 (T:TreeC ds tx C)(h:Chain ds tx E K C r S M G)(N:NextR ds tx E K C r S M G S' M' G')(O:exB ds idR=ae)(U:s∈S)(V:s.o.toList≠[])(A:c∈ctsL)(X:tx s.d=c.txt)(F:rB idR c=ae):inW M' () (mdT++idR)=true:=by
 refine(zHh N h.gm).2 idR O λL e=>?_
 obtain⟨h1,Y,h3,h4,Z,_⟩:=zOv A F;obtain⟨k1,k2⟩:=zIc F;have v:=zIP e U V A X k1 ⟨Y,by omega⟩ ⟨by omega,by omega⟩ Z;rw[k2]at v;refine⟨⟨_,v⟩,?_⟩;obtain⟨m,hm,I,hi,y,h0⟩:=zCH v;obtain⟨s',_,c',z,_,u,g1,g2,g3⟩:=zLL T h e hm;rw[hi]at u;obtain⟨f1,f2,f3,f4,_⟩:=zOv z u;have:=zIT (b:=zU soundA L) (i:=idR) (t:=m.t.toNat) (by show (zr _ _).t=_;rw[I];omega) (l:=[(m.s-1).toNat]) (by simp) (λk J=>by
  rw[df]at J;subst J;refine⟨by omega,?_⟩;rw[show (((m.s-1).toNat:ab):ad)+1=m.s by omega];exact y)
 have he:(buildA (zU soundA L) idR).e=1:=by show (zr _ _).e=_;rw[I];omega
 rw[he]
 simpa using this
theorem zPv (T:TreeC ds tx C)(h:Chain ds tx E K C r S M G)(O:NextR ds tx E K C r S M G S' M' G')(U:exB ds idS=ae)(F:∀ k:ad,(k=2\/k=3)->∃ s∈S,s.o.toList≠[]/\∃ c∈ctsL,tx s.d=c.txt/\sB k c=ae):inW M' () (mdT++idS)=true:=by
 refine(zHh O h.gm).2 idS U λL e=>?_
 have u:∀ k:ad,(k=2\/k=3)->(zU soundA L (idS,k)).isSome=true:=λk A=>by
  obtain⟨s,F,V,c,J,X,v⟩:=F k A;unfold sB at v;rw[bi]at v;obtain⟨h1,Y,h3,h4,Z,_⟩:=zMk J v.1;obtain⟨k1,y⟩:=zIc v.1;have:=zIP e F V J X k1 ⟨Y,by omega⟩ ⟨by omega,by omega⟩ Z
  rwa [y,cd v.2]at this
 have y:=u 2 (.inl rfl);refine⟨⟨_,y⟩,?_⟩;obtain⟨m,hm,N,hi,a2,h0⟩:=zCH y;obtain⟨s',_,c',I,_,z,g1,g2,g3⟩:=zLL T h e hm;rw[hi]at z;obtain⟨f1,f2,f3,f4,_⟩:=zMk I z;have:=zIT (b:=zU soundA L) (i:=idS) (t:=3) (by show (zr _ _).t=_;rw[N,g2,f4];rfl) (l:=[1,2]) (by decide) (λk A=>by
  simp only[List.mem_cons,List.not_mem_nil,or_false]at A;rcases A with rfl|rfl
  .exact⟨by decide,y⟩
  .exact⟨by decide,u 3 (.inr rfl)⟩)
 have he:(buildA (zU soundA L) idS).e=2:=by show (zr _ _).e=_;rw[N];omega
 rw[he]
 simpa using this
end
theorem zPA (nm:a0)(o:ad)(w:aq):
  bc bf 21 #[nm,o,()] w λe w'=>e=.returned (ba (ocs 1 () ⟨0,0,(),nm,zX,(),(),2,o,am,0,0⟩ () ()))/\Fr No w w':=by
 obtain⟨X,y,I,J⟩:=zy w (aw (ocs 0 () ⟨0,0,(),(),(),(),(),0,0,am,0,0⟩ () ()) 72);obtain⟨A,u,F,N⟩:=zy X (aw (Dev.vals ⟨0,0,(),nm,zX,(),(),2,o,am,0,0⟩) 48);have O:=zh (F.heap J id);have Y:=zh (I.step F zi);have Z:=zh N;unfold Dev.vals at u;unfold ocs at y;unfold zX at u;dsimp only at y u;clear J N I F;go_enter Tryz.func21,Tryz.ntmps21;go_upto_region 1 with(fail)
 rw[<-y];clear y;go_upto_region 2 with(fail)
 rw[<-u];clear u;obtain⟨c0,c1,c2,c3,c4,c5,c6,c7,c8,c9⟩:=DevB.of Z;have U:(Tryz.prog.info? 72).map (·.size)=af 14:=by kernel_rfl
 have hu:=Tryz.underlying72;have HG:=zh (setRow_heap A (w:ab) _ #[aj ak 1,(),aj ak 0,aj ak 0,(),nm,zX,(),(),aj ak 2,o,ai am 0 0,(),()] 72 (0,0) O);have z:Array.all (#[aj ak 1,(),aj ak 0,aj ak 0,(),nm,zX,(),(),aj ak 2,o,ai am 0 0,(),()]:Array bn) (·.oneCell')=true:=by simp[Value.oneCell']
 go_wp2_with (refine wpList_store_row rfl 72 _ _ rfl (w:ab) #[aj ak 1,(),aj ak 0,aj ak 0,(),nm,zX,(),(),aj ak 2,o,ai am 0 0,(),()] rfl rfl 72 _ O U rfl z ?_)
 refine bodyPost_ret (v:=ba #[aj ak 1,(),aj ak 0,aj ak 0,(),nm,zX,(),(),aj ak 2,o,ai am 0 0,(),()]) (results_cell_row rfl _ _ (w:ab) 72 _ (0,0) _ rfl HG hu rfl U) rfl ?_;have hx:Fr (Is (w:ab)) A (A.setRow (w:ab) #[aj ak 1,(),aj ak 0,aj ak 0,(),nm,zX,(),(),aj ak 2,o,ai am 0 0,(),()]):=⟨rfl,rfl,rfl,by simp,λb _ V=>setRow_other _ _ _ _ (λe=>V e)⟩
 exact⟨rfl,Y.step hx (λb V h=>by omega)⟩
structure DoneP (M:B Vir)(K:B Dev)(ck:ad->a0)(ix:ad):Prop where
 u:UOk K ck ix
 w:WantC M K ck
 t:∀ v∈M,There K v
 r:Roots M K
 p:0<=ix
theorem PlaP.done {J:ad}(h:PlaP M J (M:ab) L ct){V:ad->a0}{N:ad}(o:SimK f L ct K V N)(Y:N<=1000000):DoneP M K V N:=by
 refine⟨h.u.renK o Y,λd I y=>?_,λv y=>?_,λv y Z=>?_,o.pos⟩
 .rw[o.eq]at I y ⊢;obtain⟨x,A,rfl⟩:=List.mem_map.1 I;have F:virB (L.map (ren f)) (f x.index)=true:=y;rw[zMS o.ren]at F;obtain⟨O,U⟩:=h.w x A F;have e:plc (L.map (ren f)) (ren f x).parent=plc L x.parent:=zCT o.ren;rw[e];exact⟨O,(o.ct x A).trans U⟩
 .obtain⟨i,X⟩:=cj y;obtain⟨d,I⟩:=h.t i v (List.getElem?_eq_some_iff.1 X).1 X;unfold There;rw[o.eq,zMC o.ren,I];exact⟨_,rfl⟩
 .obtain⟨p,hp,O,U⟩:=h.r v y Z;exact⟨ren f p,by rw[o.eq];exact ap hp,by show f p.parent=0;rw[O,o.ren.z],U⟩
theorem zDy (h:∀ v∈M,VOk v):∀ v∈M,v.q.size<=100000/\v.o.size<=100000:=λv y=>by
 have u:=h v y;have F:=(zAh (zAT u.all).1).1;refine⟨?_,by omega⟩;rcases u.p with⟨e,_⟩|⟨n,z,A,_⟩
 .rw[e];decide
 .rw[A];have I:=(zAh (zAT (zCD z)).1).1;have:pathOf [n]=(():a0)++⟨#[47]⟩++n:=rfl;rw[this,ByteArray.size_append,ByteArray.size_append];show 0+1+n.size<=_
  omega
structure DskP (D:B (a0×ad×a0))(L:B Dev)(ct:ad->a0):Prop where
 a:∀ d∈L,isDk d.orig=ae->(d.orig,d.num,ct d.index)∈D
 b:∀ x∈D,isDk x.1=ae/\∃ d∈L,d.orig=x.1/\d.num=x.2.1/\ct d.index=x.2.2
 n:∀ d∈L,isDk d.orig=ah->1048576<=d.num
theorem DskP.sim (h:DskP D L ct){A:ad->a0}{I:ad}(o:SimK f L ct K A I):DskP D K A:=by
 refine⟨λd u z=>?_,λx J=>?_,λd u z=>?_⟩
 .rw[o.eq]at u;obtain⟨y,v,rfl⟩:=List.mem_map.1 u;have:=h.a y v z;rw[<-o.ct y v]at this;exact this
 .obtain⟨N,d,F,O,U,V⟩:=h.b x J;exact⟨N,ren f d,by rw[o.eq];exact ap F,O,U,(o.ct d F).trans V⟩
 .rw[o.eq]at u;obtain⟨y,v,rfl⟩:=List.mem_map.1 u;exact h.n y v z
theorem DskP.step (h:DskP D L ct){J:B OpA}{N:B Dev}{y:ad->a0}{z:B OpA}(U:zBy L ct J v N y z)(V:isDk v.o=ah):DskP D N y:=by
 rcases U with⟨_,rfl,rfl,rfl⟩|⟨X,k,aa,p,hk,hu,hp,rfl,rfl,rfl⟩
 .exact h
 .have A:∀ d∈L,updC ct (maxI L+1) v.c d.index=ct d.index:=λd u=>by
   unfold updC;rw[bg (by have:=(zEO L).2.1 d u;omega)]
  refine⟨λd u F=>?_,λx Y=>?_,λd u F=>?_⟩
  .rcases zV.1 u with rfl|u
   .have I:isDk v.o=true:=F;rw[V]at I;cases I
   .rw[A d u];exact h.a d u F
  .obtain⟨I,d,O,Z,h4,h5⟩:=h.b x Y;exact⟨I,d,zV.2 (.inr O),Z,h4,(A d O).trans h5⟩
  .rcases zV.1 u with rfl|u
   .show (1048576:ad)<=1048576+(k:ad);omega
   .exact h.n d u F
theorem UOk.rootD {b:ad}(h:UOk L ct b)(u:d∈L)(o:isDk d.orig=ae):d.parent=0:=by
 rcases h.pl d u with⟨v,_⟩|⟨p,_,_,_,y,z⟩
 .exact v
 .rw[zK1 y z]at o;cases o
theorem zKO (F:ab)(a:al au)(Y:ab)(ds:B Dev)(ct:ad->a0)(M:B Vir)(ma:al au)(mc:ab)(y:ad)(w:aq)(hl:Tr w F a Y ds)(hU:UOk (ds.map strip) ct y)(I:MustOk ds M)(hx:0<=y/\y<=900000)(hE:Env w)(a9:TrT w a ds)(hC:CtO w ds ct)(hV:Virs w ma mc M)(b0:F<=(w:ab))
  (Q:ab->B Dev->B OpA->Prop) (b1:Q 0 (remF M ds (revR ds)).1 (setF M (remF M ds (revR ds)).1 ct (remF M ds (revR ds)).2 (remF M ds (revR ds)).1.length).2) (hQ:∀ j v L ct o L' b2 A,M[j]?=af v->Q j L o->zBy L ct o v L' b2 A->Q (j+1) L' A):
  bc bf 23 #[ba #[ai a ds Y],ai ma M mc] w λe w'=>(∃ (o:B OpA) (av:al au) (cv:ab) (K:B Dev) (ck:ad->a0) (ix:ad),KRun 44 (ds.map strip) ct y o K ck ix/\DoneP M K ck ix/\(∀ D,DskP D (ds.map strip) ct->DskP D K ck)/\ix<=y+44/\o.length<=132/\(∃ L,Q (M:ab) L o)/\e=.returned (ai av o.length cv)/\w'.ownsRow (w:ab) 72 14 (ai av o.length cv) o.length (opF o)/\OpsOk w' (w:ab) o)/\Fr No w w':=by
 have O:=hU.len;rw[bd]at O;have b6:=zDj I.v I.d;obtain⟨r1,Z,r3,r4⟩:=zOs (M:=M) hU;have a3:=Z.setOk (by omega) I.v ct;have N:Roots M (remF M ds (revR ds)).1:=λv hv hq=>by
  obtain⟨d,u,U,h2,h3⟩:=I.q v hv hq;refine⟨strip d,r4 _ (ap u) U λV=>?_,U,h2⟩;have e1:virB (ds.map strip) (strip d).index=virB ds d.index:=zAM;have e2:plc (ds.map strip) (strip d).parent=plc ds d.parent:=zAH;rw[e1]at V;rw[e2];exact h3 V
 have a2:=zKk (M:=M) (ct:=ct) Z.wf.ok (remF M ds (revR ds)).2 _ (di _);have b3:PlaP M y 0 (remF M ds (revR ds)).1 (setF M (remF M ds (revR ds)).1 ct (remF M ds (revR ds)).2 (remF M ds (revR ds)).1.length).1:=by
  refine⟨(Z.mono (by simp)).cont λd u=>?_,λd u hv=>⟨r3 d u hv,?_⟩,λi v hi=>by omega,N⟩
  .obtain⟨j,z⟩:=cj u;rw[a2 j d z];split;·exact Z.wco I.v u
   .exact Z.co d u
  .obtain⟨j,z⟩:=cj u;rw[a2 j d z,az ⟨(List.getElem?_eq_some_iff.1 z).1,hv⟩]
 have a4:∀ D,DskP D (ds.map strip) ct->DskP D (remF M ds (revR ds)).1 (setF M (remF M ds (revR ds)).1 ct (remF M ds (revR ds)).2 (remF M ds (revR ds)).1.length).1:=λD h=>by
  have a5:∀ d∈(remF M ds (revR ds)).1,isDk d.orig=ae->(setF M (remF M ds (revR ds)).1 ct (remF M ds (revR ds)).2 (remF M ds (revR ds)).1.length).1 d.index=ct d.index:=λd u J=>by
   obtain⟨j,z⟩:=cj u;rw[a2 j d z,bg λh=>by
    have U:=h.2;rw[Z.vir u,J]at U;cases U]
  refine⟨λd u J=>by rw[a5 d u J];exact h.a d (zFl _ d u) J,λx hx=>?_,λd u J=>h.n d (zFl _ d u) J⟩;obtain⟨U,d,h2,h3,h4,h5⟩:=h.b x hx;have J:isDk d.orig=true:=by rw[h3];exact U
  have h6:=r4 d h2 (hU.rootD h2 J) λhv=>by
   rw[hU.vir h2,J]at hv;cases hv
  exact⟨U,d,h6,h3,h4,(a5 d h6 J).trans h5⟩
 refine(zH8 44 (by omega) F a Y ds ct M ma mc w hl O hE a9 hC hV (by omega) I.d (zDy I.v) b0 r1 (λd u=>(hU.dv (strip d) (ap u)).1.kind) Z.wf a3 y hx (λd u=>(hU.dv (strip d) (ap u)).2)
  (λj L c o=>PlaP M y j L c/\(∀ D,DskP D (ds.map strip) ct->DskP D L c)/\Q j L o) ⟨b3,a4,b1⟩ (λj v L c o z h=>?_) (λj v L c o L' c' A z h hs=>?_)).mono ?_
 .have b4:=(List.getElem?_eq_some_iff.1 z).1;exact h.1.ok ⟨hx.1,by omega⟩ (ay z) (I.v v (ay z))
 .have b4:=(List.getElem?_eq_some_iff.1 z).1;exact⟨h.1.step ⟨hx.1,by omega⟩ I.d z (I.v v (ay z)) hs,λD u=>(h.2.1 D u).step hs (I.v v (ay z)).n,hQ j v L c o L' c' A z h.2.2 hs⟩
 .rintro e w' ⟨⟨L,c,o,av,cv,⟨hP,b7,f,K,ck,ix,a6,X,b8⟩,rfl,a7,a8⟩,b5⟩;exact⟨⟨o,av,cv,K,ck,ix,a6,hP.1.done X (by omega),λD h=>(hP.2.1 D h).sim X,by omega,by omega,⟨L,hP.2.2⟩,rfl,a7,a8⟩,b5⟩
theorem zNu (o:ab)(a:al au)(A:ab)(ds:B Dev)(ct:ad->a0)(M:B Vir)(O:al au)(U:ab)(Y:ad)(w:aq)(hl:Tr w o a A ds)(z:DoneP M (ds.map strip) ct Y)(N:∀ v∈M,VOk v)(y:DistP M)(hx:Y<=1000000)(hE:Env w)(V:TrT w a ds)(hC:CtO w ds ct)(hV:Virs w O U M)(X:o<=(w:ab)):
  bc bf 23 #[ba #[ai a ds A],ai O M U] w λe w'=>(∃ (av:al au) (cv:ab),e=.returned (ai av 0 cv))/\Fr No w w':=by
 have I:=z.u.len;rw[bd]at I;have a2:=zDj N y;have Z:∀ d∈ds,virB ds d.index=ae->inW M (plc ds d.parent) d.orig=ae/\ct d.index=wcF M (plc ds d.parent,d.orig):=λd y J=>by
  have e1:virB (ds.map strip) (strip d).index=virB ds d.index:=zAM;have e2:plc (ds.map strip) (strip d).parent=plc ds d.parent:=zAH;have:=z.w (strip d) (ap y) (by rw[e1];exact J);rw[e2]at this;exact this
 exact zHF o a A ds ct M O U w hl (by omega) hE V hC hV (by omega) y (zDy N) X (λd y=>(z.u.dv (strip d) (ap y)).1.kind) z.u.wf (z.u.setOk hx N ct) (λd y h=>(Z d y h).1) (λd y h=>(Z d y h).2) λv F=>by
  obtain⟨p,hp,_⟩:=z.u.parent z.r F (N v F);exact⟨⟨p,hp⟩,z.t v F⟩
theorem UOk.known {b:ad}(h:UOk (ds.map strip) ct b):Known ds (λd=>ct d.index):=λd A=>by
 have o:=ap (f:=strip) A;have v:=h.co (strip d) o;refine⟨v.1,v.2,λy=>⟨?_,?_⟩⟩
 .rcases h.pl (strip d) o with⟨_,z⟩|⟨p,u,I,z,_⟩
  .exact z
  .have:=(h.wf.ok.ix p u).1;have e:(strip d).parent=0:=y;omega
 .rw[<-zAH];have F:=zB2 h o y;exact F
theorem CtO.txs (h:CtO w ds ct)(y:∀ d∈ds,InU (ct d.index)):TxS w (w:ab) (λd=>ct d.index) ds:=λd u=>by
 obtain⟨v,z⟩:=h d u;have A:=zDm (y d u);exact⟨_,v,z,zCs _,by dsimp only at A ⊢;omega,λF e o=>(v.cell F e o).2.1⟩
theorem zJE (ds:B Dev)(L:B Rec):∀ (l:B Dev) (i:ab),((cntL ds L i l).map λs=>s.d).Sublist l
 | [],i=>.slnil
 | d::t,i=>by
  unfold cntL;rw[List.map_append];have h:=zJE ds L t (i+1);split;·exact h.cons_cons d
  .exact h.cons d
theorem zJG (ds:B Dev)(L:B Rec):∀ (l:B Dev) (i:ab),(cntL ds L i l).Pairwise (λx y=>x.at_<y.at_)/\∀ s∈cntL ds L i l,(i:ad)<=s.at_
 | [],i=>by simp[cntL]
 | d::t,i=>by
  obtain⟨u,o⟩:=zJG ds L t (i+1);unfold cntL;split
  .refine⟨List.pairwise_cons.2 ⟨λy v=>?_,u⟩,λs h=>?_⟩
   .have:=o y v;show (i:ad)<y.at_
    omega
   .rcases List.mem_cons.1 h with rfl|h
    .exact Int.le_refl _
    .have:=o s h;omega
  .refine⟨u,λs h=>?_⟩;have:=o s h;omega
theorem UOk.treeC {b:ad}(h:UOk (ds.map strip) ct b)(L:B Rec):TreeC ds (λd=>ct d.index) (cntL ds L 0 ds):=by
 have z:=λs o=>zAm ds L ds 0 s o
 have u:=zJE ds L ds 0;refine⟨h.known,λs o=>⟨(z s o).1,(z s o).2.1⟩,?_,(zJG ds L ds 0).1,λs o=>(z s o).2.2.1,?_,λs o U v J=>?_⟩
 .have A:((ds.map strip).map Dev.orig).Nodup:=by
   have:=h.wf.ok.nd;unfold dd at this ⊢;rw[bw]at this ⊢;exact this.imp_of_mem λV X N e=>N (by rw[h.inj V X e])
  rw[cq]at A;have I:((cntL ds L 0 ds).map λs=>s.d.orig)=((cntL ds L 0 ds).map λs=>s.d).map (Dev.orig∘strip):=by rw[cq];rfl
  rw[I];exact A.sublist (u.map _)
 .have A:=h.so;rw[bw]at A;have I:=A.sublist u;rw[bw]at I;refine I.imp_of_mem fun {x y} Y Z O=>?_
  have F:pathO (plc (ds.map strip) x.d.index) (plc (ds.map strip) y.d.index)<0:=O;rw[zAH,zAH]at F;rw[(z x Y).2.1,(z y Z).2.1];exact F
 .cases hk:keyB ds s v with
  | false=>rfl
  | true=>
   have F:virB (ds.map strip) s.d.index=!isDk s.d.orig:=h.vir (d:=strip s.d) (ap (f:=strip) (z s o).1);rw[zAM,U,(zCU hk).2,J.n]at F;cases F
theorem zNt (a J O U:al au)(u V X Y o:ab)(wt:ad)(ds:B Dev)(L:B Rec)(E K:B a0)(ct:ad->a0)(b:ad)(w:aq)(hl:Tr w o a u ds)(Z:UOk (ds.map strip) ct b)(hC:CtO w ds ct)(hr:Recs w J V L)
  (A:Env w) (a2:Strs w U Y E) (a3:Strs w O X K) (a4:(K:ab)<=1000000) (a5:∀ x∈K,x.size<=maxLen):
  bc bf 9 #[ba #[ai a ds u],ai J L V,ba #[ai O K X,wt],ai U E Y] w λe w'=>
   (∃ y I M,e=.returned (ai y (M:B Vir).length I)/\Virs w' y I M/\BlkT w' y 52/\(∀ z,y=af z->(w:ab)<=z.block)/\MustOk ds M/\∃ r,EndC ds (λd=>ct d.index) E K (cntL ds L 0 ds) r M)/\Fr No w w':=by
 have F:=Z.len;rw[bd]at F;have v:=Z.known;have a6:=hC.txs λd hd=>(v d hd).1
 have a7:TreeWf ds:=hl.wf;have T:=Z.treeC L;have b2:=zCv ds L ds 0;refine(zH9 a J O U u V X Y o wt ds L (λd=>ct d.index) E K w hl (by omega) hr A a2 a3 a4 a5 a6 (Chain ds (λd=>ct d.index) E K (cntL ds L 0 ds)) (λr S M a8 S' M' G' h hn a9=>h.step hn a9) (λr S M a8 h=>(h.inv T).1.small (λs hs=>?_) (by omega)) .base).mono ?_
 .rw[((h.inv T).1.s.1 s hs).2];have:=zBp a7.ok (by omega:(ds:ab)<=250) s.d.index;omega
 .rintro e w' ⟨⟨y,I,r,S,M,a8,S',M',G',rfl,hV,hF,hI,hN,b0⟩,hf⟩;have hi:=(hI.inv T).1;obtain⟨⟨N,e,_⟩,_⟩:=zBB v hi.s.1 hN;have b1:N=[]:=List.eq_nil_of_length_eq_zero (by rw[e,bu]at b0;omega);rw[b1,List.append_nil]at e;subst e;exact⟨⟨y,I,M',rfl,hV,λz e=>(hF z e).2,λz e=>(hF z e).1,hi.must v hN,r,S,a8,S',G',hI,hN⟩,hf⟩
theorem KA.fr {O:ab}{X:ad}(h:KA w O u L ct X n)(F:Fr S w w')(Y:¬ S O)(U:∀ b cs T,u<=b->w.heap[b]?=af (aw cs T (0,0))->(T=48\/T=78\/T=143)->¬ S b):KA w' O u L ct X n:=by
 obtain⟨a,V,ds,Z,en,ec,v,h2,h3,h4⟩:=h;have A:∀ d∈ds,∀ o,d.aa=af o->¬ S o.block:=λd I o e=>by obtain⟨x,z⟩:=v.te d I o e;exact U _ _ _ ((v.tr.el d I).fresh o e) z (.inr (.inl rfl))
 have J:∀ o,a=af o->¬ S o.block:=λo e=>by obtain⟨x,z⟩:=v.ta o e;exact U _ _ _ (v.tr.fresh o e) z (.inl rfl)
 refine⟨a,V,ds,Z,en,ec,⟨F.heap v.blk Y,v.tr.foot F (λb N=>?_),v.ta.fr F (λo e=>J o e),λd I=>(v.te d I).fr F (λo e=>A d I o e),v.own.elim λxs z=>⟨xs,zG z F (λb N=>?_)⟩,v.nm⟩,h2,AttOf.fr h3 F A,h4⟩
 .rcases N with⟨o,e,rfl⟩|⟨x,z,o,e,rfl⟩
  .exact J o e
  .exact A x z o e
 .have h5:=(zAF z N).1;obtain⟨o,rfl,rfl⟩:=zBc N;obtain⟨y,hy⟩:=zAI z o rfl;exact U _ _ _ h5 hy (.inr (.inr rfl))
theorem KA.low {v:ad}(h:KA w u o L ct v n)(z:u<=o)(A:Fr S w w')(y:∀ b,u<=b->b<(w:ab)->¬ S b):KA w' u o L ct v n:=by
 obtain⟨cs,F⟩:∃ cs,w.heap[u]?=af (aw cs 59):=by
  obtain⟨a,I,ds,N,O,U,J,_⟩:=h;exact⟨_,J.blk⟩
 exact h.fr A (y u (di _) (zC F)) λb cs T V h _=>y b (by omega) (zC h)
theorem KA.row {z I y m:ab}{A:ad}{v:bn}{J:B bn}(h:KA w z o L ct A n)(F:w.ownsRow I T y v m J)(u:T≠59/\T≠48/\T≠78/\T≠143)(N:Fr (λb=>v.ownBlock=af b) w w'):KA w' z o L ct A n:=by
 obtain⟨cs,O⟩:∃ cs,w.heap[z]?=af (aw cs 59):=by
  obtain⟨a,U,ds,X,Y,Z,u,_⟩:=h;exact⟨_,u.blk⟩
 refine h.fr N (zK F O (bq u.1)) λb cs T' hb h V=>zK F h ?_
 rcases V with rfl|rfl|rfl
 .exact bq u.2.1
 .exact bq u.2.2.1
 .exact bq u.2.2.2
theorem KA.no {y:ad}(h:KA w u o L ct y n)(v:u<=o)(z:Fr No w w'):KA w' u o L ct y n:=h.low v z λ_ _ _=>id
theorem KA.blk {v:ad}(h:KA w u o L ct v n):∃ cs,w.heap[u]?=af (aw cs 59):=by
 obtain⟨a,y,ds,A,F,I,z,_⟩:=h;exact⟨_,z.blk⟩
theorem EvF.own {y A:ab}{v:bn}{I:B bn}(N:EvF y u W F)(h:W.ownsRow A T o v n I)(O:W.heap[y]?=af (aw cs 59))(U:T≠59)(V:T≠143):F.ownsRow A T o v n I:=zG h N λb J X=>by
 rcases X with rfl|⟨_,z,Y⟩
 .exact zK h O (bq U) J
 .exact zK h Y (bq V) J
theorem EvF.bt {v:ab}(V:EvF v o W F){a:al au}(I:BlkT W a T)(J:W.heap[v]?=af (aw cs 59))(N:T≠59)(O:T≠143):∀ u,a=af u->¬ (u.block=v\/(o<=u.block/\∃ x,W.heap[u.block]?=af (aw x 143 (0,0)))):=λu e A=>by
 obtain⟨y,h⟩:=I u e;rcases A with A|⟨_,z,U⟩
 .rw[A,J]at h;injection h with h
  injection h with _ h
  exact N h.symm
 .rw[U]at h;injection h with h
  injection h with _ h
  exact O h.symm
theorem EvF.from {v:aq}(y:EvF u o W v)(z:tb<=u)(A:tb<=o):Fr (From tb) W v:=y.mono λb _ h=>by
 unfold From;rcases h with h|⟨h,_⟩<;>omega
theorem EvF.tape {v:aq}(y:EvF u o W v)(z:tb<u)(A:tb<o)(h:Tape W tb tb k):Tape v tb tb k:=h.fr y (λb F h=>by rcases h with h|⟨h,_⟩<;>omega) (λh=>by rcases h with h|⟨h,_⟩<;>omega)
theorem Env.from {o:aq}(h:Env W)(v:8<tb)(u:Fr (From tb) W o):Env o:=h.fr u (λb y h=>by omega)
theorem zEQ (I o n:ab)(L:B Dev)(ct:ad->a0)(U:ad)(w:aq)(X:KA w I o L ct U n)(V:(L:ab)<=1000):
  bc bf 8 #[ce (af ⟨I,0,am⟩)] w λe w'=>(∃ u F h,e=.returned (ba #[ai u (cp h) F])/\Tr w' (w:ab) u F h/\TrT w' u h/\CtO w' h ct/\h.map strip=L)/\Fr No w w':=by
 obtain⟨a,J,ds,Y,Z,ec,v,rfl,h3,h4⟩:=X;rw[bd]at V;apply (zQG I a J ds Y Z ec U w v.blk v.tr.dv V (λd hd=>(v.tr.el d hd).att)).mono;rintro e w' ⟨⟨u,F,h,rfl,hD,hB,hf,y⟩,N⟩;refine⟨⟨u,F,h,rfl,zOY v hD hf y (v.tr.wf.ofStrip y.strip),λb hb=>?_,AttOf.cop h3 y,y.strip⟩,N⟩;rcases hb with⟨O,e,rfl⟩|⟨x,A,O,e,rfl⟩
 .obtain⟨x,A⟩:=hB O e;exact⟨x,_,A,.inl rfl⟩
 .obtain⟨z,_,hz⟩:=y.mem A;obtain⟨x,A⟩:=hz.typ O e;exact⟨x,_,A,.inr rfl⟩
theorem zLU (F u n:ab)(L:B Dev)(ct:ad->a0)(o p:ad)(v nm vl c:a0)(x:Dev)(w:aq)(hK:KA w F u L ct o n)(I:UOk L ct o)(hE:Env w)(h8:8<F)(hn:n<=50000000)(N:0<=o/\o<=900000)(hb:u<=(w:ab))(hA:Atts w x.aa x.ac (cAtt c))(O:x.an=(cAtt c).length)
  (J:x.kind=2/\x.sub=zX/\x.ali=()/\1<=x.num/\x.num<=2000000) (hp:ParIs L v p) (z:PlcOk L (addD x o p)) (hc:InU c) (U:p≠0->NoTab c) (y:∀ e∈L,e.orig≠x.orig/\e.num≠x.num):
  bc bf 20 #[ce (af ⟨F,0,am⟩),ba (ocs 1 v x nm vl)] w λe w'=>e=.returned (.tuple #[aj ak (o+1),aj ak 0])/\KA w' F u (insAt L (insK L (addD x o p)) (strip (addD x o p))) (updC ct (o+1) c) (o+1) (n+1)/\UOk (insAt L (insK L (addD x o p)) (strip (addD x o p))) (updC ct (o+1) c) (o+1)/\EvF F u w w'/\EvG F w w':=by
 have V:DOk (addD x o p):=⟨J.1,rfl,J.2.1,rfl,J.2.2.1,J.2.2.2⟩
 have A:look L (addD x o p).index=none:=zv.2 λd hd=>by have:=(I.dv d hd).2;show d.index≠o+1;omega
 have X:1<=(addD x o p).index/\(addD x o p).index<=o+1:=by show 1<=o+1/\o+1<=o+1;omega
 have hf:=I.free V z (λe Y=>(y e Y).1) (λe Y=>(y e Y).2);obtain⟨a1,a2⟩:=I.pre (by omega) V z ⟨X.1,by have:=X.2;omega⟩ A hc;obtain⟨b1,_⟩:=I.ins (b':=o+1) (by omega) V z X A hc U hf;have Z:=z.par I (by omega);exact(zN7 F u n L ct o p v nm vl c x w hK hE h8 hn ⟨N.1,by omega⟩ hb hA O J.1 hp (WalkArith.wf_i64 (by have h1:0<=p/\p<=1000000:=Z;omega)) a2 a1 hf b1.wf).mono λe w' h=>⟨h.1,h.2.1,b1,h.2.2⟩
theorem zLT (nm c:a0)(h:ad)(w:aq)(I:InU c):
  bc bf 21 #[nm,h,c] w λe w'=>(∃ o F,e=.returned (ba (ocs 1 () ⟨0,0,(),nm,zX,(),(),2,h,o,(cAtt c).length,F⟩ () ()))/\Atts w' o F (cAtt c)/\BlkT w' o 78/\∀ v,o=af v->(w:ab)<=v.block)/\Fr No w w':=by
 have X:=zDm I;by_cases u:c.toList.isEmpty=ae
 .have y:c=():=by
   rw[ByteArray.toList_eq]at u;have z:c.data.toList=[]:=(by simpa using u);exact db (Array.toList_inj.1 z)
  subst y;have J:cAtt ()=[]:=by kernel_rfl
  rw[J];apply (zPA nm h w).mono;rintro e w' ⟨rfl,A⟩;exact⟨⟨am,0,rfl,Atts.nil w',BlkT.none _ _,λ_ e=>by cases e⟩,A⟩
 .have z:c.toList.isEmpty=false:=by simpa using u
  have N:cAtt c=[(zM,c)]:=by unfold cAtt;rw[bg u]
  rw[N];refine(zQB nm c h w z (by unfold maxLen;omega)).mono ?_;rintro e w' ⟨⟨b,rfl,O,U,V⟩,A⟩;exact⟨⟨some ⟨b,0,none⟩,1,rfl,O,U,λv e=>by cases e;exact V⟩,A⟩
def CntOk (ds:B Dev)(R:B Rec)(ig:a0->ax):Prop:=∀ d∈ds,cntB ds R d.index=!ig d.orig
def Live (D:B (a0×ad×a0))(ig:a0->ax)(o c:a0):Prop:=∃ n,(o,n,c)∈D/\ig o=ah
theorem zJF (ds:B Dev)(L:B Rec):∀ (l:B Dev) (i:ab),∀ s∈cntL ds L i l,cntB ds L s.d.index=ae
 | [],i,s,h=>by simp[cntL]at h
 | d::t,i,s,h=>by
  unfold cntL at h;rcases List.mem_append.1 h with h|h
  .split at h
   .obtain rfl:=List.mem_singleton.1 h;assumption
   .cases h
  .exact zJF ds L t (i+1) s h
theorem zGF (ds:B Dev)(L:B Rec):∀ (l:B Dev) (i:ab) (d:Dev),d∈l->cntB ds L d.index=ae->∃ s∈cntL ds L i l,s.d=d
 | x::t,i,d,h,o=>by
  unfold cntL;rcases List.mem_cons.1 h with rfl|h
  .rw[az o];exact⟨_,List.mem_append.2 (.inl (List.mem_singleton.2 rfl)),rfl⟩
  .obtain⟨s,u,v⟩:=zGF ds L t (i+1) d h o;exact⟨s,List.mem_append.2 (.inr u),v⟩
theorem UOk.key {b:ad}(h:UOk L ct b)(N:d∈L)(O:VOk v)(z:d.orig=v.o):plc L d.parent=v.q:=by
 rcases h.pl d N with⟨A,u⟩|⟨p,U,A,u,F,y⟩<;>rcases O.p with⟨V,X⟩|⟨n,I,Y,J,_⟩
 .rw[A,zDg h.wf.ok,V]
 .rw[z]at u;have:=zBA u;rw[zAZ I J]at this;cases this
 .rw[z]at y;have:=zBA X;rw[zAZ F y]at this;cases this
 .rw[z]at y;have:=zAZ F y;rw[zAZ I J]at this;rw[Y,Option.some.inj this,<-A];exact zB2 h U u
section
variable {ds ds':B Dev}{ct ct':ad->a0}{b b':ad}{R R':B Rec}{ig ig':a0->ax}{D D':B (a0×ad×a0)}{M:B Vir}{E:B a0}
theorem DoneP.fixed (h:DoneP M (ds.map strip) ct b)(Y:∀ v∈M,VOk v)(Z:DistP M)(hR:CntOk ds R ig)(hi:∀ o,isDk o=ah->ig o=ah):Fixed ds (λd=>ct d.index) (cntL ds R 0 ds) M:=
 ⟨h.u.treeC R,λv F=>by
  have z:=Y v F;obtain⟨e,I,A⟩:=(zAu h.u z).1 (h.t v F);obtain⟨y,O,rfl⟩:=List.mem_map.1 I;have A:y.orig=v.o:=A;obtain⟨s,U,rfl⟩:=zGF ds R ds 0 y O (by rw[hR y O,hi _ (by rw[A];exact z.n)];rfl);have J:virB (ds.map strip) s.d.index=!isDk s.d.orig:=h.u.vir (d:=strip s.d) I;have N:plc (ds.map strip) s.d.parent=v.q:=h.u.key (d:=strip s.d) I z A;have V:=(h.w (strip s.d) I (by show virB (ds.map strip) s.d.index=ae;rw[J,A,z.n];rfl)).2;have X:plc (ds.map strip) s.d.index=pathOf (orgOf s.d.orig):=h.u.pth (d:=strip s.d) I;have e3:(plc (ds.map strip) (strip s.d).parent,(strip s.d).orig)=(v.q,v.o):=by
   show (plc (ds.map strip) s.d.parent,s.d.orig)=_
   rw[N,A]
  rw[e3,zIF Z F]at V;rw[zAM]at J;rw[zAH]at N X;refine⟨s,U,by rw[J,A,z.n];rfl,?_,V,(h.u.dv _ I).1.kind,?_⟩
  .unfold keyB;rw[N,A];exact bm rfl
  .rw[(zAm ds R ds 0 s U).2.1,X,A];exact z.path.symm⟩
def kd (o c:a0):Kx:=⟨pathOf [o],(),o,ah,c,2⟩
theorem zQC (h:UOk (ds.map strip) ct b)(F:s∈cntL ds R 0 ds)(u:isDk s.d.orig=ae):kx ds (λd=>ct d.index) s=kd s.d.orig (ct s.d.index):=by
 obtain⟨I,J,_⟩:=zAm ds R ds 0 s F;have o:=ap (f:=strip) I;have v:s.d.parent=0:=h.rootD (d:=strip s.d) o u;have y:virB (ds.map strip) s.d.index=!isDk s.d.orig:=h.vir (d:=strip s.d) o;have z:plc (ds.map strip) s.d.index=pathOf [s.d.orig]:=zB2 (d:=strip s.d) h o v;have A:plc (ds.map strip) 0=():=zDg h.wf.ok;have N:s.d.kind=2:=(h.dv _ o).1.kind;rw[zAM,u]at y;rw[zAH]at z A;unfold kx kd;rw[J,z,v,A,y,N];rfl
theorem zN6 (h:UOk (ds.map strip) ct b)(O:DskP D (ds.map strip) ct)(hR:CntOk ds R ig)(k:Kx)(X:k.v=ah):(∃ s∈cntL ds R 0 ds,kx ds (λd=>ct d.index) s=k)↔∃ o c,Live D ig o c/\kd o c=k:=by
 constructor
 .rintro ⟨s,u,rfl⟩;have U:=(zAm ds R ds 0 s u).1;have A:=ap (f:=strip) U;have F:virB (ds.map strip) s.d.index=!isDk s.d.orig:=h.vir (d:=strip s.d) A;rw[zAM]at F;have J:isDk s.d.orig=true:=by
   have z:virB ds s.d.index=false:=X;rw[z]at F
   simpa using F.symm
  have z:=zJF ds R ds 0 s u;rw[hR _ U]at z;exact⟨_,_,⟨_,O.a _ A J,(by simpa using z:ig s.d.orig=ah)⟩,(zQC h u J).symm⟩
 .rintro ⟨o,c,⟨n,F,J⟩,rfl⟩;obtain⟨z,e,Y,I,_,N⟩:=O.b _ F;obtain⟨y,V,rfl⟩:=List.mem_map.1 Y;have I:y.orig=o:=I;have N:ct y.index=c:=N;obtain⟨s,u,rfl⟩:=zGF ds R ds 0 y V (by rw[hR y V,I,J];rfl);exact⟨s,u,by rw[zQC h u (by rw[I];exact z),I,N]⟩
theorem sameD (h:UOk (ds.map strip) ct b)(z:UOk (ds'.map strip) ct' b')(A:DskP D (ds.map strip) ct)(u:DskP D' (ds'.map strip) ct')(hR:CntOk ds R ig)(v:CntOk ds' R' ig')(F:∀ o c,Live D ig o c↔Live D' ig' o c):
  SameD ds (λd=>ct d.index) (cntL ds R 0 ds) ds' (λd=>ct' d.index) (cntL ds' R' 0 ds'):=λk y=>by
 rw[zN6 h A hR k y,zN6 z u v k y];exact exists_congr λo=>exists_congr λc=>by rw[F]
end
structure SetE (E K:B a0)(ig:a0->ax)(D:B (a0×ad×a0))(L:B Dev)(ct:ad->a0)(ix:ad):Prop where
 u:UOk L ct ix
 d:DskP D L ct
 e:∃ ds R r M,ds.map strip=L/\CntOk ds R ig/\EndC ds (λd=>ct d.index) E K (cntL ds R 0 ds) r M/\MustOk ds M/\DoneP M L ct ix
section
variable {E K:B a0}{ig ig':a0->ax}{D D':B (a0×ad×a0)}{t:ad}{L L':B Dev}{ct ct':ad->a0}{ix ix' r:ad}{M:B Vir}
theorem DskP.nil (ct:ad->a0):DskP [] [] ct:=⟨by simp,by simp,by simp⟩
theorem DskP.put (h:DskP D L ct)(N:UOk L ct ix){x:Dev}{c:a0}{p:ad}(I:isDk x.orig=ae):DskP ((x.orig,x.num,c)::D) (insAt L k (strip (addD x ix p))) (updC ct (ix+1) c):=by
 have u:∀ d∈L,updC ct (ix+1) c d.index=ct d.index:=λd o=>by
  unfold updC;rw[bg (by have:=(N.dv d o).2;omega)]
 have v:updC ct (ix+1) c (strip (addD x ix p)).index=c:=by
  show updC ct (ix+1) c (ix+1)=c
  unfold updC;rw[az rfl]
 refine⟨λd o z=>?_,λy F=>?_,λd o z=>?_⟩
 .rcases zV.1 o with rfl|o
  .rw[v];exact List.mem_cons_self
  .rw[u d o];exact List.mem_cons_of_mem _ (h.a d o z)
 .rcases List.mem_cons.1 F with rfl|F
  .exact⟨I,_,zV.2 (.inl rfl),rfl,rfl,v⟩
  .obtain⟨A,d,J,O,U,V⟩:=h.b y F;exact⟨A,d,zV.2 (.inr J),O,U,(u d J).trans V⟩
 .rcases zV.1 o with rfl|o
  .have A:isDk x.orig=false:=z;rw[I]at A;cases A
  .exact h.n d o z
theorem DskP.free (h:DskP D L ct){o:a0}{n:ad}(y:isDk o=ae)(z:n<1048576)(u:∀ x∈D,x.1≠o/\x.2.1≠n):∀ e∈L,e.orig≠o/\e.num≠n:=λe v=>by
 cases hx:isDk e.orig with
 | true=>exact u _ (h.a e v hx)
 | false=>
  have A:=h.n e v hx;exact⟨(λh=>by rw[h,y]at hx;cases hx),by omega⟩
end
end Go.Proofs.YtjohgekljmhheaaGreatDoor
