import Derived.Test.YtifphhgcelkflaaGreatDoorQ8
import Derived.Deep.Slices
import Derived.SliceStrings
import Derived.ChangeArms
import Derived.SizedLaws
namespace Go.Proofs.YtifphhgcelkflaaGreatDoor
open Go.RowKit Go.Maps Go.Sort Go.Shelf Go.ChangeShapes
set_option linter.unusedVariables false
set_option maxRecDepth 100000
set_option maxHeartbeats 16000000
open ArrM renaming toArr->bq
open Fr renaming refl->ae,of_grown->be,of_grown_none->bf,setCell->br,of_grown_some->c8
open Go renaming World->aj,maxLen->al,Addr->ao,Calls->ap,Value->ba,TypeId->bn,info_parts->bo,wpList_make_full->bp,bodyPost_ret->bz,results->c7,wpList_append_own->cg,wpList_append_own_at->cw
open Go.Instr renaming lookup->ci
open Go.Lib renaming itoa->bh
open Go.Proofs renaming intOf->ak
open Go.Proofs.Tryz renaming prog->am,underlying306->bd,underlying30->bj,underlying313->bm,results218->bv,underlying282->cd,func13->cm,func211->co,ntmps13->cp,underlying22->cq
open Go.RowKit renaming Hid->a0
open Go.Value renaming slice->az,string->bw,agg->ce
open Go.World renaming ownsRow_nil->cf,grownBy_alloc->cr
open IntKind renaming i64->C
open Mem renaming k->au,vals->bu
open Obj renaming cells->P
open OnlyN renaming mk->ay
open Value renaming int->Q,string->R,slice->ac,agg->ah
open Vir renaming vals->bx
open _root_ renaming Nat->E,Int->M,ByteArray->aa,List->af,Option->an,congrArg->bb,decide_eq_false_iff_not->ct,decide_eq_true_eq->cu
open _root_.Bool renaming false->ag,true->ai,and_eq_true->bg,beq_comm->ch
open _root_.ByteArray renaming empty->aq
open _root_.List renaming take_add_one->ar,mem_of_getElem?->aw,take_length->ax,map_append->bc,length_append->bi,getElem?_map->bs,length_map->bt,length->c9,mem_map_of_mem->ca,map_cons->cj,map_nil->ck,mem_of_mem_take->cl
open _root_.Nat renaming le_refl->cb
open _root_.Option renaming none->G,some->B,getD_some->cc
variable{m:Mem}{l o u:af aa}{s:aa}{k:M}{S:af Src}{L:af Mem}{O:af ArrM}{j:E}{c:Ct}{y:aa->M->Ct->Mem}{tx:Dev->aa}{h:Mem->Bool}
theorem zIm (F:E)(I:Mem->Bool)(eg:∀ args w,(callFunc F args).run am w=.ok (.enter F args) w)
  (k7:∀ (p i:aa) (r s t e:M) (a:an ao) (l:af aa) (c:E) (w:aj),ap am F #[ah #[.string p,.string i,.int C r,.int C s,.int C t,.int C e,.slice a l.length c]] w λen w'=>en=.returned (.bool (I ⟨p,i,r,s,t,e,a,l,c⟩))/\Fr No w w') (A3:∀ m,I m=ai->soundB m=ai)
  (a:an ao) (t0:E) (L:af Mem) (m0:M) (w:aj) (hl:Mems w a t0 L) (hb:MemSmall2 L) (A4:w.cell? ⟨3,0,G⟩=B (.int C m0)) (U3:3<(w:E)):
  ap am 210 #[.slice a L.length t0,.func (.func F) #[] #[]] w λe w'=>ArrRes w (zl I L) e w'/\Fr No w w':=by
 obtain⟨i0,L8,L9,M0,M1⟩:=bo infoAr;have U4:=hb.len;have M2:=@run_makeMap am;have hx:Fr No w (w.alloc (.map #[] 0)):=(ae _ _).alloc _;have M4:=PMap.made w;have e3:(w:E)<(w.alloc (.map #[] 0)).heap.size:=by simp
 have k8:∀ W:aj,Fr (From (w:E)) w W->Mems W a t0 L:=λW hf=>hl.keep hf (λb hb h=>by omega)
 have k9:=zh k8;have Hb:=zh hb;clear k8 hb hl;go_enter Tryz.func210,Tryz.ntmps210;go_wp2_with fail;generalize w.alloc (.map #[] 0)=W0 at *;go_loopw [23] (λi wr=>∃ k:E,k<=L.length/\i=.int C (k:M)/\PMap wr (w:E) (mapP (zl I (L.take k))) k/\Fr (From (w:E)) w wr/\(w:E)<(wr:E)) (λi _=>L.length-(ak i).toNat);case atStart=>exact⟨0,by omega,rfl,by exact M4,hx.mono zn,e3⟩
 case round=>
  obtain⟨k,hk,rfl,hI,e4,A5⟩:=hrel;by_cases i9:k<L.length
  .have A6:(k:M)<L.length:=by omega
   obtain⟨b,M5,m,rfl,t7,l0,d3,U5⟩:=(k9 _ e4).elem i9;have b2:=aw t7;have l1:a0 (L.take (k+1)=L.take k++[m]):=(by unfold a0;rw[ar,t7];rfl);have A7:=Hb.p m b2;have l2:m.i.size<=maxLen:=(by have:=Hb.i m b2;unfold al;omega);have l3:=Hb.s m b2;have p2:wr.cell? ⟨3,0,G⟩=B (.int C m0):=e4.cell A4 (by show ¬ From (w:E) 3;omega);obtain⟨mp,mi,mr,ms,mt,me,ma,ml,mc⟩:=m;obtain⟨c0,c1,c2,c3,c4,c5,c6⟩:=d3;simp only at c0 c1 c2 c3 c4 c5 c6 A7 l2 l3;clear t7 l0 b2 M2;have l4:Fr No wr ((wr.alloc (P #[.string mp,.string mi,.int C mr,.int C ms,.int C mt,.int C me,.slice ma ml.length mc] 278)).alloc (P #[.string mi,.int C ms] 308)):=((ae _ _).alloc _).alloc _;have j1:=hI.fr l4 id;clear hI;rcases hg:zl I (L.take k) (mi,ms)with _|o
   .have hv:(mapP (zl I (L.take k)) (mi,ms)).getD zBw=ah #[.string (),.string (),.int C 0,.int C 0,.int C 0,.int C 0,.slice G 0 0]:=(by unfold mapP;rw[hg];rfl);have l5:(mapP (zl I (L.take k)) (mi,ms)).isSome=false:=(by unfold mapP;rw[hg];rfl);have Hg:a0 (∀ o,zl I (L.take k) (mi,ms)=B o->ahead ⟨mp,mi,mr,ms,mt,me,ma,ml,mc⟩ o=ai):=λo ho=>by rw[hg]at ho;cases ho
    clear hg;go_upto_region 7 with(at_lookup;refine zEq rfl _ _ 306 278 zBw (zH0 _) rfl bd (w:E) _ k mi ms l2 l3 rfl j1 rfl (ah #[.string (),.string (),.int C 0,.int C 0,.int C 0,.int C 0,.slice G 0 0]) hv ag l5 ?_)
    have d7:Fr No wr (((wr.alloc (P #[.string mp,.string mi,.int C mr,.int C ms,.int C mt,.int C me,.slice ma ml.length mc] 278)).alloc (P #[.string mi,.int C ms] 308)).alloc (P #[.string (),.string (),.int C 0,.int C 0,.int C 0,.int C 0,.slice G 0 0] 278)):=l4.alloc _;have qm:=zCz wr (P #[.string mp,.string mi,.int C mr,.int C ms,.int C mt,.int C me,.slice ma ml.length mc] 278) (P #[.string mi,.int C ms] 308) (P #[.string (),.string (),.int C 0,.int C 0,.int C 0,.int C 0,.slice G 0 0] 278);have qp:=zCy wr (P #[.string mp,.string mi,.int C mr,.int C ms,.int C mt,.int C me,.slice ma ml.length mc] 278) (P #[.string mi,.int C ms] 308) (P #[.string (),.string (),.int C 0,.int C 0,.int C 0,.int C 0,.slice G 0 0] 278);have qo:=zCx wr (P #[.string mp,.string mi,.int C mr,.int C ms,.int C mt,.int C me,.slice ma ml.length mc] 278) (P #[.string mi,.int C ms] 308) (P #[.string (),.string (),.int C 0,.int C 0,.int C 0,.int C 0,.slice G 0 0] 278);have d8:=j1.fr ((ae No _).alloc (P #[.string (),.string (),.int C 0,.int C 0,.int C 0,.int C 0,.slice G 0 0] 278)) id;clear j1 hv l5 c0 c1 c2 c3 c4 c5 c6 l4;generalize ((wr.alloc (P #[.string mp,.string mi,.int C mr,.int C ms,.int C mt,.int C me,.slice ma ml.length mc] 278)).alloc (P #[.string mi,.int C ms] 308)).alloc (P #[.string (),.string (),.int C 0,.int C 0,.int C 0,.int C 0,.slice G 0 0] 278)=W2 at *;obtain⟨y0,y1,y2,y3,y4,y5,y6⟩:=cl7 qm;have d9:=d7.cell p2 id;have g6:=zh (e4.step d7 zn);have p3:=d7.size;clear d7 e4 p2;obtain⟨gd,g7⟩:∃ gd,gd=I ⟨mp,mi,mr,ms,mt,me,ma,ml,mc⟩:=⟨_,rfl⟩
    have l6:a0 (I ⟨mp,mi,mr,ms,mt,me,ma,ml,mc⟩=gd):=g7.symm;have b3:=k7 mp mi mr ms mt me ma ml mc W2;rw[<-g7]at b3;clear g7;rcases gd with _|_
    .go_wp2_with
      (go_at_fn F
       apply b3.mono;rintro en w3 ⟨rfl,V⟩;have g8:=V.heap qm id;have d4:=V.heap qp id;have j2:=V.heap qo id;have d5:=d8.fr V id;have l7:=V.cell d9 id;have d6:=zh (g6.step V zn);have g9:=V.size;clear y0 y1 y2 y3 y4 y5 y6 V qm qp qo d9 d8 b3)
     have e0:PMap w3 (w:E) (mapP (zl I (L.take (k+1)))) k:=(by rw[l1,zAa,zEb l6];exact d5);have H:=zg2 e0 d6;clear e0 d5;go_roundw;case rel=>exact⟨k+1,by omega,by go_num,H.1.mono (by omega),H.2,by omega⟩
     case measure=>simp[ak];omega
    .go_wp2_with (first
      | (go_at_fn F
         apply b3.mono;rintro en w3 ⟨rfl,V⟩;have g8:=V.heap qm id;have d4:=V.heap qp id;have j2:=V.heap qo id;have d5:=d8.fr V id;have l7:=V.cell d9 id;have d6:=zh (g6.step V zn);have g9:=V.size;clear y0 y1 y2 y3 y4 y5 y6 V qm qp qo d9 d8 b3;obtain⟨y0,y1,y2,y3,y4,y5,y6⟩:=cl7 g8;have z0:w3.cell? ⟨(wr:E)+1,0,G⟩=B (.string mi):=zB d4 0;have z1:w3.cell? ⟨(wr:E)+1,1,G⟩=B (.int C ms):=zB d4 1)
      | (at_mapUpdate;refine zDl rfl _ _ _ 306 278 rfl bd (w:E) _ k (by unfold al;omega) mi ms l2 l3 (ah #[.string mp,.string mi,.int C mr,.int C ms,.int C mt,.int C me,.slice ma ml.length mc]) rfl d5 rfl rfl ?_;intro w6 l8 h0))
     have l9:PMap w6 (w:E) (mapP (zl I (L.take (k+1)))) (k+1):=(by rw[l1,zAa,zCS l6 Hg,<-zIb];exact l8);have H:=zg3 l9 (d6.step h0 (λb hb e=>by omega)) h0.size;clear l8 l9 h0;go_roundw;case rel=>exact⟨k+1,by omega,by go_num,H.1,H.2.1,by have:=H.2.2;omega⟩
     case measure=>simp[ak];omega
   .obtain⟨op,oi,or,os,ot,oe,oa,ol,oc⟩:=o;have hv:(mapP (zl I (L.take k)) (mi,ms)).getD zBw=ah #[.string op,.string oi,.int C or,.int C os,.int C ot,.int C oe,.slice oa ol.length oc]:=(by unfold mapP;rw[hg];rfl);have l5:(mapP (zl I (L.take k)) (mi,ms)).isSome=true:=(by unfold mapP;rw[hg];rfl);have A8:=Hb.p _ (cl (zAi _ _ _ hg).1);simp only at A8;have Hg:=zh hg;clear hg;go_upto_region 7 with(at_lookup;refine zEq rfl _ _ 306 278 zBw (zH0 _) rfl bd (w:E) _ k mi ms l2 l3 rfl j1 rfl (ah #[.string op,.string oi,.int C or,.int C os,.int C ot,.int C oe,.slice oa ol.length oc]) hv ai l5 ?_)
    have d7:Fr No wr (((wr.alloc (P #[.string mp,.string mi,.int C mr,.int C ms,.int C mt,.int C me,.slice ma ml.length mc] 278)).alloc (P #[.string mi,.int C ms] 308)).alloc (P #[.string op,.string oi,.int C or,.int C os,.int C ot,.int C oe,.slice oa ol.length oc] 278)):=l4.alloc _;have qm:=zCz wr (P #[.string mp,.string mi,.int C mr,.int C ms,.int C mt,.int C me,.slice ma ml.length mc] 278) (P #[.string mi,.int C ms] 308) (P #[.string op,.string oi,.int C or,.int C os,.int C ot,.int C oe,.slice oa ol.length oc] 278);have qp:=zCy wr (P #[.string mp,.string mi,.int C mr,.int C ms,.int C mt,.int C me,.slice ma ml.length mc] 278) (P #[.string mi,.int C ms] 308) (P #[.string op,.string oi,.int C or,.int C os,.int C ot,.int C oe,.slice oa ol.length oc] 278);have qo:=zCx wr (P #[.string mp,.string mi,.int C mr,.int C ms,.int C mt,.int C me,.slice ma ml.length mc] 278) (P #[.string mi,.int C ms] 308) (P #[.string op,.string oi,.int C or,.int C os,.int C ot,.int C oe,.slice oa ol.length oc] 278);have d8:=j1.fr ((ae No _).alloc (P #[.string op,.string oi,.int C or,.int C os,.int C ot,.int C oe,.slice oa ol.length oc] 278)) id;clear j1 hv l5 c0 c1 c2 c3 c4 c5 c6 l4;generalize ((wr.alloc (P #[.string mp,.string mi,.int C mr,.int C ms,.int C mt,.int C me,.slice ma ml.length mc] 278)).alloc (P #[.string mi,.int C ms] 308)).alloc (P #[.string op,.string oi,.int C or,.int C os,.int C ot,.int C oe,.slice oa ol.length oc] 278)=W2 at *;obtain⟨y0,y1,y2,y3,y4,y5,y6⟩:=cl7 qm;have d9:=d7.cell p2 id;have g6:=zh (e4.step d7 zn);have p3:=d7.size;clear d7 e4 p2;obtain⟨gd,g7⟩:∃ gd,gd=I ⟨mp,mi,mr,ms,mt,me,ma,ml,mc⟩:=⟨_,rfl⟩
    have l6:a0 (I ⟨mp,mi,mr,ms,mt,me,ma,ml,mc⟩=gd):=g7.symm;have b3:=k7 mp mi mr ms mt me ma ml mc W2;rw[<-g7]at b3;clear g7;rcases gd with _|_
    .go_wp2_with
      (go_at_fn F
       apply b3.mono;rintro en w3 ⟨rfl,V⟩;have g8:=V.heap qm id;have d4:=V.heap qp id;have j2:=V.heap qo id;have d5:=d8.fr V id;have l7:=V.cell d9 id;have d6:=zh (g6.step V zn);have g9:=V.size;clear y0 y1 y2 y3 y4 y5 y6 V qm qp qo d9 d8 b3)
     have e0:PMap w3 (w:E) (mapP (zl I (L.take (k+1)))) k:=(by rw[l1,zAa,zEb l6];exact d5);have H:=zg2 e0 d6;clear e0 d5;go_roundw;case rel=>exact⟨k+1,by omega,by go_num,H.1.mono (by omega),H.2,by omega⟩
     case measure=>simp[ak];omega
    .go_wp2_with
      (go_at_fn F
       apply b3.mono;rintro en w3 ⟨rfl,V⟩;have g8:=V.heap qm id;have d4:=V.heap qp id;have j2:=V.heap qo id;have d5:=d8.fr V id;have l7:=V.cell d9 id;have d6:=zh (g6.step V zn);have g9:=V.size;clear y0 y1 y2 y3 y4 y5 y6 V qm qp qo d9 d8 b3;obtain⟨y0,y1,y2,y3,y4,y5,y6⟩:=cl7 g8;obtain⟨z0,z1,z2,z3,z4,z5⟩:=cl6 j2;have z6:w3.cell? ⟨(wr:E)+1+1,6,G⟩=B (.slice oa ol.length oc):=zB j2 6)
     apply (zId mp mi op oi mr ms mt me or os ot oe _ _ m0 _ A7 A8 l7).mono;rintro en w5 ⟨rfl,j3⟩;have A9:=j3.heap g8 id;have D2:=j3.heap d4 id;have e0:=d5.fr j3 id;have D3:=zh (d6.step j3 zn);have U6:=j3.size;clear y0 y1 y2 y3 y4 y5 y6 z0 z1 z2 z3 z4 z5 z6 j3 g8 d4 j2 l7 d5;rcases ha:aheadB mp mr op or with _|_
     .clear A9 D2;have D4:PMap w5 (w:E) (mapP (zl I (L.take (k+1)))) k:=(by rw[l1,zAa,zHs (m:=⟨mp,mi,mr,ms,mt,me,ma,ml,mc⟩) (o:=⟨op,oi,or,os,ot,oe,oa,ol,oc⟩) Hg ha];exact e0);have H:=zg2 D4 D3;clear D4 e0;go_wp2;go_roundw;case rel=>exact⟨k+1,by omega,by go_num,H.1.mono (by omega),H.2,by omega⟩
      case measure=>simp[ak];omega
     .have M6:a0 (∀ o,zl I (L.take k) (mi,ms)=B o->ahead ⟨mp,mi,mr,ms,mt,me,ma,ml,mc⟩ o=ai):=λo ho=>by rw[Hg.out]at ho;cases ho;exact ha
      clear ha;obtain⟨y0,y1,y2,y3,y4,y5,y6⟩:=cl7 A9;obtain⟨z0,z1⟩:=cl2 D2;go_wp2_with (at_mapUpdate;refine zDl rfl _ _ _ 306 278 rfl bd (w:E) _ k (by unfold al;omega) mi ms l2 l3 (ah #[.string mp,.string mi,.int C mr,.int C ms,.int C mt,.int C me,.slice ma ml.length mc]) rfl e0 rfl rfl ?_;intro w6 l8 h0)
      have l9:PMap w6 (w:E) (mapP (zl I (L.take (k+1)))) (k+1):=(by rw[l1,zAa,zCS l6 M6,<-zIb];exact l8);have H:=zg3 l9 (D3.step h0 (λb hb e=>by omega)) h0.size;clear l8 l9 h0;go_roundw;case rel=>exact⟨k+1,by omega,by go_num,H.1,H.2.1,by have:=H.2.2;omega⟩
      case measure=>simp[ak];omega
  .obtain rfl:k=L.length:=by omega
   rw[ax]at hI;obtain⟨D,n,hn,ho,hh⟩:=hI;have Hh:=zh hh;have p4:=ho.size_le;have m4:a0 (∀ x s m,zl I L (x,s)=B m->(m∈L/\I m=ai/\m.i=x/\m.s=s)/\x.size<=al/\(Lit.int C s).wf=ai):=λx s m hm=>by
    obtain⟨h1,h2,h3⟩:=zAi L (x,s) m hm;simp only[Prod.mk.injEq]at h3;obtain⟨rfl,rfl⟩:=h3;exact⟨⟨h1,h2,rfl,rfl⟩,by have:=Hb.i m h1;unfold al;omega,Hb.s m h1⟩
   obtain⟨j0,D5,D6,D7,D8⟩:=bo zP5;have qg:=zF wr (.map #[] 0);have t8:Fr No wr (wr.alloc (.map #[] 0)):=(ae _ _).alloc _;have D9:=t8.ownsMap ho id;have F0:(wr.alloc (.map #[] 0)).heap.size=(wr:E)+1:=(by simp);have r6:=e4.step t8 zn;clear hh ho e4 A4;go_upto_region 11 with(fail)
   generalize wr.alloc (.map #[] 0)=W1 at *;generalize (wr:E)=gm at *;have F1:GMap W1 ((W1:E)+1) gm (λ_=>[]) 0:=GMap.made qg (by omega);have t9:a0 ((w:E)<gm):=A5;have j4:=zh F0;clear t8 F0 qg A5;go_wp2_with (at_range;refine wpList_range_own _ rfl _ 306 rfl 308 278 lawP bd heldV (w:E) n D rfl D9 ?_;intro w2 r7 v0 p3)
   have F2:=F1.grown v0 (by simp) (λj e=>by cases e);have F3:=r6.step (bf v0) zn;clear r6 F1 v0 D9
   go_frame
   go_loopw [57] (λv j5=>∃ (e5:Lit->Bool) (v1 N:E) (f:af UInt8->af M),j5.ranges am 308 heldV (w:E) (W1:E) n D e5 v1/\N+v1<=Maps.size D/\GMap j5 ((W1:E)+1) gm f N/\a0 (Grp D e5 f)/\a0 (Fr (From (w:E)) w j5)/\(W1:E)+1<=(j5:E))
    (λ_ j5=>j5.rangeLeft (w:E) (W1:E))
   case atStart=>exact⟨_,_,0,_,r7,by omega,F2,Grp.start D,F3,by omega⟩
   case round=>
    obtain⟨e5,v1,N,f,m5,U7,hG,HG,Hf,g9⟩:=hrel;clear F2 r7 F3 p3;go_wp2_with (at_next;refine wpList_next_ranges _ rfl _ rfl 308 lawP heldV (λx:aa×M=>ah #[.string x.1,.int C x.2]) (λv:ba=>v) (λU8 kl h=>by obtain⟨s,n,rfl,_⟩:=zIf h;exact⟨(s,n),rfl⟩) (λv y h=>⟨v,rfl⟩) (w:E) (W1:E) n D _ _ rfl m5 ?_ ?_)
    .intro M7 F4;have F5:PMap wr (w:E) (mapP (zl I L)) n:=⟨D,n,cb _,m5.owns,Hh⟩
     have F6:a0 (∀ x,IsSlots (zl I L) x (f (kb x))):=HG.slots F4 (λx h1 h2=>(Hh x h1 h2).1) (λx s m h=>(m4 x s m h).2);have hN:N<=1000:=(by omega);clear m5 HG F4 M7 Hh;go_wp2_with fail;apply (zJM gm _ f N _ hG (by omega)).mono;rintro en w4 ⟨⟨ia,ic,a9,rfl,F7,r8,b2,r9,M8⟩,m6⟩;have s1:a0 (IsIds2 (zl I L) a9):=IsIds2.of_slots r8 b2 F6;have F8:=zh b2;have m7:=hG.grown (m6.grown (row:=G) (λ_ h=>h.elim)) (by simp) (λj e=>by cases e);have v2:=F5.fr m6 id;have p5:a0 (Fr (From (w:E)) w w4):=Hf.step m6 zn;have M9:=m6.size;have m8:a0 (a9.length<=N):=r9;have j6:a0 ((w:E)<=(w4:E)):=(by have:=t9.out;have:=j4.out;unfold a0;omega);clear r8 b2 hG F5 m6 Hf r9 M8 g9;obtain⟨s0,e3,e6,e7,e8⟩:=bo infoS;go_wp2_with fail;go_loopw [13,75] (λu i v3=>∃ (j:E) (O:af ArrM) (av:an ao) (cv:E),j<=a9.length/\O.length=j/\u=.slice av O.length cv/\i=.int C (j:M)/\v3.ownsRow (w4:E) 229 6 (.slice av O.length cv) O.length (arflat O)/\AFresh v3 (w4:E) O/\a0 (O.map bq=(a9.take j).map (buildA (zl I L)))/\Fr (From (w4:E)) w4 v3) (λ_ i _=>a9.length-(ak i).toNat);case atStart=>exact⟨0,[],G,0,by omega,rfl,rfl,rfl,cf _ _ _ _,λ_ h=>by simp at h,by unfold a0;simp,ae _ _⟩
     case round=>
      obtain⟨j,O,av,cv,hj,F9,rfl,rfl,a5,b4,HO,hf⟩:=hrel;have R5:a9.length<=1000:=(by have:=m8.out;omega);have R6:O.length<=1000:=(by have:=m8.out;omega);have N0:=zh F9;clear F9;by_cases i9:j<a9.length
      .have A6:(j:M)<a9.length:=(by omega);obtain⟨b,M5,x,rfl,v4,hc⟩:=(F7.fr hf (λJ e v5=>by have:=(F7.cell J e v5).2.1;omega)).at i9;have N1:a0 (a9.take (j+1)=a9.take j++[x]):=(by unfold a0;rw[ar,v4];rfl);have v6:=aw v4;have I0:=zh ((F8 x).1 v6);obtain⟨s9,I1⟩:=(s1.mem x).1 v6;obtain⟨m9,I2⟩:=Option.isSome_iff_exists.1 I1;have h7:x.size<=maxLen:=(m4 x s9 m9 I2).2.1;clear v4 v6 I1 I2;have I3:=Fr.grownF hf;have v7:=m7.grown I3 (by simp) (λj e=>by cases e);have p6:=v2.fr hf (by unfold From;have:=v2.lt;omega);obtain⟨v,b5,g0,n3,_⟩:=v7.look (by unfold al;omega) h7;obtain⟨za,zc,rfl,hZ,U9⟩:=Ints.of_own g0.1 g0.2;obtain⟨zs,v8⟩:∃ zs,zs=f (kb x):=⟨_,rfl⟩
       rw[<-v8]at b5 g0 n3 hZ I0;have j7:a0 (IsSlots (zl I L) x zs):=(by rw[v8];exact F6 x);have I4:1<=zs.length:=by have:=I0.out;rcases zs with _|⟨_,_⟩;exact absurd rfl this;simp
       clear v8 g0;go_wp2_with (at_lookup;refine zAw rfl _ _ 311 rfl (.map (B gm)) (.string x) (.slice za zs.length zc) rfl rfl (b5 _ rfl) ?_)
       apply (zPk za zc zs _ hZ I4).mono;rintro en w5 ⟨⟨m,rfl,hm,s2⟩,rfl⟩;obtain⟨o,ho⟩:=Option.isSome_iff_exists.1 ((j7.mem m).1 hm);have n4:a0 (∀ s∈zs,1<=s/\s<=16):=λs hs=>by
        obtain⟨m',N2⟩:=Option.isSome_iff_exists.1 ((j7.mem s).1 hs);obtain⟨⟨_,h2,_,h4⟩,_⟩:=m4.out x s m' N2;have h2:=A3 _ h2;unfold soundB at h2;simp only[bg,cu]at h2;omega
       have N3:a0 (zAH (zl I L) x=o):=by
        have:=zFp j7 n4 hm s2;unfold a0 zAH;rw[this,ho];rfl
       obtain⟨⟨v9,n5,I5,I6⟩,_,N4⟩:=m4.out x m o ho;have b6:=p6.look (zH0 wr) bd h7 N4;have hv:(mapP (zl I L) (x,m)).getD zBw=o.v:=(by unfold mapP;rw[ho];rfl);rw[hv]at b6;have N5:1<=o.t/\o.t<=16:=by
        have n5:=A3 _ n5;unfold soundB at n5;simp only[bg,cu]at n5;omega
       have j8:=Hb.l o v9;have l0:=((k9 wr (p5.trans hf (λb hb h=>h) (λb hb h=>by unfold From at h ⊢;have:=j6.out;omega))).ok o v9)
       have I7:=zh b5;clear hv ho v9 n5 I5 hm s2 b5;obtain⟨op,oi,or,os,ot,oe,oa,ol,oc⟩:=o;simp only at I6 N5 j8 l0;subst I6;obtain⟨T,rfl⟩:∃ T:E,ot=(T:M):=⟨ot.toNat,by omega⟩
       unfold Mem.v bu at b6;simp only at b6;have p7:Fr No wr (wr.alloc (P #[.string op,.string oi,.int C or,.int C os,.int C (T:M),.int C oe,.slice oa ol.length oc] 278)):=(ae _ _).alloc _;have q3:=zF wr (P #[.string op,.string oi,.int C or,.int C os,.int C (T:M),.int C oe,.slice oa ol.length oc] 278);go_upto_region 20 with(at_lookup;refine zAw rfl _ _ 306 rfl (.map (B (w:E))) (ah #[.string x,.int C os]) (ah #[.string op,.string oi,.int C or,.int C os,.int C (T:M),.int C oe,.slice oa ol.length oc]) rfl rfl b6 ?_)
       generalize wr.alloc (P #[.string op,.string oi,.int C or,.int C os,.int C (T:M),.int C oe,.slice oa ol.length oc] 278)=W3 at *;have j9:=l0.no p7 (λ_=>id);have N6:=zh p7;have N7:=zC q3;have g9:=p7.size;clear l0 p7;go_cut [17] (λv wx=>∃ (ab pa:E) (la:an ao) (lc:E),v=.pointer (B ⟨ab,0,G⟩)/\wx.heap[ab]?=B (P #[.string x,.slice (B ⟨pa,0,G⟩) T T,.int C (T:M),.int C oe,.int C 0,.slice la ol.length lc] 229)/\wx.heap[pa]?=B (P ((List.replicate T (():aa)).map bw).toArray 9)/\pa≠ab/\Strs wx la lc ol/\BlkT wx la 9/\(W3:E)<=ab/\(W3:E)<=pa/\(∀ J,la=B J->J.block≠pa/\(W3:E)<=J.block)/\Fr No W3 wx);case first=>
        refine zY (From (W3:E)) (.q 0 (.q 1 (.q 2 (.q 4 (.q 5 (.q 6 (.q 7 (.q 8 (.q 9 (.m3 3 (.m2 10 (.q 11 (.m1 12 (.m1 13 .fin))) 12 (.m1 10 (.q 11 (.m1 13 .fin)))) 10 (.m2 3 (.q 11 (.m1 12 (.m1 13 .fin))) 12 (.m1 3 (.q 11 (.m1 13 .fin)))) 12 (.m2 3 (.m1 10 (.q 11 (.m1 13 .fin))) 10 (.m1 3 (.q 11 (.m1 13 .fin)))))))))))))) _ (by kernel_rfl) (by kernel_rfl) (λw0 a6=>?_) zj;have q0:=a6.heap q3 id;have R7:=a6.size;have nf:¬ From (W3:E) (wr:E):=(by omega);have c4:∀ g:Gr (From (W3:E)) w0,g.W.cell? ⟨wr,4,G⟩=B (.int C (T:M)):=λg=>g.fr.cell (zB q0 4) nf
        have c5:∀ g:Gr (From (W3:E)) w0,g.W.cell? ⟨wr,5,G⟩=B (.int C oe):=λg=>g.fr.cell (zB q0 5) nf
        have c6:∀ g:Gr (From (W3:E)) w0,g.W.cell? ⟨wr,6,G⟩=B (.slice oa ol.length oc):=λg=>g.fr.cell (zB q0 6) nf
        (repeat apply zN rfl rfl rfl;intro e2 hK;go_big_quiet_op;go_big_quiet_on);clear c4 c5 c6;refine zOI rfl rfl rfl ?_ ?_ ?_
        .go_wp2_with (at_make;refine bp _ rfl _ _ 30 rfl (W3:E) 9 s0 (.string aq) 1 bj e3 e6 e7 C C (T:M) (T:M) T rfl rfl rfl rfl (by rw[e8];omega) (by unfold al;omega) (by omega) ?_;intro X1 hP a7)
         have b7:Fr No w0 X1:=bf a7;have a2:a0 ((w0:E)<(X1:E)):=zZ hP rfl;have HP:=zh (zBP hP);clear hP a7;have s3:=b7.size;apply zm b7;have b0:Fr No W3 X1:=a6.step b7 zi;refine zAA rfl rfl ?_ ?_
         .go_wp2_with fail;apply (zAu oa oc ol _ (j9.no b0 (λ_=>id)) j8).mono;rintro en Y ⟨⟨la,lc,rfl,hL,Z,a8⟩,X⟩;have HL:=zg3 hL Z a8;clear hL Z a8;go_wp2_with fail;have g1:=X.size;apply zm X;have b1:Fr No W3 Y:=b0.step X zi;(repeat apply zN rfl rfl rfl;intro e2 hK;go_big_quiet_op;go_big_quiet_on);apply zH rfl;go_wp2_with fail;have U:Fr No Y (Y.alloc (P #[.string (),.slice G 0 0,.int C 0,.int C 0,.int C 0,.slice G 0 0] 229)):=(ae _ _).alloc _;have h8:=zF Y (P #[.string (),.slice G 0 0,.int C 0,.int C 0,.int C 0,.slice G 0 0] 229);generalize Y.alloc (P #[.string (),.slice G 0 0,.int C 0,.int C 0,.int C 0,.slice G 0 0] 229)=X3 at *;have g2:=U.size;apply zm U;have b8:Fr No W3 X3:=b1.step U zi;apply zH rfl;have qe:=(ae No X3).heap h8 id;obtain⟨z0,z1,z2,z3,z4,z5⟩:=cl6 qe;obtain⟨y0,y1,y2,y3,y4,y5⟩:=fl6 qe;have b9:=zh qe;clear qe;go_wp2_with fail;have h6:=set6 b9 rfl (.string x) (.slice (B ⟨w0,0,G⟩) T T) (.int C (T:M)) (.int C oe) (.int C 0) (.slice la ol.length lc);refine ay ⟨h6.2.mono (λb _ h=>by omega),?_⟩;apply zW;go_wp2;go_meet;have a4:(w0:E)≠(Y:E):=(by have:=a2.out;have:=zC h8;omega);have a3:∀ J,la=B J->J.block≠(Y:E)/\J.block≠(w0:E)/\(W3:E)<=J.block:=λJ e=>by
           have h1:=HL.2.2 J e;obtain⟨cs,h2⟩:=HL.2.1 J e;have h3:=zC h2;have h4:=a2.out;have h5:=zC h8;refine⟨?_,?_,?_⟩<;>omega
          exact⟨(Y:E),(w0:E),la,lc,rfl,h6.1,((((ae No X1).step X zi).step U zi).mono (T:=Is ((Y:E))) zn).step h6.2 zi |>.heap HP a4,a4,(HL.1.no ((ae No Y).step U zi) (λ_=>id)).fr h6.2 (λJ e _=>(a3 J e).1),(HL.2.1.fr ((ae No Y).step U zi) (λ_ _=>id)).fr h6.2 (λJ e=>(a3 J e).1),by omega,by omega,λJ e=>(a3 J e).2,b8.step h6.2 (λb hb h=>by omega)⟩
         .go_wp2_with fail;have X:Fr No X1 (X1.alloc (P #[.string (),.slice G 0 0,.int C 0,.int C 0,.int C 0,.slice G 0 0] 229)):=(ae _ _).alloc _;have h9:=zF X1 (P #[.string (),.slice G 0 0,.int C 0,.int C 0,.int C 0,.slice G 0 0] 229);generalize X1.alloc (P #[.string (),.slice G 0 0,.int C 0,.int C 0,.int C 0,.slice G 0 0] 229)=Y at *;have g1:=X.size;apply zm X;have b1:Fr No W3 Y:=b0.step X zi;apply zH rfl;go_wp2_with fail;apply (zAu oa oc ol _ (j9.no b1 (λ_=>id)) j8).mono;rintro en X3 ⟨⟨la,lc,rfl,hL,Z,a8⟩,U⟩;have HL:=zg3 hL Z a8;clear hL Z a8;go_wp2_with fail;have g2:=U.size;apply zm U;have b8:Fr No W3 X3:=b1.step U zi;(repeat apply zN rfl rfl rfl;intro e2 hK;go_big_quiet_op;go_big_quiet_on);apply zH rfl;have qe:=((ae No Y).step U zi).heap h9 id;obtain⟨z0,z1,z2,z3,z4,z5⟩:=cl6 qe;obtain⟨y0,y1,y2,y3,y4,y5⟩:=fl6 qe;have b9:=zh qe;clear qe;go_wp2_with fail;have h6:=set6 b9 rfl (.string x) (.slice (B ⟨w0,0,G⟩) T T) (.int C (T:M)) (.int C oe) (.int C 0) (.slice la ol.length lc);refine ay ⟨h6.2.mono (λb _ h=>by omega),?_⟩;apply zW;go_wp2;go_meet;have a4:(w0:E)≠(X1:E):=(by have:=a2.out;have:=zC h9;omega);have a3:∀ J,la=B J->J.block≠(X1:E)/\J.block≠(w0:E)/\(W3:E)<=J.block:=λJ e=>by
           have h1:=HL.2.2 J e;obtain⟨cs,h2⟩:=HL.2.1 J e;have h3:=zC h2;have h4:=a2.out;have h5:=zC h9;refine⟨?_,?_,?_⟩<;>omega
          exact⟨(X1:E),(w0:E),la,lc,rfl,h6.1,((((ae No X1).step X zi).step U zi).mono (T:=Is ((X1:E))) zn).step h6.2 zi |>.heap HP a4,a4,(HL.1.no (ae No X3) (λ_=>id)).fr h6.2 (λJ e _=>(a3 J e).1),(HL.2.1.fr (ae No X3) (λ_ _=>id)).fr h6.2 (λJ e=>(a3 J e).1),by omega,by omega,λJ e=>(a3 J e).2,b8.step h6.2 (λb hb h=>by omega)⟩
        .go_wp2_with fail;apply (zAu oa oc ol _ (j9.no a6 (λ_=>id)) j8).mono;rintro en X1 ⟨⟨la,lc,rfl,hL,Z,a8⟩,b7⟩;have HL:=zg3 hL Z a8;clear hL Z a8;go_wp2_with fail;have s3:=b7.size;apply zm b7;have b0:Fr No W3 X1:=a6.step b7 zi;refine zAA rfl rfl ?_ ?_
         .go_wp2_with (at_make;refine bp _ rfl _ _ 30 rfl (W3:E) 9 s0 (.string aq) 1 bj e3 e6 e7 C C (T:M) (T:M) T rfl rfl rfl rfl (by rw[e8];omega) (by unfold al;omega) (by omega) ?_;intro Y hP a7)
          have X:Fr No X1 Y:=bf a7;have a2:a0 ((X1:E)<(Y:E)):=zZ hP rfl;have HP:=zh (zBP hP);clear hP a7;have g1:=X.size;apply zm X;have b1:Fr No W3 Y:=b0.step X zi;(repeat apply zN rfl rfl rfl;intro e2 hK;go_big_quiet_op;go_big_quiet_on);apply zH rfl;go_wp2_with fail;have U:Fr No Y (Y.alloc (P #[.string (),.slice G 0 0,.int C 0,.int C 0,.int C 0,.slice G 0 0] 229)):=(ae _ _).alloc _;have h8:=zF Y (P #[.string (),.slice G 0 0,.int C 0,.int C 0,.int C 0,.slice G 0 0] 229);generalize Y.alloc (P #[.string (),.slice G 0 0,.int C 0,.int C 0,.int C 0,.slice G 0 0] 229)=X3 at *;have g2:=U.size;apply zm U;have b8:Fr No W3 X3:=b1.step U zi;apply zH rfl;have qe:=(ae No X3).heap h8 id;obtain⟨z0,z1,z2,z3,z4,z5⟩:=cl6 qe;obtain⟨y0,y1,y2,y3,y4,y5⟩:=fl6 qe;have b9:=zh qe;clear qe;go_wp2_with fail;have h6:=set6 b9 rfl (.string x) (.slice (B ⟨X1,0,G⟩) T T) (.int C (T:M)) (.int C oe) (.int C 0) (.slice la ol.length lc);refine ay ⟨h6.2.mono (λb _ h=>by omega),?_⟩;apply zW;go_wp2;go_meet;have a4:(X1:E)≠(Y:E):=(by have:=a2.out;have:=zC h8;omega);have a3:∀ J,la=B J->J.block≠(Y:E)/\J.block≠(X1:E)/\(W3:E)<=J.block:=λJ e=>by
           have h1:=HL.2.2 J e;obtain⟨cs,h2⟩:=HL.2.1 J e;have h3:=zC h2;have h4:=a2.out;have h5:=zC h8;refine⟨?_,?_,?_⟩<;>omega
          exact⟨(Y:E),(X1:E),la,lc,rfl,h6.1,(((ae No Y).step U zi).mono (T:=Is ((Y:E))) zn).step h6.2 zi |>.heap HP a4,a4,(HL.1.no (((ae No X1).step X zi).step U zi) (λ_=>id)).fr h6.2 (λJ e _=>(a3 J e).1),(HL.2.1.fr (((ae No X1).step X zi).step U zi) (λ_ _=>id)).fr h6.2 (λJ e=>(a3 J e).1),by omega,by omega,λJ e=>(a3 J e).2,b8.step h6.2 (λb hb h=>by omega)⟩
         .go_wp2_with fail;have X:Fr No X1 (X1.alloc (P #[.string (),.slice G 0 0,.int C 0,.int C 0,.int C 0,.slice G 0 0] 229)):=(ae _ _).alloc _;have h9:=zF X1 (P #[.string (),.slice G 0 0,.int C 0,.int C 0,.int C 0,.slice G 0 0] 229);generalize X1.alloc (P #[.string (),.slice G 0 0,.int C 0,.int C 0,.int C 0,.slice G 0 0] 229)=Y at *;have g1:=X.size;apply zm X;have b1:Fr No W3 Y:=b0.step X zi;apply zH rfl;go_wp2_with (at_make;refine bp _ rfl _ _ 30 rfl (W3:E) 9 s0 (.string aq) 1 bj e3 e6 e7 C C (T:M) (T:M) T rfl rfl rfl rfl (by rw[e8];omega) (by unfold al;omega) (by omega) ?_;intro X3 hP a7)
          have U:Fr No Y X3:=bf a7;have a2:a0 ((Y:E)<(X3:E)):=zZ hP rfl;have HP:=zh (zBP hP);clear hP a7;have g2:=U.size;apply zm U;have b8:Fr No W3 X3:=b1.step U zi;(repeat apply zN rfl rfl rfl;intro e2 hK;go_big_quiet_op;go_big_quiet_on);apply zH rfl;have qe:=((ae No Y).step U zi).heap h9 id;obtain⟨z0,z1,z2,z3,z4,z5⟩:=cl6 qe;obtain⟨y0,y1,y2,y3,y4,y5⟩:=fl6 qe;have b9:=zh qe;clear qe;go_wp2_with fail;have h6:=set6 b9 rfl (.string x) (.slice (B ⟨Y,0,G⟩) T T) (.int C (T:M)) (.int C oe) (.int C 0) (.slice la ol.length lc);refine ay ⟨h6.2.mono (λb _ h=>by omega),?_⟩;apply zW;go_wp2;go_meet;have a4:(Y:E)≠(X1:E):=(by have:=a2.out;have:=zC h9;omega);have a3:∀ J,la=B J->J.block≠(X1:E)/\J.block≠(Y:E)/\(W3:E)<=J.block:=λJ e=>by
           have h1:=HL.2.2 J e;obtain⟨cs,h2⟩:=HL.2.1 J e;have h3:=zC h2;have h4:=a2.out;have h5:=zC h9;refine⟨?_,?_,?_⟩<;>omega
          exact⟨(X1:E),(Y:E),la,lc,rfl,h6.1,((ae No X3).mono (T:=Is ((X1:E))) zn).step h6.2 zi |>.heap HP a4,a4,(HL.1.no (((ae No X1).step X zi).step U zi) (λ_=>id)).fr h6.2 (λJ e _=>(a3 J e).1),(HL.2.1.fr (((ae No X1).step X zi).step U zi) (λ_ _=>id)).fr h6.2 (λJ e=>(a3 J e).1),by omega,by omega,λJ e=>(a3 J e).2,b8.step h6.2 (λb hb h=>by omega)⟩
        .go_wp2_with fail;have b7:Fr No w0 (w0.alloc (P #[.string (),.slice G 0 0,.int C 0,.int C 0,.int C 0,.slice G 0 0] 229)):=(ae _ _).alloc _;have k0:=zF w0 (P #[.string (),.slice G 0 0,.int C 0,.int C 0,.int C 0,.slice G 0 0] 229);generalize w0.alloc (P #[.string (),.slice G 0 0,.int C 0,.int C 0,.int C 0,.slice G 0 0] 229)=X1 at *;have s3:=b7.size;apply zm b7;have b0:Fr No W3 X1:=a6.step b7 zi;refine zAA rfl rfl ?_ ?_
         .go_wp2_with (at_make;refine bp _ rfl _ _ 30 rfl (W3:E) 9 s0 (.string aq) 1 bj e3 e6 e7 C C (T:M) (T:M) T rfl rfl rfl rfl (by rw[e8];omega) (by unfold al;omega) (by omega) ?_;intro Y hP a7)
          have X:Fr No X1 Y:=bf a7;have a2:a0 ((X1:E)<(Y:E)):=zZ hP rfl;have HP:=zh (zBP hP);clear hP a7;have g1:=X.size;apply zm X;have b1:Fr No W3 Y:=b0.step X zi;apply zH rfl;go_wp2_with fail;apply (zAu oa oc ol _ (j9.no b1 (λ_=>id)) j8).mono;rintro en X3 ⟨⟨la,lc,rfl,hL,Z,a8⟩,U⟩;have HL:=zg3 hL Z a8;clear hL Z a8;go_wp2_with fail;have g2:=U.size;apply zm U;have b8:Fr No W3 X3:=b1.step U zi;(repeat apply zN rfl rfl rfl;intro e2 hK;go_big_quiet_op;go_big_quiet_on);apply zH rfl;have qe:=(((ae No X1).step X zi).step U zi).heap k0 id;obtain⟨z0,z1,z2,z3,z4,z5⟩:=cl6 qe;obtain⟨y0,y1,y2,y3,y4,y5⟩:=fl6 qe;have b9:=zh qe;clear qe;go_wp2_with fail;have h6:=set6 b9 rfl (.string x) (.slice (B ⟨X1,0,G⟩) T T) (.int C (T:M)) (.int C oe) (.int C 0) (.slice la ol.length lc);refine ay ⟨h6.2.mono (λb _ h=>by omega),?_⟩;apply zW;go_wp2;go_meet;have a4:(X1:E)≠(w0:E):=(by have:=a2.out;have:=zC k0;omega);have a3:∀ J,la=B J->J.block≠(w0:E)/\J.block≠(X1:E)/\(W3:E)<=J.block:=λJ e=>by
           have h1:=HL.2.2 J e;obtain⟨cs,h2⟩:=HL.2.1 J e;have h3:=zC h2;have h4:=a2.out;have h5:=zC k0;refine⟨?_,?_,?_⟩<;>omega
          exact⟨(w0:E),(X1:E),la,lc,rfl,h6.1,(((ae No Y).step U zi).mono (T:=Is ((w0:E))) zn).step h6.2 zi |>.heap HP a4,a4,(HL.1.no (ae No X3) (λ_=>id)).fr h6.2 (λJ e _=>(a3 J e).1),(HL.2.1.fr (ae No X3) (λ_ _=>id)).fr h6.2 (λJ e=>(a3 J e).1),by omega,by omega,λJ e=>(a3 J e).2,b8.step h6.2 (λb hb h=>by omega)⟩
         .go_wp2_with fail;apply (zAu oa oc ol _ (j9.no b0 (λ_=>id)) j8).mono;rintro en Y ⟨⟨la,lc,rfl,hL,Z,a8⟩,X⟩;have HL:=zg3 hL Z a8;clear hL Z a8;go_wp2_with fail;have g1:=X.size;apply zm X;have b1:Fr No W3 Y:=b0.step X zi;apply zH rfl;go_wp2_with (at_make;refine bp _ rfl _ _ 30 rfl (W3:E) 9 s0 (.string aq) 1 bj e3 e6 e7 C C (T:M) (T:M) T rfl rfl rfl rfl (by rw[e8];omega) (by unfold al;omega) (by omega) ?_;intro X3 hP a7)
          have U:Fr No Y X3:=bf a7;have a2:a0 ((Y:E)<(X3:E)):=zZ hP rfl;have HP:=zh (zBP hP);clear hP a7;have g2:=U.size;apply zm U;have b8:Fr No W3 X3:=b1.step U zi;(repeat apply zN rfl rfl rfl;intro e2 hK;go_big_quiet_op;go_big_quiet_on);apply zH rfl;have qe:=(((ae No X1).step X zi).step U zi).heap k0 id;obtain⟨z0,z1,z2,z3,z4,z5⟩:=cl6 qe;obtain⟨y0,y1,y2,y3,y4,y5⟩:=fl6 qe;have b9:=zh qe;clear qe;go_wp2_with fail;have h6:=set6 b9 rfl (.string x) (.slice (B ⟨Y,0,G⟩) T T) (.int C (T:M)) (.int C oe) (.int C 0) (.slice la ol.length lc);refine ay ⟨h6.2.mono (λb _ h=>by omega),?_⟩;apply zW;go_wp2;go_meet;have a4:(Y:E)≠(w0:E):=(by have:=a2.out;have:=zC k0;omega);have a3:∀ J,la=B J->J.block≠(w0:E)/\J.block≠(Y:E)/\(W3:E)<=J.block:=λJ e=>by
           have h1:=HL.2.2 J e;obtain⟨cs,h2⟩:=HL.2.1 J e;have h3:=zC h2;have h4:=a2.out;have h5:=zC k0;refine⟨?_,?_,?_⟩<;>omega
          exact⟨(w0:E),(Y:E),la,lc,rfl,h6.1,((ae No X3).mono (T:=Is ((w0:E))) zn).step h6.2 zi |>.heap HP a4,a4,(HL.1.no ((ae No Y).step U zi) (λ_=>id)).fr h6.2 (λJ e _=>(a3 J e).1),(HL.2.1.fr ((ae No Y).step U zi) (λ_ _=>id)).fr h6.2 (λJ e=>(a3 J e).1),by omega,by omega,λJ e=>(a3 J e).2,b8.step h6.2 (λb hb h=>by omega)⟩
       case rest=>
        obtain⟨ab,pa,la,lc,rfl,n6,w1,a4,g3,Z,N8,N9,p8,I8⟩:=hcut;have n7:Fr No wr wc:=N6.step I8 zi;have O0:=n7.size;have V0:=hZ.no n7 (λ_=>id);have s4:wc.heap[gm]?=wr.heap[gm]?:=n7.block gm v7.lt id;have I9:=I7.out wc s4;have HK:a0 (∀ W:aj,Fr (λb=>b=ab\/b=pa) wc W->(W.ownsRow (w4:E) 229 6 (.slice av O.length cv) O.length (arflat O)/\AFresh W (w4:E) O)/\Fr (From (w4:E)) w4 W/\Strs W la lc ol/\BlkT W la 9/\PMap W (w:E) (mapP (zl I L)) n/\Ints W za zc zs):=λW hW=>by
         have n8:Fr (λb=>(wr:E)<=b) wr W:=(n7.mono zn).step hW (λb hb h=>by omega);refine⟨⟨zG a5 n8 (λb hb h=>by have h1:=zZ a5 hb;omega),b4.fr n8 (λb _ h1 h2=>by omega)⟩,hf.step n8 (λb hb h=>by have:=hf.size;omega),g3.fr hW (λJ e _ h=>?_),Z.fr hW (λJ e h=>?_),p6.fr n8 (by have:=p6.lt;omega),hZ.fr n8 (λJ e v5 h=>by have:=(hZ.cell J e v5).2.1;omega)⟩
         .obtain⟨cs,h2⟩:=Z J e;have:=p8 J e;rcases h with h|h
          .rw[h]at h2;rw[n6]at h2;cases h2
          .exact this.1 h
         .obtain⟨cs,h2⟩:=Z J e;have:=p8 J e;rcases h with h|h
          .rw[h]at h2;rw[n6]at h2;cases h2
          .exact this.1 h
        have w7:a0 ((∀ J,la=B J->(w4:E)<=J.block)/\(w4:E)<=pa/\(w4:E)<=ab/\pa<(wc:E)/\ab<(wc:E)):=⟨λJ e=>by have:=p8 J e;have:=hf.size;omega,by have:=hf.size;omega,by have:=hf.size;omega,zC w1,zC n6⟩
        clear hZ I3 v7 p6 q3 j9 N7 g9 g3 Z N8 N9 p8 I8 n7 O0 s4 a5 b4 hf b6 hc;go_wp2_with (at_lookup;refine zAw rfl _ _ 311 rfl (.map (B gm)) (.string x) (.slice za zs.length zc) rfl rfl I9 ?_)
        clear I9;go_loopw [103] (λi w8=>∃ q:E,q<=zs.length/\i=.int C (q:M)/\w8.heap[ab]?=B (P #[.string x,.slice (B ⟨pa,0,G⟩) T T,.int C (T:M),.int C oe,.int C ((cntJ T (zs.take q):E):M),.slice la ol.length lc] 229)/\w8.heap[pa]?=B (P ((psJ (zl I L) x T (zs.take q)).map bw).toArray 9)/\a0 (Fr (λb=>b=ab\/b=pa) wc w8)) (λi _=>zs.length-(ak i).toNat);case atStart=>exact⟨0,by omega,rfl,by simpa [cntJ]using n6,by rw[List.take_zero,zOl];exact w1,ae _ _⟩
        case round=>
         obtain⟨q,hq,rfl,qb,qp,n9⟩:=hrel;clear n6 w1;by_cases J0:q<zs.length
         .have O1:(q:M)<zs.length:=(by omega);obtain⟨b',R8,s,e9,w9,V1⟩:=(HK _ n9).2.2.2.2.2.at J0;have p9:a0 (zs.take (q+1)=zs.take q++[s]):=(by unfold a0;rw[ar,w9];rfl);have p4:=aw w9;obtain⟨V2,p3⟩:=n4.out s p4;obtain⟨⟨mp,mi,mr,ms,mt,me,ma,ml,mc⟩,o0⟩:=Option.isSome_iff_exists.1 ((j7.mem s).1 p4);have J1:=zh o0;have k3:=(m4 x s _ o0).2.2;obtain rfl:=e9;clear w9 p4 o0;obtain⟨-,x1,x2⟩:=cl3 qb;by_cases x0:s<=T
          .obtain⟨kk,rfl⟩:∃ kk:E,s=(kk:M)+1:=⟨(s-1).toNat,by omega⟩
           have J2:kk<T:=(by omega);have R9:(kk:M)<T:=(by omega);have O2:a0 (pathAt (zl I L) x kk=mp):=(by unfold a0 pathAt;rw[J1]);have o1:∀ W:aj,PMap W (w:E) (mapP (zl I L)) n->(ci 306 (.map (B (w:E))) (ah #[.string x,.int C ((kk:M)+1)]) ag).run am W=.ok (ah #[.string mp,.string mi,.int C mr,.int C ms,.int C mt,.int C me,.slice ma ml.length mc]) W:=λW hW=>by
            rw[hW.look (zH0 W) bd h7 k3];unfold mapP;rw[J1];rfl
           have x5:=zh o1;have O3:=hfdM;clear o1;go_upto_region 25 with(fail)
           refine zO (Is pa) [(0,ag),(1,ag),(2,ag),(3,ag),(4,ag),(5,ag),(6,ag),(7,ag),(8,ag),(9,ag),(10,ag),(11,ai)] (by kernel_rfl) (by kernel_rfl) (λw0 a6=>?_);have x6:=a6.heap qb id;have r0:=a6.heap qp id;have d1:∀ g:Gr (Is pa) w0,g.W.cell? ⟨ab,1,G⟩=B (.slice (B ⟨pa,0,G⟩) T T):=λg=>g.fr.cell (zB x6 1) (λh=>a4 h.symm)
           have d2:∀ g:Gr (Is pa) w0,(ci 306 (.map (B (w:E))) (ah #[.string x,.int C ((kk:M)+1)]) ag).run am g.W=.ok (ah #[.string mp,.string mi,.int C mr,.int C ms,.int C mt,.int C me,.slice ma ml.length mc]) g.W:=λg=>x5 _ (((HK _ n9).2.2.2.2.1.fr a6 id).fr g.fr (by have:=w7.2.1;have:=v2.lt;omega))
           apply zR rfl rfl rfl;intro e2 hK;go_big_quiet_op;go_big_quiet_on;apply zR rfl rfl rfl;intro e2 hK;go_big_quiet_op;go_big_quiet_on;apply zR rfl rfl rfl;intro e2 hK;go_big_quiet_op;go_big_quiet_on;apply zR rfl rfl rfl;intro e2 hK;go_big_quiet_op;go_big_quiet_on;apply zR rfl rfl rfl;intro e2 hK;go_big_quiet_op;go_big_quiet_on;apply zR rfl rfl rfl;intro e2 hK;go_big_quiet_op;go_big_quiet_on;apply zR rfl rfl rfl;intro e2 hK;go_big_quiet_op;go_big_quiet_on;apply zR rfl rfl rfl;intro e2 hK;go_big_quiet_op;go_big_quiet_on;apply zR rfl rfl rfl;intro e2 hK;refine zB2 rfl _ _ 306 rfl (.map (B (w:E))) (ah #[.string x,.int C ((kk:M)+1)]) (ah #[.string mp,.string mi,.int C mr,.int C ms,.int C mt,.int C me,.slice ma ml.length mc]) rfl rfl (λW hW=>by obtain⟨g,rfl⟩:=hW;exact d2 g) ?_
           go_frame
           go_big_quiet_on;apply zR rfl rfl rfl;intro e2 hK;go_big_quiet_op;go_big_quiet_on;apply zR rfl rfl rfl;intro e2 hK;go_big_quiet_op;go_big_quiet_on;clear d1 d2 x1 x2;have J3:((psJ (zl I L) x T (zs.take q)).map bw).toArray.size=T:=(by simp[zFc]);have x3:w0.frozen? ⟨pa,kk,G⟩=false:=zD r0 kk;obtain⟨ov,x4⟩:∃ ov,w0.cell? ⟨pa,kk,G⟩=B ov:=by
            rw[zB r0];exact⟨_,Array.getElem?_eq_getElem (by rw[J3];exact J2)⟩
           apply zt rfl;go_wp2_with fail;refine ay ⟨br (S:=Is pa) (p:=⟨pa,kk,G⟩) (ae _ _) (λ_=>rfl) _,?_⟩;apply zb;have x7:Fr (Is pa) w0 (w0.setCell ⟨pa,kk,G⟩ (.string mp)):=br (S:=Is pa) (p:=⟨pa,kk,G⟩) (ae _ _) (λ_=>rfl) _;have J4:=zE r0 kk (.string mp);have o2:=x7.heap x6 (λh=>a4 h.symm);have O4:a0 (Fr (λb=>b=ab\/b=pa) wc (w0.setCell ⟨pa,kk,G⟩ (.string mp))):=(n9.step a6 zn).step x7 (λb _ h=>.inr h);have O5:a0 (cntJ T (zs.take q)<=1000):=(by have h1:=zPN T (zs.take q);have h2:=n3;unfold a0;rw[List.length_take]at h1;omega);clear x3 x4 r0 x6 x7 a6 qp qb J3 O3;generalize w0.setCell ⟨pa,kk,G⟩ (.string mp)=W5 at *;obtain⟨cn,g4⟩:∃ cn:E,cn=cntJ T (zs.take q):=⟨_,rfl⟩
           have U0:cn<=1000:=(by rw[g4];exact O5);rw[<-g4]at o2;have O6:=zh g4;clear g4;have x3:W5.cell? ⟨ab,4,G⟩=B (.int C (cn:M)):=zB o2 4;have x4:W5.frozen? ⟨ab,4,G⟩=false:=zD o2 4;have q6:=zE o2 4 (.int C ((cn:M)+1));have x8:Fr (Is ab) W5 (W5.setCell ⟨ab,4,G⟩ (.int C ((cn:M)+1))):=br (S:=Is ab) (p:=⟨ab,4,G⟩) (ae _ _) (λ_=>rfl) _;have J5:=x8.heap J4 a4;have g6:a0 (Fr (λb=>b=ab\/b=pa) wc (W5.setCell ⟨ab,4,G⟩ (.int C ((cn:M)+1)))):=O4.step x8 (λb _ h=>.inl h);simp only[List.setIfInBounds_toArray,List.set_cons_zero,List.set_cons_succ]at q6;have J6:(W5.setCell ⟨ab,4,G⟩ (.int C ((cn:M)+1))).heap[ab]?=B (P #[.string x,.slice (B ⟨pa,0,G⟩) T T,.int C (T:M),.int C oe,.int C ((cntJ T (zs.take (q+1)):E):M),.slice la ol.length lc] 229):=by
            rw[p9,zG1,if_pos x0,<-O6];exact q6
           have d4:(W5.setCell ⟨ab,4,G⟩ (.int C ((cn:M)+1))).heap[pa]?=B (P ((psJ (zl I L) x T (zs.take (q+1))).map bw).toArray 9):=by
            rw[p9.out,zOk _ _ _ _ _ J2,O2.out,List.map_set,J5];simp
           have H6:=zg2 J6 d4;clear q6 J6 J4 J5 d4 o2 x8;go_wp2;go_roundw;case rel=>exact⟨q+1,by omega,by go_num,H6.1,H6.2,g6⟩
           case measure=>simp[ak];omega
          .go_wp2;go_roundw;case rel=>exact⟨q+1,by omega,by go_num,by rw[p9,zG1,if_neg x0];exact qb,by rw[p9,zMa _ _ _ _ _ x0];exact qp,n9⟩
           case measure=>simp[ak];omega
         .obtain rfl:q=zs.length:=by omega
          rw[ax]at qb qp;obtain⟨cn,g4⟩:∃ cn:E,cn=cntJ T zs:=⟨_,rfl⟩
          rw[<-g4]at qb;have x9:Arr.mk x (psJ (zl I L) x T zs) (T:M) oe (cn:M) ol=buildA (zl I L) x:=by
           unfold buildA;rw[N3,g4,zMb j7,zLa j7 (λs hs=>(n4 s hs).1)];rfl
          have V3:=zh x9;obtain⟨⟨a5,b4⟩,hf,g3,Z,_,_⟩:=HK.out _ n9;have k4:=zFU qp (by rw[zFc];unfold al;omega);have o3:BlkT wr (B ⟨pa,0,G⟩) 9:=λJ e=>by cases e;exact⟨_,qp⟩
          rw[zFc]at k4;obtain⟨y0,y1,y2,y3,y4,y5⟩:=cl6 qb;obtain⟨A,hA⟩:∃ A:ArrM,A=⟨Arr.mk x (psJ (zl I L) x T zs) (T:M) oe (cn:M) ol,B ⟨pa,0,G⟩,T,la,lc⟩:=⟨_,rfl⟩
          have k5:A.vals=#[.string x,.slice (B ⟨pa,0,G⟩) T T,.int C (T:M),.int C oe,.int C (cn:M),.slice la ol.length lc]:=(by rw[hA];simp[ArrM.vals,zFc]);have o4:A.toArr=buildA (zl I L) x:=(by rw[hA];exact x9);have s5:∀ u∈(#[.string x,.slice (B ⟨pa,0,G⟩) T T,.int C (T:M),.int C oe,.int C (cn:M),.slice la ol.length lc]:Array ba).toList,u.oneCell'=true:=(by rw[<-k5];exact zJy A);have HS:=zg5 b4 g3 Z k4 o3;have HA:=zg3 k5 o4 hA;have J7:=zh s5;have J8:=zh a5;have O7:=zh hf;have U1:=hf.size;clear b4 g3 Z k4 o3 k5 o4 hA s5 hf qb qp g4 x9;go_wp2_with (at_builtin;refine cg _ rfl _ _ 223 rfl (w4:E) 229 i0 (ah #[.string aq,.slice G 0 0,.int C 0,.int C 0,.int C 0,.slice G 0 0]) 6 88 Tryz.underlying223 L8 L9 M0 M1 rfl (by decide) _ _ _ rfl (a5.alloc _) ⟨wr,0,G⟩ 1 1 (#[.string x,.slice (B ⟨pa,0,G⟩) T T,.int C (T:M),.int C oe,.int C (cn:M),.slice la ol.length lc]:Array ba).toList rfl rfl (ze _ #[.string x,.slice (B ⟨pa,0,G⟩) T T,.int C (T:M),.int C oe,.int C (cn:M),.slice la ol.length lc] _ rfl) J7.out (by unfold al;omega) (by omega) (by first|omega|(simp;done)|(simp;omega)) ?_;intro v' w6 e1 i5 _;obtain⟨O8,O9,rfl⟩:=zJ e1)
          have i3:Fr No wr (wr.alloc (P #[.string x,.slice (B ⟨pa,0,G⟩) T T,.int C (T:M),.int C oe,.int C (cn:M),.slice la ol.length lc] 229)):=(ae _ _).alloc _;have o5:=J8.alloc (P #[.string x,.slice (B ⟨pa,0,G⟩) T T,.int C (T:M),.int C oe,.int C (cn:M),.slice la ol.length lc] 229);have y7:Fr (λb=>(az av O.length cv).ownBlock=B b) (wr.alloc (P #[.string x,.slice (B ⟨pa,0,G⟩) T T,.int C (T:M),.int C oe,.int C (cn:M),.slice la ol.length lc] 229)) w6:=be i5;obtain⟨k5,o4,hA⟩:=HA.out;obtain⟨b4,g3,Z,k4,o3⟩:=HS.out;have y8:Strs wr A.pa A.pc A.ps/\Strs wr A.la A.lc A.l:=(by rw[hA];exact⟨k4,g3⟩);have y9:BlkT wr A.pa 9/\BlkT wr A.la 9:=(by rw[hA];exact⟨o3,Z⟩);have b0:(∀ J,A.pa=B J->(w4:E)<=J.block)/\∀ J,A.la=B J->(w4:E)<=J.block:=by
           rw[hA];exact⟨λJ e=>by cases e;exact w7.2.1,w7.1⟩
          have s6:AFresh w6 (w4:E) (O++[A]):=AFresh.own (AFresh.snoc (b4.fr i3 (λ_ _ _=>id)) ⟨y8.1.no i3 (λ_=>id),y8.2.no i3 (λ_=>id)⟩ ⟨y9.1.fr i3 (λ_ _=>id),y9.2.fr i3 (λ_ _=>id)⟩ b0) o5 y7;have J9:(O++[A]).map bq=(a9.take (j+1)).map (buildA (zl I L)):=by
           rw[N1,bc,bc,HO];simp[o4]
          have k6:Fr (From (w4:E)) w4 w6:=(O7.step i3 zn).step y7 (λb _ h=>zQ o5 h);rw[<-k5,<-zHy]at e1;have HF:=zg4 e1 s6 J9 k6;clear e1 s6 J9 k6 i5 y7 o5 i3 y0 y1 y2 y3 y4 y5 a5 k5 o4 hA b4 g3 Z k4 o3 y8 y9 b0;go_roundw;case rel=>exact⟨j+1,O++[A],O8,O9,by omega,by rw[bi,N0];rfl,by rw[bi];rfl,by go_num,by rw[bi];exact HF.1,HF.2.1,zh HF.2.2.1,HF.2.2.2⟩
          case measure=>simp[ak];omega
      .obtain rfl:j=a9.length:=by omega
       obtain⟨a',c',hv,hR,i6⟩:=Arrs.of_own a5 (λm hm=>(b4 m hm).1);cases hv;have ho:=HO.out;rw[ax]at ho;have o6:=zAo a5 j6;have H:=zg5 hR i6 b4 (And.intro ho o6) ((p5.trans hf (λb hb h=>h) (λb hb h=>by unfold From at h ⊢;have:=j6.out;omega)).mono (T:=No) (λb hb h=>by omega));clear a5 b4 HO hf hR i6 ho o6;go_wp2;go_ret;exact⟨⟨_,_,O,a9,rfl,H.1,λJ e=>by have:=H.2.1 J e;have:=j6.out;omega,λm hm=>⟨(H.2.2.1 m hm).1,(H.2.2.1 m hm).2.1,λJ e=>by have:=(H.2.2.1 m hm).2.2.1 J e;have:=j6.out;omega,λJ e=>by have:=(H.2.2.1 m hm).2.2.2 J e;have:=j6.out;omega⟩,s1,H.2.2.2.1.1,by have:=m8.out;omega,H.2.2.2.1.2⟩,H.2.2.2.2⟩
    .intro x s c kl y ps w3 o7 o8 k8 hv d3 s7 i9 z7 s8 R0;obtain⟨x',s',e,h7,k3⟩:=zIf o8;obtain⟨rfl,rfl⟩:x=x'/\s=s':=by simpa using e
     obtain rfl:plL (x,s)=kl:=Option.some.inj ((keyP h7 k3).symm.trans o8);have HD:a0 (has D (plL (x,s))=ai):=zLJ d3;have k9:=zh k8;have L0:a0 ((W1:E)≠gm):=(by have:=j4.out;unfold a0;omega);have R1:a0 ((W1:E)=gm+1):=j4.out;have V4:=zh s8;have U2:(W1:E)+1<=(w3:E):=(by omega);clear s8;have L3:=hG.grown z7 (λe=>by have:=Option.some.inj e;exact L0 this.symm) (λj e=>by have:=Option.some.inj e;omega);have d6:a0 (Fr (From (w:E)) w w3):=Hf.step (c8 z7) (λb hb e=>by unfold Is at e;unfold From;have:=t9.out;have:=j4.out;omega);clear k8 d3 hv e o8 z7 Hf hG;have L4:=s7.alloc (P #[.string x,.int C s] 308);have r4:Fr No w3 (w3.alloc (P #[.string x,.int C s] 308)):=(ae _ _).alloc _;have m7:=L3.grown (r4.grown (row:=G) (λ_ h=>h.elim)) (by simp) (λj e=>by cases e);have R2:a0 ((w3.alloc (P #[.string x,.int C s] 308)).heap.size=(w3:E)+1):=(by unfold a0;simp);have q4:=zF w3 (P #[.string x,.int C s] 308);go_upto_region 14 with(fail)
     generalize w3.alloc (P #[.string x,.int C s] 308)=W4 at *;have M9:=r4.size;have V5:=zC q4;have p5:a0 (Fr (From (w:E)) w W4):=d6.step r4 zn;clear r4 L3 s7 d6 R0;refine zY (λb=>b=gm\/((W1:E)+1<=b/\b<(w3:E))) (.q 0 (.q 1 (.q 2 (.q 3 (.q 4 (.q 5 (.q 7 (.q 8 (.m2 6 (.m1 9 (.m1 10 (.m1 11 .fin))) 9 (.m1 6 (.m1 10 (.m1 11 .fin)))))))))))) _ (by kernel_rfl) (by kernel_rfl) (λw0 a6=>?_) zj;have i7:=a6.grown (row:=G) (λ_ h=>h.elim);have R3:=m7.grown i7 (by simp) (λj e=>by cases e);have L5:=L4.kept i7 (by simp) (by simp);have q0:=a6.heap q4 id;have e3:=a6.size;have R4:a0 (Fr (From (w:E)) w w0):=p5.step a6 zn;have c0:∀ g:Gr (λb=>b=gm\/((W1:E)+1<=b/\b<(w3:E))) w0,g.W.cell? ⟨w3,0,G⟩=B (.string x):=λg=>g.fr.cell (zB q0 0) (λh=>by have:=j4.out;rcases h with h|h<;>dsimp only at h<;>omega)
     have c1:∀ g:Gr (λb=>b=gm\/((W1:E)+1<=b/\b<(w3:E))) w0,g.W.cell? ⟨w3,1,G⟩=B (.int C s):=λg=>g.fr.cell (zB q0 1) (λh=>by have:=j4.out;rcases h with h|h<;>dsimp only at h<;>omega)
     obtain⟨v,b5,i8,n3,o9⟩:=m7.look (by unfold al;omega) h7;have g0:=i8.kept i7 (row:=G) (by cases v.ownBlock<;>simp);have L6:gm<(w0:E):=R3.lt;have p0:w0.heap[gm]?=W4.heap[gm]?:=a6.block gm m7.lt id;have p1:a0 (∀ b,v.ownBlock=B b->(W1:E)+1<=b/\b<(w3:E)):=λb e=>by
      have h1:=zQ i8.1 e;have h2:=zZ i8.1 e;have h3:=BlkT.ne i8.1 (a:=B ⟨w3,0,G⟩) (T:=308) (λJ e=>by cases e;exact⟨_,q4⟩) (by decide) _ rfl;have h4:=R2.out;have h5:b≠(w3:E):=λe'=>h3 (by rw[e,e'])
      unfold From at h1;omega
     have z8:=zh o9;have HA:a0 (∀ (av:an ao) (wb:aj) (vb:ba),w0.grownBy wb v.ownBlock->wb.ownsRow ((W1:E)+1) 3 1 vb ((f (kb x)).length+1) ((f (kb x)).map (Value.int C)++[.int C s])->(vb.ownBlock=v.ownBlock\/vb.ownBlock=B ((w0:E)+1))->
       ∃ w6,(Instr.mapUpdate 311 (.map (B gm)) (.string x) vb).run am wb=.ok () w6/\GMap w6 ((W1:E)+1) gm (λz=>if z=kb x then f (kb x)++[s]else f z) (N+1)/\w6.ranges am 308 heldV (w:E) (W1:E) n D (λz=>e5 z&&!z.sameKey (plL (x,s))) o7/\Fr (λb=>b=gm\/((W1:E)+1<=b/\b<(w3:E))) wb w6/\a0 (Fr (From (w:E)) w w6)/\(W1:E)+1<=(w6:E)):=by
      intro av wb vb hg a5 d3;obtain⟨w6,r1,r2,r3⟩:=z8.out s k3 wb vb (i7.but _ |>.andThen hg (λj h=>.inr h)) (g0.appended a5 k3) (d3.imp id (λh=>⟨_,h,by omega⟩));have V6:=R1.out;have V7:=t9.out;have V8:=hg.size;have r5:=r3.size;refine⟨w6,r1,r2,(L5.kept hg ?_ ?_).kept r3 ?_ ?_,(c8 r3).mono (λb _ e=>.inl e),(R4.step (be hg) ?_).step (c8 r3) ?_,by omega⟩;·intro e;have:=p1.out _ e.symm;omega
      .intro e;have:=p1.out _ e.symm;omega
      .intro e;have:=Option.some.inj e;omega
      .intro e;have:=Option.some.inj e;omega
      .intro b hb e;have:=p1.out _ e;omega
      .intro b hb e;omega
     have L7:a0 (Grp D (λz=>e5 z&&!z.sameKey (plL (x,s))) (λz=>if z=kb x then f (kb x)++[s]else f z)):=HG.step h7 k3 k9 HD;clear o9 k9 HG;(repeat apply zN rfl rfl rfl;intro e2 hK;go_big_quiet_op;go_big_quiet_on);clear c0 c1;refine zAA rfl rfl ?_ ?_
     .go_wp2_with (at_lookup;refine zAw rfl _ _ 311 rfl (.map (B gm)) (.string x) v rfl rfl (b5 _ p0) ?_)
      apply zq;apply zH rfl;go_wp2_with fail;apply zp;apply zH rfl;go_wp2_with (at_builtin;refine cw _ rfl _ _ 22 rfl ((W1:E)+1) 3 j0 (.int C 0) 1 8 cq D5 D6 D7 D8 rfl (by decide) v _ _ rfl (g0.1.alloc _) ⟨w0,0,G⟩ 1 1 [.int C s] rfl rfl (cell_one_new _ _ _) (ints_oneCell _ [s]) (by unfold al;omega) (by omega) (by simp;omega) ?_;intro vb wb i4 d0 _ d3)
      have z9:=(cr w0 (P #[.int C s] 3) v.ownBlock).andThen d0 (λj h=>.inr h);obtain⟨w6,A0,A1,g5,k6,A2,r5⟩:=HA.out G wb vb z9 i4 (by simpa using d3);refine ay ⟨(be d0).mono (λb _ e=>.inr (p1 b e)),?_⟩;apply zH rfl;go_wp2_with (at_mapUpdate;refine zEo rfl _ _ _ 311 rfl (.map (B gm)) (.string x) vb rfl rfl rfl A0 ?_)
      apply zf k6;apply zW;go_wp2;go_roundw;case rel=>exact⟨_,o7,N+1,_,g5,by omega,A1,L7,A2,r5⟩
      case measure=>rw[g5.left_eq,m5.left_eq];exact i9
     .go_wp2_with fail;apply zp;apply zH rfl;go_wp2_with (at_lookup;refine zAw rfl _ _ 311 rfl (.map (B gm)) (.string x) v rfl rfl (b5 _ ((((ae No w0).alloc _).block gm L6 id).trans p0)) ?_)
      apply zq;apply zH rfl;go_wp2_with (at_builtin;refine cw _ rfl _ _ 22 rfl ((W1:E)+1) 3 j0 (.int C 0) 1 8 cq D5 D6 D7 D8 rfl (by decide) v _ _ rfl (g0.1.alloc _) ⟨w0,0,G⟩ 1 1 [.int C s] rfl rfl (cell_one_new _ _ _) (ints_oneCell _ [s]) (by unfold al;omega) (by omega) (by simp;omega) ?_;intro vb wb i4 d0 _ d3)
      have z9:=(cr w0 (P #[.int C s] 3) v.ownBlock).andThen d0 (λj h=>.inr h);obtain⟨w6,A0,A1,g5,k6,A2,r5⟩:=HA.out G wb vb z9 i4 (by simpa using d3);refine ay ⟨(be d0).mono (λb _ e=>.inr (p1 b e)),?_⟩;apply zH rfl;go_wp2_with (at_mapUpdate;refine zEo rfl _ _ _ 311 rfl (.map (B gm)) (.string x) vb rfl rfl rfl A0 ?_)
      apply zf k6;apply zW;go_wp2;go_roundw;case rel=>exact⟨_,o7,N+1,_,g5,by omega,A1,L7,A2,r5⟩
      case measure=>rw[g5.left_eq,m5.left_eq];exact i9
def soundA (m:Mem):Bool:=soundB m&&decide (m.l.length=1)
theorem zGT (h:soundA m=ai):soundB m=true:=by
 unfold soundA at h;rw[bg]at h;exact h.1
theorem zQF (p i:aa)(r s t e:M)(a:an ao)(l:af aa)(c:E)(w:aj):
  ap am 211 #[ah #[R p,R i,Q C r,Q C s,Q C t,Q C e,ac a l.length c]] w λI w'=>I=.returned (.bool (soundA ⟨p,i,r,s,t,e,a,l,c⟩))/\Fr No w w':=by
 have J:Fr No w (w.alloc (P #[R p,R i,Q C r,Q C s,Q C t,Q C e,ac a l.length c] 278)):=(ae _ _).alloc _;have N:=zLL p i r s t e (ac a l.length c) (w.alloc (P #[R p,R i,Q C r,Q C s,Q C t,Q C e,ac a l.length c] 278));obtain⟨h,o⟩:∃ h,h=soundA ⟨p,i,r,s,t,e,a,l,c⟩:=⟨_,rfl⟩
 rw[<-o];have y:a0 (h=((!p.toList.isEmpty&&(decide (1<=s)&&decide (s<=16))&&(decide (1<=t)&&decide (t<=16)))&&decide (l.length=1))):=o;clear o;have O:=zF w (P #[R p,R i,Q C r,Q C s,Q C t,Q C e,ac a l.length c] 278);have U:=zh J;clear J;go_enter co,Tryz.ntmps211;go_wp2_with fail;apply N.mono;rintro I V ⟨rfl,u⟩;have H:=zh (U.step u zi);have Z:V.cell? ⟨w,6,G⟩=B (ac a l.length c):=u.cell (zB O 6) id;clear u N O;obtain⟨b,A⟩:∃ b,b=(!p.toList.isEmpty&&(decide (1<=s)&&decide (s<=16))&&(decide (1<=t)&&decide (t<=16))):=⟨_,rfl⟩
 rw[<-A];have F:a0 (h=(b&&decide (l.length=1))):=by unfold a0;rw[y,A]
 clear A y;cases b with
 | false=>
  have z:a0 (h=ag):=by unfold a0;rw[F];rfl
  go_wp2;go_ret;exact⟨by rw[z];rfl,H⟩
 | true=>
  by_cases v:l.length=1
  .have X:((l.length:M)==1)=true:=by simp[v]
   have z:a0 (h=ai):=(by unfold a0;rw[F.out];simp[v]);have Y:=zh v;clear v;go_wp2;go_ret;exact⟨by rw[z];rfl,H⟩
  .have X:((l.length:M)==1)=false:=by simp;omega
   have z:a0 (h=ag):=(by unfold a0;rw[F.out];simp[v]);have Y:=zh v;clear v;go_wp2;go_ret;exact⟨by rw[z];rfl,H⟩
def hasS (l:af aa)(s:aa):Bool:=l.any λx=>x.toList==s.toList
def IdxS (l:af aa)(s:aa)(e:Ending):Prop:=∃ i:M,e=.returned (Q C i)/\decide (0<=i)=hasS l s
theorem zO9 {k:E}{x:aa}(h:l[k]?=B x)(o:(x.toList==s.toList)=ai):hasS l s=true:=by
 unfold hasS;rw[List.any_eq_true];exact⟨x,aw h,o⟩
theorem zO8 (h:∀ x∈l,(x.toList==s.toList)=ag):hasS l s=false:=by
 unfold hasS;rw[List.any_eq_false];intro x o;simp[h x o]
def sameT (l l':af aa):Bool:=decide (l.map (·.toList)=l'.map (·.toList))
theorem zJR (a a':an ao)(z v:E)(l l':af aa)(w:aj)(hl:Strs w a z l)(A:Strs w a' v l'):
  ap am 13 #[ac a l.length z,ac a' l'.length v] w λe w'=>e=.returned (.bool (sameT l l'))/\Fr No w w':=by
 have hm:=hl.lenmax;have a4:=A.lenmax;by_cases o:l.length=l'.length
 .have U:((l.length:M) != l'.length)=false:=by simp[o]
  have y:=zh o;clear o;go_enter cm,cp;go_wp2_with fail;go_loopw [5] (λi wr=>∃ k:E,k<=l.length/\i=Q C (k:M)/\a0 ((l.take k).map (·.toList)=(l'.take k).map (·.toList))/\Fr No w wr) (λi _=>l.length-(ak i).toNat);case atStart=>exact⟨0,by omega,rfl,by unfold a0;simp,ae _ _⟩
  case round=>
   obtain⟨k,hk,rfl,hp,hf⟩:=hrel;by_cases V:k<l.length
   .have a2:(k:M)<l.length:=(by omega);have a3:(k:M)<l'.length:=(by have:=y.out;omega);have F:k<l'.length:=(by omega);go_wp2_with fail;refine zO No [(0,ag),(1,ag),(2,ag),(3,ag),(4,ag),(5,ag),(6,ag),(7,ag),(8,ag)] (by kernel_rfl) (by kernel_rfl) (λw0 X=>?_);have u:=hf.step X zi;obtain⟨b,Y,x,rfl,hx,c0⟩:=(hl.no u (λ_=>id)).at V;obtain⟨b',I,x',rfl,J,c1⟩:=(A.no u (λ_=>id)).at F;have g0:∀ g:Gr No w0,g.W.cell? ⟨b,Y+k,G⟩=B (R x):=λg=>g.fr.cell c0 id
    have g1:∀ g:Gr No w0,g.W.cell? ⟨b',I+k,G⟩=B (R x'):=λg=>g.fr.cell c1 id
    have Hx:=zh hx;have N:=zh J;clear c0 c1 hx J;(repeat apply zR rfl rfl rfl;intro a5 hK;go_big_quiet_op;go_big_quiet_on);apply zb;rcases he:(x.toList==x'.toList)with _|_
    .have O:a0 (sameT l l'=ag):=by
      unfold a0 sameT;rw[ct];intro h;have Z:(l.map (·.toList))[k]?=(l'.map (·.toList))[k]?:=(by rw[h]);rw[bs,bs,Hx,N]at Z;simp at Z;rw[Z]at he;simp at he
     go_wp2;go_ret;exact⟨zL O.symm,u⟩
    .have He:=zh he;go_wp2;go_roundw;case rel=>
      refine⟨k+1,by omega,by go_num,?_,u⟩;unfold a0;rw[ar,ar,Hx,N,bc,bc,hp];have:=He.out;simp at this;simp[this]
     case measure=>simp[ak];omega
   .obtain rfl:k=l.length:=by omega
    have O:a0 (sameT l l'=ai):=by
     unfold a0 sameT;have h:=hp.out;rw[ax,y,ax]at h
     simpa using h
    go_wp2;go_ret;exact⟨zL O.symm,hf⟩
 .have U:((l.length:M) != l'.length)=true:=by simp;omega
  have O:a0 (sameT l l'=ag):=by
   unfold a0 sameT;rw[ct];intro h;have:=bb c9 h;simp at this;exact o this
  clear o;go_enter cm,cp;go_wp2;go_ret;exact⟨zL O.symm,ae _ _⟩
theorem zPY (a:an ao)(o:E)(L:af Mem)(z:M)(w:aj)(F:Mems w a o L)(I:MemSmall2 L)(u:w.cell? ⟨3,0,G⟩=B (Q C z))(v:3<(w:E)):
  ap am 160 #[ac a L.length o] w λe w'=>ArrRes w (zl soundA L) e w'/\Fr No w w':=by
 have h:=zIm 211 soundA (enters_of co (by kernel_rfl) rfl) zQF (λm h=>zGT h) a o L z w F I u v;go_enter Tryz.func160,Tryz.ntmps160;go_wp2_with fail;apply h.mono;rintro e U ⟨⟨J,N,O,y,rfl,r⟩,A⟩;have H:=zg2 r A;clear r A h;go_wp2;go_ret;exact⟨⟨J,N,O,y,rfl,H.1⟩,H.2⟩
theorem zOF (a:an ao)(o:E)(L:af Mem)(z:M)(w:aj)(F:Mems w a o L)(I:MemSmall2 L)(u:w.cell? ⟨3,0,G⟩=B (Q C z))(v:3<(w:E)):
  ap am 169 #[ac a L.length o] w λe w'=>ArrRes w (zl soundB L) e w'/\Fr No w w':=by
 have h:=zIm 217 soundB (enters_of Tryz.func217 (by kernel_rfl) rfl) (λp i r s t e a l c w=>zPe p i r s t e _ w) (λm h=>h) a o L z w F I u v;go_enter Tryz.func169,Tryz.ntmps169;go_wp2_with fail;apply h.mono;rintro e U ⟨⟨J,N,O,y,rfl,r⟩,A⟩;have H:=zg2 r A;clear r A h;go_wp2;go_ret;exact⟨⟨J,N,O,y,rfl,H.1⟩,H.2⟩
def openT : aa:=⟨#[111,112,101,110,45]⟩
def zIj (L:af Mem)(x:aa):aa:=((best L (kb x)).getD Mem.zero).l.headD ⟨#[]⟩
def virOf (L:af Mem)(r:M)(x:aa):Vir:=⟨(),openT++x,zIj L x,r⟩
def opened (ids K:af aa):af aa:=ids.filter (hasS K)
theorem AscS.nodup (h:AscS (l.map kb)):l.Nodup:=by
 have o:=List.pairwise_map.1 h;exact o.imp (fun {a b} h e=>h.2 (by rw[e]))
def mapM (g:af UInt8->an Mem):af UInt8->an ba:=λx=>(g x).map Mem.v
theorem zIc (g:af UInt8->an Mem)(x:af UInt8)(m:Mem):updS (mapM g) x m.v=mapM (λy=>if y=x then B m else g y):=by
 funext y
 unfold updS mapM;by_cases h:y=x<;>simp[h]
def zCJ : ba:=ah #[R (),R (),Q C 0,Q C 0,Q C 0,Q C 0,ac G 0 0]
theorem zeroM (w:aj):(zeroValue 278).run am w=.ok zCJ w:=by kernel_rfl
structure MemSmall (L:af Mem):Prop where
 len:L.length<=1000
 p:∀ m∈L,m.p.size<=1000000
 i:∀ m∈L,m.i.size<=1000000
 l:∀ m∈L,m.l.length<=1000000
def OwnRes (w:aj)(L:af Mem)(e:Ending)(w':aj):Prop:=
 ∃ (a':an ao) (c':E) (O:af Mem) (ids:af aa),e=.returned (ac a' O.length c')/\Mems w' a' c' O/\(∀ ad,a'=B ad->(w:E)<=ad.block)/\MFresh w' (w:E) O/\IsIds L ids/\O.map au=own1 L ids/\ids.length<=L.length
theorem zNN (a:an ao)(e6:E)(L:af Mem)(m0:M)(w:aj)(hl:Mems w a e6 L)(hb:MemSmall L)(j7:w.cell? ⟨3,0,G⟩=B (Q C m0))(m1:3<(w:E)):
  ap am 216 #[ac a L.length e6] w λe w'=>OwnRes w L e w'/\Fr No w w':=by
 obtain⟨i0,j8,j9,k0,k3⟩:=bo infoM;have m2:=hb.len;have k4:=@run_makeMap am;have hx:Fr No w (w.alloc (.map #[] 0)):=(ae _ _).alloc _;have k5:=VMap.made w;have k6:(w:E)<(w.alloc (.map #[] 0)).heap.size:=by simp
 have g7:∀ W:aj,Fr (From (w:E)) w W->Mems W a e6 L:=λW hf=>hl.keep hf (λb hb h=>by omega)
 have g8:=zh g7;have Hb:=zh hb;clear g7 hb hl;go_enter Tryz.func216,Tryz.ntmps216;go_wp2_with fail;clear k4;generalize w.alloc (.map #[] 0)=W0 at *;go_loopw [16] (λi wr=>∃ k:E,k<=L.length/\i=Q C (k:M)/\VMap wr (w:E) (mapM (best (L.take k))) k/\Fr (From (w:E)) w wr/\(w:E)<(wr:E)) (λi _=>L.length-(ak i).toNat);case atStart=>exact⟨0,by omega,rfl,by exact k5,hx.mono zn,k6⟩
 case round=>
  obtain⟨k,hk,rfl,hI,X,m3⟩:=hrel;by_cases e7:k<L.length
  .have g9:(k:M)<L.length:=by omega
   obtain⟨b,k7,m,rfl,e8,k8,k9,m4⟩:=(g8 _ X).elem e7;have Y:=aw e8;have d4:a0 (L.take (k+1)=L.take k++[m]):=(by unfold a0;rw[ar,e8];rfl);have h0:=Hb.p m Y;have b5:m.i.size<=maxLen:=(by have:=Hb.i m Y;unfold al;omega);have h3:wr.cell? ⟨3,0,G⟩=B (Q C m0):=X.cell j7 (by show ¬ From (w:E) 3;omega);obtain⟨mp,y,mr,ms,mt,me,ma,Z,mc⟩:=m;obtain⟨c0,c1,c2,c3,c4,c5,c6⟩:=k9;simp only at c0 c1 c2 c3 c4 c5 c6 h0 b5;clear e8 k8 Y;by_cases b6:Z.length=1
   .have l0:((Z.length:M) != 1)=false:=(by simp[b6]);have h4:=zh b6;clear b6;have u:Fr No wr (wr.alloc (P #[R mp,R y,Q C mr,Q C ms,Q C mt,Q C me,ac ma Z.length mc] 278)):=(ae _ _).alloc _;have q1:=zF wr (P #[R mp,R y,Q C mr,Q C ms,Q C mt,Q C me,ac ma Z.length mc] 278);have b0:=hI.fr u id;clear hI;rcases hg:best (L.take k) (kb y)with _|o
    .have hv:(mapM (best (L.take k)) (kb y)).getD zCJ=ah #[R (),R (),Q C 0,Q C 0,Q C 0,Q C 0,ac G 0 0]:=(by unfold mapM;rw[hg];rfl);have b7:(mapM (best (L.take k)) (kb y)).isSome=false:=(by unfold mapM;rw[hg];rfl);have Hg:a0 (∀ o,best (L.take k) (kb y)=B o->ahead ⟨mp,y,mr,ms,mt,me,ma,Z,mc⟩ o=ai):=λo ho=>by rw[hg]at ho;cases ho
     clear hg;go_upto_region 8 with(at_lookup;refine zBx rfl _ _ 313 278 zCJ (zeroM _) rfl bm (w:E) _ k y b5 rfl b0 rfl (ah #[R (),R (),Q C 0,Q C 0,Q C 0,Q C 0,ac G 0 0]) hv ag b7 ?_)
     have a2:Fr No wr ((wr.alloc (P #[R mp,R y,Q C mr,Q C ms,Q C mt,Q C me,ac ma Z.length mc] 278)).alloc (P #[R (),R (),Q C 0,Q C 0,Q C 0,Q C 0,ac G 0 0] 278)):=u.alloc _;have q2:=zP wr (P #[R mp,R y,Q C mr,Q C ms,Q C mt,Q C me,ac ma Z.length mc] 278) (P #[R (),R (),Q C 0,Q C 0,Q C 0,Q C 0,ac G 0 0] 278);have b1:=b0.fr ((ae No _).alloc (P #[R (),R (),Q C 0,Q C 0,Q C 0,Q C 0,ac G 0 0] 278)) id;clear b0 hv b7 c0 c1 c2 c3 c4 c5 c6 q1 u;generalize (wr.alloc (P #[R mp,R y,Q C mr,Q C ms,Q C mt,Q C me,ac ma Z.length mc] 278)).alloc (P #[R (),R (),Q C 0,Q C 0,Q C 0,Q C 0,ac G 0 0] 278)=W2 at *;obtain⟨y0,y1,y2,y3,y4,y5,y6⟩:=cl7 q2;have b2:=zh (X.step a2 zn);have h5:=a2.size;clear q2 a2 X;go_wp2_with (at_mapUpdate;refine zCK rfl _ _ _ 313 278 rfl bm (w:E) _ k (by unfold al;omega) y b5 (ah #[R mp,R y,Q C mr,Q C ms,Q C mt,Q C me,ac ma Z.length mc]) rfl b1 rfl rfl ?_;intro w4 b8 a6)
     have a3:VMap w4 (w:E) (mapM (best (L.take (k+1)))) (k+1):=(by rw[d4,zA3,zFM h4.out Hg.out,<-zIc];exact b8);have H:=zg3 a3 (b2.step a6 (λb hb e=>by omega)) a6.size;clear b8 a3 a6;go_roundw;case rel=>exact⟨k+1,by omega,by go_num,H.1,H.2.1,by have:=H.2.2;omega⟩
     case measure=>simp[ak];omega
    .obtain⟨F,N,I,os,U,V,oa,z,oc⟩:=o;have hv:(mapM (best (L.take k)) (kb y)).getD zCJ=ah #[R F,R N,Q C I,Q C os,Q C U,Q C V,ac oa z.length oc]:=(by unfold mapM;rw[hg];rfl);have b7:(mapM (best (L.take k)) (kb y)).isSome=true:=(by unfold mapM;rw[hg];rfl);have h6:=Hb.p _ (cl (zC0 _ _ _ hg).1);simp only at h6;have Hg:=zh hg;clear hg;go_upto_region 8 with(at_lookup;refine zBx rfl _ _ 313 278 zCJ (zeroM _) rfl bm (w:E) _ k y b5 rfl b0 rfl (ah #[R F,R N,Q C I,Q C os,Q C U,Q C V,ac oa z.length oc]) hv ai b7 ?_)
     have a2:Fr No wr ((wr.alloc (P #[R mp,R y,Q C mr,Q C ms,Q C mt,Q C me,ac ma Z.length mc] 278)).alloc (P #[R F,R N,Q C I,Q C os,Q C U,Q C V,ac oa z.length oc] 278)):=u.alloc _;have q2:=zP wr (P #[R mp,R y,Q C mr,Q C ms,Q C mt,Q C me,ac ma Z.length mc] 278) (P #[R F,R N,Q C I,Q C os,Q C U,Q C V,ac oa z.length oc] 278);have q3:=zS wr (P #[R mp,R y,Q C mr,Q C ms,Q C mt,Q C me,ac ma Z.length mc] 278) (P #[R F,R N,Q C I,Q C os,Q C U,Q C V,ac oa z.length oc] 278);have b1:=b0.fr ((ae No _).alloc (P #[R F,R N,Q C I,Q C os,Q C U,Q C V,ac oa z.length oc] 278)) id;clear b0 hv b7 c0 c1 c2 c3 c4 c5 c6 q1 u;generalize (wr.alloc (P #[R mp,R y,Q C mr,Q C ms,Q C mt,Q C me,ac ma Z.length mc] 278)).alloc (P #[R F,R N,Q C I,Q C os,Q C U,Q C V,ac oa z.length oc] 278)=W2 at *;obtain⟨z0,z1,z2,z3,z4,z5,z6⟩:=cl7 q3;have h7:=a2.cell h3 id;have b2:=zh (X.step a2 zn);have h5:=a2.size;clear q3 a2 X h3;go_wp2_with fail;apply (zOz mp y F N mr ms mt me I os U V _ _ m0 _ h0 h6 h7).mono;rintro en w3 ⟨rfl,b9⟩;have q4:=b9.heap q2 id;have b3:=b1.fr b9 id;have h8:=zh (b2.step b9 zn);have h9:=b9.size;clear z0 z1 z2 z3 z4 z5 z6 b9 q2 h7 b1;rcases ha:aheadB mp mr F I with _|_
     .have a3:VMap w3 (w:E) (mapM (best (L.take (k+1)))) k:=(by rw[d4,zA3,zJw (m:=⟨mp,y,mr,ms,mt,me,ma,Z,mc⟩) (o:=⟨F,N,I,os,U,V,oa,z,oc⟩) Hg ha];exact b3);have H:=zg2 a3 h8;clear a3 b3 q4;go_wp2;go_roundw;case rel=>exact⟨k+1,by omega,by go_num,H.1.mono (by omega),H.2,by omega⟩
      case measure=>simp[ak];omega
     .have l1:a0 (∀ o,best (L.take k) (kb y)=B o->ahead ⟨mp,y,mr,ms,mt,me,ma,Z,mc⟩ o=ai):=λo ho=>by rw[Hg.out]at ho;cases ho;exact ha
      obtain⟨y0,y1,y2,y3,y4,y5,y6⟩:=cl7 q4;clear q4 ha;go_wp2_with (at_mapUpdate;refine zCK rfl _ _ _ 313 278 rfl bm (w:E) _ k (by unfold al;omega) y b5 (ah #[R mp,R y,Q C mr,Q C ms,Q C mt,Q C me,ac ma Z.length mc]) rfl b3 rfl rfl ?_;intro w4 b8 a6)
      have a3:VMap w4 (w:E) (mapM (best (L.take (k+1)))) (k+1):=(by rw[d4,zA3,zFM h4.out l1.out,<-zIc];exact b8);have H:=zg3 a3 (h8.step a6 (λb hb e=>by omega)) a6.size;clear b8 a3 a6;go_roundw;case rel=>exact⟨k+1,by omega,by go_num,H.1,H.2.1,by have:=H.2.2;omega⟩
      case measure=>simp[ak];omega
   .have l0:((Z.length:M) != 1)=true:=(by simp;omega);have u:Fr No wr (wr.alloc (P #[R mp,R y,Q C mr,Q C ms,Q C mt,Q C me,ac ma Z.length mc] 278)):=(ae _ _).alloc _;have b4:VMap (wr.alloc (P #[R mp,R y,Q C mr,Q C ms,Q C mt,Q C me,ac ma Z.length mc] 278)) (w:E) (mapM (best (L.take (k+1)))) k:=(by rw[d4,zA3,zJv b6];exact hI.fr u id);have H:=zg3 b4 (X.step u zn) u.size;clear b4 hI u X b6;go_wp2;go_roundw;case rel=>exact⟨k+1,by omega,by go_num,H.1.mono (by omega),H.2.1,by have:=H.2.2;omega⟩
    case measure=>simp[ak];omega
  .obtain rfl:k=L.length:=by omega
   rw[ax]at hI;go_wp2_with fail;apply (zPy _ _).mono;rintro en w1 ⟨rfl,rfl⟩;have u:Fr No wr (wr.alloc (P #[.map (B (w:E))] 313)):=(ae _ _).alloc _;have q1:=zF wr (P #[.map (B (w:E))] 313);have l2:(wr:E)<(wr.alloc (P #[.map (B (w:E))] 313)).heap.size:=(by simp);have b4:=hI.fr u id;have i3:=zh (X.step u zn);clear hI X u;go_wp2_with fail;generalize wr.alloc (P #[.map (B (w:E))] 313)=W1 at *;apply (zMo (w:E) (wr:E) _ L.length W1 b4 (by omega) (zB q1 0) l2).mono;rintro en w2 ⟨⟨ia,ic,J,rfl,hS,d9,Y,l3,A⟩,d5⟩;have e0:IsIds L J:=⟨d9,λx=>by rw[Y];unfold mapM;rw[Option.isSome_map]⟩
   have b1:=b4.fr d5 id;have b2:=zh (i3.step d5 zn);have h5:=d5.size;have e1:=zh e0;have m5:=hS.lenmax;clear q1 b4 d5 d9 Y e0 A;go_wp2_with fail;go_loopw [9,50] (λv i wr=>∃ (j:E) (O:af Mem) (av:an ao) (cv:E),j<=J.length/\O.length<=j/\v=ac av O.length cv/\i=Q C (j:M)/\wr.ownsRow (w2:E) 278 7 (ac av O.length cv) O.length (mflat O)/\MFresh wr (w2:E) O/\a0 (O.map au=own1 L (J.take j))/\Fr (From (w2:E)) w2 wr) (λ_ i _=>J.length-(ak i).toNat);case atStart=>exact⟨0,[],G,0,by omega,by simp,rfl,rfl,cf _ _ _ _,λm hm=>by simp at hm,by unfold a0 own1;simp,ae _ _⟩
   case round=>
    obtain⟨j,O,av,cv,hj,m6,rfl,rfl,a4,d0,HO,hf⟩:=hrel;by_cases e7:j<J.length
    .have g9:(j:M)<J.length:=(by omega);obtain⟨b,k7,x,rfl,e9,hc⟩:=(hS.keep hf (λb hb h=>by omega)).at e7;have i4:=aw e9;have l4:a0 (J.take (j+1)=J.take j++[x]):=(by unfold a0;rw[ar,e9];rfl);obtain⟨o,ho⟩:=Option.isSome_iff_exists.1 ((e1.mem x).1 i4);obtain⟨g0,d1,i5⟩:=zC0 _ _ _ ho;have i6:=Hb.i o g0;have i7:=zGm i5;have l5:x.size<=maxLen:=(by rw[<-i7];unfold al;omega);have g1:=b2.trans hf (λb hb h=>h) (λb hb h=>by unfold From at h ⊢;omega);have g2:=(g8 _ g1).ok o g0;have hv:(mapM (best L) (kb x)).getD zCJ=o.v:=(by unfold mapM;rw[ho];rfl);have b3:=b1.fr hf (by omega);have m7:=zh g1;have Ho:=zh ho;clear ho g0 i6 i7 i5 i4 e9 g1;obtain⟨F,N,I,os,U,V,oa,z,oc⟩:=o;simp only at g2 d1;unfold Mem.v bu at hv;simp only at hv;have i8:z.length<=1000000:=(by omega);have d6:Fr No wr (wr.alloc (P #[R F,R N,Q C I,Q C os,Q C U,Q C V,ac oa z.length oc] 278)):=(ae _ _).alloc _;have q3:=zF wr (P #[R F,R N,Q C I,Q C os,Q C U,Q C V,ac oa z.length oc] 278);have e2:=g2.no d6 (λ_=>id);have l8:=zh d1;clear g2 d1;go_upto_region 16 with(at_lookup;refine zN7 rfl _ _ 313 278 zCJ (zeroM _) rfl bm (w:E) _ _ x l5 rfl b3 rfl (ah #[R F,R N,Q C I,Q C os,Q C U,Q C V,ac oa z.length oc]) hv ?_)
     generalize wr.alloc (P #[R F,R N,Q C I,Q C os,Q C U,Q C V,ac oa z.length oc] 278)=W3 at *;have z6:W3.cell? ⟨wr,6,G⟩=B (ac oa z.length oc):=zB q3 6;clear b3 hv hc;go_wp2_with fail;apply (zAu oa oc z W3 e2 i8).mono;rintro en w4 ⟨⟨a1,c1,rfl,i9,j0,d7⟩,g3⟩;have q4:=g3.heap q3 id;have z7:w4.frozen? ⟨wr,6,G⟩=false:=zD q4 6;have z8:w4.cell? ⟨wr,6,G⟩=B (ac oa z.length oc):=zB q4 6;have q5:=zE q4 6 (ac a1 z.length c1);have h9:=d6.size;have m8:=zC q3;have e3:Fr No wr w4:=d6.step g3 zi;have d8:Fr (Is (wr:E)) w4 (w4.setCell ⟨wr,6,G⟩ (ac a1 z.length c1)):=br (S:=Is (wr:E)) (p:=⟨wr,6,G⟩) (ae _ _) (λ_=>rfl) _;clear z6 q3 q4 e2;go_upto_region 17 with(fail)
     generalize w4.setCell ⟨wr,6,G⟩ (ac a1 z.length c1)=W5 at *;have a5:Fr (λb=>(wr:E)<=b) wr W5:=(e3.mono zn).step d8 (λb _ h=>by omega);have a7:=zG a4 a5 (λb hb h=>by have h1:=zZ a4 hb;omega);have e4:=d0.fr a5 (λb _ h1 h2=>by omega);have j1:=i9.fr d8 (λad e _ h=>by have:=d7 ad e;omega);have j2:=j0.fr d8 (λad e h=>by have:=d7 ad e;omega);simp at q5;obtain⟨y0,y1,y2,y3,y4,y5,y6⟩:=cl7 q5;have m9:=a5.size;have l9:=hf.size;have j3:=zh a5;have g4:=zg3 j1 j2 d7;have g5:=zh a7;have j4:=zh e4;clear z7 z8 q5 d8 e3 d6 g3 i9 j0 d7 a4 d0 a5 j1 j2 e4;go_wp2_with (at_builtin;refine cg _ rfl _ _ 225 rfl (w2:E) 278 i0 (ah #[R aq,R aq,Q C 0,Q C 0,Q C 0,Q C 0,ac G 0 0]) 7 88 Tryz.underlying225 j8 j9 k0 k3 rfl (by decide) _ _ _ rfl (a7.alloc _) ⟨W5,0,G⟩ 1 1 (bu ⟨F,N,I,os,U,V,a1,z,c1⟩).toList rfl rfl (ze _ (bu ⟨F,N,I,os,U,V,a1,z,c1⟩) _ rfl) (zCh _) (by unfold al;omega) (by omega) (by first|omega|(simp;done)|(simp;omega)) ?_;intro v' w6 a8 a9 _;obtain⟨l6,l7,rfl⟩:=zJ a8)
     have d2:Fr No W5 (W5.alloc (P #[R F,R N,Q C I,Q C os,Q C U,Q C V,ac a1 z.length c1] 278)):=(ae _ _).alloc _;have d3:=g5.alloc (P #[R F,R N,Q C I,Q C os,Q C U,Q C V,ac a1 z.length c1] 278);have g6:Fr (λb=>(az av O.length cv).ownBlock=B b) (W5.alloc (P #[R F,R N,Q C I,Q C os,Q C U,Q C V,ac a1 z.length c1] 278)) w6:=be a9;have e5:MFresh w6 (w2:E) (O++[⟨F,N,I,os,U,V,a1,z,c1⟩]):=by
      refine MFresh.own (MFresh.snoc (j4.fr d2 (λ_ _ _=>id)) (g4.1.no d2 (λ_=>id)) (g4.2.1.fr d2 (λ_ _=>id)) (λad e=>?_)) d3 g6;have:=g4.2.2 ad e;omega
     have j5:(O++[(⟨F,N,I,os,U,V,a1,z,c1⟩:Mem)]).map au=own1 L (J.take (j+1)):=by
      rw[l4];unfold own1;rw[bc,bc,HO]
      congr 1
      simp only[cj,ck,Ho.out,cc];rfl
     have j6:Fr (From (w2:E)) w2 w6:=((hf.step j3 (λb _ h=>by omega)).step d2 zn).step g6 (λb _ h=>zQ d3 h);have HF:=zg4 a8 e5 j5 j6;clear a8 e5 j5 j6 a9 g6 d3 d2 y0 y1 y2 y3 y4 y5 y6 a7 hf;go_roundw;case rel=>exact⟨j+1,O++[⟨F,N,I,os,U,V,a1,z,c1⟩],l6,l7,by omega,by simp;omega,by simp,by go_num,by rw[bi,zCB];exact HF.1,HF.2.1,zh HF.2.2.1,HF.2.2.2⟩
     case measure=>simp[ak];omega
    .obtain rfl:j=J.length:=by omega
     obtain⟨a',c',hv,hR,A⟩:=Mems.of_own a4 (λm hm=>(d0 m hm).1);cases hv;have ho:=HO.out;rw[ax]at ho;have h9:=i3.size;have n3:=hf.size;have H:=zg5 hR A d0 ho ((b2.trans hf (λb hb h=>h) (λb hb h=>by unfold From at h ⊢;omega)).mono (T:=No) (λb hb h=>by omega));clear a4 d0 HO hf hR A ho;go_wp2;go_ret;exact⟨⟨_,_,O,J,rfl,H.1,λad e=>by have:=H.2.1 ad e;omega,λm hm=>⟨(H.2.2.1 m hm).1,(H.2.2.1 m hm).2.1,λad e=>by have:=(H.2.2.1 m hm).2.2 ad e;omega⟩,e1,H.2.2.2.1,l3⟩,H.2.2.2.2⟩
def KSet (w:aj)(mb:E)(K:af aa)(N:E):Prop:=VMap w mb (λx=>if hasS K (bk x)=ai then B (ah #[])else G) N
theorem KSet.fr {S:E->Prop}{w w':aj}{o:E}{N:E}(h:KSet w o u N)(v:Fr S w w')(y:¬ S o):KSet w' o u N:=VMap.fr h v y
theorem zMt (o:af aa)(x:aa):updS (λx=>if hasS o (bk x)=ai then B (ah #[])else G) (kb x) (ah #[])=λy=>if hasS (o++[x]) (bk y)=ai then B (ah #[])else none:=by
 funext y
 unfold updS;have e:hasS (o++[x]) (bk y)=(hasS o (bk y)||decide (y=kb x)):=by
  unfold hasS;rw[List.any_append];simp only[List.any_cons,List.any_nil,Bool.or_false]
  congr 1
  rw[strEq,decide_eq_decide];constructor;·intro h;rw[h,zJi]
  .intro h;rw[h,zF7]
 rw[e];by_cases h:y=kb x;·simp[h]
 .simp[h]
theorem zeroE (w:aj):(zeroValue 285).run am w=.ok (ah #[]) w:=by kernel_rfl
theorem zO1 (a:an ao)(A:E)(o:af aa)(w:aj)(Z:Strs w a A o)(J:o.length<=1000000)(hs:∀ x∈o,x.size<=al):
  ap am 215 #[ac a o.length A] w λe w'=>(∃ N,e=.returned (.map (B N))/\KSet w' N o o.length/\(w:E)<=N)/\Fr No w w':=by
 have O:=@run_makeMap am;have hx:Fr No w (w.alloc (.map #[] 0)):=(ae _ _).alloc _;have U:=VMap.made w;have a3:=Z.no hx (λ_=>id);have a4:(w:E)<(w.alloc (.map #[] 0)).heap.size:=by simp
 go_enter Tryz.func215,Tryz.ntmps215;go_wp2_with fail;clear O;generalize w.alloc (.map #[] 0)=W0 at *;go_loopw [9] (λi wr=>∃ k:E,k<=o.length/\i=Q C (k:M)/\KSet wr (w:E) (o.take k) k/\Fr (From (w:E)) w wr) (λi _=>o.length-(ak i).toNat);case atStart=>exact⟨0,by omega,rfl,by unfold KSet;simpa [hasS]using U,hx.mono zn⟩
 case round=>
  obtain⟨k,hk,rfl,z,u⟩:=hrel;by_cases V:k<o.length
  .have a2:(k:M)<o.length:=by omega
   obtain⟨b,a5,x,rfl,v,hc⟩:=(Z.keep u (λb J h=>by omega)).at V;have X:=hs x (aw v);have Y:a0 (o.take (k+1)=o.take k++[x]):=(by unfold a0;rw[ar,v];rfl);clear v;unfold KSet at z;go_wp2_with (at_mapUpdate;refine zCK rfl _ _ _ 282 285 rfl cd (w:E) _ k (by unfold al;omega) x X (ah #[]) rfl z rfl rfl ?_;intro w1 y F)
   rw[zMt,<-Y]at y;have I:Fr (From (w:E)) w w1:=u.step F (λb J e=>by omega);have H:=zg2 y I;clear y I F z u;go_roundw;case rel=>exact⟨k+1,by omega,by go_num,H.1,H.2⟩
   case measure=>simp[ak];omega
  .obtain rfl:k=o.length:=by omega
   rw[ax]at z;have H:=zg2 z (u.mono (T:=No) (λb J h=>by omega));clear z u;go_wp2;go_ret;exact⟨⟨_,rfl,H.1,cb _⟩,H.2⟩
theorem zPu {O:af Mem}(v:IsIds L u)(h:O.map au=own1 L u)(N:O[j]?=B m):
  ∃ o,u[j]?=B m.i/\best L (kb m.i)=B o/\m.k=o.k/\m.l=o.l/\m.l.length=1/\o∈L:=by
 have A:(O.map au)[j]?=B m.k:=by rw[bs,N];rfl
 rw[h,own1,bs]at A;obtain⟨x,F,y⟩:=Option.map_eq_some_iff.1 A;obtain⟨o,z⟩:=Option.isSome_iff_exists.1 ((v.mem x).1 (aw F));obtain⟨U,V,X⟩:=zC0 _ _ _ z;rw[z,cc]at y;have Y:m.i=o.i:=(bb Mem.i y).symm;have I:m.l=o.l:=(bb Mem.l y).symm;have J:m.i=x:=by rw[Y];exact zGm X
 refine⟨o,by rw[J];exact F,by rw[J];exact z,y.symm,I,by rw[I];exact V,U⟩
theorem zOo {O:af Mem}(h:O.map au=own1 L o):O.length=o.length:=by
 have:=bb c9 h
 simpa [own1]using this
theorem zEA (h o:af aa)(x:aa):opened (h++[x]) o=opened h o++(if hasS o x=ai then [x]else []):=by
 unfold opened;rw[List.filter_append]
 congr 1
 rw[List.filter_cons];split<;>rfl
def zPb (w:aj)(L:af Mem)(K:af aa)(r:M)(e:Ending)(w':aj):Prop:=
 ∃ (a':an ao) (c':E) (V:af Vir) (ids:af aa),e=.returned (ac a' V.length c')/\Virs w' a' c' V/\(∀ ad,a'=B ad->(w:E)<=ad.block)/\IsIds L ids/\V=(opened ids K).map (virOf L r)/\ids.length<=L.length
theorem zNy (a:an ao)(b1:E)(L:af Mem)(ka:an ao)(kc:E)(I:af aa)(r:M)(m0:M)(w:aj)(hl:Mems w a b1 L)(hb:MemSmall L)(hk:Strs w ka kc I)(e6:I.length<=1000000)(d0:∀ x∈I,x.size<=al)
  (d1:w.cell? ⟨3,0,G⟩=B (Q C m0)) (i3:3<(w:E)):
  ap am 167 #[ac a L.length b1,ac ka I.length kc,Q C r] w λe w'=>zPb w L I r e w'/\Fr No w w':=by
 obtain⟨i0,e7,e8,e9,g0⟩:=bo infoV;have i4:=hb.len;have Hb:=zh hb;clear hb;go_enter Tryz.func167,Tryz.ntmps167;go_wp2_with fail;apply (zO1 ka kc I w hk e6 d0).mono;rintro e w1 ⟨⟨mb,rfl,b2,i5⟩,a2⟩;have d2:=hl.no a2 (λ_=>id);have F:=a2.cell d1 id;have i6:=a2.size;have g2:=zh a2;have h8:mb<(w1:E):=VMap.lt b2;clear hk d0 hl d1 a2;go_wp2_with fail;apply (zNN a b1 L m0 w1 d2 Hb F (by omega)).mono;rintro e w2 ⟨⟨oa,oc,O,Z,rfl,hO,g3,d3,a8,ho,g4⟩,a6⟩;have g5:=zOo ho;have i7:=a6.size;have g7:=b2.fr a6 id;have d4:=zh (g2.step a6 zi);have a9:=zh a8;have Ho:=zh ho;have i8:=zh d3;have i9:=hO.lenmax;clear d2 F a6 b2 a8 ho d3 g3;go_wp2_with fail;go_loopw [8,18] (λv i wr=>∃ (j:E) (V:af Vir) (av:an ao) (cv:E),j<=O.length/\V.length<=j/\v=ac av V.length cv/\i=Q C (j:M)/\wr.ownsRow (w2:E) 90 4 (ac av V.length cv) V.length (vflat V)/\a0 (V=(opened (Z.take j) I).map (virOf L r))/\Fr (From (w2:E)) w2 wr) (λ_ i _=>O.length-(ak i).toNat);case atStart=>exact⟨0,[],G,0,by omega,by simp,rfl,rfl,cf _ _ _ _,by unfold a0;simp[opened],ae _ _⟩
 case round=>
  obtain⟨j,V,av,cv,hj,j0,rfl,rfl,u,HV,hf⟩:=hrel;have j1:=hf.size;by_cases g8:j<O.length
  .have h9:(j:M)<O.length:=by omega
   obtain⟨b,j2,m,rfl,b3,d5,g9,j3⟩:=(hO.keep hf (λb hb h=>by omega)).elem g8;obtain⟨o,d6,J,d7,d8,F,d9⟩:=zPu a9 Ho b3;have b4:∀ ad,m.a=B ad->ad.block<(w2:E):=λad e=>((hO.ok m (aw b3)).cell ad e (by intro e;rw[e]at F;cases F)).2.1
   have h0:m.i.size<=1000000:=(by have h1:=Hb.i o d9;have h2:=bb Mem.i d7;have h3:m.i=o.i:=h2;rw[h3];exact h1);have b5:m.i.size<=maxLen:=(by unfold al;omega);have b6:a0 (Z.take (j+1)=Z.take j++[m.i]):=(by unfold a0;rw[ar,d6];rfl);have h4:=g7.fr hf (by omega);have b0:=d5.at (k:=0) (by omega);have e0:a0 (∀ c,m.l[0]?=B c->virOf L r m.i=⟨(),openT++m.i,c,r⟩):=λc hc=>by
    unfold virOf zIj;rw[J,cc,<-d8]
    congr 1
    rcases hll:m.l with _|⟨d,t⟩
    .rw[hll]at hc;cases hc
    .rw[hll]at hc;simpa using hc
   have e1:(0:M)<m.l.length:=(by omega);clear b3 d6 J d7 d8 d9 d5;obtain⟨mp,z,mr,ms,mt,me,ma,ml,mc⟩:=m;obtain⟨c0,c1,c2,c3,c4,c5,c6⟩:=g9;simp only at c0 c1 c2 c3 c4 c5 c6 h0 b5 b0 e1 F b4;obtain⟨ib,io,c,rfl,hc,b7⟩:=b0;rw[Nat.add_zero]at b7;have e2:=b4 _ rfl;simp only at e2;clear b4;have Hc:=zh (e0 c hc);have j4:=zh F;clear hc e0 F;simp only at Hc b6;have a3:Fr No wr (wr.alloc (P #[R mp,R z,Q C mr,Q C ms,Q C mt,Q C me,ac (B ⟨ib,io,G⟩) ml.length mc] 278)):=(ae _ _).alloc _;have a7:=h4.fr a3 id;unfold KSet at a7;have hv:((λx=>if hasS I (bk x)=ai then B (ce #[])else G) (kb z)).getD (ah #[])=ah #[]:=by
    simp only[zF7];cases hasS I z<;>rfl
   rcases hh:hasS I z with _|_
   .have J:((λx=>if hasS I (bk x)=ai then B (ce #[])else G) (kb z)).isSome=false:=(by simp only[zF7,hh];rfl);have A:Fr No wr ((wr.alloc (P #[R mp,R z,Q C mr,Q C ms,Q C mt,Q C me,ac (B ⟨ib,io,G⟩) ml.length mc] 278)).alloc (P #[] 285)):=a3.alloc _;have y:=zG u A zi;have b8:a0 (V=(opened (Z.take (j+1)) I).map (virOf L r)):=(by unfold a0;rw[b6.out,zEA,hh];simpa using HV.out);have HF:=zg2 y (hf.step A zn);clear y u A a3 hf hh HV;go_wp2_with (at_lookup;refine zBx rfl _ _ 282 285 (ah #[]) (zeroE _) rfl cd mb _ _ z b5 rfl a7 rfl (ah #[]) hv ag J ?_)
    go_roundw;case rel=>exact⟨j+1,V,av,cv,by omega,by omega,rfl,by go_num,HF.1,b8,HF.2⟩
    case measure=>simp[ak];omega
   .have J:((λx=>if hasS I (bk x)=ai then B (ce #[])else G) (kb z)).isSome=true:=(by simp only[zF7,hh];rfl);have A:Fr No wr ((wr.alloc (P #[R mp,R z,Q C mr,Q C ms,Q C mt,Q C me,ac (B ⟨ib,io,G⟩) ml.length mc] 278)).alloc (P #[] 285)):=a3.alloc _;have q1:=zP wr (P #[R mp,R z,Q C mr,Q C ms,Q C mt,Q C me,ac (B ⟨ib,io,G⟩) ml.length mc] 278) (P #[] 285);have y:=zG u A zi;have b8:a0 ((opened (Z.take (j+1)) I).map (virOf L r)=V++[⟨(),openT++z,c,r⟩]):=(by unfold a0;rw[b6,zEA,hh,if_pos rfl,bc,<-HV,cj,ck,Hc]);go_upto_region 8 with(at_lookup;refine zBx rfl _ _ 282 285 (ah #[]) (zeroE _) rfl cd mb _ _ z b5 rfl a7 rfl (ah #[]) hv ai J ?_)
    have e3:=A.cell b7 id;have j5:=A.size;have e4:=hf.step A zn;have nO:¬ (az av V.length cv).ownBlock=B (wr:E):=λh=>by have:=zZ u h;omega
    have nI:¬ (az av V.length cv).ownBlock=B ib:=λh=>by have:=zQ u h;omega
    clear A a3 u b7 hf a7 hv J c0 c1 c2 c3 c4 c5 c6;generalize (wr.alloc (P #[R mp,R z,Q C mr,Q C ms,Q C mt,Q C me,ac (B ⟨ib,io,G⟩) ml.length mc] 278)).alloc (P #[] 285)=W5 at *;refine zO (λb=>(az av V.length cv).ownBlock=B b) [(0,ag),(1,ag),(2,ag),(3,ag),(4,ag),(5,ag),(6,ag),(7,ag),(8,ag),(9,ag),(10,ai),(11,ai),(12,ag)] (by kernel_rfl) (by kernel_rfl) (λw0 N=>?_);have g1:∀ g:Gr (λb=>(az av V.length cv).ownBlock=B b) w0,g.W.cell? ⟨wr,1,G⟩=B (R z):=λg=>g.fr.cell (N.cell (zB q1 1) id) nO
    have g6:∀ g:Gr (λb=>(az av V.length cv).ownBlock=B b) w0,g.W.cell? ⟨wr,6,G⟩=B (ac (B ⟨ib,io,G⟩) ml.length mc):=λg=>g.fr.cell (N.cell (zB q1 6) id) nO
    have gc:∀ g:Gr (λb=>(az av V.length cv).ownBlock=B b) w0,g.W.cell? ⟨ib,io,G⟩=B (R c):=λg=>g.fr.cell (N.cell e3 id) nI
    have a4:=zG y N zi;have hz:¬ 9223372036854775807<5+z.size:=(by omega);have j6:=N.size;have h5:=zh (e4.step N zn);have a5:=zh a4;have j7:=zh HV;clear y N e4 q1 e3 nO nI HV a4;(repeat apply zR rfl rfl rfl;intro I hK;go_big_quiet_op;go_big_quiet_on);clear g1 g6 gc;apply zt rfl;go_wp2_with fail;apply zp;apply zt rfl;go_wp2_with (at_builtin;refine cg _ rfl _ _ 83 rfl (w2:E) 90 i0 (ah #[R aq,R aq,R aq,Q C 0]) 4 56 Tryz.underlying83 e7 e8 e9 g0 rfl (by decide) _ _ _ rfl (a5.alloc _) ⟨w0,0,G⟩ 1 1 (bx ⟨(),openT++z,c,r⟩).toList rfl rfl (ze _ (bx ⟨(),openT++z,c,r⟩) _ rfl) (zCW _) (by unfold al;omega) (by omega) (by first|omega|(simp;done)|(simp;omega)) ?_;intro v' w6 U X _;obtain⟨h6,h7,rfl⟩:=zJ U)
    have b9:Fr (λb=>(az av V.length cv).ownBlock=B b) (w0.alloc (P (bx ⟨(),openT++z,c,r⟩) 90)) w6:=be X;have e5:Fr No w0 (w0.alloc (P (bx ⟨(),openT++z,c,r⟩) 90)):=(ae _ _).alloc _;apply zf b9;have HF:=zg2 U ((h5.step e5 zn).step b9 (λb _ h=>zQ a5 h));clear U b9 e5 X;(repeat apply zR rfl rfl rfl;intro I hK;go_big_quiet_op;go_big_quiet_on);apply zb;go_wp2;go_roundw;case rel=>exact⟨j+1,V++[⟨(),openT++z,c,r⟩],h6,h7,by omega,by simp;omega,by simp,by go_num,by rw[bi,zBy];exact HF.1,zh b8.symm,HF.2⟩
    case measure=>simp[ak];omega
  .obtain rfl:j=O.length:=by omega
   obtain⟨a',c',hv,hR,Y⟩:=Virs.of_own u;cases hv;have hV:=HV.out;rw[g5,ax]at hV;have H:=zg4 hR Y hV ((d4.step hf (λb hb h=>by have:=d4.size;omega)));clear u HV hf hR Y hV;go_wp2;go_ret;exact⟨⟨_,_,V,Z,rfl,H.1,λad e=>by have:=H.2.1 ad e;omega,a9,H.2.2.1,g4⟩,H.2.2.2⟩
theorem zLP (h:parseC s=B c):c.id.size<=100000/\c.inner.length<=10000:=by
 obtain⟨o,-⟩:=zBp h;have u:c∈c.walk:=by
  obtain⟨k,i,l,v,t,e,n⟩:=c;simp[Ct.walk]
 exact⟨(o.small c u).1,Nat.le_trans (zEL u) o.count⟩
theorem zIt (h:parseC s=B c)(z:c.kind=2\/c.kind=4):1<=c.slot/\c.slot<=16:=by
 obtain⟨A,-⟩:=zBp h;have v:=A.good;obtain⟨k,i,l,o,t,e,n⟩:=c;rw[Ct.good,bg]at v;have y:=v.1;have u:k=2\/k=4:=z;rcases u with rfl|rfl
 .simp[alike,zAU]at y;show 1<=o/\o<=16
  omega
 .simp[alike,zAU]at y;show 1<=o/\o<=16
  omega
theorem zEQ (h:parseC s=B c)(y:c.kind=2\/c.kind=3\/c.kind=4):c.inner.length<=16:=by
 obtain⟨z,-⟩:=zBp h;have v:=z.good;obtain⟨k,i,l,A,t,e,n⟩:=c;rw[Ct.good,bg]at v;have o:=v.1;have u:k=2\/k=3\/k=4:=y;show n.length<=16
 rcases u with rfl|rfl|rfl
 .simp[alike]at o;omega
 .simp[alike]at o;omega
 .simp[alike,someIn]at o;omega
structure OneM (m:Mem)(o:aa):Prop where
 p:m.p=o
 i:m.i.size<=100000
 l:m.l.length<=16
 s:0<=m.s/\m.s<=16
theorem zOq {u:aa->M->Ct->Mem}(o:∀ p rd c,parseC c.txt=B c->c.kind=k->OneM (u p rd c) p){p:aa}{rd:M}(h:ofK k u p rd s=B m):OneM m p:=by
 unfold ofK at h;cases hc:parseC s with
 | none=>rw[hc]at h;cases h
 | some c=>
  rw[hc]at h;simp only at h;split at h
  .rename_i v;cases h;have:=(zBp hc).2;exact o p rd c (by rw[this];exact hc) v
  .cases h
theorem zK2 (p:aa)(rd:M)(c:Ct)(h:parseC c.txt=B c)(o:c.kind=2):OneM (mk2 p rd c) p:=by
 have u:=zLP h;have v:=zIt h (.inl o);exact⟨rfl,u.1,by show (c.inner.map Ct.txt).length<=16;rw[bt];exact zEQ h (by simp[o]),by show 0<=c.slot/\c.slot<=16;omega⟩
theorem zK1 (p:aa)(rd:M)(c:Ct)(h:parseC c.txt=B c)(o:c.kind=3):OneM (mk3 p rd c) p:=by
 have u:=zLP h;exact⟨rfl,u.1,by show (c.inner.map Ct.txt).length<=16;rw[bt];exact zEQ h (by simp[o]),by show (0:M)<=0/\(0:M)<=16;omega⟩
theorem zHZ (p:aa)(rd:M)(c:Ct)(h:parseC c.txt=B c)(o:c.kind=4):OneM (mk4 p rd c) p:=by
 have u:=zLP h;have v:=zIt h (.inr o);exact⟨rfl,u.1,by show (c.inner.map Ct.txt).length<=16;rw[bt];exact zEQ h (by simp[o]),by show 0<=c.slot/\c.slot<=16;omega⟩
theorem zIZ (v:∀ p rd c,parseC c.txt=B c->c.kind=k->OneM (y p rd c) p)(h:L.map au=S.filterMap (λs=>ofK k y s.o s.r (tx s.d))):
  L.length<=S.length/\∀ m∈L,∃ s∈S,OneM m s.o:=by
 refine⟨?_,λm A=>?_⟩
 .have:=bb c9 h;rw[bt]at this;rw[this];exact List.length_filterMap_le _ _
 .have z:m.k∈L.map Mem.k:=ca A;rw[h]at z;obtain⟨s,F,I⟩:=List.mem_filterMap.1 z;have u:=zOq v I;exact⟨s,F,⟨u.p,u.i,u.l,u.s⟩⟩
theorem zAz {F:aa->M->Ct->Mem}(A:∀ p rd c,parseC c.txt=B c->c.kind=k->OneM (F p rd c) p)(h:L.map au=S.filterMap (λs=>ofK k F s.o s.r (tx s.d)))(J:S.length<=1000)(I:∀ s∈S,s.o.size<=1000000):MemSmall2 L:=by
 obtain⟨N,y⟩:=zIZ A h;refine⟨by omega,λm u=>?_,λm u=>?_,λm u=>?_,λm u=>?_⟩;·obtain⟨s,z,v⟩:=y m u;rw[v.p];exact I s z
 .obtain⟨s,z,v⟩:=y m u;have:=v.i;omega
 .obtain⟨s,z,v⟩:=y m u;have:=v.l;omega
 .obtain⟨s,z,v⟩:=y m u;have:=v.s;exact WalkArith.wf_i64 (by omega)
theorem zE7 (v:∀ p rd c,parseC c.txt=B c->c.kind=k->OneM (y p rd c) p)(h:L.map au=S.filterMap (λs=>ofK k y s.o s.r (tx s.d)))(z:S.length<=1000)(A:∀ s∈S,s.o.size<=1000000):MemSmall L:=
 have u:=zAz v h z A
 ⟨u.len,u.p,u.i,u.l⟩
theorem zJA {m:ArrM}(u:IsIds2 (zl h L) o)(z:O.map bq=o.map (buildA (zl h L)))(A:m∈O)(F:∀ x∈L,x.i.size<=1000000):m.i.size<=1000000:=by
 have y:m.toArr∈O.map ArrM.toArr:=ca A;rw[z]at y;obtain⟨v,I,J⟩:=List.mem_map.1 y;have N:m.i=v:=by rw[<-J];rfl
 obtain⟨s,U⟩:=(u.mem v).1 I;obtain⟨x,V⟩:=Option.isSome_iff_exists.1 U;obtain⟨X,-,Y⟩:=zAi L _ _ V;have Z:x.i=v:=bb Prod.fst Y;rw[N,<-Z];exact F x X
theorem zGe {z:af aa}{r:M}{v:Vir}(y:IsIds L u)(A:v∈(opened u z).map (virOf L r))(F:∀ x∈L,x.i.size<=1000000):v.q.size=0/\v.o.size<=1000005:=by
 obtain⟨x,I,rfl⟩:=List.mem_map.1 A;have J:x∈u:=(List.mem_filter.1 I).1;obtain⟨m,N⟩:=Option.isSome_iff_exists.1 ((y.mem x).1 J);obtain⟨O,-,U⟩:=zC0 L _ _ N;have V:m.i=x:=zBO (l:=[m.i]) (l':=[x]) (by simp[U]) |> λh=>by injection h
 have X:=F m O;rw[V]at X;refine⟨rfl,?_⟩;show (openT++x).size<=_
 rw[ByteArray.size_append];show 5+x.size<=_
 omega
theorem zJf {v:aa->M->Ct->Mem}(u:∀ p rd c,parseC c.txt=B c->c.kind=k->OneM (v p rd c) p)(h:L.map au=S.filterMap (λs=>ofK k v s.o s.r (tx s.d))):∀ m∈L,m.l.length<=16:=λm y=>by
 obtain⟨s,A,z⟩:=(zIZ u h).2 m y;exact z.l
theorem zHl (u:∀ x∈L,x.l.length<=16)(o:aa):(zAH (zl h L) o).l.length<=16:=by
 unfold zAH;cases hq:zl h L (o,zAX (zl h L) o)with
 | none=>simp[Mem.zero]
 | some m=>exact u m (zAi L _ _ hq).1
theorem zLw {m:ArrM}(y:O.map bq=o.map (buildA (zl h L)))(z:m∈O)(A:∀ x∈L,x.l.length<=16):m.l.length<=16:=by
 have u:m.toArr∈O.map ArrM.toArr:=ca z;rw[y]at u;obtain⟨v,J,F⟩:=List.mem_map.1 u;have I:m.l=(zAH (zl h L) v).l:=by rw[<-F];rfl
 rw[I];exact zHl A v
def Wt {H:Type}(t:bn)(d:DataW H):Prop:=∀ n∈d.weights am t,n<=reachBytes
theorem wt_each {H:Type}{o:af bn}{ds:af (DataW H)}(h:(DataW.weightsEach am o ds).all (·<=reachBytes)=ai){t:bn}{d:DataW H}(u:o[j]?=B t)(v:ds[j]?=B d):Wt t d:=λn y=>by
 have:=List.all_eq_true.1 h n (DataW.weights_mem_each u v n y)
 simpa using this
section
variable {H:Type}{enc:bn×ba->H}{w:aj}{base:E}{spare:E->Bool}{held:Bool}
end
section
variable {H:Type}{enc:bn×ba->H}{w:aj}{base:E}{spare:E->Bool}{held:Bool}
end
theorem zJN (a:an ao)(o:E)(l:af aa)(s:aa)(w:aj)(I:Strs w a o l):
  ap am 51 #[ac a l.length o,R s] w λe w'=>IdxS l s e/\Fr No w w':=by
 have X:=I.lenmax;go_enter Tryz.func51,Tryz.ntmps51;go_wp2_with fail
 go_loop [8] (λi=>∃ k:E,k<=l.length/\i=Q C k/\a0 (∀ x∈l.take k,(x.toList==s.toList)=ag)) (λi=>l.length-(ak i).toNat)
 case atStart=>exact⟨0,by omega,rfl,by unfold a0;simp⟩
 case round=>
  obtain⟨k,Y,rfl,u⟩:=hrel;by_cases z:k<l.length
  .have J:(k:M)<l.length:=by omega
   obtain⟨b,V,x,rfl,N,Z⟩:=I.at z;have O:=zh N;clear N;rcases he:(s.toList==x.toList)with _|_
   .have v:(x.toList==s.toList)=false:=(by rw[ch];exact he);have A:=zh v;clear v;go_wp2_with fail
    go_round
    case rel=>
     refine⟨k+1,by omega,by go_num,?_⟩;unfold a0;intro y U;rw[ar,O]at U;rcases List.mem_append.1 U with h|h
     .exact u y h
     .simp at h;subst h;exact A.out
    case measure=>simp[ak];omega
   .have F:a0 (hasS l s=ai):=zO9 O (by rw[ch];exact he);go_wp2;go_ret;exact⟨⟨k,rfl,by rw[F.out];simp⟩,ae _ _⟩
  .obtain rfl:k=l.length:=by omega
   have h:=u.out;rw[List.take_of_length_le (by omega)]at h;have F:a0 (hasS l s=ag):=zO8 h;go_wp2;go_ret;exact⟨⟨-1,rfl,by rw[F];rfl⟩,ae _ _⟩
theorem zFV (a:an ao)(h:E)(l:af aa)(s:aa)(w:aj)(v:Strs w a h l):
  ap am 49 #[ac a l.length h,R s] w λe w'=>e=.returned (.bool (hasS l s))/\Fr No w w':=by
 go_enter Tryz.func49,Tryz.ntmps49;go_wp2_with fail;apply (zJN a h l s _ v).mono;rintro e z ⟨⟨i,rfl,u⟩,o⟩;have y:=zh u;clear u;go_wp2;go_ret;exact⟨zL y,o⟩
def lvT (id:aa)(k:M):aa:=(⟨#[108,118,45]⟩:aa)++id++(⟨#[45]⟩:aa)++(⟨(bh k).toArray⟩:aa)
def lvOk (id:aa)(k:M):Bool:=decide (1<=k)&&decide (k<=16)&&isName (lvT id k)
theorem zMp (h:aa)(k:M):(lvT h k).size=h.size+4+(bh k).length:=by
 unfold lvT;rw[ByteArray.size_append,ByteArray.size_append,ByteArray.size_append];show 3+h.size+1+(bh k).toArray.size=_
 simp;omega
theorem zPd (h:aa)(k:M)(w:aj)(hE:Env w)(a5:h.size<=1000000)(hk:(Lit.int C k).wf=ai):
  ap am 218 #[.string h,.int C k] w λe w'=>e=.returned (.tuple #[.string (if lvOk h k=ai then lvT h k else ()),.int C (if lvOk h k=ai then 0 else 340)])/\Fr No w w':=by
 have y:-9223372036854775808<=k/\k<=9223372036854775807:=by simp[Lit.wf,IntKind.min,IntKind.max,IntKind.signed,IntKind.bits]at hk;omega
 have V:=Lib.itoa_length_le k y.1 y.2;have F:=zMp h k;have h1:((⟨#[108,118,45]⟩:aa)++h).size<=9223372036854775807:=by rw[ByteArray.size_append];show 3+h.size<=_;omega
 have h2:((⟨#[108,118,45]⟩:aa)++h++(⟨#[45]⟩:aa)).size<=9223372036854775807:=by rw[ByteArray.size_append,ByteArray.size_append];show 3+h.size+1<=_;omega
 obtain⟨u,z⟩:∃ u,u=(⟨(bh k).toArray⟩:aa):=⟨_,rfl⟩
 have X:lvT h k=(⟨#[108,118,45]⟩:aa)++h++(⟨#[45]⟩:aa)++u:=by rw[z];rfl
 have h3:((⟨#[108,118,45]⟩:aa)++h++(⟨#[45]⟩:aa)++u).size<=9223372036854775807:=by rw[<-X,F];omega
 have h4:((⟨#[108,118,45]⟩:aa)++h++(⟨#[45]⟩:aa)++u).size<=maxLen:=by unfold al;rw[<-X,F];omega
 have a4:u.size<=21:=by rw[z];simpa [ByteArray.size]using V
 have a6:¬ 9223372036854775807<3+h.size+1+u.size:=by omega
 have a7:¬ 9223372036854775807<((⟨#[108,118,45]⟩:aa)++h++(⟨#[45]⟩:aa)).size+u.size:=by rw[<-ByteArray.size_append];omega
 have a8:((⟨#[108,118,45]⟩:aa)++h++(⟨#[45]⟩:aa)).size+u.size<=9223372036854775807:=by omega
 obtain⟨N,I⟩:∃ N,N=lvOk h k:=⟨_,rfl⟩
 rw[<-I,X];have J:=zh I;have HL:=zh X;have Y:(⟨(bh k).toArray⟩:aa)=u:=z.symm;clear I X F V z;go_enter Tryz.func218,Tryz.ntmps218;go_wp2_with fail;apply (Tryz.strconv_Itoa k y.1 y.2 _ hE.tab).mono;rintro e w1 ⟨rfl,kk,os,rfl⟩;have o:Fr No w (Go.Sort.grow (w.drewN kk) os):=Fr.of_below_size (Lib.below_grow _ w (cb _) kk os);generalize Go.Sort.grow (w.drewN kk) os=w1 at *;rw[Y];by_cases Z:1<=k
 .by_cases a2:k<=16
  .go_wp2_with fail;apply (zAS _ _ h4).mono;rintro e w2 ⟨rfl,a3⟩;have A:=o.step a3 zi;have O:N=isName ((⟨#[108,118,45]⟩:aa)++h++(⟨#[45]⟩:aa)++u):=(by rw[J.out,<-HL.out];unfold lvOk;simp[Z,a2]);rw[<-O];have U:=zh A;clear o a3 A O;cases N
   .go_wp2_with fail;refine bz (v:=.tuple #[.string (),.int C 340]) (by simp[c7,bv,go_sem]) rfl ?_;exact⟨by simp,U.out⟩
   .go_wp2_with fail;refine bz (v:=.tuple #[.string ((⟨#[108,118,45]⟩:aa)++h++(⟨#[45]⟩:aa)++u),.int C 0]) (by simp[c7,bv,go_sem]) rfl ?_;exact⟨by simp,U.out⟩
  .have O:N=false:=by rw[J.out];unfold lvOk;simp[a2]
   subst O;have U:=zh o;clear o;go_wp2_with fail;refine bz (v:=.tuple #[.string (),.int C 340]) (by simp[c7,bv,go_sem]) rfl ?_;exact⟨by simp,U.out⟩
 .have O:N=false:=by rw[J.out];unfold lvOk;simp[Z]
  subst O;have U:=zh o;clear o;go_wp2_with fail;refine bz (v:=.tuple #[.string (),.int C 340]) (by simp[c7,bv,go_sem]) rfl ?_;exact⟨by simp,U.out⟩
end Go.Proofs.YtifphhgcelkflaaGreatDoor
