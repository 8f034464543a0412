import Derived.Test.YtjoipgjdpnjjiaaGreatDoorQ8
import Derived.Deep.Slices
import Derived.SliceStrings
import Derived.ChangeArms
import Derived.SizedLaws
namespace Go.Proofs.YtjoipgjdpnjjiaaGreatDoor
open Go.RowKit Go.Maps Go.Sort Go.Shelf Go.ChangeShapes
set_option linter.unusedVariables false
set_option maxRecDepth 100000
set_option maxHeartbeats 16000000
open ArrM renaming toArr->bq
open Fr renaming refl->aa,of_grown->bd,of_grown_none->be,setCell->br,of_grown_some->c8
open Go renaming World->aj,maxLen->ak,Addr->an,Calls->ao,Value->az,TypeId->bm,info_parts->bn,wpList_make_full->bo,bodyPost_ret->bz,results->c7,wpList_append_own->cg,wpList_append_own_at->cx
open Go.Instr renaming lookup->ci
open Go.Lib renaming itoa->bg
open Go.Proofs renaming intOf->ai
open Go.Proofs.Tryz renaming prog->al,underlying293->bc,underlying30->bi,underlying300->bj,results207->bv,underlying270->cd,func14->co,func200->cp,ntmps14->cq,underlying22->cr
open Go.RowKit renaming Hid->M
open Go.Value renaming slice->ay,string->bw,agg->ce
open Go.World renaming ownsRow_nil->cf,grownBy_alloc->ct
open IntKind renaming i64->E
open Mem renaming k->ar,vals->bu
open Obj renaming cells->B
open OnlyN renaming mk->ax
open Value renaming slice->a0,int->af,agg->ag,string->bp
open Vir renaming vals->bx
open _root_ renaming Nat->C,Int->P,ByteArray->R,List->ac,Option->am,congrArg->ba,decide_eq_false_iff_not->cu,decide_eq_true_eq->cw
open _root_.Bool renaming false->ae,true->ah,and_eq_true->bf,beq_comm->ch
open _root_.ByteArray renaming empty->ap
open _root_.List renaming take_add_one->aq,mem_of_getElem?->au,take_length->aw,map_append->bb,length_append->bh,getElem?_map->bs,length_map->bt,length->c9,mem_map_of_mem->ca,map_cons->cj,map_nil->ck,mem_of_mem_take->cl,take_of_length_le->cm
open _root_.Nat renaming le_refl->cb
open _root_.Option renaming none->Q,some->G,getD_some->cc
variable{m:Mem}{l o u:ac R}{s:R}{k:P}{S:ac Src}{L:ac Mem}{O:ac ArrM}{j:C}{c:Ct}{y:R->P->Ct->Mem}{tx:Dev->R}{h:Mem->Bool}
theorem zIs (F:C)(I:Mem->Bool)(eg:∀ args w,(callFunc F args).run al w=.ok (.enter F args) w)
  (k7:∀ (p i:R) (r s t e:P) (a:am an) (l:ac R) (c:C) (w:aj),ao al F #[ag #[.string p,.string i,.int E r,.int E s,.int E t,.int E e,.slice a l c]] w λen w'=>en=.returned (.bool (I ⟨p,i,r,s,t,e,a,l,c⟩))/\Fr No w w') (A3:∀ m,I m=ah->soundB m=ah)
  (a:am an) (t0:C) (L:ac Mem) (m0:P) (w:aj) (hl:Mems w a t0 L) (hb:MemSmall2 L) (A4:w ⟨0,0,Q⟩=G (.int E m0)) (U3:0<(w:C)):
  ao al 199 #[.slice a L t0,.func (.func F) #[] #[]] w λe w'=>ArrRes w (zr I L) e w'/\Fr No w w':=by
 obtain⟨i0,L8,L9,M0,M1⟩:=bn infoAr;have U4:=hb.len;have M2:=@run_makeMap al;have hx:Fr No w (w.alloc (.map #[] 0)):=(aa _ _).alloc _;have M4:=PMap.made w;have e3:(w:C)<(w.alloc (.map #[] 0)).heap.size:=by simp
 have k8:∀ W:aj,Fr (From (w:C)) w W->Mems W a t0 L:=λW hf=>hl.keep hf (λb hb h=>by omega)
 have k9:=zh k8;have Hb:=zh hb;clear k8 hb hl;go_enter Tryz.func199,Tryz.ntmps199;go_wp2_with fail;generalize w.alloc (.map #[] 0)=W0 at *;go_loopw [23] (λi wr=>∃ k:C,k<=(L:C)/\i=.int E (k:P)/\PMap wr (w:C) (mapP (zr I (L.take k))) k/\Fr (From (w:C)) w wr/\(w:C)<(wr:C)) (λi _=>(L:C)-(ai i).toNat);case atStart=>exact⟨0,by omega,rfl,by exact M4,hx.mono zn,e3⟩
 case round=>
  obtain⟨k,hk,rfl,hI,e4,A5⟩:=hrel;by_cases i9:k<(L:C)
  .have A6:(k:P)<(L:C):=by omega
   obtain⟨b,M5,m,rfl,t7,l0,d3,U5⟩:=(k9 _ e4).elem i9;have b2:=au t7;have l1:M (L.take (k+1)=L.take k++[m]):=(by unfold M;rw[aq,t7];rfl);have A7:=Hb.p m b2;have l2:m.i.size<=maxLen:=(by have:=Hb.i m b2;unfold ak;omega);have l3:=Hb.s m b2;have p2:wr ⟨0,0,Q⟩=G (.int E m0):=e4.cell A4 (by show ¬ From (w:C) 0;omega);obtain⟨mp,mi,mr,ms,mt,me,ma,ml,mc⟩:=m;obtain⟨c0,c1,c2,c3,c4,c5,c6⟩:=d3;simp only at c0 c1 c2 c3 c4 c5 c6 A7 l2 l3;clear t7 l0 b2 M2;have l4:Fr No wr ((wr.alloc (B #[.string mp,.string mi,.int E mr,.int E ms,.int E mt,.int E me,.slice ma ml mc] 266)).alloc (B #[.string mi,.int E ms] 295)):=((aa _ _).alloc _).alloc _;have j1:=hI.fr l4 id;clear hI;rcases hg:zr I (L.take k) (mi,ms)with _|o
   .have hv:(mapP (zr I (L.take k)) (mi,ms)).getD zBy=ag #[.string (),.string (),.int E 0,.int E 0,.int E 0,.int E 0,.slice Q 0 0]:=(by unfold mapP;rw[hg];rfl);have l5:(mapP (zr I (L.take k)) (mi,ms)).isSome=false:=(by unfold mapP;rw[hg];rfl);have Hg:M (∀ o,zr I (L.take k) (mi,ms)=G o->ahead ⟨mp,mi,mr,ms,mt,me,ma,ml,mc⟩ o=ah):=λo ho=>by rw[hg]at ho;cases ho
    clear hg;go_upto_region 7 with(at_lookup;refine zEr rfl _ _ 293 266 zBy (zH5 _) rfl bc (w:C) _ k mi ms l2 l3 rfl j1 rfl (ag #[.string (),.string (),.int E 0,.int E 0,.int E 0,.int E 0,.slice Q 0 0]) hv ae l5 ?_)
    have d7:Fr No wr (((wr.alloc (B #[.string mp,.string mi,.int E mr,.int E ms,.int E mt,.int E me,.slice ma ml mc] 266)).alloc (B #[.string mi,.int E ms] 295)).alloc (B #[.string (),.string (),.int E 0,.int E 0,.int E 0,.int E 0,.slice Q 0 0] 266)):=l4.alloc _;have qm:=zCy wr (B #[.string mp,.string mi,.int E mr,.int E ms,.int E mt,.int E me,.slice ma ml mc] 266) (B #[.string mi,.int E ms] 295) (B #[.string (),.string (),.int E 0,.int E 0,.int E 0,.int E 0,.slice Q 0 0] 266);have qp:=zCx wr (B #[.string mp,.string mi,.int E mr,.int E ms,.int E mt,.int E me,.slice ma ml mc] 266) (B #[.string mi,.int E ms] 295) (B #[.string (),.string (),.int E 0,.int E 0,.int E 0,.int E 0,.slice Q 0 0] 266);have qo:=zCw wr (B #[.string mp,.string mi,.int E mr,.int E ms,.int E mt,.int E me,.slice ma ml mc] 266) (B #[.string mi,.int E ms] 295) (B #[.string (),.string (),.int E 0,.int E 0,.int E 0,.int E 0,.slice Q 0 0] 266);have d8:=j1.fr ((aa No _).alloc (B #[.string (),.string (),.int E 0,.int E 0,.int E 0,.int E 0,.slice Q 0 0] 266)) id;clear j1 hv l5 c0 c1 c2 c3 c4 c5 c6 l4;generalize ((wr.alloc (B #[.string mp,.string mi,.int E mr,.int E ms,.int E mt,.int E me,.slice ma ml mc] 266)).alloc (B #[.string mi,.int E ms] 295)).alloc (B #[.string (),.string (),.int E 0,.int E 0,.int E 0,.int E 0,.slice Q 0 0] 266)=W2 at *;obtain⟨y0,y1,y2,y3,y4,y5,y6⟩:=cl7 qm;have d9:=d7.cell p2 id;have g6:=zh (e4.step d7 zn);have p3:=d7.size;clear d7 e4 p2;obtain⟨gd,g7⟩:=ε (I ⟨mp,mi,mr,ms,mt,me,ma,ml,mc⟩)
    have l6:M (I ⟨mp,mi,mr,ms,mt,me,ma,ml,mc⟩=gd):=g7.symm;have b3:=k7 mp mi mr ms mt me ma ml mc W2;rw[<-g7]at b3;clear g7;rcases gd with _|_
    .go_wp2_with
      (go_at_fn F
       apply b3.mono;rintro en w3 ⟨rfl,V⟩;have g8:=V.heap qm id;have d4:=V.heap qp id;have j2:=V.heap qo id;have d5:=d8.fr V id;have l7:=V.cell d9 id;have d6:=zh (g6.step V zn);have g9:=V.size;clear y0 y1 y2 y3 y4 y5 y6 V qm qp qo d9 d8 b3)
     have e0:PMap w3 (w:C) (mapP (zr I (L.take (k+1)))) k:=(by rw[l1,zAc,zEc l6];exact d5);have H:=zg2 e0 d6;clear e0 d5;go_roundw;case rel=>exact⟨k+1,by omega,by go_num,H.1.mono (by omega),H.2,by omega⟩
     case measure=>simp[ai];omega
    .go_wp2_with (first
      | (go_at_fn F
         apply b3.mono;rintro en w3 ⟨rfl,V⟩;have g8:=V.heap qm id;have d4:=V.heap qp id;have j2:=V.heap qo id;have d5:=d8.fr V id;have l7:=V.cell d9 id;have d6:=zh (g6.step V zn);have g9:=V.size;clear y0 y1 y2 y3 y4 y5 y6 V qm qp qo d9 d8 b3;obtain⟨y0,y1,y2,y3,y4,y5,y6⟩:=cl7 g8;have z0:w3 ⟨(wr:C)+1,0,Q⟩=G (.string mi):=zB d4 0;have z1:w3 ⟨(wr:C)+1,1,Q⟩=G (.int E ms):=zB d4 1)
      | (at_mapUpdate;refine zDj rfl _ _ _ 293 266 rfl bc (w:C) _ k (by unfold ak;omega) mi ms l2 l3 (ag #[.string mp,.string mi,.int E mr,.int E ms,.int E mt,.int E me,.slice ma ml mc]) rfl d5 rfl rfl ?_;intro w6 l8 h0))
     have l9:PMap w6 (w:C) (mapP (zr I (L.take (k+1)))) (k+1):=(by rw[l1,zAc,zCT l6 Hg,<-zIf];exact l8);have H:=zg3 l9 (d6.step h0 (λb hb e=>by omega)) h0.size;clear l8 l9 h0;go_roundw;case rel=>exact⟨k+1,by omega,by go_num,H.1,H.2.1,by have:=H.2.2;omega⟩
     case measure=>simp[ai];omega
   .obtain⟨op,oi,or,os,ot,oe,oa,ol,oc⟩:=o;have hv:(mapP (zr I (L.take k)) (mi,ms)).getD zBy=ag #[.string op,.string oi,.int E or,.int E os,.int E ot,.int E oe,.slice oa ol oc]:=(by unfold mapP;rw[hg];rfl);have l5:(mapP (zr I (L.take k)) (mi,ms)).isSome=true:=(by unfold mapP;rw[hg];rfl);have A8:=Hb.p _ (cl (zAk _ _ _ hg).1);simp only at A8;have Hg:=zh hg;clear hg;go_upto_region 7 with(at_lookup;refine zEr rfl _ _ 293 266 zBy (zH5 _) rfl bc (w:C) _ k mi ms l2 l3 rfl j1 rfl (ag #[.string op,.string oi,.int E or,.int E os,.int E ot,.int E oe,.slice oa ol oc]) hv ah l5 ?_)
    have d7:Fr No wr (((wr.alloc (B #[.string mp,.string mi,.int E mr,.int E ms,.int E mt,.int E me,.slice ma ml mc] 266)).alloc (B #[.string mi,.int E ms] 295)).alloc (B #[.string op,.string oi,.int E or,.int E os,.int E ot,.int E oe,.slice oa ol oc] 266)):=l4.alloc _;have qm:=zCy wr (B #[.string mp,.string mi,.int E mr,.int E ms,.int E mt,.int E me,.slice ma ml mc] 266) (B #[.string mi,.int E ms] 295) (B #[.string op,.string oi,.int E or,.int E os,.int E ot,.int E oe,.slice oa ol oc] 266);have qp:=zCx wr (B #[.string mp,.string mi,.int E mr,.int E ms,.int E mt,.int E me,.slice ma ml mc] 266) (B #[.string mi,.int E ms] 295) (B #[.string op,.string oi,.int E or,.int E os,.int E ot,.int E oe,.slice oa ol oc] 266);have qo:=zCw wr (B #[.string mp,.string mi,.int E mr,.int E ms,.int E mt,.int E me,.slice ma ml mc] 266) (B #[.string mi,.int E ms] 295) (B #[.string op,.string oi,.int E or,.int E os,.int E ot,.int E oe,.slice oa ol oc] 266);have d8:=j1.fr ((aa No _).alloc (B #[.string op,.string oi,.int E or,.int E os,.int E ot,.int E oe,.slice oa ol oc] 266)) id;clear j1 hv l5 c0 c1 c2 c3 c4 c5 c6 l4;generalize ((wr.alloc (B #[.string mp,.string mi,.int E mr,.int E ms,.int E mt,.int E me,.slice ma ml mc] 266)).alloc (B #[.string mi,.int E ms] 295)).alloc (B #[.string op,.string oi,.int E or,.int E os,.int E ot,.int E oe,.slice oa ol oc] 266)=W2 at *;obtain⟨y0,y1,y2,y3,y4,y5,y6⟩:=cl7 qm;have d9:=d7.cell p2 id;have g6:=zh (e4.step d7 zn);have p3:=d7.size;clear d7 e4 p2;obtain⟨gd,g7⟩:=ε (I ⟨mp,mi,mr,ms,mt,me,ma,ml,mc⟩)
    have l6:M (I ⟨mp,mi,mr,ms,mt,me,ma,ml,mc⟩=gd):=g7.symm;have b3:=k7 mp mi mr ms mt me ma ml mc W2;rw[<-g7]at b3;clear g7;rcases gd with _|_
    .go_wp2_with
      (go_at_fn F
       apply b3.mono;rintro en w3 ⟨rfl,V⟩;have g8:=V.heap qm id;have d4:=V.heap qp id;have j2:=V.heap qo id;have d5:=d8.fr V id;have l7:=V.cell d9 id;have d6:=zh (g6.step V zn);have g9:=V.size;clear y0 y1 y2 y3 y4 y5 y6 V qm qp qo d9 d8 b3)
     have e0:PMap w3 (w:C) (mapP (zr I (L.take (k+1)))) k:=(by rw[l1,zAc,zEc l6];exact d5);have H:=zg2 e0 d6;clear e0 d5;go_roundw;case rel=>exact⟨k+1,by omega,by go_num,H.1.mono (by omega),H.2,by omega⟩
     case measure=>simp[ai];omega
    .go_wp2_with
      (go_at_fn F
       apply b3.mono;rintro en w3 ⟨rfl,V⟩;have g8:=V.heap qm id;have d4:=V.heap qp id;have j2:=V.heap qo id;have d5:=d8.fr V id;have l7:=V.cell d9 id;have d6:=zh (g6.step V zn);have g9:=V.size;clear y0 y1 y2 y3 y4 y5 y6 V qm qp qo d9 d8 b3;obtain⟨y0,y1,y2,y3,y4,y5,y6⟩:=cl7 g8;obtain⟨z0,z1,z2,z3,z4,z5⟩:=cl6 j2;have z6:w3 ⟨(wr:C)+1+1,6,Q⟩=G (.slice oa ol oc):=zB j2 6)
     apply (zIh mp mi op oi mr ms mt me or os ot oe _ _ m0 _ A7 A8 l7).mono;rintro en w5 ⟨rfl,j3⟩;have A9:=j3.heap g8 id;have D2:=j3.heap d4 id;have e0:=d5.fr j3 id;have D3:=zh (d6.step j3 zn);have U6:=j3.size;clear y0 y1 y2 y3 y4 y5 y6 z0 z1 z2 z3 z4 z5 z6 j3 g8 d4 j2 l7 d5;rcases ha:aheadB mp mr op or with _|_
     .clear A9 D2;have D4:PMap w5 (w:C) (mapP (zr I (L.take (k+1)))) k:=(by rw[l1,zAc,zHx (m:=⟨mp,mi,mr,ms,mt,me,ma,ml,mc⟩) (o:=⟨op,oi,or,os,ot,oe,oa,ol,oc⟩) Hg ha];exact e0);have H:=zg2 D4 D3;clear D4 e0;go_wp2;go_roundw;case rel=>exact⟨k+1,by omega,by go_num,H.1.mono (by omega),H.2,by omega⟩
      case measure=>simp[ai];omega
     .have M6:M (∀ o,zr I (L.take k) (mi,ms)=G o->ahead ⟨mp,mi,mr,ms,mt,me,ma,ml,mc⟩ o=ah):=λo ho=>by rw[Hg.out]at ho;cases ho;exact ha
      clear ha;obtain⟨y0,y1,y2,y3,y4,y5,y6⟩:=cl7 A9;obtain⟨z0,z1⟩:=cl2 D2;go_wp2_with (at_mapUpdate;refine zDj rfl _ _ _ 293 266 rfl bc (w:C) _ k (by unfold ak;omega) mi ms l2 l3 (ag #[.string mp,.string mi,.int E mr,.int E ms,.int E mt,.int E me,.slice ma ml mc]) rfl e0 rfl rfl ?_;intro w6 l8 h0)
      have l9:PMap w6 (w:C) (mapP (zr I (L.take (k+1)))) (k+1):=(by rw[l1,zAc,zCT l6 M6,<-zIf];exact l8);have H:=zg3 l9 (D3.step h0 (λb hb e=>by omega)) h0.size;clear l8 l9 h0;go_roundw;case rel=>exact⟨k+1,by omega,by go_num,H.1,H.2.1,by have:=H.2.2;omega⟩
      case measure=>simp[ai];omega
  .obtain rfl:k=(L:C):=by omega
   rw[aw]at hI;obtain⟨D,n,hn,ho,hh⟩:=hI;have Hh:=zh hh;have p4:=ho.size_le;have m4:M (∀ x s m,zr I L (x,s)=G m->(m∈L/\I m=ah/\m.i=x/\m.s=s)/\x.size<=ak/\(Lit.int E s).wf=ah):=λx s m hm=>by
    obtain⟨h1,h2,h3⟩:=zAk L (x,s) m hm;simp only[Prod.mk.injEq]at h3;obtain⟨rfl,rfl⟩:=h3;exact⟨⟨h1,h2,rfl,rfl⟩,by have:=Hb.i m h1;unfold ak;omega,Hb.s m h1⟩
   obtain⟨j0,D5,D6,D7,D8⟩:=bn zQE;have qg:=zF wr (.map #[] 0);have t8:Fr No wr (wr.alloc (.map #[] 0)):=(aa _ _).alloc _;have D9:=t8.ownsMap ho id;have F0:(wr.alloc (.map #[] 0)).heap.size=(wr:C)+1:=(by simp);have r6:=e4.step t8 zn;clear hh ho e4 A4;go_upto_region 11 with(fail)
   generalize wr.alloc (.map #[] 0)=W1 at *;generalize (wr:C)=gm at *;have F1:GMap W1 ((W1:C)+1) gm (λ_=>[]) 0:=GMap.made qg (by omega);have t9:M ((w:C)<gm):=A5;have j4:=zh F0;clear t8 F0 qg A5;go_wp2_with (at_range;refine wpList_range_own _ rfl _ 293 rfl 295 266 lawP bc heldV (w:C) n D rfl D9 ?_;intro w2 r7 v0 p3)
   have F2:=F1.grown v0 (by simp) (λj e=>by cases e);have F3:=r6.step (be v0) zn;clear r6 F1 v0 D9
   go_frame
   go_loopw [57] (λv j5=>∃ (e5:Lit->Bool) (v1 N:C) (f:ac UInt8->ac P),j5.ranges al 295 heldV (w:C) (W1:C) n D e5 v1/\N+v1<=Maps.size D/\GMap j5 ((W1:C)+1) gm f N/\M (Grp D e5 f)/\M (Fr (From (w:C)) w j5)/\(W1:C)+1<=(j5:C))
    (λ_ j5=>j5.rangeLeft (w:C) (W1:C))
   case atStart=>exact⟨_,_,0,_,r7,by omega,F2,Grp.start D,F3,by omega⟩
   case round=>
    obtain⟨e5,v1,N,f,m5,U7,hG,HG,Hf,g9⟩:=hrel;clear F2 r7 F3 p3;go_wp2_with (at_next;refine wpList_next_ranges _ rfl _ rfl 295 lawP heldV (λx:R×P=>ag #[.string x.1,.int E x.2]) (λv:az=>v) (λU8 kl h=>by obtain⟨s,n,rfl,_⟩:=zIj h;exact⟨(s,n),rfl⟩) (λv y h=>⟨v,rfl⟩) (w:C) (W1:C) n D _ _ rfl m5 ?_ ?_)
    .intro M7 F4;have F5:PMap wr (w:C) (mapP (zr I L)) n:=⟨D,n,cb _,m5.owns,Hh⟩
     have F6:M (∀ x,IsSlots (zr I L) x (f (kb x))):=HG.slots F4 (λx h1 h2=>(Hh x h1 h2).1) (λx s m h=>(m4 x s m h).2);have hN:N<=1000:=(by omega);clear m5 HG F4 M7 Hh;go_wp2_with fail;apply (zJV gm _ f N _ hG (by omega)).mono;rintro en w4 ⟨⟨ia,ic,a9,rfl,F7,r8,b2,r9,M8⟩,m6⟩;have s1:M (IsIds2 (zr I L) a9):=IsIds2.of_slots r8 b2 F6;have F8:=zh b2;have m7:=hG.grown (m6.grown (row:=Q) (λ_ h=>h.elim)) (by simp) (λj e=>by cases e);have v2:=F5.fr m6 id;have p5:M (Fr (From (w:C)) w w4):=Hf.step m6 zn;have M9:=m6.size;have m8:M ((a9:C)<=N):=r9;have j6:M ((w:C)<=(w4:C)):=(by have:=t9.out;have:=j4.out;unfold M;omega);clear r8 b2 hG F5 m6 Hf r9 M8 g9;obtain⟨s0,e3,e6,e7,e8⟩:=bn infoS;go_wp2_with fail;go_loopw [13,75] (λu i v3=>∃ (j:C) (O:ac ArrM) (av:am an) (cv:C),j<=(a9:C)/\(O:C)=j/\u=.slice av O cv/\i=.int E (j:P)/\v3.ownsRow (w4:C) 216 6 (.slice av O cv) (O:C) (arflat O)/\AFresh v3 (w4:C) O/\M (O.map bq=(a9.take j).map (buildA (zr I L)))/\Fr (From (w4:C)) w4 v3) (λ_ i _=>(a9:C)-(ai i).toNat);case atStart=>exact⟨0,[],Q,0,by omega,rfl,rfl,rfl,cf _ _ _ _,λ_ h=>by simp at h,by unfold M;simp,aa _ _⟩
     case round=>
      obtain⟨j,O,av,cv,hj,F9,rfl,rfl,a5,b4,HO,hf⟩:=hrel;have R5:(a9:C)<=1000:=(by have:=m8.out;omega);have R6:(O:C)<=1000:=(by have:=m8.out;omega);have N0:=zh F9;clear F9;by_cases i9:j<(a9:C)
      .have A6:(j:P)<(a9:C):=(by omega);obtain⟨b,M5,x,rfl,v4,hc⟩:=(F7.fr hf (λJ e v5=>by have:=(F7.cell J e v5).2.1;omega)).at i9;have N1:M (a9.take (j+1)=a9.take j++[x]):=(by unfold M;rw[aq,v4];rfl);have v6:=au v4;have I0:=zh ((F8 x).1 v6);obtain⟨s9,I1⟩:=(s1.mem x).1 v6;obtain⟨m9,I2⟩:=Option.isSome_iff_exists.1 I1;have h7:x.size<=maxLen:=(m4 x s9 m9 I2).2.1;clear v4 v6 I1 I2;have I3:=Fr.grownF hf;have v7:=m7.grown I3 (by simp) (λj e=>by cases e);have p6:=v2.fr hf (by unfold From;have:=v2.lt;omega);obtain⟨v,b5,g0,n3,_⟩:=v7.look (by unfold ak;omega) h7;obtain⟨za,zc,rfl,hZ,U9⟩:=Ints.of_own g0.1 g0.2;obtain⟨zs,v8⟩:=ε (f (kb x))
       rw[<-v8]at b5 g0 n3 hZ I0;have j7:M (IsSlots (zr I L) x zs):=(by rw[v8];exact F6 x);have I4:1<=(zs:C):=by have:=I0.out;rcases zs with _|⟨_,_⟩;exact absurd rfl this;simp
       clear v8 g0;go_wp2_with (at_lookup;refine zAz rfl _ _ 298 rfl (.map (G gm)) (.string x) (.slice za zs zc) rfl rfl (b5 _ rfl) ?_)
       apply (zPt za zc zs _ hZ I4).mono;rintro en w5 ⟨⟨m,rfl,hm,s2⟩,rfl⟩;obtain⟨o,ho⟩:=Option.isSome_iff_exists.1 ((j7.mem m).1 hm);have n4:M (∀ s∈zs,1<=s/\s<=16):=λs hs=>by
        obtain⟨m',N2⟩:=Option.isSome_iff_exists.1 ((j7.mem s).1 hs);obtain⟨⟨_,h2,_,h4⟩,_⟩:=m4.out x s m' N2;have h2:=A3 _ h2;unfold soundB at h2;simp only[bf,cw]at h2;omega
       have N3:M (zAJ (zr I L) x=o):=by
        have:=zFv j7 n4 hm s2;unfold M zAJ;rw[this,ho];rfl
       obtain⟨⟨v9,n5,I5,I6⟩,_,N4⟩:=m4.out x m o ho;have b6:=p6.look (zH5 wr) bc h7 N4;have hv:(mapP (zr I L) (x,m)).getD zBy=o.v:=(by unfold mapP;rw[ho];rfl);rw[hv]at b6;have N5:1<=o.t/\o.t<=16:=by
        have n5:=A3 _ n5;unfold soundB at n5;simp only[bf,cw]at n5;omega
       have j8:=Hb.l o v9;have l0:=((k9 wr (p5.trans hf (λb hb h=>h) (λb hb h=>by unfold From at h ⊢;have:=j6.out;omega))).ok o v9)
       have I7:=zh b5;clear hv ho v9 n5 I5 hm s2 b5;obtain⟨op,oi,or,os,ot,oe,oa,ol,oc⟩:=o;simp only at I6 N5 j8 l0;subst I6;obtain⟨T,rfl⟩:∃ T:C,ot=(T:P):=⟨ot.toNat,by omega⟩
       unfold Mem.v bu at b6;simp only at b6;have p7:Fr No wr (wr.alloc (B #[.string op,.string oi,.int E or,.int E os,.int E (T:P),.int E oe,.slice oa ol oc] 266)):=(aa _ _).alloc _;have q3:=zF wr (B #[.string op,.string oi,.int E or,.int E os,.int E (T:P),.int E oe,.slice oa ol oc] 266);go_upto_region 20 with(at_lookup;refine zAz rfl _ _ 293 rfl (.map (G (w:C))) (ag #[.string x,.int E os]) (ag #[.string op,.string oi,.int E or,.int E os,.int E (T:P),.int E oe,.slice oa ol oc]) rfl rfl b6 ?_)
       generalize wr.alloc (B #[.string op,.string oi,.int E or,.int E os,.int E (T:P),.int E oe,.slice oa ol oc] 266)=W3 at *;have j9:=l0.no p7 (λ_=>id);have N6:=zh p7;have N7:=zC q3;have g9:=p7.size;clear l0 p7;go_cut [17] (λv wx=>∃ (ab pa:C) (la:am an) (lc:C),v=.pointer (G ⟨ab,0,Q⟩)/\wx.heap[ab]?=G (B #[.string x,.slice (G ⟨pa,0,Q⟩) T T,.int E (T:P),.int E oe,.int E 0,.slice la ol lc] 216)/\wx.heap[pa]?=G (B ((List.replicate T (():R)).map bw).toArray 9)/\pa≠ab/\Strs wx la lc ol/\BlkT wx la 9/\(W3:C)<=ab/\(W3:C)<=pa/\(∀ J,la=G J->J.block≠pa/\(W3:C)<=J.block)/\Fr No W3 wx);case first=>
        refine zZ (From (W3:C)) (.q 0 (.q 1 (.q 2 (.q 4 (.q 5 (.q 6 (.q 7 (.q 8 (.q 9 (.m3 3 (.m2 10 (.q 11 (.m1 12 (.m1 13 .fin))) 12 (.m1 10 (.q 11 (.m1 13 .fin)))) 10 (.m2 3 (.q 11 (.m1 12 (.m1 13 .fin))) 12 (.m1 3 (.q 11 (.m1 13 .fin)))) 12 (.m2 3 (.m1 10 (.q 11 (.m1 13 .fin))) 10 (.m1 3 (.q 11 (.m1 13 .fin)))))))))))))) _ (λw0 a6=>?_) zj;have q0:=a6.heap q3 id;have R7:=a6.size;have nf:¬ From (W3:C) (wr:C):=(by omega);have c4:∀ g:Gr (From (W3:C)) w0,g.W ⟨wr,4,Q⟩=G (.int E (T:P)):=λg=>g.fr.cell (zB q0 4) nf
        have c5:∀ g:Gr (From (W3:C)) w0,g.W ⟨wr,5,Q⟩=G (.int E oe):=λg=>g.fr.cell (zB q0 5) nf
        have c6:∀ g:Gr (From (W3:C)) w0,g.W ⟨wr,6,Q⟩=G (.slice oa ol oc):=λg=>g.fr.cell (zB q0 6) nf
        (repeat apply zN rfl rfl rfl;intro e2 hK;go_big_quiet_op;go_big_quiet_on);clear c4 c5 c6;refine zOT rfl rfl rfl ?_ ?_ ?_
        .go_wp2_with (at_make;refine bo _ rfl _ _ 30 rfl (W3:C) 9 s0 (.string ap) 1 bi e3 e6 e7 E E (T:P) (T:P) T rfl rfl rfl rfl (by rw[e8];omega) (by unfold ak;omega) (by omega) ?_;intro X1 hP a7)
         have b7:Fr No w0 X1:=be a7;have a2:M ((w0:C)<(X1:C)):=ze hP rfl;have HP:=zh (zBQ hP);clear hP a7;have s3:=b7.size;apply zm b7;have b0:Fr No W3 X1:=a6.step b7 zi;refine zAC rfl rfl ?_ ?_
         .go_wp2_with fail;apply (zAx oa oc ol _ (j9.no b0 (λ_=>id)) j8).mono;rintro en Y ⟨⟨la,lc,rfl,hL,Z,a8⟩,X⟩;have HL:=zg3 hL Z a8;clear hL Z a8;go_wp2_with fail;have g1:=X.size;apply zm X;have b1:Fr No W3 Y:=b0.step X zi;(repeat apply zN rfl rfl rfl;intro e2 hK;go_big_quiet_op;go_big_quiet_on);apply zH rfl;go_wp2_with fail;have U:Fr No Y (Y.alloc (B #[.string (),.slice Q 0 0,.int E 0,.int E 0,.int E 0,.slice Q 0 0] 216)):=(aa _ _).alloc _;have h8:=zF Y (B #[.string (),.slice Q 0 0,.int E 0,.int E 0,.int E 0,.slice Q 0 0] 216);generalize Y.alloc (B #[.string (),.slice Q 0 0,.int E 0,.int E 0,.int E 0,.slice Q 0 0] 216)=X3 at *;have g2:=U.size;apply zm U;have b8:Fr No W3 X3:=b1.step U zi;apply zH rfl;have qe:=(aa No X3).heap h8 id;obtain⟨z0,z1,z2,z3,z4,z5⟩:=cl6 qe;obtain⟨y0,y1,y2,y3,y4,y5⟩:=fl6 qe;have b9:=zh qe;clear qe;go_wp2_with fail;have h6:=set6 b9 rfl (.string x) (.slice (G ⟨w0,0,Q⟩) T T) (.int E (T:P)) (.int E oe) (.int E 0) (.slice la ol lc);refine ax ⟨h6.2.mono (λb _ h=>by omega),?_⟩;apply zW;go_wp2;go_meet;have a4:(w0:C)≠(Y:C):=(by have:=a2.out;have:=zC h8;omega);have a3:∀ J,la=G J->J.block≠(Y:C)/\J.block≠(w0:C)/\(W3:C)<=J.block:=λJ e=>by
           have h1:=HL.2.2 J e;obtain⟨cs,h2⟩:=HL.2.1 J e;have h3:=zC h2;have h4:=a2.out;have h5:=zC h8;refine⟨?_,?_,?_⟩<;>omega
          exact⟨(Y:C),(w0:C),la,lc,rfl,h6.1,((((aa No X1).step X zi).step U zi).mono (T:=Is ((Y:C))) zn).step h6.2 zi |>.heap HP a4,a4,(HL.1.no ((aa No Y).step U zi) (λ_=>id)).fr h6.2 (λJ e _=>(a3 J e).1),(HL.2.1.fr ((aa No Y).step U zi) (λ_ _=>id)).fr h6.2 (λJ e=>(a3 J e).1),by omega,by omega,λJ e=>(a3 J e).2,b8.step h6.2 (λb hb h=>by omega)⟩
         .go_wp2_with fail;have X:Fr No X1 (X1.alloc (B #[.string (),.slice Q 0 0,.int E 0,.int E 0,.int E 0,.slice Q 0 0] 216)):=(aa _ _).alloc _;have h9:=zF X1 (B #[.string (),.slice Q 0 0,.int E 0,.int E 0,.int E 0,.slice Q 0 0] 216);generalize X1.alloc (B #[.string (),.slice Q 0 0,.int E 0,.int E 0,.int E 0,.slice Q 0 0] 216)=Y at *;have g1:=X.size;apply zm X;have b1:Fr No W3 Y:=b0.step X zi;apply zH rfl;go_wp2_with fail;apply (zAx oa oc ol _ (j9.no b1 (λ_=>id)) j8).mono;rintro en X3 ⟨⟨la,lc,rfl,hL,Z,a8⟩,U⟩;have HL:=zg3 hL Z a8;clear hL Z a8;go_wp2_with fail;have g2:=U.size;apply zm U;have b8:Fr No W3 X3:=b1.step U zi;(repeat apply zN rfl rfl rfl;intro e2 hK;go_big_quiet_op;go_big_quiet_on);apply zH rfl;have qe:=((aa No Y).step U zi).heap h9 id;obtain⟨z0,z1,z2,z3,z4,z5⟩:=cl6 qe;obtain⟨y0,y1,y2,y3,y4,y5⟩:=fl6 qe;have b9:=zh qe;clear qe;go_wp2_with fail;have h6:=set6 b9 rfl (.string x) (.slice (G ⟨w0,0,Q⟩) T T) (.int E (T:P)) (.int E oe) (.int E 0) (.slice la ol lc);refine ax ⟨h6.2.mono (λb _ h=>by omega),?_⟩;apply zW;go_wp2;go_meet;have a4:(w0:C)≠(X1:C):=(by have:=a2.out;have:=zC h9;omega);have a3:∀ J,la=G J->J.block≠(X1:C)/\J.block≠(w0:C)/\(W3:C)<=J.block:=λJ e=>by
           have h1:=HL.2.2 J e;obtain⟨cs,h2⟩:=HL.2.1 J e;have h3:=zC h2;have h4:=a2.out;have h5:=zC h9;refine⟨?_,?_,?_⟩<;>omega
          exact⟨(X1:C),(w0:C),la,lc,rfl,h6.1,((((aa No X1).step X zi).step U zi).mono (T:=Is ((X1:C))) zn).step h6.2 zi |>.heap HP a4,a4,(HL.1.no (aa No X3) (λ_=>id)).fr h6.2 (λJ e _=>(a3 J e).1),(HL.2.1.fr (aa No X3) (λ_ _=>id)).fr h6.2 (λJ e=>(a3 J e).1),by omega,by omega,λJ e=>(a3 J e).2,b8.step h6.2 (λb hb h=>by omega)⟩
        .go_wp2_with fail;apply (zAx oa oc ol _ (j9.no a6 (λ_=>id)) j8).mono;rintro en X1 ⟨⟨la,lc,rfl,hL,Z,a8⟩,b7⟩;have HL:=zg3 hL Z a8;clear hL Z a8;go_wp2_with fail;have s3:=b7.size;apply zm b7;have b0:Fr No W3 X1:=a6.step b7 zi;refine zAC rfl rfl ?_ ?_
         .go_wp2_with (at_make;refine bo _ rfl _ _ 30 rfl (W3:C) 9 s0 (.string ap) 1 bi e3 e6 e7 E E (T:P) (T:P) T rfl rfl rfl rfl (by rw[e8];omega) (by unfold ak;omega) (by omega) ?_;intro Y hP a7)
          have X:Fr No X1 Y:=be a7;have a2:M ((X1:C)<(Y:C)):=ze hP rfl;have HP:=zh (zBQ hP);clear hP a7;have g1:=X.size;apply zm X;have b1:Fr No W3 Y:=b0.step X zi;(repeat apply zN rfl rfl rfl;intro e2 hK;go_big_quiet_op;go_big_quiet_on);apply zH rfl;go_wp2_with fail;have U:Fr No Y (Y.alloc (B #[.string (),.slice Q 0 0,.int E 0,.int E 0,.int E 0,.slice Q 0 0] 216)):=(aa _ _).alloc _;have h8:=zF Y (B #[.string (),.slice Q 0 0,.int E 0,.int E 0,.int E 0,.slice Q 0 0] 216);generalize Y.alloc (B #[.string (),.slice Q 0 0,.int E 0,.int E 0,.int E 0,.slice Q 0 0] 216)=X3 at *;have g2:=U.size;apply zm U;have b8:Fr No W3 X3:=b1.step U zi;apply zH rfl;have qe:=(aa No X3).heap h8 id;obtain⟨z0,z1,z2,z3,z4,z5⟩:=cl6 qe;obtain⟨y0,y1,y2,y3,y4,y5⟩:=fl6 qe;have b9:=zh qe;clear qe;go_wp2_with fail;have h6:=set6 b9 rfl (.string x) (.slice (G ⟨X1,0,Q⟩) T T) (.int E (T:P)) (.int E oe) (.int E 0) (.slice la ol lc);refine ax ⟨h6.2.mono (λb _ h=>by omega),?_⟩;apply zW;go_wp2;go_meet;have a4:(X1:C)≠(Y:C):=(by have:=a2.out;have:=zC h8;omega);have a3:∀ J,la=G J->J.block≠(Y:C)/\J.block≠(X1:C)/\(W3:C)<=J.block:=λJ e=>by
           have h1:=HL.2.2 J e;obtain⟨cs,h2⟩:=HL.2.1 J e;have h3:=zC h2;have h4:=a2.out;have h5:=zC h8;refine⟨?_,?_,?_⟩<;>omega
          exact⟨(Y:C),(X1:C),la,lc,rfl,h6.1,(((aa No Y).step U zi).mono (T:=Is ((Y:C))) zn).step h6.2 zi |>.heap HP a4,a4,(HL.1.no (((aa No X1).step X zi).step U zi) (λ_=>id)).fr h6.2 (λJ e _=>(a3 J e).1),(HL.2.1.fr (((aa No X1).step X zi).step U zi) (λ_ _=>id)).fr h6.2 (λJ e=>(a3 J e).1),by omega,by omega,λJ e=>(a3 J e).2,b8.step h6.2 (λb hb h=>by omega)⟩
         .go_wp2_with fail;have X:Fr No X1 (X1.alloc (B #[.string (),.slice Q 0 0,.int E 0,.int E 0,.int E 0,.slice Q 0 0] 216)):=(aa _ _).alloc _;have h9:=zF X1 (B #[.string (),.slice Q 0 0,.int E 0,.int E 0,.int E 0,.slice Q 0 0] 216);generalize X1.alloc (B #[.string (),.slice Q 0 0,.int E 0,.int E 0,.int E 0,.slice Q 0 0] 216)=Y at *;have g1:=X.size;apply zm X;have b1:Fr No W3 Y:=b0.step X zi;apply zH rfl;go_wp2_with (at_make;refine bo _ rfl _ _ 30 rfl (W3:C) 9 s0 (.string ap) 1 bi e3 e6 e7 E E (T:P) (T:P) T rfl rfl rfl rfl (by rw[e8];omega) (by unfold ak;omega) (by omega) ?_;intro X3 hP a7)
          have U:Fr No Y X3:=be a7;have a2:M ((Y:C)<(X3:C)):=ze hP rfl;have HP:=zh (zBQ hP);clear hP a7;have g2:=U.size;apply zm U;have b8:Fr No W3 X3:=b1.step U zi;(repeat apply zN rfl rfl rfl;intro e2 hK;go_big_quiet_op;go_big_quiet_on);apply zH rfl;have qe:=((aa No Y).step U zi).heap h9 id;obtain⟨z0,z1,z2,z3,z4,z5⟩:=cl6 qe;obtain⟨y0,y1,y2,y3,y4,y5⟩:=fl6 qe;have b9:=zh qe;clear qe;go_wp2_with fail;have h6:=set6 b9 rfl (.string x) (.slice (G ⟨Y,0,Q⟩) T T) (.int E (T:P)) (.int E oe) (.int E 0) (.slice la ol lc);refine ax ⟨h6.2.mono (λb _ h=>by omega),?_⟩;apply zW;go_wp2;go_meet;have a4:(Y:C)≠(X1:C):=(by have:=a2.out;have:=zC h9;omega);have a3:∀ J,la=G J->J.block≠(X1:C)/\J.block≠(Y:C)/\(W3:C)<=J.block:=λJ e=>by
           have h1:=HL.2.2 J e;obtain⟨cs,h2⟩:=HL.2.1 J e;have h3:=zC h2;have h4:=a2.out;have h5:=zC h9;refine⟨?_,?_,?_⟩<;>omega
          exact⟨(X1:C),(Y:C),la,lc,rfl,h6.1,((aa No X3).mono (T:=Is ((X1:C))) zn).step h6.2 zi |>.heap HP a4,a4,(HL.1.no (((aa No X1).step X zi).step U zi) (λ_=>id)).fr h6.2 (λJ e _=>(a3 J e).1),(HL.2.1.fr (((aa No X1).step X zi).step U zi) (λ_ _=>id)).fr h6.2 (λJ e=>(a3 J e).1),by omega,by omega,λJ e=>(a3 J e).2,b8.step h6.2 (λb hb h=>by omega)⟩
        .go_wp2_with fail;have b7:Fr No w0 (w0.alloc (B #[.string (),.slice Q 0 0,.int E 0,.int E 0,.int E 0,.slice Q 0 0] 216)):=(aa _ _).alloc _;have k0:=zF w0 (B #[.string (),.slice Q 0 0,.int E 0,.int E 0,.int E 0,.slice Q 0 0] 216);generalize w0.alloc (B #[.string (),.slice Q 0 0,.int E 0,.int E 0,.int E 0,.slice Q 0 0] 216)=X1 at *;have s3:=b7.size;apply zm b7;have b0:Fr No W3 X1:=a6.step b7 zi;refine zAC rfl rfl ?_ ?_
         .go_wp2_with (at_make;refine bo _ rfl _ _ 30 rfl (W3:C) 9 s0 (.string ap) 1 bi e3 e6 e7 E E (T:P) (T:P) T rfl rfl rfl rfl (by rw[e8];omega) (by unfold ak;omega) (by omega) ?_;intro Y hP a7)
          have X:Fr No X1 Y:=be a7;have a2:M ((X1:C)<(Y:C)):=ze hP rfl;have HP:=zh (zBQ hP);clear hP a7;have g1:=X.size;apply zm X;have b1:Fr No W3 Y:=b0.step X zi;apply zH rfl;go_wp2_with fail;apply (zAx oa oc ol _ (j9.no b1 (λ_=>id)) j8).mono;rintro en X3 ⟨⟨la,lc,rfl,hL,Z,a8⟩,U⟩;have HL:=zg3 hL Z a8;clear hL Z a8;go_wp2_with fail;have g2:=U.size;apply zm U;have b8:Fr No W3 X3:=b1.step U zi;(repeat apply zN rfl rfl rfl;intro e2 hK;go_big_quiet_op;go_big_quiet_on);apply zH rfl;have qe:=(((aa No X1).step X zi).step U zi).heap k0 id;obtain⟨z0,z1,z2,z3,z4,z5⟩:=cl6 qe;obtain⟨y0,y1,y2,y3,y4,y5⟩:=fl6 qe;have b9:=zh qe;clear qe;go_wp2_with fail;have h6:=set6 b9 rfl (.string x) (.slice (G ⟨X1,0,Q⟩) T T) (.int E (T:P)) (.int E oe) (.int E 0) (.slice la ol lc);refine ax ⟨h6.2.mono (λb _ h=>by omega),?_⟩;apply zW;go_wp2;go_meet;have a4:(X1:C)≠(w0:C):=(by have:=a2.out;have:=zC k0;omega);have a3:∀ J,la=G J->J.block≠(w0:C)/\J.block≠(X1:C)/\(W3:C)<=J.block:=λJ e=>by
           have h1:=HL.2.2 J e;obtain⟨cs,h2⟩:=HL.2.1 J e;have h3:=zC h2;have h4:=a2.out;have h5:=zC k0;refine⟨?_,?_,?_⟩<;>omega
          exact⟨(w0:C),(X1:C),la,lc,rfl,h6.1,(((aa No Y).step U zi).mono (T:=Is ((w0:C))) zn).step h6.2 zi |>.heap HP a4,a4,(HL.1.no (aa No X3) (λ_=>id)).fr h6.2 (λJ e _=>(a3 J e).1),(HL.2.1.fr (aa No X3) (λ_ _=>id)).fr h6.2 (λJ e=>(a3 J e).1),by omega,by omega,λJ e=>(a3 J e).2,b8.step h6.2 (λb hb h=>by omega)⟩
         .go_wp2_with fail;apply (zAx oa oc ol _ (j9.no b0 (λ_=>id)) j8).mono;rintro en Y ⟨⟨la,lc,rfl,hL,Z,a8⟩,X⟩;have HL:=zg3 hL Z a8;clear hL Z a8;go_wp2_with fail;have g1:=X.size;apply zm X;have b1:Fr No W3 Y:=b0.step X zi;apply zH rfl;go_wp2_with (at_make;refine bo _ rfl _ _ 30 rfl (W3:C) 9 s0 (.string ap) 1 bi e3 e6 e7 E E (T:P) (T:P) T rfl rfl rfl rfl (by rw[e8];omega) (by unfold ak;omega) (by omega) ?_;intro X3 hP a7)
          have U:Fr No Y X3:=be a7;have a2:M ((Y:C)<(X3:C)):=ze hP rfl;have HP:=zh (zBQ hP);clear hP a7;have g2:=U.size;apply zm U;have b8:Fr No W3 X3:=b1.step U zi;(repeat apply zN rfl rfl rfl;intro e2 hK;go_big_quiet_op;go_big_quiet_on);apply zH rfl;have qe:=(((aa No X1).step X zi).step U zi).heap k0 id;obtain⟨z0,z1,z2,z3,z4,z5⟩:=cl6 qe;obtain⟨y0,y1,y2,y3,y4,y5⟩:=fl6 qe;have b9:=zh qe;clear qe;go_wp2_with fail;have h6:=set6 b9 rfl (.string x) (.slice (G ⟨Y,0,Q⟩) T T) (.int E (T:P)) (.int E oe) (.int E 0) (.slice la ol lc);refine ax ⟨h6.2.mono (λb _ h=>by omega),?_⟩;apply zW;go_wp2;go_meet;have a4:(Y:C)≠(w0:C):=(by have:=a2.out;have:=zC k0;omega);have a3:∀ J,la=G J->J.block≠(w0:C)/\J.block≠(Y:C)/\(W3:C)<=J.block:=λJ e=>by
           have h1:=HL.2.2 J e;obtain⟨cs,h2⟩:=HL.2.1 J e;have h3:=zC h2;have h4:=a2.out;have h5:=zC k0;refine⟨?_,?_,?_⟩<;>omega
          exact⟨(w0:C),(Y:C),la,lc,rfl,h6.1,((aa No X3).mono (T:=Is ((w0:C))) zn).step h6.2 zi |>.heap HP a4,a4,(HL.1.no ((aa No Y).step U zi) (λ_=>id)).fr h6.2 (λJ e _=>(a3 J e).1),(HL.2.1.fr ((aa No Y).step U zi) (λ_ _=>id)).fr h6.2 (λJ e=>(a3 J e).1),by omega,by omega,λJ e=>(a3 J e).2,b8.step h6.2 (λb hb h=>by omega)⟩
       case rest=>
        obtain⟨ab,pa,la,lc,rfl,n6,w1,a4,g3,Z,N8,N9,p8,I8⟩:=hcut;have n7:Fr No wr wc:=N6.step I8 zi;have O0:=n7.size;have V0:=hZ.no n7 (λ_=>id);have s4:wc.heap[gm]?=wr.heap[gm]?:=n7.block gm v7.lt id;have I9:=I7.out wc s4;have HK:M (∀ W:aj,Fr (λb=>b=ab\/b=pa) wc W->(W.ownsRow (w4:C) 216 6 (.slice av O cv) (O:C) (arflat O)/\AFresh W (w4:C) O)/\Fr (From (w4:C)) w4 W/\Strs W la lc ol/\BlkT W la 9/\PMap W (w:C) (mapP (zr I L)) n/\Ints W za zc zs):=λW hW=>by
         have n8:Fr (λb=>(wr:C)<=b) wr W:=(n7.mono zn).step hW (λb hb h=>by omega);refine⟨⟨zG a5 n8 (λb hb h=>by have h1:=ze a5 hb;omega),b4.fr n8 (λb _ h1 h2=>by omega)⟩,hf.step n8 (λb hb h=>by have:=hf.size;omega),g3.fr hW (λJ e _ h=>?_),Z.fr hW (λJ e h=>?_),p6.fr n8 (by have:=p6.lt;omega),hZ.fr n8 (λJ e v5 h=>by have:=(hZ.cell J e v5).2.1;omega)⟩
         .obtain⟨cs,h2⟩:=Z J e;have:=p8 J e;rcases h with h|h
          .rw[h]at h2;rw[n6]at h2;cases h2
          .exact this.1 h
         .obtain⟨cs,h2⟩:=Z J e;have:=p8 J e;rcases h with h|h
          .rw[h]at h2;rw[n6]at h2;cases h2
          .exact this.1 h
        have w7:M ((∀ J,la=G J->(w4:C)<=J.block)/\(w4:C)<=pa/\(w4:C)<=ab/\pa<(wc:C)/\ab<(wc:C)):=⟨λJ e=>by have:=p8 J e;have:=hf.size;omega,by have:=hf.size;omega,by have:=hf.size;omega,zC w1,zC n6⟩
        clear hZ I3 v7 p6 q3 j9 N7 g9 g3 Z N8 N9 p8 I8 n7 O0 s4 a5 b4 hf b6 hc;go_wp2_with (at_lookup;refine zAz rfl _ _ 298 rfl (.map (G gm)) (.string x) (.slice za zs zc) rfl rfl I9 ?_)
        clear I9;go_loopw [103] (λi w8=>∃ q:C,q<=(zs:C)/\i=.int E (q:P)/\w8.heap[ab]?=G (B #[.string x,.slice (G ⟨pa,0,Q⟩) T T,.int E (T:P),.int E oe,.int E ((cntJ T (zs.take q):C):P),.slice la ol lc] 216)/\w8.heap[pa]?=G (B ((psJ (zr I L) x T (zs.take q)).map bw).toArray 9)/\M (Fr (λb=>b=ab\/b=pa) wc w8)) (λi _=>(zs:C)-(ai i).toNat);case atStart=>exact⟨0,by omega,rfl,by simpa [cntJ]using n6,by rw[List.take_zero,zOr];exact w1,aa _ _⟩
        case round=>
         obtain⟨q,hq,rfl,qb,qp,n9⟩:=hrel;clear n6 w1;by_cases J0:q<(zs:C)
         .have O1:(q:P)<(zs:C):=(by omega);obtain⟨b',R8,s,e9,w9,V1⟩:=(HK _ n9).2.2.2.2.2.at J0;have p9:M (zs.take (q+1)=zs.take q++[s]):=(by unfold M;rw[aq,w9];rfl);have p4:=au w9;obtain⟨V2,p3⟩:=n4.out s p4;obtain⟨⟨mp,mi,mr,ms,mt,me,ma,ml,mc⟩,o0⟩:=Option.isSome_iff_exists.1 ((j7.mem s).1 p4);have J1:=zh o0;have k3:=(m4 x s _ o0).2.2;obtain rfl:=e9;clear w9 p4 o0;obtain⟨-,x1,x2⟩:=cl3 qb;by_cases x0:s<=T
          .obtain⟨kk,rfl⟩:∃ kk:C,s=(kk:P)+1:=⟨(s-1).toNat,by omega⟩
           have J2:kk<T:=(by omega);have R9:(kk:P)<T:=(by omega);have O2:M (pathAt (zr I L) x kk=mp):=(by unfold M pathAt;rw[J1]);have o1:∀ W:aj,PMap W (w:C) (mapP (zr I L)) n->(ci 293 (.map (G (w:C))) (ag #[.string x,.int E ((kk:P)+1)]) ae).run al W=.ok (ag #[.string mp,.string mi,.int E mr,.int E ms,.int E mt,.int E me,.slice ma ml mc]) W:=λW hW=>by
            rw[hW.look (zH5 W) bc h7 k3];unfold mapP;rw[J1];rfl
           have x5:=zh o1;have O3:=hfdM;clear o1;go_upto_region 25 with(fail)
           refine zO (Is pa) [(0,ae),(1,ae),(2,ae),(3,ae),(4,ae),(5,ae),(6,ae),(7,ae),(8,ae),(9,ae),(10,ae),(11,ah)] (λw0 a6=>?_);have x6:=a6.heap qb id;have r0:=a6.heap qp id;have d1:∀ g:Gr (Is pa) w0,g.W ⟨ab,1,Q⟩=G (.slice (G ⟨pa,0,Q⟩) T T):=λg=>g.fr.cell (zB x6 1) (λh=>a4 h.symm)
           have d2:∀ g:Gr (Is pa) w0,(ci 293 (.map (G (w:C))) (ag #[.string x,.int E ((kk:P)+1)]) ae).run al g.W=.ok (ag #[.string mp,.string mi,.int E mr,.int E ms,.int E mt,.int E me,.slice ma ml mc]) g.W:=λg=>x5 _ (((HK _ n9).2.2.2.2.1.fr a6 id).fr g.fr (by have:=w7.2.1;have:=v2.lt;omega))
           apply zR rfl rfl rfl;intro e2 hK;go_big_quiet_op;go_big_quiet_on;apply zR rfl rfl rfl;intro e2 hK;go_big_quiet_op;go_big_quiet_on;apply zR rfl rfl rfl;intro e2 hK;go_big_quiet_op;go_big_quiet_on;apply zR rfl rfl rfl;intro e2 hK;go_big_quiet_op;go_big_quiet_on;apply zR rfl rfl rfl;intro e2 hK;go_big_quiet_op;go_big_quiet_on;apply zR rfl rfl rfl;intro e2 hK;go_big_quiet_op;go_big_quiet_on;apply zR rfl rfl rfl;intro e2 hK;go_big_quiet_op;go_big_quiet_on;apply zR rfl rfl rfl;intro e2 hK;go_big_quiet_op;go_big_quiet_on;apply zR rfl rfl rfl;intro e2 hK;refine zB5 rfl _ _ 293 rfl (.map (G (w:C))) (ag #[.string x,.int E ((kk:P)+1)]) (ag #[.string mp,.string mi,.int E mr,.int E ms,.int E mt,.int E me,.slice ma ml mc]) rfl rfl (λW hW=>by obtain⟨g,rfl⟩:=hW;exact d2 g) ?_
           go_frame
           go_big_quiet_on;apply zR rfl rfl rfl;intro e2 hK;go_big_quiet_op;go_big_quiet_on;apply zR rfl rfl rfl;intro e2 hK;go_big_quiet_op;go_big_quiet_on;clear d1 d2 x1 x2;have J3:((psJ (zr I L) x T (zs.take q)).map bw).toArray.size=T:=(by simp[zFf]);have x3:w0.frozen? ⟨pa,kk,Q⟩=false:=zD r0 kk;obtain⟨ov,x4⟩:∃ ov,w0 ⟨pa,kk,Q⟩=G ov:=by
            rw[zB r0];exact⟨_,Array.getElem?_eq_getElem (by rw[J3];exact J2)⟩
           apply zu rfl;go_wp2_with fail;refine ax ⟨br (S:=Is pa) (p:=⟨pa,kk,Q⟩) (aa _ _) (λ_=>rfl) _,?_⟩;apply zY;have x7:Fr (Is pa) w0 (w0.setCell ⟨pa,kk,Q⟩ (.string mp)):=br (S:=Is pa) (p:=⟨pa,kk,Q⟩) (aa _ _) (λ_=>rfl) _;have J4:=zE r0 kk (.string mp);have o2:=x7.heap x6 (λh=>a4 h.symm);have O4:M (Fr (λb=>b=ab\/b=pa) wc (w0.setCell ⟨pa,kk,Q⟩ (.string mp))):=(n9.step a6 zn).step x7 (λb _ h=>.inr h);have O5:M (cntJ T (zs.take q)<=1000):=(by have h1:=zPW T (zs.take q);have h2:=n3;unfold M;rw[List.length_take]at h1;omega);clear x3 x4 r0 x6 x7 a6 qp qb J3 O3;generalize w0.setCell ⟨pa,kk,Q⟩ (.string mp)=W5 at *;obtain⟨cn,g4⟩:∃ cn:C,cn=cntJ T (zs.take q):=⟨_,rfl⟩
           have U0:cn<=1000:=(by rw[g4];exact O5);rw[<-g4]at o2;have O6:=zh g4;clear g4;have x3:W5 ⟨ab,4,Q⟩=G (.int E (cn:P)):=zB o2 4;have x4:W5.frozen? ⟨ab,4,Q⟩=false:=zD o2 4;have q6:=zE o2 4 (.int E ((cn:P)+1));have x8:Fr (Is ab) W5 (W5.setCell ⟨ab,4,Q⟩ (.int E ((cn:P)+1))):=br (S:=Is ab) (p:=⟨ab,4,Q⟩) (aa _ _) (λ_=>rfl) _;have J5:=x8.heap J4 a4;have g6:M (Fr (λb=>b=ab\/b=pa) wc (W5.setCell ⟨ab,4,Q⟩ (.int E ((cn:P)+1)))):=O4.step x8 (λb _ h=>.inl h);simp only[List.setIfInBounds_toArray,List.set_cons_zero,List.set_cons_succ]at q6;have J6:(W5.setCell ⟨ab,4,Q⟩ (.int E ((cn:P)+1))).heap[ab]?=G (B #[.string x,.slice (G ⟨pa,0,Q⟩) T T,.int E (T:P),.int E oe,.int E ((cntJ T (zs.take (q+1)):C):P),.slice la ol lc] 216):=by
            rw[p9,zG8,if_pos x0,<-O6];exact q6
           have d4:(W5.setCell ⟨ab,4,Q⟩ (.int E ((cn:P)+1))).heap[pa]?=G (B ((psJ (zr I L) x T (zs.take (q+1))).map bw).toArray 9):=by
            rw[p9.out,zOq _ _ _ _ _ J2,O2.out,List.map_set,J5];simp
           have H6:=zg2 J6 d4;clear q6 J6 J4 J5 d4 o2 x8;go_wp2;go_roundw;case rel=>exact⟨q+1,by omega,by go_num,H6.1,H6.2,g6⟩
           case measure=>simp[ai];omega
          .go_wp2;go_roundw;case rel=>exact⟨q+1,by omega,by go_num,by rw[p9,zG8,if_neg x0];exact qb,by rw[p9,zMk _ _ _ _ _ x0];exact qp,n9⟩
           case measure=>simp[ai];omega
         .obtain rfl:q=(zs:C):=by omega
          rw[aw]at qb qp;obtain⟨cn,g4⟩:∃ cn:C,cn=cntJ T zs:=⟨_,rfl⟩
          rw[<-g4]at qb;have x9:Arr.mk x (psJ (zr I L) x T zs) (T:P) oe (cn:P) ol=buildA (zr I L) x:=by
           unfold buildA;rw[N3,g4,zMl j7,zLl j7 (λs hs=>(n4 s hs).1)];rfl
          have V3:=zh x9;obtain⟨⟨a5,b4⟩,hf,g3,Z,_,_⟩:=HK.out _ n9;have k4:=zFW qp (by rw[zFf];unfold ak;omega);have o3:BlkT wr (G ⟨pa,0,Q⟩) 9:=λJ e=>by cases e;exact⟨_,qp⟩
          rw[zFf]at k4;obtain⟨y0,y1,y2,y3,y4,y5⟩:=cl6 qb;obtain⟨A,hA⟩:∃ A:ArrM,A=⟨Arr.mk x (psJ (zr I L) x T zs) (T:P) oe (cn:P) ol,G ⟨pa,0,Q⟩,T,la,lc⟩:=⟨_,rfl⟩
          have k5:A.vals=#[.string x,.slice (G ⟨pa,0,Q⟩) T T,.int E (T:P),.int E oe,.int E (cn:P),.slice la ol lc]:=(by rw[hA];simp[ArrM.vals,zFf]);have o4:A.toArr=buildA (zr I L) x:=(by rw[hA];exact x9);have s5:∀ u∈(#[.string x,.slice (G ⟨pa,0,Q⟩) T T,.int E (T:P),.int E oe,.int E (cn:P),.slice la ol lc]:Array az).toList,u.oneCell'=true:=(by rw[<-k5];exact zJ7 A);have HS:=zg5 b4 g3 Z k4 o3;have HA:=zg3 k5 o4 hA;have J7:=zh s5;have J8:=zh a5;have O7:=zh hf;have U1:=hf.size;clear b4 g3 Z k4 o3 k5 o4 hA s5 hf qb qp g4 x9;go_wp2_with (at_builtin;refine cg _ rfl _ _ 210 rfl (w4:C) 216 i0 (ag #[.string ap,.slice Q 0 0,.int E 0,.int E 0,.int E 0,.slice Q 0 0]) 6 88 Tryz.underlying210 L8 L9 M0 M1 rfl (by decide) _ _ _ rfl (a5.alloc _) ⟨wr,0,Q⟩ 1 1 (#[.string x,.slice (G ⟨pa,0,Q⟩) T T,.int E (T:P),.int E oe,.int E (cn:P),.slice la ol lc]:Array az).toList rfl rfl (zk _ #[.string x,.slice (G ⟨pa,0,Q⟩) T T,.int E (T:P),.int E oe,.int E (cn:P),.slice la ol lc] _ rfl) J7.out (by unfold ak;omega) (by omega) (by first|omega|(simp;done)|(simp;omega)) ?_;intro v' w6 e1 i5 _;obtain⟨O8,O9,rfl⟩:=zI e1)
          have i3:Fr No wr (wr.alloc (B #[.string x,.slice (G ⟨pa,0,Q⟩) T T,.int E (T:P),.int E oe,.int E (cn:P),.slice la ol lc] 216)):=(aa _ _).alloc _;have o5:=J8.alloc (B #[.string x,.slice (G ⟨pa,0,Q⟩) T T,.int E (T:P),.int E oe,.int E (cn:P),.slice la ol lc] 216);have y7:Fr (λb=>(ay av O cv).ownBlock=G b) (wr.alloc (B #[.string x,.slice (G ⟨pa,0,Q⟩) T T,.int E (T:P),.int E oe,.int E (cn:P),.slice la ol lc] 216)) w6:=bd i5;obtain⟨k5,o4,hA⟩:=HA.out;obtain⟨b4,g3,Z,k4,o3⟩:=HS.out;have y8:Strs wr A.pa A.pc A.ps/\Strs wr A.la A.lc A.l:=(by rw[hA];exact⟨k4,g3⟩);have y9:BlkT wr A.pa 9/\BlkT wr A.la 9:=(by rw[hA];exact⟨o3,Z⟩);have b0:(∀ J,A.pa=G J->(w4:C)<=J.block)/\∀ J,A.la=G J->(w4:C)<=J.block:=by
           rw[hA];exact⟨λJ e=>by cases e;exact w7.2.1,w7.1⟩
          have s6:AFresh w6 (w4:C) (O++[A]):=AFresh.own (AFresh.snoc (b4.fr i3 (λ_ _ _=>id)) ⟨y8.1.no i3 (λ_=>id),y8.2.no i3 (λ_=>id)⟩ ⟨y9.1.fr i3 (λ_ _=>id),y9.2.fr i3 (λ_ _=>id)⟩ b0) o5 y7;have J9:(O++[A]).map bq=(a9.take (j+1)).map (buildA (zr I L)):=by
           rw[N1,bb,bb,HO];simp[o4]
          have k6:Fr (From (w4:C)) w4 w6:=(O7.step i3 zn).step y7 (λb _ h=>zQ o5 h);rw[<-k5,<-zH3]at e1;have HF:=zg4 e1 s6 J9 k6;clear e1 s6 J9 k6 i5 y7 o5 i3 y0 y1 y2 y3 y4 y5 a5 k5 o4 hA b4 g3 Z k4 o3 y8 y9 b0;go_roundw;case rel=>exact⟨j+1,O++[A],O8,O9,by omega,by rw[bh,N0];rfl,by rw[bh];rfl,by go_num,by rw[bh];exact HF.1,HF.2.1,zh HF.2.2.1,HF.2.2.2⟩
          case measure=>simp[ai];omega
      .obtain rfl:j=(a9:C):=by omega
       obtain⟨a',c',hv,hR,i6⟩:=Arrs.of_own a5 (λm hm=>(b4 m hm).1);cases hv;have ho:=HO.out;rw[aw]at ho;have o6:=zAq a5 j6;have H:=zg5 hR i6 b4 (And.intro ho o6) ((p5.trans hf (λb hb h=>h) (λb hb h=>by unfold From at h ⊢;have:=j6.out;omega)).mono (T:=No) (λb hb h=>by omega));clear a5 b4 HO hf hR i6 ho o6;go_wp2;go_ret;exact⟨⟨_,_,O,a9,rfl,H.1,λJ e=>by have:=H.2.1 J e;have:=j6.out;omega,λm hm=>⟨(H.2.2.1 m hm).1,(H.2.2.1 m hm).2.1,λJ e=>by have:=(H.2.2.1 m hm).2.2.1 J e;have:=j6.out;omega,λJ e=>by have:=(H.2.2.1 m hm).2.2.2 J e;have:=j6.out;omega⟩,s1,H.2.2.2.1.1,by have:=m8.out;omega,H.2.2.2.1.2⟩,H.2.2.2.2⟩
    .intro x s c kl y ps w3 o7 o8 k8 hv d3 s7 i9 z7 s8 R0;obtain⟨x',s',e,h7,k3⟩:=zIj o8;obtain⟨rfl,rfl⟩:x=x'/\s=s':=by simpa using e
     obtain rfl:plL (x,s)=kl:=Option.some.inj ((keyP h7 k3).symm.trans o8);have HD:M (has D (plL (x,s))=ah):=zLS d3;have k9:=zh k8;have L0:M ((W1:C)≠gm):=(by have:=j4.out;unfold M;omega);have R1:M ((W1:C)=gm+1):=j4.out;have V4:=zh s8;have U2:(W1:C)+1<=(w3:C):=(by omega);clear s8;have L3:=hG.grown z7 (λe=>by have:=Option.some.inj e;exact L0 this.symm) (λj e=>by have:=Option.some.inj e;omega);have d6:M (Fr (From (w:C)) w w3):=Hf.step (c8 z7) (λb hb e=>by unfold Is at e;unfold From;have:=t9.out;have:=j4.out;omega);clear k8 d3 hv e o8 z7 Hf hG;have L4:=s7.alloc (B #[.string x,.int E s] 295);have r4:Fr No w3 (w3.alloc (B #[.string x,.int E s] 295)):=(aa _ _).alloc _;have m7:=L3.grown (r4.grown (row:=Q) (λ_ h=>h.elim)) (by simp) (λj e=>by cases e);have R2:M ((w3.alloc (B #[.string x,.int E s] 295)).heap.size=(w3:C)+1):=(by unfold M;simp);have q4:=zF w3 (B #[.string x,.int E s] 295);go_upto_region 14 with(fail)
     generalize w3.alloc (B #[.string x,.int E s] 295)=W4 at *;have M9:=r4.size;have V5:=zC q4;have p5:M (Fr (From (w:C)) w W4):=d6.step r4 zn;clear r4 L3 s7 d6 R0;refine zZ (λb=>b=gm\/((W1:C)+1<=b/\b<(w3:C))) (.q 0 (.q 1 (.q 2 (.q 3 (.q 4 (.q 5 (.q 7 (.q 8 (.m2 6 (.m1 9 (.m1 10 (.m1 11 .fin))) 9 (.m1 6 (.m1 10 (.m1 11 .fin)))))))))))) _ (λw0 a6=>?_) zj;have i7:=a6.grown (row:=Q) (λ_ h=>h.elim);have R3:=m7.grown i7 (by simp) (λj e=>by cases e);have L5:=L4.kept i7 (by simp) (by simp);have q0:=a6.heap q4 id;have e3:=a6.size;have R4:M (Fr (From (w:C)) w w0):=p5.step a6 zn;have c0:∀ g:Gr (λb=>b=gm\/((W1:C)+1<=b/\b<(w3:C))) w0,g.W ⟨w3,0,Q⟩=G (.string x):=λg=>g.fr.cell (zB q0 0) (λh=>by have:=j4.out;rcases h with h|h<;>dsimp only at h<;>omega)
     have c1:∀ g:Gr (λb=>b=gm\/((W1:C)+1<=b/\b<(w3:C))) w0,g.W ⟨w3,1,Q⟩=G (.int E s):=λg=>g.fr.cell (zB q0 1) (λh=>by have:=j4.out;rcases h with h|h<;>dsimp only at h<;>omega)
     obtain⟨v,b5,i8,n3,o9⟩:=m7.look (by unfold ak;omega) h7;have g0:=i8.kept i7 (row:=Q) (by cases v.ownBlock<;>simp);have L6:gm<(w0:C):=R3.lt;have p0:w0.heap[gm]?=W4.heap[gm]?:=a6.block gm m7.lt id;have p1:M (∀ b,v.ownBlock=G b->(W1:C)+1<=b/\b<(w3:C)):=λb e=>by
      have h1:=zQ i8.1 e;have h2:=ze i8.1 e;have h3:=BlkT.ne i8.1 (a:=G ⟨w3,0,Q⟩) (T:=295) (λJ e=>by cases e;exact⟨_,q4⟩) (by decide) _ rfl;have h4:=R2.out;have h5:b≠(w3:C):=λe'=>h3 (by rw[e,e'])
      unfold From at h1;omega
     have z8:=zh o9;have HA:M (∀ (av:am an) (wb:aj) (vb:az),w0.grownBy wb v.ownBlock->wb.ownsRow ((W1:C)+1) 3 1 vb ((f (kb x)).length+1) ((f (kb x)).map (Value.int E)++[.int E s])->(vb.ownBlock=v.ownBlock\/vb.ownBlock=G ((w0:C)+1))->
       ∃ w6,(Instr.mapUpdate 298 (.map (G gm)) (.string x) vb).run al wb=.ok () w6/\GMap w6 ((W1:C)+1) gm (λz=>if z=kb x then f (kb x)++[s]else f z) (N+1)/\w6.ranges al 295 heldV (w:C) (W1:C) n D (λz=>e5 z&&!z.sameKey (plL (x,s))) o7/\Fr (λb=>b=gm\/((W1:C)+1<=b/\b<(w3:C))) wb w6/\M (Fr (From (w:C)) w w6)/\(W1:C)+1<=(w6:C)):=by
      intro av wb vb hg a5 d3;obtain⟨w6,r1,r2,r3⟩:=z8.out s k3 wb vb (i7.but _ |>.andThen hg (λj h=>.inr h)) (g0.appended a5 k3) (d3.imp id (λh=>⟨_,h,by omega⟩));have V6:=R1.out;have V7:=t9.out;have V8:=hg.size;have r5:=r3.size;refine⟨w6,r1,r2,(L5.kept hg ?_ ?_).kept r3 ?_ ?_,(c8 r3).mono (λb _ e=>.inl e),(R4.step (bd hg) ?_).step (c8 r3) ?_,by omega⟩;·intro e;have:=p1.out _ e.symm;omega
      .intro e;have:=p1.out _ e.symm;omega
      .intro e;have:=Option.some.inj e;omega
      .intro e;have:=Option.some.inj e;omega
      .intro b hb e;have:=p1.out _ e;omega
      .intro b hb e;omega
     have L7:M (Grp D (λz=>e5 z&&!z.sameKey (plL (x,s))) (λz=>if z=kb x then f (kb x)++[s]else f z)):=HG.step h7 k3 k9 HD;clear o9 k9 HG;(repeat apply zN rfl rfl rfl;intro e2 hK;go_big_quiet_op;go_big_quiet_on);clear c0 c1;refine zAC rfl rfl ?_ ?_
     .go_wp2_with (at_lookup;refine zAz rfl _ _ 298 rfl (.map (G gm)) (.string x) v rfl rfl (b5 _ p0) ?_)
      apply zq;apply zH rfl;go_wp2_with fail;apply zp;apply zH rfl;go_wp2_with (at_builtin;refine cx _ rfl _ _ 22 rfl ((W1:C)+1) 3 j0 (.int E 0) 1 8 cr D5 D6 D7 D8 rfl (by decide) v _ _ rfl (g0.1.alloc _) ⟨w0,0,Q⟩ 1 1 [.int E s] rfl rfl (cell_one_new _ _ _) (ints_oneCell _ [s]) (by unfold ak;omega) (by omega) (by simp;omega) ?_;intro vb wb i4 d0 _ d3)
      have z9:=(ct w0 (B #[.int E s] 3) v.ownBlock).andThen d0 (λj h=>.inr h);obtain⟨w6,A0,A1,g5,k6,A2,r5⟩:=HA.out Q wb vb z9 i4 (by simpa using d3);refine ax ⟨(bd d0).mono (λb _ e=>.inr (p1 b e)),?_⟩;apply zH rfl;go_wp2_with (at_mapUpdate;refine zEp rfl _ _ _ 298 rfl (.map (G gm)) (.string x) vb rfl rfl rfl A0 ?_)
      apply zf k6;apply zW;go_wp2;go_roundw;case rel=>exact⟨_,o7,N+1,_,g5,by omega,A1,L7,A2,r5⟩
      case measure=>rw[g5.left_eq,m5.left_eq];exact i9
     .go_wp2_with fail;apply zp;apply zH rfl;go_wp2_with (at_lookup;refine zAz rfl _ _ 298 rfl (.map (G gm)) (.string x) v rfl rfl (b5 _ ((((aa No w0).alloc _).block gm L6 id).trans p0)) ?_)
      apply zq;apply zH rfl;go_wp2_with (at_builtin;refine cx _ rfl _ _ 22 rfl ((W1:C)+1) 3 j0 (.int E 0) 1 8 cr D5 D6 D7 D8 rfl (by decide) v _ _ rfl (g0.1.alloc _) ⟨w0,0,Q⟩ 1 1 [.int E s] rfl rfl (cell_one_new _ _ _) (ints_oneCell _ [s]) (by unfold ak;omega) (by omega) (by simp;omega) ?_;intro vb wb i4 d0 _ d3)
      have z9:=(ct w0 (B #[.int E s] 3) v.ownBlock).andThen d0 (λj h=>.inr h);obtain⟨w6,A0,A1,g5,k6,A2,r5⟩:=HA.out Q wb vb z9 i4 (by simpa using d3);refine ax ⟨(bd d0).mono (λb _ e=>.inr (p1 b e)),?_⟩;apply zH rfl;go_wp2_with (at_mapUpdate;refine zEp rfl _ _ _ 298 rfl (.map (G gm)) (.string x) vb rfl rfl rfl A0 ?_)
      apply zf k6;apply zW;go_wp2;go_roundw;case rel=>exact⟨_,o7,N+1,_,g5,by omega,A1,L7,A2,r5⟩
      case measure=>rw[g5.left_eq,m5.left_eq];exact i9
def soundA (m:Mem):Bool:=soundB m&&decide ((m.l:C)=1)
theorem zGa (h:soundA m=ah):soundB m=true:=by
 unfold soundA at h;rw[bf]at h;exact h.1
theorem zQT (p i:R)(r s t e:P)(a:am an)(l:ac R)(c:C)(w:aj):
  ao al 200 #[ag #[p,i,r,s,t,e,a0 a l c]] w λI w'=>I=.returned (.bool (soundA ⟨p,i,r,s,t,e,a,l,c⟩))/\Fr No w w':=by
 have J:Fr No w (w.alloc (B #[p,i,r,s,t,e,a0 a l c] 266)):=(aa _ _).alloc _;have N:=zLW p i r s t e (a0 a l c) (w.alloc (B #[p,i,r,s,t,e,a0 a l c] 266));obtain⟨h,o⟩:=ε (soundA ⟨p,i,r,s,t,e,a,l,c⟩)
 rw[<-o];have y:M (h=((!p.toList.isEmpty&&(decide (1<=s)&&decide (s<=16))&&(decide (1<=t)&&decide (t<=16)))&&decide ((l:C)=1))):=o;clear o;have O:=zF w (B #[p,i,r,s,t,e,a0 a l c] 266);have U:=zh J;clear J;go_enter cp,Tryz.ntmps200;go_wp2_with fail;apply N.mono;rintro I V ⟨rfl,u⟩;have H:=zh (U.step u zi);have Z:V ⟨w,6,Q⟩=G (a0 a l c):=u.cell (zB O 6) id;clear u N O;obtain⟨b,A⟩:=ε (!p.toList.isEmpty&&(decide (1<=s)&&decide (s<=16))&&(decide (1<=t)&&decide (t<=16)))
 rw[<-A];have F:M (h=(b&&decide ((l:C)=1))):=by unfold M;rw[y,A]
 clear A y;cases b with
 | false=>
  have z:M (h=ae):=by unfold M;rw[F];rfl
  go_wp2;go_ret;exact⟨by rw[z];rfl,H⟩
 | true=>
  by_cases v:(l:C)=1
  .have X:(((l:C):P)==1)=true:=by simp[v]
   have z:M (h=ah):=(by unfold M;rw[F.out];simp[v]);have Y:=zh v;clear v;go_wp2;go_ret;exact⟨by rw[z];rfl,H⟩
  .have X:(((l:C):P)==1)=false:=by simp;omega
   have z:M (h=ae):=(by unfold M;rw[F.out];simp[v]);have Y:=zh v;clear v;go_wp2;go_ret;exact⟨by rw[z];rfl,H⟩
def hasS (l:ac R)(s:R):Bool:=l.any λx=>x.toList==s.toList
def IdxS (l:ac R)(s:R)(e:Ending):Prop:=∃ i:P,e=.returned i/\decide (0<=i)=hasS l s
theorem zLU {k:C}{x:R}(h:l[k]?=G x)(o:(x.toList==s.toList)=ah):hasS l s=true:=by
 unfold hasS;rw[List.any_eq_true];exact⟨x,au h,o⟩
theorem zLT (h:∀ x∈l,(x.toList==s.toList)=ae):hasS l s=false:=by
 unfold hasS;rw[List.any_eq_false];intro x o;simp[h x o]
theorem zMh (a:am an)(o:C)(l:ac R)(s:R)(w:aj)(A:Strs w a o l):
  ao al 30 #[a0 a l o,s] w λe w'=>e=.returned (.bool (hasS l s))/\Fr No w w':=by
 have U:=A.lenmax;go_enter Tryz.func30,Tryz.ntmps30;go_wp2_with fail
 go_loop [5] (λi=>∃ k:C,k<=(l:C)/\i=af E k/\M (∀ x∈l.take k,(x.toList==s.toList)=ae)) (λi=>(l:C)-(ai i).toNat)
 case atStart=>exact⟨0,by omega,rfl,by unfold M;simp⟩
 case round=>
  obtain⟨k,V,rfl,u⟩:=hrel;by_cases v:k<(l:C)
  .have F:(k:P)<(l:C):=by omega
   obtain⟨b,O,x,rfl,I,X⟩:=A.at v;have J:=zh I;clear I;rcases he:(x.toList==s.toList)with _|_
   .go_wp2_with fail
    go_round
    case rel=>
     refine⟨k+1,by omega,by go_num,?_⟩;unfold M;intro y N;rw[aq,J]at N;rcases List.mem_append.1 N with h|h
     .exact u y h
     .simp at h;subst h;exact he
    case measure=>simp[ai];omega
   .have z:M (hasS l s=ah):=zLU J he;go_wp2;go_ret;exact⟨zL z.symm,aa _ _⟩
  .obtain rfl:k=(l:C):=by omega
   have h:=u.out;rw[cm (by omega)]at h;have z:M (hasS l s=ae):=zLT h;go_wp2;go_ret;exact⟨zL z.symm,aa _ _⟩
def sameT (l l':ac R):Bool:=decide (l.map (·.toList)=l'.map (·.toList))
theorem zJa (a a':am an)(z v:C)(l l':ac R)(w:aj)(hl:Strs w a z l)(A:Strs w a' v l'):
  ao al 14 #[a0 a l z,a0 a' l' v] w λe w'=>e=.returned (.bool (sameT l l'))/\Fr No w w':=by
 have hm:=hl.lenmax;have a4:=A.lenmax;by_cases o:(l:C)=(l':C)
 .have U:(((l:C):P) != (l':C))=false:=by simp[o]
  have y:=zh o;clear o;go_enter co,cq;go_wp2_with fail;go_loopw [5] (λi wr=>∃ k:C,k<=(l:C)/\i=af E (k:P)/\M ((l.take k).map (·.toList)=(l'.take k).map (·.toList))/\Fr No w wr) (λi _=>(l:C)-(ai i).toNat);case atStart=>exact⟨0,by omega,rfl,by unfold M;simp,aa _ _⟩
  case round=>
   obtain⟨k,hk,rfl,hp,hf⟩:=hrel;by_cases V:k<(l:C)
   .have a2:(k:P)<(l:C):=(by omega);have a3:(k:P)<(l':C):=(by have:=y.out;omega);have F:k<(l':C):=(by omega);go_wp2_with fail;refine zO No [(0,ae),(1,ae),(2,ae),(3,ae),(4,ae),(5,ae),(6,ae),(7,ae),(8,ae)] (λw0 X=>?_);have u:=hf.step X zi;obtain⟨b,Y,x,rfl,hx,c0⟩:=(hl.no u (λ_=>id)).at V;obtain⟨b',I,x',rfl,J,c1⟩:=(A.no u (λ_=>id)).at F;have g0:∀ g:Gr No w0,g.W ⟨b,Y+k,Q⟩=G (bp x):=λg=>g.fr.cell c0 id
    have g1:∀ g:Gr No w0,g.W ⟨b',I+k,Q⟩=G (bp x'):=λg=>g.fr.cell c1 id
    have Hx:=zh hx;have N:=zh J;clear c0 c1 hx J;(repeat apply zR rfl rfl rfl;intro a5 hK;go_big_quiet_op;go_big_quiet_on);apply zY;rcases he:(x.toList==x'.toList)with _|_
    .have O:M (sameT l l'=ae):=by
      unfold M sameT;rw[cu];intro h;have Z:(l.map (·.toList))[k]?=(l'.map (·.toList))[k]?:=(by rw[h]);rw[bs,bs,Hx,N]at Z;simp at Z;rw[Z]at he;simp at he
     go_wp2;go_ret;exact⟨zL O.symm,u⟩
    .have He:=zh he;go_wp2;go_roundw;case rel=>
      refine⟨k+1,by omega,by go_num,?_,u⟩;unfold M;rw[aq,aq,Hx,N,bb,bb,hp];have:=He.out;simp at this;simp[this]
     case measure=>simp[ai];omega
   .obtain rfl:k=(l:C):=by omega
    have O:M (sameT l l'=ah):=by
     unfold M sameT;have h:=hp.out;rw[aw,y,aw]at h
     simpa using h
    go_wp2;go_ret;exact⟨zL O.symm,hf⟩
 .have U:(((l:C):P) != (l':C))=true:=by simp;omega
  have O:M (sameT l l'=ae):=by
   unfold M sameT;rw[cu];intro h;have:=ba c9 h;simp at this;exact o this
  clear o;go_enter co,cq;go_wp2;go_ret;exact⟨zL O.symm,aa _ _⟩
theorem zPh (a:am an)(o:C)(L:ac Mem)(z:P)(w:aj)(F:Mems w a o L)(I:MemSmall2 L)(u:w ⟨0,0,Q⟩=G (af E z))(v:0<(w:C)):
  ao al 150 #[a0 a L o] w λe w'=>ArrRes w (zr soundA L) e w'/\Fr No w w':=by
 have h:=zIs 200 soundA (enters_of cp (by kernel_rfl) rfl) zQT (λm h=>zGa h) a o L z w F I u v;go_enter Tryz.func150,Tryz.ntmps150;go_wp2_with fail;apply h.mono;rintro e U ⟨⟨J,N,O,y,rfl,r⟩,A⟩;have H:=zg2 r A;clear r A h;go_wp2;go_ret;exact⟨⟨J,N,O,y,rfl,H.1⟩,H.2⟩
theorem zOQ (a:am an)(o:C)(L:ac Mem)(z:P)(w:aj)(F:Mems w a o L)(I:MemSmall2 L)(u:w ⟨0,0,Q⟩=G (af E z))(v:0<(w:C)):
  ao al 159 #[a0 a L o] w λe w'=>ArrRes w (zr soundB L) e w'/\Fr No w w':=by
 have h:=zIs 206 soundB (enters_of Tryz.func206 (by kernel_rfl) rfl) (λp i r s t e a l c w=>zPn p i r s t e _ w) (λm h=>h) a o L z w F I u v;go_enter Tryz.func159,Tryz.ntmps159;go_wp2_with fail;apply h.mono;rintro e U ⟨⟨J,N,O,y,rfl,r⟩,A⟩;have H:=zg2 r A;clear r A h;go_wp2;go_ret;exact⟨⟨J,N,O,y,rfl,H.1⟩,H.2⟩
def openT : R:=⟨#[111,112,101,110,45]⟩
def zIo (L:ac Mem)(x:R):R:=((best L (kb x)).getD Mem.zero).l.headD ⟨#[]⟩
def virOf (L:ac Mem)(r:P)(x:R):Vir:=⟨(),openT++x,zIo L x,r⟩
def opened (ids K:ac R):ac R:=ids.filter (hasS K)
theorem AscS.nodup (h:AscS (l.map kb)):l.Nodup:=by
 have o:=List.pairwise_map.1 h;exact o.imp (fun {a b} h e=>h.2 (by rw[e]))
def mapM (g:ac UInt8->am Mem):ac UInt8->am az:=λx=>(g x).map Mem.v
theorem zIg (g:ac UInt8->am Mem)(x:ac UInt8)(m:Mem):updS (mapM g) x m.v=mapM (λy=>if y=x then G m else g y):=by
 funext y
 unfold updS mapM;by_cases h:y=x<;>simp[h]
def zCK : az:=ag #[(),(),af E 0,af E 0,af E 0,af E 0,a0 Q 0 0]
theorem zeroM (w:aj):(zeroValue 266).run al w=.ok zCK w:=by kernel_rfl
structure MemSmall (L:ac Mem):Prop where
 len:(L:C)<=1000
 p:∀ m∈L,m.p.size<=1000000
 i:∀ m∈L,m.i.size<=1000000
 l:∀ m∈L,m.l.length<=1000000
def OwnRes (w:aj)(L:ac Mem)(e:Ending)(w':aj):Prop:=
 ∃ (a':am an) (c':C) (O:ac Mem) (ids:ac R),e=.returned (a0 a' O c')/\Mems w' a' c' O/\(∀ ad,a'=G ad->(w:C)<=ad.block)/\MFresh w' (w:C) O/\IsIds L ids/\O.map ar=own1 L ids/\(ids:C)<=(L:C)
theorem zNY (a:am an)(e6:C)(L:ac Mem)(m0:P)(w:aj)(hl:Mems w a e6 L)(hb:MemSmall L)(j7:w ⟨0,0,Q⟩=G (af E m0))(m1:0<(w:C)):
  ao al 205 #[a0 a L e6] w λe w'=>OwnRes w L e w'/\Fr No w w':=by
 obtain⟨i0,j8,j9,k0,k3⟩:=bn infoM;have m2:=hb.len;have k4:=@run_makeMap al;have hx:Fr No w (w.alloc (.map #[] 0)):=(aa _ _).alloc _;have k5:=VMap.made w;have k6:(w:C)<(w.alloc (.map #[] 0)).heap.size:=by simp
 have g7:∀ W:aj,Fr (From (w:C)) w W->Mems W a e6 L:=λW hf=>hl.keep hf (λb hb h=>by omega)
 have g8:=zh g7;have Hb:=zh hb;clear g7 hb hl;go_enter Tryz.func205,Tryz.ntmps205;go_wp2_with fail;clear k4;generalize w.alloc (.map #[] 0)=W0 at *;go_loopw [16] (λi wr=>∃ k:C,k<=(L:C)/\i=af E (k:P)/\VMap wr (w:C) (mapM (best (L.take k))) k/\Fr (From (w:C)) w wr/\(w:C)<(wr:C)) (λi _=>(L:C)-(ai i).toNat);case atStart=>exact⟨0,by omega,rfl,by exact k5,hx.mono zn,k6⟩
 case round=>
  obtain⟨k,hk,rfl,hI,X,m3⟩:=hrel;by_cases e7:k<(L:C)
  .have g9:(k:P)<(L:C):=by omega
   obtain⟨b,k7,m,rfl,e8,k8,k9,m4⟩:=(g8 _ X).elem e7;have Y:=au e8;have d4:M (L.take (k+1)=L.take k++[m]):=(by unfold M;rw[aq,e8];rfl);have h0:=Hb.p m Y;have b5:m.i.size<=maxLen:=(by have:=Hb.i m Y;unfold ak;omega);have h3:wr ⟨0,0,Q⟩=G (af E m0):=X.cell j7 (by show ¬ From (w:C) 0;omega);obtain⟨mp,y,mr,ms,mt,me,ma,Z,mc⟩:=m;obtain⟨c0,c1,c2,c3,c4,c5,c6⟩:=k9;simp only at c0 c1 c2 c3 c4 c5 c6 h0 b5;clear e8 k8 Y;by_cases b6:(Z:C)=1
   .have l0:(((Z:C):P) != 1)=false:=(by simp[b6]);have h4:=zh b6;clear b6;have u:Fr No wr (wr.alloc (B #[mp,y,mr,ms,mt,me,a0 ma Z mc] 266)):=(aa _ _).alloc _;have q1:=zF wr (B #[mp,y,mr,ms,mt,me,a0 ma Z mc] 266);have b0:=hI.fr u id;clear hI;rcases hg:best (L.take k) (kb y)with _|o
    .have hv:(mapM (best (L.take k)) (kb y)).getD zCK=ag #[(),(),af E 0,af E 0,af E 0,af E 0,a0 Q 0 0]:=(by unfold mapM;rw[hg];rfl);have b7:(mapM (best (L.take k)) (kb y)).isSome=false:=(by unfold mapM;rw[hg];rfl);have Hg:M (∀ o,best (L.take k) (kb y)=G o->ahead ⟨mp,y,mr,ms,mt,me,ma,Z,mc⟩ o=ah):=λo ho=>by rw[hg]at ho;cases ho
     clear hg;go_upto_region 8 with(at_lookup;refine zBz rfl _ _ 300 266 zCK (zeroM _) rfl bj (w:C) _ k y b5 rfl b0 rfl (ag #[(),(),af E 0,af E 0,af E 0,af E 0,a0 Q 0 0]) hv ae b7 ?_)
     have a2:Fr No wr ((wr.alloc (B #[mp,y,mr,ms,mt,me,a0 ma Z mc] 266)).alloc (B #[(),(),af E 0,af E 0,af E 0,af E 0,a0 Q 0 0] 266)):=u.alloc _;have q2:=zP wr (B #[mp,y,mr,ms,mt,me,a0 ma Z mc] 266) (B #[(),(),af E 0,af E 0,af E 0,af E 0,a0 Q 0 0] 266);have b1:=b0.fr ((aa No _).alloc (B #[(),(),af E 0,af E 0,af E 0,af E 0,a0 Q 0 0] 266)) id;clear b0 hv b7 c0 c1 c2 c3 c4 c5 c6 q1 u;generalize (wr.alloc (B #[mp,y,mr,ms,mt,me,a0 ma Z mc] 266)).alloc (B #[(),(),af E 0,af E 0,af E 0,af E 0,a0 Q 0 0] 266)=W2 at *;obtain⟨y0,y1,y2,y3,y4,y5,y6⟩:=cl7 q2;have b2:=zh (X.step a2 zn);have h5:=a2.size;clear q2 a2 X;go_wp2_with (at_mapUpdate;refine zCL rfl _ _ _ 300 266 rfl bj (w:C) _ k (by unfold ak;omega) y b5 (ag #[mp,y,mr,ms,mt,me,a0 ma Z mc]) rfl b1 rfl rfl ?_;intro w4 b8 a6)
     have a3:VMap w4 (w:C) (mapM (best (L.take (k+1)))) (k+1):=(by rw[d4,zA6,zFO h4.out Hg.out,<-zIg];exact b8);have H:=zg3 a3 (b2.step a6 (λb hb e=>by omega)) a6.size;clear b8 a3 a6;go_roundw;case rel=>exact⟨k+1,by omega,by go_num,H.1,H.2.1,by have:=H.2.2;omega⟩
     case measure=>simp[ai];omega
    .obtain⟨F,N,I,os,U,V,oa,z,oc⟩:=o;have hv:(mapM (best (L.take k)) (kb y)).getD zCK=ag #[F,N,I,os,U,V,a0 oa z oc]:=(by unfold mapM;rw[hg];rfl);have b7:(mapM (best (L.take k)) (kb y)).isSome=true:=(by unfold mapM;rw[hg];rfl);have h6:=Hb.p _ (cl (zCz _ _ _ hg).1);simp only at h6;have Hg:=zh hg;clear hg;go_upto_region 8 with(at_lookup;refine zBz rfl _ _ 300 266 zCK (zeroM _) rfl bj (w:C) _ k y b5 rfl b0 rfl (ag #[F,N,I,os,U,V,a0 oa z oc]) hv ah b7 ?_)
     have a2:Fr No wr ((wr.alloc (B #[mp,y,mr,ms,mt,me,a0 ma Z mc] 266)).alloc (B #[F,N,I,os,U,V,a0 oa z oc] 266)):=u.alloc _;have q2:=zP wr (B #[mp,y,mr,ms,mt,me,a0 ma Z mc] 266) (B #[F,N,I,os,U,V,a0 oa z oc] 266);have q3:=zT wr (B #[mp,y,mr,ms,mt,me,a0 ma Z mc] 266) (B #[F,N,I,os,U,V,a0 oa z oc] 266);have b1:=b0.fr ((aa No _).alloc (B #[F,N,I,os,U,V,a0 oa z oc] 266)) id;clear b0 hv b7 c0 c1 c2 c3 c4 c5 c6 q1 u;generalize (wr.alloc (B #[mp,y,mr,ms,mt,me,a0 ma Z mc] 266)).alloc (B #[F,N,I,os,U,V,a0 oa z oc] 266)=W2 at *;obtain⟨z0,z1,z2,z3,z4,z5,z6⟩:=cl7 q3;have h7:=a2.cell h3 id;have b2:=zh (X.step a2 zn);have h5:=a2.size;clear q3 a2 X h3;go_wp2_with fail;apply (zO6 mp y F N mr ms mt me I os U V _ _ m0 _ h0 h6 h7).mono;rintro en w3 ⟨rfl,b9⟩;have q4:=b9.heap q2 id;have b3:=b1.fr b9 id;have h8:=zh (b2.step b9 zn);have h9:=b9.size;clear z0 z1 z2 z3 z4 z5 z6 b9 q2 h7 b1;rcases ha:aheadB mp mr F I with _|_
     .have a3:VMap w3 (w:C) (mapM (best (L.take (k+1)))) k:=(by rw[d4,zA6,zJ5 (m:=⟨mp,y,mr,ms,mt,me,ma,Z,mc⟩) (o:=⟨F,N,I,os,U,V,oa,z,oc⟩) Hg ha];exact b3);have H:=zg2 a3 h8;clear a3 b3 q4;go_wp2;go_roundw;case rel=>exact⟨k+1,by omega,by go_num,H.1.mono (by omega),H.2,by omega⟩
      case measure=>simp[ai];omega
     .have l1:M (∀ o,best (L.take k) (kb y)=G o->ahead ⟨mp,y,mr,ms,mt,me,ma,Z,mc⟩ o=ah):=λo ho=>by rw[Hg.out]at ho;cases ho;exact ha
      obtain⟨y0,y1,y2,y3,y4,y5,y6⟩:=cl7 q4;clear q4 ha;go_wp2_with (at_mapUpdate;refine zCL rfl _ _ _ 300 266 rfl bj (w:C) _ k (by unfold ak;omega) y b5 (ag #[mp,y,mr,ms,mt,me,a0 ma Z mc]) rfl b3 rfl rfl ?_;intro w4 b8 a6)
      have a3:VMap w4 (w:C) (mapM (best (L.take (k+1)))) (k+1):=(by rw[d4,zA6,zFO h4.out l1.out,<-zIg];exact b8);have H:=zg3 a3 (h8.step a6 (λb hb e=>by omega)) a6.size;clear b8 a3 a6;go_roundw;case rel=>exact⟨k+1,by omega,by go_num,H.1,H.2.1,by have:=H.2.2;omega⟩
      case measure=>simp[ai];omega
   .have l0:(((Z:C):P) != 1)=true:=(by simp;omega);have u:Fr No wr (wr.alloc (B #[mp,y,mr,ms,mt,me,a0 ma Z mc] 266)):=(aa _ _).alloc _;have b4:VMap (wr.alloc (B #[mp,y,mr,ms,mt,me,a0 ma Z mc] 266)) (w:C) (mapM (best (L.take (k+1)))) k:=(by rw[d4,zA6,zJ4 b6];exact hI.fr u id);have H:=zg3 b4 (X.step u zn) u.size;clear b4 hI u X b6;go_wp2;go_roundw;case rel=>exact⟨k+1,by omega,by go_num,H.1.mono (by omega),H.2.1,by have:=H.2.2;omega⟩
    case measure=>simp[ai];omega
  .obtain rfl:k=(L:C):=by omega
   rw[aw]at hI;go_wp2_with fail;apply (zP7 _ _).mono;rintro en w1 ⟨rfl,rfl⟩;have u:Fr No wr (wr.alloc (B #[.map (G (w:C))] 300)):=(aa _ _).alloc _;have q1:=zF wr (B #[.map (G (w:C))] 300);have l2:(wr:C)<(wr.alloc (B #[.map (G (w:C))] 300)).heap.size:=(by simp);have b4:=hI.fr u id;have i3:=zh (X.step u zn);clear hI X u;go_wp2_with fail;generalize wr.alloc (B #[.map (G (w:C))] 300)=W1 at *;apply (zMx (w:C) (wr:C) _ (L:C) W1 b4 (by omega) (zB q1 0) l2).mono;rintro en w2 ⟨⟨ia,ic,J,rfl,hS,d9,Y,l3,A⟩,d5⟩;have e0:IsIds L J:=⟨d9,λx=>by rw[Y];unfold mapM;rw[Option.isSome_map]⟩
   have b1:=b4.fr d5 id;have b2:=zh (i3.step d5 zn);have h5:=d5.size;have e1:=zh e0;have m5:=hS.lenmax;clear q1 b4 d5 d9 Y e0 A;go_wp2_with fail;go_loopw [9,50] (λv i wr=>∃ (j:C) (O:ac Mem) (av:am an) (cv:C),j<=(J:C)/\(O:C)<=j/\v=a0 av O cv/\i=af E (j:P)/\wr.ownsRow (w2:C) 266 7 (a0 av O cv) (O:C) (mflat O)/\MFresh wr (w2:C) O/\M (O.map ar=own1 L (J.take j))/\Fr (From (w2:C)) w2 wr) (λ_ i _=>(J:C)-(ai i).toNat);case atStart=>exact⟨0,[],Q,0,by omega,by simp,rfl,rfl,cf _ _ _ _,λm hm=>by simp at hm,by unfold M own1;simp,aa _ _⟩
   case round=>
    obtain⟨j,O,av,cv,hj,m6,rfl,rfl,a4,d0,HO,hf⟩:=hrel;by_cases e7:j<(J:C)
    .have g9:(j:P)<(J:C):=(by omega);obtain⟨b,k7,x,rfl,e9,hc⟩:=(hS.keep hf (λb hb h=>by omega)).at e7;have i4:=au e9;have l4:M (J.take (j+1)=J.take j++[x]):=(by unfold M;rw[aq,e9];rfl);obtain⟨o,ho⟩:=Option.isSome_iff_exists.1 ((e1.mem x).1 i4);obtain⟨g0,d1,i5⟩:=zCz _ _ _ ho;have i6:=Hb.i o g0;have i7:=zGt i5;have l5:x.size<=maxLen:=(by rw[<-i7];unfold ak;omega);have g1:=b2.trans hf (λb hb h=>h) (λb hb h=>by unfold From at h ⊢;omega);have g2:=(g8 _ g1).ok o g0;have hv:(mapM (best L) (kb x)).getD zCK=o.v:=(by unfold mapM;rw[ho];rfl);have b3:=b1.fr hf (by omega);have m7:=zh g1;have Ho:=zh ho;clear ho g0 i6 i7 i5 i4 e9 g1;obtain⟨F,N,I,os,U,V,oa,z,oc⟩:=o;simp only at g2 d1;unfold Mem.v bu at hv;simp only at hv;have i8:(z:C)<=1000000:=(by omega);have d6:Fr No wr (wr.alloc (B #[F,N,I,os,U,V,a0 oa z oc] 266)):=(aa _ _).alloc _;have q3:=zF wr (B #[F,N,I,os,U,V,a0 oa z oc] 266);have e2:=g2.no d6 (λ_=>id);have l8:=zh d1;clear g2 d1;go_upto_region 16 with(at_lookup;refine zOI rfl _ _ 300 266 zCK (zeroM _) rfl bj (w:C) _ _ x l5 rfl b3 rfl (ag #[F,N,I,os,U,V,a0 oa z oc]) hv ?_)
     generalize wr.alloc (B #[F,N,I,os,U,V,a0 oa z oc] 266)=W3 at *;have z6:W3 ⟨wr,6,Q⟩=G (a0 oa z oc):=zB q3 6;clear b3 hv hc;go_wp2_with fail;apply (zAx oa oc z W3 e2 i8).mono;rintro en w4 ⟨⟨a1,c1,rfl,i9,j0,d7⟩,g3⟩;have q4:=g3.heap q3 id;have z7:w4.frozen? ⟨wr,6,Q⟩=false:=zD q4 6;have z8:w4 ⟨wr,6,Q⟩=G (a0 oa z oc):=zB q4 6;have q5:=zE q4 6 (a0 a1 z c1);have h9:=d6.size;have m8:=zC q3;have e3:Fr No wr w4:=d6.step g3 zi;have d8:Fr (Is (wr:C)) w4 (w4.setCell ⟨wr,6,Q⟩ (a0 a1 z c1)):=br (S:=Is (wr:C)) (p:=⟨wr,6,Q⟩) (aa _ _) (λ_=>rfl) _;clear z6 q3 q4 e2;go_upto_region 17 with(fail)
     generalize w4.setCell ⟨wr,6,Q⟩ (a0 a1 z c1)=W5 at *;have a5:Fr (λb=>(wr:C)<=b) wr W5:=(e3.mono zn).step d8 (λb _ h=>by omega);have a7:=zG a4 a5 (λb hb h=>by have h1:=ze a4 hb;omega);have e4:=d0.fr a5 (λb _ h1 h2=>by omega);have j1:=i9.fr d8 (λad e _ h=>by have:=d7 ad e;omega);have j2:=j0.fr d8 (λad e h=>by have:=d7 ad e;omega);simp at q5;obtain⟨y0,y1,y2,y3,y4,y5,y6⟩:=cl7 q5;have m9:=a5.size;have l9:=hf.size;have j3:=zh a5;have g4:=zg3 j1 j2 d7;have g5:=zh a7;have j4:=zh e4;clear z7 z8 q5 d8 e3 d6 g3 i9 j0 d7 a4 d0 a5 j1 j2 e4;go_wp2_with (at_builtin;refine cg _ rfl _ _ 212 rfl (w2:C) 266 i0 (ag #[ap,ap,af E 0,af E 0,af E 0,af E 0,a0 Q 0 0]) 7 88 Tryz.underlying212 j8 j9 k0 k3 rfl (by decide) _ _ _ rfl (a7.alloc _) ⟨W5,0,Q⟩ 1 1 (bu ⟨F,N,I,os,U,V,a1,z,c1⟩).toList rfl rfl (zk _ (bu ⟨F,N,I,os,U,V,a1,z,c1⟩) _ rfl) (zCh _) (by unfold ak;omega) (by omega) (by first|omega|(simp;done)|(simp;omega)) ?_;intro v' w6 a8 a9 _;obtain⟨l6,l7,rfl⟩:=zI a8)
     have d2:Fr No W5 (W5.alloc (B #[F,N,I,os,U,V,a0 a1 z c1] 266)):=(aa _ _).alloc _;have d3:=g5.alloc (B #[F,N,I,os,U,V,a0 a1 z c1] 266);have g6:Fr (λb=>(ay av O cv).ownBlock=G b) (W5.alloc (B #[F,N,I,os,U,V,a0 a1 z c1] 266)) w6:=bd a9;have e5:MFresh w6 (w2:C) (O++[⟨F,N,I,os,U,V,a1,z,c1⟩]):=by
      refine MFresh.own (MFresh.snoc (j4.fr d2 (λ_ _ _=>id)) (g4.1.no d2 (λ_=>id)) (g4.2.1.fr d2 (λ_ _=>id)) (λad e=>?_)) d3 g6;have:=g4.2.2 ad e;omega
     have j5:(O++[(⟨F,N,I,os,U,V,a1,z,c1⟩:Mem)]).map ar=own1 L (J.take (j+1)):=by
      rw[l4];unfold own1;rw[bb,bb,HO]
      congr 1
      simp only[cj,ck,Ho.out,cc];rfl
     have j6:Fr (From (w2:C)) w2 w6:=((hf.step j3 (λb _ h=>by omega)).step d2 zn).step g6 (λb _ h=>zQ d3 h);have HF:=zg4 a8 e5 j5 j6;clear a8 e5 j5 j6 a9 g6 d3 d2 y0 y1 y2 y3 y4 y5 y6 a7 hf;go_roundw;case rel=>exact⟨j+1,O++[⟨F,N,I,os,U,V,a1,z,c1⟩],l6,l7,by omega,by simp;omega,by simp,by go_num,by rw[bh,zCC];exact HF.1,HF.2.1,zh HF.2.2.1,HF.2.2.2⟩
     case measure=>simp[ai];omega
    .obtain rfl:j=(J:C):=by omega
     obtain⟨a',c',hv,hR,A⟩:=Mems.of_own a4 (λm hm=>(d0 m hm).1);cases hv;have ho:=HO.out;rw[aw]at ho;have h9:=i3.size;have n3:=hf.size;have H:=zg5 hR A d0 ho ((b2.trans hf (λb hb h=>h) (λb hb h=>by unfold From at h ⊢;omega)).mono (T:=No) (λb hb h=>by omega));clear a4 d0 HO hf hR A ho;go_wp2;go_ret;exact⟨⟨_,_,O,J,rfl,H.1,λad e=>by have:=H.2.1 ad e;omega,λm hm=>⟨(H.2.2.1 m hm).1,(H.2.2.1 m hm).2.1,λad e=>by have:=(H.2.2.1 m hm).2.2 ad e;omega⟩,e1,H.2.2.2.1,l3⟩,H.2.2.2.2⟩
def KSet (w:aj)(mb:C)(K:ac R)(N:C):Prop:=VMap w mb (λx=>if hasS K (bk x)=ah then G (ag #[])else Q) N
theorem KSet.fr {S:C->Prop}{w w':aj}{o:C}{N:C}(h:KSet w o u N)(v:Fr S w w')(y:¬ S o):KSet w' o u N:=VMap.fr h v y
theorem zM4 (o:ac R)(x:R):updS (λx=>if hasS o (bk x)=ah then G (ag #[])else Q) (kb x) (ag #[])=λy=>if hasS (o++[x]) (bk y)=ah then G (ag #[])else none:=by
 funext y
 unfold updS;have e:hasS (o++[x]) (bk y)=(hasS o (bk y)||decide (y=kb x)):=by
  unfold hasS;rw[List.any_append];simp only[List.any_cons,List.any_nil,Bool.or_false]
  congr 1
  rw[strEq,decide_eq_decide];constructor;·intro h;rw[h,zJr]
  .intro h;rw[h,zGE]
 rw[e];by_cases h:y=kb x;·simp[h]
 .simp[h]
theorem zeroE (w:aj):(zeroValue 273).run al w=.ok (ag #[]) w:=by kernel_rfl
theorem zO8 (a:am an)(A:C)(o:ac R)(w:aj)(Z:Strs w a A o)(J:(o:C)<=1000000)(hs:∀ x∈o,x.size<=ak):
  ao al 204 #[a0 a o A] w λe w'=>(∃ N,e=.returned (.map (G N))/\KSet w' N o (o:C)/\(w:C)<=N)/\Fr No w w':=by
 have O:=@run_makeMap al;have hx:Fr No w (w.alloc (.map #[] 0)):=(aa _ _).alloc _;have U:=VMap.made w;have a3:=Z.no hx (λ_=>id);have a4:(w:C)<(w.alloc (.map #[] 0)).heap.size:=by simp
 go_enter Tryz.func204,Tryz.ntmps204;go_wp2_with fail;clear O;generalize w.alloc (.map #[] 0)=W0 at *;go_loopw [9] (λi wr=>∃ k:C,k<=(o:C)/\i=af E (k:P)/\KSet wr (w:C) (o.take k) k/\Fr (From (w:C)) w wr) (λi _=>(o:C)-(ai i).toNat);case atStart=>exact⟨0,by omega,rfl,by unfold KSet;simpa [hasS]using U,hx.mono zn⟩
 case round=>
  obtain⟨k,hk,rfl,z,u⟩:=hrel;by_cases V:k<(o:C)
  .have a2:(k:P)<(o:C):=by omega
   obtain⟨b,a5,x,rfl,v,hc⟩:=(Z.keep u (λb J h=>by omega)).at V;have X:=hs x (au v);have Y:M (o.take (k+1)=o.take k++[x]):=(by unfold M;rw[aq,v];rfl);clear v;unfold KSet at z;go_wp2_with (at_mapUpdate;refine zCL rfl _ _ _ 270 273 rfl cd (w:C) _ k (by unfold ak;omega) x X (ag #[]) rfl z rfl rfl ?_;intro w1 y F)
   rw[zM4,<-Y]at y;have I:Fr (From (w:C)) w w1:=u.step F (λb J e=>by omega);have H:=zg2 y I;clear y I F z u;go_roundw;case rel=>exact⟨k+1,by omega,by go_num,H.1,H.2⟩
   case measure=>simp[ai];omega
  .obtain rfl:k=(o:C):=by omega
   rw[aw]at z;have H:=zg2 z (u.mono (T:=No) (λb J h=>by omega));clear z u;go_wp2;go_ret;exact⟨⟨_,rfl,H.1,cb _⟩,H.2⟩
theorem zP2 {O:ac Mem}(v:IsIds L u)(h:O.map ar=own1 L u)(N:O[j]?=G m):
  ∃ o,u[j]?=G m.i/\best L (kb m.i)=G o/\m.k=o.k/\m.l=o.l/\(m.l:C)=1/\o∈L:=by
 have A:(O.map ar)[j]?=G m.k:=by rw[bs,N];rfl
 rw[h,own1,bs]at A;obtain⟨x,F,y⟩:=Option.map_eq_some_iff.1 A;obtain⟨o,z⟩:=Option.isSome_iff_exists.1 ((v.mem x).1 (au F));obtain⟨U,V,X⟩:=zCz _ _ _ z;rw[z,cc]at y;have Y:m.i=o.i:=(ba Mem.i y).symm;have I:m.l=o.l:=(ba Mem.l y).symm;have J:m.i=x:=by rw[Y];exact zGt X
 refine⟨o,by rw[J];exact F,by rw[J];exact z,y.symm,I,by rw[I];exact V,U⟩
theorem zOu {O:ac Mem}(h:O.map ar=own1 L o):(O:C)=(o:C):=by
 have:=ba c9 h
 simpa [own1]using this
theorem zEA (h o:ac R)(x:R):opened (h++[x]) o=opened h o++(if hasS o x=ah then [x]else []):=by
 unfold opened;rw[List.filter_append]
 congr 1
 rw[List.filter_cons];split<;>rfl
def zPk (w:aj)(L:ac Mem)(K:ac R)(r:P)(e:Ending)(w':aj):Prop:=
 ∃ (a':am an) (c':C) (V:ac Vir) (ids:ac R),e=.returned (a0 a' V c')/\Virs w' a' c' V/\(∀ ad,a'=G ad->(w:C)<=ad.block)/\IsIds L ids/\V=(opened ids K).map (virOf L r)/\(ids:C)<=(L:C)
theorem zN9 (a:am an)(b1:C)(L:ac Mem)(ka:am an)(kc:C)(I:ac R)(r:P)(m0:P)(w:aj)(hl:Mems w a b1 L)(hb:MemSmall L)(hk:Strs w ka kc I)(e6:(I:C)<=1000000)(d0:∀ x∈I,x.size<=ak)
  (d1:w ⟨0,0,Q⟩=G (af E m0)) (i3:0<(w:C)):
  ao al 157 #[a0 a L b1,a0 ka I kc,r] w λe w'=>zPk w L I r e w'/\Fr No w w':=by
 obtain⟨i0,e7,e8,e9,g0⟩:=bn infoV;have i4:=hb.len;have Hb:=zh hb;clear hb;go_enter Tryz.func157,Tryz.ntmps157;go_wp2_with fail;apply (zO8 ka kc I w hk e6 d0).mono;rintro e w1 ⟨⟨mb,rfl,b2,i5⟩,a2⟩;have d2:=hl.no a2 (λ_=>id);have F:=a2.cell d1 id;have i6:=a2.size;have g2:=zh a2;have h8:mb<(w1:C):=VMap.lt b2;clear hk d0 hl d1 a2;go_wp2_with fail;apply (zNY a b1 L m0 w1 d2 Hb F (by omega)).mono;rintro e w2 ⟨⟨oa,oc,O,Z,rfl,hO,g3,d3,a8,ho,g4⟩,a6⟩;have g5:=zOu ho;have i7:=a6.size;have g7:=b2.fr a6 id;have d4:=zh (g2.step a6 zi);have a9:=zh a8;have Ho:=zh ho;have i8:=zh d3;have i9:=hO.lenmax;clear d2 F a6 b2 a8 ho d3 g3;go_wp2_with fail;go_loopw [8,18] (λv i wr=>∃ (j:C) (V:ac Vir) (av:am an) (cv:C),j<=(O:C)/\(V:C)<=j/\v=a0 av V cv/\i=af E (j:P)/\wr.ownsRow (w2:C) 94 4 (a0 av V cv) (V:C) (vflat V)/\M (V=(opened (Z.take j) I).map (virOf L r))/\Fr (From (w2:C)) w2 wr) (λ_ i _=>(O:C)-(ai i).toNat);case atStart=>exact⟨0,[],Q,0,by omega,by simp,rfl,rfl,cf _ _ _ _,by unfold M;simp[opened],aa _ _⟩
 case round=>
  obtain⟨j,V,av,cv,hj,j0,rfl,rfl,u,HV,hf⟩:=hrel;have j1:=hf.size;by_cases g8:j<(O:C)
  .have h9:(j:P)<(O:C):=by omega
   obtain⟨b,j2,m,rfl,b3,d5,g9,j3⟩:=(hO.keep hf (λb hb h=>by omega)).elem g8;obtain⟨o,d6,J,d7,d8,F,d9⟩:=zP2 a9 Ho b3;have b4:∀ ad,m.a=G ad->ad.block<(w2:C):=λad e=>((hO.ok m (au b3)).cell ad e (by intro e;rw[e]at F;cases F)).2.1
   have h0:m.i.size<=1000000:=(by have h1:=Hb.i o d9;have h2:=ba Mem.i d7;have h3:m.i=o.i:=h2;rw[h3];exact h1);have b5:m.i.size<=maxLen:=(by unfold ak;omega);have b6:M (Z.take (j+1)=Z.take j++[m.i]):=(by unfold M;rw[aq,d6];rfl);have h4:=g7.fr hf (by omega);have b0:=d5.at (k:=0) (by omega);have e0:M (∀ c,m.l[0]?=G c->virOf L r m.i=⟨(),openT++m.i,c,r⟩):=λc hc=>by
    unfold virOf zIo;rw[J,cc,<-d8]
    congr 1
    rcases hll:m.l with _|⟨d,t⟩
    .rw[hll]at hc;cases hc
    .rw[hll]at hc;simpa using hc
   have e1:(0:P)<(m.l:C):=(by omega);clear b3 d6 J d7 d8 d9 d5;obtain⟨mp,z,mr,ms,mt,me,ma,ml,mc⟩:=m;obtain⟨c0,c1,c2,c3,c4,c5,c6⟩:=g9;simp only at c0 c1 c2 c3 c4 c5 c6 h0 b5 b0 e1 F b4;obtain⟨ib,io,c,rfl,hc,b7⟩:=b0;rw[Nat.add_zero]at b7;have e2:=b4 _ rfl;simp only at e2;clear b4;have Hc:=zh (e0 c hc);have j4:=zh F;clear hc e0 F;simp only at Hc b6;have a3:Fr No wr (wr.alloc (B #[mp,z,mr,ms,mt,me,a0 (G ⟨ib,io,Q⟩) ml mc] 266)):=(aa _ _).alloc _;have a7:=h4.fr a3 id;unfold KSet at a7;have hv:((λx=>if hasS I (bk x)=ah then G (ce #[])else Q) (kb z)).getD (ag #[])=ag #[]:=by
    simp only[zGE];cases hasS I z<;>rfl
   rcases hh:hasS I z with _|_
   .have J:((λx=>if hasS I (bk x)=ah then G (ce #[])else Q) (kb z)).isSome=false:=(by simp only[zGE,hh];rfl);have A:Fr No wr ((wr.alloc (B #[mp,z,mr,ms,mt,me,a0 (G ⟨ib,io,Q⟩) ml mc] 266)).alloc (B #[] 273)):=a3.alloc _;have y:=zG u A zi;have b8:M (V=(opened (Z.take (j+1)) I).map (virOf L r)):=(by unfold M;rw[b6.out,zEA,hh];simpa using HV.out);have HF:=zg2 y (hf.step A zn);clear y u A a3 hf hh HV;go_wp2_with (at_lookup;refine zBz rfl _ _ 270 273 (ag #[]) (zeroE _) rfl cd mb _ _ z b5 rfl a7 rfl (ag #[]) hv ae J ?_)
    go_roundw;case rel=>exact⟨j+1,V,av,cv,by omega,by omega,rfl,by go_num,HF.1,b8,HF.2⟩
    case measure=>simp[ai];omega
   .have J:((λx=>if hasS I (bk x)=ah then G (ce #[])else Q) (kb z)).isSome=true:=(by simp only[zGE,hh];rfl);have A:Fr No wr ((wr.alloc (B #[mp,z,mr,ms,mt,me,a0 (G ⟨ib,io,Q⟩) ml mc] 266)).alloc (B #[] 273)):=a3.alloc _;have q1:=zP wr (B #[mp,z,mr,ms,mt,me,a0 (G ⟨ib,io,Q⟩) ml mc] 266) (B #[] 273);have y:=zG u A zi;have b8:M ((opened (Z.take (j+1)) I).map (virOf L r)=V++[⟨(),openT++z,c,r⟩]):=(by unfold M;rw[b6,zEA,hh,if_pos rfl,bb,<-HV,cj,ck,Hc]);go_upto_region 8 with(at_lookup;refine zBz rfl _ _ 270 273 (ag #[]) (zeroE _) rfl cd mb _ _ z b5 rfl a7 rfl (ag #[]) hv ah J ?_)
    have e3:=A.cell b7 id;have j5:=A.size;have e4:=hf.step A zn;have nO:¬ (ay av V cv).ownBlock=G (wr:C):=λh=>by have:=ze u h;omega
    have nI:¬ (ay av V cv).ownBlock=G ib:=λh=>by have:=zQ u h;omega
    clear A a3 u b7 hf a7 hv J c0 c1 c2 c3 c4 c5 c6;generalize (wr.alloc (B #[mp,z,mr,ms,mt,me,a0 (G ⟨ib,io,Q⟩) ml mc] 266)).alloc (B #[] 273)=W5 at *;refine zO (λb=>(ay av V cv).ownBlock=G b) [(0,ae),(1,ae),(2,ae),(3,ae),(4,ae),(5,ae),(6,ae),(7,ae),(8,ae),(9,ae),(10,ah),(11,ah),(12,ae)] (λw0 N=>?_);have g1:∀ g:Gr (λb=>(ay av V cv).ownBlock=G b) w0,g.W ⟨wr,1,Q⟩=G (bp z):=λg=>g.fr.cell (N.cell (zB q1 1) id) nO
    have g6:∀ g:Gr (λb=>(ay av V cv).ownBlock=G b) w0,g.W ⟨wr,6,Q⟩=G (a0 (G ⟨ib,io,Q⟩) ml mc):=λg=>g.fr.cell (N.cell (zB q1 6) id) nO
    have gc:∀ g:Gr (λb=>(ay av V cv).ownBlock=G b) w0,g.W ⟨ib,io,Q⟩=G (bp c):=λg=>g.fr.cell (N.cell e3 id) nI
    have a4:=zG y N zi;have hz:¬ 9223372036854775807<5+z.size:=(by omega);have j6:=N.size;have h5:=zh (e4.step N zn);have a5:=zh a4;have j7:=zh HV;clear y N e4 q1 e3 nO nI HV a4;(repeat apply zR rfl rfl rfl;intro I hK;go_big_quiet_op;go_big_quiet_on);clear g1 g6 gc;apply zu rfl;go_wp2_with fail;apply zp;apply zu rfl;go_wp2_with (at_builtin;refine cg _ rfl _ _ 89 rfl (w2:C) 94 i0 (ag #[ap,ap,ap,af E 0]) 4 56 Tryz.underlying89 e7 e8 e9 g0 rfl (by decide) _ _ _ rfl (a5.alloc _) ⟨w0,0,Q⟩ 1 1 (bx ⟨(),openT++z,c,r⟩).toList rfl rfl (zk _ (bx ⟨(),openT++z,c,r⟩) _ rfl) (zCX _) (by unfold ak;omega) (by omega) (by first|omega|(simp;done)|(simp;omega)) ?_;intro v' w6 U X _;obtain⟨h6,h7,rfl⟩:=zI U)
    have b9:Fr (λb=>(ay av V cv).ownBlock=G b) (w0.alloc (B (bx ⟨(),openT++z,c,r⟩) 94)) w6:=bd X;have e5:Fr No w0 (w0.alloc (B (bx ⟨(),openT++z,c,r⟩) 94)):=(aa _ _).alloc _;apply zf b9;have HF:=zg2 U ((h5.step e5 zn).step b9 (λb _ h=>zQ a5 h));clear U b9 e5 X;(repeat apply zR rfl rfl rfl;intro I hK;go_big_quiet_op;go_big_quiet_on);apply zY;go_wp2;go_roundw;case rel=>exact⟨j+1,V++[⟨(),openT++z,c,r⟩],h6,h7,by omega,by simp;omega,by simp,by go_num,by rw[bh,zB0];exact HF.1,zh b8.symm,HF.2⟩
    case measure=>simp[ai];omega
  .obtain rfl:j=(O:C):=by omega
   obtain⟨a',c',hv,hR,Y⟩:=Virs.of_own u;cases hv;have hV:=HV.out;rw[g5,aw]at hV;have H:=zg4 hR Y hV ((d4.step hf (λb hb h=>by have:=d4.size;omega)));clear u HV hf hR Y hV;go_wp2;go_ret;exact⟨⟨_,_,V,Z,rfl,H.1,λad e=>by have:=H.2.1 ad e;omega,a9,H.2.2.1,g4⟩,H.2.2.2⟩
theorem zLZ (h:parseC s=G c):c.id.size<=100000/\(c.inner:C)<=10000:=by
 obtain⟨o,-⟩:=zBq h;have u:c∈c.walk:=by
  obtain⟨k,i,l,v,t,e,n⟩:=c;simp[Ct.walk]
 exact⟨(o.small c u).1,Nat.le_trans (zEM u) o.count⟩
theorem zI0 (h:parseC s=G c)(z:c.kind=2\/c.kind=4):1<=c.slot/\c.slot<=16:=by
 obtain⟨A,-⟩:=zBq h;have v:=A.good;obtain⟨k,i,l,o,t,e,n⟩:=c;rw[Ct.good,bf]at v;have y:=v.1;have u:k=2\/k=4:=z;rcases u with rfl|rfl
 .simp[alike,zAV]at y;show 1<=o/\o<=16
  omega
 .simp[alike,zAV]at y;show 1<=o/\o<=16
  omega
theorem zER (h:parseC s=G c)(y:c.kind=2\/c.kind=3\/c.kind=4):(c.inner:C)<=16:=by
 obtain⟨z,-⟩:=zBq h;have v:=z.good;obtain⟨k,i,l,A,t,e,n⟩:=c;rw[Ct.good,bf]at v;have o:=v.1;have u:k=2\/k=3\/k=4:=y;show (n:C)<=16
 rcases u with rfl|rfl|rfl
 .simp[alike]at o;omega
 .simp[alike]at o;omega
 .simp[alike,someIn]at o;omega
structure OneM (m:Mem)(o:R):Prop where
 p:m.p=o
 i:m.i.size<=100000
 l:(m.l:C)<=16
 s:0<=m.s/\m.s<=16
theorem zOw {u:R->P->Ct->Mem}(o:∀ p rd c,parseC c.txt=G c->c.kind=k->OneM (u p rd c) p){p:R}{rd:P}(h:ofK k u p rd s=G m):OneM m p:=by
 unfold ofK at h;cases hc:parseC s with
 | none=>rw[hc]at h;cases h
 | some c=>
  rw[hc]at h;simp only at h;split at h
  .rename_i v;cases h;have:=(zBq hc).2;exact o p rd c (by rw[this];exact hc) v
  .cases h
theorem zLC (p:R)(rd:P)(c:Ct)(h:parseC c.txt=G c)(o:c.kind=2):OneM (mk2 p rd c) p:=by
 have u:=zLZ h;have v:=zI0 h (.inl o);exact⟨rfl,u.1,by show (c.inner.map Ct.txt).length<=16;rw[bt];exact zER h (by simp[o]),by show 0<=c.slot/\c.slot<=16;omega⟩
theorem zLB (p:R)(rd:P)(c:Ct)(h:parseC c.txt=G c)(o:c.kind=3):OneM (mk3 p rd c) p:=by
 have u:=zLZ h;exact⟨rfl,u.1,by show (c.inner.map Ct.txt).length<=16;rw[bt];exact zER h (by simp[o]),by show (0:P)<=0/\(0:P)<=16;omega⟩
theorem zHf (p:R)(rd:P)(c:Ct)(h:parseC c.txt=G c)(o:c.kind=4):OneM (mk4 p rd c) p:=by
 have u:=zLZ h;have v:=zI0 h (.inr o);exact⟨rfl,u.1,by show (c.inner.map Ct.txt).length<=16;rw[bt];exact zER h (by simp[o]),by show 0<=c.slot/\c.slot<=16;omega⟩
theorem zId (v:∀ p rd c,parseC c.txt=G c->c.kind=k->OneM (y p rd c) p)(h:L.map ar=S.filterMap (λs=>ofK k y s.o s.r (tx s.d))):
  (L:C)<=(S:C)/\∀ m∈L,∃ s∈S,OneM m s.o:=by
 refine⟨?_,λm A=>?_⟩
 .have:=ba c9 h;rw[bt]at this;rw[this];exact List.length_filterMap_le _ _
 .have z:m.k∈L.map Mem.k:=ca A;rw[h]at z;obtain⟨s,F,I⟩:=List.mem_filterMap.1 z;have u:=zOw v I;exact⟨s,F,⟨u.p,u.i,u.l,u.s⟩⟩
theorem zA2 {F:R->P->Ct->Mem}(A:∀ p rd c,parseC c.txt=G c->c.kind=k->OneM (F p rd c) p)(h:L.map ar=S.filterMap (λs=>ofK k F s.o s.r (tx s.d)))(J:(S:C)<=1000)(I:∀ s∈S,s.o.size<=1000000):MemSmall2 L:=by
 obtain⟨N,y⟩:=zId A h;refine⟨by omega,λm u=>?_,λm u=>?_,λm u=>?_,λm u=>?_⟩;·obtain⟨s,z,v⟩:=y m u;rw[v.p];exact I s z
 .obtain⟨s,z,v⟩:=y m u;have:=v.i;omega
 .obtain⟨s,z,v⟩:=y m u;have:=v.l;omega
 .obtain⟨s,z,v⟩:=y m u;have:=v.s;exact WalkArith.wf_i64 (by omega)
theorem zE8 (v:∀ p rd c,parseC c.txt=G c->c.kind=k->OneM (y p rd c) p)(h:L.map ar=S.filterMap (λs=>ofK k y s.o s.r (tx s.d)))(z:(S:C)<=1000)(A:∀ s∈S,s.o.size<=1000000):MemSmall L:=
 have u:=zA2 v h z A
 ⟨u.len,u.p,u.i,u.l⟩
theorem zJJ {m:ArrM}(u:IsIds2 (zr h L) o)(z:O.map bq=o.map (buildA (zr h L)))(A:m∈O)(F:∀ x∈L,x.i.size<=1000000):m.i.size<=1000000:=by
 have y:m.toArr∈O.map ArrM.toArr:=ca A;rw[z]at y;obtain⟨v,I,J⟩:=List.mem_map.1 y;have N:m.i=v:=by rw[<-J];rfl
 obtain⟨s,U⟩:=(u.mem v).1 I;obtain⟨x,V⟩:=Option.isSome_iff_exists.1 U;obtain⟨X,-,Y⟩:=zAk L _ _ V;have Z:x.i=v:=ba Prod.fst Y;rw[N,<-Z];exact F x X
theorem zGl {z:ac R}{r:P}{v:Vir}(y:IsIds L u)(A:v∈(opened u z).map (virOf L r))(F:∀ x∈L,x.i.size<=1000000):v.q.size=0/\v.o.size<=1000005:=by
 obtain⟨x,I,rfl⟩:=List.mem_map.1 A;have J:x∈u:=(List.mem_filter.1 I).1;obtain⟨m,N⟩:=Option.isSome_iff_exists.1 ((y.mem x).1 J);obtain⟨O,-,U⟩:=zCz L _ _ N;have V:m.i=x:=zBP (l:=[m.i]) (l':=[x]) (by simp[U]) |> λh=>by injection h
 have X:=F m O;rw[V]at X;refine⟨rfl,?_⟩;show (openT++x).size<=_
 rw[ByteArray.size_append];show 5+x.size<=_
 omega
theorem zJo {v:R->P->Ct->Mem}(u:∀ p rd c,parseC c.txt=G c->c.kind=k->OneM (v p rd c) p)(h:L.map ar=S.filterMap (λs=>ofK k v s.o s.r (tx s.d))):∀ m∈L,m.l.length<=16:=λm y=>by
 obtain⟨s,A,z⟩:=(zId u h).2 m y;exact z.l
theorem zHq (u:∀ x∈L,x.l.length<=16)(o:R):(zAJ (zr h L) o).l.length<=16:=by
 unfold zAJ;cases hq:zr h L (o,zAY (zr h L) o)with
 | none=>simp[Mem.zero]
 | some m=>exact u m (zAk L _ _ hq).1
theorem zL8 {m:ArrM}(y:O.map bq=o.map (buildA (zr h L)))(z:m∈O)(A:∀ x∈L,x.l.length<=16):(m.l:C)<=16:=by
 have u:m.toArr∈O.map ArrM.toArr:=ca z;rw[y]at u;obtain⟨v,J,F⟩:=List.mem_map.1 u;have I:m.l=(zAJ (zr h L) v).l:=by rw[<-F];rfl
 rw[I];exact zHq A v
def Wt {H:Type}(t:bm)(d:DataW H):Prop:=∀ n∈d.weights al t,n<=reachBytes
theorem wt_each {H:Type}{o:ac bm}{ds:ac (DataW H)}(h:(DataW.weightsEach al o ds).all (·<=reachBytes)=ah){t:bm}{d:DataW H}(u:o[j]?=G t)(v:ds[j]?=G d):Wt t d:=λn y=>by
 have:=List.all_eq_true.1 h n (DataW.weights_mem_each u v n y)
 simpa using this
section
variable {H:Type}{enc:bm×az->H}{w:aj}{base:C}{spare:C->Bool}{held:Bool}
end
section
variable {H:Type}{enc:bm×az->H}{w:aj}{base:C}{spare:C->Bool}{held:Bool}
end
theorem zJW (a:am an)(o:C)(l:ac R)(s:R)(w:aj)(I:Strs w a o l):
  ao al 51 #[a0 a l o,s] w λe w'=>IdxS l s e/\Fr No w w':=by
 have X:=I.lenmax;go_enter Tryz.func51,Tryz.ntmps51;go_wp2_with fail
 go_loop [8] (λi=>∃ k:C,k<=(l:C)/\i=af E k/\M (∀ x∈l.take k,(x.toList==s.toList)=ae)) (λi=>(l:C)-(ai i).toNat)
 case atStart=>exact⟨0,by omega,rfl,by unfold M;simp⟩
 case round=>
  obtain⟨k,Y,rfl,u⟩:=hrel;by_cases z:k<(l:C)
  .have J:(k:P)<(l:C):=by omega
   obtain⟨b,V,x,rfl,N,Z⟩:=I.at z;have O:=zh N;clear N;rcases he:(s.toList==x.toList)with _|_
   .have v:(x.toList==s.toList)=false:=(by rw[ch];exact he);have A:=zh v;clear v;go_wp2_with fail
    go_round
    case rel=>
     refine⟨k+1,by omega,by go_num,?_⟩;unfold M;intro y U;rw[aq,O]at U;rcases List.mem_append.1 U with h|h
     .exact u y h
     .simp at h;subst h;exact A.out
    case measure=>simp[ai];omega
   .have F:M (hasS l s=ah):=zLU O (by rw[ch];exact he);go_wp2;go_ret;exact⟨⟨k,rfl,by rw[F.out];simp⟩,aa _ _⟩
  .obtain rfl:k=(l:C):=by omega
   have h:=u.out;rw[cm (by omega)]at h;have F:M (hasS l s=ae):=zLT h;go_wp2;go_ret;exact⟨⟨-1,rfl,by rw[F];rfl⟩,aa _ _⟩
theorem zFX (a:am an)(h:C)(l:ac R)(s:R)(w:aj)(v:Strs w a h l):
  ao al 49 #[a0 a l h,s] w λe w'=>e=.returned (.bool (hasS l s))/\Fr No w w':=by
 go_enter Tryz.func49,Tryz.ntmps49;go_wp2_with fail;apply (zJW a h l s _ v).mono;rintro e z ⟨⟨i,rfl,u⟩,o⟩;have y:=zh u;clear u;go_wp2;go_ret;exact⟨zL y,o⟩
def lvT (id:R)(k:P):R:=(⟨#[108,118,45]⟩:R)++id++(⟨#[45]⟩:R)++(⟨(bg k).toArray⟩:R)
def lvOk (id:R)(k:P):Bool:=decide (1<=k)&&decide (k<=16)&&isName (lvT id k)
theorem zMy (h:R)(k:P):(lvT h k).size=h.size+4+(bg k).length:=by
 unfold lvT;rw[ByteArray.size_append,ByteArray.size_append,ByteArray.size_append];show 3+h.size+1+(bg k).toArray.size=_
 simp;omega
theorem zPm (h:R)(k:P)(w:aj)(hE:Env w)(a5:h.size<=1000000)(hk:(Lit.int E k).wf=ah):
  ao al 207 #[.string h,.int E k] w λe w'=>e=.returned (.tuple #[.string (if lvOk h k=ah then lvT h k else ()),.int E (if lvOk h k=ah then 0 else 340)])/\Fr No w w':=by
 have y:-9223372036854775808<=k/\k<=9223372036854775807:=by simp[Lit.wf,IntKind.min,IntKind.max,IntKind.signed,IntKind.bits]at hk;omega
 have V:=Lib.itoa_length_le k y.1 y.2;have F:=zMy h k;have h1:((⟨#[108,118,45]⟩:R)++h).size<=9223372036854775807:=by rw[ByteArray.size_append];show 3+h.size<=_;omega
 have h2:((⟨#[108,118,45]⟩:R)++h++(⟨#[45]⟩:R)).size<=9223372036854775807:=by rw[ByteArray.size_append,ByteArray.size_append];show 3+h.size+1<=_;omega
 obtain⟨u,z⟩:=ε (⟨(bg k).toArray⟩:R)
 have X:lvT h k=(⟨#[108,118,45]⟩:R)++h++(⟨#[45]⟩:R)++u:=by rw[z];rfl
 have h3:((⟨#[108,118,45]⟩:R)++h++(⟨#[45]⟩:R)++u).size<=9223372036854775807:=by rw[<-X,F];omega
 have h4:((⟨#[108,118,45]⟩:R)++h++(⟨#[45]⟩:R)++u).size<=maxLen:=by unfold ak;rw[<-X,F];omega
 have a4:u.size<=21:=by rw[z];simpa [ByteArray.size]using V
 have a6:¬ 9223372036854775807<3+h.size+1+u.size:=by omega
 have a7:¬ 9223372036854775807<((⟨#[108,118,45]⟩:R)++h++(⟨#[45]⟩:R)).size+u.size:=by rw[<-ByteArray.size_append];omega
 have a8:((⟨#[108,118,45]⟩:R)++h++(⟨#[45]⟩:R)).size+u.size<=9223372036854775807:=by omega
 obtain⟨N,I⟩:=ε (lvOk h k)
 rw[<-I,X];have J:=zh I;have HL:=zh X;have Y:(⟨(bg k).toArray⟩:R)=u:=z.symm;clear I X F V z;go_enter Tryz.func207,Tryz.ntmps207;go_wp2_with fail;apply (Tryz.strconv_Itoa k y.1 y.2 _ hE.tab).mono;rintro e w1 ⟨rfl,kk,os,rfl⟩;have o:Fr No w (Go.Sort.grow (w.drewN kk) os):=Fr.of_below_size (Lib.below_grow _ w (cb _) kk os);generalize Go.Sort.grow (w.drewN kk) os=w1 at *;rw[Y];by_cases Z:1<=k
 .by_cases a2:k<=16
  .go_wp2_with fail;apply (zAT _ _ h4).mono;rintro e w2 ⟨rfl,a3⟩;have A:=o.step a3 zi;have O:N=isName ((⟨#[108,118,45]⟩:R)++h++(⟨#[45]⟩:R)++u):=(by rw[J.out,<-HL.out];unfold lvOk;simp[Z,a2]);rw[<-O];have U:=zh A;clear o a3 A O;cases N
   .go_wp2_with fail;refine bz (v:=.tuple #[.string (),.int E 340]) (by simp[c7,bv,go_sem]) rfl ?_;exact⟨by simp,U.out⟩
   .go_wp2_with fail;refine bz (v:=.tuple #[.string ((⟨#[108,118,45]⟩:R)++h++(⟨#[45]⟩:R)++u),.int E 0]) (by simp[c7,bv,go_sem]) rfl ?_;exact⟨by simp,U.out⟩
  .have O:N=false:=by rw[J.out];unfold lvOk;simp[a2]
   subst O;have U:=zh o;clear o;go_wp2_with fail;refine bz (v:=.tuple #[.string (),.int E 340]) (by simp[c7,bv,go_sem]) rfl ?_;exact⟨by simp,U.out⟩
 .have O:N=false:=by rw[J.out];unfold lvOk;simp[Z]
  subst O;have U:=zh o;clear o;go_wp2_with fail;refine bz (v:=.tuple #[.string (),.int E 340]) (by simp[c7,bv,go_sem]) rfl ?_;exact⟨by simp,U.out⟩
end Go.Proofs.YtjoipgjdpnjjiaaGreatDoor
