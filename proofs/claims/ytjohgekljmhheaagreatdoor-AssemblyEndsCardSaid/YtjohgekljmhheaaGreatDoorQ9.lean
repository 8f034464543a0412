import Derived.Test.YtjohgekljmhheaaGreatDoorQ8
import Derived.Deep.Slices
import Derived.SliceStrings
import Derived.ChangeArms
import Derived.SizedLaws
namespace Go.Proofs.YtjohgekljmhheaaGreatDoor
open Go.RowKit Go.Maps Go.Sort Go.Shelf Go.ChangeShapes
set_option linter.unusedVariables false
set_option maxRecDepth 100000
set_option maxHeartbeats 16000000
open ArrM renaming toArr->br
open Fr renaming refl->aa,of_grown->bb,of_grown_none->be,setCell->bs,of_grown_some->c8
open Go renaming maxLen->aj,World->ak,Addr->an,Calls->ap,Value->ax,info_parts->bh,TypeId->bp,wpList_make_full->bq,bodyPost_ret->bx,results->bz,wpList_append_own->c7,wpList_append_own_at->cx
open Go.Instr renaming lookup->cg
open Go.Lib renaming itoa->bj
open Go.Proofs renaming intOf->ai
open Go.Proofs.Tryz renaming prog->al,underlying272->bd,underlying279->bn,underlying30->bo,results159->bu,underlying230->cd,func152->co,underlying22->cp,underlying41->cq
open Go.RowKit renaming Hid->M
open Go.Value renaming slice->ar,string->bv,agg->ce
open Go.WalkArith renaming wf_i64->ct
open Go.World renaming ownsRow_nil->bw,grownBy_alloc->cu
open IntKind renaming i64->E
open Mem renaming k->aq,vals->bt
open Obj renaming cells->P
open OnlyN renaming mk->aw
open Value renaming slice->a0,int->ae,agg->af
open Vir renaming vals->az
open Virs renaming of_own->cr
open _root_ renaming Nat->C,Int->B,ByteArray->R,List->ac,Option->am,congrArg->ba,decide_eq_true_eq->cw
open _root_.Bool renaming false->ag,true->ah,and_eq_true->bi,beq_comm->cf
open _root_.ByteArray renaming empty->ao
open _root_.List renaming mem_of_getElem?->au,take_add_one->ay,take_length->bc,length_append->bf,map_append->bg,length_map->bm,mem_map_of_mem->c9,filter_append->ch,getElem?_map->ci,length->cj,map_cons->ck,map_nil->cl,mem_of_mem_take->cm
open _root_.Nat renaming le_refl->ca,le_trans->cb
open _root_.Option renaming none->Q,some->G,getD_some->cc
variable{m:Mem}{l o K u:ac R}{s x:R}{k:B}{y:R->B->Ct->Mem}{S:ac Src}{L:ac Mem}{O:ac ArrM}{j:C}{c:Ct}{tx:Dev->R}{h:Mem->Bool}
theorem zI1 (F:C)(I:Mem->Bool)(eg:∀ args w,(callFunc F args).run al w=.ok (.enter F args) w)
  (k6:∀ (p i:R) (r s t e:B) (a:am an) (l:ac R) (c:C) (w:ak),ap al F #[af #[.string p,.string i,.int E r,.int E s,.int E t,.int E e,.slice a l c]] w λen w'=>en=.returned (.bool (I ⟨p,i,r,s,t,e,a,l,c⟩))/\Fr No w w') (A2:∀ m,I m=ah->soundB m=ah)
  (a:am an) (s8:C) (L:ac Mem) (m0:B) (w:ak) (hl:Mems w a s8 L) (hb:MemSmall2 L) (A3:w ⟨0,0,Q⟩=G (.int E m0)) (U2:0<(w:C)):
  ap al 151 #[.slice a L s8,.func (.func F) #[] #[]] w λe w'=>ArrRes w (zU I L) e w'/\Fr No w w':=by
 obtain⟨i0,L7,L8,L9,M0⟩:=bh infoAr;have U3:=hb.len;have M1:=@run_makeMap al;have hx:Fr No w (w.alloc (.map #[] 0)):=(aa _ _).alloc _;have M2:=PMap.made w;have e2:(w:C)<(w.alloc (.map #[] 0)).heap.size:=by simp
 have k7:∀ W:ak,Fr (From (w:C)) w W->Mems W a s8 L:=λW hf=>hl.keep hf (λb hb h=>by omega)
 have k8:=zh k7;have Hb:=zh hb;clear k7 hb hl;go_enter Tryz.func151,Tryz.ntmps151;go_wp2_with fail;generalize w.alloc (.map #[] 0)=W0 at *;go_loopw [23] (λi wr=>∃ k:C,k<=(L:C)/\i=.int E (k:B)/\PMap wr (w:C) (mapP (zU I (L.take k))) k/\Fr (From (w:C)) w wr/\(w:C)<(wr:C)) (λi _=>(L:C)-(ai i).toNat);case atStart=>exact⟨0,by omega,rfl,by exact M2,hx.mono zn,e2⟩
 case round=>
  obtain⟨k,hk,rfl,hI,e3,A4⟩:=hrel;by_cases i8:k<(L:C)
  .have A5:(k:B)<(L:C):=by omega
   obtain⟨b,M4,m,rfl,t0,k9,d3,U4⟩:=(k8 _ e3).elem i8;have b2:=au t0;have l0:M (L.take (k+1)=L.take k++[m]):=(by unfold M;rw[ay,t0];rfl);have A6:=Hb.p m b2;have l1:m.i.size<=maxLen:=(by have:=Hb.i m b2;unfold aj;omega);have l2:=Hb.s m b2;have p1:wr ⟨0,0,Q⟩=G (.int E m0):=e3.cell A3 (by show ¬ From (w:C) 0;omega);obtain⟨mp,mi,mr,ms,mt,me,ma,ml,mc⟩:=m;obtain⟨c0,c1,c2,c3,c4,c5,c6⟩:=d3;simp only at c0 c1 c2 c3 c4 c5 c6 A6 l1 l2;clear t0 k9 b2 M1;have l3:Fr No wr ((wr.alloc (P #[.string mp,.string mi,.int E mr,.int E ms,.int E mt,.int E me,.slice ma ml mc] 226)).alloc (P #[.string mi,.int E ms] 274)):=((aa _ _).alloc _).alloc _;have i9:=hI.fr l3 id;clear hI;rcases hg:zU I (L.take k) (mi,ms)with _|o
   .have hv:(mapP (zU I (L.take k)) (mi,ms)).getD zBz=af #[.string (),.string (),.int E 0,.int E 0,.int E 0,.int E 0,.slice Q 0 0]:=(by unfold mapP;rw[hg];rfl);have l4:(mapP (zU I (L.take k)) (mi,ms)).isSome=false:=(by unfold mapP;rw[hg];rfl);have Hg:M (∀ o,zU I (L.take k) (mi,ms)=G o->ahead ⟨mp,mi,mr,ms,mt,me,ma,ml,mc⟩ o=ah):=λo ho=>by rw[hg]at ho;cases ho
    clear hg;go_upto_region 7 with(at_lookup;refine zE0 rfl _ _ 272 226 zBz (zIE _) rfl bd (w:C) _ k mi ms l1 l2 rfl i9 rfl (af #[.string (),.string (),.int E 0,.int E 0,.int E 0,.int E 0,.slice Q 0 0]) hv ag l4 ?_)
    have d7:Fr No wr (((wr.alloc (P #[.string mp,.string mi,.int E mr,.int E ms,.int E mt,.int E me,.slice ma ml mc] 226)).alloc (P #[.string mi,.int E ms] 274)).alloc (P #[.string (),.string (),.int E 0,.int E 0,.int E 0,.int E 0,.slice Q 0 0] 226)):=l3.alloc _;have qm:=zC3 wr (P #[.string mp,.string mi,.int E mr,.int E ms,.int E mt,.int E me,.slice ma ml mc] 226) (P #[.string mi,.int E ms] 274) (P #[.string (),.string (),.int E 0,.int E 0,.int E 0,.int E 0,.slice Q 0 0] 226);have qp:=zC2 wr (P #[.string mp,.string mi,.int E mr,.int E ms,.int E mt,.int E me,.slice ma ml mc] 226) (P #[.string mi,.int E ms] 274) (P #[.string (),.string (),.int E 0,.int E 0,.int E 0,.int E 0,.slice Q 0 0] 226);have qo:=zC1 wr (P #[.string mp,.string mi,.int E mr,.int E ms,.int E mt,.int E me,.slice ma ml mc] 226) (P #[.string mi,.int E ms] 274) (P #[.string (),.string (),.int E 0,.int E 0,.int E 0,.int E 0,.slice Q 0 0] 226);have d8:=i9.fr ((aa No _).alloc (P #[.string (),.string (),.int E 0,.int E 0,.int E 0,.int E 0,.slice Q 0 0] 226)) id;clear i9 hv l4 c0 c1 c2 c3 c4 c5 c6 l3;generalize ((wr.alloc (P #[.string mp,.string mi,.int E mr,.int E ms,.int E mt,.int E me,.slice ma ml mc] 226)).alloc (P #[.string mi,.int E ms] 274)).alloc (P #[.string (),.string (),.int E 0,.int E 0,.int E 0,.int E 0,.slice Q 0 0] 226)=W2 at *;obtain⟨y0,y1,y2,y3,y4,y5,y6⟩:=cl7 qm;have d9:=d7.cell p1 id;have g5:=zh (e3.step d7 zn);have p2:=d7.size;clear d7 e3 p1;obtain⟨gd,g6⟩:=ε (I ⟨mp,mi,mr,ms,mt,me,ma,ml,mc⟩)
    have l5:M (I ⟨mp,mi,mr,ms,mt,me,ma,ml,mc⟩=gd):=g6.symm;have b3:=k6 mp mi mr ms mt me ma ml mc W2;rw[<-g6]at b3;clear g6;rcases gd with _|_
    .go_wp2_with
      (go_at_fn F
       apply b3.mono;rintro en w3 ⟨rfl,V⟩;have g7:=V.heap qm id;have d4:=V.heap qp id;have j1:=V.heap qo id;have d5:=d8.fr V id;have l6:=V.cell d9 id;have d6:=zh (g5.step V zn);have g8:=V.size;clear y0 y1 y2 y3 y4 y5 y6 V qm qp qo d9 d8 b3)
     have e0:PMap w3 (w:C) (mapP (zU I (L.take (k+1)))) k:=(by rw[l0,zAW,zEn l5];exact d5);have H:=zg2 e0 d6;clear e0 d5;go_roundw;case rel=>exact⟨k+1,by omega,by go_num,H.1.mono (by omega),H.2,by omega⟩
     case measure=>simp[ai];omega
    .go_wp2_with (first
      | (go_at_fn F
         apply b3.mono;rintro en w3 ⟨rfl,V⟩;have g7:=V.heap qm id;have d4:=V.heap qp id;have j1:=V.heap qo id;have d5:=d8.fr V id;have l6:=V.cell d9 id;have d6:=zh (g5.step V zn);have g8:=V.size;clear y0 y1 y2 y3 y4 y5 y6 V qm qp qo d9 d8 b3;obtain⟨y0,y1,y2,y3,y4,y5,y6⟩:=cl7 g7;have z0:w3 ⟨(wr:C)+1,0,Q⟩=G (.string mi):=zB d4 0;have z1:w3 ⟨(wr:C)+1,1,Q⟩=G (.int E ms):=zB d4 1)
      | (at_mapUpdate;refine zDv rfl _ _ _ 272 226 rfl bd (w:C) _ k (by unfold aj;omega) mi ms l1 l2 (af #[.string mp,.string mi,.int E mr,.int E ms,.int E mt,.int E me,.slice ma ml mc]) rfl d5 rfl rfl ?_;intro w6 l7 g9))
     have l8:PMap w6 (w:C) (mapP (zU I (L.take (k+1)))) (k+1):=(by rw[l0,zAW,zCW l5 Hg,<-zIq];exact l7);have H:=zg3 l8 (d6.step g9 (λb hb e=>by omega)) g9.size;clear l7 l8 g9;go_roundw;case rel=>exact⟨k+1,by omega,by go_num,H.1,H.2.1,by have:=H.2.2;omega⟩
     case measure=>simp[ai];omega
   .obtain⟨op,oi,or,os,ot,oe,oa,ol,oc⟩:=o;have hv:(mapP (zU I (L.take k)) (mi,ms)).getD zBz=af #[.string op,.string oi,.int E or,.int E os,.int E ot,.int E oe,.slice oa ol oc]:=(by unfold mapP;rw[hg];rfl);have l4:(mapP (zU I (L.take k)) (mi,ms)).isSome=true:=(by unfold mapP;rw[hg];rfl);have A7:=Hb.p _ (cm (zAN _ _ _ hg).1);simp only at A7;have Hg:=zh hg;clear hg;go_upto_region 7 with(at_lookup;refine zE0 rfl _ _ 272 226 zBz (zIE _) rfl bd (w:C) _ k mi ms l1 l2 rfl i9 rfl (af #[.string op,.string oi,.int E or,.int E os,.int E ot,.int E oe,.slice oa ol oc]) hv ah l4 ?_)
    have d7:Fr No wr (((wr.alloc (P #[.string mp,.string mi,.int E mr,.int E ms,.int E mt,.int E me,.slice ma ml mc] 226)).alloc (P #[.string mi,.int E ms] 274)).alloc (P #[.string op,.string oi,.int E or,.int E os,.int E ot,.int E oe,.slice oa ol oc] 226)):=l3.alloc _;have qm:=zC3 wr (P #[.string mp,.string mi,.int E mr,.int E ms,.int E mt,.int E me,.slice ma ml mc] 226) (P #[.string mi,.int E ms] 274) (P #[.string op,.string oi,.int E or,.int E os,.int E ot,.int E oe,.slice oa ol oc] 226);have qp:=zC2 wr (P #[.string mp,.string mi,.int E mr,.int E ms,.int E mt,.int E me,.slice ma ml mc] 226) (P #[.string mi,.int E ms] 274) (P #[.string op,.string oi,.int E or,.int E os,.int E ot,.int E oe,.slice oa ol oc] 226);have qo:=zC1 wr (P #[.string mp,.string mi,.int E mr,.int E ms,.int E mt,.int E me,.slice ma ml mc] 226) (P #[.string mi,.int E ms] 274) (P #[.string op,.string oi,.int E or,.int E os,.int E ot,.int E oe,.slice oa ol oc] 226);have d8:=i9.fr ((aa No _).alloc (P #[.string op,.string oi,.int E or,.int E os,.int E ot,.int E oe,.slice oa ol oc] 226)) id;clear i9 hv l4 c0 c1 c2 c3 c4 c5 c6 l3;generalize ((wr.alloc (P #[.string mp,.string mi,.int E mr,.int E ms,.int E mt,.int E me,.slice ma ml mc] 226)).alloc (P #[.string mi,.int E ms] 274)).alloc (P #[.string op,.string oi,.int E or,.int E os,.int E ot,.int E oe,.slice oa ol oc] 226)=W2 at *;obtain⟨y0,y1,y2,y3,y4,y5,y6⟩:=cl7 qm;have d9:=d7.cell p1 id;have g5:=zh (e3.step d7 zn);have p2:=d7.size;clear d7 e3 p1;obtain⟨gd,g6⟩:=ε (I ⟨mp,mi,mr,ms,mt,me,ma,ml,mc⟩)
    have l5:M (I ⟨mp,mi,mr,ms,mt,me,ma,ml,mc⟩=gd):=g6.symm;have b3:=k6 mp mi mr ms mt me ma ml mc W2;rw[<-g6]at b3;clear g6;rcases gd with _|_
    .go_wp2_with
      (go_at_fn F
       apply b3.mono;rintro en w3 ⟨rfl,V⟩;have g7:=V.heap qm id;have d4:=V.heap qp id;have j1:=V.heap qo id;have d5:=d8.fr V id;have l6:=V.cell d9 id;have d6:=zh (g5.step V zn);have g8:=V.size;clear y0 y1 y2 y3 y4 y5 y6 V qm qp qo d9 d8 b3)
     have e0:PMap w3 (w:C) (mapP (zU I (L.take (k+1)))) k:=(by rw[l0,zAW,zEn l5];exact d5);have H:=zg2 e0 d6;clear e0 d5;go_roundw;case rel=>exact⟨k+1,by omega,by go_num,H.1.mono (by omega),H.2,by omega⟩
     case measure=>simp[ai];omega
    .go_wp2_with
      (go_at_fn F
       apply b3.mono;rintro en w3 ⟨rfl,V⟩;have g7:=V.heap qm id;have d4:=V.heap qp id;have j1:=V.heap qo id;have d5:=d8.fr V id;have l6:=V.cell d9 id;have d6:=zh (g5.step V zn);have g8:=V.size;clear y0 y1 y2 y3 y4 y5 y6 V qm qp qo d9 d8 b3;obtain⟨y0,y1,y2,y3,y4,y5,y6⟩:=cl7 g7;obtain⟨z0,z1,z2,z3,z4,z5⟩:=cl6 j1;have z6:w3 ⟨(wr:C)+1+1,6,Q⟩=G (.slice oa ol oc):=zB j1 6)
     apply (zIs mp mi op oi mr ms mt me or os ot oe _ _ m0 _ A6 A7 l6).mono;rintro en w5 ⟨rfl,j2⟩;have A8:=j2.heap g7 id;have A9:=j2.heap d4 id;have e0:=d5.fr j2 id;have D2:=zh (d6.step j2 zn);have U5:=j2.size;clear y0 y1 y2 y3 y4 y5 y6 z0 z1 z2 z3 z4 z5 z6 j2 g7 d4 j1 l6 d5;rcases ha:aheadB mp mr op or with _|_
     .clear A8 A9;have D3:PMap w5 (w:C) (mapP (zU I (L.take (k+1)))) k:=(by rw[l0,zAW,zH6 (m:=⟨mp,mi,mr,ms,mt,me,ma,ml,mc⟩) (o:=⟨op,oi,or,os,ot,oe,oa,ol,oc⟩) Hg ha];exact e0);have H:=zg2 D3 D2;clear D3 e0;go_wp2;go_roundw;case rel=>exact⟨k+1,by omega,by go_num,H.1.mono (by omega),H.2,by omega⟩
      case measure=>simp[ai];omega
     .have M5:M (∀ o,zU I (L.take k) (mi,ms)=G o->ahead ⟨mp,mi,mr,ms,mt,me,ma,ml,mc⟩ o=ah):=λo ho=>by rw[Hg.out]at ho;cases ho;exact ha
      clear ha;obtain⟨y0,y1,y2,y3,y4,y5,y6⟩:=cl7 A8;obtain⟨z0,z1⟩:=cl2 A9;go_wp2_with (at_mapUpdate;refine zDv rfl _ _ _ 272 226 rfl bd (w:C) _ k (by unfold aj;omega) mi ms l1 l2 (af #[.string mp,.string mi,.int E mr,.int E ms,.int E mt,.int E me,.slice ma ml mc]) rfl e0 rfl rfl ?_;intro w6 l7 g9)
      have l8:PMap w6 (w:C) (mapP (zU I (L.take (k+1)))) (k+1):=(by rw[l0,zAW,zCW l5 M5,<-zIq];exact l7);have H:=zg3 l8 (D2.step g9 (λb hb e=>by omega)) g9.size;clear l7 l8 g9;go_roundw;case rel=>exact⟨k+1,by omega,by go_num,H.1,H.2.1,by have:=H.2.2;omega⟩
      case measure=>simp[ai];omega
  .obtain rfl:k=(L:C):=by omega
   rw[bc]at hI;obtain⟨D,n,hn,ho,hh⟩:=hI;have Hh:=zh hh;have p3:=ho.size_le;have l9:M (∀ x s m,zU I L (x,s)=G m->(m∈L/\I m=ah/\m.i=x/\m.s=s)/\x.size<=aj/\(Lit.int E s).wf=ah):=λx s m hm=>by
    obtain⟨h1,h2,h3⟩:=zAN L (x,s) m hm;simp only[Prod.mk.injEq]at h3;obtain⟨rfl,rfl⟩:=h3;exact⟨⟨h1,h2,rfl,rfl⟩,by have:=Hb.i m h1;unfold aj;omega,Hb.s m h1⟩
   obtain⟨j0,D4,D5,D6,D7⟩:=bh zQJ;have qg:=zF wr (.map #[] 0);have t7:Fr No wr (wr.alloc (.map #[] 0)):=(aa _ _).alloc _;have D8:=t7.ownsMap ho id;have D9:(wr.alloc (.map #[] 0)).heap.size=(wr:C)+1:=(by simp);have r5:=e3.step t7 zn;clear hh ho e3 A3;go_upto_region 11 with(fail)
   generalize wr.alloc (.map #[] 0)=W1 at *;generalize (wr:C)=gm at *;have F0:GMap W1 ((W1:C)+1) gm (λ_=>[]) 0:=GMap.made qg (by omega);have t8:M ((w:C)<gm):=A4;have j3:=zh D9;clear t7 D9 qg A4;go_wp2_with (at_range;refine wpList_range_own _ rfl _ 272 rfl 274 226 lawP bd heldV (w:C) n D rfl D8 ?_;intro w2 r6 t9 p2)
   have F1:=F0.grown t9 (by simp) (λj e=>by cases e);have F2:=r5.step (be t9) zn;clear r5 F0 t9 D8
   go_frame
   go_loopw [57] (λv j4=>∃ (e4:Lit->Bool) (v0 N:C) (f:ac UInt8->ac B),j4.ranges al 274 heldV (w:C) (W1:C) n D e4 v0/\N+v0<=Maps.size D/\GMap j4 ((W1:C)+1) gm f N/\M (Grp D e4 f)/\M (Fr (From (w:C)) w j4)/\(W1:C)+1<=(j4:C))
    (λ_ j4=>j4.rangeLeft (w:C) (W1:C))
   case atStart=>exact⟨_,_,0,_,r6,by omega,F1,Grp.start D,F2,by omega⟩
   case round=>
    obtain⟨e4,v0,N,f,m4,U6,hG,HG,Hf,g8⟩:=hrel;clear F1 r6 F2 p2;go_wp2_with (at_next;refine wpList_next_ranges _ rfl _ rfl 274 lawP heldV (λx:R×B=>af #[.string x.1,.int E x.2]) (λv:ax=>v) (λU7 kl h=>by obtain⟨s,n,rfl,_⟩:=zIu h;exact⟨(s,n),rfl⟩) (λv y h=>⟨v,rfl⟩) (w:C) (W1:C) n D _ _ rfl m4 ?_ ?_)
    .intro M6 F3;have F4:PMap wr (w:C) (mapP (zU I L)) n:=⟨D,n,ca _,m4.owns,Hh⟩
     have F5:M (∀ x,IsSlots (zU I L) x (f (kb x))):=HG.slots F3 (λx h1 h2=>(Hh x h1 h2).1) (λx s m h=>(l9 x s m h).2);have hN:N<=1000:=(by omega);clear m4 HG F3 M6 Hh;go_wp2_with fail;apply (zJb gm _ f N _ hG (by omega)).mono;rintro en w4 ⟨⟨ia,ic,a9,rfl,F6,r7,b2,r8,M7⟩,m5⟩;have r9:M (IsIds2 (zU I L) a9):=IsIds2.of_slots r7 b2 F5;have F7:=zh b2;have m6:=hG.grown (m5.grown (row:=Q) (λ_ h=>h.elim)) (by simp) (λj e=>by cases e);have v1:=F4.fr m5 id;have p4:M (Fr (From (w:C)) w w4):=Hf.step m5 zn;have M8:=m5.size;have m7:M ((a9:C)<=N):=r8;have j5:M ((w:C)<=(w4:C)):=(by have:=t8.out;have:=j3.out;unfold M;omega);clear r7 b2 hG F4 m5 Hf r8 M7 g8;obtain⟨s0,e2,e5,e6,e7⟩:=bh infoS;go_wp2_with fail;go_loopw [13,75] (λu i v2=>∃ (j:C) (O:ac ArrM) (av:am an) (cv:C),j<=(a9:C)/\(O:C)=j/\u=.slice av O cv/\i=.int E (j:B)/\v2.ownsRow (w4:C) 176 6 (.slice av O cv) (O:C) (arflat O)/\AFresh v2 (w4:C) O/\M (O.map br=(a9.take j).map (buildA (zU I L)))/\Fr (From (w4:C)) w4 v2) (λ_ i _=>(a9:C)-(ai i).toNat);case atStart=>exact⟨0,[],Q,0,by omega,rfl,rfl,rfl,bw _ _ _ _,λ_ h=>by simp at h,by unfold M;simp,aa _ _⟩
     case round=>
      obtain⟨j,O,av,cv,hj,F8,rfl,rfl,a5,b4,HO,hf⟩:=hrel;have R4:(a9:C)<=1000:=(by have:=m7.out;omega);have R5:(O:C)<=1000:=(by have:=m7.out;omega);have M9:=zh F8;clear F8;by_cases i8:j<(a9:C)
      .have A5:(j:B)<(a9:C):=(by omega);obtain⟨b,M4,x,rfl,v3,hc⟩:=(F6.fr hf (λJ e v4=>by have:=(F6.cell J e v4).2.1;omega)).at i8;have N0:M (a9.take (j+1)=a9.take j++[x]):=(by unfold M;rw[ay,v3];rfl);have v5:=au v3;have F9:=zh ((F7 x).1 v5);obtain⟨s9,I0⟩:=(r9.mem x).1 v5;obtain⟨m9,I1⟩:=Option.isSome_iff_exists.1 I0;have h0:x.size<=maxLen:=(l9 x s9 m9 I1).2.1;clear v3 v5 I0 I1;have I2:=Fr.grownF hf;have v6:=m6.grown I2 (by simp) (λj e=>by cases e);have p5:=v1.fr hf (by unfold From;have:=v1.lt;omega);obtain⟨v,b5,e8,m8,_⟩:=v6.look (by unfold aj;omega) h0;obtain⟨za,zc,rfl,hZ,U8⟩:=Ints.of_own e8.1 e8.2;obtain⟨zs,v7⟩:=ε (f (kb x))
       rw[<-v7]at b5 e8 m8 hZ F9;have j6:M (IsSlots (zU I L) x zs):=(by rw[v7];exact F5 x);have I3:1<=(zs:C):=by have:=F9.out;rcases zs with _|⟨_,_⟩;exact absurd rfl this;simp
       clear v7 e8;go_wp2_with (at_lookup;refine zAx rfl _ _ 277 rfl (.map (G gm)) (.string x) (.slice za zs zc) rfl rfl (b5 _ rfl) ?_)
       apply (zPw za zc zs _ hZ I3).mono;rintro en w5 ⟨⟨m,rfl,hm,s1⟩,rfl⟩;obtain⟨o,ho⟩:=Option.isSome_iff_exists.1 ((j6.mem m).1 hm);have n3:M (∀ s∈zs,1<=s/\s<=16):=λs hs=>by
        obtain⟨m',N1⟩:=Option.isSome_iff_exists.1 ((j6.mem s).1 hs);obtain⟨⟨_,h2,_,h4⟩,_⟩:=l9.out x s m' N1;have h2:=A2 _ h2;unfold soundB at h2;simp only[bi,cw]at h2;omega
       have N2:M (zr (zU I L) x=o):=by
        have:=zF3 j6 n3 hm s1;unfold M zr;rw[this,ho];rfl
       obtain⟨⟨v8,n4,I4,I5⟩,_,N3⟩:=l9.out x m o ho;have b6:=p5.look (zIE wr) bd h0 N3;have hv:(mapP (zU I L) (x,m)).getD zBz=o.v:=(by unfold mapP;rw[ho];rfl);rw[hv]at b6;have N4:1<=o.t/\o.t<=16:=by
        have n4:=A2 _ n4;unfold soundB at n4;simp only[bi,cw]at n4;omega
       have j7:=Hb.l o v8;have k9:=((k8 wr (p4.trans hf (λb hb h=>h) (λb hb h=>by unfold From at h ⊢;have:=j5.out;omega))).ok o v8)
       have I6:=zh b5;clear hv ho v8 n4 I4 hm s1 b5;obtain⟨op,oi,or,os,ot,oe,oa,ol,oc⟩:=o;simp only at I5 N4 j7 k9;subst I5;obtain⟨T,rfl⟩:∃ T:C,ot=(T:B):=⟨ot.toNat,by omega⟩
       unfold Mem.v bt at b6;simp only at b6;have p6:Fr No wr (wr.alloc (P #[.string op,.string oi,.int E or,.int E os,.int E (T:B),.int E oe,.slice oa ol oc] 226)):=(aa _ _).alloc _;have q3:=zF wr (P #[.string op,.string oi,.int E or,.int E os,.int E (T:B),.int E oe,.slice oa ol oc] 226);go_upto_region 20 with(at_lookup;refine zAx rfl _ _ 272 rfl (.map (G (w:C))) (af #[.string x,.int E os]) (af #[.string op,.string oi,.int E or,.int E os,.int E (T:B),.int E oe,.slice oa ol oc]) rfl rfl b6 ?_)
       generalize wr.alloc (P #[.string op,.string oi,.int E or,.int E os,.int E (T:B),.int E oe,.slice oa ol oc] 226)=W3 at *;have j8:=k9.no p6 (λ_=>id);have N5:=zh p6;have N6:=zC q3;have g8:=p6.size;clear k9 p6;go_cut [17] (λv wx=>∃ (ab pa:C) (la:am an) (lc:C),v=.pointer (G ⟨ab,0,Q⟩)/\wx.heap[ab]?=G (P #[.string x,.slice (G ⟨pa,0,Q⟩) T T,.int E (T:B),.int E oe,.int E 0,.slice la ol lc] 176)/\wx.heap[pa]?=G (P ((List.replicate T (():R)).map bv).toArray 9)/\pa≠ab/\Strs wx la lc ol/\BlkT wx la 9/\(W3:C)<=ab/\(W3:C)<=pa/\(∀ J,la=G J->J.block≠pa/\(W3:C)<=J.block)/\Fr No W3 wx);case first=>
        refine zZ (From (W3:C)) (.q 0 (.q 1 (.q 2 (.q 4 (.q 5 (.q 6 (.q 7 (.q 8 (.q 9 (.m3 3 (.m2 10 (.q 11 (.m1 12 (.m1 13 .fin))) 12 (.m1 10 (.q 11 (.m1 13 .fin)))) 10 (.m2 3 (.q 11 (.m1 12 (.m1 13 .fin))) 12 (.m1 3 (.q 11 (.m1 13 .fin)))) 12 (.m2 3 (.m1 10 (.q 11 (.m1 13 .fin))) 10 (.m1 3 (.q 11 (.m1 13 .fin)))))))))))))) _ (λw0 a6=>?_) zj;have q0:=a6.heap q3 id;have R6:=a6.size;have nf:¬ From (W3:C) (wr:C):=(by omega);have c4:∀ g:Gr (From (W3:C)) w0,g.W ⟨wr,4,Q⟩=G (.int E (T:B)):=λg=>g.fr.cell (zB q0 4) nf
        have c5:∀ g:Gr (From (W3:C)) w0,g.W ⟨wr,5,Q⟩=G (.int E oe):=λg=>g.fr.cell (zB q0 5) nf
        have c6:∀ g:Gr (From (W3:C)) w0,g.W ⟨wr,6,Q⟩=G (.slice oa ol oc):=λg=>g.fr.cell (zB q0 6) nf
        (repeat apply zL rfl rfl rfl;intro K hK;go_big_quiet_op;go_big_quiet_on);clear c4 c5 c6;refine zOZ rfl rfl rfl ?_ ?_ ?_
        .go_wp2_with (at_make;refine bq _ rfl _ _ 30 rfl (W3:C) 9 s0 (.string ao) 1 bo e2 e5 e6 E E (T:B) (T:B) T rfl rfl rfl rfl (by rw[e7];omega) (by unfold aj;omega) (by omega) ?_;intro X1 hP a7)
         have b7:Fr No w0 X1:=be a7;have a2:M ((w0:C)<(X1:C)):=ze hP rfl;have HP:=zh (zBO hP);clear hP a7;have s2:=b7.size;apply zm b7;have b0:Fr No W3 X1:=a6.step b7 zi;refine zAB rfl rfl ?_ ?_
         .go_wp2_with fail;apply (zAv oa oc ol _ (j8.no b0 (λ_=>id)) j7).mono;rintro en Y ⟨⟨la,lc,rfl,hL,Z,a8⟩,X⟩;have HL:=zg3 hL Z a8;clear hL Z a8;go_wp2_with fail;have g0:=X.size;apply zm X;have b1:Fr No W3 Y:=b0.step X zi;(repeat apply zL rfl rfl rfl;intro K hK;go_big_quiet_op;go_big_quiet_on);apply zH rfl;go_wp2_with fail;have U:Fr No Y (Y.alloc (P #[.string (),.slice Q 0 0,.int E 0,.int E 0,.int E 0,.slice Q 0 0] 176)):=(aa _ _).alloc _;have h7:=zF Y (P #[.string (),.slice Q 0 0,.int E 0,.int E 0,.int E 0,.slice Q 0 0] 176);generalize Y.alloc (P #[.string (),.slice Q 0 0,.int E 0,.int E 0,.int E 0,.slice Q 0 0] 176)=X3 at *;have g1:=U.size;apply zm U;have b8:Fr No W3 X3:=b1.step U zi;apply zH rfl;have qe:=(aa No X3).heap h7 id;obtain⟨z0,z1,z2,z3,z4,z5⟩:=cl6 qe;obtain⟨y0,y1,y2,y3,y4,y5⟩:=fl6 qe;have b9:=zh qe;clear qe;go_wp2_with fail;have h6:=set6 b9 rfl (.string x) (.slice (G ⟨w0,0,Q⟩) T T) (.int E (T:B)) (.int E oe) (.int E 0) (.slice la ol lc);refine aw ⟨h6.2.mono (λb _ h=>by omega),?_⟩;apply zW;go_wp2;go_meet;have a4:(w0:C)≠(Y:C):=(by have:=a2.out;have:=zC h7;omega);have a3:∀ J,la=G J->J.block≠(Y:C)/\J.block≠(w0:C)/\(W3:C)<=J.block:=λJ e=>by
           have h1:=HL.2.2 J e;obtain⟨cs,h2⟩:=HL.2.1 J e;have h3:=zC h2;have h4:=a2.out;have h5:=zC h7;refine⟨?_,?_,?_⟩<;>omega
          exact⟨(Y:C),(w0:C),la,lc,rfl,h6.1,((((aa No X1).step X zi).step U zi).mono (T:=Is ((Y:C))) zn).step h6.2 zi |>.heap HP a4,a4,(HL.1.no ((aa No Y).step U zi) (λ_=>id)).fr h6.2 (λJ e _=>(a3 J e).1),(HL.2.1.fr ((aa No Y).step U zi) (λ_ _=>id)).fr h6.2 (λJ e=>(a3 J e).1),by omega,by omega,λJ e=>(a3 J e).2,b8.step h6.2 (λb hb h=>by omega)⟩
         .go_wp2_with fail;have X:Fr No X1 (X1.alloc (P #[.string (),.slice Q 0 0,.int E 0,.int E 0,.int E 0,.slice Q 0 0] 176)):=(aa _ _).alloc _;have h8:=zF X1 (P #[.string (),.slice Q 0 0,.int E 0,.int E 0,.int E 0,.slice Q 0 0] 176);generalize X1.alloc (P #[.string (),.slice Q 0 0,.int E 0,.int E 0,.int E 0,.slice Q 0 0] 176)=Y at *;have g0:=X.size;apply zm X;have b1:Fr No W3 Y:=b0.step X zi;apply zH rfl;go_wp2_with fail;apply (zAv oa oc ol _ (j8.no b1 (λ_=>id)) j7).mono;rintro en X3 ⟨⟨la,lc,rfl,hL,Z,a8⟩,U⟩;have HL:=zg3 hL Z a8;clear hL Z a8;go_wp2_with fail;have g1:=U.size;apply zm U;have b8:Fr No W3 X3:=b1.step U zi;(repeat apply zL rfl rfl rfl;intro K hK;go_big_quiet_op;go_big_quiet_on);apply zH rfl;have qe:=((aa No Y).step U zi).heap h8 id;obtain⟨z0,z1,z2,z3,z4,z5⟩:=cl6 qe;obtain⟨y0,y1,y2,y3,y4,y5⟩:=fl6 qe;have b9:=zh qe;clear qe;go_wp2_with fail;have h6:=set6 b9 rfl (.string x) (.slice (G ⟨w0,0,Q⟩) T T) (.int E (T:B)) (.int E oe) (.int E 0) (.slice la ol lc);refine aw ⟨h6.2.mono (λb _ h=>by omega),?_⟩;apply zW;go_wp2;go_meet;have a4:(w0:C)≠(X1:C):=(by have:=a2.out;have:=zC h8;omega);have a3:∀ J,la=G J->J.block≠(X1:C)/\J.block≠(w0:C)/\(W3:C)<=J.block:=λJ e=>by
           have h1:=HL.2.2 J e;obtain⟨cs,h2⟩:=HL.2.1 J e;have h3:=zC h2;have h4:=a2.out;have h5:=zC h8;refine⟨?_,?_,?_⟩<;>omega
          exact⟨(X1:C),(w0:C),la,lc,rfl,h6.1,((((aa No X1).step X zi).step U zi).mono (T:=Is ((X1:C))) zn).step h6.2 zi |>.heap HP a4,a4,(HL.1.no (aa No X3) (λ_=>id)).fr h6.2 (λJ e _=>(a3 J e).1),(HL.2.1.fr (aa No X3) (λ_ _=>id)).fr h6.2 (λJ e=>(a3 J e).1),by omega,by omega,λJ e=>(a3 J e).2,b8.step h6.2 (λb hb h=>by omega)⟩
        .go_wp2_with fail;apply (zAv oa oc ol _ (j8.no a6 (λ_=>id)) j7).mono;rintro en X1 ⟨⟨la,lc,rfl,hL,Z,a8⟩,b7⟩;have HL:=zg3 hL Z a8;clear hL Z a8;go_wp2_with fail;have s2:=b7.size;apply zm b7;have b0:Fr No W3 X1:=a6.step b7 zi;refine zAB rfl rfl ?_ ?_
         .go_wp2_with (at_make;refine bq _ rfl _ _ 30 rfl (W3:C) 9 s0 (.string ao) 1 bo e2 e5 e6 E E (T:B) (T:B) T rfl rfl rfl rfl (by rw[e7];omega) (by unfold aj;omega) (by omega) ?_;intro Y hP a7)
          have X:Fr No X1 Y:=be a7;have a2:M ((X1:C)<(Y:C)):=ze hP rfl;have HP:=zh (zBO hP);clear hP a7;have g0:=X.size;apply zm X;have b1:Fr No W3 Y:=b0.step X zi;(repeat apply zL rfl rfl rfl;intro K hK;go_big_quiet_op;go_big_quiet_on);apply zH rfl;go_wp2_with fail;have U:Fr No Y (Y.alloc (P #[.string (),.slice Q 0 0,.int E 0,.int E 0,.int E 0,.slice Q 0 0] 176)):=(aa _ _).alloc _;have h7:=zF Y (P #[.string (),.slice Q 0 0,.int E 0,.int E 0,.int E 0,.slice Q 0 0] 176);generalize Y.alloc (P #[.string (),.slice Q 0 0,.int E 0,.int E 0,.int E 0,.slice Q 0 0] 176)=X3 at *;have g1:=U.size;apply zm U;have b8:Fr No W3 X3:=b1.step U zi;apply zH rfl;have qe:=(aa No X3).heap h7 id;obtain⟨z0,z1,z2,z3,z4,z5⟩:=cl6 qe;obtain⟨y0,y1,y2,y3,y4,y5⟩:=fl6 qe;have b9:=zh qe;clear qe;go_wp2_with fail;have h6:=set6 b9 rfl (.string x) (.slice (G ⟨X1,0,Q⟩) T T) (.int E (T:B)) (.int E oe) (.int E 0) (.slice la ol lc);refine aw ⟨h6.2.mono (λb _ h=>by omega),?_⟩;apply zW;go_wp2;go_meet;have a4:(X1:C)≠(Y:C):=(by have:=a2.out;have:=zC h7;omega);have a3:∀ J,la=G J->J.block≠(Y:C)/\J.block≠(X1:C)/\(W3:C)<=J.block:=λJ e=>by
           have h1:=HL.2.2 J e;obtain⟨cs,h2⟩:=HL.2.1 J e;have h3:=zC h2;have h4:=a2.out;have h5:=zC h7;refine⟨?_,?_,?_⟩<;>omega
          exact⟨(Y:C),(X1:C),la,lc,rfl,h6.1,(((aa No Y).step U zi).mono (T:=Is ((Y:C))) zn).step h6.2 zi |>.heap HP a4,a4,(HL.1.no (((aa No X1).step X zi).step U zi) (λ_=>id)).fr h6.2 (λJ e _=>(a3 J e).1),(HL.2.1.fr (((aa No X1).step X zi).step U zi) (λ_ _=>id)).fr h6.2 (λJ e=>(a3 J e).1),by omega,by omega,λJ e=>(a3 J e).2,b8.step h6.2 (λb hb h=>by omega)⟩
         .go_wp2_with fail;have X:Fr No X1 (X1.alloc (P #[.string (),.slice Q 0 0,.int E 0,.int E 0,.int E 0,.slice Q 0 0] 176)):=(aa _ _).alloc _;have h8:=zF X1 (P #[.string (),.slice Q 0 0,.int E 0,.int E 0,.int E 0,.slice Q 0 0] 176);generalize X1.alloc (P #[.string (),.slice Q 0 0,.int E 0,.int E 0,.int E 0,.slice Q 0 0] 176)=Y at *;have g0:=X.size;apply zm X;have b1:Fr No W3 Y:=b0.step X zi;apply zH rfl;go_wp2_with (at_make;refine bq _ rfl _ _ 30 rfl (W3:C) 9 s0 (.string ao) 1 bo e2 e5 e6 E E (T:B) (T:B) T rfl rfl rfl rfl (by rw[e7];omega) (by unfold aj;omega) (by omega) ?_;intro X3 hP a7)
          have U:Fr No Y X3:=be a7;have a2:M ((Y:C)<(X3:C)):=ze hP rfl;have HP:=zh (zBO hP);clear hP a7;have g1:=U.size;apply zm U;have b8:Fr No W3 X3:=b1.step U zi;(repeat apply zL rfl rfl rfl;intro K hK;go_big_quiet_op;go_big_quiet_on);apply zH rfl;have qe:=((aa No Y).step U zi).heap h8 id;obtain⟨z0,z1,z2,z3,z4,z5⟩:=cl6 qe;obtain⟨y0,y1,y2,y3,y4,y5⟩:=fl6 qe;have b9:=zh qe;clear qe;go_wp2_with fail;have h6:=set6 b9 rfl (.string x) (.slice (G ⟨Y,0,Q⟩) T T) (.int E (T:B)) (.int E oe) (.int E 0) (.slice la ol lc);refine aw ⟨h6.2.mono (λb _ h=>by omega),?_⟩;apply zW;go_wp2;go_meet;have a4:(Y:C)≠(X1:C):=(by have:=a2.out;have:=zC h8;omega);have a3:∀ J,la=G J->J.block≠(X1:C)/\J.block≠(Y:C)/\(W3:C)<=J.block:=λJ e=>by
           have h1:=HL.2.2 J e;obtain⟨cs,h2⟩:=HL.2.1 J e;have h3:=zC h2;have h4:=a2.out;have h5:=zC h8;refine⟨?_,?_,?_⟩<;>omega
          exact⟨(X1:C),(Y:C),la,lc,rfl,h6.1,((aa No X3).mono (T:=Is ((X1:C))) zn).step h6.2 zi |>.heap HP a4,a4,(HL.1.no (((aa No X1).step X zi).step U zi) (λ_=>id)).fr h6.2 (λJ e _=>(a3 J e).1),(HL.2.1.fr (((aa No X1).step X zi).step U zi) (λ_ _=>id)).fr h6.2 (λJ e=>(a3 J e).1),by omega,by omega,λJ e=>(a3 J e).2,b8.step h6.2 (λb hb h=>by omega)⟩
        .go_wp2_with fail;have b7:Fr No w0 (w0.alloc (P #[.string (),.slice Q 0 0,.int E 0,.int E 0,.int E 0,.slice Q 0 0] 176)):=(aa _ _).alloc _;have j9:=zF w0 (P #[.string (),.slice Q 0 0,.int E 0,.int E 0,.int E 0,.slice Q 0 0] 176);generalize w0.alloc (P #[.string (),.slice Q 0 0,.int E 0,.int E 0,.int E 0,.slice Q 0 0] 176)=X1 at *;have s2:=b7.size;apply zm b7;have b0:Fr No W3 X1:=a6.step b7 zi;refine zAB rfl rfl ?_ ?_
         .go_wp2_with (at_make;refine bq _ rfl _ _ 30 rfl (W3:C) 9 s0 (.string ao) 1 bo e2 e5 e6 E E (T:B) (T:B) T rfl rfl rfl rfl (by rw[e7];omega) (by unfold aj;omega) (by omega) ?_;intro Y hP a7)
          have X:Fr No X1 Y:=be a7;have a2:M ((X1:C)<(Y:C)):=ze hP rfl;have HP:=zh (zBO hP);clear hP a7;have g0:=X.size;apply zm X;have b1:Fr No W3 Y:=b0.step X zi;apply zH rfl;go_wp2_with fail;apply (zAv oa oc ol _ (j8.no b1 (λ_=>id)) j7).mono;rintro en X3 ⟨⟨la,lc,rfl,hL,Z,a8⟩,U⟩;have HL:=zg3 hL Z a8;clear hL Z a8;go_wp2_with fail;have g1:=U.size;apply zm U;have b8:Fr No W3 X3:=b1.step U zi;(repeat apply zL rfl rfl rfl;intro K hK;go_big_quiet_op;go_big_quiet_on);apply zH rfl;have qe:=(((aa No X1).step X zi).step U zi).heap j9 id;obtain⟨z0,z1,z2,z3,z4,z5⟩:=cl6 qe;obtain⟨y0,y1,y2,y3,y4,y5⟩:=fl6 qe;have b9:=zh qe;clear qe;go_wp2_with fail;have h6:=set6 b9 rfl (.string x) (.slice (G ⟨X1,0,Q⟩) T T) (.int E (T:B)) (.int E oe) (.int E 0) (.slice la ol lc);refine aw ⟨h6.2.mono (λb _ h=>by omega),?_⟩;apply zW;go_wp2;go_meet;have a4:(X1:C)≠(w0:C):=(by have:=a2.out;have:=zC j9;omega);have a3:∀ J,la=G J->J.block≠(w0:C)/\J.block≠(X1:C)/\(W3:C)<=J.block:=λJ e=>by
           have h1:=HL.2.2 J e;obtain⟨cs,h2⟩:=HL.2.1 J e;have h3:=zC h2;have h4:=a2.out;have h5:=zC j9;refine⟨?_,?_,?_⟩<;>omega
          exact⟨(w0:C),(X1:C),la,lc,rfl,h6.1,(((aa No Y).step U zi).mono (T:=Is ((w0:C))) zn).step h6.2 zi |>.heap HP a4,a4,(HL.1.no (aa No X3) (λ_=>id)).fr h6.2 (λJ e _=>(a3 J e).1),(HL.2.1.fr (aa No X3) (λ_ _=>id)).fr h6.2 (λJ e=>(a3 J e).1),by omega,by omega,λJ e=>(a3 J e).2,b8.step h6.2 (λb hb h=>by omega)⟩
         .go_wp2_with fail;apply (zAv oa oc ol _ (j8.no b0 (λ_=>id)) j7).mono;rintro en Y ⟨⟨la,lc,rfl,hL,Z,a8⟩,X⟩;have HL:=zg3 hL Z a8;clear hL Z a8;go_wp2_with fail;have g0:=X.size;apply zm X;have b1:Fr No W3 Y:=b0.step X zi;apply zH rfl;go_wp2_with (at_make;refine bq _ rfl _ _ 30 rfl (W3:C) 9 s0 (.string ao) 1 bo e2 e5 e6 E E (T:B) (T:B) T rfl rfl rfl rfl (by rw[e7];omega) (by unfold aj;omega) (by omega) ?_;intro X3 hP a7)
          have U:Fr No Y X3:=be a7;have a2:M ((Y:C)<(X3:C)):=ze hP rfl;have HP:=zh (zBO hP);clear hP a7;have g1:=U.size;apply zm U;have b8:Fr No W3 X3:=b1.step U zi;(repeat apply zL rfl rfl rfl;intro K hK;go_big_quiet_op;go_big_quiet_on);apply zH rfl;have qe:=(((aa No X1).step X zi).step U zi).heap j9 id;obtain⟨z0,z1,z2,z3,z4,z5⟩:=cl6 qe;obtain⟨y0,y1,y2,y3,y4,y5⟩:=fl6 qe;have b9:=zh qe;clear qe;go_wp2_with fail;have h6:=set6 b9 rfl (.string x) (.slice (G ⟨Y,0,Q⟩) T T) (.int E (T:B)) (.int E oe) (.int E 0) (.slice la ol lc);refine aw ⟨h6.2.mono (λb _ h=>by omega),?_⟩;apply zW;go_wp2;go_meet;have a4:(Y:C)≠(w0:C):=(by have:=a2.out;have:=zC j9;omega);have a3:∀ J,la=G J->J.block≠(w0:C)/\J.block≠(Y:C)/\(W3:C)<=J.block:=λJ e=>by
           have h1:=HL.2.2 J e;obtain⟨cs,h2⟩:=HL.2.1 J e;have h3:=zC h2;have h4:=a2.out;have h5:=zC j9;refine⟨?_,?_,?_⟩<;>omega
          exact⟨(w0:C),(Y:C),la,lc,rfl,h6.1,((aa No X3).mono (T:=Is ((w0:C))) zn).step h6.2 zi |>.heap HP a4,a4,(HL.1.no ((aa No Y).step U zi) (λ_=>id)).fr h6.2 (λJ e _=>(a3 J e).1),(HL.2.1.fr ((aa No Y).step U zi) (λ_ _=>id)).fr h6.2 (λJ e=>(a3 J e).1),by omega,by omega,λJ e=>(a3 J e).2,b8.step h6.2 (λb hb h=>by omega)⟩
       case rest=>
        obtain⟨ab,pa,la,lc,rfl,n5,v9,a4,g2,Z,N7,N8,p7,I7⟩:=hcut;have n6:Fr No wr wc:=N5.step I7 zi;have N9:=n6.size;have U9:=hZ.no n6 (λ_=>id);have s3:wc.heap[gm]?=wr.heap[gm]?:=n6.block gm v6.lt id;have I8:=I6.out wc s3;have HK:M (∀ W:ak,Fr (λb=>b=ab\/b=pa) wc W->(W.ownsRow (w4:C) 176 6 (.slice av O cv) (O:C) (arflat O)/\AFresh W (w4:C) O)/\Fr (From (w4:C)) w4 W/\Strs W la lc ol/\BlkT W la 9/\PMap W (w:C) (mapP (zU I L)) n/\Ints W za zc zs):=λW hW=>by
         have n7:Fr (λb=>(wr:C)<=b) wr W:=(n6.mono zn).step hW (λb hb h=>by omega);refine⟨⟨zG a5 n7 (λb hb h=>by have h1:=ze a5 hb;omega),b4.fr n7 (λb _ h1 h2=>by omega)⟩,hf.step n7 (λb hb h=>by have:=hf.size;omega),g2.fr hW (λJ e _ h=>?_),Z.fr hW (λJ e h=>?_),p5.fr n7 (by have:=p5.lt;omega),hZ.fr n7 (λJ e v4 h=>by have:=(hZ.cell J e v4).2.1;omega)⟩
         .obtain⟨cs,h2⟩:=Z J e;have:=p7 J e;rcases h with h|h
          .rw[h]at h2;rw[n5]at h2;cases h2
          .exact this.1 h
         .obtain⟨cs,h2⟩:=Z J e;have:=p7 J e;rcases h with h|h
          .rw[h]at h2;rw[n5]at h2;cases h2
          .exact this.1 h
        have w1:M ((∀ J,la=G J->(w4:C)<=J.block)/\(w4:C)<=pa/\(w4:C)<=ab/\pa<(wc:C)/\ab<(wc:C)):=⟨λJ e=>by have:=p7 J e;have:=hf.size;omega,by have:=hf.size;omega,by have:=hf.size;omega,zC v9,zC n5⟩
        clear hZ I2 v6 p5 q3 j8 N6 g8 g2 Z N7 N8 p7 I7 n6 N9 s3 a5 b4 hf b6 hc;go_wp2_with (at_lookup;refine zAx rfl _ _ 277 rfl (.map (G gm)) (.string x) (.slice za zs zc) rfl rfl I8 ?_)
        clear I8;go_loopw [103] (λi w7=>∃ q:C,q<=(zs:C)/\i=.int E (q:B)/\w7.heap[ab]?=G (P #[.string x,.slice (G ⟨pa,0,Q⟩) T T,.int E (T:B),.int E oe,.int E ((cntJ T (zs.take q):C):B),.slice la ol lc] 176)/\w7.heap[pa]?=G (P ((psJ (zU I L) x T (zs.take q)).map bv).toArray 9)/\M (Fr (λb=>b=ab\/b=pa) wc w7)) (λi _=>(zs:C)-(ai i).toNat);case atStart=>exact⟨0,by omega,rfl,by simpa [cntJ]using n5,by rw[List.take_zero,zOz];exact v9,aa _ _⟩
        case round=>
         obtain⟨q,hq,rfl,qb,qp,n8⟩:=hrel;clear n5 v9;by_cases I9:q<(zs:C)
         .have O0:(q:B)<(zs:C):=(by omega);obtain⟨b',R7,s,e9,w8,V0⟩:=(HK _ n8).2.2.2.2.2.at I9;have p8:M (zs.take (q+1)=zs.take q++[s]):=(by unfold M;rw[ay,w8];rfl);have p3:=au w8;obtain⟨V1,p2⟩:=n3.out s p3;obtain⟨⟨mp,mi,mr,ms,mt,me,ma,ml,mc⟩,n9⟩:=Option.isSome_iff_exists.1 ((j6.mem s).1 p3);have J0:=zh n9;have k0:=(l9 x s _ n9).2.2;obtain rfl:=e9;clear w8 p3 n9;obtain⟨-,x1,x2⟩:=cl3 qb;by_cases w9:s<=T
          .obtain⟨kk,rfl⟩:∃ kk:C,s=(kk:B)+1:=⟨(s-1).toNat,by omega⟩
           have J1:kk<T:=(by omega);have R8:(kk:B)<T:=(by omega);have O1:M (pathAt (zU I L) x kk=mp):=(by unfold M pathAt;rw[J0]);have o0:∀ W:ak,PMap W (w:C) (mapP (zU I L)) n->(cg 272 (.map (G (w:C))) (af #[.string x,.int E ((kk:B)+1)]) ag).run al W=.ok (af #[.string mp,.string mi,.int E mr,.int E ms,.int E mt,.int E me,.slice ma ml mc]) W:=λW hW=>by
            rw[hW.look (zIE W) bd h0 k0];unfold mapP;rw[J0];rfl
           have x0:=zh o0;have O2:=hfdM;clear o0;go_upto_region 25 with(fail)
           refine zO (Is pa) [(0,ag),(1,ag),(2,ag),(3,ag),(4,ag),(5,ag),(6,ag),(7,ag),(8,ag),(9,ag),(10,ag),(11,ah)] (λw0 a6=>?_);have x5:=a6.heap qb id;have p9:=a6.heap qp id;have d1:∀ g:Gr (Is pa) w0,g.W ⟨ab,1,Q⟩=G (.slice (G ⟨pa,0,Q⟩) T T):=λg=>g.fr.cell (zB x5 1) (λh=>a4 h.symm)
           have d2:∀ g:Gr (Is pa) w0,(cg 272 (.map (G (w:C))) (af #[.string x,.int E ((kk:B)+1)]) ag).run al g.W=.ok (af #[.string mp,.string mi,.int E mr,.int E ms,.int E mt,.int E me,.slice ma ml mc]) g.W:=λg=>x0 _ (((HK _ n8).2.2.2.2.1.fr a6 id).fr g.fr (by have:=w1.2.1;have:=v1.lt;omega))
           apply zR rfl rfl rfl;intro K hK;go_big_quiet_op;go_big_quiet_on;apply zR rfl rfl rfl;intro K hK;go_big_quiet_op;go_big_quiet_on;apply zR rfl rfl rfl;intro K hK;go_big_quiet_op;go_big_quiet_on;apply zR rfl rfl rfl;intro K hK;go_big_quiet_op;go_big_quiet_on;apply zR rfl rfl rfl;intro K hK;go_big_quiet_op;go_big_quiet_on;apply zR rfl rfl rfl;intro K hK;go_big_quiet_op;go_big_quiet_on;apply zR rfl rfl rfl;intro K hK;go_big_quiet_op;go_big_quiet_on;apply zR rfl rfl rfl;intro K hK;go_big_quiet_op;go_big_quiet_on;apply zR rfl rfl rfl;intro K hK;refine zB5 rfl _ _ 272 rfl (.map (G (w:C))) (af #[.string x,.int E ((kk:B)+1)]) (af #[.string mp,.string mi,.int E mr,.int E ms,.int E mt,.int E me,.slice ma ml mc]) rfl rfl (λW hW=>by obtain⟨g,rfl⟩:=hW;exact d2 g) ?_
           go_frame
           go_big_quiet_on;apply zR rfl rfl rfl;intro K hK;go_big_quiet_op;go_big_quiet_on;apply zR rfl rfl rfl;intro K hK;go_big_quiet_op;go_big_quiet_on;clear d1 d2 x1 x2;have J2:((psJ (zU I L) x T (zs.take q)).map bv).toArray.size=T:=(by simp[zFq]);have x3:w0.frozen? ⟨pa,kk,Q⟩=false:=zD p9 kk;obtain⟨ov,x4⟩:∃ ov,w0 ⟨pa,kk,Q⟩=G ov:=by
            rw[zB p9];exact⟨_,Array.getElem?_eq_getElem (by rw[J2];exact J1)⟩
           apply zu rfl;go_wp2_with fail;refine aw ⟨bs (S:=Is pa) (p:=⟨pa,kk,Q⟩) (aa _ _) (λ_=>rfl) _,?_⟩;apply zb;have x6:Fr (Is pa) w0 (w0.setCell ⟨pa,kk,Q⟩ (.string mp)):=bs (S:=Is pa) (p:=⟨pa,kk,Q⟩) (aa _ _) (λ_=>rfl) _;have J3:=zE p9 kk (.string mp);have o1:=x6.heap x5 (λh=>a4 h.symm);have O3:M (Fr (λb=>b=ab\/b=pa) wc (w0.setCell ⟨pa,kk,Q⟩ (.string mp))):=(n8.step a6 zn).step x6 (λb _ h=>.inr h);have O4:M (cntJ T (zs.take q)<=1000):=(by have h1:=zPa T (zs.take q);have h2:=m8;unfold M;rw[List.length_take]at h1;omega);clear x3 x4 p9 x5 x6 a6 qp qb J2 O2;generalize w0.setCell ⟨pa,kk,Q⟩ (.string mp)=W5 at *;obtain⟨cn,g3⟩:∃ cn:C,cn=cntJ T (zs.take q):=⟨_,rfl⟩
           have R9:cn<=1000:=(by rw[g3];exact O4);rw[<-g3]at o1;have O5:=zh g3;clear g3;have x3:W5 ⟨ab,4,Q⟩=G (.int E (cn:B)):=zB o1 4;have x4:W5.frozen? ⟨ab,4,Q⟩=false:=zD o1 4;have q6:=zE o1 4 (.int E ((cn:B)+1));have x7:Fr (Is ab) W5 (W5.setCell ⟨ab,4,Q⟩ (.int E ((cn:B)+1))):=bs (S:=Is ab) (p:=⟨ab,4,Q⟩) (aa _ _) (λ_=>rfl) _;have J4:=x7.heap J3 a4;have g5:M (Fr (λb=>b=ab\/b=pa) wc (W5.setCell ⟨ab,4,Q⟩ (.int E ((cn:B)+1)))):=O3.step x7 (λb _ h=>.inl h);simp only[List.setIfInBounds_toArray,List.set_cons_zero,List.set_cons_succ]at q6;have J5:(W5.setCell ⟨ab,4,Q⟩ (.int E ((cn:B)+1))).heap[ab]?=G (P #[.string x,.slice (G ⟨pa,0,Q⟩) T T,.int E (T:B),.int E oe,.int E ((cntJ T (zs.take (q+1)):C):B),.slice la ol lc] 176):=by
            rw[p8,zHC,if_pos w9,<-O5];exact q6
           have d4:(W5.setCell ⟨ab,4,Q⟩ (.int E ((cn:B)+1))).heap[pa]?=G (P ((psJ (zU I L) x T (zs.take (q+1))).map bv).toArray 9):=by
            rw[p8.out,zOy _ _ _ _ _ J1,O1.out,List.map_set,J4];simp
           have H6:=zg2 J5 d4;clear q6 J5 J3 J4 d4 o1 x7;go_wp2;go_roundw;case rel=>exact⟨q+1,by omega,by go_num,H6.1,H6.2,g5⟩
           case measure=>simp[ai];omega
          .go_wp2;go_roundw;case rel=>exact⟨q+1,by omega,by go_num,by rw[p8,zHC,if_neg w9];exact qb,by rw[p8,zMp _ _ _ _ _ w9];exact qp,n8⟩
           case measure=>simp[ai];omega
         .obtain rfl:q=(zs:C):=by omega
          rw[bc]at qb qp;obtain⟨cn,g3⟩:∃ cn:C,cn=cntJ T zs:=⟨_,rfl⟩
          rw[<-g3]at qb;have x8:Arr.mk x (psJ (zU I L) x T zs) (T:B) oe (cn:B) ol=buildA (zU I L) x:=by
           unfold buildA;rw[N2,g3,zMq j6,zLs j6 (λs hs=>(n3 s hs).1)];rfl
          have V2:=zh x8;obtain⟨⟨a5,b4⟩,hf,g2,Z,_,_⟩:=HK.out _ n8;have k3:=zFd qp (by rw[zFq];unfold aj;omega);have o2:BlkT wr (G ⟨pa,0,Q⟩) 9:=λJ e=>by cases e;exact⟨_,qp⟩
          rw[zFq]at k3;obtain⟨y0,y1,y2,y3,y4,y5⟩:=cl6 qb;obtain⟨A,hA⟩:∃ A:ArrM,A=⟨Arr.mk x (psJ (zU I L) x T zs) (T:B) oe (cn:B) ol,G ⟨pa,0,Q⟩,T,la,lc⟩:=⟨_,rfl⟩
          have k4:A.vals=#[.string x,.slice (G ⟨pa,0,Q⟩) T T,.int E (T:B),.int E oe,.int E (cn:B),.slice la ol lc]:=(by rw[hA];simp[ArrM.vals,zFq]);have o3:A.toArr=buildA (zU I L) x:=(by rw[hA];exact x8);have s4:∀ u∈(#[.string x,.slice (G ⟨pa,0,Q⟩) T T,.int E (T:B),.int E oe,.int E (cn:B),.slice la ol lc]:Array ax).toList,u.oneCell'=true:=(by rw[<-k4];exact zKB A);have HS:=zg5 b4 g2 Z k3 o2;have HA:=zg3 k4 o3 hA;have J6:=zh s4;have J7:=zh a5;have O6:=zh hf;have U0:=hf.size;clear b4 g2 Z k3 o2 k4 o3 hA s4 hf qb qp g3 x8;go_wp2_with (at_builtin;refine c7 _ rfl _ _ 170 rfl (w4:C) 176 i0 (af #[.string ao,.slice Q 0 0,.int E 0,.int E 0,.int E 0,.slice Q 0 0]) 6 88 Tryz.underlying170 L7 L8 L9 M0 rfl (by decide) _ _ _ rfl (a5.alloc _) ⟨wr,0,Q⟩ 1 1 (#[.string x,.slice (G ⟨pa,0,Q⟩) T T,.int E (T:B),.int E oe,.int E (cn:B),.slice la ol lc]:Array ax).toList rfl rfl (zl _ #[.string x,.slice (G ⟨pa,0,Q⟩) T T,.int E (T:B),.int E oe,.int E (cn:B),.slice la ol lc] _ rfl) J6.out (by unfold aj;omega) (by omega) (by first|omega|(simp;done)|(simp;omega)) ?_;intro v' w6 e1 i4 _;obtain⟨O7,O8,rfl⟩:=zI e1)
          have h9:Fr No wr (wr.alloc (P #[.string x,.slice (G ⟨pa,0,Q⟩) T T,.int E (T:B),.int E oe,.int E (cn:B),.slice la ol lc] 176)):=(aa _ _).alloc _;have o4:=J7.alloc (P #[.string x,.slice (G ⟨pa,0,Q⟩) T T,.int E (T:B),.int E oe,.int E (cn:B),.slice la ol lc] 176);have x9:Fr (λb=>(ar av O cv).ownBlock=G b) (wr.alloc (P #[.string x,.slice (G ⟨pa,0,Q⟩) T T,.int E (T:B),.int E oe,.int E (cn:B),.slice la ol lc] 176)) w6:=bb i4;obtain⟨k4,o3,hA⟩:=HA.out;obtain⟨b4,g2,Z,k3,o2⟩:=HS.out;have y7:Strs wr A.pa A.pc A.ps/\Strs wr A.la A.lc A.l:=(by rw[hA];exact⟨k3,g2⟩);have y8:BlkT wr A.pa 9/\BlkT wr A.la 9:=(by rw[hA];exact⟨o2,Z⟩);have b0:(∀ J,A.pa=G J->(w4:C)<=J.block)/\∀ J,A.la=G J->(w4:C)<=J.block:=by
           rw[hA];exact⟨λJ e=>by cases e;exact w1.2.1,w1.1⟩
          have s5:AFresh w6 (w4:C) (O++[A]):=AFresh.own (AFresh.snoc (b4.fr h9 (λ_ _ _=>id)) ⟨y7.1.no h9 (λ_=>id),y7.2.no h9 (λ_=>id)⟩ ⟨y8.1.fr h9 (λ_ _=>id),y8.2.fr h9 (λ_ _=>id)⟩ b0) o4 x9;have J8:(O++[A]).map br=(a9.take (j+1)).map (buildA (zU I L)):=by
           rw[N0,bg,bg,HO];simp[o3]
          have k5:Fr (From (w4:C)) w4 w6:=(O6.step h9 zn).step x9 (λb _ h=>zQ o4 h);rw[<-k4,<-zIC]at e1;have HF:=zg4 e1 s5 J8 k5;clear e1 s5 J8 k5 i4 x9 o4 h9 y0 y1 y2 y3 y4 y5 a5 k4 o3 hA b4 g2 Z k3 o2 y7 y8 b0;go_roundw;case rel=>exact⟨j+1,O++[A],O7,O8,by omega,by rw[bf,M9];rfl,by rw[bf];rfl,by go_num,by rw[bf];exact HF.1,HF.2.1,zh HF.2.2.1,HF.2.2.2⟩
          case measure=>simp[ai];omega
      .obtain rfl:j=(a9:C):=by omega
       obtain⟨a',c',hv,hR,i5⟩:=Arrs.of_own a5 (λm hm=>(b4 m hm).1);cases hv;have ho:=HO.out;rw[bc]at ho;have o5:=zAp a5 j5;have H:=zg5 hR i5 b4 (And.intro ho o5) ((p4.trans hf (λb hb h=>h) (λb hb h=>by unfold From at h ⊢;have:=j5.out;omega)).mono (T:=No) (λb hb h=>by omega));clear a5 b4 HO hf hR i5 ho o5;go_wp2;go_ret;exact⟨⟨_,_,O,a9,rfl,H.1,λJ e=>by have:=H.2.1 J e;have:=j5.out;omega,λm hm=>⟨(H.2.2.1 m hm).1,(H.2.2.1 m hm).2.1,λJ e=>by have:=(H.2.2.1 m hm).2.2.1 J e;have:=j5.out;omega,λJ e=>by have:=(H.2.2.1 m hm).2.2.2 J e;have:=j5.out;omega⟩,r9,H.2.2.2.1.1,by have:=m7.out;omega,H.2.2.2.1.2⟩,H.2.2.2.2⟩
    .intro x s c kl y ps w3 o6 o7 k7 hv d3 s6 i8 y9 s7 O9;obtain⟨x',s',e,h0,k0⟩:=zIu o7;obtain⟨rfl,rfl⟩:x=x'/\s=s':=by simpa using e
     obtain rfl:plL (x,s)=kl:=Option.some.inj ((keyP h0 k0).symm.trans o7);have HD:M (has D (plL (x,s))=ah):=zLf d3;have k8:=zh k7;have J9:M ((W1:C)≠gm):=(by have:=j3.out;unfold M;omega);have R0:M ((W1:C)=gm+1):=j3.out;have V3:=zh s7;have U1:(W1:C)+1<=(w3:C):=(by omega);clear s7;have L0:=hG.grown y9 (λe=>by have:=Option.some.inj e;exact J9 this.symm) (λj e=>by have:=Option.some.inj e;omega);have d6:M (Fr (From (w:C)) w w3):=Hf.step (c8 y9) (λb hb e=>by unfold Is at e;unfold From;have:=t8.out;have:=j3.out;omega);clear k7 d3 hv e o7 y9 Hf hG;have L3:=s6.alloc (P #[.string x,.int E s] 274);have r0:Fr No w3 (w3.alloc (P #[.string x,.int E s] 274)):=(aa _ _).alloc _;have m6:=L0.grown (r0.grown (row:=Q) (λ_ h=>h.elim)) (by simp) (λj e=>by cases e);have R1:M ((w3.alloc (P #[.string x,.int E s] 274)).heap.size=(w3:C)+1):=(by unfold M;simp);have q4:=zF w3 (P #[.string x,.int E s] 274);go_upto_region 14 with(fail)
     generalize w3.alloc (P #[.string x,.int E s] 274)=W4 at *;have M8:=r0.size;have V4:=zC q4;have p4:M (Fr (From (w:C)) w W4):=d6.step r0 zn;clear r0 L0 s6 d6 O9;refine zZ (λb=>b=gm\/((W1:C)+1<=b/\b<(w3:C))) (.q 0 (.q 1 (.q 2 (.q 3 (.q 4 (.q 5 (.q 7 (.q 8 (.m2 6 (.m1 9 (.m1 10 (.m1 11 .fin))) 9 (.m1 6 (.m1 10 (.m1 11 .fin)))))))))))) _ (λw0 a6=>?_) zj;have i6:=a6.grown (row:=Q) (λ_ h=>h.elim);have R2:=m6.grown i6 (by simp) (λj e=>by cases e);have L4:=L3.kept i6 (by simp) (by simp);have q0:=a6.heap q4 id;have e2:=a6.size;have R3:M (Fr (From (w:C)) w w0):=p4.step a6 zn;have c0:∀ g:Gr (λb=>b=gm\/((W1:C)+1<=b/\b<(w3:C))) w0,g.W ⟨w3,0,Q⟩=G (.string x):=λg=>g.fr.cell (zB q0 0) (λh=>by have:=j3.out;rcases h with h|h<;>dsimp only at h<;>omega)
     have c1:∀ g:Gr (λb=>b=gm\/((W1:C)+1<=b/\b<(w3:C))) w0,g.W ⟨w3,1,Q⟩=G (.int E s):=λg=>g.fr.cell (zB q0 1) (λh=>by have:=j3.out;rcases h with h|h<;>dsimp only at h<;>omega)
     obtain⟨v,b5,i7,m8,o8⟩:=m6.look (by unfold aj;omega) h0;have e8:=i7.kept i6 (row:=Q) (by cases v.ownBlock<;>simp);have L5:gm<(w0:C):=R2.lt;have o9:w0.heap[gm]?=W4.heap[gm]?:=a6.block gm m6.lt id;have p0:M (∀ b,v.ownBlock=G b->(W1:C)+1<=b/\b<(w3:C)):=λb e=>by
      have h1:=zQ i7.1 e;have h2:=ze i7.1 e;have h3:=BlkT.ne i7.1 (a:=G ⟨w3,0,Q⟩) (T:=274) (λJ e=>by cases e;exact⟨_,q4⟩) (by decide) _ rfl;have h4:=R1.out;have h5:b≠(w3:C):=λe'=>h3 (by rw[e,e'])
      unfold From at h1;omega
     have z7:=zh o8;have HA:M (∀ (av:am an) (wb:ak) (vb:ax),w0.grownBy wb v.ownBlock->wb.ownsRow ((W1:C)+1) 3 1 vb ((f (kb x)).length+1) ((f (kb x)).map (Value.int E)++[.int E s])->(vb.ownBlock=v.ownBlock\/vb.ownBlock=G ((w0:C)+1))->
       ∃ w6,(Instr.mapUpdate 277 (.map (G gm)) (.string x) vb).run al wb=.ok () w6/\GMap w6 ((W1:C)+1) gm (λz=>if z=kb x then f (kb x)++[s]else f z) (N+1)/\w6.ranges al 274 heldV (w:C) (W1:C) n D (λz=>e4 z&&!z.sameKey (plL (x,s))) o6/\Fr (λb=>b=gm\/((W1:C)+1<=b/\b<(w3:C))) wb w6/\M (Fr (From (w:C)) w w6)/\(W1:C)+1<=(w6:C)):=by
      intro av wb vb hg a5 d3;obtain⟨w6,r1,r2,r3⟩:=z7.out s k0 wb vb (i6.but _ |>.andThen hg (λj h=>.inr h)) (e8.appended a5 k0) (d3.imp id (λh=>⟨_,h,by omega⟩));have V5:=R0.out;have V6:=t8.out;have V7:=hg.size;have r4:=r3.size;refine⟨w6,r1,r2,(L4.kept hg ?_ ?_).kept r3 ?_ ?_,(c8 r3).mono (λb _ e=>.inl e),(R3.step (bb hg) ?_).step (c8 r3) ?_,by omega⟩;·intro e;have:=p0.out _ e.symm;omega
      .intro e;have:=p0.out _ e.symm;omega
      .intro e;have:=Option.some.inj e;omega
      .intro e;have:=Option.some.inj e;omega
      .intro b hb e;have:=p0.out _ e;omega
      .intro b hb e;omega
     have L6:M (Grp D (λz=>e4 z&&!z.sameKey (plL (x,s))) (λz=>if z=kb x then f (kb x)++[s]else f z)):=HG.step h0 k0 k8 HD;clear o8 k8 HG;(repeat apply zL rfl rfl rfl;intro K hK;go_big_quiet_op;go_big_quiet_on);clear c0 c1;refine zAB rfl rfl ?_ ?_
     .go_wp2_with (at_lookup;refine zAx rfl _ _ 277 rfl (.map (G gm)) (.string x) v rfl rfl (b5 _ o9) ?_)
      apply zq;apply zH rfl;go_wp2_with fail;apply zp;apply zH rfl;go_wp2_with (at_builtin;refine cx _ rfl _ _ 22 rfl ((W1:C)+1) 3 j0 (.int E 0) 1 8 cp D4 D5 D6 D7 rfl (by decide) v _ _ rfl (e8.1.alloc _) ⟨w0,0,Q⟩ 1 1 [.int E s] rfl rfl (cell_one_new _ _ _) (ints_oneCell _ [s]) (by unfold aj;omega) (by omega) (by simp;omega) ?_;intro vb wb i3 d0 _ d3)
      have z8:=(cu w0 (P #[.int E s] 3) v.ownBlock).andThen d0 (λj h=>.inr h);obtain⟨w6,z9,A0,g4,k5,A1,r4⟩:=HA.out Q wb vb z8 i3 (by simpa using d3);refine aw ⟨(bb d0).mono (λb _ e=>.inr (p0 b e)),?_⟩;apply zH rfl;go_wp2_with (at_mapUpdate;refine zEy rfl _ _ _ 277 rfl (.map (G gm)) (.string x) vb rfl rfl rfl z9 ?_)
      apply zf k5;apply zW;go_wp2;go_roundw;case rel=>exact⟨_,o6,N+1,_,g4,by omega,A0,L6,A1,r4⟩
      case measure=>rw[g4.left_eq,m4.left_eq];exact i8
     .go_wp2_with fail;apply zp;apply zH rfl;go_wp2_with (at_lookup;refine zAx rfl _ _ 277 rfl (.map (G gm)) (.string x) v rfl rfl (b5 _ ((((aa No w0).alloc _).block gm L5 id).trans o9)) ?_)
      apply zq;apply zH rfl;go_wp2_with (at_builtin;refine cx _ rfl _ _ 22 rfl ((W1:C)+1) 3 j0 (.int E 0) 1 8 cp D4 D5 D6 D7 rfl (by decide) v _ _ rfl (e8.1.alloc _) ⟨w0,0,Q⟩ 1 1 [.int E s] rfl rfl (cell_one_new _ _ _) (ints_oneCell _ [s]) (by unfold aj;omega) (by omega) (by simp;omega) ?_;intro vb wb i3 d0 _ d3)
      have z8:=(cu w0 (P #[.int E s] 3) v.ownBlock).andThen d0 (λj h=>.inr h);obtain⟨w6,z9,A0,g4,k5,A1,r4⟩:=HA.out Q wb vb z8 i3 (by simpa using d3);refine aw ⟨(bb d0).mono (λb _ e=>.inr (p0 b e)),?_⟩;apply zH rfl;go_wp2_with (at_mapUpdate;refine zEy rfl _ _ _ 277 rfl (.map (G gm)) (.string x) vb rfl rfl rfl z9 ?_)
      apply zf k5;apply zW;go_wp2;go_roundw;case rel=>exact⟨_,o6,N+1,_,g4,by omega,A0,L6,A1,r4⟩
      case measure=>rw[g4.left_eq,m4.left_eq];exact i8
def soundA (m:Mem):Bool:=soundB m&&decide ((m.l:C)=1)
theorem zDV (h:soundA m=ah):soundB m=true:=by
 unfold soundA at h;rw[bi]at h;exact h.1
theorem zQb (p i:R)(r s t e:B)(a:am an)(l:ac R)(c:C)(w:ak):
  ap al 152 #[af #[p,i,r,s,t,e,a0 a l c]] w λI w'=>I=.returned (.bool (soundA ⟨p,i,r,s,t,e,a,l,c⟩))/\Fr No w w':=by
 have J:Fr No w (w.alloc (P #[p,i,r,s,t,e,a0 a l c] 226)):=(aa _ _).alloc _;have N:=zLh p i r s t e (a0 a l c) (w.alloc (P #[p,i,r,s,t,e,a0 a l c] 226));obtain⟨h,o⟩:=ε (soundA ⟨p,i,r,s,t,e,a,l,c⟩)
 rw[<-o];have y:M (h=((!p.toList.isEmpty&&(decide (1<=s)&&decide (s<=16))&&(decide (1<=t)&&decide (t<=16)))&&decide ((l:C)=1))):=o;clear o;have O:=zF w (P #[p,i,r,s,t,e,a0 a l c] 226);have U:=zh J;clear J;go_enter co,Tryz.ntmps152;go_wp2_with fail;apply N.mono;rintro I V ⟨rfl,u⟩;have H:=zh (U.step u zi);have Z:V ⟨w,6,Q⟩=G (a0 a l c):=u.cell (zB O 6) id;clear u N O;obtain⟨b,A⟩:=ε (!p.toList.isEmpty&&(decide (1<=s)&&decide (s<=16))&&(decide (1<=t)&&decide (t<=16)))
 rw[<-A];have F:M (h=(b&&decide ((l:C)=1))):=by unfold M;rw[y,A]
 clear A y;cases b with
 | false=>
  have z:M (h=ag):=by unfold M;rw[F];rfl
  go_wp2;go_ret;exact⟨by rw[z];rfl,H⟩
 | true=>
  by_cases v:(l:C)=1
  .have X:(((l:C):B)==1)=true:=by simp[v]
   have z:M (h=ah):=(by unfold M;rw[F.out];simp[v]);have Y:=zh v;clear v;go_wp2;go_ret;exact⟨by rw[z];rfl,H⟩
  .have X:(((l:C):B)==1)=false:=by simp;omega
   have z:M (h=ag):=(by unfold M;rw[F.out];simp[v]);have Y:=zh v;clear v;go_wp2;go_ret;exact⟨by rw[z];rfl,H⟩
def hasS (l:ac R)(s:R):Bool:=l.any λx=>x.toList==s.toList
def IdxS (l:ac R)(s:R)(e:Ending):Prop:=∃ i:B,e=.returned i/\decide (0<=i)=hasS l s
theorem zPJ {k:C}(h:l[k]?=G x)(o:(x.toList==s.toList)=ah):hasS l s=true:=by
 unfold hasS;rw[List.any_eq_true];exact⟨x,au h,o⟩
theorem zPI (h:∀ x∈l,(x.toList==s.toList)=ag):hasS l s=false:=by
 unfold hasS;rw[List.any_eq_false];intro x o;simp[h x o]
theorem zPl (a:am an)(o:C)(L:ac Mem)(z:B)(w:ak)(F:Mems w a o L)(I:MemSmall2 L)(u:w ⟨0,0,Q⟩=G (ae E z))(v:0<(w:C)):
  ap al 98 #[a0 a L o] w λe w'=>ArrRes w (zU soundA L) e w'/\Fr No w w':=by
 have h:=zI1 152 soundA (enters_of co (by kernel_rfl) rfl) zQb (λm h=>zDV h) a o L z w F I u v;go_enter Tryz.func98,Tryz.ntmps98;go_wp2_with fail;apply h.mono;rintro e U ⟨⟨J,N,O,y,rfl,r⟩,A⟩;have H:=zg2 r A;clear r A h;go_wp2;go_ret;exact⟨⟨J,N,O,y,rfl,H.1⟩,H.2⟩
theorem zOX (a:am an)(o:C)(L:ac Mem)(z:B)(w:ak)(F:Mems w a o L)(I:MemSmall2 L)(u:w ⟨0,0,Q⟩=G (ae E z))(v:0<(w:C)):
  ap al 107 #[a0 a L o] w λe w'=>ArrRes w (zU soundB L) e w'/\Fr No w w':=by
 have h:=zI1 158 soundB (enters_of Tryz.func158 (by kernel_rfl) rfl) (λp i r s t e a l c w=>zPr p i r s t e _ w) (λm h=>h) a o L z w F I u v;go_enter Tryz.func107,Tryz.ntmps107;go_wp2_with fail;apply h.mono;rintro e U ⟨⟨J,N,O,y,rfl,r⟩,A⟩;have H:=zg2 r A;clear r A h;go_wp2;go_ret;exact⟨⟨J,N,O,y,rfl,H.1⟩,H.2⟩
def openT : R:=⟨#[111,112,101,110,45]⟩
theorem zKC {a y:R}(h:a++x=a++y):x=y:=by
 have o:=ba (λb:R=>b.data.toList) h;simp at o;cases x;cases y;simp only at o;rw[o]
def zGy (L:ac Mem)(x:R):R:=((best L (kb x)).getD Mem.zero).l.headD ⟨#[]⟩
def virOf (L:ac Mem)(r:B)(x:R):Vir:=⟨(),openT++x,zGy L x,r⟩
def opened (ids K:ac R):ac R:=ids.filter (hasS K)
theorem AscS.nodup (h:AscS (l.map kb)):l.Nodup:=by
 have o:=List.pairwise_map.1 h;exact o.imp (fun {a b} h e=>h.2 (by rw[e]))
def mapM (g:ac UInt8->am Mem):ac UInt8->am ax:=λx=>(g x).map Mem.v
theorem zIr (g:ac UInt8->am Mem)(x:ac UInt8)(m:Mem):updS (mapM g) x m.v=mapM (λy=>if y=x then G m else g y):=by
 funext y
 unfold updS mapM;by_cases h:y=x<;>simp[h]
def zCM : ax:=af #[(),(),ae E 0,ae E 0,ae E 0,ae E 0,a0 Q 0 0]
theorem zeroM (w:ak):(zeroValue 226).run al w=.ok zCM w:=by kernel_rfl
structure MemSmall (L:ac Mem):Prop where
 len:(L:C)<=1000
 p:∀ m∈L,m.p.size<=1000000
 i:∀ m∈L,m.i.size<=1000000
 l:∀ m∈L,m.l.length<=1000000
def OwnRes (w:ak)(L:ac Mem)(e:Ending)(w':ak):Prop:=
 ∃ (a':am an) (c':C) (O:ac Mem) (ids:ac R),e=.returned (a0 a' O c')/\Mems w' a' c' O/\(∀ ad,a'=G ad->(w:C)<=ad.block)/\MFresh w' (w:C) O/\IsIds L ids/\O.map aq=own1 L ids/\(ids:C)<=(L:C)
theorem zNf (a:am an)(e6:C)(L:ac Mem)(m0:B)(w:ak)(hl:Mems w a e6 L)(hb:MemSmall L)(j7:w ⟨0,0,Q⟩=G (ae E m0))(m1:0<(w:C)):
  ap al 157 #[a0 a L e6] w λe w'=>OwnRes w L e w'/\Fr No w w':=by
 obtain⟨i0,j8,j9,k0,k3⟩:=bh infoM;have m2:=hb.len;have k4:=@run_makeMap al;have hx:Fr No w (w.alloc (.map #[] 0)):=(aa _ _).alloc _;have k5:=VMap.made w;have k6:(w:C)<(w.alloc (.map #[] 0)).heap.size:=by simp
 have g7:∀ W:ak,Fr (From (w:C)) w W->Mems W a e6 L:=λW hf=>hl.keep hf (λb hb h=>by omega)
 have g8:=zh g7;have Hb:=zh hb;clear g7 hb hl;go_enter Tryz.func157,Tryz.ntmps157;go_wp2_with fail;clear k4;generalize w.alloc (.map #[] 0)=W0 at *;go_loopw [16] (λi wr=>∃ k:C,k<=(L:C)/\i=ae E (k:B)/\VMap wr (w:C) (mapM (best (L.take k))) k/\Fr (From (w:C)) w wr/\(w:C)<(wr:C)) (λi _=>(L:C)-(ai i).toNat);case atStart=>exact⟨0,by omega,rfl,by exact k5,hx.mono zn,k6⟩
 case round=>
  obtain⟨k,hk,rfl,hI,X,m3⟩:=hrel;by_cases e7:k<(L:C)
  .have g9:(k:B)<(L:C):=by omega
   obtain⟨b,k7,m,rfl,e8,k8,k9,m4⟩:=(g8 _ X).elem e7;have Y:=au e8;have d4:M (L.take (k+1)=L.take k++[m]):=(by unfold M;rw[ay,e8];rfl);have h0:=Hb.p m Y;have b5:m.i.size<=maxLen:=(by have:=Hb.i m Y;unfold aj;omega);have h3:wr ⟨0,0,Q⟩=G (ae E m0):=X.cell j7 (by show ¬ From (w:C) 0;omega);obtain⟨mp,y,mr,ms,mt,me,ma,Z,mc⟩:=m;obtain⟨c0,c1,c2,c3,c4,c5,c6⟩:=k9;simp only at c0 c1 c2 c3 c4 c5 c6 h0 b5;clear e8 k8 Y;by_cases b6:(Z:C)=1
   .have l0:(((Z:C):B) != 1)=false:=(by simp[b6]);have h4:=zh b6;clear b6;have u:Fr No wr (wr.alloc (P #[mp,y,mr,ms,mt,me,a0 ma Z mc] 226)):=(aa _ _).alloc _;have q1:=zF wr (P #[mp,y,mr,ms,mt,me,a0 ma Z mc] 226);have b0:=hI.fr u id;clear hI;rcases hg:best (L.take k) (kb y)with _|o
    .have hv:(mapM (best (L.take k)) (kb y)).getD zCM=af #[(),(),ae E 0,ae E 0,ae E 0,ae E 0,a0 Q 0 0]:=(by unfold mapM;rw[hg];rfl);have b7:(mapM (best (L.take k)) (kb y)).isSome=false:=(by unfold mapM;rw[hg];rfl);have Hg:M (∀ o,best (L.take k) (kb y)=G o->ahead ⟨mp,y,mr,ms,mt,me,ma,Z,mc⟩ o=ah):=λo ho=>by rw[hg]at ho;cases ho
     clear hg;go_upto_region 8 with(at_lookup;refine zB0 rfl _ _ 279 226 zCM (zeroM _) rfl bn (w:C) _ k y b5 rfl b0 rfl (af #[(),(),ae E 0,ae E 0,ae E 0,ae E 0,a0 Q 0 0]) hv ag b7 ?_)
     have a2:Fr No wr ((wr.alloc (P #[mp,y,mr,ms,mt,me,a0 ma Z mc] 226)).alloc (P #[(),(),ae E 0,ae E 0,ae E 0,ae E 0,a0 Q 0 0] 226)):=u.alloc _;have q2:=zP wr (P #[mp,y,mr,ms,mt,me,a0 ma Z mc] 226) (P #[(),(),ae E 0,ae E 0,ae E 0,ae E 0,a0 Q 0 0] 226);have b1:=b0.fr ((aa No _).alloc (P #[(),(),ae E 0,ae E 0,ae E 0,ae E 0,a0 Q 0 0] 226)) id;clear b0 hv b7 c0 c1 c2 c3 c4 c5 c6 q1 u;generalize (wr.alloc (P #[mp,y,mr,ms,mt,me,a0 ma Z mc] 226)).alloc (P #[(),(),ae E 0,ae E 0,ae E 0,ae E 0,a0 Q 0 0] 226)=W2 at *;obtain⟨y0,y1,y2,y3,y4,y5,y6⟩:=cl7 q2;have b2:=zh (X.step a2 zn);have h5:=a2.size;clear q2 a2 X;go_wp2_with (at_mapUpdate;refine zCN rfl _ _ _ 279 226 rfl bn (w:C) _ k (by unfold aj;omega) y b5 (af #[mp,y,mr,ms,mt,me,a0 ma Z mc]) rfl b1 rfl rfl ?_;intro w4 b8 a6)
     have a3:VMap w4 (w:C) (mapM (best (L.take (k+1)))) (k+1):=(by rw[d4,zA4,zFV h4.out Hg.out,<-zIr];exact b8);have H:=zg3 a3 (b2.step a6 (λb hb e=>by omega)) a6.size;clear b8 a3 a6;go_roundw;case rel=>exact⟨k+1,by omega,by go_num,H.1,H.2.1,by have:=H.2.2;omega⟩
     case measure=>simp[ai];omega
    .obtain⟨F,N,I,os,U,V,oa,z,oc⟩:=o;have hv:(mapM (best (L.take k)) (kb y)).getD zCM=af #[F,N,I,os,U,V,a0 oa z oc]:=(by unfold mapM;rw[hg];rfl);have b7:(mapM (best (L.take k)) (kb y)).isSome=true:=(by unfold mapM;rw[hg];rfl);have h6:=Hb.p _ (cm (zCI _ _ _ hg).1);simp only at h6;have Hg:=zh hg;clear hg;go_upto_region 8 with(at_lookup;refine zB0 rfl _ _ 279 226 zCM (zeroM _) rfl bn (w:C) _ k y b5 rfl b0 rfl (af #[F,N,I,os,U,V,a0 oa z oc]) hv ah b7 ?_)
     have a2:Fr No wr ((wr.alloc (P #[mp,y,mr,ms,mt,me,a0 ma Z mc] 226)).alloc (P #[F,N,I,os,U,V,a0 oa z oc] 226)):=u.alloc _;have q2:=zP wr (P #[mp,y,mr,ms,mt,me,a0 ma Z mc] 226) (P #[F,N,I,os,U,V,a0 oa z oc] 226);have q3:=zS wr (P #[mp,y,mr,ms,mt,me,a0 ma Z mc] 226) (P #[F,N,I,os,U,V,a0 oa z oc] 226);have b1:=b0.fr ((aa No _).alloc (P #[F,N,I,os,U,V,a0 oa z oc] 226)) id;clear b0 hv b7 c0 c1 c2 c3 c4 c5 c6 q1 u;generalize (wr.alloc (P #[mp,y,mr,ms,mt,me,a0 ma Z mc] 226)).alloc (P #[F,N,I,os,U,V,a0 oa z oc] 226)=W2 at *;obtain⟨z0,z1,z2,z3,z4,z5,z6⟩:=cl7 q3;have h7:=a2.cell h3 id;have b2:=zh (X.step a2 zn);have h5:=a2.size;clear q3 a2 X h3;go_wp2_with fail;apply (zPB mp y F N mr ms mt me I os U V _ _ m0 _ h0 h6 h7).mono;rintro en w3 ⟨rfl,b9⟩;have q4:=b9.heap q2 id;have b3:=b1.fr b9 id;have h8:=zh (b2.step b9 zn);have h9:=b9.size;clear z0 z1 z2 z3 z4 z5 z6 b9 q2 h7 b1;rcases ha:aheadB mp mr F I with _|_
     .have a3:VMap w3 (w:C) (mapM (best (L.take (k+1)))) k:=(by rw[d4,zA4,zJ9 (m:=⟨mp,y,mr,ms,mt,me,ma,Z,mc⟩) (o:=⟨F,N,I,os,U,V,oa,z,oc⟩) Hg ha];exact b3);have H:=zg2 a3 h8;clear a3 b3 q4;go_wp2;go_roundw;case rel=>exact⟨k+1,by omega,by go_num,H.1.mono (by omega),H.2,by omega⟩
      case measure=>simp[ai];omega
     .have l1:M (∀ o,best (L.take k) (kb y)=G o->ahead ⟨mp,y,mr,ms,mt,me,ma,Z,mc⟩ o=ah):=λo ho=>by rw[Hg.out]at ho;cases ho;exact ha
      obtain⟨y0,y1,y2,y3,y4,y5,y6⟩:=cl7 q4;clear q4 ha;go_wp2_with (at_mapUpdate;refine zCN rfl _ _ _ 279 226 rfl bn (w:C) _ k (by unfold aj;omega) y b5 (af #[mp,y,mr,ms,mt,me,a0 ma Z mc]) rfl b3 rfl rfl ?_;intro w4 b8 a6)
      have a3:VMap w4 (w:C) (mapM (best (L.take (k+1)))) (k+1):=(by rw[d4,zA4,zFV h4.out l1.out,<-zIr];exact b8);have H:=zg3 a3 (h8.step a6 (λb hb e=>by omega)) a6.size;clear b8 a3 a6;go_roundw;case rel=>exact⟨k+1,by omega,by go_num,H.1,H.2.1,by have:=H.2.2;omega⟩
      case measure=>simp[ai];omega
   .have l0:(((Z:C):B) != 1)=true:=(by simp;omega);have u:Fr No wr (wr.alloc (P #[mp,y,mr,ms,mt,me,a0 ma Z mc] 226)):=(aa _ _).alloc _;have b4:VMap (wr.alloc (P #[mp,y,mr,ms,mt,me,a0 ma Z mc] 226)) (w:C) (mapM (best (L.take (k+1)))) k:=(by rw[d4,zA4,zJ8 b6];exact hI.fr u id);have H:=zg3 b4 (X.step u zn) u.size;clear b4 hI u X b6;go_wp2;go_roundw;case rel=>exact⟨k+1,by omega,by go_num,H.1.mono (by omega),H.2.1,by have:=H.2.2;omega⟩
    case measure=>simp[ai];omega
  .obtain rfl:k=(L:C):=by omega
   rw[bc]at hI;go_wp2_with fail;apply (zQA _ _).mono;rintro en w1 ⟨rfl,rfl⟩;have u:Fr No wr (wr.alloc (P #[.map (G (w:C))] 279)):=(aa _ _).alloc _;have q1:=zF wr (P #[.map (G (w:C))] 279);have l2:(wr:C)<(wr.alloc (P #[.map (G (w:C))] 279)).heap.size:=(by simp);have b4:=hI.fr u id;have i3:=zh (X.step u zn);clear hI X u;go_wp2_with fail;generalize wr.alloc (P #[.map (G (w:C))] 279)=W1 at *;apply (zM2 (w:C) (wr:C) _ (L:C) W1 b4 (by omega) (zB q1 0) l2).mono;rintro en w2 ⟨⟨ia,ic,J,rfl,hS,d9,Y,l3,A⟩,d5⟩;have e0:IsIds L J:=⟨d9,λx=>by rw[Y];unfold mapM;rw[Option.isSome_map]⟩
   have b1:=b4.fr d5 id;have b2:=zh (i3.step d5 zn);have h5:=d5.size;have e1:=zh e0;have m5:=hS.lenmax;clear q1 b4 d5 d9 Y e0 A;go_wp2_with fail;go_loopw [9,50] (λv i wr=>∃ (j:C) (O:ac Mem) (av:am an) (cv:C),j<=(J:C)/\(O:C)<=j/\v=a0 av O cv/\i=ae E (j:B)/\wr.ownsRow (w2:C) 226 7 (a0 av O cv) (O:C) (mflat O)/\MFresh wr (w2:C) O/\M (O.map aq=own1 L (J.take j))/\Fr (From (w2:C)) w2 wr) (λ_ i _=>(J:C)-(ai i).toNat);case atStart=>exact⟨0,[],Q,0,by omega,by simp,rfl,rfl,bw _ _ _ _,λm hm=>by simp at hm,by unfold M own1;simp,aa _ _⟩
   case round=>
    obtain⟨j,O,av,cv,hj,m6,rfl,rfl,a4,d0,HO,hf⟩:=hrel;by_cases e7:j<(J:C)
    .have g9:(j:B)<(J:C):=(by omega);obtain⟨b,k7,x,rfl,e9,hc⟩:=(hS.keep hf (λb hb h=>by omega)).at e7;have i4:=au e9;have l4:M (J.take (j+1)=J.take j++[x]):=(by unfold M;rw[ay,e9];rfl);obtain⟨o,ho⟩:=Option.isSome_iff_exists.1 ((e1.mem x).1 i4);obtain⟨g0,d1,i5⟩:=zCI _ _ _ ho;have i6:=Hb.i o g0;have i7:=zGv i5;have l5:x.size<=maxLen:=(by rw[<-i7];unfold aj;omega);have g1:=b2.trans hf (λb hb h=>h) (λb hb h=>by unfold From at h ⊢;omega);have g2:=(g8 _ g1).ok o g0;have hv:(mapM (best L) (kb x)).getD zCM=o.v:=(by unfold mapM;rw[ho];rfl);have b3:=b1.fr hf (by omega);have m7:=zh g1;have Ho:=zh ho;clear ho g0 i6 i7 i5 i4 e9 g1;obtain⟨F,N,I,os,U,V,oa,z,oc⟩:=o;simp only at g2 d1;unfold Mem.v bt at hv;simp only at hv;have i8:(z:C)<=1000000:=(by omega);have d6:Fr No wr (wr.alloc (P #[F,N,I,os,U,V,a0 oa z oc] 226)):=(aa _ _).alloc _;have q3:=zF wr (P #[F,N,I,os,U,V,a0 oa z oc] 226);have e2:=g2.no d6 (λ_=>id);have l8:=zh d1;clear g2 d1;go_upto_region 16 with(at_lookup;refine zOO rfl _ _ 279 226 zCM (zeroM _) rfl bn (w:C) _ _ x l5 rfl b3 rfl (af #[F,N,I,os,U,V,a0 oa z oc]) hv ?_)
     generalize wr.alloc (P #[F,N,I,os,U,V,a0 oa z oc] 226)=W3 at *;have z6:W3 ⟨wr,6,Q⟩=G (a0 oa z oc):=zB q3 6;clear b3 hv hc;go_wp2_with fail;apply (zAv oa oc z W3 e2 i8).mono;rintro en w4 ⟨⟨a1,c1,rfl,i9,j0,d7⟩,g3⟩;have q4:=g3.heap q3 id;have z7:w4.frozen? ⟨wr,6,Q⟩=false:=zD q4 6;have z8:w4 ⟨wr,6,Q⟩=G (a0 oa z oc):=zB q4 6;have q5:=zE q4 6 (a0 a1 z c1);have h9:=d6.size;have m8:=zC q3;have e3:Fr No wr w4:=d6.step g3 zi;have d8:Fr (Is (wr:C)) w4 (w4.setCell ⟨wr,6,Q⟩ (a0 a1 z c1)):=bs (S:=Is (wr:C)) (p:=⟨wr,6,Q⟩) (aa _ _) (λ_=>rfl) _;clear z6 q3 q4 e2;go_upto_region 17 with(fail)
     generalize w4.setCell ⟨wr,6,Q⟩ (a0 a1 z c1)=W5 at *;have a5:Fr (λb=>(wr:C)<=b) wr W5:=(e3.mono zn).step d8 (λb _ h=>by omega);have a7:=zG a4 a5 (λb hb h=>by have h1:=ze a4 hb;omega);have e4:=d0.fr a5 (λb _ h1 h2=>by omega);have j1:=i9.fr d8 (λad e _ h=>by have:=d7 ad e;omega);have j2:=j0.fr d8 (λad e h=>by have:=d7 ad e;omega);simp at q5;obtain⟨y0,y1,y2,y3,y4,y5,y6⟩:=cl7 q5;have m9:=a5.size;have l9:=hf.size;have j3:=zh a5;have g4:=zg3 j1 j2 d7;have g5:=zh a7;have j4:=zh e4;clear z7 z8 q5 d8 e3 d6 g3 i9 j0 d7 a4 d0 a5 j1 j2 e4;go_wp2_with (at_builtin;refine c7 _ rfl _ _ 172 rfl (w2:C) 226 i0 (af #[ao,ao,ae E 0,ae E 0,ae E 0,ae E 0,a0 Q 0 0]) 7 88 Tryz.underlying172 j8 j9 k0 k3 rfl (by decide) _ _ _ rfl (a7.alloc _) ⟨W5,0,Q⟩ 1 1 (bt ⟨F,N,I,os,U,V,a1,z,c1⟩).toList rfl rfl (zl _ (bt ⟨F,N,I,os,U,V,a1,z,c1⟩) _ rfl) (zCm _) (by unfold aj;omega) (by omega) (by first|omega|(simp;done)|(simp;omega)) ?_;intro v' w6 a8 a9 _;obtain⟨l6,l7,rfl⟩:=zI a8)
     have d2:Fr No W5 (W5.alloc (P #[F,N,I,os,U,V,a0 a1 z c1] 226)):=(aa _ _).alloc _;have d3:=g5.alloc (P #[F,N,I,os,U,V,a0 a1 z c1] 226);have g6:Fr (λb=>(ar av O cv).ownBlock=G b) (W5.alloc (P #[F,N,I,os,U,V,a0 a1 z c1] 226)) w6:=bb a9;have e5:MFresh w6 (w2:C) (O++[⟨F,N,I,os,U,V,a1,z,c1⟩]):=by
      refine MFresh.own (MFresh.snoc (j4.fr d2 (λ_ _ _=>id)) (g4.1.no d2 (λ_=>id)) (g4.2.1.fr d2 (λ_ _=>id)) (λad e=>?_)) d3 g6;have:=g4.2.2 ad e;omega
     have j5:(O++[(⟨F,N,I,os,U,V,a1,z,c1⟩:Mem)]).map aq=own1 L (J.take (j+1)):=by
      rw[l4];unfold own1;rw[bg,bg,HO]
      congr 1
      simp only[ck,cl,Ho.out,cc];rfl
     have j6:Fr (From (w2:C)) w2 w6:=((hf.step j3 (λb _ h=>by omega)).step d2 zn).step g6 (λb _ h=>zQ d3 h);have HF:=zg4 a8 e5 j5 j6;clear a8 e5 j5 j6 a9 g6 d3 d2 y0 y1 y2 y3 y4 y5 y6 a7 hf;go_roundw;case rel=>exact⟨j+1,O++[⟨F,N,I,os,U,V,a1,z,c1⟩],l6,l7,by omega,by simp;omega,by simp,by go_num,by rw[bf,zCC];exact HF.1,HF.2.1,zh HF.2.2.1,HF.2.2.2⟩
     case measure=>simp[ai];omega
    .obtain rfl:j=(J:C):=by omega
     obtain⟨a',c',hv,hR,A⟩:=Mems.of_own a4 (λm hm=>(d0 m hm).1);cases hv;have ho:=HO.out;rw[bc]at ho;have h9:=i3.size;have n3:=hf.size;have H:=zg5 hR A d0 ho ((b2.trans hf (λb hb h=>h) (λb hb h=>by unfold From at h ⊢;omega)).mono (T:=No) (λb hb h=>by omega));clear a4 d0 HO hf hR A ho;go_wp2;go_ret;exact⟨⟨_,_,O,J,rfl,H.1,λad e=>by have:=H.2.1 ad e;omega,λm hm=>⟨(H.2.2.1 m hm).1,(H.2.2.1 m hm).2.1,λad e=>by have:=(H.2.2.1 m hm).2.2 ad e;omega⟩,e1,H.2.2.2.1,l3⟩,H.2.2.2.2⟩
def KSet (w:ak)(mb:C)(K:ac R)(N:C):Prop:=VMap w mb (λx=>if hasS K (bk x)=ah then G (af #[])else Q) N
theorem KSet.fr {S:C->Prop}{w w':ak}{o:C}{N:C}(h:KSet w o K N)(u:Fr S w w')(v:¬ S o):KSet w' o K N:=VMap.fr h u v
theorem zM7 (K:ac R)(x:R):updS (λx=>if hasS K (bk x)=ah then G (af #[])else Q) (kb x) (af #[])=λy=>if hasS (K++[x]) (bk y)=ah then G (af #[])else none:=by
 funext y
 unfold updS;have e:hasS (K++[x]) (bk y)=(hasS K (bk y)||decide (y=kb x)):=by
  unfold hasS;rw[List.any_append];simp only[List.any_cons,List.any_nil,Bool.or_false]
  congr 1
  rw[strEq,decide_eq_decide];constructor;·intro h;rw[h,zJv]
  .intro h;rw[h,zGL]
 rw[e];by_cases h:y=kb x;·simp[h]
 .simp[h]
theorem zeroE (w:ak):(zeroValue 233).run al w=.ok (af #[]) w:=by kernel_rfl
theorem zPD (a:am an)(z:C)(K:ac R)(w:ak)(Y:Strs w a z K)(I:(K:C)<=1000000)(hs:∀ x∈K,x.size<=aj):
  ap al 156 #[a0 a K z] w λe w'=>(∃ J,e=.returned (.map (G J))/\KSet w' J K (K:C)/\(w:C)<=J)/\Fr No w w':=by
 have N:=@run_makeMap al;have Z:Fr No w (w.alloc (.map #[] 0)):=(aa _ _).alloc _;have O:=VMap.made w;have a3:=Y.no Z (λ_=>id);have a4:(w:C)<(w.alloc (.map #[] 0)).heap.size:=by simp
 go_enter Tryz.func156,Tryz.ntmps156;go_wp2_with fail;clear N;generalize w.alloc (.map #[] 0)=W0 at *;go_loopw [9] (λi wr=>∃ k:C,k<=(K:C)/\i=ae E (k:B)/\KSet wr (w:C) (K.take k) k/\Fr (From (w:C)) w wr) (λi _=>(K:C)-(ai i).toNat);case atStart=>exact⟨0,by omega,rfl,by unfold KSet;simpa [hasS]using O,Z.mono zn⟩
 case round=>
  obtain⟨k,hk,rfl,y,o⟩:=hrel;by_cases U:k<(K:C)
  .have a2:(k:B)<(K:C):=by omega
   obtain⟨b,a5,x,rfl,u,hc⟩:=(Y.keep o (λb I h=>by omega)).at U;have V:=hs x (au u);have X:M (K.take (k+1)=K.take k++[x]):=(by unfold M;rw[ay,u];rfl);clear u;unfold KSet at y;go_wp2_with (at_mapUpdate;refine zCN rfl _ _ _ 230 233 rfl cd (w:C) _ k (by unfold aj;omega) x V (af #[]) rfl y rfl rfl ?_;intro w1 v A)
   rw[zM7,<-X]at v;have F:Fr (From (w:C)) w w1:=o.step A (λb I e=>by omega);have H:=zg2 v F;clear v F A y o;go_roundw;case rel=>exact⟨k+1,by omega,by go_num,H.1,H.2⟩
   case measure=>simp[ai];omega
  .obtain rfl:k=(K:C):=by omega
   rw[bc]at y;have H:=zg2 y (o.mono (T:=No) (λb I h=>by omega));clear y o;go_wp2;go_ret;exact⟨⟨_,rfl,H.1,ca _⟩,H.2⟩
theorem zP5 {O:ac Mem}(v:IsIds L u)(h:O.map aq=own1 L u)(N:O[j]?=G m):
  ∃ o,u[j]?=G m.i/\best L (kb m.i)=G o/\m.k=o.k/\m.l=o.l/\(m.l:C)=1/\o∈L:=by
 have A:(O.map aq)[j]?=G m.k:=by rw[ci,N];rfl
 rw[h,own1,ci]at A;obtain⟨x,F,y⟩:=Option.map_eq_some_iff.1 A;obtain⟨o,z⟩:=Option.isSome_iff_exists.1 ((v.mem x).1 (au F));obtain⟨U,V,X⟩:=zCI _ _ _ z;rw[z,cc]at y;have Y:m.i=o.i:=(ba Mem.i y).symm;have I:m.l=o.l:=(ba Mem.l y).symm;have J:m.i=x:=by rw[Y];exact zGv X
 refine⟨o,by rw[J];exact F,by rw[J];exact z,y.symm,I,by rw[I];exact V,U⟩
theorem zO2 {O:ac Mem}(h:O.map aq=own1 L o):(O:C)=(o:C):=by
 have:=ba cj h
 simpa [own1]using this
theorem zEI (h K:ac R)(x:R):opened (h++[x]) K=opened h K++(if hasS K x=ah then [x]else []):=by
 unfold opened;rw[ch]
 congr 1
 rw[List.filter_cons];split<;>rfl
def zPo (w:ak)(L:ac Mem)(K:ac R)(r:B)(e:Ending)(w':ak):Prop:=
 ∃ (a':am an) (c':C) (V:ac Vir) (ids:ac R),e=.returned (a0 a' V c')/\Virs w' a' c' V/\(∀ ad,a'=G ad->(w:C)<=ad.block)/\IsIds L ids/\V=(opened ids K).map (virOf L r)/\(ids:C)<=(L:C)
theorem zOF (a:am an)(b0:C)(L:ac Mem)(ka:am an)(kc:C)(K:ac R)(r:B)(m0:B)(w:ak)(hl:Mems w a b0 L)(hb:MemSmall L)(hk:Strs w ka kc K)(e5:(K:C)<=1000000)(b9:∀ x∈K,x.size<=aj)
  (d0:w ⟨0,0,Q⟩=G (ae E m0)) (h9:0<(w:C)):
  ap al 105 #[a0 a L b0,a0 ka K kc,r] w λe w'=>zPo w L K r e w'/\Fr No w w':=by
 obtain⟨i0,e6,e7,e8,e9⟩:=bh infoV;have i3:=hb.len;have Hb:=zh hb;clear hb;go_enter Tryz.func105,Tryz.ntmps105;go_wp2_with fail;apply (zPD ka kc K w hk e5 b9).mono;rintro e w1 ⟨⟨mb,rfl,b1,i4⟩,Z⟩;have d1:=hl.no Z (λ_=>id);have F:=Z.cell d0 id;have i5:=Z.size;have g0:=zh Z;have h7:mb<(w1:C):=VMap.lt b1;clear hk b9 hl d0 Z;go_wp2_with fail;apply (zNf a b0 L m0 w1 d1 Hb F (by omega)).mono;rintro e w2 ⟨⟨oa,oc,O,Y,rfl,hO,g2,d2,a7,ho,g3⟩,a5⟩;have g4:=zO2 ho;have i6:=a5.size;have g5:=b1.fr a5 id;have d3:=zh (g0.step a5 zi);have a8:=zh a7;have Ho:=zh ho;have i7:=zh d2;have i8:=hO.lenmax;clear d1 F a5 b1 a7 ho d2 g2;go_wp2_with fail;go_loopw [8,18] (λv i wr=>∃ (j:C) (V:ac Vir) (av:am an) (cv:C),j<=(O:C)/\(V:C)<=j/\v=a0 av V cv/\i=ae E (j:B)/\wr.ownsRow (w2:C) 52 4 (a0 av V cv) (V:C) (vflat V)/\M (V=(opened (Y.take j) K).map (virOf L r))/\Fr (From (w2:C)) w2 wr) (λ_ i _=>(O:C)-(ai i).toNat);case atStart=>exact⟨0,[],Q,0,by omega,by simp,rfl,rfl,bw _ _ _ _,by unfold M;simp[opened],aa _ _⟩
 case round=>
  obtain⟨j,V,av,cv,hj,i9,rfl,rfl,u,HV,hf⟩:=hrel;have j0:=hf.size;by_cases g7:j<(O:C)
  .have h8:(j:B)<(O:C):=by omega
   obtain⟨b,j1,m,rfl,b2,d4,g8,j2⟩:=(hO.keep hf (λb hb h=>by omega)).elem g7;obtain⟨o,d5,I,d6,d7,F,d8⟩:=zP5 a8 Ho b2;have b3:∀ ad,m.a=G ad->ad.block<(w2:C):=λad e=>((hO.ok m (au b2)).cell ad e (by intro e;rw[e]at F;cases F)).2.1
   have g9:m.i.size<=1000000:=(by have h1:=Hb.i o d8;have h2:=ba Mem.i d6;have h3:m.i=o.i:=h2;rw[h3];exact h1);have b4:m.i.size<=maxLen:=(by unfold aj;omega);have b5:M (Y.take (j+1)=Y.take j++[m.i]):=(by unfold M;rw[ay,d5];rfl);have h0:=g5.fr hf (by omega);have a9:=d4.at (k:=0) (by omega);have d9:M (∀ c,m.l[0]?=G c->virOf L r m.i=⟨(),openT++m.i,c,r⟩):=λc hc=>by
    unfold virOf zGy;rw[I,cc,<-d7]
    congr 1
    rcases hll:m.l with _|⟨d,t⟩
    .rw[hll]at hc;cases hc
    .rw[hll]at hc;simpa using hc
   have e0:(0:B)<(m.l:C):=(by omega);clear b2 d5 I d6 d7 d8 d4;obtain⟨mp,z,mr,ms,mt,me,ma,ml,mc⟩:=m;obtain⟨c0,c1,c2,c3,c4,c5,c6⟩:=g8;simp only at c0 c1 c2 c3 c4 c5 c6 g9 b4 a9 e0 F b3;obtain⟨ib,io,c,rfl,hc,b6⟩:=a9;rw[Nat.add_zero]at b6;have e1:=b3 _ rfl;simp only at e1;clear b3;have Hc:=zh (d9 c hc);have j3:=zh F;clear hc d9 F;simp only at Hc b5;have a2:Fr No wr (wr.alloc (P #[mp,z,mr,ms,mt,me,a0 (G ⟨ib,io,Q⟩) ml mc] 226)):=(aa _ _).alloc _;have a6:=h0.fr a2 id;unfold KSet at a6;have hv:((λx=>if hasS K (bk x)=ah then G (ce #[])else Q) (kb z)).getD (af #[])=af #[]:=by
    simp only[zGL];cases hasS K z<;>rfl
   rcases hh:hasS K z with _|_
   .have I:((λx=>if hasS K (bk x)=ah then G (ce #[])else Q) (kb z)).isSome=false:=(by simp only[zGL,hh];rfl);have A:Fr No wr ((wr.alloc (P #[mp,z,mr,ms,mt,me,a0 (G ⟨ib,io,Q⟩) ml mc] 226)).alloc (P #[] 233)):=a2.alloc _;have y:=zG u A zi;have b7:M (V=(opened (Y.take (j+1)) K).map (virOf L r)):=(by unfold M;rw[b5.out,zEI,hh];simpa using HV.out);have HF:=zg2 y (hf.step A zn);clear y u A a2 hf hh HV;go_wp2_with (at_lookup;refine zB0 rfl _ _ 230 233 (af #[]) (zeroE _) rfl cd mb _ _ z b4 rfl a6 rfl (af #[]) hv ag I ?_)
    go_roundw;case rel=>exact⟨j+1,V,av,cv,by omega,by omega,rfl,by go_num,HF.1,b7,HF.2⟩
    case measure=>simp[ai];omega
   .have I:((λx=>if hasS K (bk x)=ah then G (ce #[])else Q) (kb z)).isSome=true:=(by simp only[zGL,hh];rfl);have A:Fr No wr ((wr.alloc (P #[mp,z,mr,ms,mt,me,a0 (G ⟨ib,io,Q⟩) ml mc] 226)).alloc (P #[] 233)):=a2.alloc _;have q1:=zP wr (P #[mp,z,mr,ms,mt,me,a0 (G ⟨ib,io,Q⟩) ml mc] 226) (P #[] 233);have y:=zG u A zi;have b7:M ((opened (Y.take (j+1)) K).map (virOf L r)=V++[⟨(),openT++z,c,r⟩]):=(by unfold M;rw[b5,zEI,hh,if_pos rfl,bg,<-HV,ck,cl,Hc]);go_upto_region 8 with(at_lookup;refine zB0 rfl _ _ 230 233 (af #[]) (zeroE _) rfl cd mb _ _ z b4 rfl a6 rfl (af #[]) hv ah I ?_)
    have e2:=A.cell b6 id;have j4:=A.size;have e3:=hf.step A zn;have nO:¬ (ar av V cv).ownBlock=G (wr:C):=λh=>by have:=ze u h;omega
    have nI:¬ (ar av V cv).ownBlock=G ib:=λh=>by have:=zQ u h;omega
    clear A a2 u b6 hf a6 hv I c0 c1 c2 c3 c4 c5 c6;generalize (wr.alloc (P #[mp,z,mr,ms,mt,me,a0 (G ⟨ib,io,Q⟩) ml mc] 226)).alloc (P #[] 233)=W5 at *;refine zO (λb=>(ar av V cv).ownBlock=G b) [(0,ag),(1,ag),(2,ag),(3,ag),(4,ag),(5,ag),(6,ag),(7,ag),(8,ag),(9,ag),(10,ah),(11,ah),(12,ag)] (λw0 J=>?_);have g1:∀ g:Gr (λb=>(ar av V cv).ownBlock=G b) w0,g.W ⟨wr,1,Q⟩=G (.string z):=λg=>g.fr.cell (J.cell (zB q1 1) id) nO
    have g6:∀ g:Gr (λb=>(ar av V cv).ownBlock=G b) w0,g.W ⟨wr,6,Q⟩=G (a0 (G ⟨ib,io,Q⟩) ml mc):=λg=>g.fr.cell (J.cell (zB q1 6) id) nO
    have gc:∀ g:Gr (λb=>(ar av V cv).ownBlock=G b) w0,g.W ⟨ib,io,Q⟩=G (.string c):=λg=>g.fr.cell (J.cell e2 id) nI
    have a3:=zG y J zi;have hz:¬ 9223372036854775807<5+z.size:=(by omega);have j5:=J.size;have h4:=zh (e3.step J zn);have a4:=zh a3;have j6:=zh HV;clear y J e3 q1 e2 nO nI HV a3;(repeat apply zR rfl rfl rfl;intro K hK;go_big_quiet_op;go_big_quiet_on);clear g1 g6 gc;apply zu rfl;go_wp2_with fail;apply zp;apply zu rfl;go_wp2_with (at_builtin;refine c7 _ rfl _ _ 41 rfl (w2:C) 52 i0 (af #[ao,ao,ao,ae E 0]) 4 56 cq e6 e7 e8 e9 rfl (by decide) _ _ _ rfl (a4.alloc _) ⟨w0,0,Q⟩ 1 1 (az ⟨(),openT++z,c,r⟩).toList rfl rfl (zl _ (az ⟨(),openT++z,c,r⟩) _ rfl) (zCb _) (by unfold aj;omega) (by omega) (by first|omega|(simp;done)|(simp;omega)) ?_;intro v' w6 N U _;obtain⟨h5,h6,rfl⟩:=zI N)
    have b8:Fr (λb=>(ar av V cv).ownBlock=G b) (w0.alloc (P (az ⟨(),openT++z,c,r⟩) 52)) w6:=bb U;have e4:Fr No w0 (w0.alloc (P (az ⟨(),openT++z,c,r⟩) 52)):=(aa _ _).alloc _;apply zf b8;have HF:=zg2 N ((h4.step e4 zn).step b8 (λb _ h=>zQ a4 h));clear N b8 e4 U;(repeat apply zR rfl rfl rfl;intro K hK;go_big_quiet_op;go_big_quiet_on);apply zb;go_wp2;go_roundw;case rel=>exact⟨j+1,V++[⟨(),openT++z,c,r⟩],h5,h6,by omega,by simp;omega,by simp,by go_num,by rw[bf,zB1];exact HF.1,zh b7.symm,HF.2⟩
    case measure=>simp[ai];omega
  .obtain rfl:j=(O:C):=by omega
   obtain⟨a',c',hv,hR,X⟩:=cr u;cases hv;have hV:=HV.out;rw[g4,bc]at hV;have H:=zg4 hR X hV ((d3.step hf (λb hb h=>by have:=d3.size;omega)));clear u HV hf hR X hV;go_wp2;go_ret;exact⟨⟨_,_,V,Y,rfl,H.1,λad e=>by have:=H.2.1 ad e;omega,a8,H.2.2.1,g3⟩,H.2.2.2⟩
theorem zLk (h:parseC s=G c):c.id.size<=100000/\(c.inner:C)<=10000:=by
 obtain⟨o,-⟩:=zBq h;have u:c∈c.walk:=by
  obtain⟨k,i,l,v,t,e,n⟩:=c;simp[Ct.walk]
 exact⟨(o.small c u).1,cb (zEU u) o.count⟩
theorem zI9 (h:parseC s=G c)(z:c.kind=2\/c.kind=4):1<=c.slot/\c.slot<=16:=by
 obtain⟨A,-⟩:=zBq h;have v:=A.good;obtain⟨k,i,l,o,t,e,n⟩:=c;rw[Ct.good,bi]at v;have y:=v.1;have u:k=2\/k=4:=z;rcases u with rfl|rfl
 .simp[alike,zAX]at y;show 1<=o/\o<=16
  omega
 .simp[alike,zAX]at y;show 1<=o/\o<=16
  omega
theorem zEZ (h:parseC s=G c)(y:c.kind=2\/c.kind=3\/c.kind=4):(c.inner:C)<=16:=by
 obtain⟨z,-⟩:=zBq h;have v:=z.good;obtain⟨k,i,l,A,t,e,n⟩:=c;rw[Ct.good,bi]at v;have o:=v.1;have u:k=2\/k=3\/k=4:=y;show (n:C)<=16
 rcases u with rfl|rfl|rfl
 .simp[alike]at o;omega
 .simp[alike]at o;omega
 .simp[alike,someIn]at o;omega
structure OneM (m:Mem)(o:R):Prop where
 p:m.p=o
 i:m.i.size<=100000
 l:(m.l:C)<=16
 s:0<=m.s/\m.s<=16
theorem zO4 {u:R->B->Ct->Mem}(o:∀ p rd c,parseC c.txt=G c->c.kind=k->OneM (u p rd c) p){p:R}{rd:B}(h:ofK k u p rd s=G m):OneM m p:=by
 unfold ofK at h;cases hc:parseC s with
 | none=>rw[hc]at h;cases h
 | some c=>
  rw[hc]at h;simp only at h;split at h
  .rename_i v;cases h;have:=(zBq hc).2;exact o p rd c (by rw[this];exact hc) v
  .cases h
theorem zLI (p:R)(rd:B)(c:Ct)(h:parseC c.txt=G c)(o:c.kind=2):OneM (mk2 p rd c) p:=by
 have u:=zLk h;have v:=zI9 h (.inl o);exact⟨rfl,u.1,by show (c.inner.map Ct.txt).length<=16;rw[bm];exact zEZ h (by simp[o]),by show 0<=c.slot/\c.slot<=16;omega⟩
theorem zLH (p:R)(rd:B)(c:Ct)(h:parseC c.txt=G c)(o:c.kind=3):OneM (mk3 p rd c) p:=by
 have u:=zLk h;exact⟨rfl,u.1,by show (c.inner.map Ct.txt).length<=16;rw[bm];exact zEZ h (by simp[o]),by show (0:B)<=0/\(0:B)<=16;omega⟩
theorem zHk (p:R)(rd:B)(c:Ct)(h:parseC c.txt=G c)(o:c.kind=4):OneM (mk4 p rd c) p:=by
 have u:=zLk h;have v:=zI9 h (.inr o);exact⟨rfl,u.1,by show (c.inner.map Ct.txt).length<=16;rw[bm];exact zEZ h (by simp[o]),by show 0<=c.slot/\c.slot<=16;omega⟩
theorem zIo (v:∀ p rd c,parseC c.txt=G c->c.kind=k->OneM (y p rd c) p)(h:L.map aq=S.filterMap (λs=>ofK k y s.o s.r (tx s.d))):
  (L:C)<=(S:C)/\∀ m∈L,∃ s∈S,OneM m s.o:=by
 refine⟨?_,λm A=>?_⟩
 .have:=ba cj h;rw[bm]at this;rw[this];exact List.length_filterMap_le _ _
 .have z:m.k∈L.map Mem.k:=c9 A;rw[h]at z;obtain⟨s,F,I⟩:=List.mem_filterMap.1 z;have u:=zO4 v I;exact⟨s,F,⟨u.p,u.i,u.l,u.s⟩⟩
theorem zA0 {F:R->B->Ct->Mem}(A:∀ p rd c,parseC c.txt=G c->c.kind=k->OneM (F p rd c) p)(h:L.map aq=S.filterMap (λs=>ofK k F s.o s.r (tx s.d)))(J:(S:C)<=1000)(I:∀ s∈S,s.o.size<=1000000):MemSmall2 L:=by
 obtain⟨N,y⟩:=zIo A h;refine⟨by omega,λm u=>?_,λm u=>?_,λm u=>?_,λm u=>?_⟩;·obtain⟨s,z,v⟩:=y m u;rw[v.p];exact I s z
 .obtain⟨s,z,v⟩:=y m u;have:=v.i;omega
 .obtain⟨s,z,v⟩:=y m u;have:=v.l;omega
 .obtain⟨s,z,v⟩:=y m u;have:=v.s;exact ct (by omega)
theorem zFF (v:∀ p rd c,parseC c.txt=G c->c.kind=k->OneM (y p rd c) p)(h:L.map aq=S.filterMap (λs=>ofK k y s.o s.r (tx s.d)))(z:(S:C)<=1000)(A:∀ s∈S,s.o.size<=1000000):MemSmall L:=
 have u:=zA0 v h z A
 ⟨u.len,u.p,u.i,u.l⟩
theorem zJQ {m:ArrM}(u:IsIds2 (zU h L) o)(z:O.map br=o.map (buildA (zU h L)))(A:m∈O)(F:∀ x∈L,x.i.size<=1000000):m.i.size<=1000000:=by
 have y:m.toArr∈O.map ArrM.toArr:=c9 A;rw[z]at y;obtain⟨v,I,J⟩:=List.mem_map.1 y;have N:m.i=v:=by rw[<-J];rfl
 obtain⟨s,U⟩:=(u.mem v).1 I;obtain⟨x,V⟩:=Option.isSome_iff_exists.1 U;obtain⟨X,-,Y⟩:=zAN L _ _ V;have Z:x.i=v:=ba Prod.fst Y;rw[N,<-Z];exact F x X
theorem zGn {r:B}{v:Vir}(y:IsIds L u)(z:v∈(opened u K).map (virOf L r))(A:∀ x∈L,x.i.size<=1000000):v.q.size=0/\v.o.size<=1000005:=by
 obtain⟨x,F,rfl⟩:=List.mem_map.1 z;have I:x∈u:=(List.mem_filter.1 F).1;obtain⟨m,J⟩:=Option.isSome_iff_exists.1 ((y.mem x).1 I);obtain⟨N,-,O⟩:=zCI L _ _ J;have U:m.i=x:=zBN (l:=[m.i]) (l':=[x]) (by simp[O]) |> λh=>by injection h
 have V:=A m N;rw[U]at V;refine⟨rfl,?_⟩;show (openT++x).size<=_
 rw[ByteArray.size_append];show 5+x.size<=_
 omega
theorem zJt {v:R->B->Ct->Mem}(u:∀ p rd c,parseC c.txt=G c->c.kind=k->OneM (v p rd c) p)(h:L.map aq=S.filterMap (λs=>ofK k v s.o s.r (tx s.d))):∀ m∈L,m.l.length<=16:=λm y=>by
 obtain⟨s,A,z⟩:=(zIo u h).2 m y;exact z.l
theorem zHy (u:∀ x∈L,x.l.length<=16)(o:R):(zr (zU h L) o).l.length<=16:=by
 unfold zr;cases hq:zU h L (o,zAS (zU h L) o)with
 | none=>simp[Mem.zero]
 | some m=>exact u m (zAN L _ _ hq).1
theorem zME {m:ArrM}(y:O.map br=o.map (buildA (zU h L)))(z:m∈O)(A:∀ x∈L,x.l.length<=16):(m.l:C)<=16:=by
 have u:m.toArr∈O.map ArrM.toArr:=c9 z;rw[y]at u;obtain⟨v,J,F⟩:=List.mem_map.1 u;have I:m.l=(zr (zU h L) v).l:=by rw[<-F];rfl
 rw[I];exact zHy A v
def Wt {H:Type}(t:bp)(d:DataW H):Prop:=∀ n∈d.weights al t,n<=reachBytes
theorem wt_each {H:Type}{o:ac bp}{ds:ac (DataW H)}(h:(DataW.weightsEach al o ds).all (·<=reachBytes)=ah){t:bp}{d:DataW H}(u:o[j]?=G t)(v:ds[j]?=G d):Wt t d:=λn y=>by
 have:=List.all_eq_true.1 h n (DataW.weights_mem_each u v n y)
 simpa using this
section
variable {H:Type}{enc:bp×ax->H}{w:ak}{base:C}{spare:C->Bool}{held:Bool}
end
section
variable {H:Type}{enc:bp×ax->H}{w:ak}{base:C}{spare:C->Bool}{held:Bool}
end
theorem zJc (a:am an)(o:C)(l:ac R)(s:R)(w:ak)(I:Strs w a o l):
  ap al 75 #[a0 a l o,s] w λe w'=>IdxS l s e/\Fr No w w':=by
 have X:=I.lenmax;go_enter Tryz.func75,Tryz.ntmps75;go_wp2_with fail
 go_loop [8] (λi=>∃ k:C,k<=(l:C)/\i=ae E k/\M (∀ x∈l.take k,(x.toList==s.toList)=ag)) (λi=>(l:C)-(ai i).toNat)
 case atStart=>exact⟨0,by omega,rfl,by unfold M;simp⟩
 case round=>
  obtain⟨k,Y,rfl,u⟩:=hrel;by_cases z:k<(l:C)
  .have J:(k:B)<(l:C):=by omega
   obtain⟨b,V,x,rfl,N,Z⟩:=I.at z;have O:=zh N;clear N;rcases he:(s.toList==x.toList)with _|_
   .have v:(x.toList==s.toList)=false:=(by rw[cf];exact he);have A:=zh v;clear v;go_wp2_with fail
    go_round
    case rel=>
     refine⟨k+1,by omega,by go_num,?_⟩;unfold M;intro y U;rw[ay,O]at U;rcases List.mem_append.1 U with h|h
     .exact u y h
     .simp at h;subst h;exact A.out
    case measure=>simp[ai];omega
   .have F:M (hasS l s=ah):=zPJ O (by rw[cf];exact he);go_wp2;go_ret;exact⟨⟨k,rfl,by rw[F.out];simp⟩,aa _ _⟩
  .obtain rfl:k=(l:C):=by omega
   have h:=u.out;rw[List.take_of_length_le (by omega)]at h;have F:M (hasS l s=ag):=zPI h;go_wp2;go_ret;exact⟨⟨-1,rfl,by rw[F];rfl⟩,aa _ _⟩
theorem zFe (a:am an)(h:C)(l:ac R)(s:R)(w:ak)(v:Strs w a h l):
  ap al 73 #[a0 a l h,s] w λe w'=>e=.returned (.bool (hasS l s))/\Fr No w w':=by
 go_enter Tryz.func73,Tryz.ntmps73;go_wp2_with fail;apply (zJc a h l s _ v).mono;rintro e z ⟨⟨i,rfl,u⟩,o⟩;have y:=zh u;clear u;go_wp2;go_ret;exact⟨zN y,o⟩
def lvT (id:R)(k:B):R:=(⟨#[108,118,45]⟩:R)++id++(⟨#[45]⟩:R)++(⟨(bj k).toArray⟩:R)
def lvOk (id:R)(k:B):Bool:=decide (1<=k)&&decide (k<=16)&&isName (lvT id k)
theorem zM3 (h:R)(k:B):(lvT h k).size=h.size+4+(bj k).length:=by
 unfold lvT;rw[ByteArray.size_append,ByteArray.size_append,ByteArray.size_append];show 3+h.size+1+(bj k).toArray.size=_
 simp;omega
theorem zPq (h:R)(k:B)(w:ak)(hE:Env w)(a5:h.size<=1000000)(hk:(Lit.int E k).wf=ah):
  ap al 159 #[.string h,.int E k] w λe w'=>e=.returned (.tuple #[.string (if lvOk h k=ah then lvT h k else ()),.int E (if lvOk h k=ah then 0 else 340)])/\Fr No w w':=by
 have y:-9223372036854775808<=k/\k<=9223372036854775807:=by simp[Lit.wf,IntKind.min,IntKind.max,IntKind.signed,IntKind.bits]at hk;omega
 have V:=Lib.itoa_length_le k y.1 y.2;have F:=zM3 h k;have h1:((⟨#[108,118,45]⟩:R)++h).size<=9223372036854775807:=by rw[ByteArray.size_append];show 3+h.size<=_;omega
 have h2:((⟨#[108,118,45]⟩:R)++h++(⟨#[45]⟩:R)).size<=9223372036854775807:=by rw[ByteArray.size_append,ByteArray.size_append];show 3+h.size+1<=_;omega
 obtain⟨u,z⟩:=ε (⟨(bj k).toArray⟩:R)
 have X:lvT h k=(⟨#[108,118,45]⟩:R)++h++(⟨#[45]⟩:R)++u:=by rw[z];rfl
 have h3:((⟨#[108,118,45]⟩:R)++h++(⟨#[45]⟩:R)++u).size<=9223372036854775807:=by rw[<-X,F];omega
 have h4:((⟨#[108,118,45]⟩:R)++h++(⟨#[45]⟩:R)++u).size<=maxLen:=by unfold aj;rw[<-X,F];omega
 have a4:u.size<=21:=by rw[z];simpa [ByteArray.size]using V
 have a6:¬ 9223372036854775807<3+h.size+1+u.size:=by omega
 have a7:¬ 9223372036854775807<((⟨#[108,118,45]⟩:R)++h++(⟨#[45]⟩:R)).size+u.size:=by rw[<-ByteArray.size_append];omega
 have a8:((⟨#[108,118,45]⟩:R)++h++(⟨#[45]⟩:R)).size+u.size<=9223372036854775807:=by omega
 obtain⟨N,I⟩:=ε (lvOk h k)
 rw[<-I,X];have J:=zh I;have HL:=zh X;have Y:(⟨(bj k).toArray⟩:R)=u:=z.symm;clear I X F V z;go_enter Tryz.func159,Tryz.ntmps159;go_wp2_with fail;apply (Tryz.strconv_Itoa k y.1 y.2 _ hE.tab).mono;rintro e w1 ⟨rfl,kk,os,rfl⟩;have o:Fr No w (Go.Sort.grow (w.drewN kk) os):=Fr.of_below_size (Lib.below_grow _ w (ca _) kk os);generalize Go.Sort.grow (w.drewN kk) os=w1 at *;rw[Y];by_cases Z:1<=k
 .by_cases a2:k<=16
  .go_wp2_with fail;apply (zAU _ _ h4).mono;rintro e w2 ⟨rfl,a3⟩;have A:=o.step a3 zi;have O:N=isName ((⟨#[108,118,45]⟩:R)++h++(⟨#[45]⟩:R)++u):=(by rw[J.out,<-HL.out];unfold lvOk;simp[Z,a2]);rw[<-O];have U:=zh A;clear o a3 A O;cases N
   .go_wp2_with fail;refine bx (v:=.tuple #[.string (),.int E 340]) (by simp[bz,bu,go_sem]) rfl ?_;exact⟨by simp,U.out⟩
   .go_wp2_with fail;refine bx (v:=.tuple #[.string ((⟨#[108,118,45]⟩:R)++h++(⟨#[45]⟩:R)++u),.int E 0]) (by simp[bz,bu,go_sem]) rfl ?_;exact⟨by simp,U.out⟩
  .have O:N=false:=by rw[J.out];unfold lvOk;simp[a2]
   subst O;have U:=zh o;clear o;go_wp2_with fail;refine bx (v:=.tuple #[.string (),.int E 340]) (by simp[bz,bu,go_sem]) rfl ?_;exact⟨by simp,U.out⟩
 .have O:N=false:=by rw[J.out];unfold lvOk;simp[Z]
  subst O;have U:=zh o;clear o;go_wp2_with fail;refine bx (v:=.tuple #[.string (),.int E 340]) (by simp[bz,bu,go_sem]) rfl ?_;exact⟨by simp,U.out⟩
def wantAt (gi:R)(ins:ac R)(r:B)(i:C):Vir:=⟨(),lvT gi ((i:B)+1),ins[i]?.getD ⟨#[]⟩,r⟩
def wantF (gi:R)(ins:ac R)(r:B)(k:C):ac Vir:=((List.range k).filter λi:C=>lvOk gi ((i:B)+1)).map (wantAt gi ins r)
theorem zE7 (u:R)(o:ac R)(r:B)(k:C):wantF u o r (k+1)=wantF u o r k++(if lvOk u ((k:B)+1)=ah then [wantAt u o r k]else []):=by
 unfold wantF;rw[List.range_succ,ch,bg];cases h:lvOk u ((k:B)+1)<;>simp[h]
theorem zKL (o:R)(h:ac R)(r:B)(k:C):(wantF o h r k).length<=k:=by
 unfold wantF;rw[bm];exact cb (List.length_filter_le _ _) (by simp)
def wantL (gi:R)(t n:B)(ins:ac R)(r:B):ac Vir:=if n=t then wantF gi ins r (ins:C) else []
theorem zOW (I:R)(t e n rd:B)(pa:am an)(pn pc:C)(la:am an)(lc:C)(o:ac R)(w:ak)(hE:Env w)(b1:I.size<=1000000)(hS:Strs w la lc o)(d5:(o:C)<=1000000):
  ap al 109 #[af #[I,a0 pa pn pc,t,ae E e,n,a0 la o lc],rd] w λen w'=>(∃ a' c' V,en=.returned (a0 a' (V:ac Vir).length c')/\Virs w' a' c' V/\V=wantL I t n o rd/\∀ ad,a'=G ad->(w:C)<=ad.block)/\Fr No w w':=by
 obtain⟨i0,b2,b3,b4,b5⟩:=bh infoV;have hx:Fr No w (w.alloc (P #[I,a0 pa pn pc,t,ae E e,n,a0 la o lc] 176)):=(aa _ _).alloc _;have q0:=zF w (P #[I,a0 pa pn pc,t,ae E e,n,a0 la o lc] 176);have hm:=hS.lenmax;have a3:=hS.no hx (λ_=>id);have a6:=hE.no hx;have b6:=zC q0;obtain⟨W0,a4⟩:=ε (w.alloc (P #[I,a0 pa pn pc,t,ae E e,n,a0 la o lc] 176))
 rw[<-a4]at hx q0 a3 a6 b6;obtain⟨x0,-,x2,-,x4,x5⟩:=cl6 q0;have Hx:=zh hx;clear hx hS hE;go_enter Tryz.func109,Tryz.ntmps109;go_upto_region 1 with(fail)
 rw[<-a4];clear a4;by_cases U:n=t
 .subst U;go_wp2_with fail;go_loopw [5,18] (λu i wr=>∃ (j:C) (V:ac Vir) (av:am an) (cv:C),j<=(o:C)/\V.length<=j/\u=a0 av V.length cv/\i=ae E (j:B)/\wr.ownsRow (W0:C) 52 4 (a0 av V.length cv) V.length (vflat V)/\M (V=wantF I o rd j)/\Fr (From (W0:C)) W0 wr) (λ_ i _=>(o:C)-(ai i).toNat);case atStart=>exact⟨0,[],Q,0,by omega,by simp,rfl,rfl,bw _ _ _ _,by unfold M wantF;simp,aa _ _⟩
  case round=>
   obtain⟨j,V,av,cv,hj,d6,rfl,rfl,v,HV,O⟩:=hrel;have d3:V.length<=1000000:=(by omega);by_cases b7:j<(o:C)
   .have d4:(j:B)<(o:C):=(by omega);obtain⟨b,d7,x,rfl,a7,hc⟩:=(a3.fr O (λad e b8=>by have:=(a3.cell ad e b8).2.1;omega)).at b7;have y0:wr ⟨w,0,Q⟩=G (.string I):=O.cell x0 (by show ¬ From (W0:C) (w:C);omega);have y:=zPq I ((j:B)+1) wr (a6.no (O.mono (λb hb h=>by omega))) b1 (ct (by omega));have b9:=zh a7;have d8:=O.size;clear a7;rcases hok:lvOk I ((j:B)+1)with _|_
    .rw[hok]at y;simp only[Bool.false_eq_true,if_false]at y;have X:M (V=wantF I o rd (j+1)):=(by unfold M;rw[zE7,hok];simpa using HV.out);clear hok;go_wp2_with fail;apply y.mono;rintro en w1 ⟨rfl,z⟩;have H:=zg2 (zG v z zi) (O.step z zn);clear v O z y HV;go_wp2;go_roundw;case rel=>exact⟨j+1,V,av,cv,by omega,by omega,rfl,by go_num,H.1,X,H.2⟩
     case measure=>simp[ai];omega
    .rw[hok]at y;simp only[if_true]at y;have X:M (wantF I o rd (j+1)=V++[⟨(),lvT I ((j:B)+1),x,rd⟩]):=by
      unfold M;rw[zE7,hok,<-HV,if_pos rfl];unfold wantAt;rw[b9];rfl
     clear hok;go_wp2_with fail;apply y.mono;rintro en w1 ⟨rfl,z⟩;have A:=zG v z zi;have Y:=O.step z zn;have d9:=z.size;have a5:=zh A;have a8:=zh Y;obtain⟨nm,Z⟩:=ε (lvT I ((j:B)+1))
     rw[<-Z]at X ⊢;clear v O z y HV Y Z;go_wp2_with (at_builtin;refine c7 _ rfl _ _ 41 rfl (W0:C) 52 i0 (af #[ao,ao,ao,ae E 0]) 4 56 cq b2 b3 b4 b5 rfl (by decide) _ _ _ rfl (A.alloc _) ⟨w1,0,Q⟩ 1 1 (az ⟨(),nm,x,rd⟩).toList rfl rfl (zl _ (az ⟨(),nm,x,rd⟩) _ rfl) (zCb _) (by unfold aj;omega) (by omega) (by first|omega|(simp;done)|(simp;omega)) ?_;intro v' w6 F J _;obtain⟨d0,d1,rfl⟩:=zI F)
     have a9:Fr (λb=>(ar av V.length cv).ownBlock=G b) (w1.alloc (P (az ⟨(),nm,x,rd⟩) 52)) w6:=bb J;have b0:Fr No w1 (w1.alloc (P (az ⟨(),nm,x,rd⟩) 52)):=(aa _ _).alloc _;have HF:=zg2 F ((a8.step b0 zn).step a9 (λb _ h=>zQ a5 h));clear F a9 b0 J A;go_roundw;case rel=>exact⟨j+1,V++[⟨(),nm,x,rd⟩],d0,d1,by omega,by simp;omega,by simp,by go_num,by rw[bf,zB1];exact HF.1,zh X.symm,HF.2⟩
     case measure=>simp[ai];omega
   .obtain rfl:j=(o:C):=by omega
    obtain⟨a',c',hv,hR,N⟩:=cr v;cases hv;have a2:=Hx.size;have H:=zg2 (And.intro hR (λad e=>cb a2 (N ad e))) (Hx.step (O.mono (T:=No) (λb hb h=>by omega)) zi);clear v O hR N a2;go_wp2;go_ret;exact⟨⟨_,_,V,rfl,H.1.1,by unfold wantL;rw[if_pos rfl];exact HV,H.1.2⟩,H.2⟩
 .have hb:(n != t)=true:=by simpa using U
  have d2:=zh U;clear U;go_wp2;go_ret;exact⟨⟨Q,0,[],rfl,Virs.nil _,by unfold wantL;rw[if_neg d2.out],λad e=>by cases e⟩,Hx.out⟩
end Go.Proofs.YtjohgekljmhheaaGreatDoor
