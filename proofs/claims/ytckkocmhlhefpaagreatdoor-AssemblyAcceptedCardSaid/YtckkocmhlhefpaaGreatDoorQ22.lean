import Derived.Test.YtckkocmhlhefpaaGreatDoorQ21
namespace Go.Proofs.YtckkocmhlhefpaaGreatDoor
open Go.RowKit Go.Maps Go.Sort Go.Shelf
set_option linter.unusedVariables false
set_option maxRecDepth 100000
set_option maxHeartbeats 16000000
open ArrM renaming toArr->az
open Fr renaming refl->M,of_grown_none->ai,of_grown->an,of_grown_some->ap,setCell->aq
open Go renaming maxLen->a0,World->ag,wpList_make_full->al,info_parts->ay,wpList_append_own_at->bg
open Go.Instr renaming lookup->bb
open Go.Proofs renaming intOf->aa
open Go.Proofs.Tryz renaming prog->ae,underlying276->af,underlying30->ak,underlying22->bd
open Go.RowKit renaming Hid->K
open Go.Value renaming string->ao
open Go.World renaming grownBy_alloc->be
open IntKind renaming i64->C
open Obj renaming cells->G
open OnlyN renaming mk->ad
open Value renaming agg->d
open _root_ renaming Nat->E,Int->P,Option->aj,ByteArray->am,decide_eq_true_eq->bf
open _root_.Bool renaming false->a1,true->ac,and_eq_true->ba
open _root_.ByteArray renaming empty->ah
open _root_.List renaming length_append->ar,mem_of_getElem?->au,take_add_one->aw,take_length->ax,map_append->bc
open _root_.Option renaming none->Q,some->B
theorem zIH (F:E)(I:Mem->Bool)(eg:∀ args w,(callFunc F args).run ae w=.ok (.enter F args) w)
  (k4:∀ (p i:am) (r s t e:P) (a:aj Addr) (l:List am) (c:E) (w:ag),Calls ae F #[d #[.string p,.string i,.int C r,.int C s,.int C t,.int C e,.slice a l.length c]] w λen w'=>en=.returned (.bool (I ⟨p,i,r,s,t,e,a,l,c⟩))/\Fr No w w') (z9:∀ m,I m=ac->soundB m=ac)
  (a:aj Addr) (s5:E) (L:List Mem) (m0:P) (w:ag) (hl:Mems w a s5 L) (hb:MemSmall2 L) (A0:w.cell? ⟨0,0,Q⟩=B (.int C m0)) (R7:0<(w:E)):
  Calls ae 159 #[.slice a L.length s5,.func (.func F) #[] #[]] w λe w'=>ArrRes w (zv I L) e w'/\Fr No w w':=by
 obtain⟨i0,L2,L3,L4,L5⟩:=ay infoAr;have R8:=hb.len;have L6:=@run_makeMap ae;have hx:Fr No w (w.alloc (.map #[] 0)):=(M _ _).alloc _;have L7:=PMap.made w;have e4:(w:E)<(w.alloc (.map #[] 0)).heap.size:=by simp
 have k5:∀ W:ag,Fr (From (w:E)) w W->Mems W a s5 L:=λW hf=>hl.keep hf (λb hb h=>by omega)
 have k6:=zh k5;have Hb:=zh hb;clear k5 hb hl
 go_enter Tryz.func159,Tryz.ntmps159
 go_wp2_with fail
 generalize w.alloc (.map #[] 0)=W0 at *
 go_loopw [23] (λi wr=>∃ k:E,k<=L.length/\i=.int C (k:P)/\PMap wr (w:E) (mapP (zv I (L.take k))) k/\Fr (From (w:E)) w wr/\(w:E)<(wr:E)) (λi _=>L.length-(aa i).toNat)
 case atStart=>exact⟨0,by omega,rfl,by exact L7,hx.mono zn,e4⟩
 case round=>
  obtain⟨k,hk,rfl,hI,e5,A1⟩:=hrel;by_cases i8:k<L.length
  .have A2:(k:P)<L.length:=by omega
   obtain⟨b,L8,m,rfl,s6,k7,d3,R9⟩:=(k6.out _ e5).elem i8;have b2:=au s6;have k8:K (L.take (k+1)=L.take k++[m]):=by unfold K;rw[aw,s6];rfl
   have A3:=Hb.out.p m b2;have k9:m.i.size<=maxLen:=by have:=Hb.out.i m b2;unfold a0;omega
   have l0:=Hb.out.s m b2;have o8:wr.cell? ⟨0,0,Q⟩=B (.int C m0):=e5.cell A0 (by show ¬ From (w:E) 0;omega);obtain⟨mp,Z,mr,ms,mt,me,ma,ml,mc⟩:=m;obtain⟨c0,c1,c2,c3,c4,c5,c6⟩:=d3;simp only at c0 c1 c2 c3 c4 c5 c6 A3 k9 l0;clear s6 k7 b2 L6;have l1:Fr No wr ((wr.alloc (G #[.string mp,.string Z,.int C mr,.int C ms,.int C mt,.int C me,.slice ma ml.length mc] 232)).alloc (G #[.string Z,.int C ms] 278)):=((M _ _).alloc _).alloc _;have i9:=hI.fr l1 id;clear hI;rcases hg:zv I (L.take k) (Z,ms)with _|o
   .have hv:(mapP (zv I (L.take k)) (Z,ms)).getD zBq=d #[.string ⟨#[]⟩,.string ⟨#[]⟩,.int C 0,.int C 0,.int C 0,.int C 0,.slice Q 0 0]:=by unfold mapP;rw[hg];rfl
    have l2:(mapP (zv I (L.take k)) (Z,ms)).isSome=false:=by unfold mapP;rw[hg];rfl
    have Hg:K (∀ o,zv I (L.take k) (Z,ms)=B o->ahead ⟨mp,Z,mr,ms,mt,me,ma,ml,mc⟩ o=ac):=λo ho=>by rw[hg]at ho;cases ho
    clear hg
    go_upto_region 7 with(at_lookup;refine zEZ rfl _ _ 276 232 zBq (zHY _) rfl af (w:E) _ k Z ms k9 l0 rfl i9 rfl (d #[.string ⟨#[]⟩,.string ⟨#[]⟩,.int C 0,.int C 0,.int C 0,.int C 0,.slice Q 0 0]) hv a1 l2 ?_)
    have d7:Fr No wr (((wr.alloc (G #[.string mp,.string Z,.int C mr,.int C ms,.int C mt,.int C me,.slice ma ml.length mc] 232)).alloc (G #[.string Z,.int C ms] 278)).alloc (G #[.string ⟨#[]⟩,.string ⟨#[]⟩,.int C 0,.int C 0,.int C 0,.int C 0,.slice Q 0 0] 232)):=l1.alloc _;have qm:=zCo wr (G #[.string mp,.string Z,.int C mr,.int C ms,.int C mt,.int C me,.slice ma ml.length mc] 232) (G #[.string Z,.int C ms] 278) (G #[.string ⟨#[]⟩,.string ⟨#[]⟩,.int C 0,.int C 0,.int C 0,.int C 0,.slice Q 0 0] 232);have qp:=zCn wr (G #[.string mp,.string Z,.int C mr,.int C ms,.int C mt,.int C me,.slice ma ml.length mc] 232) (G #[.string Z,.int C ms] 278) (G #[.string ⟨#[]⟩,.string ⟨#[]⟩,.int C 0,.int C 0,.int C 0,.int C 0,.slice Q 0 0] 232);have qo:=zCm wr (G #[.string mp,.string Z,.int C mr,.int C ms,.int C mt,.int C me,.slice ma ml.length mc] 232) (G #[.string Z,.int C ms] 278) (G #[.string ⟨#[]⟩,.string ⟨#[]⟩,.int C 0,.int C 0,.int C 0,.int C 0,.slice Q 0 0] 232);have d8:=i9.fr ((M No _).alloc (G #[.string ⟨#[]⟩,.string ⟨#[]⟩,.int C 0,.int C 0,.int C 0,.int C 0,.slice Q 0 0] 232)) id;clear i9 hv l2 c0 c1 c2 c3 c4 c5 c6 l1;generalize ((wr.alloc (G #[.string mp,.string Z,.int C mr,.int C ms,.int C mt,.int C me,.slice ma ml.length mc] 232)).alloc (G #[.string Z,.int C ms] 278)).alloc (G #[.string ⟨#[]⟩,.string ⟨#[]⟩,.int C 0,.int C 0,.int C 0,.int C 0,.slice Q 0 0] 232)=W2 at *;obtain⟨y0,y1,y2,y3,y4,y5,y6⟩:=cl7 qm;have d9:=d7.cell o8 id;have g7:=zh (e5.step d7 zn);have o9:=d7.size;clear d7 e5 o8;obtain⟨gd,g8⟩:∃ gd,gd=I ⟨mp,Z,mr,ms,mt,me,ma,ml,mc⟩:=⟨_,rfl⟩
    have l3:K (I ⟨mp,Z,mr,ms,mt,me,ma,ml,mc⟩=gd):=g8.symm;have b3:=k4 mp Z mr ms mt me ma ml mc W2;rw[<-g8]at b3;clear g8;rcases gd with _|_
    .go_wp2_with
      (go_at_fn F
       refine b3.mono ?_;rintro en w3 ⟨rfl,U⟩;have g9:=U.heap qm id;have d4:=U.heap qp id;have j1:=U.heap qo id;have d5:=d8.fr U id;have l4:=U.cell d9 id;have d6:=zh (g7.out.step U zn);have h0:=U.size;clear y0 y1 y2 y3 y4 y5 y6 U qm qp qo d9 d8 b3)
     have e0:PMap w3 (w:E) (mapP (zv I (L.take (k+1)))) k:=by rw[k8.out,zAr,zEM l3.out];exact d5
     have H:=zg2 e0 d6.out;clear e0 d5
     go_roundw
     case rel=>exact⟨k+1,by omega,by go_num,H.out.1.mono (by omega),H.out.2,by omega⟩
     case measure=>simp[aa];omega
    .go_wp2_with (first
      | (go_at_fn F
         refine b3.mono ?_;rintro en w3 ⟨rfl,U⟩;have g9:=U.heap qm id;have d4:=U.heap qp id;have j1:=U.heap qo id;have d5:=d8.fr U id;have l4:=U.cell d9 id;have d6:=zh (g7.out.step U zn);have h0:=U.size;clear y0 y1 y2 y3 y4 y5 y6 U qm qp qo d9 d8 b3;obtain⟨y0,y1,y2,y3,y4,y5,y6⟩:=cl7 g9;have z0:w3.cell? ⟨(wr:E)+1,0,Q⟩=B (.string Z):=zB d4 0;have z1:w3.cell? ⟨(wr:E)+1,1,Q⟩=B (.int C ms):=zB d4 1)
      | (at_mapUpdate;refine zDY rfl _ _ _ 276 232 rfl af (w:E) _ k (by unfold a0;omega) Z ms k9 l0 (d #[.string mp,.string Z,.int C mr,.int C ms,.int C mt,.int C me,.slice ma ml.length mc]) rfl d5 rfl rfl ?_;intro w6 l5 h7))
     have l6:PMap w6 (w:E) (mapP (zv I (L.take (k+1)))) (k+1):=by rw[k8.out,zAr,zCI l3.out Hg.out,<-zH7];exact l5
     have H:=zg3 l6 (d6.out.step h7 (λb hb e=>by omega)) h7.size;clear l5 l6 h7
     go_roundw
     case rel=>exact⟨k+1,by omega,by go_num,H.out.1,H.out.2.1,by have:=H.out.2.2;omega⟩
     case measure=>simp[aa];omega
   .obtain⟨op,oi,or,os,ot,oe,oa,ol,oc⟩:=o;have hv:(mapP (zv I (L.take k)) (Z,ms)).getD zBq=d #[.string op,.string oi,.int C or,.int C os,.int C ot,.int C oe,.slice oa ol.length oc]:=by unfold mapP;rw[hg];rfl
    have l2:(mapP (zv I (L.take k)) (Z,ms)).isSome=true:=by unfold mapP;rw[hg];rfl
    have A4:=Hb.out.p _ (List.mem_of_mem_take (zAk _ _ _ hg).1);simp only at A4;have Hg:=zh hg;clear hg
    go_upto_region 7 with(at_lookup;refine zEZ rfl _ _ 276 232 zBq (zHY _) rfl af (w:E) _ k Z ms k9 l0 rfl i9 rfl (d #[.string op,.string oi,.int C or,.int C os,.int C ot,.int C oe,.slice oa ol.length oc]) hv ac l2 ?_)
    have d7:Fr No wr (((wr.alloc (G #[.string mp,.string Z,.int C mr,.int C ms,.int C mt,.int C me,.slice ma ml.length mc] 232)).alloc (G #[.string Z,.int C ms] 278)).alloc (G #[.string op,.string oi,.int C or,.int C os,.int C ot,.int C oe,.slice oa ol.length oc] 232)):=l1.alloc _;have qm:=zCo wr (G #[.string mp,.string Z,.int C mr,.int C ms,.int C mt,.int C me,.slice ma ml.length mc] 232) (G #[.string Z,.int C ms] 278) (G #[.string op,.string oi,.int C or,.int C os,.int C ot,.int C oe,.slice oa ol.length oc] 232);have qp:=zCn wr (G #[.string mp,.string Z,.int C mr,.int C ms,.int C mt,.int C me,.slice ma ml.length mc] 232) (G #[.string Z,.int C ms] 278) (G #[.string op,.string oi,.int C or,.int C os,.int C ot,.int C oe,.slice oa ol.length oc] 232);have qo:=zCm wr (G #[.string mp,.string Z,.int C mr,.int C ms,.int C mt,.int C me,.slice ma ml.length mc] 232) (G #[.string Z,.int C ms] 278) (G #[.string op,.string oi,.int C or,.int C os,.int C ot,.int C oe,.slice oa ol.length oc] 232);have d8:=i9.fr ((M No _).alloc (G #[.string op,.string oi,.int C or,.int C os,.int C ot,.int C oe,.slice oa ol.length oc] 232)) id;clear i9 hv l2 c0 c1 c2 c3 c4 c5 c6 l1;generalize ((wr.alloc (G #[.string mp,.string Z,.int C mr,.int C ms,.int C mt,.int C me,.slice ma ml.length mc] 232)).alloc (G #[.string Z,.int C ms] 278)).alloc (G #[.string op,.string oi,.int C or,.int C os,.int C ot,.int C oe,.slice oa ol.length oc] 232)=W2 at *;obtain⟨y0,y1,y2,y3,y4,y5,y6⟩:=cl7 qm;have d9:=d7.cell o8 id;have g7:=zh (e5.step d7 zn);have o9:=d7.size;clear d7 e5 o8;obtain⟨gd,g8⟩:∃ gd,gd=I ⟨mp,Z,mr,ms,mt,me,ma,ml,mc⟩:=⟨_,rfl⟩
    have l3:K (I ⟨mp,Z,mr,ms,mt,me,ma,ml,mc⟩=gd):=g8.symm;have b3:=k4 mp Z mr ms mt me ma ml mc W2;rw[<-g8]at b3;clear g8;rcases gd with _|_
    .go_wp2_with
      (go_at_fn F
       refine b3.mono ?_;rintro en w3 ⟨rfl,U⟩;have g9:=U.heap qm id;have d4:=U.heap qp id;have j1:=U.heap qo id;have d5:=d8.fr U id;have l4:=U.cell d9 id;have d6:=zh (g7.out.step U zn);have h0:=U.size;clear y0 y1 y2 y3 y4 y5 y6 U qm qp qo d9 d8 b3)
     have e0:PMap w3 (w:E) (mapP (zv I (L.take (k+1)))) k:=by rw[k8.out,zAr,zEM l3.out];exact d5
     have H:=zg2 e0 d6.out;clear e0 d5
     go_roundw
     case rel=>exact⟨k+1,by omega,by go_num,H.out.1.mono (by omega),H.out.2,by omega⟩
     case measure=>simp[aa];omega
    .go_wp2_with
      (go_at_fn F
       refine b3.mono ?_;rintro en w3 ⟨rfl,U⟩;have g9:=U.heap qm id;have d4:=U.heap qp id;have j1:=U.heap qo id;have d5:=d8.fr U id;have l4:=U.cell d9 id;have d6:=zh (g7.out.step U zn);have h0:=U.size;clear y0 y1 y2 y3 y4 y5 y6 U qm qp qo d9 d8 b3;obtain⟨y0,y1,y2,y3,y4,y5,y6⟩:=cl7 g9;obtain⟨z0,z1,z2,z3,z4,z5⟩:=cl6 j1;have z6:w3.cell? ⟨(wr:E)+1+1,6,Q⟩=B (.slice oa ol.length oc):=zB j1 6)
     refine(zH9 mp Z op oi mr ms mt me or os ot oe _ _ m0 _ A3 A4 l4).mono ?_;rintro en w5 ⟨rfl,j2⟩;have A5:=j2.heap g9 id;have A6:=j2.heap d4 id;have e0:=d5.fr j2 id;have A7:=zh (d6.out.step j2 zn);have U0:=j2.size;clear y0 y1 y2 y3 y4 y5 y6 z0 z1 z2 z3 z4 z5 z6 j2 g9 d4 j1 l4 d5;rcases ha:aheadB mp mr op or with _|_
     .clear A5 A6;have A8:PMap w5 (w:E) (mapP (zv I (L.take (k+1)))) k:=by rw[k8.out,zAr,zHP (m:=⟨mp,Z,mr,ms,mt,me,ma,ml,mc⟩) (o:=⟨op,oi,or,os,ot,oe,oa,ol,oc⟩) Hg.out ha];exact e0
      have H:=zg2 A8 A7.out;clear A8 e0
      go_wp2_with fail
      go_roundw
      case rel=>exact⟨k+1,by omega,by go_num,H.out.1.mono (by omega),H.out.2,by omega⟩
      case measure=>simp[aa];omega
     .have L9:K (∀ o,zv I (L.take k) (Z,ms)=B o->ahead ⟨mp,Z,mr,ms,mt,me,ma,ml,mc⟩ o=ac):=λo ho=>by rw[Hg.out]at ho;cases ho;exact ha
      clear ha;obtain⟨y0,y1,y2,y3,y4,y5,y6⟩:=cl7 A5;obtain⟨z0,z1⟩:=cl2 A6
      go_wp2_with (at_mapUpdate;refine zDY rfl _ _ _ 276 232 rfl af (w:E) _ k (by unfold a0;omega) Z ms k9 l0 (d #[.string mp,.string Z,.int C mr,.int C ms,.int C mt,.int C me,.slice ma ml.length mc]) rfl e0 rfl rfl ?_;intro w6 l5 h7)
      have l6:PMap w6 (w:E) (mapP (zv I (L.take (k+1)))) (k+1):=by rw[k8.out,zAr,zCI l3.out L9.out,<-zH7];exact l5
      have H:=zg3 l6 (A7.out.step h7 (λb hb e=>by omega)) h7.size;clear l5 l6 h7
      go_roundw
      case rel=>exact⟨k+1,by omega,by go_num,H.out.1,H.out.2.1,by have:=H.out.2.2;omega⟩
      case measure=>simp[aa];omega
  .obtain rfl:k=L.length:=by omega
   rw[ax]at hI;obtain⟨D,n,hn,ho,hh⟩:=hI;have Hh:=zh hh;have p0:=ho.size_le;have l7:K (∀ x s m,zv I L (x,s)=B m->(m∈L/\I m=ac/\m.i=x/\m.s=s)/\x.size<=a0/\(Lit.int C s).wf=ac):=λx s m hm=>by
    obtain⟨h1,h2,h3⟩:=zAk L (x,s) m hm;simp only[Prod.mk.injEq]at h3;obtain⟨rfl,rfl⟩:=h3;exact⟨⟨h1,h2,rfl,rfl⟩,by have:=Hb.out.i m h1;unfold a0;omega,Hb.out.s m h1⟩
   obtain⟨j0,A9,D2,D3,D4⟩:=ay zOw;have qg:=zF wr (.map #[] 0);have s7:Fr No wr (wr.alloc (.map #[] 0)):=(M _ _).alloc _;have D5:=s7.ownsMap ho id;have D6:(wr.alloc (.map #[] 0)).heap.size=(wr:E)+1:=by simp
   have p9:=e5.step s7 zn;clear hh ho e5 A0
   go_upto_region 11 with(fail)
   generalize wr.alloc (.map #[] 0)=W1 at *;generalize (wr:E)=gm at *;have D7:GMap W1 ((W1:E)+1) gm (λ_=>[]) 0:=GMap.made qg (by omega);have s8:K ((w:E)<gm):=A1;have j3:=zh D6;clear s7 D6 qg A1
   go_wp2_with (at_range;refine wpList_range_own _ rfl _ 276 rfl 278 232 lawP af heldV (w:E) n D rfl D5 ?_;intro w2 r0 t0 o9)
   have D8:=D7.grown t0 (by simp) (λj e=>by cases e);have D9:=p9.step (ai t0) zn;clear p9 D7 t0 D5
   go_frame
   go_loopw [57] (λv j4=>∃ (e6:Lit->Bool) (t7 N:E) (f:List UInt8->List P),j4.ranges ae 278 heldV (w:E) (W1:E) n D e6 t7/\N+t7<=Maps.size D/\GMap j4 ((W1:E)+1) gm f N/\K (Grp D e6 f)/\K (Fr (From (w:E)) w j4)/\(W1:E)+1<=(j4:E))
    (λ_ j4=>j4.rangeLeft (w:E) (W1:E))
   case atStart=>exact⟨_,_,0,_,r0,by omega,D8,Grp.start D,D9,by omega⟩
   case round=>
    obtain⟨e6,t7,N,f,l8,U1,hG,HG,Hf,h0⟩:=hrel;clear D8 r0 D9 o9
    go_wp2_with (at_next;refine wpList_next_ranges _ rfl _ rfl 278 lawP heldV (λx:am×P=>d #[.string x.1,.int C x.2]) (λv:Value=>v) (λU2 kl h=>by obtain⟨s,n,rfl,_⟩:=zIB h;exact⟨(s,n),rfl⟩) (λv y h=>⟨v,rfl⟩) (w:E) (W1:E) n D _ _ rfl l8 ?_ ?_)
    .intro M0 F0;have F1:PMap wr (w:E) (mapP (zv I L)) n:=⟨D,n,Nat.le_refl _,l8.owns,Hh.out⟩
     have F2:K (∀ x,IsSlots (zv I L) x (f (kb x))):=HG.out.slots F0 (λx h1 h2=>(Hh.out x h1 h2).1) (λx s m h=>(l7.out x s m h).2);have hN:N<=1000:=by omega
     clear l8 HG F0 M0 Hh
     go_wp2_with fail
     refine(zIn gm _ f N _ hG (by omega)).mono ?_;rintro en w4 ⟨⟨ia,ic,a9,rfl,F3,r4,b2,r5,M1⟩,l9⟩;have r6:K (IsIds2 (zv I L) a9):=IsIds2.of_slots r4 b2 F2.out;have F4:=zh b2;have m4:=hG.grown (l9.grown (row:=Q) (λ_ h=>h.elim)) (by simp) (λj e=>by cases e);have t8:=F1.fr l9 id;have p1:K (Fr (From (w:E)) w w4):=Hf.out.step l9 zn;have M2:=l9.size;have m5:K (a9.length<=N):=r5;have j5:K ((w:E)<=(w4:E)):=by have:=s8.out;have:=j3.out;unfold K;omega
     clear r4 b2 hG F1 l9 Hf r5 M1 h0;obtain⟨s0,e4,e7,e8,g0⟩:=ay infoS
     go_wp2_with fail
     go_loopw [13,75] (λu i t9=>∃ (j:E) (O:List ArrM) (av:aj Addr) (cv:E),j<=a9.length/\O.length=j/\u=.slice av O.length cv/\i=.int C (j:P)/\t9.ownsRow (w4:E) 183 6 (.slice av O.length cv) O.length (arflat O)/\AFresh t9 (w4:E) O/\K (O.map az=(a9.take j).map (buildA (zv I L)))/\Fr (From (w4:E)) w4 t9) (λ_ i _=>a9.length-(aa i).toNat)
     case atStart=>exact⟨0,[],Q,0,by omega,rfl,rfl,rfl,World.ownsRow_nil _ _ _ _,λ_ h=>by simp at h,by unfold K;simp,M _ _⟩
     case round=>
      obtain⟨j,O,av,cv,hj,F5,rfl,rfl,a5,b4,HO,hf⟩:=hrel;have O9:a9.length<=1000:=by have:=m5.out;omega
      have R0:O.length<=1000:=by have:=m5.out;omega
      have M4:=zh F5;clear F5;by_cases i8:j<a9.length
      .have A2:(j:P)<a9.length:=by omega
       obtain⟨b,L8,x,rfl,v0,hc⟩:=(F3.fr hf (λJ e v1=>by have:=(F3.cell J e v1).2.1;omega)).at i8;have M5:K (a9.take (j+1)=a9.take j++[x]):=by unfold K;rw[aw,v0];rfl
       have v2:=au v0;have F6:=zh ((F4.out x).1 v2);obtain⟨s9,F7⟩:=(r6.out.mem x).1 v2;obtain⟨m9,F8⟩:=Option.isSome_iff_exists.1 F7;have h8:x.size<=maxLen:=(l7.out x s9 m9 F8).2.1;clear v0 v2 F7 F8;have F9:=Fr.grownF hf;have v3:=m4.grown F9 (by simp) (λj e=>by cases e);have p2:=t8.fr hf (by unfold From;have:=t8.lt;omega);obtain⟨v,b5,g1,m6,_⟩:=v3.look (by unfold a0;omega) h8;obtain⟨za,zc,rfl,hZ,U3⟩:=Ints.of_own g1.1 g1.2;obtain⟨zs,v4⟩:∃ zs,zs=f (kb x):=⟨_,rfl⟩
       rw[<-v4]at b5 g1 m6 hZ F6;have j6:K (IsSlots (zv I L) x zs):=by rw[v4];exact F2.out x
       have I0:1<=zs.length:=by have:=F6.out;rcases zs with _|⟨_,_⟩;exact absurd rfl this;simp
       clear v4 g1
       go_wp2_with (at_lookup;refine zAs rfl _ _ 281 rfl (.map (B gm)) (.string x) (.slice za zs.length zc) rfl rfl (b5 _ rfl) ?_)
       refine(zOa za zc zs _ hZ I0).mono ?_;rintro en w5 ⟨⟨m,rfl,hm,r7⟩,rfl⟩;obtain⟨o,ho⟩:=Option.isSome_iff_exists.1 ((j6.out.mem m).1 hm);have m7:K (∀ s∈zs,1<=s/\s<=16):=λs hs=>by
        obtain⟨m',M6⟩:=Option.isSome_iff_exists.1 ((j6.out.mem s).1 hs);obtain⟨⟨_,h2,_,h4⟩,_⟩:=l7.out x s m' M6;have h2:=z9 _ h2;unfold soundB at h2;simp only[ba,bf]at h2;omega
       have M7:K (zAX (zv I L) x=o):=by
        have:=zFZ j6.out m7.out hm r7;unfold K zAX;rw[this,ho];rfl
       obtain⟨⟨v5,m8,I1,I2⟩,_,M8⟩:=l7.out x m o ho;have b6:=p2.look (zHY wr) af h8 M8;have hv:(mapP (zv I L) (x,m)).getD zBq=o.v:=by unfold mapP;rw[ho];rfl
       rw[hv]at b6;have M9:1<=o.t/\o.t<=16:=by
        have m8:=z9 _ m8;unfold soundB at m8;simp only[ba,bf]at m8;omega
       have j7:=Hb.out.l o v5;have k7:=((k6.out wr (p1.out.trans hf (λb hb h=>h) (λb hb h=>by unfold From at h ⊢;have:=j5.out;omega))).ok o v5)
       have I3:=zh b5;clear hv ho v5 m8 I1 hm r7 b5;obtain⟨op,oi,or,os,ot,oe,oa,ol,oc⟩:=o;simp only at I2 M9 j7 k7;subst I2;obtain⟨T,rfl⟩:∃ T:E,ot=(T:P):=⟨ot.toNat,by omega⟩
       unfold Mem.v Mem.vals at b6;simp only at b6;have p3:Fr No wr (wr.alloc (G #[.string op,.string oi,.int C or,.int C os,.int C (T:P),.int C oe,.slice oa ol.length oc] 232)):=(M _ _).alloc _;have q3:=zF wr (G #[.string op,.string oi,.int C or,.int C os,.int C (T:P),.int C oe,.slice oa ol.length oc] 232)
       go_upto_region 20 with(at_lookup;refine zAs rfl _ _ 276 rfl (.map (B (w:E))) (d #[.string x,.int C os]) (d #[.string op,.string oi,.int C or,.int C os,.int C (T:P),.int C oe,.slice oa ol.length oc]) rfl rfl b6 ?_)
       generalize wr.alloc (G #[.string op,.string oi,.int C or,.int C os,.int C (T:P),.int C oe,.slice oa ol.length oc] 232)=W3 at *;have j8:=k7.no p3 (λ_=>id);have N0:=zh p3;have N1:=zC q3;have h0:=p3.size;clear k7 p3
       go_cut [17] (λv wx=>∃ (ab pa:E) (la:aj Addr) (lc:E),v=.pointer (B ⟨ab,0,Q⟩)/\wx.heap[ab]?=B (G #[.string x,.slice (B ⟨pa,0,Q⟩) T T,.int C (T:P),.int C oe,.int C 0,.slice la ol.length lc] 183)/\wx.heap[pa]?=B (G ((List.replicate T (⟨#[]⟩:am)).map ao).toArray 9)/\pa≠ab/\Strs wx la lc ol/\BlkT wx la 9/\(W3:E)<=ab/\(W3:E)<=pa/\(∀ J,la=B J->J.block≠pa/\(W3:E)<=J.block)/\Fr No W3 wx)
       case first=>
        refine zZ (From (W3:E)) (.q 0 (.q 1 (.q 2 (.q 4 (.q 5 (.q 6 (.q 7 (.q 8 (.q 9 (.m3 3 (.m2 10 (.q 11 (.m1 12 (.m1 13 .fin))) 12 (.m1 10 (.q 11 (.m1 13 .fin)))) 10 (.m2 3 (.q 11 (.m1 12 (.m1 13 .fin))) 12 (.m1 3 (.q 11 (.m1 13 .fin)))) 12 (.m2 3 (.m1 10 (.q 11 (.m1 13 .fin))) 10 (.m1 3 (.q 11 (.m1 13 .fin)))))))))))))) _ (by kernel_rfl) (by kernel_rfl) (λw0 a6=>?_) zj;have q0:=a6.heap q3 id;have R1:=a6.size;have nf:¬ From (W3:E) (wr:E):=by omega
        have c4:∀ g:Gr (From (W3:E)) w0,g.W.cell? ⟨wr,4,Q⟩=B (.int C (T:P)):=λg=>g.fr.cell (zB q0 4) nf
        have c5:∀ g:Gr (From (W3:E)) w0,g.W.cell? ⟨wr,5,Q⟩=B (.int C oe):=λg=>g.fr.cell (zB q0 5) nf
        have c6:∀ g:Gr (From (W3:E)) w0,g.W.cell? ⟨wr,6,Q⟩=B (.slice oa ol.length oc):=λg=>g.fr.cell (zB q0 6) nf
        repeat (apply zL rfl rfl rfl;intro e2 hK;go_big_quiet_op;go_big_quiet_on)
        clear c4 c5 c6;refine zNI rfl rfl rfl ?_ ?_ ?_
        .go_wp2_with (at_make;refine al _ rfl _ _ 30 rfl (W3:E) 9 s0 (.string ah) 1 ak e4 e7 e8 C C (T:P) (T:P) T rfl rfl rfl rfl (by rw[g0];omega) (by unfold a0;omega) (by omega) ?_;intro X1 hP a7)
         have b7:Fr No w0 X1:=ai a7;have a2:K ((w0:E)<(X1:E)):=zY hP rfl;have HP:=zh (zBG hP);clear hP a7;have r8:=b7.size;refine zm b7 ?_;have b0:Fr No W3 X1:=a6.step b7 zi;refine zAA rfl rfl ?_ ?_
         .go_wp2_with fail
          refine(zAp oa oc ol _ (j8.no b0 (λ_=>id)) j7).mono ?_;rintro en X ⟨⟨la,lc,rfl,hL,Y,a8⟩,V⟩;have HL:=zg3 hL Y a8;clear hL Y a8
          go_wp2_with fail
          have g2:=V.size;refine zm V ?_;have b1:Fr No W3 X:=b0.step V zi
          repeat (apply zL rfl rfl rfl;intro e2 hK;go_big_quiet_op;go_big_quiet_on)
          refine zH rfl ?_
          go_wp2_with fail
          have R:Fr No X (X.alloc (G #[.string ⟨#[]⟩,.slice Q 0 0,.int C 0,.int C 0,.int C 0,.slice Q 0 0] 183)):=(M _ _).alloc _;have h9:=zF X (G #[.string ⟨#[]⟩,.slice Q 0 0,.int C 0,.int C 0,.int C 0,.slice Q 0 0] 183);generalize X.alloc (G #[.string ⟨#[]⟩,.slice Q 0 0,.int C 0,.int C 0,.int C 0,.slice Q 0 0] 183)=X3 at *;have g3:=R.size;refine zm R ?_;have b8:Fr No W3 X3:=b1.step R zi;refine zH rfl ?_;have qe:=(M No X3).heap h9 id;obtain⟨z0,z1,z2,z3,z4,z5⟩:=cl6 qe;obtain⟨y0,y1,y2,y3,y4,y5⟩:=fl6 qe;have b9:=zh qe;clear qe
          go_wp2_with fail
          have h6:=set6 b9.out rfl (.string x) (.slice (B ⟨w0,0,Q⟩) T T) (.int C (T:P)) (.int C oe) (.int C 0) (.slice la ol.length lc);refine ad ⟨h6.2.mono (λb _ h=>by omega),?_⟩;refine zV ?_
          go_wp2_with fail
          go_meet
          have a4:(w0:E)≠(X:E):=by have:=a2.out;have:=zC h9;omega
          have a3:∀ J,la=B J->J.block≠(X:E)/\J.block≠(w0:E)/\(W3:E)<=J.block:=λJ e=>by
           have h1:=HL.out.2.2 J e;obtain⟨cs,h2⟩:=HL.out.2.1 J e;have h3:=zC h2;have h4:=a2.out;have h5:=zC h9;refine⟨?_,?_,?_⟩<;>omega
          exact⟨(X:E),(w0:E),la,lc,rfl,h6.1,((((M No X1).step V zi).step R zi).mono (T:=Is ((X:E))) zn).step h6.2 zi |>.heap HP.out a4,a4,(HL.out.1.no ((M No X).step R zi) (λ_=>id)).fr h6.2 (λJ e _=>(a3 J e).1),(HL.out.2.1.fr ((M No X).step R zi) (λ_ _=>id)).fr h6.2 (λJ e=>(a3 J e).1),by omega,by omega,λJ e=>(a3 J e).2,b8.step h6.2 (λb hb h=>by omega)⟩
         .go_wp2_with fail
          have V:Fr No X1 (X1.alloc (G #[.string ⟨#[]⟩,.slice Q 0 0,.int C 0,.int C 0,.int C 0,.slice Q 0 0] 183)):=(M _ _).alloc _;have i1:=zF X1 (G #[.string ⟨#[]⟩,.slice Q 0 0,.int C 0,.int C 0,.int C 0,.slice Q 0 0] 183);generalize X1.alloc (G #[.string ⟨#[]⟩,.slice Q 0 0,.int C 0,.int C 0,.int C 0,.slice Q 0 0] 183)=X at *;have g2:=V.size;refine zm V ?_;have b1:Fr No W3 X:=b0.step V zi;refine zH rfl ?_
          go_wp2_with fail
          refine(zAp oa oc ol _ (j8.no b1 (λ_=>id)) j7).mono ?_;rintro en X3 ⟨⟨la,lc,rfl,hL,Y,a8⟩,R⟩;have HL:=zg3 hL Y a8;clear hL Y a8
          go_wp2_with fail
          have g3:=R.size;refine zm R ?_;have b8:Fr No W3 X3:=b1.step R zi
          repeat (apply zL rfl rfl rfl;intro e2 hK;go_big_quiet_op;go_big_quiet_on)
          refine zH rfl ?_;have qe:=((M No X).step R zi).heap i1 id;obtain⟨z0,z1,z2,z3,z4,z5⟩:=cl6 qe;obtain⟨y0,y1,y2,y3,y4,y5⟩:=fl6 qe;have b9:=zh qe;clear qe
          go_wp2_with fail
          have h6:=set6 b9.out rfl (.string x) (.slice (B ⟨w0,0,Q⟩) T T) (.int C (T:P)) (.int C oe) (.int C 0) (.slice la ol.length lc);refine ad ⟨h6.2.mono (λb _ h=>by omega),?_⟩;refine zV ?_
          go_wp2_with fail
          go_meet
          have a4:(w0:E)≠(X1:E):=by have:=a2.out;have:=zC i1;omega
          have a3:∀ J,la=B J->J.block≠(X1:E)/\J.block≠(w0:E)/\(W3:E)<=J.block:=λJ e=>by
           have h1:=HL.out.2.2 J e;obtain⟨cs,h2⟩:=HL.out.2.1 J e;have h3:=zC h2;have h4:=a2.out;have h5:=zC i1;refine⟨?_,?_,?_⟩<;>omega
          exact⟨(X1:E),(w0:E),la,lc,rfl,h6.1,((((M No X1).step V zi).step R zi).mono (T:=Is ((X1:E))) zn).step h6.2 zi |>.heap HP.out a4,a4,(HL.out.1.no (M No X3) (λ_=>id)).fr h6.2 (λJ e _=>(a3 J e).1),(HL.out.2.1.fr (M No X3) (λ_ _=>id)).fr h6.2 (λJ e=>(a3 J e).1),by omega,by omega,λJ e=>(a3 J e).2,b8.step h6.2 (λb hb h=>by omega)⟩
        .go_wp2_with fail
         refine(zAp oa oc ol _ (j8.no a6 (λ_=>id)) j7).mono ?_;rintro en X1 ⟨⟨la,lc,rfl,hL,Y,a8⟩,b7⟩;have HL:=zg3 hL Y a8;clear hL Y a8
         go_wp2_with fail
         have r8:=b7.size;refine zm b7 ?_;have b0:Fr No W3 X1:=a6.step b7 zi;refine zAA rfl rfl ?_ ?_
         .go_wp2_with (at_make;refine al _ rfl _ _ 30 rfl (W3:E) 9 s0 (.string ah) 1 ak e4 e7 e8 C C (T:P) (T:P) T rfl rfl rfl rfl (by rw[g0];omega) (by unfold a0;omega) (by omega) ?_;intro X hP a7)
          have V:Fr No X1 X:=ai a7;have a2:K ((X1:E)<(X:E)):=zY hP rfl;have HP:=zh (zBG hP);clear hP a7;have g2:=V.size;refine zm V ?_;have b1:Fr No W3 X:=b0.step V zi
          repeat (apply zL rfl rfl rfl;intro e2 hK;go_big_quiet_op;go_big_quiet_on)
          refine zH rfl ?_
          go_wp2_with fail
          have R:Fr No X (X.alloc (G #[.string ⟨#[]⟩,.slice Q 0 0,.int C 0,.int C 0,.int C 0,.slice Q 0 0] 183)):=(M _ _).alloc _;have h9:=zF X (G #[.string ⟨#[]⟩,.slice Q 0 0,.int C 0,.int C 0,.int C 0,.slice Q 0 0] 183);generalize X.alloc (G #[.string ⟨#[]⟩,.slice Q 0 0,.int C 0,.int C 0,.int C 0,.slice Q 0 0] 183)=X3 at *;have g3:=R.size;refine zm R ?_;have b8:Fr No W3 X3:=b1.step R zi;refine zH rfl ?_;have qe:=(M No X3).heap h9 id;obtain⟨z0,z1,z2,z3,z4,z5⟩:=cl6 qe;obtain⟨y0,y1,y2,y3,y4,y5⟩:=fl6 qe;have b9:=zh qe;clear qe
          go_wp2_with fail
          have h6:=set6 b9.out rfl (.string x) (.slice (B ⟨X1,0,Q⟩) T T) (.int C (T:P)) (.int C oe) (.int C 0) (.slice la ol.length lc);refine ad ⟨h6.2.mono (λb _ h=>by omega),?_⟩;refine zV ?_
          go_wp2_with fail
          go_meet
          have a4:(X1:E)≠(X:E):=by have:=a2.out;have:=zC h9;omega
          have a3:∀ J,la=B J->J.block≠(X:E)/\J.block≠(X1:E)/\(W3:E)<=J.block:=λJ e=>by
           have h1:=HL.out.2.2 J e;obtain⟨cs,h2⟩:=HL.out.2.1 J e;have h3:=zC h2;have h4:=a2.out;have h5:=zC h9;refine⟨?_,?_,?_⟩<;>omega
          exact⟨(X:E),(X1:E),la,lc,rfl,h6.1,(((M No X).step R zi).mono (T:=Is ((X:E))) zn).step h6.2 zi |>.heap HP.out a4,a4,(HL.out.1.no (((M No X1).step V zi).step R zi) (λ_=>id)).fr h6.2 (λJ e _=>(a3 J e).1),(HL.out.2.1.fr (((M No X1).step V zi).step R zi) (λ_ _=>id)).fr h6.2 (λJ e=>(a3 J e).1),by omega,by omega,λJ e=>(a3 J e).2,b8.step h6.2 (λb hb h=>by omega)⟩
         .go_wp2_with fail
          have V:Fr No X1 (X1.alloc (G #[.string ⟨#[]⟩,.slice Q 0 0,.int C 0,.int C 0,.int C 0,.slice Q 0 0] 183)):=(M _ _).alloc _;have i1:=zF X1 (G #[.string ⟨#[]⟩,.slice Q 0 0,.int C 0,.int C 0,.int C 0,.slice Q 0 0] 183);generalize X1.alloc (G #[.string ⟨#[]⟩,.slice Q 0 0,.int C 0,.int C 0,.int C 0,.slice Q 0 0] 183)=X at *;have g2:=V.size;refine zm V ?_;have b1:Fr No W3 X:=b0.step V zi;refine zH rfl ?_
          go_wp2_with (at_make;refine al _ rfl _ _ 30 rfl (W3:E) 9 s0 (.string ah) 1 ak e4 e7 e8 C C (T:P) (T:P) T rfl rfl rfl rfl (by rw[g0];omega) (by unfold a0;omega) (by omega) ?_;intro X3 hP a7)
          have R:Fr No X X3:=ai a7;have a2:K ((X:E)<(X3:E)):=zY hP rfl;have HP:=zh (zBG hP);clear hP a7;have g3:=R.size;refine zm R ?_;have b8:Fr No W3 X3:=b1.step R zi
          repeat (apply zL rfl rfl rfl;intro e2 hK;go_big_quiet_op;go_big_quiet_on)
          refine zH rfl ?_;have qe:=((M No X).step R zi).heap i1 id;obtain⟨z0,z1,z2,z3,z4,z5⟩:=cl6 qe;obtain⟨y0,y1,y2,y3,y4,y5⟩:=fl6 qe;have b9:=zh qe;clear qe
          go_wp2_with fail
          have h6:=set6 b9.out rfl (.string x) (.slice (B ⟨X,0,Q⟩) T T) (.int C (T:P)) (.int C oe) (.int C 0) (.slice la ol.length lc);refine ad ⟨h6.2.mono (λb _ h=>by omega),?_⟩;refine zV ?_
          go_wp2_with fail
          go_meet
          have a4:(X:E)≠(X1:E):=by have:=a2.out;have:=zC i1;omega
          have a3:∀ J,la=B J->J.block≠(X1:E)/\J.block≠(X:E)/\(W3:E)<=J.block:=λJ e=>by
           have h1:=HL.out.2.2 J e;obtain⟨cs,h2⟩:=HL.out.2.1 J e;have h3:=zC h2;have h4:=a2.out;have h5:=zC i1;refine⟨?_,?_,?_⟩<;>omega
          exact⟨(X1:E),(X:E),la,lc,rfl,h6.1,((M No X3).mono (T:=Is ((X1:E))) zn).step h6.2 zi |>.heap HP.out a4,a4,(HL.out.1.no (((M No X1).step V zi).step R zi) (λ_=>id)).fr h6.2 (λJ e _=>(a3 J e).1),(HL.out.2.1.fr (((M No X1).step V zi).step R zi) (λ_ _=>id)).fr h6.2 (λJ e=>(a3 J e).1),by omega,by omega,λJ e=>(a3 J e).2,b8.step h6.2 (λb hb h=>by omega)⟩
        .go_wp2_with fail
         have b7:Fr No w0 (w0.alloc (G #[.string ⟨#[]⟩,.slice Q 0 0,.int C 0,.int C 0,.int C 0,.slice Q 0 0] 183)):=(M _ _).alloc _;have j9:=zF w0 (G #[.string ⟨#[]⟩,.slice Q 0 0,.int C 0,.int C 0,.int C 0,.slice Q 0 0] 183);generalize w0.alloc (G #[.string ⟨#[]⟩,.slice Q 0 0,.int C 0,.int C 0,.int C 0,.slice Q 0 0] 183)=X1 at *;have r8:=b7.size;refine zm b7 ?_;have b0:Fr No W3 X1:=a6.step b7 zi;refine zAA rfl rfl ?_ ?_
         .go_wp2_with (at_make;refine al _ rfl _ _ 30 rfl (W3:E) 9 s0 (.string ah) 1 ak e4 e7 e8 C C (T:P) (T:P) T rfl rfl rfl rfl (by rw[g0];omega) (by unfold a0;omega) (by omega) ?_;intro X hP a7)
          have V:Fr No X1 X:=ai a7;have a2:K ((X1:E)<(X:E)):=zY hP rfl;have HP:=zh (zBG hP);clear hP a7;have g2:=V.size;refine zm V ?_;have b1:Fr No W3 X:=b0.step V zi;refine zH rfl ?_
          go_wp2_with fail
          refine(zAp oa oc ol _ (j8.no b1 (λ_=>id)) j7).mono ?_;rintro en X3 ⟨⟨la,lc,rfl,hL,Y,a8⟩,R⟩;have HL:=zg3 hL Y a8;clear hL Y a8
          go_wp2_with fail
          have g3:=R.size;refine zm R ?_;have b8:Fr No W3 X3:=b1.step R zi
          repeat (apply zL rfl rfl rfl;intro e2 hK;go_big_quiet_op;go_big_quiet_on)
          refine zH rfl ?_;have qe:=(((M No X1).step V zi).step R zi).heap j9 id;obtain⟨z0,z1,z2,z3,z4,z5⟩:=cl6 qe;obtain⟨y0,y1,y2,y3,y4,y5⟩:=fl6 qe;have b9:=zh qe;clear qe
          go_wp2_with fail
          have h6:=set6 b9.out rfl (.string x) (.slice (B ⟨X1,0,Q⟩) T T) (.int C (T:P)) (.int C oe) (.int C 0) (.slice la ol.length lc);refine ad ⟨h6.2.mono (λb _ h=>by omega),?_⟩;refine zV ?_
          go_wp2_with fail
          go_meet
          have a4:(X1:E)≠(w0:E):=by have:=a2.out;have:=zC j9;omega
          have a3:∀ J,la=B J->J.block≠(w0:E)/\J.block≠(X1:E)/\(W3:E)<=J.block:=λJ e=>by
           have h1:=HL.out.2.2 J e;obtain⟨cs,h2⟩:=HL.out.2.1 J e;have h3:=zC h2;have h4:=a2.out;have h5:=zC j9;refine⟨?_,?_,?_⟩<;>omega
          exact⟨(w0:E),(X1:E),la,lc,rfl,h6.1,(((M No X).step R zi).mono (T:=Is ((w0:E))) zn).step h6.2 zi |>.heap HP.out a4,a4,(HL.out.1.no (M No X3) (λ_=>id)).fr h6.2 (λJ e _=>(a3 J e).1),(HL.out.2.1.fr (M No X3) (λ_ _=>id)).fr h6.2 (λJ e=>(a3 J e).1),by omega,by omega,λJ e=>(a3 J e).2,b8.step h6.2 (λb hb h=>by omega)⟩
         .go_wp2_with fail
          refine(zAp oa oc ol _ (j8.no b0 (λ_=>id)) j7).mono ?_;rintro en X ⟨⟨la,lc,rfl,hL,Y,a8⟩,V⟩;have HL:=zg3 hL Y a8;clear hL Y a8
          go_wp2_with fail
          have g2:=V.size;refine zm V ?_;have b1:Fr No W3 X:=b0.step V zi;refine zH rfl ?_
          go_wp2_with (at_make;refine al _ rfl _ _ 30 rfl (W3:E) 9 s0 (.string ah) 1 ak e4 e7 e8 C C (T:P) (T:P) T rfl rfl rfl rfl (by rw[g0];omega) (by unfold a0;omega) (by omega) ?_;intro X3 hP a7)
          have R:Fr No X X3:=ai a7;have a2:K ((X:E)<(X3:E)):=zY hP rfl;have HP:=zh (zBG hP);clear hP a7;have g3:=R.size;refine zm R ?_;have b8:Fr No W3 X3:=b1.step R zi
          repeat (apply zL rfl rfl rfl;intro e2 hK;go_big_quiet_op;go_big_quiet_on)
          refine zH rfl ?_;have qe:=(((M No X1).step V zi).step R zi).heap j9 id;obtain⟨z0,z1,z2,z3,z4,z5⟩:=cl6 qe;obtain⟨y0,y1,y2,y3,y4,y5⟩:=fl6 qe;have b9:=zh qe;clear qe
          go_wp2_with fail
          have h6:=set6 b9.out rfl (.string x) (.slice (B ⟨X,0,Q⟩) T T) (.int C (T:P)) (.int C oe) (.int C 0) (.slice la ol.length lc);refine ad ⟨h6.2.mono (λb _ h=>by omega),?_⟩;refine zV ?_
          go_wp2_with fail
          go_meet
          have a4:(X:E)≠(w0:E):=by have:=a2.out;have:=zC j9;omega
          have a3:∀ J,la=B J->J.block≠(w0:E)/\J.block≠(X:E)/\(W3:E)<=J.block:=λJ e=>by
           have h1:=HL.out.2.2 J e;obtain⟨cs,h2⟩:=HL.out.2.1 J e;have h3:=zC h2;have h4:=a2.out;have h5:=zC j9;refine⟨?_,?_,?_⟩<;>omega
          exact⟨(w0:E),(X:E),la,lc,rfl,h6.1,((M No X3).mono (T:=Is ((w0:E))) zn).step h6.2 zi |>.heap HP.out a4,a4,(HL.out.1.no ((M No X).step R zi) (λ_=>id)).fr h6.2 (λJ e _=>(a3 J e).1),(HL.out.2.1.fr ((M No X).step R zi) (λ_ _=>id)).fr h6.2 (λJ e=>(a3 J e).1),by omega,by omega,λJ e=>(a3 J e).2,b8.step h6.2 (λb hb h=>by omega)⟩
       case rest=>
        obtain⟨ab,pa,la,lc,rfl,n2,v6,a4,g4,Y,N2,N3,p4,I4⟩:=hcut;have n3:Fr No wr wc:=N0.out.step I4 zi;have N4:=n3.size;have U4:=hZ.no n3 (λ_=>id);have r9:wc.heap[gm]?=wr.heap[gm]?:=n3.block gm v3.lt id;have I5:=I3.out wc r9;have HK:K (∀ W:ag,Fr (λb=>b=ab\/b=pa) wc W->(W.ownsRow (w4:E) 183 6 (.slice av O.length cv) O.length (arflat O)/\AFresh W (w4:E) O)/\Fr (From (w4:E)) w4 W/\Strs W la lc ol/\BlkT W la 9/\PMap W (w:E) (mapP (zv I L)) n/\Ints W za zc zs):=λW hW=>by
         have n4:Fr (λb=>(wr:E)<=b) wr W:=(n3.mono zn).step hW (λb hb h=>by omega);refine⟨⟨zG a5 n4 (λb hb h=>by have h1:=zY a5 hb;omega),b4.fr n4 (λb _ h1 h2=>by omega)⟩,hf.step n4 (λb hb h=>by have:=hf.size;omega),g4.fr hW (λJ e _ h=>?_),Y.fr hW (λJ e h=>?_),p2.fr n4 (by have:=p2.lt;omega),hZ.fr n4 (λJ e v1 h=>by have:=(hZ.cell J e v1).2.1;omega)⟩
         .obtain⟨cs,h2⟩:=Y J e;have:=p4 J e;rcases h with h|h
          .rw[h]at h2;rw[n2]at h2;cases h2
          .exact this.1 h
         .obtain⟨cs,h2⟩:=Y J e;have:=p4 J e;rcases h with h|h
          .rw[h]at h2;rw[n2]at h2;cases h2
          .exact this.1 h
        have v7:K ((∀ J,la=B J->(w4:E)<=J.block)/\(w4:E)<=pa/\(w4:E)<=ab/\pa<(wc:E)/\ab<(wc:E)):=⟨λJ e=>by have:=p4 J e;have:=hf.size;omega,by have:=hf.size;omega,by have:=hf.size;omega,zC v6,zC n2⟩
        clear hZ F9 v3 p2 q3 j8 N1 h0 g4 Y N2 N3 p4 I4 n3 N4 r9 a5 b4 hf b6 hc
        go_wp2_with (at_lookup;refine zAs rfl _ _ 281 rfl (.map (B gm)) (.string x) (.slice za zs.length zc) rfl rfl I5 ?_)
        clear I5
        go_loopw [103] (λi v8=>∃ e3:E,e3<=zs.length/\i=.int C (e3:P)/\v8.heap[ab]?=B (G #[.string x,.slice (B ⟨pa,0,Q⟩) T T,.int C (T:P),.int C oe,.int C ((cntJ T (zs.take e3):E):P),.slice la ol.length lc] 183)/\v8.heap[pa]?=B (G ((psJ (zv I L) x T (zs.take e3)).map ao).toArray 9)/\K (Fr (λb=>b=ab\/b=pa) wc v8)) (λi _=>zs.length-(aa i).toNat)
        case atStart=>exact⟨0,by omega,rfl,by simpa [cntJ]using n2,by rw[List.take_zero,zNe];exact v6,M _ _⟩
        case round=>
         obtain⟨e3,hq,rfl,qb,qp,n5⟩:=hrel;clear n2 v6;by_cases I6:e3<zs.length
         .have N5:(e3:P)<zs.length:=by omega
          obtain⟨b',R2,s,e9,v9,U5⟩:=(HK.out _ n5.out).2.2.2.2.2.at I6;have p5:K (zs.take (e3+1)=zs.take e3++[s]):=by unfold K;rw[aw,v9];rfl
          have p0:=au v9;obtain⟨U6,o9⟩:=m7.out s p0;obtain⟨⟨mp,Z,mr,ms,mt,me,ma,ml,mc⟩,n6⟩:=Option.isSome_iff_exists.1 ((j6.out.mem s).1 p0);have I7:=zh n6;have k0:=(l7.out x s _ n6).2.2;obtain rfl:=e9;clear v9 p0 n6;obtain⟨-,x1,x2⟩:=cl3 qb;by_cases w1:s<=T
          .obtain⟨kk,rfl⟩:∃ kk:E,s=(kk:P)+1:=⟨(s-1).toNat,by omega⟩
           have I8:kk<T:=by omega
           have R3:(kk:P)<T:=by omega
           have N6:K (pathAt (zv I L) x kk=mp):=by unfold K pathAt;rw[I7.out]
           have n7:∀ W:ag,PMap W (w:E) (mapP (zv I L)) n->(bb 276 (.map (B (w:E))) (d #[.string x,.int C ((kk:P)+1)]) a1).run ae W=.ok (d #[.string mp,.string Z,.int C mr,.int C ms,.int C mt,.int C me,.slice ma ml.length mc]) W:=λW hW=>by
            rw[hW.look (zHY W) af h8 k0];unfold mapP;rw[I7.out];rfl
           have w7:=zh n7;have N7:=hfdM;clear n7
           go_upto_region 25 with(fail)
           refine zQ (Is pa) [(0,a1),(1,a1),(2,a1),(3,a1),(4,a1),(5,a1),(6,a1),(7,a1),(8,a1),(9,a1),(10,a1),(11,ac)] (by kernel_rfl) (by kernel_rfl) (λw0 a6=>?_);have w8:=a6.heap qb id;have p6:=a6.heap qp id;have d1:∀ g:Gr (Is pa) w0,g.W.cell? ⟨ab,1,Q⟩=B (.slice (B ⟨pa,0,Q⟩) T T):=λg=>g.fr.cell (zB w8 1) (λh=>a4 h.symm)
           have d2:∀ g:Gr (Is pa) w0,(bb 276 (.map (B (w:E))) (d #[.string x,.int C ((kk:P)+1)]) a1).run ae g.W=.ok (d #[.string mp,.string Z,.int C mr,.int C ms,.int C mt,.int C me,.slice ma ml.length mc]) g.W:=λg=>w7.out _ (((HK.out _ n5.out).2.2.2.2.1.fr a6 id).fr g.fr (by have:=v7.out.2.1;have:=t8.lt;omega))
           apply zT rfl rfl rfl;intro e2 hK;go_big_quiet_op;go_big_quiet_on;apply zT rfl rfl rfl;intro e2 hK;go_big_quiet_op;go_big_quiet_on;apply zT rfl rfl rfl;intro e2 hK;go_big_quiet_op;go_big_quiet_on;apply zT rfl rfl rfl;intro e2 hK;go_big_quiet_op;go_big_quiet_on;apply zT rfl rfl rfl;intro e2 hK;go_big_quiet_op;go_big_quiet_on;apply zT rfl rfl rfl;intro e2 hK;go_big_quiet_op;go_big_quiet_on;apply zT rfl rfl rfl;intro e2 hK;go_big_quiet_op;go_big_quiet_on;apply zT rfl rfl rfl;intro e2 hK;go_big_quiet_op;go_big_quiet_on;apply zT rfl rfl rfl;intro e2 hK;refine zBv rfl _ _ 276 rfl (.map (B (w:E))) (d #[.string x,.int C ((kk:P)+1)]) (d #[.string mp,.string Z,.int C mr,.int C ms,.int C mt,.int C me,.slice ma ml.length mc]) rfl rfl (λW hW=>by obtain⟨g,rfl⟩:=hW;exact d2 g) ?_
           go_frame
           go_big_quiet_on;apply zT rfl rfl rfl;intro e2 hK;go_big_quiet_op;go_big_quiet_on;apply zT rfl rfl rfl;intro e2 hK;go_big_quiet_op;go_big_quiet_on;clear d1 d2 x1 x2;have I9:((psJ (zv I L) x T (zs.take e3)).map ao).toArray.size=T:=by simp[zFL]
           have x3:w0.frozen? ⟨pa,kk,Q⟩=false:=zD p6 kk;obtain⟨ov,x4⟩:∃ ov,w0.cell? ⟨pa,kk,Q⟩=B ov:=by
            rw[zB p6];exact⟨_,Array.getElem?_eq_getElem (by rw[I9];exact I8)⟩
           apply zt;exact rfl
           go_wp2_with fail
           refine ad ⟨aq (S:=Is pa) (p:=⟨pa,kk,Q⟩) (M _ _) (λ_=>rfl) _,?_⟩;refine zb ?_;have w9:Fr (Is pa) w0 (w0.setCell ⟨pa,kk,Q⟩ (.string mp)):=aq (S:=Is pa) (p:=⟨pa,kk,Q⟩) (M _ _) (λ_=>rfl) _;have J0:=zE p6 kk (.string mp);have n8:=w9.heap w8 (λh=>a4 h.symm);have N8:K (Fr (λb=>b=ab\/b=pa) wc (w0.setCell ⟨pa,kk,Q⟩ (.string mp))):=(n5.out.step a6 zn).step w9 (λb _ h=>.inr h);have N9:K (cntJ T (zs.take e3)<=1000):=by have h1:=zOD T (zs.take e3);have h2:=m6;unfold K;rw[List.length_take]at h1;omega
           clear x3 x4 p6 w8 w9 a6 qp qb I9 N7;generalize w0.setCell ⟨pa,kk,Q⟩ (.string mp)=W5 at *;obtain⟨cn,g5⟩:∃ cn:E,cn=cntJ T (zs.take e3):=⟨_,rfl⟩
           have R4:cn<=1000:=by rw[g5];exact N9.out
           rw[<-g5]at n8;have O0:=zh g5;clear g5;have x3:W5.cell? ⟨ab,4,Q⟩=B (.int C (cn:P)):=zB n8 4;have x4:W5.frozen? ⟨ab,4,Q⟩=false:=zD n8 4;have q6:=zE n8 4 (.int C ((cn:P)+1));have x0:Fr (Is ab) W5 (W5.setCell ⟨ab,4,Q⟩ (.int C ((cn:P)+1))):=aq (S:=Is ab) (p:=⟨ab,4,Q⟩) (M _ _) (λ_=>rfl) _;have J1:=x0.heap J0 a4;have g7:K (Fr (λb=>b=ab\/b=pa) wc (W5.setCell ⟨ab,4,Q⟩ (.int C ((cn:P)+1)))):=N8.out.step x0 (λb _ h=>.inl h);simp only[List.setIfInBounds_toArray,List.set_cons_zero,List.set_cons_succ]at q6;have J2:(W5.setCell ⟨ab,4,Q⟩ (.int C ((cn:P)+1))).heap[ab]?=B (G #[.string x,.slice (B ⟨pa,0,Q⟩) T T,.int C (T:P),.int C oe,.int C ((cntJ T (zs.take (e3+1)):E):P),.slice la ol.length lc] 183):=by
            rw[p5.out,zGf,if_pos w1,<-O0.out];exact q6
           have d4:(W5.setCell ⟨ab,4,Q⟩ (.int C ((cn:P)+1))).heap[pa]?=B (G ((psJ (zv I L) x T (zs.take (e3+1))).map ao).toArray 9):=by
            rw[p5.out,zNd _ _ _ _ _ I8,N6.out,List.map_set,J1];simp
           have H6:=zg2 J2 d4;clear q6 J2 J0 J1 d4 n8 x0
           go_wp2_with fail
           go_roundw
           case rel=>exact⟨e3+1,by omega,by go_num,H6.out.1,H6.out.2,g7⟩
           case measure=>simp[aa];omega
          .go_wp2_with fail
           go_roundw
           case rel=>exact⟨e3+1,by omega,by go_num,by rw[p5.out,zGf,if_neg w1];exact qb,by rw[p5.out,zLm _ _ _ _ _ w1];exact qp,n5⟩
           case measure=>simp[aa];omega
         .obtain rfl:e3=zs.length:=by omega
          rw[ax]at qb qp;obtain⟨cn,g5⟩:∃ cn:E,cn=cntJ T zs:=⟨_,rfl⟩
          rw[<-g5]at qb;have x5:Arr.mk x (psJ (zv I L) x T zs) (T:P) oe (cn:P) ol=buildA (zv I L) x:=by
           unfold buildA;rw[M7.out,g5,zLn j6.out,zKr j6.out (λs hs=>(m7.out s hs).1)];rfl
          have U7:=zh x5;obtain⟨⟨a5,b4⟩,hf,g4,Y,_,_⟩:=HK.out _ n5.out;have k1:=zFC qp (by rw[zFL];unfold a0;omega);have n9:BlkT wr (B ⟨pa,0,Q⟩) 9:=λJ e=>by cases e;exact⟨_,qp⟩
          rw[zFL]at k1;obtain⟨y0,y1,y2,y3,y4,y5⟩:=cl6 qb;obtain⟨A,hA⟩:∃ A:ArrM,A=⟨Arr.mk x (psJ (zv I L) x T zs) (T:P) oe (cn:P) ol,B ⟨pa,0,Q⟩,T,la,lc⟩:=⟨_,rfl⟩
          have k2:A.vals=#[.string x,.slice (B ⟨pa,0,Q⟩) T T,.int C (T:P),.int C oe,.int C (cn:P),.slice la ol.length lc]:=by rw[hA];simp[ArrM.vals,zFL]
          have o0:A.toArr=buildA (zv I L) x:=by rw[hA];exact x5
          have s1:∀ u∈(#[.string x,.slice (B ⟨pa,0,Q⟩) T T,.int C (T:P),.int C oe,.int C (cn:P),.slice la ol.length lc]:Array Value).toList,u.oneCell'=true:=by rw[<-k2];exact zJL A
          have HS:=zg5 b4 g4 Y k1 n9;have HA:=zg3 k2 o0 hA;have J3:=zh s1;have J4:=zh a5;have O1:=zh hf;have R5:=hf.size;clear b4 g4 Y k1 n9 k2 o0 hA s1 hf qb qp g5 x5
          go_wp2_with (at_builtin;refine wpList_append_own _ rfl _ _ 177 rfl (w4:E) 183 i0 (d #[.string ah,.slice Q 0 0,.int C 0,.int C 0,.int C 0,.slice Q 0 0]) 6 88 Tryz.underlying177 L2 L3 L4 L5 rfl (by decide) _ _ _ rfl (a5.alloc _) ⟨wr,0,Q⟩ 1 1 (#[.string x,.slice (B ⟨pa,0,Q⟩) T T,.int C (T:P),.int C oe,.int C (cn:P),.slice la ol.length lc]:Array Value).toList rfl rfl (zg _ #[.string x,.slice (B ⟨pa,0,Q⟩) T T,.int C (T:P),.int C oe,.int C (cn:P),.slice la ol.length lc] _ rfl) J3.out (by unfold a0;omega) (by omega) (by first|omega|(simp;done)|(simp;omega)) ?_;intro v' w6 e1 i4 _;obtain⟨O2,O3,rfl⟩:=zI e1)
          have i2:Fr No wr (wr.alloc (G #[.string x,.slice (B ⟨pa,0,Q⟩) T T,.int C (T:P),.int C oe,.int C (cn:P),.slice la ol.length lc] 183)):=(M _ _).alloc _;have o1:=J4.out.alloc (G #[.string x,.slice (B ⟨pa,0,Q⟩) T T,.int C (T:P),.int C oe,.int C (cn:P),.slice la ol.length lc] 183);have x6:Fr (λb=>(Value.slice av O.length cv).ownBlock=B b) (wr.alloc (G #[.string x,.slice (B ⟨pa,0,Q⟩) T T,.int C (T:P),.int C oe,.int C (cn:P),.slice la ol.length lc] 183)) w6:=an i4;obtain⟨k2,o0,hA⟩:=HA.out;obtain⟨b4,g4,Y,k1,n9⟩:=HS.out;have x7:Strs wr A.pa A.pc A.ps/\Strs wr A.la A.lc A.l:=by rw[hA];exact⟨k1,g4⟩
          have x8:BlkT wr A.pa 9/\BlkT wr A.la 9:=by rw[hA];exact⟨n9,Y⟩
          have b0:(∀ J,A.pa=B J->(w4:E)<=J.block)/\∀ J,A.la=B J->(w4:E)<=J.block:=by
           rw[hA];exact⟨λJ e=>by cases e;exact v7.out.2.1,v7.out.1⟩
          have s2:AFresh w6 (w4:E) (O++[A]):=AFresh.own (AFresh.snoc (b4.fr i2 (λ_ _ _=>id)) ⟨x7.1.no i2 (λ_=>id),x7.2.no i2 (λ_=>id)⟩ ⟨x8.1.fr i2 (λ_ _=>id),x8.2.fr i2 (λ_ _=>id)⟩ b0) o1 x6;have J5:(O++[A]).map az=(a9.take (j+1)).map (buildA (zv I L)):=by
           rw[M5.out,bc,bc,HO.out];simp[o0]
          have k3:Fr (From (w4:E)) w4 w6:=(O1.out.step i2 zn).step x6 (λb _ h=>zP o1 h);rw[<-k2,<-zHW]at e1;have HF:=zg4 e1 s2 J5 k3;clear e1 s2 J5 k3 i4 x6 o1 i2 y0 y1 y2 y3 y4 y5 a5 k2 o0 hA b4 g4 Y k1 n9 x7 x8 b0
          go_roundw
          case rel=>exact⟨j+1,O++[A],O2,O3,by omega,by rw[ar,M4.out];rfl,by rw[ar];rfl,by go_num,by rw[ar];exact HF.out.1,HF.out.2.1,zh HF.out.2.2.1,HF.out.2.2.2⟩
          case measure=>simp[aa];omega
      .obtain rfl:j=a9.length:=by omega
       obtain⟨a',c',hv,hR,i5⟩:=Arrs.of_own a5 (λm hm=>(b4 m hm).1);cases hv;have ho:=HO.out;rw[ax]at ho;have o2:=zAi a5 j5.out;have H:=zg5 hR i5 b4 (And.intro ho o2) ((p1.out.trans hf (λb hb h=>h) (λb hb h=>by unfold From at h ⊢;have:=j5.out;omega)).mono (T:=No) (λb hb h=>by omega));clear a5 b4 HO hf hR i5 ho o2
       go_wp2_with fail
       go_ret;exact⟨⟨_,_,O,a9,rfl,H.out.1,λJ e=>by have:=H.out.2.1 J e;have:=j5.out;omega,λm hm=>⟨(H.out.2.2.1 m hm).1,(H.out.2.2.1 m hm).2.1,λJ e=>by have:=(H.out.2.2.1 m hm).2.2.1 J e;have:=j5.out;omega,λJ e=>by have:=(H.out.2.2.1 m hm).2.2.2 J e;have:=j5.out;omega⟩,r6.out,H.out.2.2.2.1.1,by have:=m5.out;omega,H.out.2.2.2.1.2⟩,H.out.2.2.2.2⟩
    .intro x s c kl y ps w3 o3 o4 k5 hv d3 s3 i8 x9 s4 O4;obtain⟨x',s',e,h8,k0⟩:=zIB o4;obtain⟨rfl,rfl⟩:x=x'/\s=s':=by simpa using e
     obtain rfl:plL (x,s)=kl:=Option.some.inj ((keyP h8 k0).symm.trans o4);have HD:K (has D (plL (x,s))=ac):=zKc d3;have k6:=zh k5;have J6:K ((W1:E)≠gm):=by have:=j3.out;unfold K;omega
     have O5:K ((W1:E)=gm+1):=j3.out;have U8:=zh s4;have R6:(W1:E)+1<=(w3:E):=by omega
     clear s4;have J7:=hG.grown x9 (λe=>by have:=Option.some.inj e;exact J6.out this.symm) (λj e=>by have:=Option.some.inj e;omega);have d6:K (Fr (From (w:E)) w w3):=Hf.out.step (ap x9) (λb hb e=>by unfold Is at e;unfold From;have:=s8.out;have:=j3.out;omega);clear k5 d3 hv e o4 x9 Hf hG;have J8:=s3.alloc (G #[.string x,.int C s] 278);have p7:Fr No w3 (w3.alloc (G #[.string x,.int C s] 278)):=(M _ _).alloc _;have m4:=J7.grown (p7.grown (row:=Q) (λ_ h=>h.elim)) (by simp) (λj e=>by cases e);have O6:K ((w3.alloc (G #[.string x,.int C s] 278)).heap.size=(w3:E)+1):=by unfold K;simp
     have q4:=zF w3 (G #[.string x,.int C s] 278)
     go_upto_region 14 with(fail)
     generalize w3.alloc (G #[.string x,.int C s] 278)=W4 at *;have M2:=p7.size;have U9:=zC q4;have p1:K (Fr (From (w:E)) w W4):=d6.out.step p7 zn;clear p7 J7 s3 d6 O4;refine zZ (λb=>b=gm\/((W1:E)+1<=b/\b<(w3:E))) (.q 0 (.q 1 (.q 2 (.q 3 (.q 4 (.q 5 (.q 7 (.q 8 (.m2 6 (.m1 9 (.m1 10 (.m1 11 .fin))) 9 (.m1 6 (.m1 10 (.m1 11 .fin)))))))))))) _ (by kernel_rfl) (by kernel_rfl) (λw0 a6=>?_) zj;have i6:=a6.grown (row:=Q) (λ_ h=>h.elim);have O7:=m4.grown i6 (by simp) (λj e=>by cases e);have J9:=J8.kept i6 (by simp) (by simp);have q0:=a6.heap q4 id;have e4:=a6.size;have O8:K (Fr (From (w:E)) w w0):=p1.out.step a6 zn;have c0:∀ g:Gr (λb=>b=gm\/((W1:E)+1<=b/\b<(w3:E))) w0,g.W.cell? ⟨w3,0,Q⟩=B (.string x):=λg=>g.fr.cell (zB q0 0) (λh=>by have:=j3.out;rcases h with h|h<;>dsimp only at h<;>omega)
     have c1:∀ g:Gr (λb=>b=gm\/((W1:E)+1<=b/\b<(w3:E))) w0,g.W.cell? ⟨w3,1,Q⟩=B (.int C s):=λg=>g.fr.cell (zB q0 1) (λh=>by have:=j3.out;rcases h with h|h<;>dsimp only at h<;>omega)
     obtain⟨v,b5,i7,m6,o5⟩:=m4.look (by unfold a0;omega) h8;have g1:=i7.kept i6 (row:=Q) (by cases v.ownBlock<;>simp);have L0:gm<(w0:E):=O7.lt;have o6:w0.heap[gm]?=W4.heap[gm]?:=a6.block gm m4.lt id;have o7:K (∀ b,v.ownBlock=B b->(W1:E)+1<=b/\b<(w3:E)):=λb e=>by
      have h1:=zP i7.1 e;have h2:=zY i7.1 e;have h3:=BlkT.ne i7.1 (a:=B ⟨w3,0,Q⟩) (T:=278) (λJ e=>by cases e;exact⟨_,q4⟩) (by decide) _ rfl;have h4:=O6.out;have h5:b≠(w3:E):=λe'=>h3 (by rw[e,e'])
      unfold From at h1;omega
     have y7:=zh o5;have HA:K (∀ (av:aj Addr) (wb:ag) (vb:Value),w0.grownBy wb v.ownBlock->wb.ownsRow ((W1:E)+1) 3 1 vb ((f (kb x)).length+1) ((f (kb x)).map (Value.int C)++[.int C s])->(vb.ownBlock=v.ownBlock\/vb.ownBlock=B ((w0:E)+1))->
       ∃ w6,(Instr.mapUpdate 281 (.map (B gm)) (.string x) vb).run ae wb=.ok () w6/\GMap w6 ((W1:E)+1) gm (λz=>if z=kb x then f (kb x)++[s]else f z) (N+1)/\w6.ranges ae 278 heldV (w:E) (W1:E) n D (λz=>e6 z&&!z.sameKey (plL (x,s))) o3/\Fr (λb=>b=gm\/((W1:E)+1<=b/\b<(w3:E))) wb w6/\K (Fr (From (w:E)) w w6)/\(W1:E)+1<=(w6:E)):=by
      intro av wb vb hg a5 d3;obtain⟨w6,r1,r2,r3⟩:=y7.out s k0 wb vb (i6.but _ |>.andThen hg (λj h=>.inr h)) (g1.appended a5 k0) (d3.imp id (λh=>⟨_,h,by omega⟩));have V0:=O5.out;have V1:=s8.out;have V2:=hg.size;have p8:=r3.size;refine⟨w6,r1,r2,(J9.kept hg ?_ ?_).kept r3 ?_ ?_,(ap r3).mono (λb _ e=>.inl e),(O8.out.step (an hg) ?_).step (ap r3) ?_,by omega⟩
      .intro e;have:=o7.out _ e.symm;omega
      .intro e;have:=o7.out _ e.symm;omega
      .intro e;have:=Option.some.inj e;omega
      .intro e;have:=Option.some.inj e;omega
      .intro b hb e;have:=o7.out _ e;omega
      .intro b hb e;omega
     have L1:K (Grp D (λz=>e6 z&&!z.sameKey (plL (x,s))) (λz=>if z=kb x then f (kb x)++[s]else f z)):=HG.out.step h8 k0 k6.out HD.out;clear o5 k6 HG
     repeat (apply zL rfl rfl rfl;intro e2 hK;go_big_quiet_op;go_big_quiet_on)
     clear c0 c1;refine zAA rfl rfl ?_ ?_
     .go_wp2_with (at_lookup;refine zAs rfl _ _ 281 rfl (.map (B gm)) (.string x) v rfl rfl (b5 _ o6) ?_)
      refine zq ?_;refine zH rfl ?_
      go_wp2_with fail
      refine zp ?_;refine zH rfl ?_
      go_wp2_with (at_builtin;refine bg _ rfl _ _ 22 rfl ((W1:E)+1) 3 j0 (.int C 0) 1 8 bd A9 D2 D3 D4 rfl (by decide) v _ _ rfl (g1.1.alloc _) ⟨w0,0,Q⟩ 1 1 [.int C s] rfl rfl (cell_one_new _ _ _) (ints_oneCell _ [s]) (by unfold a0;omega) (by omega) (by simp;omega) ?_;intro vb wb i3 d0 _ d3)
      have y8:=(be w0 (G #[.int C s] 3) v.ownBlock).andThen d0 (λj h=>.inr h);obtain⟨w6,y9,z7,g6,k3,z8,p8⟩:=HA.out Q wb vb y8 i3 (by simpa using d3);refine ad ⟨(an d0).mono (λb _ e=>.inr (o7.out b e)),?_⟩;refine zH rfl ?_
      go_wp2_with (at_mapUpdate;refine zEX rfl _ _ _ 281 rfl (.map (B gm)) (.string x) vb rfl rfl rfl y9 ?_)
      refine zf k3 ?_;refine zV ?_
      go_wp2_with fail
      go_roundw
      case rel=>exact⟨_,o3,N+1,_,g6,by omega,z7,L1,z8,p8⟩
      case measure=>rw[g6.left_eq,l8.left_eq];exact i8
     .go_wp2_with fail
      refine zp ?_;refine zH rfl ?_
      go_wp2_with (at_lookup;refine zAs rfl _ _ 281 rfl (.map (B gm)) (.string x) v rfl rfl (b5 _ ((((M No w0).alloc _).block gm L0 id).trans o6)) ?_)
      refine zq ?_;refine zH rfl ?_
      go_wp2_with (at_builtin;refine bg _ rfl _ _ 22 rfl ((W1:E)+1) 3 j0 (.int C 0) 1 8 bd A9 D2 D3 D4 rfl (by decide) v _ _ rfl (g1.1.alloc _) ⟨w0,0,Q⟩ 1 1 [.int C s] rfl rfl (cell_one_new _ _ _) (ints_oneCell _ [s]) (by unfold a0;omega) (by omega) (by simp;omega) ?_;intro vb wb i3 d0 _ d3)
      have y8:=(be w0 (G #[.int C s] 3) v.ownBlock).andThen d0 (λj h=>.inr h);obtain⟨w6,y9,z7,g6,k3,z8,p8⟩:=HA.out Q wb vb y8 i3 (by simpa using d3);refine ad ⟨(an d0).mono (λb _ e=>.inr (o7.out b e)),?_⟩;refine zH rfl ?_
      go_wp2_with (at_mapUpdate;refine zEX rfl _ _ _ 281 rfl (.map (B gm)) (.string x) vb rfl rfl rfl y9 ?_)
      refine zf k3 ?_;refine zV ?_
      go_wp2_with fail
      go_roundw
      case rel=>exact⟨_,o3,N+1,_,g6,by omega,z7,L1,z8,p8⟩
      case measure=>rw[g6.left_eq,l8.left_eq];exact i8
end Go.Proofs.YtckkocmhlhefpaaGreatDoor
