import Derived.Test.YtjohgekljmhheaaGreatDoorQ10
import Derived.Maps.OwnIn
import Derived.Sort.CutIn
namespace Go.Proofs.YtjohgekljmhheaaGreatDoor
open Go.RowKit Go.Maps Go.Shelf
set_option linter.unusedVariables false
set_option maxRecDepth 100000
set_option maxHeartbeats 8000000
open And renaming intro->cy
open BlkT renaming ne_blk->cz
open Dev renaming vals->ap
open Devs renaming of_own->dq
open Fr renaming refl->ao,setAt->be,putObj->bi,of_grown_some->bo
open Go renaming World->ab,undef->af,Addr->aq,Value->aw,Calls->az,maxLen->ba,Oper->bf,DataW->bq,TypeId->bv,plainElem->bx,Operand->cr,Program->ct,results->cw,callsIn_of_wp_marks->di,callsIn_wide->dj,plainElem_bool->dk,run_takeDeferred->dl,wpIn_wide->dm,zeroValue->dp,wpList_append_own_at->ew
open Go.Fence renaming wide->dr
open Go.Instr renaming lookup->ce
open Go.Lit renaming int->bu
open Go.Maps renaming keyOf_int_mk->bh
open Go.Oper renaming semAt_some->cq
open Go.Proofs renaming enters_of->ca
open Go.Proofs.Tryz renaming prog->ak,underlying3->bg,underlying206->cu,func192->dg,func140->ej,func78->em
open Go.RowKit renaming Hid->ai
open Go.Value renaming slice->au,ownBlock->eo
open Go.World renaming size_alloc->bw,putObj_heap_other->dh,alloc_heap_new->ep,ownsMap_made->er,ownsRow_nil->et,putObj_heap_same->eu
open IntKind renaming i64->M
open Obj renaming cells->a0
open OnlyN renaming mk->bc
open Value renaming pointer->ah,agg->aj
open _root_ renaming Nat->C,List->a1,Int->ae,Option->ar,ByteArray->ax,Bool->ay,Array->bd,False->br
open _root_.Array renaming replicate_succ->cb,replicate_zero->cd
open _root_.Bool renaming false->ag,true->am
open _root_.ByteArray renaming empty->bn
open _root_.List renaming length_append->bj,getElem?_map->bp,length_cons->bs,getElem?_eq_getElem->bz,append_toArray->cf,cons_append->cg,length_nil->ci,nil_append->cj,push_toArray->cl,size_toArray->cm,length->dc,length_set->dd,map_cons->de,any_map->dt,eq_nil_of_length_eq_zero->du,filter_cons_of_neg->dw,filter_cons_of_pos->dx,find?_map->dy,getElem?_eq_none->dz,length_map->ea,map_map->eb,mem_cons_of_mem->ed,mem_map_of_mem->ee,mem_of_find?_eq_some->ef
open _root_.List.IsPrefix renaming subset->da
open _root_.Nat renaming add_sub_cancel_left->cn,reduceAdd->co,reduceSub->cp,le_refl->df,le_trans->eh,lt_of_lt_of_le->ei
open _root_.Option renaming some->E,none->G
variable{w w' v W z A I:ab}{o F N J:C}{ds u pre:a1 Dev}{x d:Dev}{α H:Type}{n O:ae}{P:ct}{g f R:ae->ay}{Q:Exit->Act->ab->Prop}{a y:ar aq}{S V:C->Prop}
theorem zQT (x d:Dev)(b:C)(w:ab)(u:w.heap[b]?=E (a0 d.vals 48)):
  az ak 145 #[aj x.vals,ah (E ⟨b,0,G⟩)] w λe w'=>e=.returned (.bool (x.index==d.index))/\Fr No w w':=by
 obtain⟨v,h,o,-⟩:=zy w (a0 x.vals 48);have z:v ⟨w,0,G⟩=E (.int M x.index):=by rw[h];exact zB (zF _ _) 0
 have A:v ⟨b,0,G⟩=E (.int M d.index):=zB (o.heap u id) 0;have y:=zh o;clear o u;unfold ap at h ⊢;go_enter Tryz.func145,Tryz.ntmps145;go_upto_region 1 with(fail)
 rw[<-h];clear h;go_wp2;go_ret;exact⟨rfl,y⟩
theorem Cop.set {cs:a1 Dev}{v:Dev}(h:Cop w w' o ds cs)(z:Cop1 w w' o x v)(k:C):Cop w w' o (ds.set k x) (cs.set k v):=
 ⟨by rw[dd,dd,h.len],λi d A e u=>by
  rw[List.getElem?_set]at e u;by_cases y:k=i
  .rw[if_pos y]at e u;split at e
   .split at u;·cases e;cases u;exact z
    .cases u
   .cases e
  .rw[if_neg y]at e u;exact h.el i d A e u⟩
def ChgRes (w w':ab)(ds:a1 Dev)(k:C)(x:Dev)(e:Ending):Prop:=
 ∃ a' c' ds',e=.returned (.tuple #[aj #[.slice a' ds'.length c'],.int M 0])/\Devs w' a' c' ds'/\BlkT w' a' 48/\(∀ ad,a'=E ad->(w:C)<=ad.block)/\Cop w w' (w:C) (ds.set k x) ds'
theorem zIL (a:ar aq)(u e0:C)(ds:a1 Dev)(k:C)(dn x:Dev)(l:a1 (ax×ax))(m:ae)(w:ab)(hl:Tr w e0 a u ds)(hn:(ds:C)<=256)(hk:ds[k]?=E dn)(e4:fidx (λd=>d.index==x.index) ds=(k:ae))
  (a7:x.parent=dn.parent/\x.orig=dn.orig/\x.kind=dn.kind) (hs:Sized x) (hA:Atts w x.aa x.ac l) (h1:(l:C)<=1) (a8:x.an=(l:C)) (e5:x.kind=2) (hd:x.drv=()) (X:Sound x l) (Y:ds.any (clP x)=ag)
  (hm:w ⟨0,0,G⟩=E (.int M m)) (h0:0<(w:C)):
  az ak 92 #[aj #[.slice a ds u],aj x.vals] w λe w'=>ChgRes w w' ds k x e/\Fr No w w':=by
 have hT:=hl.wf.ok;obtain⟨W0,O⟩:=ε (((w.alloc (a0 #[.slice a ds u] 39)).alloc (a0 x.vals 48)).alloc (a0 #[.slice G 0 0] 39))
 have fx:Fr No ((w.alloc (a0 #[.slice a ds u] 39)).alloc (a0 x.vals 48)) W0:=by rw[O];exact(ao _ _).alloc _
 have hx:Fr No w W0:=by rw[O];exact(((ao _ _).alloc _).alloc _).alloc _
 have q0:=fx.heap (zP w (a0 #[.slice a ds u] 39) (a0 x.vals 48)) id;have q1:=fx.heap (zS w (a0 #[.slice a ds u] 39) (a0 x.vals 48)) id;have q2:W0.heap[(w:C)+1+1]?=E (a0 #[.slice G 0 0] 39):=by
  have:=zF ((w.alloc (a0 #[.slice a ds u] 39)).alloc (a0 x.vals 48)) (a0 #[.slice G 0 0] 39);rw[bw,bw]at this;rw[O];exact this
 clear fx;have e6:=X.oklen;have K1:=zh (λ(W:ab) (F:Fr No w W)=>zFQ x l m W hs (hA.no F (λ_=>id)) h1 a8 e5 hd X (F.cell hm id) (ei h0 F.size));have K3:=zh (λ(W:ab) (F:Fr No w W)=>zDU a u ds x m W (hl.dv.no F (λ_=>id)) (λx hx=>by have:=hT.sz x hx;omega) (by omega) (F.cell hm id) (ei h0 F.size));have K4:=zh (λ(W:ab) (F:Fr No w W)=>zCP a u ds W (hl.dv.no F (λ_=>id)) (by omega) (λx hx=>by
  obtain⟨l',g1,g2,g3⟩:=(hl.el x hx).att;exact⟨l',g1.no F (λ_=>id),g2,g3⟩))
 have K5:=zh (λ(W:ab) (F:Fr No w W)=>zBg x l W (hA.no F (λ_=>id)) a8 (by omega));have k6:=zBt 145 #[ah (E ⟨(w:C)+1,0,G⟩)] (λ_ _=>rfl) (λd=>d.index==x.index) a u ds W0 (hl.dv.no hx (λ_=>id)) (λy hy W F=>zQT y x _ W (F.heap q1 id));rw[e4]at k6;rw[Y]at K3;have h2:k<(ds:C):=(List.getElem?_eq_some_iff.1 hk).1;have h7:¬ ((k:ae)<0):=by omega
 have h5:(k:ae)<(ds:C):=by omega
 have h8:=hl.dv.lenmax;obtain⟨bb,a9,y,h3,hy,D⟩:=(hl.dv.no hx (λ_=>id)).dev h2;rw[hk]at hy;cases hy;subst h3;have HL:=zh hl;have HA:=zg3 hA h1 a8;have HK:=zh hk;have HX:=zh hx;have t0:W0 ⟨w,0,G⟩=E (.slice (E ⟨bb,a9,G⟩) ds u):=zB q0 0;have e1:(x.parent != dn.parent)=false:=by simp[a7.1]
 have e2:(x.orig.toList==dn.orig.toList)=true:=by simp[a7.2.1]
 have e3:(x.kind != dn.kind)=false:=by simp[a7.2.2]
 obtain⟨d0,d1,d2,d3,d4,d5,d6,d7,d8,d9⟩:=D;clear hl hA h1 a8 hk e4 a7 hs e5 hd X Y hm hT hx e6;unfold ap at O K1 K3 K5 ⊢;go_enter Tryz.func92,Tryz.ntmps92;go_upto_region 1 with(fail)
 rw[<-O];clear O;go_wp2_with fail;apply k6.mono;rintro e w1 ⟨rfl,o⟩;have x1:Fr No w w1:=HX.step o zi;have r0:=o.heap q0 id;have r1:=o.heap q1 id;have r2:=o.heap q2 id;replace d0:=o.cell d0 id;replace d1:=o.cell d1 id;replace d2:=o.cell d2 id;replace d3:=o.cell d3 id;replace d4:=o.cell d4 id;replace d5:=o.cell d5 id;replace d6:=o.cell d6 id;replace d7:=o.cell d7 id;replace d8:=o.cell d8 id;replace d9:=o.cell d9 id;clear t0 q0 q1 q2 k6 o;have t0:w1 ⟨w,0,G⟩=E (.slice (E ⟨bb,a9,G⟩) ds u):=zB r0 0;obtain⟨W2,b4,Z,b7⟩:=zy w1 (a0 dn.vals 48);have x2:=x1.step Z zi;unfold ap at b4;go_upto_region 5 with(fail)
 rw[<-b4];have s0:=Z.heap r0 id;have s1:=Z.heap r1 id;have V:=Z.heap r2 id;clear b4 Z r0 r1 r2 t0 d0 d1 d2 d3 d4 d5 d6 d7 d8 d9;obtain⟨c0,c1,c2,c3,c4,c5,c6,c7,c8,c9⟩:=DevB.of s1;go_wp2_with fail;apply (K1 _ x2).mono;rintro e w3 ⟨rfl,U⟩;have x3:Fr No w w3:=x2.step U zi;have r0:=U.heap s0 id;have r1:=U.heap s1 id;have r2:=U.heap V id;have r7:=U.heap b7 id;clear c0 c1 c2 c3 c4 c5 c6 c7 c8 c9 s0 s1 V b7 U;have t0:w3 ⟨w,0,G⟩=E (.slice (E ⟨bb,a9,G⟩) ds u):=zB r0 0;obtain⟨c0,c1,c2,c3,c4,c5,c6,c7,c8,c9⟩:=DevB.of r1;obtain⟨-,d1,-,d3,-,-,-,d7,-,-⟩:=DevB.of r7;go_wp2_with fail;apply (K3 _ x3).mono;rintro e w4 ⟨rfl,a2⟩;have x4:Fr No w w4:=x3.step a2 zi;have s0:=a2.heap r0 id;have s1:=a2.heap r1 id;have V:=a2.heap r2 id;clear c0 c1 c2 c3 c4 c5 c6 c7 c8 c9 r0 r1 r2 r7 d1 d3 d7 t0 a2;have t0:w4 ⟨w,0,G⟩=E (.slice (E ⟨bb,a9,G⟩) ds u):=zB s0 0;go_wp2_with fail;have h9:=zC V;apply (K4 _ x4).mono;rintro e w5 ⟨⟨v,cs,rfl,I,a3⟩,b0⟩;obtain⟨av,cv,rfl⟩:=zI I;have x5:Fr No w w5:=x4.step b0 zi;have r1:=b0.heap s1 id;have r2:=b0.heap V id;have Y:=a3.len;obtain⟨g,rfl,hg,hD⟩:=DRow.of I (by omega);clear t0 s0 s1 V b0;obtain⟨c0,c1,c2,c3,c4,c5,c6,c7,c8,c9⟩:=DevB.of r1;have i0:(k:ae)<(cs:C):=by omega
 have HC:=zg2 a3 I;have HD:=zg2 hD hg;have e7:=zh Y;clear a3 I hD hg Y;go_wp2_with fail;apply (K5 _ x5).mono;rintro e w6 ⟨⟨a6,cc,rfl,e8,e9,z⟩,a4⟩;have x6:Fr No w w6:=x5.step a4 zi;have V:=a4.heap r2 id;have b1:=HD.1.fr a4 id;obtain⟨b5,k1,k2,k3⟩:=b1.blk;obtain⟨x',a5⟩:∃ x':Dev,x'={ x with aa:=a6,ac:=cc }:=⟨_,rfl⟩
 have J:=b1.set (i:=k) (by have:=e7.out;omega) x' k1;have g0:k*10+x'.vals.size<=b5.size:=by
  have:=b1.nc;have:=e7.out;rw[k2,show x'.vals.size=10 from rfl];omega
 obtain⟨W7,b2⟩:=ε (w6.setRow g (splice b5.toList (k*10) x'.vals.toList).toArray)
 have A:Fr (Is g) w6 W7:=by rw[b2];exact Fr.setRow (S:=Is g) w6 g _ rfl
 rw[<-b2]at J;have i3:=HD.2;have h4:=x4.size;have h6:=x6.size;have i4:=zC V;have b6:(w:C)+1+1≠g:=λe=>by
  rw[e,k1]at V;cases V
 have i5:=zC k1;have u2:=A.heap V (λe=>b6 e);have f2:=zD u2 0;have v2:W7 ⟨(w:C)+1+1,0,G⟩=E (.slice G 0 0):=zB u2 0;have g4:Fr (λb=>(au (E (⟨g,0,G⟩:aq)) cs cv).ownBlock=E b) w5 W7:=(a4.mono zn).step A (λb _ h=>by unfold Is at h;subst h;rfl);have b8:=HC.1.own HC.2 g4;have g5:Fr No w W7:=x6.step A (λb hb h=>by omega);have i6:=(zAF HC.2 (b:=g) rfl).2;have g6:=e8.fr A (λN e _ h=>by have:=z N e;omega);have g7:BlkT W7 a6 78:=e9.fr A (λN e h=>by have:=z N e;omega);obtain⟨W8,b9⟩:=ε (W7.setCell ⟨(w:C)+1+1,0,G⟩ (.slice (E ⟨g,0,G⟩) cs cv))
 have f8:Fr (Is ((w:C)+1+1)) W7 W8:=by rw[b9];exact be (ao _ _) _
 have z8:W8 ⟨(w:C)+1+1,0,G⟩=E (.slice (E ⟨g,0,G⟩) cs cv):=by rw[b9];exact zB (zE u2 0 _) 0
 have x8:Fr No w W8:=g5.step f8 (λb hb h=>by omega);have b3:ChgRes w W8 ds k x (.returned (.tuple #[aj #[.slice (E ⟨g,0,G⟩) cs cv],.int M 0])):=by
  refine⟨E ⟨g,0,G⟩,cv,cs.set k x',by rw[dd],J.devs.fr f8 (λN e _ h=>by cases e;unfold Is at h;exact b6 h.symm),?_,λN e=>by cases e;show (w:C)<=g;omega,?_⟩
  .obtain⟨g8,j1,_⟩:=J.blk;intro N e;cases e;exact⟨g8,f8.heap j1 (λh=>by unfold Is at h;exact b6 h.symm)⟩
  .refine Cop.set ((b8.fr f8 (λd hd N e h=>by
    obtain⟨y,_,hc⟩:=b8.mem hd;have:=hc.fresh N e;unfold Is at h;omega)).src x4 (λd hd=>by
    obtain⟨l',g1,g2,_⟩:=(HL.el d hd).att;exact⟨l',g1,g2⟩) h4) ?_ k
   refine⟨by rw[a5],⟨l,HA.1,?_,HA.2.2,by have:=HA.2.1;omega⟩,?_,λN e=>by rw[a5]at e;have:=z N e;omega⟩;·rw[a5];exact g6.fr f8 (λN e _ h=>by have:=z N e;omega)
   .rw[a5];exact g7.fr f8 (λN e h=>by have:=z N e;omega)
 have g9:=zg2 b3 x8;clear b3 x8 b8 g5 g7 g6 J A g4 b1 u2 e8 e9 z x6 a4 V r1 r2 c0 c1 c2 c3 c4 c5 c6 c7 c8 c9 f8 k3 k2;subst a5;go_wp2_with (refine zBl rfl 48 _ _ rfl g (k*10) ({ x with aa:=a6,ac:=cc }:Dev).vals rfl rfl 48 b5 k1 zDO g0 (zAd { x with aa:=a6,ac:=cc }) ?_;rw[<-b2];clear b2)
 rw[<-b9];refine bodyPost_ret (v:=.tuple #[aj #[.slice (E ⟨g,0,G⟩) cs cv],.int M 0]) (by simp[cw,Tryz.results92,go_sem,z8]) rfl ?_;exact g9
def roundN {α:Type}(I:a1 α->(C->Prop)->ab->Prop)(pre:a1 α)(V:C->Prop)(W:ab):Exit->Act->ab->Prop
 | .normal,_,W'=>∃ V',(∀ b,V' b->V b\/(W:C)<=b)/\I pre V' W'/\Fr V W W'
 | _,_,_=>br
def GivesN {α:Type}(F:Fence)(n:C)(P:ct)(gf:C)(lb:bd aw)(encs:α->bd aw)(T V0:C->Prop)(xs:a1 α)(w:ab):Prop:=
 ∀ (l:C) (J:a1 α->(C->Prop)->ab->Prop) (W:ab),Fr No w W->(w:C)<=l->l<(W:C)->
  (∀ s V A,J s V A->∀ b,V b->b<(A:C))->
  (∀ s V A B S,J s V A->Fr S A B->(∀ b,S b->¬ V b/\(T b\/(W:C)<=b))->J s V B)->
  (∀ pre V x A,J pre V A->pre++[x] <+: xs->(W:C)<=(A:C)->YieldAt F (n-1) P l (encs x) A λe B=>e=.returned (.bool am)/\∃ V',(∀ b,V' b->V b\/(A:C)<=b)/\J (pre++[x]) V' B/\Fr (λb=>V b\/b=l) A B)->
  J [] V0 W->CallsIn F n P gf (#[.func (.yield l) #[] #[]]++lb) W λe W'=>(∃ v,e=.returned v)/\∃ V,J xs V W'
theorem zDS {α:Type}{F:Fence}{n:C}{P:ct}{g:cr}{ps:bd Tmp}{assign body:Code}{Q:Exit->Act->ab->Prop}{a:Act}{w:ab}
  (d1:F.round=G) (h1:1<=n) {gf:C} {lb:bd aw} (hg:a.eval g=.func (.func gf) #[] lb) (d2:F.fn gf) (eg:∀ args w,(callFunc gf args).run P w=.ok (.enter gf args) w)
  {encs:α->bd aw} (d3:∀ x,(encs x).size=ps.size) {T V0:C->Prop} (hT:∀ b,T b->b<(w:C)) (b1:∀ b,V0 b->b<(w:C)) {xs:a1 α}
  (b2:GivesN F (n-1) P gf lb encs T V0 xs w)
  (I:a1 α->(C->Prop)->ab->Prop) (b3:∀ s V A,I s V A->∀ b,V b->b<(A:C))
  (hI:∀ s V A b0 S,I s V A->Fr S A b0->(∀ b,S b->¬ V b/\(T b\/(w:C)<=b))->I s V b0) (h0:I [] V0 w)
  (Ax:α->(C->Prop)->Act->ab->Prop) (d4:∀ x V Y A b0,Ax x V Y A->Fr (Is ((w:C)+1)) A b0->Ax x V Y b0)
  (J:∀ (l:C) (pre:a1 α) (V:C->Prop) (x:α) (W:ab) (K:Act->ab->Prop),I pre V W->(w:C)+2<=(W:C)->(∀ Y W',Fr No W W'->Ax x V Y W'->K Y W')->
   assign.wpIn (F.inRound l) (n-1-1) P (Exit.then K (λ_ _ _=>br)) { tmps:=(ps.zip (encs x)).foldl (λt (p,v)=>t.setIfInBounds p v) a.tmps,defers:=[] } W)
  (a6:∀ (l:C) (pre:a1 α) (V:C->Prop) (x:α) (Y:Act) (W:ab),I pre V W->Ax x V Y W->pre++[x] <+: xs->(w:C)+2<=(W:C)->body.wpIn (F.inRound l) (n-1-1) P (roundN I (pre++[x]) V W) Y W)
  (a7:∀ (V:C->Prop) (W:ab),I xs V W->W.heap[(w:C)]?=E (.deferred (E []))->¬ V (w:C)->Q .normal { a with defers:={ target:=.collected (w:C),args:=#[] }::a.defers } W):
  (Code.rangeFunc g ps assign body).wpIn F n P Q a w:=by
 apply wpIn_rangeFunc;intro fn d5;rw[d1];obtain⟨u,o⟩:∃ u:LoopState->ar Code->Loop,u=λst pe=>{ state:=st,pending:=pe,fn,tmps:=a.tmps,params:=ps,assign,body,defers:=(w:C) }:=⟨_,rfl⟩
 obtain⟨N,O⟩:∃ N,(w.alloc (.deferred (E []))).alloc (.loop (u .ready G))=N:=⟨_,rfl⟩
 have e8:(N:C)=(w:C)+2:=by rw[<-O];simp
 have d6:N.heap[(w:C)+1]?=E (.loop (u .ready G)):=by
  rw[<-O];have:=ep (w.alloc (.deferred (E []))) (.loop (u .ready G));rwa [bw]at this
 have d7:N.heap[(w:C)]?=E (.deferred (E [])):=by
  rw[<-O];exact(Below.heap_alloc _ _ _ (by simp)).trans (ep w _)
 have a2:Fr No w N:=by rw[<-O];exact((ao _ _).alloc _).alloc _
 have d8:I [] V0 N:=hI _ _ _ _ _ h0 a2 (λ_ h=>h.elim);refine⟨(w:C)+1,[{ target:=.collected (w:C),args:=#[] }],N,{ target:=.fn (.func gf) lb,args:=#[.func (.yield ((w:C)+1)) #[] #[]] },N,gf,
  #[.func (.yield ((w:C)+1)) #[] #[]]++lb,N,?_,?_,?_,?_,λ_=>h1,?_⟩
 .rw[<-O,o];exact run_enterLoop_outer _ _ _ _ _
 .simp only[resolve,hg];simp[go_sem]
 .intro f' b4;simp[Target.leads]at b4;subst b4;exact d2
 .simp[invoke,go_sem,eg]
 .refine(b2 ((w:C)+1) (λpre V W=>I pre V W/\¬ V (w:C)/\¬ V ((w:C)+1)/\W.heap[(w:C)+1]?=E (.loop (u .ready G))/\W.heap[(w:C)]?=E (.deferred (E [])))
   N a2 (by omega) (by omega) (λs V A h=>b3 s V A h.1) ?_ ?_ ⟨d8,λh=>by have:=b1 _ h;omega,λh=>by have:=b1 _ h;omega,d6,d7⟩).mono ?_
  .rintro s V A b0 S ⟨hi,z,y,hl,hk⟩ hf hS;refine⟨hI _ _ _ _ _ hi hf (λb U=>⟨(hS b U).1,(hS b U).2.imp id (λh=>by omega)⟩),z,y,hf.heap hl (λh=>?_),hf.heap hk (λh=>?_)⟩
   .rcases(hS _ h).2 with h|h
    .have:=hT _ h;omega
    .omega
   .rcases(hS _ h).2 with h|h
    .have:=hT _ h;omega
    .omega
  .rintro pre V x W ⟨hi,z,y,hl,hk⟩ b5 e9;have g0:(w:C)+1<(W:C):=(Array.getElem?_eq_some_iff.1 hl).1;have hy:=run_yield (P:=P) (args:=encs x) hl (by rw[o];exact d3 x);rw[o]at hy;refine⟨fn,_,assign,body,hy,roundIn_of_wpIn d5 (J _ pre V x W _ hi (by omega) ?_)⟩;clear hy;intro Y Wa X d9;have b6:=X.heap hl id;have e0:=X.heap hk id;have e1:=hI _ _ _ _ _ hi X (λ_ h=>h.elim);have b7:(w:C)+1<(Wa:C):=(Array.getElem?_eq_some_iff.1 b6).1;have g1:=X.size;refine⟨_,run_beginRound b6 (by rw[o]),?_⟩;have e2:(Wa.putObj ((w:C)+1) (.loop { u .ready G with state:=.busy })).heap[(w:C)+1]?=E (.loop { u .ready G with state:=.busy }):=eu b7;have e3:(Wa.putObj ((w:C)+1) (.loop { u .ready G with state:=.busy })).heap[(w:C)]?=E (.deferred (E [])):=(dh (by omega)).trans e0;have Z:Fr (Is ((w:C)+1)) Wa (Wa.putObj ((w:C)+1) (.loop { u .ready G with state:=.busy })):=bi _ _ _ rfl;have e4:=hI _ _ _ _ _ e1 Z (λb U=>by unfold Is at U;subst U;exact⟨y,.inr (by omega)⟩);refine wpIn_mono (a6 _ pre V x Y _ e4 (d4 _ _ _ _ _ d9 Z) b5 (by simp;omega)) ?_;rintro e a3 W3 hp;cases e with
   | normal=>
    obtain⟨V',b8,e5,a8⟩:=hp;have b9:=a8.heap e2 y;have e6:=a8.heap e3 z;have a9:∀ b,V' b->V b\/(Wa:C)<=b:=λb h=>(b8 b h).imp id (λh=>eh Z.size h)
    clear b8;have d0:¬ V' (w:C):=λh=>by rcases a9 _ h with h|h;exact z h;omega
    have a4:¬ V' ((w:C)+1):=λh=>by rcases a9 _ h with h|h;exact y h;omega
    have e7:∀ b,V' b->V b\/(W:C)<=b:=λb h=>(a9 b h).imp id (λh=>by omega)
    have a5:=run_endRound (P:=P) G b9;rw[o]at a5;refine⟨_,_,a5,rfl,V',e7,⟨hI _ _ _ _ _ e5 (bi (S:=Is ((w:C)+1)) _ _ _ rfl) (λb U=>by unfold Is at U;subst U;exact⟨a4,.inr (by omega)⟩),d0,a4,?_,?_⟩,?_⟩;·rw[o];exact eu (Array.getElem?_eq_some_iff.1 b9).1
    .exact(dh (by omega)).trans e6
    .refine(((X.mono zn).step Z ?_).step a8 ?_).step (bi (S:=Is ((w:C)+1)) _ _ _ rfl) ?_;·rintro b _ h;exact .inr h
     .rintro b _ h;exact .inl h
     .rintro b _ h;exact .inr h
   | ret=>exact hp.elim
   | exit id=>exact hp.elim
   | goto t=>exact hp.elim
   | panic ch=>exact hp.elim
   | outgrown=>exact hp.elim
  .rintro e W2 ⟨⟨v,rfl⟩,V,hi,z,y,hl,hk⟩;refine⟨G,_,by have:=run_endLoop (P:=P) hl (by rw[o];simp);rw[o]at this;exact this,a7 V _ (hI _ _ _ _ _ hi (bi (S:=Is ((w:C)+1)) _ _ _ rfl) (λb U=>by unfold Is at U;subst U;exact⟨y,.inr (by omega)⟩)) ((dh (by omega)).trans hk) z⟩
theorem zA9 {e:bv}(o:P.underlying e=E .bool){v:aw}{z:bq H×a1 MemPlace}(h:bx P e v=E z):∃ b,v=.bool b/\z=(.lit (.bool b),[]):=by
 unfold bx at h;rw[o]at h;cases v<;>simp at h;exact⟨_,rfl,h.symm⟩
theorem zBk {H:Type}{P:ct}(w:ab){u:bd bf}{h:a1 bf}{o:bf}{a:Act}{Q:Exit->Act->ab->Prop}
  (Y:o.guard=G) (m x:cr) (t:bv) (I:o.op=Op.lookup t m x ag)
  (k e:bv) (K:Keyed P k) (Z:P.underlying t=E (.map k e)) (U:P.underlying e=E .bool) (hz:(dp e).run P w=.ok (.bool ag) w) (b n:C) (D:bq H)
  (hm:a.eval m=.map (E b)) (y:w.ownsMap P k (bx P e) b n D) (z:aw) (V:Lit) (hx:a.eval x=z) (A:keyOf P k z=E V)
  (J:ay) (N:D.atKey V (.lit (.bool ag))=.lit (.bool J))
  (hK:wpList P u Q h (a.put o.dst (.bool J)) w):
  wpList P u Q (o::h) a w:=by
 refine wpList_plain Y λK' O=>?_
 obtain⟨v,ps,F,hv⟩:=y.lookup K Z hz (dk U ag) A;obtain⟨c,rfl,X⟩:=zA9 U hv;simp only[Prod.mk.injEq]at X;obtain rfl:c=J:=by
  have:=X.1.symm.trans N
  simpa using this
 unfold Oper.wp;simp[execOp,I,hm,hx,F,Result.andThen];exact O _ _ hK
def BMap (w:ab)(mb:C)(g:ae->ay)(N:C):Prop:=
 ∃ (D:bq Unit) (n:C),n<=N/\w.ownsMap ak 3 (bx ak 4) mb n D/\∀ x,D.atKey (.int M x) (.lit (.bool ag))=.lit (.bool (g x))
theorem BMap.lt (h:BMap w o f N):o<(w:C):=by
 obtain⟨D,n,_,u,_⟩:=h;exact u.lt
theorem BMap.fr (h:BMap w o f N)(u:Fr S w w')(v:¬ S o):BMap w' o f N:=by
 obtain⟨D,n,y,z,r⟩:=h;exact⟨D,n,y,u.ownsMap z v,r⟩
theorem zeroB (w:ab):(dp 4).run ak w=.ok (.bool ag) w:=by kernel_rfl
theorem zEm (w:ab):BMap (w.alloc (.map #[] 0)) (w:C) (λ_=>ag) 0:=
 ⟨.map [],0,df _,er _ _ _ _,λ_=>rfl⟩
theorem BMap.put {v:ab}{D:bq Unit}{n:C}(F:n<=N)(z:w.ownsMap ak 3 (bx ak 4) o n D)(h:∀ x,D.atKey (.int M x) (.lit (.bool ag))=.lit (.bool (g x)))
  (x:ae) (b:ay) (u:v.ownsMap ak 3 (bx ak 4) o (n+1) (D.put (.int M x) (.lit (.bool b)))):BMap v o (upd g x b) (N+1):=by
 refine⟨_,n+1,by omega,u,λy=>?_⟩;unfold upd;split;·rename_i e;subst e;exact atKey_put_same z.isMap (zCo _) _ _
 .rename_i e;rw[atKey_put_other (by intro A;exact e (by simpa using A))];exact h y
attribute [local go_sem] cq
def subL (n:ae):a1 Dev->(ae->ay)->a1 Dev
 | [],_=>[]
 | d::t,R=>if (d.index==n||R d.parent)=am then d::subL n t (upd R d.index am)else subL n t R
theorem zBV (h:(d.index==n||R d.parent)=am)(t:a1 Dev):subL n (d::t) R=d::subL n t (upd R d.index am):=if_pos h
theorem zA8 (h:(d.index==n||R d.parent)=ag)(t:a1 Dev):subL n (d::t) R=subL n t R:=if_neg (by rw[h];simp)
theorem BMap.look {u:C}(h:BMap w u g N){k:ae}(z:(bu M k).wf=am):(ce 206 (.map (E u)) (.int M k) ag).run ak w=.ok (.bool (g k)) w:=by
 obtain⟨D,n,_,A,F⟩:=h;obtain⟨v,J,o,I⟩:=A.lookup lawI cu (zeroB w) (dk (by kernel_rfl) ag) (bh bg z);obtain⟨c,rfl,y⟩:=zA9 (by kernel_rfl) I;simp only[Prod.mk.injEq]at y;obtain rfl:c=g k:=by
  have:=y.1.symm.trans (F k)
  simpa using this
 exact o
theorem zCZ {F:Fence}{J:C}{w:ab}{y:bd bf}{u:a1 bf}{o:bf}{a:Act}{Q:Exit->Act->ab->Prop}(U:o.guard=G)(m x v:cr)(t:bv)(I:o.op=Op.mapUpdate t m x v)(V:Tryz.prog.underlying t=E (.map 3 4))
  (z:C) (g:ae->ay) (N:C) (hN:N<ba) (k:ae) (X:(bu M k).wf=am) (b:ay) (Y:a.eval m=.map (E z)) (A:BMap w z g N) (Z:a.eval x=.int M k) (hv:a.eval v=.bool b)
  (hK:∀ w',BMap w' z (upd g k b) (N+1)->Fr (Is z) w w'->wpListIn F J ak y Q u (a.put o.dst af) w'):wpListIn F J ak y Q (o::u) a w:=by
 obtain⟨D,n,hn,O,hh⟩:=A;exact wpListIn_mapUpdate_own w U m x v t I 3 4 lawI V _ z n D Y O (by omega) _ _ _ Z hv (bh bg X) (.lit (.bool b)) [] (dk (by kernel_rfl) b) (λw' h h'=>hK w' (BMap.put hn O hh k b h) (bo h'))
theorem zGW (u:aw)(n:ae)(w:ab):
  az ak 138 #[aj #[u],n] w λe w'=>e=.returned (.func (.func 192) #[] #[ah (E ⟨w,0,G⟩),ah (E ⟨(w:C)+1,0,G⟩)])/\w'=(w.alloc (a0 #[u] 39)).alloc (a0 #[n] 3):=by
 go_enter Tryz.func138,Tryz.ntmps138;go_wp2;go_ret;exact⟨rfl,rfl⟩
structure SubAt (W:ab)(a:ar aq)(cap:C)(ds:a1 Dev)(n:ae)(Bt Bi:C):Prop where
 devs:Devs W a cap ds
 tree:W.heap[Bt]?=E (a0 #[.slice a ds cap] 39)
 idx:W.heap[Bi]?=E (a0 #[n] 3)
theorem SubAt.fr {u v:C}(h:SubAt W a o ds n u v)(y:Fr S W z)(F:∀ A,a=E A->ds≠[]->¬ S A.block)(I:¬ S u)(J:¬ S v):SubAt z a o ds n u v:=
 ⟨h.devs.fr y F,y.heap h.tree I,y.heap h.idx J⟩
theorem SubAt.no {u:ab}{v y:C}(h:SubAt W a o ds n v y)(z:Fr No W u):SubAt u a o ds n v y:=h.fr z (λ_ _ _=>id) id id
theorem zGa (n:C)(hn:3<=n)(a:ar aq)(a4:C)(ds:a1 Dev)(o:ae)(Bt Bi:C)(V0:C->Prop)(w:ab)(hT:TreeOk ds)(hU:SubAt w a a4 ds o Bt Bi)(g1:(ds:C)<=1000000)
  (hV:¬ V0 Bt/\¬ V0 Bi/\∀ z,a=E z->ds≠[]->¬ V0 z.block):
  GivesN dr n ak 192 #[ah (E ⟨Bt,0,G⟩),ah (E ⟨Bi,0,G⟩)] (λd:Dev=>#[aj d.vals]) (λ_=>br) V0 (subL o ds (λ_=>ag)) w:=by
 intro l J W b4 g2 g3 b5 hJ hY h0;have d6:=@run_makeMap ak;have d7:Bt<(w:C):=zC hU.tree;have d8:Bi<(w:C):=zC hU.idx;have b6:∀ z,a=E z->ds≠[]->z.block<(w:C):=λz e v=>(hU.devs.cell z e v).2.1
 have g4:=b4.size;have hm:=hU.devs.lenmax;have g5:1<=n:=by omega
 have hx:Fr No W (W.alloc (.map #[] 0)):=(ao _ _).alloc _;have d9:=zEm W;have g6:(W.alloc (.map #[] 0)).heap.size=(W:C)+1:=by simp
 have b7:=(hU.no b4).no hx;have e0:=hJ _ _ _ _ _ h0 hx (λ_ h=>h.elim);have e1:¬ V0 (W:C):=λh=>by have:=b5 _ _ _ h0 _ h;omega
 have cv:(W.alloc (.map #[] 0)) ⟨Bt,0,G⟩=E (.slice a ds a4):=zB b7.tree 0;show CallsIn dr n ak 192 #[.func (.yield l) #[] #[],ah (E ⟨Bt,0,G⟩),ah (E ⟨Bi,0,G⟩)] W _
 refine callsIn_of_wp dg rfl trivial ?_ rfl;simp only[Tryz.ntmps192,cm,bs,ci,co,cp,cb,cd,cl,cf,cj,cg]
 gi_wp2
 clear cv d6;generalize W.alloc (.map #[] 0)=W0 at *
 gi_loopw [11] (λi wr=>∃ (k:C) (pre:a1 Dev) (R:ae->ay) (V:C->Prop),k<=(ds:C)/\i=.int M (k:ae)/\ai (subL o ds (λ_=>ag)=pre++subL o (ds.drop k) R)/\BMap wr (W:C) R k/\SubAt wr a a4 ds o Bt Bi/\J pre V wr/\ai (¬ V (W:C)/\∀ b,V b->V0 b\/(W:C)<=b)/\(W0:C)<=(wr:C)) (λi _=>(ds:C)-(intOf i).toNat)
 case atStart=>exact⟨0,[],λ_=>ag,V0,by omega,rfl,by unfold ai;simp,d9,b7,e0,⟨e1,λb h=>.inl h⟩,df _⟩
 case round=>
  obtain⟨k,pre,R,V,hk,rfl,HC,b8,a5,a6,y,g7⟩:=hrel;by_cases a7:k<(ds:C)
  .have e8:(k:ae)<(ds:C):=by omega
   obtain⟨db,g8,x,e2,I,y0,y1,y2,y3,y4,y5,y6,y7,y8,y9⟩:=a5.devs.dev a7;subst e2;have a8:=List.mem_of_getElem? I;have e3:=hT.iwf a8;have e4:=hT.pwf a8;have A:ds.drop k=x::ds.drop (k+1):=by
    have e:ds[k]=x:=(by rw[bz a7]at I;exact Option.some.inj I);rw[List.drop_eq_getElem_cons a7,e]
   have hC:=HC.out;rw[A]at hC;have N:=zh hC;obtain⟨W1,O,U,-⟩:=zy wr (a0 x.vals 48);have X:W1.heap[(wr:C)]?=E (a0 x.vals 48):=(by rw[O];exact zF wr (a0 x.vals 48));have g9:=U.size;have Y:=a5.no U;have Z:=b8.fr U id;have a9:=hJ _ _ _ _ _ a6 U (λ_ h=>h.elim);clear I a8 A hC a5 b8 a6;have s0:W1 ⟨Bi,0,G⟩=E (.int M o):=zB Y.idx 0;obtain⟨z0,z1⟩:=cl2 X;unfold ap at O
   gi_upto_region 4 with(fail)
   rw[<-O];clear O y0 y1 y2 y3 y4 y5 y6 y7 y8 y9;have u:=zg4 Y Z a9 X;generalize (Value.agg #[x.index,x.parent,x.name,x.orig,x.sub,x.drv,x.ali,x.kind,x.num,.slice x.aa x.an x.ac])=xv
   gi_cut [25]from 99 (λb wx=>b=.bool (!(x.index==o||R x.parent))/\wx=W1)
   case first=>
    by_cases b0:x.index=o
    .gi_wp2_with fail
     gi_meet
     exact⟨by simp[b0],rfl⟩
    .have h3:(x.index != o)=true:=(by simp[b0]);have e5:=Z.look e4;rcases hRx:R x.parent with _|_
     all_goals
      rw[hRx]at e5
      gi_wp2_with fail
      gi_meet
      exact⟨by simp[b0,hRx],rfl⟩
   case rest=>
    obtain⟨rfl,rfl⟩:=hcut;rcases hb:(x.index==o||R x.parent)with _|_
    .have a2:ai (subL o ds (λ_=>ag)=pre++subL o (ds.drop (k+1)) R):=by
      unfold ai;rw[N,zA8 hb]
     clear HC N Y a9 X hb
     gi_wp2_with fail
     go_roundw;case rel=>exact⟨k+1,pre,R,V,by omega,by go_num,a2,by obtain⟨D,nn,h1,h2⟩:=u.2.1;exact⟨D,nn,by omega,h2⟩,u.1,u.2.2.1,y,by omega⟩
     case measure=>simp[intOf];omega
    .have a2:ai (subL o ds (λ_=>ag)=(pre++[x])++subL o (ds.drop (k+1)) (upd R x.index am)):=by
      unfold ai;rw[N,zBV hb,List.append_assoc];rfl
     clear HC N Y a9 X hb
     gi_upto_region 6 with(gi_at_mapUpdate;refine zCZ rfl _ _ _ 206 rfl cu (W:C) _ _ (by unfold ba;omega) x.index e3 am rfl Z rfl rfl ?_;intro w3 b9 F)
     have d0:=hJ _ _ _ _ _ u.2.2.1 F (λb hb=>by unfold Is at hb;subst hb;exact⟨y.1,.inr (df _)⟩);have h4:=F.size;have e6:=hY pre V x w3 d0 ⟨subL o (ds.drop (k+1)) (upd R x.index am),a2.symm⟩ (by omega);have d1:=u.1.fr F (λz e v h=>by unfold Is at h;have:=b6 z e v;omega) (λh=>by omega) (λh=>by omega);have b3:=F.heap u.2.2.2 (λh=>by omega);obtain⟨fn,e9,d5,g0,hy,hR⟩:=e6;obtain⟨c0,c1,c2,c3,c4,c5,c6,c7,c8,c9⟩:=DevB.of b3;have b1:=zg2 d1 b9;unfold ap at hy;clear d0 d1 b9 F b3 z0 z1 s0 Z
     gi_wp2
     apply hR.mono;rintro e W3 ⟨rfl,V',b2,d2,a3⟩;have h5:=a3.size;have n4:∀ b,b<(w:C)->¬ V0 b->¬ (V b\/b=l):=λb h1 h2 h=>h.elim (λh=>(y.2 b h).elim h2 (λh=>by omega)) (λh=>by omega)
     have d3:=b1.1.fr a3 (λz e v=>n4 _ (b6 z e v) (hV.2.2 z e v)) (n4 _ d7 hV.1) (n4 _ d8 hV.2.1);have d4:=b1.2.fr a3 (λh=>h.elim y.1 (λh=>by omega));have HF:=zg3 d3 d4 d2;have e7:ai (¬ V' (W:C)/\∀ b,V' b->V0 b\/(W:C)<=b):=⟨λh=>(b2 _ h).elim y.1 (λh=>by omega),λb h=>(b2 b h).elim (y.2 b) (λh=>.inr (by omega))⟩
     clear d3 d4 d2 b2 a3 hR hy b1 u c0 c1 c2 c3 c4 c5 c6 c7 c8 c9
     gi_wp2
     go_roundw;case rel=>exact⟨k+1,pre++[x],upd R x.index am,V',by omega,by go_num,a2,HF.2.1,HF.1,HF.2.2,e7,by omega⟩
     case measure=>simp[intOf];omega
  .obtain rfl:k=(ds:C):=by omega
   gi_wp2
   go_end0;have e:subL o ds (λ_=>ag)=pre:=(by rw[HC.out,List.drop_length];simp[subL]);rw[e];exact⟨⟨_,rfl⟩,V,a6⟩
attribute [local go_sem] cq
def fpD (B:C)(O:a1 Dev)(v:aw)(b:C):Prop:=b=B\/v.ownBlock=E b\/∃ d∈O,∃ ad,d.aa=E ad/\ad.block=b
structure SubI (w0:ab)(B5:C)(pre:a1 Dev)(V:C->Prop)(W:ab):Prop where
 st:∃ (O:a1 Dev) (av:ar aq) (cv:C),W.heap[B5]?=E (a0 #[.slice av O cv] 37)/\W.ownsRow (w0:C) 48 10 (.slice av O cv) (O:C) (flat O)/\Cop w0 W (w0:C) pre O/\V=fpD B5 O (.slice av O cv)
 fr:Fr (From (w0:C)) w0 W
theorem Cop.attr_lt {O:a1 Dev}(h:Cop w W o pre O)(y:d∈O){u:aq}(e:d.aa=E u):o<=u.block/\u.block<(W:C):=by
 obtain⟨x,_,v⟩:=h.mem y;obtain⟨cs,z⟩:=v.typ u e;exact⟨v.fresh u e,zC z⟩
theorem SubI.lt {o:ab}{v:C}(h:SubI o v pre V W)(y:(o:C)<=v){b:C}(u:V b):(o:C)<=b/\b<(W:C):=by
 obtain⟨O,J,N,z,A,F,rfl⟩:=h.st;rcases u with rfl|u|⟨d,I,U,e,rfl⟩
 .exact⟨y,zC z⟩
 .exact zAF A u
 .exact F.attr_lt I e
theorem SubI.mv (h:SubI z F pre V A)(u:Fr S A I)(v:∀ b,S b->¬ V b/\(z:C)<=b):SubI z F pre V I:=by
 obtain⟨O,J,N,U,X,Y,Z⟩:=h.st;subst Z;exact⟨⟨O,J,N,u.heap U (λy=>(v _ y).1 (.inl rfl)),zG X u (λb y o=>(v _ o).1 (.inr (.inl y))),Y.fr u (λd hd ad e o=>(v _ o).1 (.inr (.inr ⟨d,hd,ad,e,rfl⟩))),rfl⟩,h.fr.step u (λb y o=>(v b o).2)⟩
theorem zBW:∀ {R:ae->ay} {d:Dev},d∈subL n ds R->d∈ds:=by
 induction ds with
 | nil=>intro R d h;simp[subL]at h
 | cons x t o=>
  intro R d h;rcases hb:(x.index==n||R x.parent)with _|_
  .rw[zA8 hb]at h;exact ed _ (o h)
  .rw[zBV hb]at h;rcases List.mem_cons.1 h with h|h
   .subst h;simp
   .exact ed _ (o h)
theorem zDe (n:ae)(ds:a1 Dev):∀ (R:ae->ay),(subL n ds R).length<=(ds:C):=by
 induction ds with
 | nil=>intro R;simp[subL]
 | cons x t h=>
  intro R;rcases hb:(x.index==n||R x.parent)with _|_
  .rw[zA8 hb];have:=h R;simp only[bs];omega
  .rw[zBV hb];have:=h (upd R x.index am);simp only[bs];omega
theorem zKV (a:ar aq)(o d3:C)(ds:a1 Dev)(n:ae)(w:ab)(hl:Tr w d3 a o ds)(hn:(ds:C)<=256):
  az ak 135 #[aj #[.slice a ds o],n] w λe w'=>(∃ v c' b5,e=.returned (.slice v b5.length c')/\Devs w' v c' b5/\BlkT w' v 48/\(∀ u,v=E u->(w:C)<=u.block)/\Cop w w' (w:C) (subL n ds (λ_=>ag)) b5)/\Fr No w w':=by
 have hT:=hl.wf.1;obtain⟨i0,g3,g4,g5,g6⟩:=info_parts infoD;refine(dj (n:=12)).1 (di Tryz.func135 rfl trivial (wpIn_wide.2 ?_));simp only[Tryz.ntmps135,cm,bs,ci,co,cp,cb,cd,cl,cf,cj,cg];obtain⟨N,d4,hW,b2,b6⟩:=zw w (a0 #[.slice a ds o] 39) (a0 #[.slice G 0 0] 37);have t2:N ⟨w,0,G⟩=E (.slice a ds o):=zB b2 0;have i4:=zC b6;go_upto_region 2 with(fail)
 rw[<-d4];clear d4;go_wp2_with fail;apply (zGW _ _ _).mono;rintro e w2 ⟨rfl,rfl⟩;have b7:Fr No N ((N.alloc (a0 #[.slice a ds o] 39)).alloc (a0 #[n] 3)):=((ao _ _).alloc _).alloc _;have U:=hW.step b7 zi;have hU:SubAt ((N.alloc (a0 #[.slice a ds o] 39)).alloc (a0 #[n] 3)) a o ds n (N:C) ((N:C)+1):=⟨hl.dv.no U (λ_=>id),zP _ _ _,zS _ _ _⟩
 have d6:=b7.heap b6 id;have d5:((N.alloc (a0 #[.slice a ds o] 39)).alloc (a0 #[n] 3)).heap.size=(N:C)+2:=by simp
 clear t2 b2 b6 b7;go_wp2_with fail;generalize (N.alloc (a0 #[.slice a ds o] 39)).alloc (a0 #[n] 3)=W2 at *;have b8:∀ u,a=E u->ds≠[]->u.block<(w:C):=λu e a2=>(hl.dv.cell u e a2).2.1
 refine(dm (n:=12)).1 (zDS (α:=Dev) (T:=λ_=>br) (V0:=Is ((w:C)+1)) rfl (by omega) (gf:=192) (lb:=#[ah (E ⟨N,0,G⟩),ah (E ⟨(N:C)+1,0,G⟩)]) rfl trivial (ca dg (by kernel_rfl) rfl) (encs:=λd:Dev=>#[aj d.vals]) (λ_=>rfl) (λb h=>h.elim) (λb h=>by omega)
  (zGa 11 (by omega) a o ds n (N:C) ((N:C)+1) (Is ((w:C)+1)) W2 hT hU (by omega) ⟨λh=>by omega,λh=>by omega,λu e a2 h=>by have:=b8 u e a2;omega⟩)
  (SubI w ((w:C)+1)) (λ_ _ _ h b J=>(h.lt (by omega) J).2) (λs V A i5 S h hf hS=>h.mv hf (λb J=>⟨(hS b J).1,by have:=(hS b J).2.resolve_left id;have:=U.size;omega⟩))
  ⟨⟨[],G,0,d6,et _ _ _ _,by simpa using Cop.nil _ _ _,by funext b;unfold Is fpD;simp[eo]⟩,U.mono zn⟩
  (λx V v W=>∃ Bx,(W2:C)+2<=Bx/\W.heap[Bx]?=E (a0 x.vals 48)/\¬ V Bx/\v={ tmps:=#[aj #[.slice a ds o],.int M n,ah (E ⟨w,0,G⟩),af,.slice G 0 0,ah (E ⟨(w:C)+1,0,G⟩),ah (E ⟨Bx,0,G⟩),aj #[.slice a ds o],.int M n,.func (.func 192) #[] #[ah (E ⟨N,0,G⟩),ah (E ⟨(N:C)+1,0,G⟩)],aj x.vals,af,af,af,af,af,af],defers:=[] })
  (λx V v A i5 h hf=>by obtain⟨Bx,h1,h2,h3,h4⟩:=h;exact⟨Bx,h1,hf.heap h2 (λe=>by omega),h3,h4⟩)
  ?assign ?body ?done)
 case assign=>
  intro l pre V x W K hi b0 hK;have g7:=λb (J:V b)=>(hi.lt (by omega) J).2
  have i6:=λv W' (h1:Fr No W W') h2=>hK v W' h1 h2
  clear b8 d5 hU U d6 hl hT;unfold ap
  gi_wp2
  exact hK _ _ ((ao _ _).alloc _) ⟨(W:C),b0,zF _ _,λh=>by have:=g7 _ h;omega,rfl⟩
 case body=>
  rintro l pre V x v W hi ⟨Bx,i7,d7,g8,rfl⟩ a4 b0;have g9:x∈ds:=zBW (da a4 (by simp));have i8:(pre:C)<=256:=by
   have h7:=a4.length_le;have h8:=zDe n ds (λ_=>ag);simp at h7;omega
  obtain⟨l0,a6,b9,d8⟩:=(hl.el x g9).att;have hA:Atts W x.aa x.ac l0:=a6.fr hi.fr (λu e a2 h=>by have:=(a6.cell u e a2).2.1;omega);have h0:=zh (λb (J:V b)=>hi.lt (by omega) J);obtain⟨O,av,cv,h1,h2,h3,rfl⟩:=hi.st;have i9:(O:C)<=256:=by have:=h3.len;omega
  have HI:=zh hi.fr;have d0:=zg3 a6 b9 d8;clear a4 hi b8 d5 hU U d6 hl hT a6
  gi_upto_region 4 with(fail)
  refine zCS 5 (λb=>(au av O cv).ownBlock=E b) (.q 0 (.q 1 (.m1 2 (.m1 3 (.m1 4 (.m1 5 .fin)))))) _ (λW3 F=>?_) zj;have j0:=F.size;have k5:=F.heap h1 id;have kx:=F.heap d7 id;have a5:=zG h2 F (λ_ _=>id);have n5:=zK a5 k5 (by decide);have cx:∀ g:Gr (λb=>(au av O cv).ownBlock=E b) W3,DevB g.W Bx x:=λg=>DevB.of (g.fr.heap kx (λh=>g8 (.inr (.inl h))))
  have e0:=λg=>(cx g).c0
  have e1:=λg=>(cx g).c1
  have e2:=λg=>(cx g).c2
  have e3:=λg=>(cx g).c3
  have e4:=λg=>(cx g).c4
  have e5:=λg=>(cx g).c5
  have e6:=λg=>(cx g).c6
  have e7:=λg=>(cx g).c7
  have e8:=λg=>(cx g).c8
  have e9:=λg=>(cx g).c9
  have x5:∀ g:Gr (λb=>(au av O cv).ownBlock=E b) W3,g.W ⟨(w:C)+1,0,G⟩=E (.slice av O cv):=λg=>zB (g.fr.heap k5 n5) 0
  have d1:=zBg x l0 W3 (hA.no F (λ_=>id)) b9 (by omega);have HC:=zh (h3.fr F (λ_ _ _ _=>id));have h5:=zh F;clear cx d7 hA b9 d8 h1 h2 h3 F;unfold ap at d1;(repeat apply tx_q rfl rfl rfl;intro K hK;go_big_quiet_op;go_big_quiet_on);clear e0 e1 e2 e3 e4 e5 e6 e7 e8 e9 x5;apply zBG rfl;go_wp2_with fail;apply d1.mono;rintro e W4 ⟨⟨v,c',rfl,d9,g0,z⟩,X⟩;clear d1;have j1:=X.size;have b1:=zG a5 X (λ_ _=>id);have h6:=zh ((HC.fr X (λ_ _ _ _=>id)).snoc (⟨rfl,⟨l0,d0.1,d9,d0.2.1,d0.2.2⟩,g0,λu e=>by have:=z u e;have:=HI.size;omega⟩:Cop1 w W4 (w:C) x { x with aa:=v,ac:=c' }));have al:=(ao No W4).alloc (a0 (ap { x with aa:=v,ac:=c' }) 48);have Y:=zG b1 al (λ_ _=>id);have k6:=al.heap (X.heap k5 id) id;have n6:=zK Y k6 (by decide);have h9:=zh (h5.step X zi);have d2:=zg2 (h6.fr al (λ_ _ _ _=>id)) al;have i3:ai (∀ u,v=E u->(W:C)<=u.block):=λu e=>by have:=z u e;omega
  clear a5 k5 n5 kx d9 g0 al z;go_wp2_with fail;refine bc ⟨λ_=>X.mono zn,?_⟩;clear X;apply zBG rfl;go_wp2_with fail;refine bc ⟨λ_=>d2.2.mono zn,?_⟩;apply zBG rfl;go_wp2_with (at_builtin;refine ew _ rfl _ _ 37 rfl (w:C) 48 i0 (aj #[.int M 0,.int M 0,bn,bn,bn,bn,bn,.int M 0,.int M 0,.slice G 0 0]) 10 136 Tryz.underlying37 g3 g4 g5 g6 rfl (by decide) _ _ _ rfl Y ⟨W4,0,G⟩ 1 1 (ap { x with aa:=v,ac:=c' }).toList rfl rfl (zl _ (ap { x with aa:=v,ac:=c' }) _ rfl) (zAd _) (by unfold ba;omega) (by omega) (by have:=HI.size;rw[bw];omega) ?_;intro v' w6 Z g1 _ g2;obtain⟨a7,a8,rfl⟩:=zI Z)
  have gf:Fr (λb=>(au av O cv).ownBlock=E b) (W4.alloc (a0 (ap { x with aa:=v,ac:=c' }) 48)) w6:=Fr.of_grown g1;apply zf gf;have k7:=gf.heap k6 n6;have n7:=zK Z k7 (by decide);have t7:w6 ⟨(w:C)+1,0,G⟩=E (.slice av O cv):=zB k7 0;have f7:w6.frozen? ⟨(w:C)+1,0,G⟩=false:=zD k7 0;have x8:Fr (Is ((w:C)+1)) w6 (w6.setCell ⟨(w:C)+1,0,G⟩ (.slice a7 ((O:C)+1) a8)):=be (ao _ _) _;have k8:=zE k7 0 (.slice a7 ((O:C)+1) a8);have C6:=d2.1.own Y gf;have C8:=C6.fr x8 (λd hd=>by
   obtain⟨y,_,h1⟩:=C6.mem hd;exact cz h1.typ k7 (by decide))
  have b3:=zG Z x8 (λb J h=>n7 (by unfold Is at h;rw[<-h];exact J));have H8:=zg5 k8 b3 C8 g2 ((((h9.step d2.2 zi).mono (T:=fpD ((w:C)+1) O (.slice av O cv)) zn).step gf (λb _ h=>.inr (.inl h))).step x8 (λb _ h=>.inl h));clear k8 b3 C8 C6 x8 gf g1 g2 Z Y b1 k6 n7 k7 n6;apply zBG rfl;go_wp2_with fail;refine bc ⟨λh=>(h rfl).elim,?_⟩;apply zGU;refine⟨fpD ((w:C)+1) (O++[{ x with aa:=v,ac:=c' }]) (.slice a7 (O++[{ x with aa:=v,ac:=c' }]).length a8),?_,⟨⟨_,a7,a8,by rw[bj];exact H8.1,by rw[bj,zCt];exact H8.2.1,H8.2.2.1,rfl⟩,?_⟩,H8.2.2.2.2⟩
  .rintro b (rfl|J|⟨d,hd,u,e,rfl⟩);·exact .inl (.inl rfl)
   .rw[bj]at J;rcases H8.2.2.2.1 with h|h
    .exact .inl (.inr (.inl (h.symm.trans J)))
    .right;have:=J.symm.trans h;simp only[Option.some.injEq,bw]at this;omega
   .rcases List.mem_append.1 hd with h|h
    .exact .inl (.inr (.inr ⟨d,h,u,e,rfl⟩))
    .obtain rfl:d=_:=by simpa using h
     exact .inr (i3 u e)
  .exact HI.step H8.2.2.2.2 (λb _ h=>(h0 b h).1)
 case done=>
  rintro V W hi hK a9;obtain⟨O,av,cv,h1,h2,h3,hV⟩:=hi.st;have t5:W ⟨(w:C)+1,0,G⟩=E (.slice av O cv):=zB h1 0;have I:Fr (Is (W2:C)) W (W.putObj (W2:C) (.deferred G)):=bi _ _ _ rfl;obtain⟨a3,c3,hv,hD,b4⟩:=dq h2;cases hv;have j2:=U.size;rw[hV]at a9;have HE:=zg5 (hD.fr I (λu e a2 h=>a9 (.inr (.inl (by unfold Is at h;subst e;rw[<-h];rfl))))) ((zAI h2).fr I (λu e h=>a9 (.inr (.inl (by unfold Is at h;subst e;rw[<-h];rfl))))) b4 (h3.fr I (λd hd u e h=>a9 (.inr (.inr ⟨d,hd,u,e,h⟩)))) ((hi.fr.step I (λb J e=>by omega)).mono (T:=No) (λb J h=>by omega));clear hi I U hD h2 h3 b4;go_wp2_with fail;refine⟨by simp,.inl ⟨_,_,rfl,dl hK,?_⟩⟩;refine⟨.slice av O cv,by simp[cw,Tryz.results135,go_sem],⟨av,cv,O,rfl,HE.1,HE.2.1,HE.2.2.1,HE.2.2.2.1⟩,HE.2.2.2.2⟩
attribute [local go_sem] cq
def ixs (l:a1 Dev):ae->Bool:=λi=>l.any λd=>d.index==i
theorem zNC (l:a1 Dev)(x:Dev):upd (ixs l) x.index am=ixs (l++[x]):=by
 funext i
 unfold upd ixs;rw[List.any_append];by_cases h:i=x.index;·subst h;simp
 .have:(x.index==i)=false:=by simpa using λe=>h e.symm
  simp[h,this]
def remL (n:ae)(ds:a1 Dev):a1 Dev:=ds.filter λd=>!ixs (subL n ds (λ_=>ag)) d.index
theorem zOk (h:look ds n=E d):subL n ds R≠[]:=by
 induction ds generalizing R with
 | nil=>cases h
 | cons x t o=>
  unfold look at h;unfold subL;by_cases e:x.index=n;·rw[if_pos (by simp[e])];simp
  .rw[List.find?_cons_of_neg (by simpa using e)]at h;split;·simp
   .exact o h
theorem zHN {w:ab}{v:bd bf}{u:a1 bf}{o:bf}{a:Act}{Q:Exit->Act->ab->Prop}(J:o.guard=G)(m:cr)(t:bv)(z:o.op=Op.call { callee:=Callee.builtin Builtin.len,args:=#[m],argTypes:=#[t] })(O:Tryz.prog.underlying t=E (.map 3 4))
  (A:C) (g:ae->ay) (N:C) (U:a.eval m=.map (E A)) (y:BMap w A g N) (x:ae) (V:g x=am)
  (Y:∀ k:C,0<k->wpList ak v Q u (a.put o.dst (.int M k)) w):wpList ak v Q (o::u) a w:=by
 obtain⟨D,n,_,I,Z⟩:=y;refine wpList_len_own w J m t z 3 4 O _ A n D U I (Y _ ?_);rcases Nat.eq_zero_or_pos (Maps.size D)with h|h
 .exfalso;obtain⟨es,F,hb,hf,hs,hD⟩:=I;obtain⟨X,hX⟩:∃ X,D=.map X:=⟨_,hD⟩
  subst hX;obtain rfl:X=[]:=du h;have:=Z x;rw[V]at this;cases this
 .exact h
theorem Cop.filter {w w':ab}{o:C}(p:Dev->ay)(A:∀ d u:Dev,u.index=d.index->p u=p d):∀ {ds cs:a1 Dev},Cop w w' o ds cs->Cop w w' o (ds.filter p) (cs.filter p)
 | [],cs,h=>by
  have:cs=[]:=du h.len;subst this;exact h
 | d::t,[],h=>by have:=h.len;cases this
 | d::t,u::J,h=>by
  have F:=h.el 0 d u rfl rfl;have N:Cop w w' o t J:=⟨by have:=h.len;simpa using this,λi x y e v=>h.el (i+1) x y e v⟩
  have I:p u=p d:=A d u (by rw[F.eq]);have z:=Cop.filter p A N;cases hpd:p d with
  | false=>rw[dw (by rw[hpd];simp),dw (by rw[I,hpd];simp)];exact z
  | true=>
   rw[dx hpd,dx (by rw[I,hpd])];refine⟨by simp[z.len],λi x y e v=>?_⟩;cases i with
   | zero=>cases e;cases v;exact F
   | succ i=>exact z.el i x y e v
def RemRes (w w':ab)(ds:a1 Dev)(n:ae)(e:Ending):Prop:=
 ∃ a' c' ds',e=.returned (.tuple #[aj #[.slice a' (dc ds') c'],.int M 0])/\Devs w' a' c' ds'/\BlkT w' a' 48/\(∀ ad,a'=E ad->(w:C)<=ad.block)/\Cop w w' (w:C) (remL n ds) ds'
theorem zOr (d:Dev)(o u N:C)(g:ae->ay)(w:ab)(z:w.heap[o]?=E (a0 #[.map (E u)] 206))(A:BMap w u g N)(v:(bu M d.index).wf=am):
  az ak 140 #[aj d.vals,ah (E ⟨o,0,G⟩)] w λe w'=>e=.returned (.bool (g d.index))/\Fr No w w':=by
 obtain⟨F,h,y,I⟩:=zy w (a0 d.vals 48);have O:=(DevB.of I).c0;have U:F ⟨o,0,G⟩=E (.map (E u)):=zB (y.heap z id) 0;have J:=(A.fr y id).look v;unfold ap at h ⊢;go_enter ej,Tryz.ntmps140;go_upto_region 1 with(fail)
 rw[<-h];clear h;go_wp2;go_ret;exact⟨rfl,y⟩
structure RemI (w0:ab)(bm mb:C)(pre:a1 Dev)(V:C->Prop)(W:ab):Prop where
 map:BMap W mb (ixs pre) (pre:C)
 foot:V=Is mb
 fr:Fr (λb=>b=mb\/(w0:C)<=b) w0 W
 box:W.heap[bm]?=E (a0 #[.map (E mb)] 206)
theorem zIK (a:ar aq)(o d8:C)(ds:a1 Dev)(n:ae)(dn:Dev)(w:ab)(hl:Tr w d8 a o ds)(hn:(ds:C)<=256)(b0:look ds n=E dn):
  az ak 89 #[aj #[.slice a ds o],.int M n] w λe w'=>RemRes w w' ds n e/\Fr No w w':=by
 have hT:=hl.wf.1;refine(dj (n:=12)).1 (di Tryz.func89 rfl trivial (wpIn_wide.2 ?_));simp only[Tryz.ntmps89,cm,bs,ci,co,cp,cb,cd,cl,cf,cj,cg];obtain⟨z,Z⟩:=ε ((((w.alloc (a0 #[.slice a ds o] 39)).alloc (a0 #[.slice G 0 0] 39)).alloc (.map #[] 0)).alloc (a0 #[.map (E ((w:C)+1+1))] 206))
 have g5:=@run_makeMap ak;obtain⟨V0,b1,f0,a2,a4⟩:=zw w (a0 #[.slice a ds o] 39) (a0 #[.slice G 0 0] 39);have sV:(V0:C)=(w:C)+1+1:=by rw[b1];simp
 rw[<-b1]at Z;have f1:Fr No V0 z:=by rw[Z];exact((ao _ _).alloc _).alloc _
 have b2:=f1.heap a2 id;have b4:=f1.heap a4 id;have b6:z.heap[(w:C)+1+1+1]?=E (a0 #[.map (E ((w:C)+1+1))] 206):=by
  have h:=zS V0 (.map #[] 0) (a0 #[.map (E ((w:C)+1+1))] 206);rw[sV]at h;rw[Z];exact h
 have hM:BMap z ((w:C)+1+1) (ixs []) 0:=by
  have h:=(zEm V0).fr (S:=No) ((ao No _).alloc (a0 #[.map (E ((w:C)+1+1))] 206)) id;rw[sV]at h;rw[Z];exact h
 have hW:Fr No w z:=f0.step f1 zi;have t2:z ⟨w,0,G⟩=E (.slice a ds o):=zB b2 0;have i3:=zC b6;go_upto_region 2 with(fail)
 rw[<-b1,<-Z];clear Z b1 f0 f1 a2 a4 sV g5;go_wp2_with fail;apply (zGW _ _ _).mono;rintro e w2 ⟨rfl,rfl⟩;have a3:Fr No z ((z.alloc (a0 #[.slice a ds o] 39)).alloc (a0 #[.int M n] 3)):=((ao _ _).alloc _).alloc _;have O:=hW.step a3 zi;have hU:SubAt ((z.alloc (a0 #[.slice a ds o] 39)).alloc (a0 #[.int M n] 3)) a o ds n (z:C) ((z:C)+1):=⟨hl.dv.no O (λ_=>id),zP _ _ _,zS _ _ _⟩
 have d2:=a3.heap b2 id;have d4:=a3.heap b4 id;have d6:=a3.heap b6 id;have dM:=hM.fr a3 id;have d3:((z.alloc (a0 #[.slice a ds o] 39)).alloc (a0 #[.int M n] 3)).heap.size=(z:C)+2:=by simp
 clear t2 b2 b4 b6 hM a3 hW;go_wp2_with fail;generalize (z.alloc (a0 #[.slice a ds o] 39)).alloc (a0 #[.int M n] 3)=W2 at *;have b3:∀ N,a=E N->ds≠[]->N.block<(w:C):=λN e a5=>(hl.dv.cell N e a5).2.1
 refine(dm (n:=12)).1 (zDS (α:=Dev) (T:=λ_=>br) (V0:=Is ((w:C)+1+1)) rfl (by omega) (gf:=192) (lb:=#[ah (E ⟨z,0,G⟩),ah (E ⟨(z:C)+1,0,G⟩)]) rfl trivial (ca dg (by kernel_rfl) rfl) (encs:=λd:Dev=>#[aj d.vals]) (λ_=>rfl) (λb h=>h.elim) (λb h=>by omega)
  (zGa 11 (by omega) a o ds n (z:C) ((z:C)+1) (Is ((w:C)+1+1)) W2 hT hU (by omega) ⟨λh=>by omega,λh=>by omega,λN e a5 h=>by have:=b3 N e a5;omega⟩)
  (RemI W2 ((w:C)+1+1+1) ((w:C)+1+1)) (λ_ _ _ h b F=>by rw[h.foot]at F;unfold Is at F;rw[F];exact h.map.lt)
  (λs V A i4 S h hf hS=>by
   have nb:∀ b,S b->¬ V b/\(W2:C)<=b:=λb F=>⟨(hS b F).1,(hS b F).2.resolve_left id⟩
   exact⟨h.map.fr hf (λF=>(nb _ F).1 (by rw[h.foot])),h.foot,h.fr.step hf (λb F hs=>.inr (nb b hs).2),hf.heap h.box (λF=>by have:=(nb _ F).2;omega)⟩)
  ⟨dM,rfl,ao _ _,d6⟩
  (λx V U W=>∃ Bx,(W2:C)+2<=Bx/\W.heap[Bx]?=E (a0 x.vals 48)/\U={ tmps:=#[aj #[.slice a ds o],.int M n,ah (E ⟨w,0,G⟩),af,ah (E ⟨(w:C)+1,0,G⟩),.int M 0,ah (E ⟨(w:C)+1+1+1,0,G⟩),ah (E ⟨Bx,0,G⟩),.map (E ((w:C)+1+1)),aj #[.slice a ds o],.int M n,.func (.func 192) #[] #[ah (E ⟨z,0,G⟩),ah (E ⟨(z:C)+1,0,G⟩)],aj x.vals,af,af,af,af,af,af,af,af,af,af,af,af,af],defers:=[] })
  (λx V U A i4 h hf=>by obtain⟨Bx,h1,h2,h3⟩:=h;exact⟨Bx,h1,hf.heap h2 (λe=>by omega),h3⟩)
  ?assign ?body ?done)
 case assign=>
  intro l pre V x W K X b7 hK;have i5:=λU W' (h1:Fr No W W') h2=>hK U W' h1 h2
  clear b3 d3 hU O d2 d4 d6 dM hl hT b0;unfold ap
  gi_wp2
  exact hK _ _ ((ao _ _).alloc _) ⟨(W:C),b7,zF _ _,rfl⟩
 case body=>
  rintro l pre V x U W X ⟨Bx,i6,d9,rfl⟩ a7 b7;have e0:x∈ds:=zBW (da a7 (by simp));have g6:=hT.iwf e0;have i7:(pre:C)<=256:=by
   have h7:=a7.length_le;have h8:=zDe n ds (λ_=>ag);simp at h7;omega
  have t6:W ⟨(w:C)+1+1+1,0,G⟩=E (.map (E ((w:C)+1+1))):=zB X.box 0;have t0:W ⟨Bx,0,G⟩=E (.int M x.index):=zB d9 0;have g7:=X.map;have HI:=zh X;clear X a7 e0 d9 b3 d3 hU O d2 d4 d6 dM hl hT b0
  gi_wp2_with (gi_at_mapUpdate;refine zCZ rfl _ _ _ 206 rfl cu ((w:C)+1+1) _ _ (by unfold ba;omega) x.index g6 am rfl g7 rfl rfl ?_;intro w3 e4 I)
  have e5:=HI.foot;refine⟨V,λb h=>.inl h,⟨?_,e5,HI.fr.step I (λb F h=>.inl h),I.heap HI.box (λh=>by omega)⟩,by rw[e5];exact I⟩;rw[zNC]at e4;obtain⟨D,q,h1,h2⟩:=e4;exact⟨D,q,by rw[bj];exact h1,h2⟩
 case done=>
  rintro V W X hK g8;have u:Fr (Is (W2:C)) W (W.putObj (W2:C) (.deferred G)):=bi _ _ _ rfl;have t6:W ⟨(w:C)+1+1+1,0,G⟩=E (.map (E ((w:C)+1+1))):=zB X.box 0;have k2:=X.fr.heap d2 (λh=>by have:=zC d2;omega);have k4:=X.fr.heap d4 (λh=>by have:=zC d4;omega);have t2:W ⟨w,0,G⟩=E (.slice a ds o):=zB k2 0;have FW:Fr No w W:=O.step (X.fr) (λb F h=>by have:=O.size;omega);obtain⟨y,hy⟩:=List.exists_mem_of_ne_nil _ (zOk (R:=λ_=>ag) b0);have g9:ixs (subL n ds (λ_=>ag)) y.index=true:=List.any_eq_true.2 ⟨y,hy,by simp⟩;have e6:=zCP a o ds W (hl.dv.no FW (λ_=>id)) (by omega) (λx hx=>by
   obtain⟨l',g1,g2,g3⟩:=(hl.el x hx).att;exact⟨l',g1.no FW (λ_=>id),g2,g3⟩)
  have b8:=X.map;have h9:(w:C)+2<=(W2:C):=by have:=O.size;omega
  have HB:=zg3 X.box X.map k4;have HF:=zg2 FW hK;have HT:=zh hT;have HL:=zh hl;have h0:=FW.size;clear X u O hy b3 d3 hU d2 d4 d6 dM b0 g8 k2 hl hT FW hK k4;go_upto_region 7 with(at_len;refine zHN rfl _ 206 rfl cu ((w:C)+1+1) _ _ rfl b8 y.index g9 ?_;intro q hq;have i8:((q:ae)==0)=false:=by simp;omega)
  go_wp2_with fail;apply e6.mono;rintro e w3 ⟨⟨v,cs,rfl,J,Y⟩,I⟩;obtain⟨av,cv,rfl⟩:=zI J;have i9:(cs:C)<=256:=by have:=Y.len;omega
  have b9:=zJ1 140 #[ah (E ⟨(w:C)+1+1+1,0,G⟩)] (ca ej (by kernel_rfl) rfl) (λd=>ixs (subL n ds (λ_=>ag)) d.index) (W:C) av cv cs w3 J (by omega) (λx hx W' e7=>by
   have a5:∀ b,b<(W:C)->¬ (au av cs cv).ownBlock=E b:=λb F h=>by have:=(zAF J h).1;omega
   have h1:=zC HB.1;obtain⟨d0,h4,h5⟩:=Y.mem hx;exact zOr x _ _ _ _ W' (e7.heap (I.heap HB.1 id) (a5 _ (zC HB.1))) ((HB.2.1.fr I id).fr e7 (a5 _ HB.2.1.lt)) (by rw[h5.eq];show (bu M d0.index).wf=am;exact HT.iwf h4))
  have HC:=zg2 Y J;have h6:=zh I;clear Y J t2 e6 b8 I;go_wp2_with fail;apply b9.mono;rintro e w4 ⟨⟨U,c',k,rfl,hk,a8⟩,d5⟩;have b5:Fr No W w4:=(h6.step d5 (λb F h=>by have:=(zAF HC.2 h).1;omega))
  have k4:=b5.heap HB.2.2 id;have e8:∀ b,b<(W:C)->¬ (au U k c').ownBlock=E b:=λb F h=>by have:=(zAF a8 h).1;omega
  have f4:=zD k4 0;have z4:w4 ⟨(w:C)+1,0,G⟩=E (.slice G 0 0):=zB k4 0;have x5:Fr (Is ((w:C)+1)) w4 (w4.setCell ⟨(w:C)+1,0,G⟩ (.slice U k c')):=be (ao _ _) _;have k5:=zE k4 0 (.slice U k c');have a9:=zG a8 x5 (λb F h=>by unfold Is at h;exact e8 _ (zC HB.2.2) (by rw[<-h];exact F));have d7:Cop W w4 (W:C) (remL n ds) (cs.filter λx=>!ixs (subL n ds (λ_=>ag)) x.index):=((HC.1.own HC.2 d5).filter _ (λd d' e=>by rw[e]))
  have e9:=d7.fr x5 (λd hd N e h=>by
   obtain⟨y,_,hc⟩:=d7.mem hd;have:=hc.fresh N e;have:=zC HB.2.2;unfold Is at h;omega)
  subst hk;obtain⟨a6,c6,hv,g0,d1⟩:=dq a9;injection hv with e1 e2 e3
  subst e1 e3;have H5:=zg7 g0 (zAI a9) d1 e9 ((HF.1.step b5 zi).step x5 (λb F h=>by omega)) (x5.heap (b5.heap HF.2 id) (λh=>by omega)) k5;have z5:(w4.setCell ⟨(w:C)+1,0,G⟩ (.slice U (cs.filter λx=>!ixs (subL n ds (λ_=>ag)) x.index).length c')) ⟨(w:C)+1,0,G⟩=E (.slice U (cs.filter λx=>!ixs (subL n ds (λ_=>ag)) x.index).length c'):=zB k5 0;have u:Fr (Is (W2:C)) (w4.setCell ⟨(w:C)+1,0,G⟩ (.slice U (cs.filter λx=>!ixs (subL n ds (λ_=>ag)) x.index).length c')) _:=bi _ (W2:C) (.deferred G) rfl;clear k5 x5 a9 d7 e9 g0 d1 a8 d5 b5 k4;obtain⟨fs,g4⟩:∃ fs,fs=cs.filter λx=>!ixs (subL n ds (λ_=>ag)) x.index:=⟨_,rfl⟩
  rw[<-g4]at H5 z5 u ⊢;clear g4 b9;go_wp2_with fail;refine⟨by simp,.inl ⟨_,_,rfl,dl H5.2.2.2.2.2.1,?_⟩⟩;have i0:=zC HF.2;have z6:=u.cell z5 (λh=>by unfold Is at h;dsimp only at h;omega);refine⟨.tuple #[aj #[.slice U fs.length c'],.int M 0],by simp[cw,Tryz.results89,go_sem,z6],⟨U,c',fs,rfl,H5.1.fr u (λN e _ h=>by have:=H5.2.2.1 N e;omega),H5.2.1.fr u (λN e h=>by have:=H5.2.2.1 N e;omega),λN e=>by have:=H5.2.2.1 N e;omega,?_⟩,H5.2.2.2.2.1.step u (λb F h=>by omega)⟩;exact(H5.2.2.2.1.fr u (λd hd N e h=>by
   obtain⟨y,_,hc⟩:=H5.2.2.2.1.mem hd;have:=hc.fresh N e;unfold Is at h;omega)).src HF.1 (λd hd=>by
   obtain⟨l',g1,g2,_⟩:=(HL.el d (List.mem_filter.1 hd).1).att;exact⟨l',g1,g2⟩) h0
attribute [local go_sem] cq
def EvL (n:C)(xs:a1 aw):Prop:=∀ i,i<n->∃ (q c x:ae) (p y:ax),xs[i*5]?=E (.int M q)/\xs[i*5+1]?=E (.int M c)/\xs[i*5+2]?=E (.int M x)/\xs[i*5+3]?=E (.string p)/\xs[i*5+4]?=E (.string y)
theorem EvL.nil: EvL 0 []:=λi h=>by omega
theorem EvL.snoc {n:C}{o:a1 aw}(h:EvL n o)(u:(o:C)=n*5)(q c x:ae)(p y:ax):EvL (n+1) (o++[.int M q,.int M c,.int M x,.string p,.string y]):=λi z=>by
 by_cases v:i<n
 .obtain⟨q,c,x,p,y,A,F,I,J,N⟩:=h i v;refine⟨q,c,x,p,y,?_,?_,?_,?_,?_⟩<;>rw[List.getElem?_append_left (by omega)]<;>assumption
 .obtain rfl:i=n:=by omega
  refine⟨q,c,x,p,y,?_,?_,?_,?_,?_⟩<;>rw[List.getElem?_append_right (by omega),u];·rw[Nat.sub_self];rfl
  .rw[cn];rfl
  .rw[cn];rfl
  .rw[cn];rfl
  .rw[cn];rfl
theorem Evs.of_own {n c:C}{y:a1 aw}(h:w.ownsRow o 143 5 (.slice a n c) n y)(F:EvL n y):Evs w a n y:=by
 refine⟨λe=>(zHe h e).1,λO e=>?_,F⟩;obtain⟨_,⟨z,_⟩|⟨g,I,J,z,U,A,V,X,Y,N⟩⟩:=h;·cases z;cases e
 .cases z;cases e;refine⟨rfl,zC A,λj u v=>?_⟩;have Z:=(List.getElem?_eq_some_iff.1 v).1;rw[zB A,Nat.zero_add,<-Array.getElem?_toList];rw[<-N,List.getElem?_take]at v;split at v;·exact v
  .cases v
theorem zB4 {L:a1 α}{p:ae×α}(h:p∈revR L):p.2∈L:=by
 unfold revR at h;obtain⟨q,o,u⟩:=List.mem_map.1 h;rw[List.mem_reverse]at o;have v:=List.mem_zipIdx o;rw[<-u];dsimp only;rw[v.2.2];exact List.getElem_mem _
structure KrI (w0:ab)(bt rb:C)(pre:a1 (ae×Dev))(V:C->Prop)(W:ab):Prop where
 st:∃ (av:ar aq) (cv:C) (xs:a1 aw),W.heap[bt]?=E (a0 #[.slice av pre cv] 57)/\W.ownsRow rb 143 5 (.slice av pre cv) (pre:C) xs/\EvL (pre:C) xs/\V=λb=>b=bt\/(au av pre cv).ownBlock=E b
 fr:Fr (λb=>b=bt\/(w0:C)<=b) w0 W
theorem KrI.mv {u:ab}{I:C}{pre:a1 (ae×Dev)}{J:ab}(h:KrI u F I pre V A)(v:Fr S A J)(y:∀ b,S b->¬ V b/\(u:C)<=b):KrI u F I pre V J:=by
 obtain⟨N,O,U,X,Y,Z,h4⟩:=h.st;subst h4;exact⟨⟨N,O,U,v.heap X (λo=>(y _ o).1 (.inl rfl)),zG Y v (λb o z=>(y _ z).1 (.inr o)),Z,rfl⟩,h.fr.step v (λb o z=>.inr (y b z).2)⟩
theorem KSt.obj {I:C}{u:C}{q:C}(h:KSt w I o a u ds y J N O)(z:Fr (Is q) w w')(A:∀ cs T V,¬ w.heap[q]?=E (a0 cs T V)):KSt w' I o a u ds y J N O:=by
 obtain⟨X,Y,Z⟩:=Tr.typ h.tr h.ta h.te z (λb cs T v F=>absurd (v▸F) (A cs T (0,0)));obtain⟨xs,U⟩:=h.own;refine⟨z.heap h.blk (λe=>A _ _ _ (e▸h.blk)),X,Y,Z,⟨xs,zG U z (λb v e=>?_)⟩,h.nm⟩;cases y with
 | none=>cases v
 | some ad=>
  obtain⟨cs,F⟩:=zAI U ad rfl;cases v;exact A _ _ _ (e▸F)
def RemK (w w':ab)(kb base:C)(ds:a1 Dev)(n:ae)(en:C)(ix:ae):Prop:=
 ∃ a' cap' ds' ev' en' ec',KSt w' kb base a' cap' ds' ev' en' ec' ix/\en'<=en+(ds:C)/\Cop w w' (w:C) (remL n ds) ds'
theorem zM8 (J I:C)(a:ar aq)(Y:C)(ds:a1 Dev)(ev:ar aq)(en ec:C)(ix k:ae)(d1 nm vl:ax)(x d dn:Dev)(w:ab)(Z:KSt w J I a Y ds ev en ec ix)(r0:en<=60000000)(hn:(ds:C)<=256)(O:I<=(w:C))(j0:look ds d.index=E dn)(j6:∀ w' o,Cop w w' (w:C) (remL d.index ds) o->TreeWf o):
  az ak 78 #[ah (E ⟨J,0,G⟩),aj (ocs k d1 x nm vl),aj d.vals] w λe w'=>e=.returned (.int M 0)/\RemK w w' J I ds d.index en ix/\KFr J (.slice ev en ec) w w':=by
 obtain⟨ie,n8,n9,o0,o1⟩:=info_parts infoE;refine(dj (n:=12)).1 (di em rfl trivial (wpIn_wide.2 ?_));simp only[Tryz.ntmps78,cm,bs,ci,co,cp,cb,cd,cl,cf,cj,cg];obtain⟨V0,e8,f0,a3,-⟩:=zw w (a0 #[ah (E ⟨J,0,G⟩)] 26) (a0 (ocs k d1 x nm vl) 72);obtain⟨W0,d2,f1,-,-⟩:=zw V0 (a0 d.vals 48) (a0 #[.slice G 0 0] 57);have sV:(V0:C)=(w:C)+1+1:=by rw[e8];simp
 have b3:=f1.heap a3 id;have b5:W0.heap[(w:C)+1+1]?=E (a0 d.vals 48):=by rw[d2,<-sV];exact zP _ _ _
 have b7:W0.heap[(w:C)+1+1+1]?=E (a0 #[.slice G 0 0] 57):=by rw[d2,<-sV];exact zS _ _ _
 have hW:Fr No w W0:=f0.step f1 zi;have o2:=Z.tr.wf.1.iwf (zAR j0).1;rw[(zAR j0).2]at o2;unfold ap at d2;unfold ocs at e8;clear f0 a3 sV f1;unfold ap ocs;go_upto_region 2 with(fail)
 rw[<-e8,<-d2];clear e8 d2;have HK:=zh Z;have o3:=zh j6;have o4:=zC Z.blk;have o5:=zC b7;have j7:=hW.heap Z.blk id;clear Z j6;refine zO No [(0,ag),(1,ag),(2,ag),(3,ag),(4,ag),(5,ag),(6,am),(7,am)] (λw1 b4=>?_);have c3:=b4.heap b3 id;have c5:=b4.heap b5 id;have c7:=b4.heap b7 id;have ck:=b4.heap j7 id;have t3:∀ g:Gr No w1,g.W ⟨w,0,G⟩=E (ah (E ⟨J,0,G⟩)):=λg=>zB (g.fr.heap c3 id) 0
 have t5:∀ g:Gr No w1,g.W ⟨(w:C)+1+1,0,G⟩=E (.int M d.index):=λg=>zB (g.fr.heap c5 id) 0
 have t0:∀ g:Gr No w1,g.W ⟨J,0,G⟩=E (.slice a ds Y):=λg=>zB (g.fr.heap ck id) 0
 have x1:=hW.step b4 zi;have h5:=zKV a Y I ds d.index w1 (HK.tr.no x1) hn;clear b3 b5 b7 j7 hW b4;(repeat apply zR rfl rfl rfl;intro K Z;go_big_quiet_op;go_big_quiet_on);clear t3 t5 t0;apply zu rfl;go_wp2_with fail;apply h5.mono;rintro e w2 ⟨⟨a2,c2,N,rfl,j8,_,h6,j1⟩,a8⟩;have r1:(N:C)<=256:=by have:=j1.len;have:=zDe d.index ds (λ_=>ag);omega
 have j9:=zh j1;clear h5 j1;go_wp2_with fail;apply zf a8;apply zu rfl;go_wp2_with fail;apply (zJM _ _ _ _).mono;rintro e w3 ⟨rfl,rfl⟩;have b6:Fr No w2 (w2.alloc (a0 #[.slice a2 N c2] 37)):=(ao _ _).alloc _;have db:=zF w2 (a0 #[.slice a2 N c2] 37);have e9:=j8.no b6 (λ_=>id);have x3:=(x1.step a8 zi).step b6 zi;have d3:=(a8.step b6 zi).heap c3 id;have d5:=(a8.step b6 zi).heap c5 id;have d7:=(a8.step b6 zi).heap c7 id;have o6:(w:C)+3<(w2:C):=by have:=zC c7;have:=a8.size;omega
 have r2:(w2:C)<(w2.alloc (a0 #[.slice a2 N c2] 37)).heap.size:=by simp
 have a9:∀ v,a2=E v->(w:C)+3<v.block:=λv e=>by have:=h6 v e;have:=zC c7;omega
 clear c3 c5 c7 ck j8 a8 b6 x1 h6;go_wp2_with fail;refine bc ⟨(ao No _).alloc _,?_⟩;apply zb;generalize d4:(w2:C)=B2 at *;generalize w2.alloc (a0 #[.slice a2 N c2] 37)=W2 at *;go_wp2_with fail;refine(dm (n:=12)).1 (zAs (α:=ae×Dev) (T:=λ_=>br) (V0:=Is ((w:C)+1+1+1)) rfl (by omega) (gf:=137) (lb:=#[ah (E ⟨B2,0,G⟩)]) rfl trivial (ca Tryz.func137 (by kernel_rfl) rfl) (encs:=λx:ae×Dev=>#[.int M x.1,aj x.2.vals]) (λ_=>rfl) (λb h=>h.elim) (λb h=>by omega)
  (zCL 11 (by omega) B2 a2 c2 N W2 (Is ((w:C)+1+1+1)) db e9 (by omega) ⟨λh=>by omega,λv e _ h=>by have:=a9 v e;omega⟩)
  (KrI W2 ((w:C)+1+1+1) ((W2:C)+2)) (λ_ _ _ h b O=>by
   obtain⟨av,cv,xs,h1,h2,_,rfl⟩:=h.st;rcases O with rfl|O
   .exact zC h1
   .exact(zAF h2 O).2)
  (λs V A r3 S h hf hS=>h.mv hf (λb O=>⟨(hS b O).1,(hS b O).2.resolve_left id⟩))
  ⟨⟨G,0,[],d7,et _ _ _ _,EvL.nil,by funext b;unfold Is;simp[eo]⟩,ao _ _⟩
  (λy V z W=>∃ Bx,(W2:C)+2<=Bx/\W.heap[Bx]?=E (a0 y.2.vals 48)/\¬ V Bx/\z={ tmps:=#[ah (E ⟨J,0,G⟩),aj #[.int M k,.string d1,.int M x.index,.int M x.parent,.string x.name,.string x.orig,.string x.sub,.string x.drv,.string x.ali,.int M x.kind,.int M x.num,.slice x.aa x.an x.ac,.string nm,.string vl],aj #[.int M d.index,.int M d.parent,.string d.name,.string d.orig,.string d.sub,.string d.drv,.string d.ali,.int M d.kind,.int M d.num,.slice d.aa d.an d.ac],ah (E ⟨w,0,G⟩),ah (E ⟨(w:C)+1,0,G⟩),ah (E ⟨(w:C)+1+1,0,G⟩),.int M 0,ah (E ⟨(w:C)+1+1+1,0,G⟩),af,ah (E ⟨Bx,0,G⟩),af,af,ah (E ⟨J,0,G⟩),ah (E ⟨J,0,G⟩),ah (E ⟨J,0,G⟩),aj #[.slice a ds Y],ah (E ⟨(w:C)+1+1,0,G⟩),.int M d.index,.slice a2 N c2,.func (.func 137) #[] #[ah (E ⟨B2,0,G⟩)],.int M y.1,aj y.2.vals,af,af,af,af,af,af,af,af,af,af,af,af,af,af,af,af,af,af,af,af,af,af,af,af,af,af,af],defers:=[] })
  (λy V z A r3 h hf=>by obtain⟨Bx,h1,h2,h3,h4⟩:=h;exact⟨Bx,h1,hf.heap h2 (λe=>by omega),h3,h4⟩)
  ?assign ?body ?done)
 case assign=>
  intro l pre V y W K hi h8 Z;have o7:∀ b,V b->b<(W:C):=λb O=>by
   obtain⟨av,cv,xs,h1,h2,_,rfl⟩:=hi.st;rcases O with rfl|O
   .exact zC h1
   .exact(zAF h2 O).2
  have r4:=λz W' (h1:Fr No W W') h2=>Z z W' h1 h2
  clear a9 d3 d5 d7 db e9 x3;unfold ap
  gi_wp2
  exact Z _ _ ((ao _ _).alloc _) ⟨(W:C),h8,zF _ _,λh=>by have:=o7 _ h;omega,rfl⟩
 case body=>
  rintro l pre V y z W hi ⟨Bx,r5,k0,k3,rfl⟩ d6 h8;obtain⟨av,cv,xs,h1,h2,h3,rfl⟩:=hi.st;have k4:=zB4 (da d6 (show y∈pre++[y] by simp));have r6:(pre:C)<=256:=by
   have h7:=d6.length_le;rw[zAf]at h7;simp at h7;omega
  obtain⟨d0,l0,l1⟩:=j9.mem k4;have l2:(bu M y.2.index).wf=true:=by
   rw[l1.eq];show (bu M d0.index).wf=am
   exact HK.tr.wf.1.iwf (zBW l0)
  have o8:=x3.size;have fw:Fr (From (w:C)) w W:=(x3.mono zn).step hi.fr (λb O h=>by omega);have ek:=fw.heap HK.blk (λh=>by omega);have l4:=HK.tr.keep fw (λb O _ h=>by omega);have e3:=hi.fr.heap d3 (λh=>by have:=zC d3;omega);have HI:=zh hi.fr;clear hi d6 k4 l0 l1 a9 d3 d5 d7 db e9 x3 fw;dsimp only at k3;dsimp only
  gi_upto_region 4 with(fail)
  refine zCS 7 (λb=>(au av pre cv).ownBlock=E b) (.q 0 (.q 1 (.q 2 (.q 3 (.m1 4 (.m1 5 (.m1 6 (.m1 7 .fin)))))))) _ (λW3 X=>?_) zj;have s3:=X.size;have k7:=X.heap h1 id;have b0:=zG h2 X (λ_ _=>id);have n7:=zK b0 k7 (by decide);have nx:¬ (au av pre cv).ownBlock=E Bx:=λh=>k3 (.inr h)
  have g3:=X.heap e3 id;have n3:=zK b0 g3 (by decide);have t7:∀ g:Gr (λb=>(au av pre cv).ownBlock=E b) W3,g.W ⟨(w:C)+1+1+1,0,G⟩=E (.slice av pre cv):=λg=>zB (g.fr.heap k7 n7) 0
  have t3:∀ g:Gr (λb=>(au av pre cv).ownBlock=E b) W3,g.W ⟨w,0,G⟩=E (ah (E ⟨J,0,G⟩)):=λg=>zB (g.fr.heap g3 n3) 0
  have tx:∀ g:Gr (λb=>(au av pre cv).ownBlock=E b) W3,g.W ⟨Bx,0,G⟩=E (.int M y.2.index):=λg=>zB (g.fr.heap (X.heap k0 id) nx) 0
  have l5:=zHq J a Y I ds ev en ec ix 2 y.2.index W3 (X.heap ek id) (l4.no X) (by omega) l2 HK.nm;have o9:=zh X;clear k0 h1 h2 ek l4 e3 g3 X l2;(repeat apply tx_q rfl rfl rfl;intro K Z;go_big_quiet_op;go_big_quiet_on);clear t7 t3 tx n3 nx;apply zBG rfl;go_wp2_with fail;apply l5.mono;rintro e W4 ⟨⟨sp,rfl⟩,b8⟩;clear l5;have s4:=b8.size;have h9:=zG b0 b8 (λ_ _=>id);have al:=(ao No W4).alloc (a0 #[.int M 0,.int M 2,.int M y.2.index,.string sp,.string ()] 143);have b1:=zG h9 al (λ_ _=>id);have k5:=al.heap (b8.heap k7 id) id;have l6:=zh al;have p0:=zh (o9.step b8 zi);clear b0 h9 k7 al;go_wp2_with fail;refine bc ⟨λ_=>b8.mono zn,?_⟩;clear b8;apply zBG rfl;go_wp2_with fail;refine bc ⟨λ_=>l6.mono zn,?_⟩;apply zBG rfl;go_wp2_with (at_builtin;refine ew _ rfl _ _ 57 rfl ((W2:C)+2) 143 ie (aj #[.int M 0,.int M 0,.int M 0,.string bn,.string bn]) 5 56 Tryz.underlying57 n8 n9 o0 o1 rfl (by decide) _ _ _ rfl b1 ⟨W4,0,G⟩ 1 1 [.int M 0,.int M 2,.int M y.2.index,.string sp,.string ()] rfl rfl (zl _ #[.int M 0,.int M 2,.int M y.2.index,.string sp,.string ()] _ rfl) (λu hu=>by simp at hu;rcases hu with rfl|rfl|rfl|rfl|rfl<;>rfl) (by unfold ba;omega) (by omega) (by rw[bw];omega) ?_;intro v' w6 b2 l8 _ p1;obtain⟨g0,g4,rfl⟩:=zI b2)
  have gf:Fr (λb=>(au av pre cv).ownBlock=E b) (W4.alloc (a0 #[.int M 0,.int M 2,.int M y.2.index,.string sp,.string ()] 143)) w6:=Fr.of_grown l8;apply zf gf;have k6:=gf.heap k5 n7;have n6:=zK b2 k6 (by decide);have t7:w6 ⟨(w:C)+1+1+1,0,G⟩=E (.slice av pre cv):=zB k6 0;have f7:w6.frozen? ⟨(w:C)+1+1+1,0,G⟩=false:=zD k6 0;have x8:Fr (Is ((w:C)+1+1+1)) w6 (w6.setCell ⟨(w:C)+1+1+1,0,G⟩ (.slice g0 ((pre:C)+1) g4)):=be (ao _ _) _;have k8:=zE k6 0 (.slice g0 ((pre:C)+1) g4);have d8:=zG b2 x8 (λb O h=>n6 (by unfold Is at h;rw[<-h];exact O));have ff:Fr (λb=>b=(w:C)+1+1+1\/(au av pre cv).ownBlock=E b) W _:=(((p0.step l6 zi).mono zn).step gf (λb _ h=>.inr h)).step x8 (λb _ h=>.inl h);have HR:=zg4 k8 d8 ff (h3.snoc b1.1 0 2 y.2.index sp ());have HO:ai (∀ b,(au g0 ((pre:C)+1) g4).ownBlock=E b->(W2:C)+2<=b):=λb h=>(zAF d8 h).1
  have p2:ai (∀ b,(au av pre cv).ownBlock=E b->(W2:C)+2<=b):=λb h=>(zAF b1 h).1
  clear b1 b2 d8 l8 gf k5 k6 k8 x8 ff n6 n7 p1;apply zBG rfl;go_wp2_with fail;refine bc ⟨λh=>(h rfl).elim,?_⟩;apply zGU;refine⟨_,?_,⟨⟨g0,g4,_,by rw[bj];exact HR.1,by rw[bj];exact HR.2.1,by rw[bj];exact HR.2.2.2,rfl⟩,HI.step HR.2.2.1 (λb O h=>?_)⟩,HR.2.2.1⟩
  .rintro b (h|h);·exact .inl (.inl h)
   .rw[bj]at h;exact .inr (HO b h)
  .rcases h with h|h
   .exact .inl h
   .exact .inr (by have:=p2.out b h;omega)
 case done=>
  rintro V W hi Z j2;obtain⟨av,cv,xs,h1,h2,h3,j3⟩:=hi.st;have l9:(revR N).length=(N:C):=zAf N;rw[l9]at h1 h2 h3 j3;rw[j3]at j2;have o8:=x3.size;have FW:Fr No w W:=(x3.step hi.fr (λb O h=>by omega))
  have ek:=FW.heap HK.blk id;have e3:=hi.fr.heap d3 (λh=>by have:=zC d3;omega);have e5:=hi.fr.heap d5 (λh=>by have:=zC d5;omega);have i0:=λ(W':ab) (hf:Fr No W W')=>zIK a Y I ds d.index dn W' (HK.tr.no (FW.step hf zi)) hn j0
  have i3:=zh i0;have HW:=zg5 FW h1 h2 h3 Z;have r7:=zh j2;have i4:ai (∀ y∈remL d.index ds,∃ l,Atts W y.aa y.ac l/\y.an=l.length):=λy hy=>by
   obtain⟨l',g1,g2,_⟩:=(HK.tr.el y (List.mem_filter.1 hy).1).att;exact⟨l',g1.no FW (λ_=>id),g2⟩
  clear hi h1 h2 h3 j3 j2 Z i0 FW a9 d3 d5 d7 db e9 x3 l9 o5 o6;go_upto_region 5 with(fail)
  go_cut [10,11]from 29 (λp3 p4 wy=>∃ Bt z U o,p3=ah (E ⟨Bt,0,G⟩)/\p4=.int M 0/\ai (wy.heap[Bt]?=E (a0 #[.slice z (dc o) U] 39)/\(W:C)<=Bt)/\ai (Devs wy z U o/\BlkT wy z 48/\(∀ v,z=E v->(W:C)<=v.block)/\Cop W wy (W:C) (remL d.index ds) o)/\Fr No W wy);case first=>
   refine zZ (λb=>(W:C)<=b) (.q 0 (.q 1 (.q 2 (.q 3 (.q 4 (.q 5 (.m2 6 (.q 7 (.q 8 (.q 9 (.m1 10 (.m1 11 (.q 12 .fin)))))) 10 (.m1 6 (.q 7 (.q 8 (.q 9 (.m1 11 (.q 12 .fin))))))))))))) _ (λW8 F=>?_) zj;have s8:=F.size;have t3:∀ g:Gr (λb=>(W:C)<=b) W8,g.W ⟨w,0,G⟩=E (ah (E ⟨J,0,G⟩)):=λg=>zB (g.fr.heap (F.heap e3 id) (λh=>by have:=zC e3;omega)) 0
   have t5:∀ g:Gr (λb=>(W:C)<=b) W8,g.W ⟨(w:C)+1+1,0,G⟩=E (.int M d.index):=λg=>zB (g.fr.heap (F.heap e5 id) (λh=>by have:=zC e5;omega)) 0
   have t0:∀ g:Gr (λb=>(W:C)<=b) W8,g.W ⟨J,0,G⟩=E (.slice a ds Y):=λg=>zB (g.fr.heap (F.heap ek id) (λh=>by have:=zC ek;omega)) 0
   have b9:=zh F;clear F;(repeat apply zL rfl rfl rfl;intro K Z;go_big_quiet_op;go_big_quiet_on);clear t3 t5 t0;refine zAB rfl rfl ?_ ?_
   focus
    go_wp2_with fail;apply (i3 W8 b9).mono;rintro e w9 ⟨⟨z,U,o,rfl,hD,d9,a4,a5⟩,g5⟩;have s9:=g5.size;have HR:=zg4 hD d9 a4 a5;clear hD d9 a4 a5;go_wp2_with fail;apply zm g5;(repeat apply zL rfl rfl rfl;intro K Z;go_big_quiet_op;go_big_quiet_on);apply zH rfl;obtain⟨WA,m0,fA,qA⟩:=zy w9 (a0 #[.slice G 0 0] 39);go_wp2_with fail;apply zp;rw[<-m0];clear m0;have HT:ai (Devs WA z U o/\BlkT WA z 48/\(∀ v,z=E v->(W:C)<=v.block)/\Cop W WA (W:C) (remL d.index ds) o):=⟨HR.1.no fA (λ_=>id),HR.2.1.fr fA (λ_ _=>id),λv e=>by have:=HR.2.2.1 v e;omega,(HR.2.2.2.src b9 i4 s8).fr fA (λ_ _ _ _=>id)⟩
    have i5:ai (Fr No W WA):=(b9.step g5 zi).step fA zi;have d4:ai ((W:C)<=(w9:C)):=(by unfold ai;omega);clear HR fA g5 s9;generalize (w9:C)=Bt at *
   rotate_left 1
   focus
    obtain⟨W9,m3,f9,q9⟩:=zy W8 (a0 #[.slice G 0 0] 39);go_wp2_with fail;apply zp;rw[<-m3];clear m3;apply zH rfl;go_wp2_with fail;apply (i3 W9 (b9.step f9 zi)).mono;rintro e WA ⟨⟨z,U,o,rfl,hD,d9,a4,a5⟩,g6⟩;have s9:=f9.size;have qA:=g6.heap q9 id;have HT:ai (Devs WA z U o/\BlkT WA z 48/\(∀ v,z=E v->(W:C)<=v.block)/\Cop W WA (W:C) (remL d.index ds) o):=⟨hD,d9,λv e=>by have:=a4 v e;omega,a5.src (b9.step f9 zi) i4 (by omega)⟩
    have i5:ai (Fr No W WA):=(b9.step f9 zi).step g6 zi;have d4:ai ((W:C)<=(W8:C)):=s8;clear hD d9 a4 a5 q9;go_wp2_with fail;apply zm g6;(repeat apply zL rfl rfl rfl;intro K Z;go_big_quiet_op;go_big_quiet_on);clear f9 g6 s9;generalize (W8:C)=Bt at *
   all_goals (
    apply zH rfl;have y0:=zD qA 0;have z0:WA ⟨Bt,0,G⟩=E (.slice G 0 0):=zB qA 0;have fB:Fr (Is Bt) WA (WA.setCell ⟨Bt,0,G⟩ (.slice z o.length U)):=be (ao _ _) _;have qB:=zE qA 0 (.slice z o.length U);have n1:=cz HT.2.1 qA (by decide);have HU:ai (Devs (WA.setCell ⟨Bt,0,G⟩ (.slice z o.length U)) z U o/\BlkT (WA.setCell ⟨Bt,0,G⟩ (.slice z o.length U)) z 48/\(∀ v,z=E v->(W:C)<=v.block)/\Cop W (WA.setCell ⟨Bt,0,G⟩ (.slice z o.length U)) (W:C) (remL d.index ds) o):=
     ⟨HT.1.fr fB (λv e _=>n1 v e),HT.2.1.fr fB n1,HT.2.2.1,HT.2.2.2.fr fB (λd hd=>by
      obtain⟨y,_,hy⟩:=HT.2.2.2.mem hd;exact cz hy.typ qA (by decide))⟩
    have p5:ai (Fr No W (WA.setCell ⟨Bt,0,G⟩ (.slice z o.length U))):=i5.step fB (λb O h=>by have:=d4.out;omega);have p6:=zh qB;clear qB fB n1 qA;go_wp2_with fail;refine bc ⟨Fr.setCell (ao _ _) (λ_=>d4) _,?_⟩;(repeat apply zL rfl rfl rfl;intro K Z;go_big_quiet_op;go_big_quiet_on);apply zW;go_wp2;go_meet;exact⟨Bt,z,U,o,rfl,rfl,⟨p6,d4⟩,HU,p5⟩
    )
  case rest=>
   obtain⟨Bt,z,U,o,rfl,rfl,m4,HU,F⟩:=hcut;have r8:J<(w:C):=o4;have k8:=F.heap ek id;have g3:=zB (F.heap e3 id) 0;have gB:=zB m4.1 0;have g7:=F.heap HW.2.1 id;have gd:=F.heap HW.2.2.2.2 id;have sW:=HW.1.size;have l3:=zC e3;have l7:=zC HW.2.1;have ld:=zC HW.2.2.2.2;have y0:=zD k8 0;have z0:wc ⟨J,0,G⟩=E (.slice a ds Y):=zB k8 0;have f9:Fr (Is J) wc (wc.setCell ⟨J,0,G⟩ (.slice z o.length U)):=be (ao _ _) _;have k9:(wc.setCell ⟨J,0,G⟩ (.slice z o.length U)).heap[J]?=E (a0 (kcs z o.length U ev en ec ix) 59):=zE k8 0 _;obtain⟨xk,g8⟩:=HK.own;have e0:=zG g8 (HW.1.step F zi) (λ_ _=>id);have nk:=zK e0 k8 (by decide);have e1:=zG e0 f9 (λb O h=>by unfold Is at h;subst h;exact nk O);have m5:=(((Evs.of_own HW.2.2.1 HW.2.2.2.1).fr F (λ_ _=>id)).fr f9 (λv e h=>by
    have:=(zAF HW.2.2.1 (b:=v.block) (by rw[e];rfl)).1;unfold Is at h;omega))
   have H9:=zg3 (f9.heap g7 (λh=>by omega)) (f9.heap gd (λh=>by omega)) f9;have HB:=zh F;have p7:=(f9.cell g3 (λh=>by unfold Is at h;dsimp only at h;omega))
   go_upto_region 9 with(fail)
   generalize wc.setCell ⟨J,0,G⟩ (.slice z o.length U)=W9 at *;have s9:(w:C)<=(W9:C):=(by have:=H9.2.2.size;have:=HB.size;omega);have p8:=zB H9.1 0;have m6:=zLV J I z o.length U ev en ec ix av (N:C) cv xs xk W9 k9 e1 (by omega) (by omega) m5 (by omega) (λv e=>by
    have h1:=(zAF HW.2.2.1 (b:=v.block) (by rw[e];rfl)).1;exact⟨by omega,λh=>by have:=(zAF g8 h).2;omega⟩)
   have HX:=zg3 g8 k9 e1;clear k8 g3 gB g7 gd y0 z0 f9 k9 g8 e0 e1 m5 F m4 ek e3 e5;go_wp2_with fail;apply m6.mono;rintro e g9 ⟨rfl,⟨m7,m8,p9,h0,e2⟩,a6,i6⟩;clear m6 p7 p8;have i7:∀ b,(au ev en ec).ownBlock=E b->b<(w:C):=λb h=>(zAF HX.1 h).2
   have hS:∀ b cs T,(b=J\/(au ev en ec).ownBlock=E b)->W9.heap[b]?=E (a0 cs T (0,0))->T≠48/\T≠78:=by
    intro b cs T h hc;rcases h with rfl|h
    .rw[HX.2.1]at hc;cases hc;exact⟨by decide,by decide⟩
    .by_cases hT:T=143;·subst hT;exact⟨by decide,by decide⟩
     .exact absurd h (zK HX.2.2 hc hT)
   have j4:∀ v:aq,(W:C)<=v.block->¬ Is J v.block:=λv h e=>by omega
   have C9:Cop W W9 (W:C) (remL d.index ds) o:=HU.2.2.2.fr H9.2.2 (λx hx v e=>by
    obtain⟨y,_,hy⟩:=HU.2.2.2.mem hx;exact j4 v (hy.fresh v e))
   have e4:Cop w W9 (w:C) (remL d.index ds) o:=C9.src HW.1 (λx hx=>by
    obtain⟨l',g1,g2,_⟩:=(HK.tr.el x (List.mem_filter.1 hx).1).att;exact⟨l',g1,g2⟩) sW
   have i8:Tr W9 I z U o:=e4.tr (λx hx=>⟨(HK.tr.el x (List.mem_filter.1 hx).1).sz,(HK.tr.el x (List.mem_filter.1 hx).1).drv⟩) (HU.1.fr H9.2.2 (λv e _=>j4 v (HU.2.2.1 v e))) (o3 _ _ e4) (λv e=>by have:=HU.2.2.1 v e;omega) O;have i9:∀ x∈o,BlkT W9 x.aa 78:=λx hx=>by
    obtain⟨y,_,hy⟩:=e4.mem hx;exact hy.typ
   obtain⟨g1,g2,g3⟩:=Tr.typ i8 (HU.2.1.fr H9.2.2 (λv e=>j4 v (HU.2.2.1 v e))) i9 a6 hS;have j5:=C9.fr a6 (λx hx v e h=>by
    obtain⟨y,_,hy⟩:=C9.mem hx;have:=hy.fresh v e;rcases h with h|h
    .omega
    .have:=i7 _ h;omega)
   have e6:=a6.heap H9.2.1 (λh=>by
    rcases h with h|h
    .omega
    .have:=i7 _ h;omega)
   have a7:Fr (Is (W2:C)) g9 (g9.putObj (W2:C) (.deferred G)):=bi _ _ _ rfl;have KS:KSt g9 J I z U o m7 (en+(N:C)) m8 ix:=⟨h0,g1,g2,g3,⟨p9,e2⟩,e4.names (λx hx=>HK.nm x (List.mem_filter.1 hx).1)⟩
   have m9:=KS.obj a7 (λcs T fz h=>by rw[e6]at h;cases h);have n4:=(j5.fr a7 (λx hx v e h=>by
    obtain⟨y,_,hy⟩:=j5.mem hx;have:=hy.fresh v e;unfold Is at h;omega)).src HW.1 (λx hx=>by
    obtain⟨l',g1,g2,_⟩:=(HK.tr.el x (List.mem_filter.1 hx).1).att;exact⟨l',g1,g2⟩) sW
   have r9:(N:C)<=(ds:C):=(by have:=j9.len;have:=zDe d.index ds (λ_=>ag);omega);have e7:=zh (cy m9 (cy n4 (cy (((((HW.1.step HB.out zi).mono (T:=λb=>b=J\/(au ev en ec).ownBlock=E b) zn).step H9.2.2 (λb _ h=>.inl h)).step a6 zi).step a7 (λb O h=>by omega)) (λ(v':aw) (b:C) (g:(g9.putObj (W2:C) (.deferred G)) ⟨J,3,G⟩=E v') (O:v'.ownBlock=E b)=>show (au ev en ec).ownBlock=E b\/(w:C)<=b from by
    have g':=a7.cell (zB h0 3) (λh=>by unfold Is at h;dsimp only at h;omega);rw[g']at g;exact(i6 v' b ((zB h0 3).trans g) O).imp id (λh=>by omega)))))
   have n5:=zh e6;clear hS C9 e4 i8 i9 g1 g2 g3 j5 e6 a7 KS m9 n4 h0 e2 a6 i6;go_wp2_with fail;refine⟨by simp,.inl ⟨_,_,rfl,dl n5.out,?_⟩⟩;exact⟨.int M 0,by simp[cw,Tryz.results78,go_sem],rfl,⟨z,U,o,m7,_,m8,e7.1,by omega,e7.2.1⟩,e7.2.2⟩
def heldR : aw->ar (bq aw×a1 MemPlace):=λv=>E (.held v,[])
def opsD : bq aw:=((((((DataW.map []).put (.int M 2) (.held (.func (.func 78) #[] #[]))).put (.int M 3) (.held (.func (.func 79) #[] #[]))).put (.int M 4) (.held (.func (.func 80) #[] #[]))).put (.int M 5) (.held (.func (.func 81) #[] #[]))).put (.int M 6) (.held (.func (.func 82) #[] #[]))).put (.int M 7) (.held (.func (.func 83) #[] #[]))
def OpsM (w:ab)(mb:C):Prop:=w.ownsMap ak 3 heldR mb 6 opsD
theorem zeroOp (w:ab):(dp 106).run ak w=.ok .nilFunc w:=by kernel_rfl
theorem mapOp: Tryz.prog.underlying 108=E (.map 3 106):=Tryz.underlying108
theorem OpsM.remove {u:C}(h:OpsM w u):(ce 108 (.map (E u)) (.int M 2) am).run ak w=.ok (.tuple #[.func (.func 78) #[] #[],.bool am]) w:=by
 obtain⟨v,A,o,y⟩:=World.ownsMap.look_ok h lawI mapOp (zeroOp w) (zd:=.held .nilFunc) (zp:=[]) rfl (bh bg (a:=2) (by kernel_rfl));have e:opsD.atKey (.int M 2) (.held .nilFunc)=.held (.func (.func 78) #[] #[]):=by rfl
 have z:Maps.has opsD (.int M 2)=true:=by rfl
 rw[e]at y;rw[z]at o;cases y;exact o
theorem zQt (w:ab):az ak 46 #[] w λe w'=>∃ o,e=.returned (.map (E o))/\OpsM w' o/\Fr No w w':=by
 have a2:=@run_makeMap ak;obtain⟨w1,r1,u,v⟩:=World.ownsMap.update (er w ak 3 heldR) lawI mapOp (by unfold ba;omega) (val:=.func (.func 78) #[] #[]) (bh bg (a:=2) (by kernel_rfl)) rfl;obtain⟨w2,r2,y,z⟩:=World.ownsMap.update u lawI mapOp (by unfold ba;omega) (val:=.func (.func 79) #[] #[]) (bh bg (a:=3) (by kernel_rfl)) rfl;obtain⟨w3,r3,A,F⟩:=World.ownsMap.update y lawI mapOp (by unfold ba;omega) (val:=.func (.func 80) #[] #[]) (bh bg (a:=4) (by kernel_rfl)) rfl;obtain⟨w4,r4,I,J⟩:=World.ownsMap.update A lawI mapOp (by unfold ba;omega) (val:=.func (.func 81) #[] #[]) (bh bg (a:=5) (by kernel_rfl)) rfl;obtain⟨w5,r5,N,O⟩:=World.ownsMap.update I lawI mapOp (by unfold ba;omega) (val:=.func (.func 82) #[] #[]) (bh bg (a:=6) (by kernel_rfl)) rfl;obtain⟨U,r6,V,X⟩:=World.ownsMap.update N lawI mapOp (by unfold ba;omega) (val:=.func (.func 83) #[] #[]) (bh bg (a:=7) (by kernel_rfl)) rfl;have Y:Fr (Is (w:C)) (w.alloc (.map #[] 0)) U:=(((((bo v).step (bo z) zi).step (bo F) zi).step (bo J) zi).step (bo O) zi).step (bo X) zi;have Z:=zg2 (show OpsM U (w:C) from V) (((ao No w).alloc (.map #[] 0)).step Y (λb hb h=>by omega));clear u y A I N V v z F J O X Y;go_enter Tryz.func46,Tryz.ntmps46;go_wp2;go_ret;exact⟨_,rfl,Z.1,Z.2⟩
theorem OpsM.fr (h:OpsM w o)(u:Fr S w w')(v:¬ S o):OpsM w' o:=u.ownsMap h v
theorem RemK.src (h:RemK I w' J o ds n N O)(U:Fr No w I)(v:∀ d∈ds,∃ l,Atts w d.aa d.ac l/\d.an=l.length):RemK w w' J o ds n N O:=by
 obtain⟨V,u,y,z,A,F,X,Y,Z⟩:=h;exact⟨V,u,y,z,A,F,X,Y,Z.src U (λd hd=>v d (List.mem_filter.1 hd).1) U.size⟩
def AtD (w W:ab)(dn d:Dev):Prop:=d={ dn with aa:=d.aa,ac:=d.ac }/\∃ l,Atts w dn.aa dn.ac l/\dn.an=l.length/\Atts W d.aa d.ac l
theorem zN9 (I:ae)(fo:C)(P:ab->Prop)(kb a4:C)(a:ar aq)(a7:C)(ds:a1 Dev)(ev:ar aq)(en ec:C)(ix:ae)(o nm vl:ax)(x dn:Dev)(w:ab)(z:KSt w kb a4 a a7 ds ev en ec ix)(hn:(ds:C)<=256)(a8:ds.find? (atP ds o)=E dn)(hq:(I==1)=ag/\(I==8)=ag/\(I==9)=ag)
  (b8:∀ W mb,OpsM W mb->(ce 108 (.map (E mb)) (.int M I) am).run ak W=.ok (.tuple #[.func (.func fo) #[] #[],.bool am]) W) (eg:∀ args w,(callFunc fo args).run ak w=.ok (.enter fo args) w)
  (b9:∀ W d,Fr No w W->AtD w W dn d->az ak fo #[ah (E ⟨kb,0,G⟩),aj (ocs I o x nm vl),aj d.vals] W λe w'=>e=.returned (.int M 0)/\P w'):
  az ak 20 #[ah (E ⟨kb,0,G⟩),aj (ocs I o x nm vl)] w λe w'=>e=.returned (.tuple #[.int M 0,.int M 0])/\P w':=by
 obtain⟨W0,a9,x0,b0⟩:=zy w (a0 (ocs I o x nm vl) 72);have e5:=zC z.blk;have J:=zh a8;have HK:=zh z;have d5:=zh b9;obtain⟨l0,d0,d1,d6⟩:=(z.tr.el dn (ef a8)).att;have d7:=zh b8;have b3:=zh d0;have b4:=zh d1;obtain⟨q1,q8,q9⟩:=hq;clear a8 b9 b8 z d0 d1 d6;have o0:=(OpB.of b0).c0;unfold ocs at a9 ⊢;go_enter Tryz.func20,Tryz.ntmps20;go_upto_region 1 with(fail)
 rw[<-a9];clear a9;go_upto_region 8 with(fail)
 clear o0;refine zO No [(1,ag),(2,ag),(0,am),(3,ag),(4,ag),(5,ag),(6,ag),(7,ag),(8,ag)] (λw1 b5=>?_);have b1:=b5.heap b0 id;have o0:∀ g:Gr No w1,g.W ⟨w,0,G⟩=E (.int M I):=λg=>(OpB.of (g.fr.heap b1 id)).c0
 have x1:=x0.step b5 zi;clear b0 x0 b5;apply zR rfl rfl rfl;intro K z;go_big_quiet_op;go_big_quiet_on;apply zR rfl rfl rfl;intro K z;go_big_quiet_op;go_big_quiet_on;clear o0;apply zu rfl;go_wp2_with fail;apply (zQt w1).mono;rintro e N ⟨mb,rfl,hM,O⟩;go_wp2_with fail;apply zf O;have d2:∀ W,(∃ g:Gr No N,W=g.W)->(ce 108 (.map (E mb)) (.int M I) am).run ak W=.ok (.tuple #[.func (.func fo) #[] #[],.bool am]) W:=λW hW=>by
  obtain⟨g,rfl⟩:=hW;exact d7 _ _ (hM.fr g.fr id)
 apply zR rfl rfl rfl;intro K z;refine zED _ _ 108 rfl (.map (E mb)) (.int M I) _ rfl rfl d2 ?_
 go_frame
 go_big_quiet_on;clear d2 hM;(repeat apply zR rfl rfl rfl;intro K z;go_big_quiet_op;go_big_quiet_on);apply zb;have b2:=O.heap b1 id;have x2:=x1.step O zi;clear b1 x1 O;go_upto_region 11 with(fail)
 have a5:=zh (λ(W:ab) (hf:Fr No w W)=>zD1 a a7 ds a4 o W (HK.tr.no hf) (by omega));have d3:=x2.heap HK.blk id;go_cut [7,8] (λv7 p8 wx=>∃ Bp aa ac,v7=.bool am/\p8=ah (E ⟨Bp,0,G⟩)/\ai (wx.heap[Bp]?=E (a0 (ap { dn with aa:=aa,ac:=ac }) 48)/\(w:C)<Bp)/\ai (Atts wx aa ac l0)/\Fr No N wx);case first=>
  refine zZ (λb=>(N:C)<=b) (.q 0 (.q 1 (.q 2 (.q 3 (.q 4 (.q 5 (.m2 6 (.q 7 (.q 8 (.q 9 (.m1 10 (.m1 11 (.q 12 .fin)))))) 10 (.m1 6 (.q 7 (.q 8 (.q 9 (.m1 11 (.q 12 .fin))))))))))))) _ (λU v=>?_) zj;have s8:=v.size;have sb:=zC b2;have t0:∀ g:Gr (λb=>(N:C)<=b) U,g.W ⟨kb,0,G⟩=E (.slice a ds a7):=λg=>zB (g.fr.heap (v.heap d3 id) (λh=>by omega)) 0
  have t1:∀ g:Gr (λb=>(N:C)<=b) U,g.W ⟨w,1,G⟩=E (.string o):=λg=>(OpB.of (g.fr.heap (v.heap b2 id) (λh=>by omega))).c1
  have x8:=zh (x2.step v zi);have H8:=zh v;clear v;(repeat apply zL rfl rfl rfl;intro K z;go_big_quiet_op;go_big_quiet_on);clear t0 t1;refine zAB rfl rfl ?_ ?_
  focus
   go_wp2_with fail;apply (a5 U x8).mono;rintro e w9 ⟨hF,V⟩;obtain⟨aa,ac,rfl,y,X⟩:∃ aa ac,e=.returned (.tuple #[aj (ap { dn with aa:=aa,ac:=ac }),.bool am])/\Atts w9 aa ac l0/\∀ u,aa=E u->(U:C)<=u.block:=by
    rcases hF with⟨A,_⟩|⟨d',aa,ac,l',A,rfl,g1,g2,g3,_,g5⟩
    .rw[J.out]at A;cases A
    .rw[J.out]at A;cases A;have e1:=(b3.no x8 (λ_=>id)).det g2 (by have:=b4.out;omega);subst e1;exact⟨aa,ac,rfl,g1,g5⟩
   clear hF;unfold ap;go_wp2_with fail;apply zm V;(repeat apply zL rfl rfl rfl;intro K z;go_big_quiet_op;go_big_quiet_on);apply zH rfl;obtain⟨WA,d4,fA,qA⟩:=zy w9 (a0 #[.int M 0,.int M 0,(),(),(),(),(),.int M 0,.int M 0,.slice G 0 0] 48);go_wp2_with fail;apply zp;rw[<-d4];clear d4;have a6:ai (Fr No N WA):=(H8.step V zi).step fA zi;have Y:ai ((N:C)<=(w9:C)):=(by have:=V.size;unfold ai;omega);have HQ:ai (Atts WA aa ac l0/\∀ u,aa=E u->l0≠[]->u.block≠(w9:C)):=⟨y.no fA (λ_=>id),λu e Z h=>by have:=(y.cell u e Z).2.1;omega⟩
   clear y X;clear fA V;generalize (w9:C)=Bt at *
  rotate_left 1
  focus
   obtain⟨W9,b6,f9,q9⟩:=zy U (a0 #[.int M 0,.int M 0,(),(),(),(),(),.int M 0,.int M 0,.slice G 0 0] 48);have d8:ai ((U:C)+1=(W9:C)):=(by unfold ai;rw[b6];simp);go_wp2_with fail;apply zp;rw[<-b6];clear b6;apply zH rfl;go_wp2_with fail;apply (a5 W9 (x8.step f9 zi)).mono;rintro e WA ⟨hF,a2⟩;obtain⟨aa,ac,rfl,y,X⟩:∃ aa ac,e=.returned (.tuple #[aj (ap { dn with aa:=aa,ac:=ac }),.bool am])/\Atts WA aa ac l0/\∀ u,aa=E u->(W9:C)<=u.block:=by
    rcases hF with⟨A,_⟩|⟨d',aa,ac,l',A,rfl,g1,g2,g3,_,g5⟩
    .rw[J.out]at A;cases A
    .rw[J.out]at A;cases A;have e1:=(b3.no (x8.step f9 zi) (λ_=>id)).det g2 (by have:=b4.out;omega);subst e1;exact⟨aa,ac,rfl,g1,g5⟩
   have qA:=a2.heap q9 id;have a6:ai (Fr No N WA):=(H8.step f9 zi).step a2 zi;have Y:ai ((N:C)<=(U:C)):=s8;have HQ:ai (Atts WA aa ac l0/\∀ u,aa=E u->l0≠[]->u.block≠(U:C)):=⟨y,λu e Z h=>by have:=X u e;have:=d8.out;omega⟩
   clear y X;clear hF q9;unfold ap;go_wp2_with fail;apply zm a2;(repeat apply zL rfl rfl rfl;intro K z;go_big_quiet_op;go_big_quiet_on);clear f9 a2;generalize (U:C)=Bt at *
  all_goals (
   apply zH rfl;obtain⟨z0,z1,z2,z3,z4,z5,z6,z7,z8,z9⟩:=DevB.of (d:=⟨0,0,(),(),(),(),(),0,0,G,0,0⟩) qA;obtain⟨y0,y1,y2,y3,y4,y5,y6,y7,y8,y9⟩:=DevF.of qA;have a3:=zh (zA6 qA rfl { dn with aa:=aa,ac:=ac });clear qA;go_wp2_with fail;refine bc ⟨a3.2.mono (λb _ h=>by have:=Y.out;omega),?_⟩;(repeat apply zL rfl rfl rfl;intro K z;go_big_quiet_op;go_big_quiet_on);apply zW;go_wp2;go_meet;exact⟨Bt,aa,ac,rfl,rfl,⟨a3.1,by have:=Y.out;have:=x2.size;omega⟩,HQ.1.fr a3.2 (λu e Z h=>HQ.2 u e Z h),a6.step a3.2 (λb hb h=>by have:=Y.out;omega)⟩
   )
 case rest=>
  obtain⟨Bp,aa,ac,rfl,rfl,hB,d9,b7⟩:=hcut;have x3:Fr No w wc:=x2.step b7 zi;obtain⟨o0,o1,o2,o3,o4,o5,o6,o7,o8,o9,e0,e2,e3,e4⟩:=OpB.of (b7.heap b2 id);obtain⟨z0,z1,z2,z3,z4,z5,z6,z7,z8,z9⟩:=DevB.of hB.1;have F:=d5.out wc { dn with aa:=aa,ac:=ac } x3 ⟨rfl,l0,b3,b4,d9⟩;clear b2 x2 b7 d3 x3 q1 q8 q9;unfold ap ocs at F;go_wp2_with (go_at_fn fo;refine F.mono ?_;rintro e w4 ⟨rfl,hP⟩)
  have HP:=zh hP;clear F hP o0 o1 o2 o3 o4 o5 o6 o7 o8 o9 e0 e2 e3 e4 z0 z1 z2 z3 z4 z5 z6 z7 z8 z9;go_wp2;go_ret2;exact⟨rfl,HP⟩
theorem zNA (A o:C)(a:ar aq)(y:C)(ds:a1 Dev)(N:ar aq)(F O:C)(U:ae)(u nm X:ax)(x z:Dev)(w:ab)(V:KSt w A o a y ds N F O U)(Y:F<=60000000)(hn:(ds:C)<=256)(hb:o<=(w:C))(I:ds.find? (atP ds u)=E z)
  (Z:∀ W w' v,Fr No w W->Cop W w' (W:C) (remL z.index ds) v->TreeWf v):
  az ak 20 #[ah (E ⟨A,0,G⟩),aj (ocs 2 u x nm X)] w λe w'=>e=.returned (.tuple #[.int M 0,.int M 0])/\RemK w w' A o ds z.index F U/\KFr A (.slice N F O) w w':=
 zN9 2 78 _ A o a y ds N F O U u nm X x z w V hn I ⟨rfl,rfl,rfl⟩ (λW mb h=>h.remove) (ca em (by kernel_rfl) rfl) λW d J hd=>by
  obtain⟨e,_⟩:=hd;have hi:d.index=z.index:=by rw[e]
  rw[e];refine(zM8 A o a y ds N F O U 2 u nm X x { z with aa:=d.aa,ac:=d.ac } z W (V.no J) Y hn (by have:=J.size;omega) (zx V.tr.wf.1.nd (ef I)) (λw' v h=>Z W w' v J h)).mono λe w' h=>⟨h.1,h.2.1.src J (λd hd=>?_),KFr.src J h.2.2⟩
  obtain⟨l,g1,g2,_⟩:=(V.tr.el d hd).att;exact⟨l,g1,g2⟩
structure TMk (w W:ab)(src:a1 Dev)(a':ar aq)(c':C)(ds':a1 Dev):Prop where
 dv:Devs W a' c' ds'
 bt:BlkT W a' 48
 fresh:∀ ad,a'=E ad->(w:C)<=ad.block
 cop:Cop w W (w:C) src ds'
theorem TMk.fr {J:ab}{z:ar aq}{v:a1 Dev}(h:TMk w W u z N v)(A:Fr S W J)(O:∀ b,S b->∀ cs T,W.heap[b]?=E (a0 cs T (0,0))->T≠48/\T≠78):TMk w J u z N v:=by
 have U:∀ o,z=E o->¬ S o.block:=λo e F=>by
  obtain⟨cs,I⟩:=h.bt o e;exact(O _ F _ _ I).1 rfl
 refine⟨h.dv.fr A (λo e _=>U o e),h.bt.fr A U,h.fresh,h.cop.fr A (λd V o e F=>?_)⟩;obtain⟨y,_,X⟩:=h.cop.mem V;obtain⟨cs,I⟩:=X.typ o e;exact(O _ F _ _ I).2 rfl
theorem TMk.no {o:a1 Dev}{z:C}(h:TMk w W o y z u)(A:Fr No W v):TMk w v o y z u:=h.fr A (λ_ h=>h.elim)
theorem TMk.put {o:a1 Dev}{z:C}(h:TMk w W o y z u){A:C}{cs:bd aw}{T:bv}(J:Fr (Is A) W v)(N:W.heap[A]?=E (a0 cs T))(O:T≠48)(U:T≠78):TMk w v o y z u:=h.fr J (λb F cs T I=>by
 unfold Is at F;subst F;rw[N]at I;cases I;exact⟨O,U⟩)
theorem TMk.src {o:a1 Dev}{A:ar aq}(h:TMk z W o A F u)(v:Fr No w z)(y:∀ d∈o,∃ l,Atts w d.aa d.ac l/\d.an=l.length):TMk w W o A F u:=⟨h.dv,h.bt,λI e=>eh v.size (h.fresh I e),h.cop.src v y v.size⟩
theorem ChgRes.tmk {k:C}{e:Ending}(h:ChgRes w W ds k x e):∃ u v o,e=.returned (.tuple #[aj #[.slice u (o:a1 Dev).length v],.int M 0])/\TMk w W (ds.set k x) u v o:=by
 obtain⟨u,v,o,y,z,A,F,I⟩:=h;exact⟨u,v,o,y,z,A,F,I⟩
theorem zNB (F:C)(a:ar aq)(n V:C)(ev:ar aq)(en ec:C)(ix:ae)(A:a1 Dev)(x:Dev)(w:ab)(hk:w.heap[F]?=E (a0 (kcs a n V ev en ec ix) 59))(a4:∀ d∈A,∃ l,Atts w d.aa d.ac l/\d.an=l.length)
  (a5:∀ W,Fr No w W->az ak 92 #[aj #[.slice a n V],aj x.vals] W λe w'=>(∃ u v o,e=.returned (.tuple #[aj #[.slice u (o:a1 Dev).length v],.int M 0])/\TMk W w' A u v o)/\Fr No W w'):
  az ak 133 #[ah (E ⟨F,0,G⟩),aj x.vals] w λe w'=>e=.returned (.int M 0)/\(∃ u v o,w'.heap[F]?=E (a0 (kcs u (o:a1 Dev).length v ev en ec ix) 59)/\TMk w w' A u v o)/\Fr (Is F) w w':=by
 obtain⟨W0,a2,x0,b0⟩:=zy w (a0 x.vals 48);have a7:=x0.heap hk id;have a9:=zC hk;have a3:=zh a5;have a6:=zh a4;have a8:=zh hk;have s0:=zC b0;clear hk a4 a5;unfold ap at a2 a3 ⊢;go_enter Tryz.func133,Tryz.ntmps133;go_upto_region 1 with(fail)
 rw[<-a2];clear a2;go_cut [5,6] (λp5 v6 wx=>∃ y u v o,p5=ah (E ⟨y,0,G⟩)/\v6=.int M 0/\ai (wx.heap[y]?=E (a0 #[.slice u (dc o) v] 39)/\TMk w wx A u v o/\(w:C)<=y)/\Fr No w wx);case first=>
  refine zZ (λb=>(W0:C)<=b) (.q 0 (.q 1 (.q 2 (.q 3 (.q 4 (.m2 5 (.q 6 (.q 7 (.q 8 (.m1 9 (.m1 10 (.q 11 .fin)))))) 9 (.m1 5 (.q 6 (.q 7 (.q 8 (.m1 10 (.q 11 .fin)))))))))))) _ (λW1 X=>?_) zj;have b1:=X.heap b0 id;have k1:=X.heap a7 id;have s1:=X.size;have t0:∀ g:Gr (λb=>(W0:C)<=b) W1,g.W ⟨F,0,G⟩=E (.slice a n V):=λg=>zB (g.fr.heap k1 (λh=>by omega)) 0
  have I:∀ g:Gr (λb=>(W0:C)<=b) W1,DevB g.W (w:C) x:=λg=>DevB.of (g.fr.heap b1 (λh=>by omega))
  have c0:=λg=>(I g).c0
  have c1:=λg=>(I g).c1
  have c2:=λg=>(I g).c2
  have c3:=λg=>(I g).c3
  have c4:=λg=>(I g).c4
  have c5:=λg=>(I g).c5
  have c6:=λg=>(I g).c6
  have c7:=λg=>(I g).c7
  have c8:=λg=>(I g).c8
  have c9:=λg=>(I g).c9
  have x1:=zh (x0.step X zi);clear I;(repeat(first|apply zL rfl rfl rfl|apply zJ rfl rfl rfl);intro K hK;go_big_quiet_op;go_big_quiet_on);clear t0 c0 c1 c2 c3 c4 c5 c6 c7 c8 c9;refine zAB rfl rfl ?_ ?_
  focus
   have z:=a3.out W1 x1;go_wp2_with fail;apply z.mono;rintro e w2 ⟨⟨u,v,o,rfl,hT⟩,Y⟩;have s2:=Y.size;have X2:ai (Fr No w w2):=x1.step Y zi;have HT:=zh (hT.src x1 a6);clear z hT;go_wp2_with fail;apply zm Y;(repeat(first|apply zL rfl rfl rfl|apply zJ rfl rfl rfl);intro K hK;go_big_quiet_op;go_big_quiet_on);apply zH rfl;obtain⟨N,J,f3,O⟩:=zy w2 (a0 #[.slice G 0 0] 39);go_wp2_with fail;apply zp;rw[<-J];clear J;have U:ai (Fr No w N/\TMk w N A u v o/\(W0:C)<=(w2:C)):=⟨X2.step f3 zi,HT.no f3,by omega⟩
   clear f3 Y;generalize (w2:C)=y at *;apply zH rfl;have y0:=zD O 0;have z0:N ⟨y,0,G⟩=E (.slice G 0 0):=zB O 0;have fB:Fr (Is y) N (N.setCell ⟨y,0,G⟩ (.slice u o.length v)):=be (ao _ _) _;have HR:ai ((N.setCell ⟨y,0,G⟩ (.slice u o.length v)).heap[y]?=E (a0 #[.slice u o.length v] 39)/\TMk w (N.setCell ⟨y,0,G⟩ (.slice u o.length v)) A u v o/\(w:C)<=y):=⟨zE O 0 _,U.2.1.put fB O (by decide) (by decide),by have:=U.2.2;have:=x0.size;omega⟩
   have HX:ai (Fr No w (N.setCell ⟨y,0,G⟩ (.slice u o.length v))):=U.1.step fB (λb hb h=>by have:=U.2.2;omega)
  rotate_left 1
  focus
   obtain⟨N,J,f3,q2⟩:=zy W1 (a0 #[.slice G 0 0] 39);go_wp2_with fail;apply zp;rw[<-J];clear J;have x3:=zh (x1.step f3 zi);have z:=a3.out N x3;apply zH rfl;go_wp2_with fail;apply z.mono;rintro e w4 ⟨⟨u,v,o,rfl,hT⟩,Z⟩;have O:=Z.heap q2 id;have U:ai (Fr No w w4/\TMk w w4 A u v o/\(W0:C)<=(W1:C)):=⟨x3.step Z zi,hT.src x3 a6,s1⟩
   clear z hT q2 f3;go_wp2_with fail;apply zm Z;clear Z;(repeat(first|apply zL rfl rfl rfl|apply zJ rfl rfl rfl);intro K hK;go_big_quiet_op;go_big_quiet_on);generalize (W1:C)=y at *;apply zH rfl;have y0:=zD O 0;have z0:w4 ⟨y,0,G⟩=E (.slice G 0 0):=zB O 0;have fB:Fr (Is y) w4 (w4.setCell ⟨y,0,G⟩ (.slice u o.length v)):=be (ao _ _) _;have HR:ai ((w4.setCell ⟨y,0,G⟩ (.slice u o.length v)).heap[y]?=E (a0 #[.slice u o.length v] 39)/\TMk w (w4.setCell ⟨y,0,G⟩ (.slice u o.length v)) A u v o/\(w:C)<=y):=⟨zE O 0 _,U.2.1.put fB O (by decide) (by decide),by have:=U.2.2;have:=x0.size;omega⟩
   have HX:ai (Fr No w (w4.setCell ⟨y,0,G⟩ (.slice u o.length v))):=U.1.step fB (λb hb h=>by have:=U.2.2;omega)
  all_goals (
   have HB:ai ((W0:C)<=y):=U.2.2;clear fB O;go_wp2_with fail;refine bc ⟨Fr.setCell (ao _ _) (λ_=>HB) _,?_⟩;(repeat(first|apply zL rfl rfl rfl|apply zJ rfl rfl rfl);intro K hK;go_big_quiet_op;go_big_quiet_on);apply zW;go_wp2;go_meet;exact⟨y,u,v,o,rfl,rfl,HR,HX⟩
   )
 case rest=>
  obtain⟨y,u,v,o,rfl,rfl,hB,hf⟩:=hcut;have z0:wc ⟨y,0,G⟩=E (.slice u o.length v):=zB hB.1 0;have k1:=hf.heap a8 id;have y1:=zD k1 0;have z1:wc ⟨F,0,G⟩=E (.slice a n V):=zB k1 0;have fK:Fr (Is F) wc (wc.setCell ⟨F,0,G⟩ (.slice u o.length v)):=be (ao _ _) _;have HR:ai ((wc.setCell ⟨F,0,G⟩ (.slice u o.length v)).heap[F]?=E (a0 (kcs u o.length v ev en ec ix) 59)/\TMk w (wc.setCell ⟨F,0,G⟩ (.slice u o.length v)) A u v o/\Fr (Is F) w (wc.setCell ⟨F,0,G⟩ (.slice u o.length v))):=⟨zE k1 0 _,hB.2.1.put fK k1 (by decide) (by decide),(hf.mono zn).step fK zi⟩
  clear k1 fK hf;go_wp2;go_ret;exact⟨rfl,⟨u,v,o,HR.1,HR.2.1⟩,HR.2.2⟩
def strip (d:Dev):Dev:={ d with aa:=G,an:=0,ac:=0 }
section
variable {ds:a1 Dev}{n:ae}
theorem zBC: look (ds.map strip) n=(look ds n).map strip:=by
 unfold look;rw[dy];rfl
theorem zFT : ∀ (k:C) (n:ae),chainK (ds.map strip) k n=(chainK ds k n).map strip
 | 0,_=>rfl
 | k+1,n=>by
  unfold chainK;rw[zBC];cases look ds n with
  | none=>rfl
  | some d=>show strip d::chainK (ds.map strip) k d.parent=_;rw[zFT k d.parent];rfl
theorem zLy: chain (ds.map strip) n=(chain ds n).map strip:=by unfold chain;rw[ea,zFT]
theorem zDE: origin (ds.map strip) n=origin ds n:=by unfold origin;rw[zLy,eb];rfl
theorem zAH: plc (ds.map strip) n=plc ds n:=by
 unfold plc;rw[zBC,zDE];cases look ds n<;>rfl
theorem zJo: partOf (ds.map strip) n=partOf ds n:=by
 unfold partOf;rw[zBC];cases look ds n with
 | none=>rfl
 | some d=>
  show (match look (ds.map strip) d.parent with|none=>G|some p=>partB p (strip d))=(match look ds d.parent with|none=>G|some p=>partB p d)
  rw[zBC];cases look ds d.parent<;>rfl
theorem zAM: virB (ds.map strip) n=virB ds n:=by
 unfold virB;rw[zBC,zJo];cases look ds n<;>rfl
theorem zFc : ∀ (ds:a1 Dev) (R:ae->ay),subL n (ds.map strip) R=(subL n ds R).map strip
 | [],_=>rfl
 | d::t,R=>by
  rw[de];unfold subL;rw[zFc t,zFc t];show (if (d.index==n||R d.parent)=am then _ else _)=_
  split<;>rfl
theorem zPF (l:a1 Dev):ixs (l.map strip)=ixs l:=by
 funext i
 unfold ixs;rw[dt];rfl
theorem zIZ: remL n (ds.map strip)=(remL n ds).map strip:=by
 unfold remL;rw[zFc,zPF,List.filter_map];rfl
theorem zGw (k:C)(d:Dev):insAt (ds.map strip) k (strip d)=(insAt ds k d).map strip:=by
 unfold insAt;rw[List.map_append,de,List.map_take,List.map_drop]
theorem zCX (s:ax):(ds.map strip).find? (atP (ds.map strip) s)=(ds.find? (atP ds s)).map strip:=by
 rw[dy]
 congr 1
 congr 1
 funext d
 unfold atP;show ((plc (ds.map strip) d.index).toList==s.toList)=_
 rw[zAH]
theorem zIl (d:Dev):newO (ds.map strip) (strip d)=newO ds d:=by unfold newO;rw[zAH];rfl
theorem zF9 {α β:Type}(f:α->β)(p:β->ay):∀ l:a1 α,fidx p (l.map f)=fidx (p∘f) l
 | []=>rfl
 | x::t=>by rw[de];unfold fidx;rw[zF9 f p t];rfl
theorem zIw (d:Dev):insK (ds.map strip) (strip d)=insK ds d:=by
 unfold insK;rw[zIl,zF9,ea];have e:(zAD (ds.map strip) (newO ds d)∘strip)=zAD ds (newO ds d):=by
  funext x
  unfold zAD;show decide (0<=(cmpP (plc (ds.map strip) x.index) _).1)=_
  rw[zAH]
 rw[e]
theorem zKm (d:Dev):sameO (ds.map strip) (strip d)=sameO ds d:=by
 unfold sameO;rw[zIw,zIl,bp];cases ds[insK ds d]? with
 | none=>rfl
 | some x=>show ((plc (ds.map strip) x.index).toList==_)=_;rw[zAH]
theorem zDQ (d:Dev):(ds.map strip).any (clP (strip d))=ds.any (clP d):=by rw[dt];rfl
end
theorem zMd {o:Dev}(h:o={ d with aa:=o.aa,ac:=o.ac }):strip o=strip d:=by rw[h];rfl
theorem Cop.strip {u:C}{o:a1 Dev}(h:Cop w w' u ds o):o.map strip=ds.map strip:=by
 apply List.ext_getElem?;intro i;rw[bp,bp];by_cases y:i<(ds:C)
 .have v:i<(o:C):=by have:=h.len;omega
  rw[bz y,bz v];show E _=E _
  rw[zMd (h.el i _ _ (bz y) (bz v)).eq]
 .have z:=h.len;rw[dz (by omega),dz (by omega)]
def AttOf (w:ab)(ds:a1 Dev)(att:ae->a1 (ax×ax)):Prop:=∀ d∈ds,Atts w d.aa d.ac (att d.index)/\d.an=(att d.index).length
theorem AttOf.cop {u:C}{v:a1 Dev}{o:ae->a1 (ax×ax)}(h:AttOf w ds o)(z:Cop w w' u ds v):AttOf w' v o:=λA F=>by
 obtain⟨d,I,y⟩:=z.mem F;obtain⟨l,J,N,X,_⟩:=y.att;obtain⟨O,U⟩:=h d I;have e:A.index=d.index:=by rw[y.eq]
 have V:l=o d.index:=J.det O (by omega);subst V;rw[e];exact⟨N,by rw[y.eq];exact U⟩
theorem AttOf.sub {o:a1 Dev}{u:ae->a1 (ax×ax)}(h:AttOf w ds u)(v:∀ d∈o,d∈ds):AttOf w o u:=λd y=>h d (v d y)
theorem AttOf.no {o:ae->a1 (ax×ax)}(h:AttOf w ds o)(v:Fr No w w'):AttOf w' ds o:=λd u=>⟨(h d u).1.no v (λ_=>id),(h d u).2⟩
theorem TreeOk.map:TreeOk (ds.map strip)↔TreeOk ds:=by
 have e:(ds.map strip).map Dev.index=ds.map Dev.index:=by rw[eb];rfl
 constructor
 .intro h;refine⟨e▸h.nd,λd o=>h.ix (strip d) (ee o),λk d o=>?_,λd o=>h.nm (strip d) (ee o)⟩;rcases h.pa k (strip d) (by rw[bp,o];rfl)with h1|⟨j,x,h1,h2,h3⟩
  .exact .inl h1
  .rw[bp]at h2;cases hx:ds[j]? with
   | none=>rw[hx]at h2;cases h2
   | some y=>rw[hx]at h2;cases h2;exact .inr ⟨j,y,h1,hx,h3⟩
 .intro h;refine⟨e.symm▸h.nd,λd o=>?_,λk d o=>?_,λd o=>?_⟩
  .obtain⟨y,u,rfl⟩:=List.mem_map.1 o;exact h.ix y u
  .rw[bp]at o;cases hx:ds[k]? with
   | none=>rw[hx]at o;cases o
   | some y=>
    rw[hx]at o;cases o;rcases h.pa k y hx with h1|⟨j,z,h1,h2,h3⟩
    .exact .inl h1
    .exact .inr ⟨j,strip z,h1,by rw[bp,h2];rfl,h3⟩
  .obtain⟨y,u,rfl⟩:=List.mem_map.1 o;exact h.nm y u
end Go.Proofs.YtjohgekljmhheaaGreatDoor
