import Derived.Test.YtckkocmhlhefpaaGreatDoorQ26
import Derived.Maps.OwnIn
import Derived.Sort.CutIn
namespace Go.Proofs.YtckkocmhlhefpaaGreatDoor
open Go.RowKit Go.Maps Go.Shelf
set_option linter.unusedVariables false
set_option maxRecDepth 100000
set_option maxHeartbeats 4000000
open Dev renaming vals->aj
open Devs renaming of_own->bo
open Fr renaming refl->ah,putObj->ay
open Go renaming undef->r,World->a0,callsIn_of_wp_marks->ca,run_takeDeferred->cb
open Go.Fence renaming wide->bp
open Go.Lit renaming int->ar
open Go.Oper renaming semAt_some->bi
open Go.Proofs renaming enters_of->bn
open Go.Proofs.Tryz renaming prog->af,underlying192->au,func175->bj,func127->bw,underlying3->bx
open Go.Value renaming slice->am
open Go.World renaming size_alloc->bz
open IntKind renaming i64->f
open Obj renaming cells->H
open OnlyN renaming mk->bh
open Value renaming slice->P,pointer->L,int->j,agg->ae,string->ai
open _root_ renaming Nat->C,Int->K,List->M,Bool->ag,Option->ak
open _root_.Array renaming replicate_succ->aw,replicate_zero->ax
open _root_.Bool renaming false->a1,true->ab
open _root_.ByteArray renaming empty->ao
open _root_.List renaming length_cons->ap,length_append->aq,append_toArray->az,cons_append->ba,length_nil->bb,nil_append->bc,push_toArray->bd,size_toArray->be,eq_nil_of_length_eq_zero->br,filter_cons_of_neg->bs,filter_cons_of_pos->bt,mem_cons_of_mem->bu
open _root_.List.IsPrefix renaming subset->bq
open _root_.Nat renaming reduceAdd->bf,reduceSub->bg,le_refl->bv
open _root_.Option renaming some->E,none->G
variable{n:K}{d:Dev}{R:K->ag}{w W z:a0}{u:M Oper}{o v:C}{a:ak Addr}{Q:Exit->Act->a0->Prop}{S V:C->Prop}{ds pre:M Dev}
attribute [local go_sem] bi
def subL (n:K):M Dev->(K->ag)->M Dev
 | [],_=>[]
 | d::t,R=>if (d.index==n||R d.parent)=ab then d::subL n t (upd R d.index ab)else subL n t R
theorem zBL (h:(d.index==n||R d.parent)=ab)(t:M Dev):subL n (d::t) R=d::subL n t (upd R d.index ab):=if_pos h
theorem zA3 (h:(d.index==n||R d.parent)=a1)(t:M Dev):subL n (d::t) R=subL n t R:=if_neg (by rw[h];simp)
theorem BMap.look {u:C}{g:K->ag}{N:C}(h:BMap w u g N){k:K}(z:(ar f k).wf=ab):(Instr.lookup 192 (.map (E u)) (.int f k) a1).run af w=.ok (.bool (g k)) w:=by
 obtain⟨D,n,_,A,F⟩:=h;obtain⟨v,J,o,I⟩:=A.lookup lawI au (zeroB w) (plainElem_bool (by kernel_rfl) a1) (keyOf_int_mk bx z);obtain⟨c,rfl,y⟩:=zA4 (by kernel_rfl) I;simp only[Prod.mk.injEq]at y;obtain rfl:c=g k:=by
  have:=y.1.symm.trans (F k)
  simpa using this
 exact o
theorem zCL {F:Fence}{J:C}{w:a0}{y:Array Oper}{u:M Oper}{o:Oper}{a:Act}{Q:Exit->Act->a0->Prop}(R:o.guard=G)(m x v:Operand)(t:TypeId)(I:o.op=Op.mapUpdate t m x v)(U:Tryz.prog.underlying t=E (.map 3 4))
  (z:C) (g:K->ag) (N:C) (hN:N<maxLen) (k:K) (V:(ar f k).wf=ab) (b:ag) (X:a.eval m=.map (E z)) (A:BMap w z g N) (Y:a.eval x=.int f k) (Z:a.eval v=.bool b)
  (hK:∀ w',BMap w' z (upd g k b) (N+1)->Fr (Is z) w w'->wpListIn F J af y Q u (a.put o.dst r) w'):wpListIn F J af y Q (o::u) a w:=by
 obtain⟨D,n,hn,O,hh⟩:=A;exact wpListIn_mapUpdate_own w R m x v t I 3 4 lawI U _ z n D X O (by omega) _ _ _ Y Z (keyOf_int_mk bx V) (.lit (.bool b)) [] (plainElem_bool (by kernel_rfl) b) (λw' h h'=>hK w' (BMap.put hn O hh k b h) (Fr.of_grown_some h'))
theorem zF0 (u:Value)(n:K)(w:a0):
  Calls af 125 #[ae #[u],j f n] w λe w'=>e=.returned (.func (.func 175) #[] #[L (E ⟨w,0,G⟩),L (E ⟨(w:C)+1,0,G⟩)])/\w'=(w.alloc (H #[u] 47)).alloc (H #[j f n] 3):=by
 go_enter Tryz.func125,Tryz.ntmps125
 go_wp2_with fail
 go_ret;exact⟨rfl,rfl⟩
structure SubAt (W:a0)(a:ak Addr)(cap:C)(ds:M Dev)(n:K)(Bt Bi:C):Prop where
 devs:Devs W a cap ds
 tree:W.heap[Bt]?=E (H #[P a ds.length cap] 47)
 idx:W.heap[Bi]?=E (H #[j f n] 3)
theorem SubAt.fr {u:C}(h:SubAt W a o ds n u v)(y:Fr S W z)(D:∀ A,a=E A->ds≠[]->¬ S A.block)(F:¬ S u)(I:¬ S v):SubAt z a o ds n u v:=
 ⟨h.devs.fr y D,y.heap h.tree F,y.heap h.idx I⟩
theorem SubAt.no {u:a0}{y:C}(h:SubAt W a o ds n v y)(z:Fr No W u):SubAt u a o ds n v y:=h.fr z (λ_ _ _=>id) id id
theorem zF4 (n:C)(hn:3<=n)(a:ak Addr)(a4:C)(ds:M Dev)(o:K)(Bt Bi:C)(V0:C->Prop)(w:a0)(hT:TreeOk ds)(hU:SubAt w a a4 ds o Bt Bi)(g1:ds.length<=1000000)
  (hV:¬ V0 Bt/\¬ V0 Bi/\∀ z,a=E z->ds≠[]->¬ V0 z.block):
  GivesN bp n af 175 #[L (E ⟨Bt,0,G⟩),L (E ⟨Bi,0,G⟩)] (λd:Dev=>#[ae d.vals]) (λ_=>False) V0 (subL o ds (λ_=>a1)) w:=by
 intro l J W b4 g2 g3 b5 hJ hY h0;have d6:=@run_makeMap af;have d7:Bt<(w:C):=zC hU.tree;have d8:Bi<(w:C):=zC hU.idx;have b6:∀ z,a=E z->ds≠[]->z.block<(w:C):=λz e v=>(hU.devs.cell z e v).2.1
 have g4:=b4.size;have hm:=hU.devs.lenmax;have g5:1<=n:=by omega
 have hx:Fr No W (W.alloc (.map #[] 0)):=(ah _ _).alloc _;have d9:=zEL W;have g6:(W.alloc (.map #[] 0)).heap.size=(W:C)+1:=by simp
 have b7:=(hU.no b4).no hx;have e0:=hJ _ _ _ _ _ h0 hx (λ_ h=>h.elim);have e1:¬ V0 (W:C):=λh=>by have:=b5 _ _ _ h0 _ h;omega
 have cv:(W.alloc (.map #[] 0)).cell? ⟨Bt,0,G⟩=E (P a ds.length a4):=zB b7.tree 0;show CallsIn bp n af 175 #[.func (.yield l) #[] #[],L (E ⟨Bt,0,G⟩),L (E ⟨Bi,0,G⟩)] W _
 refine callsIn_of_wp bj rfl trivial ?_ rfl;simp only[Tryz.ntmps175,be,ap,bb,bf,bg,aw,ax,bd,az,bc,ba]
 gi_wp2
 clear cv d6;generalize W.alloc (.map #[] 0)=W0 at *
 gi_loopw [11] (λi wr=>∃ (k:C) (pre:M Dev) (R:K->ag) (V:C->Prop),k<=ds.length/\i=j f (k:K)/\Hid (subL o ds (λ_=>a1)=pre++subL o (ds.drop k) R)/\BMap wr (W:C) R k/\SubAt wr a a4 ds o Bt Bi/\J pre V wr/\Hid (¬ V (W:C)/\∀ b,V b->V0 b\/(W:C)<=b)/\(W0:C)<=(wr:C)) (λi _=>ds.length-(intOf i).toNat)
 case atStart=>exact⟨0,[],λ_=>a1,V0,by omega,rfl,by unfold Hid;simp,d9,b7,e0,⟨e1,λb h=>.inl h⟩,bv _⟩
 case round=>
  obtain⟨k,pre,R,V,hk,rfl,HC,b8,a5,a6,y,g7⟩:=hrel;by_cases a7:k<ds.length
  .have e8:(k:K)<ds.length:=by omega
   obtain⟨db,g8,x,e2,I,y0,y1,y2,y3,y4,y5,y6,y7,y8,y9⟩:=a5.devs.dev a7;subst e2;have a8:=List.mem_of_getElem? I;have e3:=hT.iwf a8;have e4:=hT.pwf a8;have A:ds.drop k=x::ds.drop (k+1):=by
    have e:ds[k]=x:=by rw[List.getElem?_eq_getElem a7]at I;exact Option.some.inj I
    rw[List.drop_eq_getElem_cons a7,e]
   have hC:=HC.out;rw[A]at hC;have N:=zh hC;obtain⟨W1,O,U,-⟩:=zy wr (H x.vals 36);have X:W1.heap[(wr:C)]?=E (H x.vals 36):=by rw[O];exact zF wr (H x.vals 36)
   have g9:=U.size;have Y:=a5.no U;have Z:=b8.fr U id;have a9:=hJ _ _ _ _ _ a6 U (λ_ h=>h.elim);clear I a8 A hC a5 b8 a6;have s0:W1.cell? ⟨Bi,0,G⟩=E (j f o):=zB Y.idx 0;obtain⟨z0,z1⟩:=cl2 X;unfold aj at O
   gi_upto_region 4 with(fail)
   rw[<-O];clear O y0 y1 y2 y3 y4 y5 y6 y7 y8 y9;have u:=zg4 Y Z a9 X;generalize (Value.agg #[j f x.index,j f x.parent,ai x.name,ai x.orig,ai x.sub,ai x.drv,ai x.ali,j f x.kind,j f x.num,P x.aa x.an x.ac])=xv
   gi_cut [25]from 99 (λb wx=>b=.bool (!(x.index==o||R x.parent))/\wx=W1)
   case first=>
    by_cases b0:x.index=o
    .gi_wp2_with fail
     gi_meet
     exact⟨by simp[b0],rfl⟩
    .have h3:(x.index != o)=true:=by simp[b0]
     have e5:=Z.look e4;rcases hRx:R x.parent with _|_
     all_goals
      rw[hRx]at e5
      gi_wp2_with fail
      gi_meet
      exact⟨by simp[b0,hRx],rfl⟩
   case rest=>
    obtain⟨rfl,rfl⟩:=hcut;rcases hb:(x.index==o||R x.parent)with _|_
    .have a2:Hid (subL o ds (λ_=>a1)=pre++subL o (ds.drop (k+1)) R):=by
      unfold Hid;rw[N.out,zA3 hb]
     clear HC N Y a9 X hb
     gi_wp2_with fail
     go_roundw
     case rel=>exact⟨k+1,pre,R,V,by omega,by go_num,a2.out,by obtain⟨D,nn,h1,h2⟩:=u.out.2.1;exact⟨D,nn,by omega,h2⟩,u.out.1,u.out.2.2.1,y.out,by omega⟩
     case measure=>simp[intOf];omega
    .have a2:Hid (subL o ds (λ_=>a1)=(pre++[x])++subL o (ds.drop (k+1)) (upd R x.index ab)):=by
      unfold Hid;rw[N.out,zBL hb,List.append_assoc];rfl
     clear HC N Y a9 X hb
     gi_upto_region 6 with(gi_at_mapUpdate;refine zCL rfl _ _ _ 192 rfl au (W:C) _ _ (by unfold maxLen;omega) x.index e3 ab rfl Z rfl rfl ?_;intro w3 b9 F)
     have d0:=hJ _ _ _ _ _ u.out.2.2.1 F (λb hb=>by unfold Is at hb;subst hb;exact⟨y.out.1,.inr (bv _)⟩);have h4:=F.size;have e6:=hY pre V x w3 d0 ⟨subL o (ds.drop (k+1)) (upd R x.index ab),a2.out.symm⟩ (by omega);have d1:=u.out.1.fr F (λz e v h=>by unfold Is at h;have:=b6 z e v;omega) (λh=>by omega) (λh=>by omega);have b3:=F.heap u.out.2.2.2 (λh=>by omega);obtain⟨fn,e9,d5,g0,hy,hR⟩:=e6;obtain⟨c0,c1,c2,c3,c4,c5,c6,c7,c8,c9⟩:=DevB.of b3;have b1:=zg2 d1 b9;unfold aj at hy;clear d0 d1 b9 F b3 z0 z1 s0 Z
     gi_wp2
     refine hR.mono ?_;rintro e W3 ⟨rfl,V',b2,d2,a3⟩;have h5:=a3.size;have n4:∀ b,b<(w:C)->¬ V0 b->¬ (V b\/b=l):=λb h1 h2 h=>h.elim (λh=>(y.out.2 b h).elim h2 (λh=>by omega)) (λh=>by omega)
     have d3:=b1.out.1.fr a3 (λz e v=>n4 _ (b6 z e v) (hV.2.2 z e v)) (n4 _ d7 hV.1) (n4 _ d8 hV.2.1);have d4:=b1.out.2.fr a3 (λh=>h.elim y.out.1 (λh=>by omega));have HF:=zg3 d3 d4 d2;have e7:Hid (¬ V' (W:C)/\∀ b,V' b->V0 b\/(W:C)<=b):=⟨λh=>(b2 _ h).elim y.out.1 (λh=>by omega),λb h=>(b2 b h).elim (y.out.2 b) (λh=>.inr (by omega))⟩
     clear d3 d4 d2 b2 a3 hR hy b1 u c0 c1 c2 c3 c4 c5 c6 c7 c8 c9
     gi_wp2
     go_roundw
     case rel=>exact⟨k+1,pre++[x],upd R x.index ab,V',by omega,by go_num,a2.out,HF.out.2.1,HF.out.1,HF.out.2.2,e7.out,by omega⟩
     case measure=>simp[intOf];omega
  .obtain rfl:k=ds.length:=by omega
   gi_wp2
   go_end0
   have e:subL o ds (λ_=>a1)=pre:=by rw[HC.out,List.drop_length];simp[subL]
   rw[e];exact⟨⟨_,rfl⟩,V,a6⟩
attribute [local go_sem] bi
def fpD (B:C)(O:M Dev)(v:Value)(b:C):Prop:=b=B\/v.ownBlock=E b\/∃ d∈O,∃ ad,d.aa=E ad/\ad.block=b
structure SubI (w0:a0)(B5:C)(pre:M Dev)(V:C->Prop)(W:a0):Prop where
 st:∃ (O:M Dev) (av:ak Addr) (cv:C),W.heap[B5]?=E (H #[P av O.length cv] 45)/\W.ownsRow (w0:C) 36 10 (P av O.length cv) O.length (flat O)/\Cop w0 W (w0:C) pre O/\V=fpD B5 O (P av O.length cv)
 fr:Fr (From (w0:C)) w0 W
theorem Cop.attr_lt {O:M Dev}(h:Cop w W o pre O)(y:d∈O){u:Addr}(e:d.aa=E u):o<=u.block/\u.block<(W:C):=by
 obtain⟨x,_,v⟩:=h.mem y;obtain⟨cs,z⟩:=v.typ u e;exact⟨v.fresh u e,zC z⟩
theorem SubI.lt {o:a0}(h:SubI o v pre V W)(y:(o:C)<=v){b:C}(u:V b):(o:C)<=b/\b<(W:C):=by
 obtain⟨O,I,J,z,A,D,rfl⟩:=h.st;rcases u with rfl|u|⟨d,F,N,e,rfl⟩
 .exact⟨y,zC z⟩
 .exact zAD A u
 .exact D.attr_lt F e
theorem SubI.mv {D:C}{A F:a0}(h:SubI z D pre V A)(u:Fr S A F)(v:∀ b,S b->¬ V b/\(z:C)<=b):SubI z D pre V F:=by
 obtain⟨O,I,J,N,R,U,X⟩:=h.st;subst X;exact⟨⟨O,I,J,u.heap N (λy=>(v _ y).1 (.inl rfl)),zG R u (λb y o=>(v _ o).1 (.inr (.inl y))),U.fr u (λd Y Z e o=>(v _ o).1 (.inr (.inr ⟨d,Y,Z,e,rfl⟩))),rfl⟩,h.fr.step u (λb y o=>(v b o).2)⟩
theorem zBM:∀ {R:K->ag} {d:Dev},d∈subL n ds R->d∈ds:=by
 induction ds with
 | nil=>intro R d h;simp[subL]at h
 | cons x t o=>
  intro R d h;rcases hb:(x.index==n||R x.parent)with _|_
  .rw[zA3 hb]at h;exact bu _ (o h)
  .rw[zBL hb]at h;rcases List.mem_cons.1 h with h|h
   .subst h;simp
   .exact bu _ (o h)
theorem zDK (n:K)(ds:M Dev):∀ (R:K->ag),(subL n ds R).length<=ds.length:=by
 induction ds with
 | nil=>intro R;simp[subL]
 | cons x t h=>
  intro R;rcases hb:(x.index==n||R x.parent)with _|_
  .rw[zA3 hb];have:=h R;simp only[ap];omega
  .rw[zBL hb];have:=h (upd R x.index ab);simp only[ap];omega
theorem zJe (a:ak Addr)(o d2:C)(ds:M Dev)(n:K)(w:a0)(hl:Tr w d2 a o ds)(hn:ds.length<=256):
  Calls af 98 #[ae #[P a ds.length o],j f n] w λe w'=>(∃ v c' b4,e=.returned (P v b4.length c')/\Devs w' v c' b4/\BlkT w' v 36/\(∀ u,v=E u->(w:C)<=u.block)/\Cop w w' (w:C) (subL n ds (λ_=>a1)) b4)/\Fr No w w':=by
 have hT:=hl.wf.1;obtain⟨i0,g2,g3,g4,g5⟩:=info_parts infoD;refine(callsIn_wide (n:=12)).1 (ca Tryz.func98 rfl trivial (wpIn_wide.2 ?_));simp only[Tryz.ntmps98,be,ap,bb,bf,bg,aw,ax,bd,az,bc,ba];obtain⟨J,d3,hW,b2,b6⟩:=zw w (H #[P a ds.length o] 47) (H #[P G 0 0] 45);have t2:J.cell? ⟨w,0,G⟩=E (P a ds.length o):=zB b2 0;have i1:=zC b6
 go_upto_region 2 with(fail)
 rw[<-d3];clear d3
 go_wp2_with fail
 refine(zF0 _ _ _).mono ?_;rintro e w2 ⟨rfl,rfl⟩;have b5:Fr No J ((J.alloc (H #[P a ds.length o] 47)).alloc (H #[j f n] 3)):=((ah _ _).alloc _).alloc _;have N:=hW.step b5 zi;have hU:SubAt ((J.alloc (H #[P a ds.length o] 47)).alloc (H #[j f n] 3)) a o ds n (J:C) ((J:C)+1):=⟨hl.dv.no N (λ_=>id),zO _ _ _,zR _ _ _⟩
 have d6:=b5.heap b6 id;have d4:((J.alloc (H #[P a ds.length o] 47)).alloc (H #[j f n] 3)).heap.size=(J:C)+2:=by simp
 clear t2 b2 b6 b5
 go_wp2_with fail
 generalize (J.alloc (H #[P a ds.length o] 47)).alloc (H #[j f n] 3)=W2 at *;have b7:∀ u,a=E u->ds≠[]->u.block<(w:C):=λu e Y=>(hl.dv.cell u e Y).2.1
 refine(wpIn_wide (n:=12)).1 (zDA (α:=Dev) (T:=λ_=>False) (V0:=Is ((w:C)+1)) rfl (by omega) (gf:=175) (lb:=#[L (E ⟨J,0,G⟩),L (E ⟨(J:C)+1,0,G⟩)]) rfl trivial (bn bj (by kernel_rfl) rfl) (encs:=λd:Dev=>#[ae d.vals]) (λ_=>rfl) (λb h=>h.elim) (λb h=>by omega)
  (zF4 11 (by omega) a o ds n (J:C) ((J:C)+1) (Is ((w:C)+1)) W2 hT hU (by omega) ⟨λh=>by omega,λh=>by omega,λu e Y h=>by have:=b7 u e Y;omega⟩)
  (SubI w ((w:C)+1)) (λ_ _ _ h b I=>(h.lt (by omega) I).2) (λs V A i2 S h hf hS=>h.mv hf (λb I=>⟨(hS b I).1,by have:=(hS b I).2.resolve_left id;have:=N.size;omega⟩))
  ⟨⟨[],G,0,d6,World.ownsRow_nil _ _ _ _,by simpa using Cop.nil _ _ _,by funext b;unfold Is fpD;simp[Value.ownBlock]⟩,N.mono zn⟩
  (λx V v W=>∃ Bx,(W2:C)+2<=Bx/\W.heap[Bx]?=E (H x.vals 36)/\¬ V Bx/\v={ tmps:=#[ae #[P a ds.length o],j f n,L (E ⟨w,0,G⟩),r,P G 0 0,L (E ⟨(w:C)+1,0,G⟩),L (E ⟨Bx,0,G⟩),ae #[P a ds.length o],j f n,.func (.func 175) #[] #[L (E ⟨J,0,G⟩),L (E ⟨(J:C)+1,0,G⟩)],ae x.vals,r,r,r,r,r,r],defers:=[] })
  (λx V v A i2 h hf=>by obtain⟨Bx,h1,h2,h3,h4⟩:=h;exact⟨Bx,h1,hf.heap h2 (λe=>by omega),h3,h4⟩)
  ?assign ?body ?done)
 case assign=>
  intro l pre V x W i3 Z a9 hK;have g6:=λb (I:V b)=>(Z.lt (by omega) I).2
  have i4:=λv W' (h1:Fr No W W') h2=>hK v W' h1 h2
  clear b7 d4 hU N d6 hl hT;unfold aj
  gi_wp2
  exact hK _ _ ((ah _ _).alloc _) ⟨(W:C),a9,zF _ _,λh=>by have:=g6 _ h;omega,rfl⟩
 case body=>
  rintro l pre V x v W Z ⟨Bx,i5,d5,g7,rfl⟩ a2 a9;have g8:x∈ds:=zBM (bq a2 (by simp));have i6:pre.length<=256:=by
   have h7:=a2.length_le;have h8:=zDK n ds (λ_=>a1);simp at h7;omega
  obtain⟨l0,a5,b8,d7⟩:=(hl.el x g8).att;have hA:Atts W x.aa x.ac l0:=a5.fr Z.fr (λu e Y h=>by have:=(a5.cell u e Y).2.1;omega);have g9:=zh (λb (I:V b)=>Z.lt (by omega) I);obtain⟨O,av,cv,h1,h2,h3,rfl⟩:=Z.st;have i7:O.length<=256:=by have:=h3.len;omega
  have HI:=zh Z.fr;have b9:=zg3 a5 b8 d7;clear a2 Z b7 d4 hU N d6 hl hT a5
  gi_upto_region 4 with(fail)
  refine zCF 5 (λb=>(am av O.length cv).ownBlock=E b) (.q 0 (.q 1 (.m1 2 (.m1 3 (.m1 4 (.m1 5 .fin)))))) _ (by kernel_rfl) (by kernel_rfl) (λW3 D=>?_) zj;have i8:=D.size;have k5:=D.heap h1 id;have kx:=D.heap d5 id;have a4:=zG h2 D (λ_ _=>id);have n5:=zK a4 k5 (by decide);have cx:∀ g:Gr (λb=>(am av O.length cv).ownBlock=E b) W3,DevB g.W Bx x:=λg=>DevB.of (g.fr.heap kx (λh=>g7 (.inr (.inl h))))
  have e0:=λg=>(cx g).c0
  have e1:=λg=>(cx g).c1
  have e2:=λg=>(cx g).c2
  have e3:=λg=>(cx g).c3
  have e4:=λg=>(cx g).c4
  have e5:=λg=>(cx g).c5
  have e6:=λg=>(cx g).c6
  have e7:=λg=>(cx g).c7
  have e8:=λg=>(cx g).c8
  have e9:=λg=>(cx g).c9
  have x5:∀ g:Gr (λb=>(am av O.length cv).ownBlock=E b) W3,g.W.cell? ⟨(w:C)+1,0,G⟩=E (P av O.length cv):=λg=>zB (g.fr.heap k5 n5) 0
  have d0:=zBX x l0 W3 (hA.no D (λ_=>id)) b8 (by omega);have HC:=zh (h3.fr D (λ_ _ _ _=>id));have h0:=zh D;clear cx d5 hA b8 d7 h1 h2 h3 D;unfold aj at d0
  repeat (apply tx_q rfl rfl rfl;intro i3 hK;go_big_quiet_op;go_big_quiet_on)
  clear e0 e1 e2 e3 e4 e5 e6 e7 e8 e9 x5;apply zA9;exact rfl
  go_wp2_with fail
  refine d0.mono ?_;rintro e W4 ⟨⟨v,c',rfl,d8,d9,z⟩,R⟩;clear d0;have i9:=R.size;have b0:=zG a4 R (λ_ _=>id);have h5:=zh ((HC.out.fr R (λ_ _ _ _=>id)).snoc (⟨rfl,⟨l0,b9.out.1,d8,b9.out.2.1,b9.out.2.2⟩,d9,λu e=>by have:=z u e;have:=HI.out.size;omega⟩:Cop1 w W4 (w:C) x { x with aa:=v,ac:=c' }));have al:=(ah No W4).alloc (H (aj { x with aa:=v,ac:=c' }) 36);have U:=zG b0 al (λ_ _=>id);have k6:=al.heap (R.heap k5 id) id;have n6:=zK U k6 (by decide);have h6:=zh (h0.out.step R zi);have d1:=zg2 (h5.out.fr al (λ_ _ _ _=>id)) al;have h9:Hid (∀ u,v=E u->(W:C)<=u.block):=λu e=>by have:=z u e;omega
  clear a4 k5 n5 kx d8 d9 al z
  go_wp2_with fail
  refine bh ⟨λ_=>R.mono zn,?_⟩;clear R;apply zA9;exact rfl
  go_wp2_with fail
  refine bh ⟨λ_=>d1.out.2.mono zn,?_⟩;apply zA9;exact rfl
  go_wp2_with (at_builtin;refine wpList_append_own_at _ rfl _ _ 45 rfl (w:C) 36 i0 (ae #[j f 0,j f 0,ai ao,ai ao,ai ao,ai ao,ai ao,j f 0,j f 0,P G 0 0]) 10 136 Tryz.underlying45 g2 g3 g4 g5 rfl (by decide) _ _ _ rfl U ⟨W4,0,G⟩ 1 1 (aj { x with aa:=v,ac:=c' }).toList rfl rfl (zg _ (aj { x with aa:=v,ac:=c' }) _ rfl) (zAT _) (by unfold maxLen;omega) (by omega) (by have:=HI.out.size;rw[bz];omega) ?_;intro v' w6 X g0 _ g1;obtain⟨a6,a7,rfl⟩:=zI X)
  have gf:Fr (λb=>(am av O.length cv).ownBlock=E b) (W4.alloc (H (aj { x with aa:=v,ac:=c' }) 36)) w6:=Fr.of_grown g0;refine zf gf ?_;have k7:=gf.heap k6 n6;have n7:=zK X k7 (by decide);have t7:w6.cell? ⟨(w:C)+1,0,G⟩=E (P av O.length cv):=zB k7 0;have f7:w6.frozen? ⟨(w:C)+1,0,G⟩=false:=zD k7 0;have x8:Fr (Is ((w:C)+1)) w6 (w6.setCell ⟨(w:C)+1,0,G⟩ (P a6 (O.length+1) a7)):=Fr.setAt (ah _ _) _;have k8:=zE k7 0 (P a6 (O.length+1) a7);have C6:=d1.out.1.own U gf;have C8:=C6.fr x8 (λd hd=>by
   obtain⟨y,_,h1⟩:=C6.mem hd;exact BlkT.ne_blk h1.typ k7 (by decide))
  have b1:=zG X x8 (λb I h=>n7 (by unfold Is at h;rw[<-h];exact I));have H8:=zg5 k8 b1 C8 g1 ((((h6.out.step d1.out.2 zi).mono (T:=fpD ((w:C)+1) O (P av O.length cv)) zn).step gf (λb _ h=>.inr (.inl h))).step x8 (λb _ h=>.inl h));clear k8 b1 C8 C6 x8 gf g0 g1 X U b0 k6 n7 k7 n6;apply zA9;exact rfl
  go_wp2_with fail
  refine bh ⟨λh=>(h rfl).elim,?_⟩;refine zFy ?_;refine⟨fpD ((w:C)+1) (O++[{ x with aa:=v,ac:=c' }]) (P a6 (O++[{ x with aa:=v,ac:=c' }]).length a7),?_,⟨⟨_,a6,a7,by rw[aq];exact H8.out.1,by rw[aq,zCe];exact H8.out.2.1,H8.out.2.2.1,rfl⟩,?_⟩,H8.out.2.2.2.2⟩
  .rintro b (rfl|I|⟨d,hd,u,e,rfl⟩)
   .exact .inl (.inl rfl)
   .rw[aq]at I;rcases H8.out.2.2.2.1 with h|h
    .exact .inl (.inr (.inl (h.symm.trans I)))
    .right;have:=I.symm.trans h;simp only[Option.some.injEq,bz]at this;omega
   .rcases List.mem_append.1 hd with h|h
    .exact .inl (.inr (.inr ⟨d,h,u,e,rfl⟩))
    .obtain rfl:d=_:=by simpa using h
     exact .inr (h9.out u e)
  .exact HI.out.step H8.out.2.2.2.2 (λb _ h=>(g9.out b h).1)
 case done=>
  rintro V W Z hK a8;obtain⟨O,av,cv,h1,h2,h3,hV⟩:=Z.st;have t5:W.cell? ⟨(w:C)+1,0,G⟩=E (P av O.length cv):=zB h1 0;have F:Fr (Is (W2:C)) W (W.putObj (W2:C) (.deferred G)):=ay _ _ _ rfl;obtain⟨a3,c3,hv,hD,b3⟩:=bo h2;cases hv;have j0:=N.size;rw[hV]at a8;have HE:=zg5 (hD.fr F (λu e Y h=>a8 (.inr (.inl (by unfold Is at h;subst e;rw[<-h];rfl))))) ((zAG h2).fr F (λu e h=>a8 (.inr (.inl (by unfold Is at h;subst e;rw[<-h];rfl))))) b3 (h3.fr F (λd hd u e h=>a8 (.inr (.inr ⟨d,hd,u,e,h⟩)))) ((Z.fr.step F (λb I e=>by omega)).mono (T:=No) (λb I h=>by omega));clear Z F N hD h2 h3 b3
  go_wp2_with fail
  refine⟨by simp,.inl ⟨_,_,rfl,cb hK,?_⟩⟩;refine⟨P av O.length cv,by simp[results,Tryz.results98,go_sem],⟨av,cv,O,rfl,HE.out.1,HE.out.2.1,HE.out.2.2.1,HE.out.2.2.2.1⟩,HE.out.2.2.2.2⟩
attribute [local go_sem] bi
def ixs (l:M Dev):K->Bool:=λi=>l.any λd=>d.index==i
theorem zL7 (l:M Dev)(x:Dev):upd (ixs l) x.index ab=ixs (l++[x]):=by
 funext i
 unfold upd ixs;rw[List.any_append];by_cases h:i=x.index
 .subst h;simp
 .have:(x.index==i)=false:=by simpa using λe=>h e.symm
  simp[h,this]
def remL (n:K)(ds:M Dev):M Dev:=ds.filter λd=>!ixs (subL n ds (λ_=>a1)) d.index
theorem zNT (h:look ds n=E d):subL n ds R≠[]:=by
 induction ds generalizing R with
 | nil=>cases h
 | cons x t o=>
  unfold look at h;unfold subL;by_cases e:x.index=n
  .rw[if_pos (by simp[e])];simp
  .rw[List.find?_cons_of_neg (by simpa using e)]at h;split
   .simp
   .exact o h
theorem zGq {w:a0}{v:Array Oper}{u:M Oper}{o:Oper}{a:Act}{Q:Exit->Act->a0->Prop}(J:o.guard=G)(m:Operand)(t:TypeId)(z:o.op=Op.call { callee:=Callee.builtin Builtin.len,args:=#[m],argTypes:=#[t] })(O:Tryz.prog.underlying t=E (.map 3 4))
  (A:C) (g:K->ag) (N:C) (R:a.eval m=.map (E A)) (y:BMap w A g N) (x:K) (U:g x=ab)
  (V:∀ k:C,0<k->wpList af v Q u (a.put o.dst (j f k)) w):wpList af v Q (o::u) a w:=by
 obtain⟨D,n,_,I,Y⟩:=y;refine wpList_len_own w J m t z 3 4 O _ A n D R I (V _ ?_);rcases Nat.eq_zero_or_pos (Maps.size D)with h|h
 .exfalso;obtain⟨es,F,hb,hf,hs,Z⟩:=I;obtain⟨X,hX⟩:∃ X,D=.map X:=⟨_,Z⟩
  subst hX;obtain rfl:X=[]:=br h;have:=Y x;rw[U]at this;cases this
 .exact h
theorem Cop.filter {w w':a0}{o:C}(p:Dev->ag)(A:∀ d u:Dev,u.index=d.index->p u=p d):∀ {ds cs:M Dev},Cop w w' o ds cs->Cop w w' o (ds.filter p) (cs.filter p)
 | [],cs,h=>by
  have:cs=[]:=br h.len;subst this;exact h
 | d::t,[],h=>by have:=h.len;cases this
 | d::t,u::I,h=>by
  have D:=h.el 0 d u rfl rfl;have J:Cop w w' o t I:=⟨by have:=h.len;simpa using this,λi x y e v=>h.el (i+1) x y e v⟩
  have F:p u=p d:=A d u (by rw[D.eq]);have z:=Cop.filter p A J;cases hpd:p d with
  | false=>rw[bs (by rw[hpd];simp),bs (by rw[F,hpd];simp)];exact z
  | true=>
   rw[bt hpd,bt (by rw[F,hpd])];refine⟨by simp[z.len],λi x y e v=>?_⟩;cases i with
   | zero=>cases e;cases v;exact D
   | succ i=>exact z.el i x y e v
def RemRes (w w':a0)(ds:M Dev)(n:K)(e:Ending):Prop:=
 ∃ a' c' ds',e=.returned (.tuple #[ae #[P a' (List.length ds') c'],j f 0])/\Devs w' a' c' ds'/\BlkT w' a' 36/\(∀ ad,a'=E ad->(w:C)<=ad.block)/\Cop w w' (w:C) (remL n ds) ds'
theorem zNZ (d:Dev)(o u N:C)(g:K->ag)(w:a0)(z:w.heap[o]?=E (H #[.map (E u)] 192))(A:BMap w u g N)(v:(ar f d.index).wf=ab):
  Calls af 127 #[ae d.vals,L (E ⟨o,0,G⟩)] w λe w'=>e=.returned (.bool (g d.index))/\Fr No w w':=by
 obtain⟨D,h,y,F⟩:=zy w (H d.vals 36);have J:=(DevB.of F).c0;have O:D.cell? ⟨o,0,G⟩=E (.map (E u)):=zB (y.heap z id) 0;have I:=(A.fr y id).look v;unfold aj at h ⊢
 go_enter bw,Tryz.ntmps127
 go_upto_region 1 with(fail)
 rw[<-h];clear h
 go_wp2_with fail
 go_ret;exact⟨rfl,y⟩
structure RemI (w0:a0)(bm mb:C)(pre:M Dev)(V:C->Prop)(W:a0):Prop where
 map:BMap W mb (ixs pre) pre.length
 foot:V=Is mb
 fr:Fr (λb=>b=mb\/(w0:C)<=b) w0 W
 box:W.heap[bm]?=E (H #[.map (E mb)] 192)
theorem zHd (a:ak Addr)(o d8:C)(ds:M Dev)(n:K)(dn:Dev)(w:a0)(hl:Tr w d8 a o ds)(hn:ds.length<=256)(b0:look ds n=E dn):
  Calls af 71 #[ae #[.slice a ds.length o],.int f n] w λe w'=>RemRes w w' ds n e/\Fr No w w':=by
 have hT:=hl.wf.1;refine(callsIn_wide (n:=12)).1 (ca Tryz.func71 rfl trivial (wpIn_wide.2 ?_));simp only[Tryz.ntmps71,be,ap,bb,bf,bg,aw,ax,bd,az,bc,ba];obtain⟨z,Z⟩:∃ z,z=(((w.alloc (H #[.slice a ds.length o] 47)).alloc (H #[.slice G 0 0] 47)).alloc (.map #[] 0)).alloc (H #[.map (E ((w:C)+1+1))] 192):=⟨_,rfl⟩
 have g5:=@run_makeMap af;obtain⟨V0,b1,f0,a2,a4⟩:=zw w (H #[.slice a ds.length o] 47) (H #[.slice G 0 0] 47);have sV:(V0:C)=(w:C)+1+1:=by rw[b1];simp
 rw[<-b1]at Z;have f1:Fr No V0 z:=by rw[Z];exact((ah _ _).alloc _).alloc _
 have b2:=f1.heap a2 id;have b4:=f1.heap a4 id;have b6:z.heap[(w:C)+1+1+1]?=E (H #[.map (E ((w:C)+1+1))] 192):=by
  have h:=zR V0 (.map #[] 0) (H #[.map (E ((w:C)+1+1))] 192);rw[sV]at h;rw[Z];exact h
 have hM:BMap z ((w:C)+1+1) (ixs []) 0:=by
  have h:=(zEL V0).fr (S:=No) ((ah No _).alloc (H #[.map (E ((w:C)+1+1))] 192)) id;rw[sV]at h;rw[Z];exact h
 have hW:Fr No w z:=f0.step f1 zi;have t2:z.cell? ⟨w,0,G⟩=E (.slice a ds.length o):=zB b2 0;have i2:=zC b6
 go_upto_region 2 with(fail)
 rw[<-b1,<-Z];clear Z b1 f0 f1 a2 a4 sV g5
 go_wp2_with fail
 refine(zF0 _ _ _).mono ?_;rintro e w2 ⟨rfl,rfl⟩;have a3:Fr No z ((z.alloc (H #[.slice a ds.length o] 47)).alloc (H #[.int f n] 3)):=((ah _ _).alloc _).alloc _;have O:=hW.step a3 zi;have hU:SubAt ((z.alloc (H #[.slice a ds.length o] 47)).alloc (H #[.int f n] 3)) a o ds n (z:C) ((z:C)+1):=⟨hl.dv.no O (λ_=>id),zO _ _ _,zR _ _ _⟩
 have d2:=a3.heap b2 id;have d4:=a3.heap b4 id;have d6:=a3.heap b6 id;have dM:=hM.fr a3 id;have d3:((z.alloc (H #[.slice a ds.length o] 47)).alloc (H #[.int f n] 3)).heap.size=(z:C)+2:=by simp
 clear t2 b2 b4 b6 hM a3 hW
 go_wp2_with fail
 generalize (z.alloc (H #[.slice a ds.length o] 47)).alloc (H #[.int f n] 3)=W2 at *;have b3:∀ N,a=E N->ds≠[]->N.block<(w:C):=λN e a5=>(hl.dv.cell N e a5).2.1
 refine(wpIn_wide (n:=12)).1 (zDA (α:=Dev) (T:=λ_=>False) (V0:=Is ((w:C)+1+1)) rfl (by omega) (gf:=175) (lb:=#[L (E ⟨z,0,G⟩),L (E ⟨(z:C)+1,0,G⟩)]) rfl trivial (bn bj (by kernel_rfl) rfl) (encs:=λd:Dev=>#[ae d.vals]) (λ_=>rfl) (λb h=>h.elim) (λb h=>by omega)
  (zF4 11 (by omega) a o ds n (z:C) ((z:C)+1) (Is ((w:C)+1+1)) W2 hT hU (by omega) ⟨λh=>by omega,λh=>by omega,λN e a5 h=>by have:=b3 N e a5;omega⟩)
  (RemI W2 ((w:C)+1+1+1) ((w:C)+1+1)) (λ_ _ _ h b F=>by rw[h.foot]at F;unfold Is at F;rw[F];exact h.map.lt)
  (λs V A i3 S h hf hS=>by
   have nb:∀ b,S b->¬ V b/\(W2:C)<=b:=λb F=>⟨(hS b F).1,(hS b F).2.resolve_left id⟩
   exact⟨h.map.fr hf (λF=>(nb _ F).1 (by rw[h.foot])),h.foot,h.fr.step hf (λb F hs=>.inr (nb b hs).2),hf.heap h.box (λF=>by have:=(nb _ F).2;omega)⟩)
  ⟨dM,rfl,ah _ _,d6⟩
  (λx V U W=>∃ Bx,(W2:C)+2<=Bx/\W.heap[Bx]?=E (H x.vals 36)/\U={ tmps:=#[ae #[.slice a ds.length o],.int f n,L (E ⟨w,0,G⟩),r,L (E ⟨(w:C)+1,0,G⟩),.int f 0,L (E ⟨(w:C)+1+1+1,0,G⟩),L (E ⟨Bx,0,G⟩),.map (E ((w:C)+1+1)),ae #[.slice a ds.length o],.int f n,.func (.func 175) #[] #[L (E ⟨z,0,G⟩),L (E ⟨(z:C)+1,0,G⟩)],ae x.vals,r,r,r,r,r,r,r,r,r,r,r,r,r],defers:=[] })
  (λx V U A i3 h hf=>by obtain⟨Bx,h1,h2,h3⟩:=h;exact⟨Bx,h1,hf.heap h2 (λe=>by omega),h3⟩)
  ?assign ?body ?done)
 case assign=>
  intro l pre V x W i9 X b7 hK;have i4:=λU W' (h1:Fr No W W') h2=>hK U W' h1 h2
  clear b3 d3 hU O d2 d4 d6 dM hl hT b0;unfold aj
  gi_wp2
  exact hK _ _ ((ah _ _).alloc _) ⟨(W:C),b7,zF _ _,rfl⟩
 case body=>
  rintro l pre V x U W X ⟨Bx,i5,d9,rfl⟩ a7 b7;have e0:x∈ds:=zBM (bq a7 (by simp));have g6:=hT.iwf e0;have i6:pre.length<=256:=by
   have h7:=a7.length_le;have h8:=zDK n ds (λ_=>a1);simp at h7;omega
  have t6:W.cell? ⟨(w:C)+1+1+1,0,G⟩=E (.map (E ((w:C)+1+1))):=zB X.box 0;have t0:W.cell? ⟨Bx,0,G⟩=E (.int f x.index):=zB d9 0;have g7:=X.map;have HI:=zh X;clear X a7 e0 d9 b3 d3 hU O d2 d4 d6 dM hl hT b0
  gi_wp2_with (gi_at_mapUpdate;refine zCL rfl _ _ _ 192 rfl au ((w:C)+1+1) _ _ (by unfold maxLen;omega) x.index g6 ab rfl g7 rfl rfl ?_;intro w3 e4 I)
  have e5:=HI.out.foot;refine⟨V,λb h=>.inl h,⟨?_,e5,HI.out.fr.step I (λb F h=>.inl h),I.heap HI.out.box (λh=>by omega)⟩,by rw[e5];exact I⟩;rw[zL7]at e4;obtain⟨D,g8,h1,h2⟩:=e4;exact⟨D,g8,by rw[aq];exact h1,h2⟩
 case done=>
  rintro V W X hK g9;have u:Fr (Is (W2:C)) W (W.putObj (W2:C) (.deferred G)):=ay _ _ _ rfl;have t6:W.cell? ⟨(w:C)+1+1+1,0,G⟩=E (.map (E ((w:C)+1+1))):=zB X.box 0;have k2:=X.fr.heap d2 (λh=>by have:=zC d2;omega);have k4:=X.fr.heap d4 (λh=>by have:=zC d4;omega);have t2:W.cell? ⟨w,0,G⟩=E (.slice a ds.length o):=zB k2 0;have FW:Fr No w W:=O.step (X.fr) (λb F h=>by have:=O.size;omega);obtain⟨y,hy⟩:=List.exists_mem_of_ne_nil _ (zNT (R:=λ_=>a1) b0);have h0:ixs (subL n ds (λ_=>a1)) y.index=true:=List.any_eq_true.2 ⟨y,hy,by simp⟩;have e6:=zCC a o ds W (hl.dv.no FW (λ_=>id)) (by omega) (λx hx=>by
   obtain⟨l',g1,g2,g3⟩:=(hl.el x hx).att;exact⟨l',g1.no FW (λ_=>id),g2,g3⟩)
  have b8:=X.map;have i0:(w:C)+2<=(W2:C):=by have:=O.size;omega
  have HB:=zg3 X.box X.map k4;have HF:=zg2 FW hK;have HT:=zh hT;have HL:=zh hl;have h4:=FW.size;clear X u O hy b3 d3 hU d2 d4 d6 dM b0 g9 k2 hl hT FW hK k4
  go_upto_region 7 with(at_len;refine zGq rfl _ 192 rfl au ((w:C)+1+1) _ _ rfl b8 y.index h0 ?_;intro g8 hq;have i7:((g8:K)==0)=false:=by simp;omega)
  go_wp2_with fail
  refine e6.mono ?_;rintro e w3 ⟨⟨v,cs,rfl,J,Y⟩,I⟩;obtain⟨av,cv,rfl⟩:=zI J;have i8:cs.length<=256:=by have:=Y.len;omega
  have b9:=zJC 127 #[L (E ⟨(w:C)+1+1+1,0,G⟩)] (bn bw (by kernel_rfl) rfl) (λd=>ixs (subL n ds (λ_=>a1)) d.index) (W:C) av cv cs w3 J (by omega) (λx hx W' e7=>by
   have a5:∀ b,b<(W:C)->¬ (am av cs.length cv).ownBlock=E b:=λb F h=>by have:=(zAD J h).1;omega
   have h1:=zC HB.out.1;obtain⟨d0,h5,h6⟩:=Y.mem hx;exact zNZ x _ _ _ _ W' (e7.heap (I.heap HB.out.1 id) (a5 _ (zC HB.out.1))) ((HB.out.2.1.fr I id).fr e7 (a5 _ HB.out.2.1.lt)) (by rw[h6.eq];show (ar f d0.index).wf=ab;exact HT.out.iwf h5))
  have HC:=zg2 Y J;have h9:=zh I;clear Y J t2 e6 b8 I
  go_wp2_with fail
  refine b9.mono ?_;rintro e w4 ⟨⟨U,c',k,rfl,hk,a8⟩,d5⟩;have b5:Fr No W w4:=(h9.out.step d5 (λb F h=>by have:=(zAD HC.out.2 h).1;omega))
  have k4:=b5.heap HB.out.2.2 id;have e8:∀ b,b<(W:C)->¬ (am U k c').ownBlock=E b:=λb F h=>by have:=(zAD a8 h).1;omega
  have f4:=zD k4 0;have z4:w4.cell? ⟨(w:C)+1,0,G⟩=E (.slice G 0 0):=zB k4 0;have x5:Fr (Is ((w:C)+1)) w4 (w4.setCell ⟨(w:C)+1,0,G⟩ (.slice U k c')):=Fr.setAt (ah _ _) _;have k5:=zE k4 0 (.slice U k c');have a9:=zG a8 x5 (λb F h=>by unfold Is at h;exact e8 _ (zC HB.out.2.2) (by rw[<-h];exact F));have d7:Cop W w4 (W:C) (remL n ds) (cs.filter λx=>!ixs (subL n ds (λ_=>a1)) x.index):=((HC.out.1.own HC.out.2 d5).filter _ (λd d' e=>by rw[e]))
  have e9:=d7.fr x5 (λd hd N e h=>by
   obtain⟨y,_,hc⟩:=d7.mem hd;have:=hc.fresh N e;have:=zC HB.out.2.2;unfold Is at h;omega)
  subst hk;obtain⟨a6,c6,hv,g0,d1⟩:=bo a9;injection hv with e1 e2 e3
  subst e1 e3;have H5:=zg7 g0 (zAG a9) d1 e9 ((HF.out.1.step b5 zi).step x5 (λb F h=>by omega)) (x5.heap (b5.heap HF.out.2 id) (λh=>by omega)) k5;have z5:(w4.setCell ⟨(w:C)+1,0,G⟩ (.slice U (cs.filter λx=>!ixs (subL n ds (λ_=>a1)) x.index).length c')).cell? ⟨(w:C)+1,0,G⟩=E (.slice U (cs.filter λx=>!ixs (subL n ds (λ_=>a1)) x.index).length c'):=zB k5 0;have u:Fr (Is (W2:C)) (w4.setCell ⟨(w:C)+1,0,G⟩ (.slice U (cs.filter λx=>!ixs (subL n ds (λ_=>a1)) x.index).length c')) _:=ay _ (W2:C) (.deferred G) rfl;clear k5 x5 a9 d7 e9 g0 d1 a8 d5 b5 k4;obtain⟨fs,g4⟩:∃ fs,fs=cs.filter λx=>!ixs (subL n ds (λ_=>a1)) x.index:=⟨_,rfl⟩
  rw[<-g4]at H5 z5 u ⊢;clear g4 b9
  go_wp2_with fail
  refine⟨by simp,.inl ⟨_,_,rfl,cb H5.out.2.2.2.2.2.1,?_⟩⟩;have i1:=zC HF.out.2;have z6:=u.cell z5 (λh=>by unfold Is at h;dsimp only at h;omega);refine⟨.tuple #[ae #[.slice U fs.length c'],.int f 0],by simp[results,Tryz.results71,go_sem,z6],⟨U,c',fs,rfl,H5.out.1.fr u (λN e _ h=>by have:=H5.out.2.2.1 N e;omega),H5.out.2.1.fr u (λN e h=>by have:=H5.out.2.2.1 N e;omega),λN e=>by have:=H5.out.2.2.1 N e;omega,?_⟩,H5.out.2.2.2.2.1.step u (λb F h=>by omega)⟩;exact(H5.out.2.2.2.1.fr u (λd hd N e h=>by
   obtain⟨y,_,hc⟩:=H5.out.2.2.2.1.mem hd;have:=hc.fresh N e;unfold Is at h;omega)).src HF.out.1 (λd hd=>by
   obtain⟨l',g1,g2,_⟩:=(HL.out.el d (List.mem_filter.1 hd).1).att;exact⟨l',g1,g2⟩) h4
end Go.Proofs.YtckkocmhlhefpaaGreatDoor
