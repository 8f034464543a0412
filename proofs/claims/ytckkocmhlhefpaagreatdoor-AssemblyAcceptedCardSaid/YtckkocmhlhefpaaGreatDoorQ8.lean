import Derived.TacticsIn
import Derived.Test.YtckkocmhlhefpaaGreatDoorQ7
import Derived.Lib.SplitLaws
import Derived.Laws.EntriesVeiled
namespace Go.Proofs.YtckkocmhlhefpaaGreatDoor
open Go.RowKit Go.Maps Go.Shelf
set_option linter.unusedVariables false
set_option maxRecDepth 100000
set_option maxHeartbeats 4000000
open Dev renaming vals->bc
open Fr renaming refl->aw
open Go renaming World->L,Calls->af,Oper->aq,undef->au,maxLen->ba,wpIn_region_draw->c4
open Go.Code renaming region->bv
open Go.Lib renaming compareBytes->al,index->ap,splitK->az,countB->bd,hasPrefix->be,trimPrefix->bf
open Go.Op renaming bytesLess->ax,defer->bo
open Go.Oper renaming semAt_some->bp
open Go.Proofs.Tryz renaming prog->ag
open Go.Region renaming noSelect->c2,schedule->c3
open Go.RowKit renaming Hid->G
open Go.Value renaming string->bh
open IntKind renaming i64->q
open Obj renaming cells->ac
open Value renaming int->aa,string->ak,pointer->am,agg->ao,slice->av
open _root_ renaming Nat->C,Int->j,ByteArray->ab,List->ae,if_neg->aj,UInt8->an,if_pos->ar,Option->ay
open _root_.Array renaming replicate->br
open _root_.Bool renaming false->ah,true->ai,and_eq_true->bs,true_or->bt
open _root_.ByteArray renaming size->bu
open _root_.List renaming mem_of_getElem?->bg,drop_eq_getElem_cons->bi,size_toArray->bj,take_add_one->bm,drop_eq_nil_of_le->bw,drop_length->bx,getElem?_toArray->bz
open _root_.List.IsPrefix renaming subset->c5
open _root_.Nat renaming le_refl->bn
open _root_.Option renaming some->E,none->K
open _root_.UInt8 renaming lt_irrefl->bq
variable{P:Program}{r n:C}{a:Act}{w:L}{Q:Exit->Act->L->Prop}{l:ae aq}
def zFR (l:ae aq):Bool:=l.all λo=>match o.op with | .defer _=>ah|_=>ai
theorem zNi {o:aq}{A D F:Act->L->Prop}(I:∀ c,o.op≠.defer c)(h:o.wp P a w A (OnlyN F))(u:∀ a w,A a w->D a w):o.wpIn (Fence.wide.inRound r) n P a w D (OnlyN F):=by
 refine⟨λ_ _=>trivial,?_⟩;unfold Oper.wp at h;rw[show (Fence.wide.inRound r).round=E r from rfl,bp r _ _ I];generalize (execOp a.eval o).run P w=x at *;cases x with
 | ok x w'=>
  cases x with
  | value v=>exact u _ _ h
  | skip=>exact u _ _ h
  | defer d=>exact u _ _ h
  | enter f args=>
   refine⟨(λe=>by cases e),(show CallsIn (Fence.wide.inRound r) (n-1) P f args w' _ from(callsIn_wide.2 (Calls.mono h (λe y z=>?_)):CallsIn Fence.wide (n-1) P f args w' _))⟩;cases e with
   | returned v=>exact u _ _ z
   | panicked c=>exact z
   | outgrown=>exact z
  | row row args=>
   refine⟨(λe=>by cases e),(show RowsIn (Fence.wide.inRound r) (n-1) P row args w' _ from λc cs _=>?_)⟩;obtain⟨v,y,J,N⟩:=h c cs;exact⟨v,y,u _ _ J,stepsIn_wide.2 N⟩
  | _=>exact h.elim
 | halt x w'=>cases x<;>first|exact h|exact h.elim
theorem zBz {P:Program}{r n:C}{v:Array aq}{D:Act->L->Prop}(y:∀ (i:C) (o:aq),v[i]?=E o->∀ c,o.op≠bo c):∀ (F:ae C) (a:Act) (w:L),wpOps P v (OnlyN D) F a w->wpOpsIn (Fence.wide.inRound r) n P v (OnlyN D) F a w
 | [],a,w,h=>h
 | i::u,a,w,h=>by
  unfold wpOps at h;unfold wpOpsIn;split
  .rename_i z;rw[z]at h;exact zBz y u _ _ h
  .rename_i o z;rw[z]at h;simp only at h;split
   .rename_i A;rw[ar A]at h;rcases h with h|⟨_,_,_,h⟩
    .exact zNi (y i o z) h (λa w h=>zBz y u a w h)
    .exact h.elim
   .rename_i A;rw[aj A]at h;exact⟨λ_ _=>trivial,zBz y u _ _ h⟩
theorem zBR {Q:Exit->Act->L->Prop}{l:ae aq}{a:Act}{w:L}{r n:C}{F:C}(T:C->Prop)(σ:ae (C×Bool))(v:P.follows .mixedOrders=ai)
  (u:(c2 l.toArray&&(σ.length==l.length)&&schedB l.toArray σ (br l.toArray.size ah)&&zFR l)=ai)
  (h:∀ y,Fr No w y->wpSig P l Q T σ a y):(bv F l.toArray ai).wpIn (Fence.wide.inRound r) n P Q a w:=by
 simp only[bs,beq_iff_eq]at u;have z:=zA1 (Q:=Q) u.1.1.1 σ _ a w.drew u.1.2 (h _ ((aw No w).drew));have I:l.toArray.size=σ.length:=by simp[u.1.1.2]
 rw[<-I]at z;have J:=wpAny_of_held _ _ _ _ z;have N:∀ (i:C) (o:aq),l.toArray[i]?=E o->∀ c,o.op≠bo c:=λi o A c O=>by
  have v:o∈l:=by rw[bz]at A;exact bg A
  have D:=List.all_eq_true.1 u.2 o v;rw[O]at D;cases D
 refine wpIn_mono (Q:=OnlyN (Q .normal)) (c4 λt=>?_) λe a w h=>?_
 .simp only[c3,v,bt,if_true];exact zBz N _ _ _ (wpAny_sound l.toArray.size t _ a _ J)
 .cases e<;>first|exact h|exact h.elim
theorem zB6 {l:ae aq}{a:Act}{w:L}{r n:C}{I:C}{Q:Exit->Act->L->Prop}(T:C->Prop)(σ:Sg)(M:Act->L->Prop)(v:P.follows .mixedOrders=ai)
  (u:(c2 l.toArray&&(σ.size==l.length)&&schedT l.toArray σ (br l.toArray.size ah)&&zFR l)=ai)
  (h:∀ y,Fr No w y->wpSg P l M T σ a y) (J:∀ z w',M z w'->Q .normal z w'):(bv I l.toArray ai).wpIn (Fence.wide.inRound r) n P Q a w:=by
 simp only[bs,beq_iff_eq]at u;have A:=anyT (M:=M) u.1.1.1 σ _ a w.drew u.1.2 (h _ ((aw No w).drew));have N:l.toArray.size=σ.size:=by simp[u.1.1.2]
 rw[<-N]at A;have O:=wpAny_of_held _ _ _ _ A;have R:∀ (i:C) (o:aq),l.toArray[i]?=E o->∀ c,o.op≠bo c:=λi o D c U=>by
  have v:o∈l:=by rw[bz]at D;exact bg D
  have F:=List.all_eq_true.1 u.2 o v;rw[U]at F;cases F
 refine wpIn_mono (Q:=OnlyN M) (c4 λt=>?_) λe a w h=>?_
 .simp only[c3,v,bt,if_true];exact zBz R _ _ _ (wpAny_sound l.toArray.size t _ a _ O)
 .cases e<;>first|exact J _ _ h|exact h.elim
attribute [local go_sem] bp
attribute [local go_sem] bp
structure PathI (w0:L)(B6:C)(pre:ae Dev)(V:C->Prop)(W:L):Prop where
 txt:∃ s,W.heap[B6]?=E (ac #[ak s] 9)/\s.size<=1001*pre.length
 foot:∀ b,V b↔b=B6
 fr:Fr (From (w0:C)) w0 W
theorem zJZ (a:ay Addr)(o a8:C)(ds:ae Dev)(n:j)(w:L)(hl:Tr w a8 a o ds)(hn:ds.length<=1000)(hx:(Lit.int q n).wf=ai)(a4:∀ d∈ds,d.name.size<=1000):
  af ag 92 #[ao #[.slice a ds.length o],.int q n] w λe w'=>(∃ s b,e=.returned (.tuple #[.string s,.bool b]))/\Fr No w w':=by
 have hT:=hl.wf.1;refine(callsIn_wide (n:=12)).1 (callsIn_of_wp_marks Tryz.func92 rfl trivial (wpIn_wide.2 ?_));simp only[Tryz.ntmps92,bj,List.length_cons,List.length_nil,Nat.reduceAdd,Nat.reduceSub,Array.replicate_succ,Array.replicate_zero,List.push_toArray,List.append_toArray,List.nil_append,List.cons_append];obtain⟨W0,a9,hW,b2,b6⟩:=zw w (ac #[.slice a ds.length o] 47) (ac #[.string ⟨#[]⟩] 9);have t2:W0.cell? ⟨w,0,K⟩=E (.slice a ds.length o):=zB b2 0
 go_upto_region 2 with(fail)
 rw[<-a9];clear a9;have y:=zCO a o ds W0 (hl.dv.no hW (λ_=>id)) hT hn
 go_wp2_with fail
 refine y.mono ?_;rintro e u ⟨⟨O,R,rfl,d4,d5,d0,hI,hS⟩,z⟩;clear y t2
 go_wp2_with fail
 refine(zND _ _ _ _ _).mono ?_;rintro e w2 ⟨rfl,rfl⟩;have d7:=z.size;have d8:=zC b6;have D:Fr No u ((u.alloc (ac #[.slice a ds.length o,.map (E O),.map (E R)] 126)).alloc (ac #[.int q n] 3)):=((aw _ _).alloc _).alloc _;have a5:UpAt ((u.alloc (ac #[.slice a ds.length o,.map (E O),.map (E R)] 126)).alloc (ac #[.int q n] 3)) a o ds O R (u:C) ((u:C)+1):=
  ⟨((hl.dv.no hW (λ_=>id)).no z (λ_=>id)).no D (λ_=>id),VAt.fr ⟨hI,hS⟩ D id id,zO _ _ _⟩
 have a6:=zR u (ac #[.slice a ds.length o,.map (E O),.map (E R)] 126) (ac #[.int q n] 3);have b0:((u.alloc (ac #[.slice a ds.length o,.map (E O),.map (E R)] 126)).alloc (ac #[.int q n] 3)).heap.size=(u:C)+2:=by simp
 have d6:=D.heap (z.heap b6 id) id;have F:=(hW.step z zi).step D zi;have d1:O<(u:C):=hI.lt;have d2:R<(u:C):=hS.lt;have U:∀ Y,a=E Y->ds≠[]->Y.block<(w:C):=λY e I=>(hl.dv.cell Y e I).2.1
 have b1:=hW.size;clear hI hS b2 b6 D z hW
 go_wp2_with fail
 generalize (u.alloc (ac #[.slice a ds.length o,.map (E O),.map (E R)] 126)).alloc (ac #[.int q n] 3)=W2 at *;refine(wpIn_wide (n:=12)).1 (zAm (α:=Dev) (T:=Is ((u:C)+1)) (V0:=Is ((w:C)+1)) rfl (by omega) (gf:=197) (lb:=#[am (E ⟨u,0,K⟩),am (E ⟨(u:C)+1,0,K⟩)]) rfl trivial (enters_of Tryz.func197 (by kernel_rfl) rfl) (encs:=λd:Dev=>#[ao d.vals]) (λ_=>rfl) (λb h=>by omega) (λb h=>by omega)
  (zLQ 11 (by omega) a o ds O R (u:C) ((u:C)+1) n W2 (Is ((w:C)+1)) a5 hT a6 hx ⟨by omega,by omega,by omega,λY e I h=>by have:=U Y e I;omega⟩ ⟨by omega,by omega⟩ ⟨λh=>by omega,λh=>by omega,λh=>by omega,λh=>by omega,λY e I h=>by have:=U Y e I;omega⟩)
  (PathI w ((w:C)+1)) (λ_ _ _ h b X=>by obtain⟨s,v,_⟩:=h.txt;rw[(h.foot b).1 X];exact zC v) (λs V A d9 S h hf hS=>by
   obtain⟨t,v,h2⟩:=h.txt;exact⟨⟨t,hf.heap v (λX=>(hS _ X).1 ((h.foot _).2 rfl)),h2⟩,h.foot,h.fr.step hf (λb X hs=>by
    rcases(hS b hs).2 with h'|h'
    .omega
    .omega)⟩)
  ⟨⟨⟨#[]⟩,d6,Nat.zero_le _⟩,λb=>Iff.rfl,F.mono zn⟩
  (λx V a' W=>∃ Z,(W2:C)+2<=Z/\W.heap[Z]?=E (ac x.vals 36)/\¬ V Z/\a'={ tmps:=#[ao #[.slice a ds.length o],.int q n,am (E ⟨w,0,K⟩),au,.string ⟨#[]⟩,.bool ah,am (E ⟨(w:C)+1,0,K⟩),am (E ⟨Z,0,K⟩),ao #[.slice a ds.length o],ao #[.slice a ds.length o,.map (E O),.map (E R)],.int q n,.func (.func 197) #[] #[am (E ⟨u,0,K⟩),am (E ⟨(u:C)+1,0,K⟩)],ao x.vals,au,au,au,au,au,au,au,au],defers:=[] })
  (λx V a' A d9 h hf=>by obtain⟨Z,v,h2,h3,h4⟩:=h;exact⟨Z,v,hf.heap h2 (λe=>by omega),h3,h4⟩)
  ?assign ?body ?done)
 case assign=>
  intro l pre V x W e0 J a2 hK;have b7:∀ b,V b->b<(W:C):=λb X=>by obtain⟨s,v,_⟩:=J.txt;rw[(J.foot b).1 X];exact zC v
  have e1:=λa' W' (v:Fr No W W') h2=>hK a' W' v h2
  clear a4 U b0 a6 a5 F b1 d6 hl hT;unfold bc
  gi_wp2
  exact hK _ _ ((aw _ _).alloc _) ⟨(W:C),a2,zF _ _,λh=>by have:=b7 _ h;omega,rfl⟩
 case body=>
  rintro l pre V x a' W J ⟨Z,e2,b3,e3,rfl⟩ N a2;obtain⟨s,v,h2⟩:=J.txt;have x2:W.cell? ⟨Z,2,K⟩=E (.string x.name):=zB b3 2;have x6:W.cell? ⟨(w:C)+1,0,K⟩=E (.string s):=zB v 0;have y6:W.frozen? ⟨(w:C)+1,0,K⟩=false:=zD v 0;have b4:x∈chain ds n:=c5 N (by simp);have e4:=a4 x (zEH b4);have e5:pre.length<=1000:=by
   have h7:=N.length_le;have h8:=zCh ds n;simp at h7;omega
  have e6:s.size<=1001000:=by omega
  have h3:Fr V W (W.setCell ⟨(w:C)+1,0,K⟩ (.string ((⟨#[47]⟩:ab)++x.name++s))):=Fr.setCell (aw _ _) (λ_=>(J.foot _).2 rfl) _;have h4:=zE v 0 (.string ((⟨#[47]⟩:ab)++x.name++s));have h5:((⟨#[47]⟩:ab)++x.name++s).size<=1001*(pre++[x]).length:=by
   rw[ByteArray.size_append,ByteArray.size_append,List.length_append];show 1+x.name.size+s.size<=1001*(pre.length+1)
   omega
  have H:=zg4 h3 h4 h5 J;clear h3 h4 h5 J N b4 v b3 a4 U b0 a6 a5 F b1 d6 hl hT
  gi_wp2
  refine⟨V,λb h=>.inl h,⟨⟨_,H.out.2.1,H.out.2.2.1⟩,H.out.2.2.2.foot,H.out.2.2.2.fr.step H.out.1 (λb X h=>by rw[(H.out.2.2.2.foot b).1 h];omega)⟩,H.out.1⟩
 case done=>
  rintro V W J hK e7;obtain⟨s,v,h2⟩:=J.txt;have d3:=F.size;have b8:=zh J.fr;clear J F
  go_wp2_with fail
  refine zQ No [(0,ah),(1,ah),(2,ah),(3,ah),(4,ah)] (by kernel_rfl) (by kernel_rfl) (λW3 a7=>?_);have c6:∀ g:Gr No W3,g.W.cell? ⟨(w:C)+1,0,K⟩=E (.string s):=λg=>g.fr.cell (zB (a7.heap v id) 0) id
  have a3:Fr (Is (W2:C)) W3 (W3.putObj (W2:C) (.deferred K)):=Fr.putObj _ _ _ rfl;have b5:G (Fr No w (W3.putObj (W2:C) (.deferred K))):=((b8.out.step a7 zn).step a3 (λb X e=>by omega)).mono (λb X h=>by omega);have b9:=a7.heap hK id;clear a3
  repeat((first|apply zT rfl rfl rfl|apply zU rfl rfl rfl);intro e0 hK;go_big_quiet_op;go_big_quiet_on)
  refine zb ?_
  go_wp2_with fail
  refine⟨by simp,.inl ⟨_,_,rfl,run_takeDeferred b9,?_⟩⟩;refine⟨.tuple #[.string s,.bool (!s.toList.isEmpty)],by simp[results,Tryz.results92,go_sem],⟨_,_,rfl⟩,b5.out⟩
def spl (c:an):ae an->ae (ae an)
 | []=>[[]]
 | x::t=>if x=c then []::spl c t else match spl c t with
  | []=>[[x]]
  | h::r=>(x::h)::r
theorem zMn (c:an):∀ s,spl c s≠[]
 | []=>by simp[spl]
 | x::t=>by
  unfold spl;split
  .simp
  .split<;>simp
theorem zEj (c:an):∀ s:ae an,az [c] 0 (s.count c) s=spl c s
 | []=>rfl
 | x::t=>by
  have y:=zEj c t;by_cases u:x=c
  .subst u;have v:ap (x::t) [x]=0:=by
    unfold ap;rw[ar (by simp)]
   have e:spl x (x::t)=[]::spl x t:=by rw[spl,ar rfl]
   rw[List.count_cons_self,az,v,e,<-y];rfl
  .have z:(x::t).count c=t.count c:=List.count_cons_of_ne u;have A:([c].isPrefixOf (x::t))=false:=by
    have o:(c==x)=false:=by simpa using λh=>u h.symm
    simp[List.isPrefixOf,o]
   have D:spl c (x::t)=(match spl c t with | []=>[[x]] | h::r=>(x::h)::r):=by
    rw[spl,aj u]
   rw[z,D,<-y];cases hk:t.count c with
   | zero=>simp[az]
   | succ k=>
    have v:ap (x::t) [c]=if ap t [c]==-1 then -1 else ap t [c]+1:=by
     rw[ap,aj (by rw[A];simp)]
    rw[az,az,v];by_cases o:(ap t [c]==-1)=ai
    .simp[o]
    .have I:=Lib.index_ge t [c];have J:ap t [c]≠-1:=by simpa using o
     obtain⟨n,F⟩:=Int.eq_ofNat_of_zero_le (show 0<=ap t [c] by omega);rw[aj o,aj o,F];rw[aj (by simp;omega)];rw[show ((n:j)+1).toNat=n+1 by omega,show ((n:j)).toNat=n by omega];simp
def sparts (s:ab):ae ab:=(spl 47 (bf s.data.toList [47])).map λx=>⟨x.toArray⟩
def zk (s:ab):Bool:=be s.data.toList [47]&&(sparts s).all isName
theorem zJk (c:an):∀ (s:ae an),∀ x∈spl c s,x.length<=s.length
 | [],x,h=>by simp[spl]at h;subst h;simp
 | y::t,x,h=>by
  have o:=zJk c t;unfold spl at h;split at h
  .rcases List.mem_cons.1 h with rfl|h
   .simp
   .have:=o x h;simp;omega
  .split at h
   .simp at h;subst h;simp
   .rename_i a r e;rcases List.mem_cons.1 h with rfl|h
    .have:=o a (by rw[e];simp);simp;omega
    .have:=o x (by rw[e];simp[h]);simp;omega
theorem zJY (s p:ae an):(bf s p).length<=s.length:=by
 unfold bf;split<;>simp
theorem zGy (s:ab):∀ x∈sparts s,x.size<=s.size:=by
 intro x h;obtain⟨y,o,rfl⟩:=List.mem_map.1 h;have v:=zJk 47 _ y o;have z:=zJY s.data.toList [47];have u:s.data.toList.length=s.size:=(Lib.size_eq s).symm;simp only[bu,bj]at u ⊢;omega
theorem zCE (s:ab):Lib.splitB ⟨#[47]⟩ 0 (bd s ⟨#[47]⟩) s=(spl 47 s.data.toList).map λx=>⟨x.toArray⟩:=by
 have h:=Lib.splitB_data ⟨#[47]⟩ 0 (bd s ⟨#[47]⟩) s;have o:bd s ⟨#[47]⟩=s.data.toList.count 47:=Lib.count_one 47 s.data.toList;have u:(⟨#[47]⟩:ab).data.toList=[47]:=rfl;rw[u]at h;rw[o]at h ⊢;rw[zEj]at h;rw[<-h,List.map_map];symm;rw[List.map_congr_left (g:=id)]
 .simp
 .intro x _;simp
theorem zF7 (s:ab):bd s ⟨#[47]⟩+1=((spl 47 s.data.toList).map λx=>(⟨x.toArray⟩:ab)).length:=by
 rw[<-zCE,Lib.splitB_all ⟨#[47]⟩ (by decide) 0 _ _ rfl]
theorem Strs.new (w:L)(l:ae ab)(T:TypeId)(h:l.length<=ba):Strs (w.alloc (ac (l.map bh).toArray T)) (E ⟨w,0,K⟩) l.length l:=by
 refine⟨bn _,h,(λe=>by cases e),?_⟩;intro v e o;cases e;refine⟨rfl,by simp,λi x u=>?_⟩;rw[zB (zF _ _)];simp[u]
theorem zMb (o:C)(s:ab)(w:L)(v:w.cell? ⟨o,0,K⟩=E (.func (.func 39) #[] #[]))(u:s.size<=ba):
  af ag 233 #[ak s,am (E ⟨o,0,K⟩)] w λe w'=>e=.returned (.bool (!isName s))/\Fr No w w':=by
 go_enter Tryz.func233,Tryz.ntmps233
 go_wp2_with fail
 refine(zAN s _ u).mono ?_;rintro e y ⟨rfl,h⟩
 go_wp2_with fail
 go_ret;exact⟨rfl,h⟩
theorem zJN (A:C)(N:ay Addr)(O:C)(l:ae ab)(w:L)(V:w.cell? ⟨A,0,K⟩=E (.func (.func 39) #[] #[]))(R:Strs w N O l)(X:∀ x∈l,x.size<=ba):
  af ag 76 #[av N l.length O,.func (.func 233) #[] #[am (E ⟨A,0,K⟩)]] w λe w'=>(∃ r:j,e=.returned (aa q r)/\decide (0<=r)=!l.all isName)/\Fr No w w':=by
 have hm:=R.lenmax
 go_enter Tryz.func76,Tryz.ntmps76
 go_wp2_with fail
 go_loopw [8] (λi wr=>∃ k:C,k<=l.length/\i=aa q k/\G ((l.take k).all isName=ai)/\Fr No w wr) (λi _=>l.length-(intOf i).toNat)
 case atStart=>exact⟨0,by omega,rfl,by unfold G;simp,aw _ _⟩
 case round=>
  obtain⟨k,hk,rfl,v,o⟩:=hrel;by_cases D:k<l.length
  .have U:(k:j)<l.length:=by omega
   obtain⟨bb,Y,x,rfl,z,Z⟩:=(R.no o (λ_=>id)).at D;have F:=X x (bg z);have I:G (l.take (k+1)=l.take k++[x]):=by unfold G;rw[bm,z];rfl
   have y:=zh (bg z);clear z
   go_wp2_with fail
   refine(zMb A x _ (o.cell V id) F).mono ?_;rintro e w1 ⟨rfl,J⟩;have u:=o.step J zi;clear Z;cases hp:isName x
   .have Hr:G (l.all isName=ah):=by unfold G;rw[List.all_eq_false];exact⟨x,y.out,by rw[hp];simp⟩
    clear hp
    go_wp2_with fail
    go_ret;exact⟨⟨(k:j),rfl,by rw[Hr.out];simp⟩,u⟩
   .have Hn:G ((l.take (k+1)).all isName=ai):=by unfold G;rw[I.out,List.all_append,v.out];simp[hp]
    clear hp
    go_wp2_with fail
    go_roundw
    case rel=>exact⟨k+1,by omega,by go_num,Hn,u⟩
    case measure=>simp[intOf];omega
  .have h:=v.out;rw[List.take_of_length_le (by omega)]at h;have Hp:=zh h;clear h
   go_wp2_with fail
   go_ret;exact⟨⟨-1,rfl,by rw[Hp.out];rfl⟩,o⟩
theorem zLw (o:ay Addr)(u:C)(l:ae ab)(w:L)(A:Strs w o u l)(D:∀ x∈l,x.size<=ba):
  af ag 191 #[av o l.length u,.func (.func 39) #[] #[]] w λe w'=>e=.returned (.bool (l.all isName))/\Fr No w w':=by
 have y:Fr No w (w.alloc (ac #[.func (.func 39) #[] #[]] 108)):=(aw _ _).alloc _;have F:=zF w (ac #[.func (.func 39) #[] #[]] 108);have v:=A.no y (λ_=>id)
 go_enter Tryz.func191,Tryz.ntmps191
 go_wp2_with fail
 generalize w.alloc (ac #[.func (.func 39) #[] #[]] 108)=W0 at *;refine(show af ag 36 _ _ (λe w'=>e=.returned (.bool (!l.all isName))/\Fr No W0 w')from ?_).mono ?_
 .go_enter Tryz.func36,Tryz.ntmps36
  go_wp2_with fail
  refine(zJN (w:C) o u l _ (zB F 0) v D).mono ?_;rintro e I ⟨⟨r,rfl,z⟩,h⟩;have J:=zh z;clear z
  go_wp2_with fail
  go_ret;exact⟨zN J.out,h⟩
 .rintro e I ⟨rfl,h⟩
  go_wp2_with fail
  go_ret;exact⟨zN (by simp),y.step h zi⟩
def SplitR (s:ab)(e:Ending)(w':L)(B:C):Prop:=
 (zk s=ah/\e=.returned (.tuple #[av K 0 0,aa q 10]))\/
 (zk s=ai/\∃ ad,e=.returned (.tuple #[av (E ad) (sparts s).length (sparts s).length,aa q 0])/\Strs w' (E ad) (sparts s).length (sparts s)/\B<=ad.block)
theorem zBi (s:ab)(m:j)(w:L)(hs:s.size<=1000000)(hm:w.cell? ⟨0,0,K⟩=E (aa q m)):
  af ag 144 #[ak s] w λe w'=>SplitR s e w' (w:C)/\Fr No w w':=by
 have a4:(1000001:C)<=maxLen:=by unfold ba;omega
 have A:=Tryz.strings_CutPrefix s ⟨#[47]⟩ w;obtain⟨h,o⟩:∃ r,r=(⟨(bf s.data.toList [47]).toArray⟩:ab):=⟨_,rfl⟩
 have a5:h.size<=1000000:=by
  rw[o];have h2:=zJY s.data.toList [47];simp only[bu,bj];simp at h2;omega
 have N:sparts s=(spl 47 h.data.toList).map λx=>⟨x.toArray⟩:=by rw[o];rfl
 obtain⟨u,v⟩:∃ u,u=sparts s:=⟨_,rfl⟩
 have hg:zk s=(be s.data.toList [47]&&u.all isName):=by rw[v];rfl
 have O:∀ x∈u,x.size<=maxLen:=λx J=>by rw[v]at J;have:=zGy s x J;omega
 have y:=zF7 h;have z:=zCE h;rw[<-N,<-v]at y z;have Z:=Lib.countB_le ⟨#[47]⟩ (by decide) h.size h (bn _);have a2:u.length<=maxLen:=by omega
 have D:af ag 194 #[ak s,ak ⟨#[47]⟩] w λe w'=>e=.returned (.tuple #[ak h,.bool (be s.data.toList [47])])/\w'=w:=by rw[o];exact A
 have Hg:=zh hg;have R:=zh v;have U:=zh z;have V:=zh y;clear A o N v hg y z;generalize be s.data.toList [47]=pre at *
 go_enter Tryz.func144,Tryz.ntmps144
 go_wp2_with fail
 refine D.mono ?_;rintro e F ⟨rfl,rfl⟩
 go_wp2_with fail
 refine(Tryz.strings_Split h ⟨#[47]⟩ m _ (by omega) hm (by decide)).mono ?_;rintro e w2 ⟨rfl,rfl⟩;rw[U.out,V.out];have J:Fr No F (F.alloc (ac ((u.map bh).toArray) 9)):=(aw _ _).alloc _;have hS:=Strs.new F u 9 a2;have a6:(F:C)<(F.alloc (ac ((u.map bh).toArray) 9)).heap.size:=by simp
 clear hm Z;generalize F.alloc (ac ((u.map bh).toArray) 9)=W2 at *;cases pre with
 | false=>
  have X:G (zk s=ah):=by unfold G;rw[Hg.out];rfl
  go_wp2_with fail
  go_ret2
  exact⟨.inl ⟨X.out,rfl⟩,J⟩
 | true=>
  have Hx:=zh J;have HS:=zh hS;clear J
  go_wp2_with fail
  refine(zLw _ _ u _ hS O).mono ?_;rintro e w3 ⟨rfl,I⟩;have a3:=zh (HS.out.no I (λ_=>id));have Y:=zh (Hx.out.step I zi);clear hS O I;cases hal:u.all isName with
  | false=>
   have X:G (zk s=ah):=by unfold G;rw[Hg.out,hal];rfl
   clear hal
   go_wp2_with fail
   go_ret2
   exact⟨.inl ⟨X.out,rfl⟩,Y.out⟩
  | true=>
   have X:G (zk s=ai):=by unfold G;rw[Hg.out,hal];rfl
   clear hal
   go_wp2_with fail
   go_ret2
   refine⟨.inr ⟨X.out,⟨F,0,K⟩,?_,?_,bn _⟩,Y.out⟩
   .rw[<-R.out];rfl
   .rw[<-R.out];exact a3.out
def cmpI (x y:j):j:=if x<y then -1 else if y<x then 1 else 0
theorem zKG (x:j)(w:L):af ag 170 #[aa q x] w λe w'=>e=.returned (.bool ah)/\w=w':=by
 go_enter Tryz.func170,Tryz.ntmps170
 go_wp2_with fail
 go_ret;simp
theorem zKF (x:ab)(w:L):af ag 259 #[ak x] w λe w'=>e=.returned (.bool ah)/\w=w':=by
 have h:(!x.toList==x.toList)=false:=by simp
 go_enter Tryz.func259,Tryz.ntmps259
 go_wp2_with fail
 go_ret;simp
theorem zKu (x y:j)(w:L):af ag 121 #[aa q x,aa q y] w λe w'=>e=.returned (aa q (cmpI x y))/\w=w':=by
 obtain⟨r,o⟩:∃ r,r=cmpI x y:=⟨_,rfl⟩
 rw[<-o];have u:=zh o;clear o
 go_enter Tryz.func121,Tryz.ntmps121
 go_wp2_with fail
 refine(zKG x _).mono ?_;rintro e D ⟨rfl,rfl⟩
 go_wp2_with fail
 refine(zKG y _).mono ?_;rintro e D ⟨rfl,rfl⟩;by_cases v:x<y
 .have h:=zh v
  go_wp2_with fail
  go_ret;exact⟨by rw[u.out,cmpI,ar h.out];rfl,rfl⟩
 .by_cases A:y<x
  .have h:=zh v;have z:=zh A
   go_wp2_with fail
   go_ret;exact⟨by rw[u.out,cmpI,aj (by have:=h.out;omega),ar z.out];rfl,rfl⟩
  .have h:=zh v;have z:=zh A
   go_wp2_with fail
   go_ret;exact⟨by rw[u.out,cmpI,aj (by have:=h.out;omega),aj (by have:=z.out;omega)];rfl,rfl⟩
def orI (x y:j):j:=if x=0 then y else x
theorem zOl (b:C)(x y:j)(w:L)(F:w.cell? ⟨b,0,K⟩=E (aa q x))(I:w.cell? ⟨b,1,K⟩=E (aa q y)):af ag 243 #[av (E ⟨b,0,K⟩) 2 2] w λe w'=>e=.returned (aa q (orI x y))/\w=w':=by
 obtain⟨r,u⟩:∃ r,r=orI x y:=⟨_,rfl⟩
 rw[<-u];have v:=zh u;clear u
 go_enter Tryz.func243,Tryz.ntmps243
 go_wp2_with fail
 go_loop [8] (λi=>i=aa q 0\/(i=aa q 1/\G (x=0))\/(i=aa q 2/\G (x=0/\y=0))) (λi=>2-(intOf i).toNat)
 case atStart=>exact .inl rfl
 case round=>
  rcases hrel with rfl|⟨rfl,h⟩|⟨rfl,o⟩
  .by_cases h:x=0
   .have z:=zh h
    go_wp2_with fail
    go_round
    case rel=>exact .inr (.inl ⟨rfl,z⟩)
    case measure=>decide
   .have z:=zh h
    go_wp2_with fail
    go_ret;exact⟨by rw[v.out,orI,aj z.out];rfl,rfl⟩
  .by_cases A:y=0
   .have D:=zh A
    go_wp2_with fail
    go_round
    case rel=>exact .inr (.inr ⟨rfl,h.out,D.out⟩)
    case measure=>decide
   .have D:=zh A
    go_wp2_with fail
    go_ret;exact⟨by rw[v.out,orI,ar h.out];rfl,rfl⟩
  .go_wp2_with fail
   go_ret;exact⟨by rw[v.out,orI,ar o.out.1,o.out.2];rfl,rfl⟩
theorem zBI : ∀ a:ae an,al a a=0
 | []=>rfl
 | a::s=>by unfold al;rw[aj (bq _),aj (bq _)];exact zBI s
theorem zDF : ∀ a b:ae an,al a b=if ax a b=ai then -1 else if a=b then 0 else 1
 | [],[]=>by simp[al,ax]
 | [],_::_=>by simp[al,ax]
 | _::_,[]=>by simp[al,ax]
 | a::s,b::t=>by
  have v:=zDF s t;by_cases h:a<b
  .simp[al,ax,h]
  .by_cases o:b<a
   .have u:a≠b:=λe=>by subst e;exact absurd o (bq _)
    simp[al,ax,h,o,u]
   .have u:a=b:=UInt8.le_antisymm (UInt8.not_lt.1 o) (UInt8.not_lt.1 h);subst u;simp only[al,ax,aj h,v];simp[h]
theorem zKt (x y:ab)(w:L):af ag 229 #[ak x,ak y] w λe w'=>e=.returned (aa q (al x.data.toList y.data.toList))/\w=w':=by
 obtain⟨r,u⟩:∃ r,r=al x.data.toList y.data.toList:=⟨_,rfl⟩
 rw[<-u];have D:=zh u;clear u
 go_enter Tryz.func229,Tryz.ntmps229
 go_wp2_with fail
 refine(zKF x _).mono ?_;rintro e F ⟨rfl,rfl⟩
 go_wp2_with fail
 refine(zKF y _).mono ?_;rintro e F ⟨rfl,rfl⟩;have v:=zDF x.toList y.toList;rw[ByteArray.toList_eq,ByteArray.toList_eq,<-D.out,<-ByteArray.toList_eq,<-ByteArray.toList_eq]at v;have z:=zh v;clear v;cases hb:ax x.toList y.toList with
 | true=>
  have o:=zh hb
  go_wp2_with fail
  go_ret;exact⟨by rw[z.out,ar o.out];rfl,rfl⟩
 | false=>
  have o:=zh hb;cases he:(x.toList==y.toList)with
  | true=>
   have A:=zh he
   go_wp2_with fail
   go_ret;exact⟨by rw[z.out,aj (by rw[o.out];simp),ar (eq_of_beq A.out)];rfl,rfl⟩
  | false=>
   have A:=zh he
   go_wp2_with fail
   go_ret;exact⟨by rw[z.out,aj (by rw[o.out];simp),aj (λe=>by have h:=A.out;rw[e]at h;simp at h)];rfl,rfl⟩
theorem zF6 (a:ay Addr)(D:C)(l:ae ab)(a':ay Addr)(u:C)(l':ae ab)(w:L)(hl:Strs w a D l)(F:Strs w a' u l'):
  af ag 183 #[av a l.length D,av a' l'.length u] w λe w'=>e=.returned (aa q (cmpN l l'))/\w=w':=by
 have hm:=hl.lenmax;have a9:=F.lenmax;obtain⟨r,Z⟩:∃ r,r=cmpN l l':=⟨_,rfl⟩
 rw[<-Z];have U:=zh Z;clear Z
 go_enter Tryz.func183,Tryz.ntmps183
 go_wp2_with fail
 go_loop [11] (λi=>∃ k:C,k<=l.length/\k<=l'.length/\i=aa q (k:j)/\G (l.take k=l'.take k)) (λi=>l.length-(intOf i).toNat)
 case atStart=>exact⟨0,by omega,by omega,rfl,by unfold G;simp⟩
 case round=>
  obtain⟨k,hk,b0,rfl,Ht⟩:=hrel;have V:=zh (zKv Ht.out);by_cases a2:k<l.length
  .have I:(k:j)<l.length:=by omega
   obtain⟨b,b1,x,rfl,X,c0⟩:=hl.at a2;have o:l.drop k=x::l.drop (k+1):=by
    obtain⟨A,h2⟩:=List.getElem?_eq_some_iff.1 X;rw[<-h2];exact bi A
   by_cases J:k<l'.length
   .have N:¬ (l'.length:j)<=(k:j):=by omega
    have a7:(k:j)<l'.length:=by omega
    obtain⟨b',a8,v,rfl,z,c1⟩:=F.at J;have y:l'.drop k=v::l'.drop (k+1):=by
     obtain⟨A,h2⟩:=List.getElem?_eq_some_iff.1 z;rw[<-h2];exact bi A
    have a3:=zh o;have O:=zh y;have a4:G (x=v->l.take (k+1)=l'.take (k+1)):=λe=>by rw[bm,bm,X,z,Ht.out,e]
    clear o y X z
    go_wp2_with fail
    refine(zKt x v _).mono ?_;rintro e w1 ⟨rfl,rfl⟩;by_cases Y:al x.data.toList v.data.toList=0
    .have a5:x=v:=by
      have A:=zAO _ _ Y;cases x;cases v;simp only at A
      congr 1
      exact Array.toList_inj.1 A
     have Hn:=zh (a4.out a5);rw[Y];clear Y
     go_wp2_with fail
     go_round
     case rel=>exact⟨k+1,by omega,by omega,by go_num,Hn⟩
     case measure=>simp[intOf];omega
    .have h:G (r=al x.data.toList v.data.toList):=by
      unfold G;rw[U.out,V.out,a3.out,O.out,cmpN,aj (λe=>Y (by rw[e];exact zBI _))]
     generalize al x.data.toList v.data.toList=cb at *
     go_wp2_with fail
     go_ret;exact⟨by rw[h.out];rfl,rfl⟩
   .have N:(l'.length:j)<=(k:j):=by omega
    have h:G (r=1):=by
     unfold G;rw[U.out,V.out,o,bw (by omega:l'.length<=k)];rfl
    clear o X
    go_wp2_with fail
    go_ret;exact⟨by rw[h.out];rfl,rfl⟩
  .have I:¬ (k:j)<l.length:=by omega
   obtain rfl:k=l.length:=by omega
   by_cases a6:l.length<l'.length
   .have R:(l.length:j)<l'.length:=by omega
    have h:G (r=-1):=by
     unfold G;rw[U.out,V.out,bx,bi a6];rfl
    go_wp2_with fail
    go_ret;exact⟨by rw[h.out];rfl,rfl⟩
   .have R:¬ (l.length:j)<l'.length:=by omega
    have h:G (r=0):=by
     unfold G;rw[U.out,V.out,bx,bw (by omega:l'.length<=l.length)];rfl
    go_wp2_with fail
    go_ret;exact⟨by rw[h.out];rfl,rfl⟩
def cmpP (s t:ab):j×j:=if zk s&&zk t then (cmpN (sparts s) (sparts t),0)else (0,10)
theorem zDE (s t:ab)(m:j)(w:L)(hs:s.size<=1000000)(ht:t.size<=1000000)(X:w.cell? ⟨0,0,K⟩=E (aa q m)):
  af ag 136 #[ak s,ak t] w λe w'=>e=.returned (.tuple #[aa q (cmpP s t).1,aa q (cmpP s t).2])/\Fr No w w':=by
 obtain⟨r1,Y⟩:∃ r,r=(cmpP s t).1:=⟨_,rfl⟩
 obtain⟨r2,Z⟩:∃ r,r=(cmpP s t).2:=⟨_,rfl⟩
 rw[<-Y,<-Z];have U:=zh Y;have V:=zh Z;clear Y Z
 go_enter Tryz.func136,Tryz.ntmps136
 go_wp2_with fail
 refine(zBi s m _ hs X).mono ?_;rintro e w1 ⟨a2,D⟩;have z:=D.cell X id;have I:=zh D;clear X D;rcases a2 with⟨u,rfl⟩|⟨u,a3,rfl,J,_⟩
 .have N:=zh u;clear u
  go_wp2_with fail
  refine(zBi t m _ ht z).mono ?_;rintro e w2 ⟨F,o⟩;have v:=zh (I.out.step o zi);clear z o;rcases F with⟨h,rfl⟩|⟨h,O,rfl,A,_⟩
  .clear h
   go_wp2_with fail
   go_ret2
   exact⟨by rw[U.out,V.out,cmpP,N.out];rfl,v.out⟩
  .clear h A
   go_wp2_with fail
   go_ret2
   exact⟨by rw[U.out,V.out,cmpP,N.out];rfl,v.out⟩
 .have N:=zh u;clear u
  go_wp2_with fail
  refine(zBi t m _ ht z).mono ?_;rintro e w2 ⟨F,o⟩;have v:=zh (I.out.step o zi);have y:=J.no o (λ_=>id);clear z o J;rcases F with⟨h,rfl⟩|⟨h,O,rfl,A,_⟩
  .have G2:=zh h;clear h y
   go_wp2_with fail
   go_ret2
   exact⟨by rw[U.out,V.out,cmpP,N.out,G2.out];rfl,v.out⟩
  .have G2:=zh h;have R:=zF6 (E a3) _ _ (E O) _ _ w2 y A;clear h y A;obtain⟨p1,e1⟩:∃ p,p=sparts s:=⟨_,rfl⟩
   obtain⟨p2,e2⟩:∃ p,p=sparts t:=⟨_,rfl⟩
   rw[<-e1,<-e2]at R ⊢;have E1:=zh e1;have E2:=zh e2;clear e1 e2
   go_wp2_with fail
   refine R.mono ?_;rintro e w3 ⟨rfl,rfl⟩;have Hr:G (r1=cmpN p1 p2/\r2=0):=by unfold G;rw[U.out,V.out,cmpP,N.out,G2.out,<-E1.out,<-E2.out];exact⟨rfl,rfl⟩
   generalize cmpN p1 p2=cn at *
   go_wp2_with fail
   go_ret2
   exact⟨by rw[Hr.out.1,Hr.out.2];rfl,v.out⟩
def clB (d d':Dev):Bool:=(d.kind==4&&d'.kind==4&&(d.name.toList==d'.name.toList))||(numK d.kind&&numK d'.kind&&((d.kind==d'.kind&&d.num==d'.num)||((nodeOf d.orig).toList==(nodeOf d'.orig).toList)||benB (nodeOf d.orig) (nodeOf d'.orig)||benB (nodeOf d'.orig) (nodeOf d.orig)))
theorem zN9 (d h:Dev)(m:j)(w:L)(hs:d.orig.size<=1000000)(I:h.orig.size<=1000000)(hm:w.cell? ⟨0,0,K⟩=E (aa q m))(h0:0<(w:C)):
  af ag 147 #[ao d.vals,ao h.vals] w λe w'=>e=.returned (.bool (clB d h))/\Fr No w w':=by
 obtain⟨W0,J,hx,N,O⟩:=zw w (ac d.vals 36) (ac h.vals 36);have R:=hx.cell hm id;have d0:0<(W0:C):=by have:=hx.size;omega
 have N1:=zh (λ(W:L) h1 h2=>zKp d m W hs h1 h2);have N2:=zh (λ(W:L) h1 h2=>zKp h m W I h1 h2);obtain⟨D,U⟩:∃ D,D=clB d h:=⟨_,rfl⟩
 rw[<-U];obtain⟨NB,o⟩:∃ NB,NB=(d.kind==4&&h.kind==4&&(d.name.toList==h.name.toList)):=⟨_,rfl⟩
 have d1:G (D=(NB||(numK d.kind&&numK h.kind&&((d.kind==h.kind&&d.num==h.num)||((nodeR d).toList==(nodeR h).toList)||benB (nodeR d) (nodeR h)||benB (nodeR h) (nodeR d))))):=by unfold G;rw[U,o];unfold clB nodeR;cases numK d.kind<;>cases numK h.kind<;>simp
 have d5:=zh o;have V:=zEo d hs;have X:=zEo h I;have d6:=zh (λW=>zGK (nodeR d) (nodeR h) W V X);have d7:=zh (λW=>zGK (nodeR h) (nodeR d) W X V);generalize nodeR d=s at *;generalize nodeR h=u at *;clear U o hm V X hs I;obtain⟨a0,a1,a2,a3,a4,a5,a6,a7,a8,a9⟩:=DevB.of N;obtain⟨b0,b1,b2,b3,b4,b5,b6,b7,b8,b9⟩:=DevB.of O;unfold bc at J N1 N2 ⊢
 go_enter Tryz.func147,Tryz.ntmps147
 go_upto_region 1 with(fail)
 rw[<-J];clear J
 go_cut [23] (λv wx=>v=.bool NB/\W0=wx)
 case first=>
  rcases hk:(d.kind==4)with _|_
  all_goals rcases hk':(h.kind==4)with _|_
  all_goals have Hk:=zh hk
  all_goals have d8:=zh hk'
  all_goals
   go_wp2_with fail
   all_goals
    go_meet
    exact⟨by rw[d5.out,Hk.out,d8.out];rfl,rfl⟩
 case rest=>
  obtain⟨rfl,rfl⟩:=hcut;cases o:NB with
  | true=>
   have Hv:G (D=ai):=by unfold G;rw[d1.out,o];rfl
   clear o
   go_wp2_with fail
   go_ret;exact⟨zN Hv.out.symm,hx⟩
  | false=>
   have Hv:G (D=(numK d.kind&&numK h.kind&&((d.kind==h.kind&&d.num==h.num)||(s.toList==u.toList)||benB s u||benB u s))):=by unfold G;rw[d1.out,o];rfl
   clear o
   go_wp2_with fail
   refine(N1.out _ R d0).mono ?_;rintro e w1 ⟨rfl,y⟩;have d9:=hx.step y zi;have F:=y.heap N id;have z:=y.heap O id;have e0:=y.cell R id;have e1:0<(w1:C):=by have:=y.size;omega
   clear a0 a1 a2 a3 a4 a5 a6 a7 a8 a9 b0 b1 b2 b3 b4 b5 b6 b7 b8 b9 N O R d0;obtain⟨b0,b1,b2,b3,b4,b5,b6,b7,b8,b9⟩:=DevB.of z
   go_wp2_with fail
   refine(N2.out _ e0 e1).mono ?_;rintro e w2 ⟨rfl,Y⟩;have A:=d9.step Y zi;have d2:=Y.heap F id;have d3:=Y.heap z id;clear b0 b1 b2 b3 b4 b5 b6 b7 b8 b9 F z;obtain⟨a0,a1,a2,a3,a4,a5,a6,a7,a8,a9⟩:=DevB.of d2;obtain⟨b0,b1,b2,b3,b4,b5,b6,b7,b8,b9⟩:=DevB.of d3;rcases hg1:numK d.kind with _|_
   .have Hz:G (D=ah):=by unfold G;rw[Hv.out,hg1];rfl
    clear hg1
    go_wp2_with fail
    go_ret;exact⟨zN Hz.out.symm,A⟩
   have e2:=zh hg1;clear hg1;rcases hg2:numK h.kind with _|_
   .have Hz:G (D=ah):=by unfold G;rw[Hv.out,hg2,Bool.and_false];rfl
    clear hg2
    go_wp2_with fail
    go_ret;exact⟨zN Hz.out.symm,A⟩
   have Hw:G (D=((d.kind==h.kind&&d.num==h.num)||(s.toList==u.toList)||benB s u||benB u s)):=by unfold G;rw[Hv.out,e2.out,hg2];rfl
   clear hg2;rcases hk:(d.kind==h.kind)with _|_
   all_goals rcases hn:(d.num==h.num)with _|_
   all_goals rcases hsu:(s.toList==u.toList)with _|_
   all_goals have Hk:=zh hk
   all_goals have Hn:=zh hn
   all_goals have Z:=zh hsu
   all_goals
    go_wp2_with fail
   all_goals first
    | (go_ret;exact⟨zN (by rw[Hw.out,Hk.out,Hn.out,Z.out];rfl),A⟩)
    | skip
   all_goals
    refine(d6.out _).mono ?_;rintro e w3 ⟨rfl,rfl⟩;rcases hb1:benB s u with _|_
   all_goals have d4:=zh hb1
   all_goals clear hb1
   all_goals
    go_wp2_with fail
   all_goals first
    | (go_ret;exact⟨zN (by rw[Hw.out,Hk.out,Hn.out,Z.out,d4.out];rfl),A⟩)
    | skip
   all_goals
    refine(d7.out _).mono ?_;rintro e w3 ⟨rfl,rfl⟩
    go_wp2_with fail
    go_ret;exact⟨zN (by rw[Hw.out,Hk.out,Hn.out,Z.out,d4.out];rfl),A⟩
def clP (d:Dev)(x:Dev):Bool:=(x.index != d.index)&&clB x d
theorem zJG (x d:Dev)(b:C)(m:j)(w:L)(O:x.orig.size<=1000000)(u:d.orig.size<=1000000)(R:w.heap[b]?=E (ac d.vals 36))(U:w.cell? ⟨0,0,K⟩=E (aa q m))(Y:0<(w:C)):
  af ag 146 #[ao x.vals,am (E ⟨b,0,K⟩)] w λe w'=>e=.returned (.bool (clP d x))/\Fr No w w':=by
 obtain⟨V,h,v,y⟩:=zy w (ac x.vals 36);have z:=v.heap R id;have A:=v.cell U id;have D:0<(V:C):=by have:=v.size;omega
 have X:=zN9 x d m V O u A D;obtain⟨F,o⟩:∃ F,F=clP d x:=⟨_,rfl⟩
 rw[<-o];have I:G (F=((x.index != d.index)&&clB x d)):=o;clear o U A D O u R;obtain⟨Z,a1,a2,a3,a4,a5,a6,a7,a8,a9⟩:=DevB.of y;obtain⟨b0,b1,b2,b3,b4,b5,b6,b7,b8,b9⟩:=DevB.of z;unfold bc at h X ⊢
 go_enter Tryz.func146,Tryz.ntmps146
 go_upto_region 1 with(fail)
 rw[<-h];clear h y z;rcases hi:(x.index != d.index)with _|_
 .have J:G (F=ah):=by unfold G;rw[I.out,hi];rfl
  go_wp2_with fail
  go_ret;exact⟨zN J.out.symm,v⟩
 .have J:G (F=clB x d):=by unfold G;rw[I.out,hi];rfl
  go_wp2_with fail
  refine X.mono ?_;rintro e w1 ⟨rfl,N⟩
  go_wp2_with fail
  go_ret;exact⟨zN J.out.symm,v.step N zi⟩
theorem zDC (a:ay Addr)(h:C)(ds:ae Dev)(d:Dev)(m:j)(w:L)(R:Devs w a h ds)(U:∀ x∈ds,x.orig.size<=1000000)(z:d.orig.size<=1000000)(J:w.cell? ⟨0,0,K⟩=E (aa q m))(V:0<(w:C)):
  af ag 88 #[av a ds.length h,ao d.vals] w λe w'=>e=.returned (.bool (ds.any (clP d)))/\Fr No w w':=by
 obtain⟨N,o,y,u⟩:=zy w (ac d.vals 36);have v:=y.cell J id;have A:0<(N:C):=by have:=y.size;omega
 have O:=zN4 146 #[am (E ⟨w,0,K⟩)] (λ_ _=>rfl) (clP d) a h ds N (R.no y (λ_=>id)) (λx D W F=>zJG x d (w:C) m W (U x D) z (F.heap u id) (F.cell v id) (by have:=F.size;omega));clear J v A u;unfold bc at o ⊢
 go_enter Tryz.func88,Tryz.ntmps88
 go_upto_region 1 with(fail)
 rw[<-o];clear o
 go_wp2_with fail
 refine O.mono ?_;rintro e X ⟨rfl,I⟩;clear O
 go_wp2_with fail
 go_ret;exact⟨rfl,y.step I zi⟩
theorem zIj (s t:ab)(m:j)(w:L)(u:s.size<=1000000)(v:t.size<=1000000)(y:w.cell? ⟨0,0,K⟩=E (aa q m)):
  af ag 85 #[ak s,ak t] w λe w'=>e=.returned (aa q (cmpP s t).1)/\Fr No w w':=by
 have h:=zDE s t m w u v y
 go_enter Tryz.func85,Tryz.ntmps85
 go_wp2_with fail
 refine h.mono ?_;rintro e z ⟨rfl,o⟩
 go_wp2_with fail
 go_ret;exact⟨rfl,o⟩
def depthB (s:ab):C:=if zk s=ai then (sparts s).length else 0
theorem zIl (s:ab)(m:j)(w:L)(z:s.size<=1000000)(A:w.cell? ⟨0,0,K⟩=E (aa q m)):
  af ag 87 #[ak s] w λe w'=>e=.returned (aa q (depthB s:C))/\Fr No w w':=by
 have h:=zBi s m w z A;have y:G (depthB s=if zk s=ai then (sparts s).length else 0):=rfl;generalize depthB s=D at *
 go_enter Tryz.func87,Tryz.ntmps87
 go_wp2_with fail
 refine h.mono ?_;rintro e F ⟨hR,o⟩;rcases hR with⟨u,rfl⟩|⟨u,I,rfl,J,N⟩
 .have v:G (D=0):=by unfold G;rw[y.out,u];rfl
  clear u
  go_wp2_with fail
  go_ret;exact⟨zA7 (by rw[v.out];rfl),o⟩
 .have v:G (D=(sparts s).length):=by unfold G;rw[y.out,u];rfl
  clear u;generalize sparts s=P at *
  go_wp2_with fail
  go_ret;exact⟨zA7 (by rw[v.out]),o⟩
end Go.Proofs.YtckkocmhlhefpaaGreatDoor
