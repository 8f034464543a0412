import Derived.Test.YtckkocmhlhefpaaGreatDoorQ9
import Derived.Shelf.Spec.SlicesInsert
import Derived.Lib.AppendZerosOnto
import Derived.Laws.CopyOwn
namespace Go.Proofs.YtckkocmhlhefpaaGreatDoor
open Go.RowKit Go.Maps
set_option linter.unusedVariables false
set_option maxRecDepth 100000
set_option maxHeartbeats 4000000
open Dev renaming vals->aq
open Fr renaming refl->aj
open Go renaming splice->B,World->p,Value->a1,Calls->ai,maxLen->au,length_splice->be,setRow_heap->bf
open Go.Addr renaming add_lit->am
open Go.Builtin renaming copy_->ah,zeroCells->bh,firstCells->bx
open Go.Extern.SlicesOverlaps renaming overlaps->co
open Go.Instr renaming lookup->bi
open Go.Lit renaming int->bt
open Go.Proofs renaming wpList_copy_runI->bg
open Go.Proofs.Tryz renaming prog->a0,underlying45->ak,func89->ch,ntmps89->ci,results42->cj,underlying3->ck,underlying9->cl
open Go.Value renaming slice->bu
open Go.World renaming shape?->cm,size_alloc->cn
open IntKind renaming i64->M
open Obj renaming cells->H
open Value renaming slice->q,int->ab,agg->af,string->al,pointer->aw
open _root_ renaming Nat->E,List->T,Int->K,ByteArray->ae
open _root_.Array renaming length_toList->ao,getElem?_toList->bw
open _root_.Bool renaming false->G,true->r,and_eq_true->ax
open _root_.ByteArray renaming empty->ap
open _root_.List renaming length_take->ag,length_append->ar,append_assoc->ay,take_of_length_le->az,getElem?_drop->bj,getElem?_take_of_lt->bm,length_drop->bn,size_toArray->bo,take_append_of_le_length->bq,take_take->br,mem_of_getElem?->bz,mem_of_mem_drop->ca,take_append->cc,take_left'->cd
open _root_.Nat renaming lt_of_lt_of_le->ba,min_def->bc,min_eq_left->bd,add_mul->ce,one_mul->cf,sub_mul->cg
open _root_.Option renaming some->C,none->Q
variable{w w':p}{o u n z i k base':E}{L cs:T a1}{d:Dev}{l:T (ae×ae)}{ds:T Dev}
theorem zAD {e:TypeId}{v:a1}{z:T a1}(h:w.ownsRow o e u v n z){b:E}(y:v.ownBlock=C b):o<=b/\b<(w:E):=by
 obtain⟨_,⟨rfl,_⟩|⟨g,A,D,rfl,F,I,_⟩⟩:=h
 .cases y
 .cases y;exact⟨F,zC I⟩
theorem zBQ {P:Program}(w:p)(O V X h:TypeId)(J g o y A:E)(a:Addr)(z D:E)(u:Array a1)(t:TypeId)(cs:T a1)
  (Y:P.underlying O=C (.slice h)) (R:(P.info? h).map (·.size)=C J) (Z:w.heap[g]?=C (H u t (0,0))) (k:E) (hk:k=Nat.min z y) (hn:cs.length=k*J)
  (F:∀ j v,cs[j]?=C v->w.cell? (a.add j)=C v) (I:o+cs.length<=u.size) (h1:∀ v∈cs,v.oneCell'=r):
  (ah #[O,V] X #[q (C ⟨g,o,Q⟩) y A,q (C a) z D]).run P w=.ok (goInt k) (w.setRow g (B u.toList o cs).toArray):=by
 have U:=run_loadCells_list (P:=P) w a cs F;have N:=run_storeCells_at P g o t cs 0 u w Z (by simpa using I) h1;subst hk;cases hq:P.info? h with
 | none=>simp[hq]at R
 | some i=>
  have hi:i.size=J:=by simpa [hq]using R
  rw[hn]at U;simp[ah,run_underlying Y,Builtin.lenOf,bx,sizeOf,typeInfo,hq,hi,U,N,B]
theorem zF8 {α:Type}(L:T α)(o:E)(cs:T α):B L o cs=L.take o++(cs++L.drop (o+cs.length)):=rfl
theorem zIq {d:T a1}(h:d.length=z)(v:cs.length=n)(y:(i*z)+n+z<=L.length):
  (B (B L ((i+1)*z) cs) (i*z) d).take (i*z+n+z)=L.take (i*z)++(d++cs):=by
 have e:(i+1)*z=i*z+z:=by rw[ce,cf]
 have o:(B L ((i+1)*z) cs).take (i*z)=L.take (i*z):=by
  unfold B;rw[bq (by rw[ag];omega),br,bd (by omega)]
 have u:(B L ((i+1)*z) cs).drop (i*z+z)=cs++L.drop ((i+1)*z+cs.length):=by
  unfold B;rw[List.drop_append_of_le_length (by rw[ag];omega),List.drop_take,e,Nat.sub_self,List.take_zero,List.nil_append]
 rw[zF8 _ (i*z) d,o,h,u,cc,ag,bd (by omega),az (by rw[ag];omega)]
 congr 1
 rw[show i*z+n+z-i*z=z+n by omega,cc,h,az (by omega),show z+n-z=n by omega,bq (by omega),az (by omega)]
theorem Fr.setRow {S:E->Prop}(w:p)(g:E)(cs:Array a1)(h:S g):Fr S w (w.setRow g cs):=
 ⟨rfl,rfl,rfl,by simp[World.setRow],λk _ o=>setRow_other w g k cs (λe=>o (e▸h))⟩
theorem zC6: (Tryz.prog.info? 36).map (·.size)=C 10:=by kernel_rfl
theorem zEC (b4 g b y n i:E)(o:Array a1)(A:T a1)(d:Dev)(w:p)(hg:w.heap[g]?=C (H o 36))(U:o.toList.take (n*10)=A)(a2:A.length=n*10)(a3:∀ u∈A,u.oneCell'=r)
  (a9:o.size=y*10) (b0:n+1<=y) (b1:y<=au) (b6:i<n) (hb:w.heap[b]?=C (H d.vals 36)) (a4:b≠g):
  ai a0 89 #[q (C ⟨g,0,Q⟩) n y,ab M (i:K),q (C ⟨b,0,Q⟩) 1 1] w λe w'=>e=.returned (q (C ⟨g,0,Q⟩) (n+1) y)/\
   (∃ D,w'.heap[g]?=C (H D 36)/\D.toList.take ((n+1)*10)=A.take (i*10)++(d.vals.toList++A.drop (i*10))/\D.size=y*10)/\Fr (Is g) w w':=by
 have b7:¬ ((i:K)=(n:K)):=by omega
 unfold au at b1;have hr:(n:K)+1<=(y:K):=by omega
 have b5:i<=n:=by omega
 have b8:=zC hb;have b9:=zC hg;have b3:∀ V lb cb,(callFunc 148 #[q (C ⟨b,0,Q⟩) 1 1,q (C ⟨g,V,Q⟩) lb cb]).run a0 w=.ok (.value (.bool G)) w:=λV lb cb=>by
  rw[run_callFunc_extern (f:=148) (P:=a0) (fn:=Tryz.f148) (by kernel_rfl) (by kernel_rfl) (by kernel_rfl) (by kernel_rfl) (e:=co #[45,45] #[4]) (by kernel_rfl),
   Lib.run_overlaps_apart w 45 4 36 ak 10 (λw=>by kernel_rfl) ⟨b,0,Q⟩ ⟨g,V,Q⟩ 1 1 lb cb a4 36 36 10 o.size (by simp[cm,hb,aq]) (by simp[cm,hg]) (by omega) (zD hb 0) (zD hb 10)]
  rfl
 have F:(A.drop (i*10)).length=(n-i)*10:=by rw[bn,a2,<-cg]
 have a5:∀ j v,A[j]?=C v->o[j]?=C v:=λj v h=>by
  have hj:=(List.getElem?_eq_some_iff.1 h).1;rw[<-U,bm (by omega)]at h;rw[<-bw];exact h
 have R:∀ (W:p),Fr No w W->∀ X J Y sl sc,J=n-i->sl=n+1-i->(ah #[45,45] X #[q (C ⟨g,(i+1)*10,Q⟩) J Y,q (C ⟨g,i*10,Q⟩) sl sc]).run a0 W=.ok (goInt (n-i:E)) (W.setRow g (B o.toList ((i+1)*10) (A.drop (i*10))).toArray):=λW hW X J Y sl sc e1 e2=>
  zBQ W 45 45 X 36 10 g ((i+1)*10) J Y ⟨g,i*10,Q⟩ sl sc o 36 (A.drop (i*10)) ak zC6 (hW.heap hg id) (n-i) (by simp only[bc];split<;>omega) F
   (λj v hj=>by
    rw[bj]at hj;rw[am,zB (hW.heap hg id)];exact a5 _ v hj)
   (by rw[F];omega) (λv hv=>a3 v (ca hv))
 go_enter ch,ci
 go_upto_region 15 with(simp only[b3])
 refine zQ (Is g) [(0,G),(1,G),(2,G),(3,G),(4,G),(5,G),(6,G),(7,G),(8,r)] (by kernel_rfl) (by kernel_rfl) (λw1 N=>?_);have h1:=R w1 N
 repeat (apply zT rfl rfl rfl;intro d0 hK;go_big_quiet_op;go_big_quiet_on)
 apply zt;exact rfl
 go_wp2_with (at_builtin;refine bg _ rfl _ _ 45 45 rfl _ _ rfl rfl (h1 _ _ _ _ _ (by omega) (by omega)) ?_)
 have f2:Fr (Is g) w1 (w1.setRow g (B o.toList ((i+1)*10) (A.drop (i*10))).toArray):=Fr.setRow _ _ _ rfl;refine zf f2 ?_;refine zb ?_;have g2:=bf w1 g o (B o.toList ((i+1)*10) (A.drop (i*10))).toArray 36 (0,0) (N.heap hg id);have b2:=f2.heap (N.heap hb id) a4;have F2:=zh ((N.mono zn).step f2 zi:Fr (Is g) w _);generalize (w1.setRow g (B o.toList ((i+1)*10) (A.drop (i*10))).toArray)=w2 at *;have O:(B o.toList ((i+1)*10) (A.drop (i*10))).length=o.size:=(be _ _ _ (by rw[F,ao];omega)).trans ao;have Z:d.vals.toList.length=10:=rfl;obtain⟨row,I⟩:∃ row,row=B o.toList ((i+1)*10) (A.drop (i*10)):=⟨_,rfl⟩
 rw[<-I]at g2 O;have a6:∀ X J Y,J=n+1-i->(ah #[45,45] X #[q (C ⟨g,i*10,Q⟩) J Y,q (C ⟨b,0,Q⟩) 1 1]).run a0 w2=.ok (goInt (1:E)) (w2.setRow g (B row (i*10) d.vals.toList).toArray):=λX J Y e1=>
  zBQ w2 45 45 X 36 10 g (i*10) J Y ⟨b,0,Q⟩ 1 1 row.toArray 36 d.vals.toList ak zC6 g2 1 (by subst e1;simp only[bc];split<;>omega) rfl
   (λj v hj=>by rw[am,zB b2];simpa using hj) (by rw[Z,bo,O];omega) (zAT d)
 have g3:=bf w2 g row.toArray (B row (i*10) d.vals.toList).toArray 36 (0,0) g2;have F3:=zh (F2.out.step (Fr.setRow (S:=Is g) w2 g (B row (i*10) d.vals.toList).toArray rfl) zi);have a7:Hid ((B row (i*10) d.vals.toList).toArray.toList.take ((n+1)*10)=A.take (i*10)++(d.vals.toList++A.drop (i*10))):=by
  unfold Hid;have h:=zIq (L:=o.toList) (cs:=A.drop (i*10)) (d:=d.vals.toList) (i:=i) (n:=(n-i)*10) (z:=10) Z F (by rw[ao];omega);rw[show (n+1)*10=i*10+(n-i)*10+10 by omega,List.toList_toArray,I,h,<-U,br,bd (by omega)]
 have a8:Hid ((B row (i*10) d.vals.toList).toArray.size=y*10):=by
  unfold Hid;rw[bo,be _ _ _ (by rw[Z,O];omega),O];exact a9
 have H3:=zh g3;clear I U F a5 R a3 g2 b2 g3 a2;generalize B row (i*10) d.vals.toList=row2 at *
 go_wp2_with (at_builtin;refine bg _ rfl _ _ 45 45 rfl _ _ rfl rfl (a6 _ _ _ (by omega)) ?_)
 go_ret;exact⟨rfl,⟨_,H3.out,a7.out,a8.out⟩,F3.out⟩
theorem zGx {d:T a1}(h:d.length=z)(u:cs.length=n)(y:(i*z)+n+z<=L.length):
  (B (B L (i*z) d) ((i+1)*z) cs).take (i*z+n+z)=L.take (i*z)++(d++cs):=by
 have e:(i+1)*z=i*z+z:=by rw[ce,cf]
 have o:(L.take (i*z)).length=i*z:=by rw[ag];omega
 have v:(B L (i*z) d).take (i*z+z)=L.take (i*z)++d:=by
  unfold B;rw[<-ay];exact cd (by rw[ar,o,h])
 rw[zF8 _ ((i+1)*z) cs,e,v,<-ay,ay (L.take (i*z)) d cs];exact cd (by rw[ar,ar,o,h,u];omega)
theorem zED (g b A n i:E)(a4:Array a1)(y:T a1)(d:Dev)(w:p)(hg:w.heap[g]?=C (H a4 36))(d0:a4.toList.take (n*10)=y)(b1:y.length=n*10)(b2:∀ u∈y,u.oneCell'=r)
  (d6:n<=A) (a5:A<n+1) (hn:n<=100000) (d7:i<n) (hb:w.heap[b]?=C (H d.vals 36)):
  ai a0 89 #[q (C ⟨g,0,Q⟩) n A,ab M (i:K),q (C ⟨b,0,Q⟩) 1 1] w λe w'=>∃ D J,e=.returned (q (C ⟨w,0,Q⟩) (n+1) D)/\
   w'.heap[(w:E)]?=C (H J 36)/\J.toList.take ((n+1)*10)=y.take (i*10)++(d.vals.toList++y.drop (i*10))/\J.size=D*10/\n+1<=D/\D<=au/\Fr No w w':=by
 obtain⟨i0,d1,d2,d3,b3⟩:=info_parts infoD;have d8:¬ ((i:K)=(n:K)):=by omega
 have hr:(A:K)<(n:K)+1:=by omega
 have d5:i<=n:=by omega
 have d9:=zC hb;have e0:=zC hg;have U:(y.drop (i*10)).length=(n-i)*10:=by rw[bn,b1,<-cg]
 have a6:∀ j v,y[j]?=C v->a4[j]?=C v:=λj v h=>by
  have R:=(List.getElem?_eq_some_iff.1 h).1;rw[<-d0,bm (by omega)]at h;rw[<-bw];exact h
 have b4:(y.take (i*10)).length=i*10:=by rw[ag,b1];omega
 have Y:(bx i0.size i (q (C ⟨g,0,Q⟩) i A)).run a0 w.drew=.ok (y.take (i*10)).toArray w.drew:=by
  rw[d3];exact run_firstCells_some (P:=a0) w.drew 10 i ⟨g,0,Q⟩ i A (y.take (i*10)) b4 (λj v R=>by
   rw[am,Nat.zero_add];rw[List.getElem?_take]at R;split at R
   .exact(zB (show w.drew.heap[g]?=_ from hg) j).trans (a6 _ _ R)
   .cases R)
 have b5:(n:K)+1-(i:K)=((n+1-i:E):K):=by omega
 have a7:i+(n+1-i)=n+1:=by omega
 obtain⟨D,hG⟩:∃ D,D=grownCap w (n+1) A 36:=⟨_,rfl⟩
 obtain⟨Z,hZ⟩:∃ Z:a1,Z=af #[ab M 0,ab M 0,al ap,al ap,al ap,al ap,al ap,ab M 0,ab M 0,q Q 0 0]:=⟨_,rfl⟩
 obtain⟨o,F⟩:∃ o:Array a1,o=(y.take (i*10)).toArray++bh Z.cells (n+1-i)++bh Z.cells (D-(n+1)):=⟨_,rfl⟩
 have b6:∀ N I,I=(n:K)+1-(i:K)->(Builtin.append_ #[45,3] N #[q (C ⟨g,0,Q⟩) i A,ab M I]).run a0 w=.ok (q (C ⟨w,0,Q⟩) (n+1) D) (w.drew.alloc (H o 36)):=λN I e=>by
  have h:=Lib.run_append_grow_zeros (P:=a0) w 45 3 N 36 i0 _ M M ak ck d1 d2 (C ⟨g,0,Q⟩) i A (y.take (i*10)) Y (n+1-i) (by omega) (by omega) (by omega) (by omega) (by rw[b3];omega) (by rw[b3,a7];exact growslice_fits a5 (by omega));rw[a7]at h;rw[e,b5,F,hG,hZ];exact h
 have d4:n+1<=D:=by rw[hG];exact grownCap_ge w _ _ _
 have b7:D<=maxLen:=by rw[hG];exact grownCap_le_maxLen w (n+1) A 36 (by unfold au;omega)
 have a8:o.size=D*10:=by
  rw[F,hZ];simp[bh,Value.cells,b4];omega
 have b8:o.toList.take (i*10)=y.take (i*10):=by
  rw[F];simp only[Array.toList_append,ay];rw[bq (by omega),br,Nat.min_self]
 clear F hZ b5 a7 hG Y;obtain⟨O,V⟩:∃ O,O=(w.alloc (H o 36)).drew:=⟨_,rfl⟩
 have F1:Fr No w O:=by rw[V];exact((aj No w).alloc _).drew
 have n1:O.heap[(w:E)]?=C (H o 36):=by rw[V];exact zF w.drew _
 have a9:d.vals.toList.length=10:=rfl;have a2:∀ N I dc,I=n+1-i->(ah #[45,45] N #[q (C ⟨w,i*10,Q⟩) I dc,q (C ⟨b,0,Q⟩) 1 1]).run a0 O=.ok (goInt (1:E)) (O.setRow (w:E) (B o.toList (i*10) d.vals.toList).toArray):=λN I dc e1=>
  zBQ O 45 45 N 36 10 (w:E) (i*10) I dc ⟨b,0,Q⟩ 1 1 o 36 d.vals.toList ak zC6 n1 1 (by subst e1;simp only[bc];split<;>omega) rfl
   (λj v R=>by rw[am,zB (F1.heap hb id)];simpa using R) (by rw[a9,a8];omega) (zAT d)
 have n2:=bf O (w:E) o (B o.toList (i*10) d.vals.toList).toArray 36 (0,0) n1;have f2:=Fr.setRow (S:=Is (w:E)) O (w:E) (B o.toList (i*10) d.vals.toList).toArray rfl;have b0:(B o.toList (i*10) d.vals.toList).length=D*10:=(be _ _ _ (by rw[a9,ao];omega)).trans (Array.length_toList.trans a8);have hF:Hid ((B (B o.toList (i*10) d.vals.toList) ((i+1)*10) (y.drop (i*10))).take ((n+1)*10)=y.take (i*10)++(d.vals.toList++y.drop (i*10))):=by
  unfold Hid;rw[show (n+1)*10=i*10+(n-i)*10+10 by omega,zGx (L:=o.toList) (cs:=y.drop (i*10)) (d:=d.vals.toList) (i:=i) (n:=(n-i)*10) (z:=10) a9 U (by rw[ao];omega),b8]
 have F2:Fr No w (O.setRow (w:E) (B o.toList (i*10) d.vals.toList).toArray):=F1.step f2 (λb hb h=>by omega);generalize (O.setRow (w:E) (B o.toList (i*10) d.vals.toList).toArray)=W2 at *;generalize B o.toList (i*10) d.vals.toList=row2 at *;have a3:∀ (W:p),Fr No W2 W->∀ N I dc sl sc,I=n-i->sl=n-i->(ah #[45,45] N #[q (C ⟨w,(i+1)*10,Q⟩) I dc,q (C ⟨g,i*10,Q⟩) sl sc]).run a0 W=.ok (goInt (n-i:E)) (W.setRow (w:E) (B row2 ((i+1)*10) (y.drop (i*10))).toArray):=λW hW N I dc sl sc e1 e2=>
  zBQ W 45 45 N 36 10 (w:E) ((i+1)*10) I dc ⟨g,i*10,Q⟩ sl sc row2.toArray 36 (y.drop (i*10)) ak zC6 (hW.heap n2 id) (n-i) (by simp only[bc];split<;>omega) U
   (λj v R=>by
    rw[bj]at R;rw[am,zB (hW.heap (F2.heap hg id) id)];exact a6 _ v R)
   (by rw[U,bo,b0];omega) (λv hv=>b2 v (ca hv))
 have HN:=zg3 n2 F2 b0;clear n1 n2 f2 F1 F2 b0 b8 a8 a6 b2
 go_enter ch,ci
 go_upto_region 10 with(at_builtin;refine Lib.wpList_append_run _ rfl _ _ _ _ rfl _ _ rfl rfl _ _ (b6 _ _ (by omega)) ?_)
 rw[<-V];clear V b6
 go_upto_region 11 with(at_builtin;refine bg _ rfl _ _ 45 45 rfl _ _ rfl rfl (a2 _ _ _ (by omega)) ?_)
 refine zQ (Is (w:E)) [(0,G),(1,G),(2,G),(3,G),(4,G),(5,G),(6,G),(7,G),(8,r)] (by kernel_rfl) (by kernel_rfl) (λw3 X=>?_);have h3:=a3 w3 X;have F3:=HN.out.2.1.step X zi;have n3:=bf w3 (w:E) row2.toArray (B row2 ((i+1)*10) (y.drop (i*10))).toArray 36 (0,0) (X.heap HN.out.1 id);have f3:=Fr.setRow (S:=Is (w:E)) w3 (w:E) (B row2 ((i+1)*10) (y.drop (i*10))).toArray rfl;have b9:(B row2 ((i+1)*10) (y.drop (i*10))).toArray.size=D*10:=(be _ _ _ (by have:=HN.out.2.2;rw[U];omega)).trans HN.out.2.2;have H3:=zg4 n3 f3 b9 (F3.step f3 (λb hb h=>by omega));clear n3 f3 b9 F3 a2 a3 X
 repeat (apply zT rfl rfl rfl;intro e3 hK;go_big_quiet_op;go_big_quiet_on)
 apply zt;exact rfl
 go_wp2_with (at_builtin;refine bg _ rfl _ _ 45 45 rfl _ _ rfl rfl (h3 _ _ _ _ _ (by omega) (by omega)) ?_)
 refine zf H3.out.2.1 ?_;refine zb ?_;clear h3;generalize B row2 ((i+1)*10) (y.drop (i*10))=row3 at *
 go_wp2_with fail
 go_ret;exact⟨D,_,rfl,H3.out.1,hF.out,H3.out.2.2.1,d4,b7,H3.out.2.2.2⟩
theorem zFg (o b:E)(a:Option Addr)(n v i:E)(D:T a1)(d:Dev)(w:p)(y:w.ownsRow o 36 10 (q a n v) n D)(F:∀ u∈D,u.oneCell'=r)(hn:n<=100000)(hi:i<=n)(R:w.heap[b]?=C (H d.vals 36))(z:o<=(w:E))(U:∀ ad,a=C ad->b≠ad.block):
  ai a0 89 #[q a n v,ab M (i:K),q (C ⟨b,0,Q⟩) 1 1] w λe w'=>(∃ N O,e=.returned (q N (n+1) O)/\w'.ownsRow o 36 10 (q N (n+1) O) (n+1) (D.take (i*10)++(d.vals.toList++D.drop (i*10))))/\Fr (λb=>(bu a n v).ownBlock=C b) w w':=by
 by_cases he:i=n
 .subst he;refine(zEU o b a i v D d w y hn R z).mono ?_;rintro e w' ⟨⟨N,O,rfl,h⟩,I⟩;refine⟨⟨N,O,rfl,?_⟩,I⟩;rw[az (by rw[y.1];omega),List.drop_of_length_le (by rw[y.1];omega),List.append_nil];exact h
 .have V:=y.1;have hL:(D.take (i*10)++(d.vals.toList++D.drop (i*10))).length=(n+1)*10:=by
   rw[ar,ar,ag,bn,V,show d.vals.toList.length=10 from rfl];omega
  obtain⟨_,⟨_,h2⟩|⟨g,c,J,h1,hg,hk,h3,h4,h5,h6⟩⟩:=y
  .omega
  .cases h1;by_cases hr:n+1<=v
   .refine(zEC o g b v n i J D d w hk h6 V F h5 hr h4 (by omega) R (U _ rfl)).mono ?_;rintro e w' ⟨rfl,⟨A,X,Y,Z⟩,I⟩;exact⟨⟨_,_,rfl,hL,.inr ⟨g,v,A,rfl,hg,X,hr,h4,Z,Y⟩⟩,I.mono (λb _ h=>by unfold Is at h;rw[h];rfl)⟩
   .refine(zED g b v n i J D d w hk h6 V F h3 (by omega) hn (by omega) R).mono ?_;rintro e w' ⟨a2,A,rfl,X,Y,Z,k4,k5,I⟩;exact⟨⟨_,_,rfl,hL,.inr ⟨_,a2,A,rfl,z,X,k4,k5,Z,Y⟩⟩,I.mono (λb _ h=>h.elim)⟩
def rngB (d:Dev):Bool:=decide (1<=d.index)&&decide (d.index<=1073741824)&&(decide (0<=d.parent)&&decide (d.parent<=1073741824))&&!(d.parent==d.index)
structure Sound (d:Dev)(l:T (ae×ae)):Prop where
 rng:rngB d=r
 named:namedB d=r
 same:(d.name.toList==d.orig.toList)=r
 num:(decide (1<=d.num)&&decide (d.num<=1073741824))=r
 attrs:l.all attrOk=r
 link:zD3 (nodeOf d.orig)=r
theorem Sound.orig (h:Sound d l):isName d.orig=true:=by
 have:=h.named;unfold namedB at this;simp only[ax]at this;exact this.1.1.2
theorem Sound.oklen (h:Sound d l):d.orig.size<=32:=(zAW h.orig).1
theorem zEz (d:Dev)(l:T (ae×ae))(m:K)(w:p)(hs:Sized d)(hl:Atts w d.aa d.ac l)(h1:l.length<=1)(u:d.an=l.length)(hk:d.kind=2)(hd:d.drv=⟨#[]⟩)(h:Sound d l)(hm:w.cell? ⟨0,0,Q⟩=C (ab M m))(h0:0<(w:E)):
  ai a0 86 #[af d.vals] w λe w'=>e=.returned (ab M 0)/\Fr No w w':=by
 obtain⟨W0,v,hx,q0⟩:=zy w (H d.vals 36);have a8:=h.oklen;have K1:=zh (λW=>zN6 d W hs hd);have K2:=zh (λW=>zN7 d W hk);have K3:=zh (λW=>zKo d W hk);have K4:=zh (λ(W:p) (R:Fr No w W)=>zFi d.aa d.ac l W (hl.no R (λ_=>id)) h1);have K5:=zh (λ(W:p) (R:Fr No w W)=>zKp d m W (by omega) (R.cell hm id) (ba h0 R.size));have K6:=zh (λ(W:p) (R:Fr No w W)=>zOn (nodeOf d.orig) m W (zDx _ (by omega)) (R.cell hm id) (ba h0 R.size));have U:numK d.kind=true:=by rw[hk];rfl
 have X:nodeR d=nodeOf d.orig:=by unfold nodeR;rw[U];rfl
 rw[X,U]at K5;rw[h.named]at K1;rw[h.same]at K2;rw[h.num]at K3;rw[h.attrs]at K4;rw[h.link]at K6;have V:=h.rng;unfold rngB at V;simp only[ax]at V;have Y:(decide (1<=d.index)&&decide (d.index<=1073741824))=true:=by simp only[ax];exact V.1.1
 have Z:(decide (0<=d.parent)&&decide (d.parent<=1073741824))=true:=by simp only[ax];exact V.1.2
 have a9:(d.parent==d.index)=false:=by simpa using V.2
 have K7:=zh (λW=>zFh d.index 1 1073741824 W);have K8:=zh (λW=>zFh d.parent 0 1073741824 W);rw[Y]at K7;rw[Z]at K8;have b0:=hl.lenmax;have b1:¬ (24:K)<l.length:=by omega
 generalize nodeOf d.orig=nd at *;obtain⟨y,c1,z,A,D,F,I,J,N,o⟩:=DevB.of q0;have O:=zh u;rw[u]at o;unfold aq at v K1 K2 K3 K5 ⊢;rw[u]at v K1 K2 K3 K5 ⊢;clear V Y Z h U X hm hl hs hk hd u
 go_enter Tryz.func86,Tryz.ntmps86
 go_upto_region 1 with(fail)
 rw[<-v];clear v
 go_wp2_with fail
 refine(K7.out _).mono ?_;rintro e w1 ⟨rfl,rfl⟩
 go_wp2_with fail
 refine(K8.out _).mono ?_;rintro e w1 ⟨rfl,rfl⟩
 go_wp2_with fail
 refine(K1.out _).mono ?_;rintro e w1 ⟨rfl,a2⟩;have q1:=a2.heap q0 id;have x1:=hx.step a2 zi;clear y c1 z A D F I J N o q0;obtain⟨y,c1,z,A,D,F,I,J,N,o⟩:=DevB.of q1;rw[O.out]at o
 go_wp2_with fail
 refine(K2.out _).mono ?_;rintro e w2 ⟨rfl,a3⟩;have q2:=a3.heap q1 id;have x2:=x1.step a3 zi;clear y c1 z A D F I J N o q1;obtain⟨y,c1,z,A,D,F,I,J,N,o⟩:=DevB.of q2;rw[O.out]at o
 go_wp2_with fail
 refine(K3.out _).mono ?_;rintro e w3 ⟨rfl,a4⟩;have q3:=a4.heap q2 id;have x3:=x2.step a4 zi;clear y c1 z A D F I J N o q2;obtain⟨y,c1,z,A,D,F,I,J,N,o⟩:=DevB.of q3;rw[O.out]at o
 go_wp2_with fail
 refine(K4.out _ x3).mono ?_;rintro e w4 ⟨rfl,a5⟩;have q4:=a5.heap q3 id;have x4:=x3.step a5 zi;clear y c1 z A D F I J N o q3;obtain⟨y,c1,z,A,D,F,I,J,N,o⟩:=DevB.of q4;rw[O.out]at o
 go_wp2_with fail
 refine(K5.out _ x4).mono ?_;rintro e w5 ⟨rfl,a6⟩;have q5:=a6.heap q4 id;have x5:=x4.step a6 zi;clear y c1 z A D F I J N o q4
 go_wp2_with fail
 refine(K6.out _ x5).mono ?_;rintro e w6 ⟨rfl,a7⟩;have x6:=x5.step a7 zi
 go_wp2_with fail
 go_ret;exact⟨rfl,x6⟩
structure InsPre (ds:T Dev)(d:Dev)(l:T (ae×ae)):Prop where
 snd:Sound d l
 new:look ds d.index=Q
 par:((d.parent==0)||(look ds d.parent).isSome)=r
 len:ds.length<256
 dep:depthB (newO ds d)<=7
def insK (ds:T Dev)(d:Dev):E:=if fidx (zAB ds (newO ds d)) ds<0 then ds.length else (fidx (zAB ds (newO ds d)) ds).toNat
def sameO (ds:T Dev)(d:Dev):Bool:=match ds[insK ds d]? with|some x=>(plc ds x.index).toList==(newO ds d).toList|none=>G
def zFr (w w':p)(ds:T Dev)(d:Dev)(e:Ending):Prop:=
 ∃ a' c' ds',e=.returned (.tuple #[af #[q a' ds'.length c'],ab M 0])/\Devs w' a' c' ds'/\BlkT w' a' 36/\(∀ ad,a'=C ad->(w:E)<=ad.block)/\Cop w w' (w:E) (insAt ds (insK ds d) d) ds'
def InsTk (w w':p)(ds:T Dev)(d:Dev)(e:Ending):Prop:=(sameO ds d||ds.any (clP d))=r/\e=.returned (.tuple #[af #[q Q 0 0],ab M 44])
theorem zCc (ds:T Dev)(d:Dev):(fidx (zAB ds (newO ds d)) ds=-1/\insK ds d=ds.length)\/(fidx (zAB ds (newO ds d)) ds=(insK ds d:K)/\insK ds d<ds.length):=by
 unfold insK;rcases zAj (zAB ds (newO ds d)) ds with⟨h,_⟩|⟨k,x,h,o,_⟩
 .left;rw[h];exact⟨rfl,rfl⟩
 .right;have:=(List.getElem?_eq_some_iff.1 o).1;rw[h,if_neg (by omega)];exact⟨by simp,by simpa using this⟩
theorem zIK (a b:T Dev):flat (a++b)=flat a++flat b:=List.flatMap_append
theorem zD9 (k:E):∀ l:T Dev,(flat l).take (k*10)=flat (l.take k)/\(flat l).drop (k*10)=flat (l.drop k):=by
 induction k with
 | zero=>intro l;simp[flat]
 | succ k h=>
  intro l;cases l with
  | nil=>simp[flat]
  | cons x t=>
   have e:(k+1)*10=x.vals.toList.length+k*10:=by rw[show x.vals.toList.length=10 from rfl];omega
   have f:flat (x::t)=x.vals.toList++flat t:=rfl;rw[f,e,List.take_length_add_append,List.drop_length_add_append,(h t).1,(h t).2];exact⟨rfl,rfl⟩
theorem zKg (cs:T Dev)(k:E)(d:Dev):(flat cs).take (k*10)++(d.vals.toList++(flat cs).drop (k*10))=flat (insAt cs k d):=by
 unfold insAt;rw[zIK,(zD9 k cs).1,(zD9 k cs).2];rfl
theorem zGT (h:k<=ds.length)(d:Dev)(i:E):(insAt ds k d)[i]?=if i<k then ds[i]? else if i=k then C d else ds[i-1]?:=by
 unfold insAt;rw[List.getElem?_append,ag,bd h];split
 .rename_i o;rw[bm o]
 .rename_i o;split
  .rename_i e;subst e;simp
  .rename_i u;obtain⟨j,rfl⟩:∃ j,i=k+1+j:=⟨i-k-1,by omega⟩
   rw[show k+1+j-k=j+1 by omega,List.getElem?_cons_succ,bj,show k+1+j-1=k+j by omega]
theorem Cop.ins {y:T Dev}{A:Dev}(h:Cop w w' o ds y)(F:Cop1 w w' o d A)(I:k<=ds.length):Cop w w' o (insAt ds k d) (insAt y k A):=by
 have J:=h.len;refine⟨by rw[zCd,zCd,J],λi x D e u=>?_⟩;rw[zGT I]at e;rw[zGT (by omega)]at u;split at e
 .rename_i z;rw[if_pos z]at u;exact h.el i x D e u
 .rename_i z;rw[if_neg z]at u;split at e
  .rename_i v;rw[if_pos v]at u;cases e;cases u;exact F
  .rename_i v;rw[if_neg v]at u;exact h.el (i-1) x D e u
theorem SMap.look {g:K->Option ae}{N:E}(h:SMap w u g N){k:K}(z:(bt M k).wf=r):(bi 124 (.map (C u)) (.int M k) G).run a0 w=.ok (.string ((g k).getD ⟨#[]⟩)) w:=by
 obtain⟨D,n,_,A,_,F⟩:=h;obtain⟨v,J,o,I⟩:=A.lookup lawI Tryz.underlying124 (zeroS w) (plainElem_string cl (by unfold au;show 0<=_;omega)) (keyOf_int_mk ck z);obtain⟨s,rfl,y,_⟩:=plainElem_string_inv cl I;simp only[Prod.mk.injEq]at y;have e:=(F k).symm.trans y.1;obtain rfl:s=(g k).getD ⟨#[]⟩:=zDR (by simpa using e.symm);exact o
theorem zDo {o:Oper}{a:Act}{S:p->Prop}{y:Act->Prop}{z:Bool}(m x:Operand)(t:TypeId)(u:o.op=Op.lookup t m x z)(A D v:a1)(F:a.eval m=A)(I:a.eval x=D)
  (h:∀ W,S W->(bi t A D z).run a0 W=.ok v W) (J:y (a.put o.dst v)):o.quiet a0 a S y:=by
 refine⟨v,λW N=>?_,J⟩;unfold Oper.quietAt;simp[execOp,u,F,I,h W N,Result.andThen,Oper.quietUpon]
theorem Cop1.src {v:p}{y:Dev}(h:Cop1 v w' o d y)(A:Fr No w v)(u:∃ l,Atts w d.aa d.ac l/\d.an=l.length)(R:base'<=o):Cop1 w w' base' d y:=by
 obtain⟨l,D,F,I,J⟩:=h.att;obtain⟨N,z,U⟩:=u;have e:N=l:=(z.no A (λ_=>id)).det D (by omega);exact⟨h.eq,⟨l,by rw[<-e];exact z,F,I,J⟩,h.typ,λO e=>by have:=h.fresh O e;omega⟩
theorem Cop.src {y:p}{u:T Dev}(h:Cop y w' o ds u)(A:Fr No w y)(v:∀ d∈ds,∃ l,Atts w d.aa d.ac l/\d.an=l.length)(D:base'<=o):Cop w w' base' ds u:=
 ⟨h.len,λi d F z I=>(h.el i d F z I).src A (v d (bz z)) D⟩
theorem zDc (a:Option Addr)(o:E)(ds:T Dev)(i1:E)(d:Dev)(l:T (ae×ae))(m:K)(w:p)(hl:Tr w i1 a o ds)(hs:Sized d)(hA:Atts w d.aa d.ac l)(h1:l.length<=1)(d5:d.an=l.length)(hk:d.kind=2)(hd:d.drv=⟨#[]⟩)(k5:(bt M d.parent).wf=r)(k7:(bt M d.index).wf=r)(A:InsPre ds d l)(hm:w.cell? ⟨0,0,Q⟩=C (.int M m))(h0:0<(w:E)):
  ai a0 42 #[af #[.slice a ds.length o],af d.vals] w λe w'=>(InsTk w w' ds d e\/(sameO ds d||ds.any (clP d))=G/\zFr w w' ds d e)/\Fr No w w':=by
 have hT:=hl.wf.ok;have hn:=A.len;obtain⟨W0,a9⟩:∃ W0,W0=((w.alloc (H #[.slice a ds.length o] 47)).alloc (H d.vals 36)).alloc (H #[.slice Q 0 0] 47):=⟨_,rfl⟩
 have fx:Fr No ((w.alloc (H #[.slice a ds.length o] 47)).alloc (H d.vals 36)) W0:=by rw[a9];exact(aj _ _).alloc _
 have O:Fr No w W0:=by rw[a9];exact(((aj _ _).alloc _).alloc _).alloc _
 have q0:=fx.heap (zO w (H #[.slice a ds.length o] 47) (H d.vals 36)) id;have q1:=fx.heap (zR w (H #[.slice a ds.length o] 47) (H d.vals 36)) id;have q2:W0.heap[(w:E)+1+1]?=C (H #[.slice Q 0 0] 47):=by
  have:=zF ((w.alloc (H #[.slice a ds.length o] 47)).alloc (H d.vals 36)) (H #[.slice Q 0 0] 47);rw[cn,cn]at this;rw[a9];exact this
 clear fx;have b5:=zCO a o ds W0 (hl.dv.no O (λ_=>id)) hT (by omega);have n4:=zC q2;have Y:W0.cell? ⟨w,0,Q⟩=C (.slice a ds.length o):=zB q0 0
 -- what the callees answer
 have i2:(ogs ds d.parent).getD ⟨#[]⟩=plc ds d.parent:=zC0 hT d.parent;have i3:(ogs ds d.parent).isSome=(look ds d.parent).isSome:=by rw[zFQ hT];exact Option.isSome_map
 have k8:(ogs ds d.index).getD ⟨#[]⟩=⟨#[]⟩:=by rw[zFQ hT,A.new];rfl
 have k9:(ogs ds d.index).isSome=false:=by rw[zFQ hT,A.new];rfl
 have i4:=zHt hT (by omega) d.parent;have m7:=A.snd.oklen;have m8:(newO ds d).size<=33100:=by
  unfold newO;rw[ByteArray.size_append,ByteArray.size_append];show _+1+_<=_
  omega
 have K1:=zh (λ(W:p) (R:Fr No w W)=>zEz d l m W hs (hA.no R (λ_=>id)) h1 d5 hk hd A.snd (R.cell hm id) (ba h0 R.size));have K2:=zh (λ(W:p) (R:Fr No w W)=>zIl (newO ds d) m W (by omega) (R.cell hm id));have K3:=zh (λ(W:p) (R:Fr No w W)=>zDC a o ds d m W (hl.dv.no R (λ_=>id)) (λx O=>by have:=hT.sz x O;omega) (by omega) (R.cell hm id) (ba h0 R.size));have K4:=zh (λ(W:p) (R:Fr No w W)=>zCC a o ds W (hl.dv.no R (λ_=>id)) (by omega) (λx O=>by
  obtain⟨l',g1,g2,g3⟩:=(hl.el x O).att;exact⟨l',g1.no R (λ_=>id),g2,g3⟩))
 have K5:=zh (λ(W:p) (R:Fr No w W)=>zBX d l W (hA.no R (λ_=>id)) d5 (by omega));obtain⟨F,hF⟩:∃ F,F=fidx (zAB ds (newO ds d)) ds:=⟨_,rfl⟩
 obtain⟨z,b6⟩:∃ z,z=insK ds d:=⟨_,rfl⟩
 have g7:=zCc ds d;rw[<-hF,<-b6]at g7;have K6:Hid (∀ (m1 m2 bv bs:E) (W:p),Fr No w W->W.heap[bv]?=C (H #[.slice a ds.length o,.map (C m1),.map (C m2)] 126)->SMap W m2 (ogs ds) ds.length->W.cell? ⟨bs,0,Q⟩=C (.string (newO ds d))->ai a0 83 #[.slice a ds.length o,.func (.func 84) #[] #[aw (C ⟨bv,0,Q⟩),aw (C ⟨bs,0,Q⟩)]] W λe w'=>e=.returned (.int M F)/\Fr No W w'):=by
  intro m1 m2 bv bs W R hv hS hb;have:=zBk 84 #[aw (C ⟨bv,0,Q⟩),aw (C ⟨bs,0,Q⟩)] (λ_ _=>rfl) (zAB ds (newO ds d)) a o ds W (hl.dv.no R (λ_=>id)) (λx O W' d6=>zKV x ds a o m1 m2 bv bs (newO ds d) m W' hT (by omega) (by omega) O (d6.heap hv id) (hS.fr d6 id) (d6.cell hb id) ((R.step d6 zi).cell hm id));rw[<-hF]at this;exact this
 have m9:¬ (7:K)<(depthB (newO ds d):E):=by have:=A.dep;omega
 have n2:¬ (256:K)<=ds.length:=by omega
 obtain⟨SB,b7⟩:∃ SB,SB=sameO ds d:=⟨_,rfl⟩
 obtain⟨CB,d7⟩:∃ CB,CB=ds.any (clP d):=⟨_,rfl⟩
 rw[<-d7]at K3;have i5:Hid ((z=ds.length->SB=G)/\∀ x,ds[z]?=C x->∀ P,P=plc ds x.index->SB=(P.toList==(newO ds d).toList)):=⟨λe=>by
  rw[b7];unfold sameO;rw[<-b6,e,List.getElem?_eq_none (Nat.le_refl _)],λx O P e=>by rw[b7];unfold sameO;rw[<-b6,O,e]⟩
 have e7:Hid (∀ w' e,InsTk w w' ds d e\/(SB||CB)=G/\zFr w w' ds d e->InsTk w w' ds d e\/(sameO ds d||ds.any (clP d))=G/\zFr w w' ds d e):=λw' e h=>by rw[<-b7,<-d7];exact h
 have l0:Hid (∀ w' e,(SB||CB)=r->e=Ending.returned (.tuple #[af #[.slice Q 0 0],.int M 44])->InsTk w w' ds d e):=λw' e h1 h2=>⟨by rw[<-b7,<-d7];exact h1,h2⟩
 have l1:=zh b6;have i6:z<=ds.length:=by rcases g7 with h|h<;>omega
 clear b7 d7 hF b6;have b8:=A.par;have e8:Hid (newO ds d=plc ds d.parent++⟨#[47]⟩++d.orig):=rfl;have n5:=hl.dv.lenmax;obtain⟨P,hP⟩:∃ P,P=plc ds d.parent:=⟨_,rfl⟩
 obtain⟨bp,g8⟩:∃ bp,bp=(look ds d.parent).isSome:=⟨_,rfl⟩
 rw[<-hP]at i2 e8 i4;rw[<-g8]at i3 b8;generalize newO ds d=og at *;generalize hD:depthB og=D at *;have HT:=zh hT;have HL:=zh hl;have n6:=zh A;have HA:=zh hA;have i7:=zh d5;clear hP g8 hD hl hT A hA hs hk hd hm d5;unfold aq at a9 K1 K3 K5 ⊢
 go_enter Tryz.func42,Tryz.ntmps42
 go_upto_region 1 with(fail)
 rw[<-a9];clear a9
 go_wp2_with fail
 refine b5.mono ?_;rintro e w1 ⟨⟨m1,m2,rfl,n7,n8,n9,hI,hS⟩,g9⟩;clear b5 hI Y;obtain⟨W1,i8,h4,b1⟩:=zy w1 (H #[.slice a ds.length o,.map (C m1),.map (C m2)] 126);have d8:Fr No W0 W1:=g9.step h4 zi;have p0:=d8.heap q0 id;have p1:=d8.heap q1 id;have p2:=d8.heap q2 id;have d9:=hS.fr h4 id;have x1:Fr No w W1:=O.step d8 zi;have o0:=g9.size;clear q0 q1 q2 g9 h4 hS;have Y:W1.cell? ⟨w,0,Q⟩=C (.slice a ds.length o):=zB p0 0;have v2:W1.cell? ⟨w1,2,Q⟩=C (.map (C m2)):=zB b1 2;obtain⟨c0,c1,U,c3,c4,c5,c6,c7,c8,c9⟩:=DevB.of p1
 go_upto_region 2 with(fail)
 rw[<-i8];clear i8;obtain⟨W2,h5,I,b2⟩:=zy W1 (H #[.string og] 9);have x2:Fr No w W2:=x1.step I zi;have k6:=K6.out m1 m2 (w1:E) (W1:E) W2 x2 (I.heap b1 id) (d9.fr I id) (zB b2 0);have r0:=I.heap p0 id;have r1:=I.heap p1 id;have r2:=I.heap p2 id;rw[e8.out]at h5
 go_upto_region 5 with(first
  | (at_lookup;refine zDV rfl _ _ 124 rfl rfl m2 _ _ d.parent k5 rfl d9 rfl P i2 bp i3 ?_)
  | (at_lookup;refine zDV rfl _ _ 124 rfl rfl m2 _ _ d.index k7 rfl d9 rfl ⟨#[]⟩ k8 G k9 ?_))
 rw[<-h5];have HV:=zg2 (I.heap b1 id) (d9.fr I id);clear h5 c0 c1 U c3 c4 c5 c6 c7 c8 c9 Y v2 p0 p1 p2 I b1;have Y:W2.cell? ⟨w,0,Q⟩=C (.slice a ds.length o):=zB r0 0
 go_wp2_with fail
 refine k6.mono ?_;rintro e w3 ⟨rfl,b0⟩;have x3:Fr No w w3:=x2.step b0 zi;have s0:=b0.heap r0 id;have s1:=b0.heap r1 id;have s2:=b0.heap r2 id;have s4:=b0.heap b2 id;clear Y k6 r0 r1 r2 b2;have Y:w3.cell? ⟨w,0,Q⟩=C (.slice a ds.length o):=zB s0 0;obtain⟨c0,c1,U,c3,c4,c5,c6,c7,c8,c9⟩:=DevB.of s1
 go_upto_if 41 with(fail)
 go_cut [12] (λv wx=>v=.int M (z:K)/\w3=wx)
 case first=>
  rcases g7 with⟨h1,h2⟩|⟨h1,h2⟩
  .have H2:=zh h2;have l2:F<0:=by omega
   clear h2 h1
   go_wp2_with fail
   go_meet
   exact⟨by rw[H2.out],rfl⟩
  .have l2:¬ F<0:=by omega
   have H1:=zh h1;clear h1
   go_wp2_with fail
   go_meet
   exact⟨by rw[H1.out],rfl⟩
 case rest=>
  obtain⟨rfl,rfl⟩:=hcut
  go_wp2_with fail
  refine(K1.out _ x3).mono ?_;rintro e w4 ⟨rfl,b3⟩;have x4:Fr No w w4:=x3.step b3 zi;have r0:=b3.heap s0 id;have r1:=b3.heap s1 id;have r2:=b3.heap s2 id;have r4:=b3.heap s4 id;clear c0 c1 U c3 c4 c5 c6 c7 c8 c9 Y s0 s1 s2 s4;have Y:w4.cell? ⟨w,0,Q⟩=C (.slice a ds.length o):=zB r0 0;have t4:w4.cell? ⟨W1,0,Q⟩=C (.string og):=zB r4 0;obtain⟨c0,c1,U,c3,c4,c5,c6,c7,c8,c9⟩:=DevB.of r1
  go_upto_region 12 with(fail)
  go_cut [53] (λv wx=>v=.bool G/\w4=wx)
  case first=>
   rcases hq:(d.parent==0)with _|_
   .rw[hq]at b8;have l3:(d.parent != 0)=true:=by simp[bne,hq]
    have g8:bp=true:=by simpa using b8
    go_wp2_with fail
    go_meet
    exact⟨rfl,rfl⟩
   .have l3:(d.parent != 0)=false:=by simp[bne,hq]
    go_wp2_with fail
    go_meet
    exact⟨rfl,rfl⟩
  case rest=>
   obtain⟨rfl,rfl⟩:=hcut
   go_wp2_with fail
   refine(K2.out _ x4).mono ?_;rintro e w5 ⟨rfl,b4⟩;have x5:Fr No w w5:=x4.step b4 zi;have s0:=b4.heap r0 id;have s1:=b4.heap r1 id;have s2:=b4.heap r2 id;have s4:=b4.heap r4 id;clear c0 c1 U c3 c4 c5 c6 c7 c8 c9 Y t4 r0 r1 r2 r4;have Y:w5.cell? ⟨w,0,Q⟩=C (.slice a ds.length o):=zB s0 0;have fV:Fr No W2 w5:=(b0.step b3 zi).step b4 zi;have i9:=zg2 (fV.heap HV.out.1 id) (HV.out.2.fr fV id)
   go_upto_region 18 with(fail)
   go_cut [73] (λv wx=>v=.bool SB/\Hid (Fr No w5 wx))
   case first=>
    refine zQ No [(0,G),(1,G),(2,G),(3,G),(4,G),(5,G),(6,G),(7,G),(8,G),(9,G),(10,G),(11,G),(12,G),(13,G),(14,G),(15,G),(16,G),(17,G),(18,G)] (by kernel_rfl) (by kernel_rfl) (λw6 u=>?_);have e0:=u.heap s0 id;have Y:∀ g:Gr No w6,g.W.cell? ⟨w,0,Q⟩=C (.slice a ds.length o):=λg=>g.fr.cell (zB e0 0) id
    have j0:=zh u;by_cases l4:z<ds.length
    .obtain⟨bb,l5,x,l6,O,y0,_⟩:=(HL.out.dv.no (x5.step u zi) (λ_=>id)).dev l4;have j1:=bz O;have j2:=HT.out.iwf j1;obtain⟨Px,h6⟩:∃ Px,Px=plc ds x.index:=⟨_,rfl⟩
     have l7:=zh (i5.out.2 x O Px h6);have j3:=u.heap i9.out.1 id;have j4:=i9.out.2.fr u id;have l8:∀ W,(∃ g:Gr No w6,W=g.W)->(bi 124 (.map (C m2)) (.int M x.index) G).run a0 W=.ok (.string Px) W:=λW hW=>by
      obtain⟨g,rfl⟩:=hW;rw[(j4.fr g.fr id).look j2,h6,zC0 HT.out]
     have n3:(z:K)<ds.length:=by omega
     have z0:∀ g:Gr No w6,g.W.cell? ⟨bb,l5+z*10,Q⟩=C (.int M x.index):=λg=>g.fr.cell y0 id
     have z2:∀ g:Gr No w6,g.W.cell? ⟨w1,2,Q⟩=C (.map (C m2)):=λg=>g.fr.cell (zB j3 2) id
     have z4:∀ g:Gr No w6,g.W.cell? ⟨W1,0,Q⟩=C (.string og):=λg=>g.fr.cell (zB (u.heap s4 id) 0) id
     clear O j1 h6 y0 j4 j3 e0 u;subst l6
     repeat((first|apply zT rfl rfl rfl|apply zU rfl rfl rfl);intro i0 hK;go_big_quiet_op;go_big_quiet_on)
     apply zT rfl rfl rfl;intro i0 hK;refine zDo _ _ 124 rfl (.map (C m2)) (.int M x.index) _ rfl rfl l8 ?_
     go_frame
     go_big_quiet_on
     repeat((first|apply zT rfl rfl rfl|apply zU rfl rfl rfl);intro i0 hK;go_big_quiet_op;go_big_quiet_on)
     refine zb ?_
     go_wp2_with fail
     go_meet
     exact⟨by rw[l7.out],j0.out⟩
    .have j5:z=ds.length:=by omega
     have l9:=zh (i5.out.1 j5);have o1:¬ (z:K)<ds.length:=by omega
     clear j5 e0 u
     repeat((first|apply zT rfl rfl rfl|apply zU rfl rfl rfl);intro i0 hK;go_big_quiet_op;go_big_quiet_on)
     refine zb ?_
     go_wp2_with fail
     go_meet
     exact⟨by rw[l9.out],j0.out⟩
   case rest=>
    obtain⟨rfl,u⟩:=hcut;obtain⟨w6,j6⟩:∃ w6,w6=wc:=⟨_,rfl⟩
    rw[<-j6]at u ⊢;clear j6;have x6:Fr No w w6:=x5.step u.out zi;have r0:=u.out.heap s0 id;have r1:=u.out.heap s1 id;have r2:=u.out.heap s2 id;clear Y s0 s1 s2 s4
    go_upto_if 73 with(fail)
    go_cut [73] (λv wx=>v=.bool (SB||CB)/\Hid (Fr No w6 wx))
    case first=>
     have Y:w6.cell? ⟨w,0,Q⟩=C (.slice a ds.length o):=zB r0 0;obtain⟨c0,c1,U,c3,c4,c5,c6,c7,c8,c9⟩:=DevB.of r1;cases SB with
     | true=>
      go_wp2_with fail
      go_meet
      exact⟨rfl,aj _ _⟩
     | false=>
      go_wp2_with fail
      refine(K3.out _ x6).mono ?_;rintro e w7 ⟨rfl,J⟩;have H7:=zh J;clear J
      go_wp2_with fail
      go_meet
      exact⟨rfl,H7.out⟩
    case rest=>
     obtain⟨rfl,J⟩:=hcut;obtain⟨w7,j7⟩:∃ w7,w7=wc:=⟨_,rfl⟩
     rw[<-j7]at J ⊢;clear j7;have x7:Fr No w w7:=x6.step J.out zi;have s0:=J.out.heap r0 id;have s1:=J.out.heap r1 id;have s2:=J.out.heap r2 id;clear r0 r1 r2 J;rcases hsc:(SB||CB)with _|_
     .skip
      go_wp2_with fail
      refine zQ (λb=>(w7:E)<=b\/b=(w:E)+1+1) [(0,G),(1,G),(3,G),(4,G),(2,r),(5,r),(6,r),(7,r),(8,G),(9,r),(10,G)] (by kernel_rfl) (by kernel_rfl) (λw8 b9=>?_);have x8:Fr No w w8:=x7.step b9 zi;have u0:=b9.heap s0 id;have u1:=b9.heap s1 id;have u2:=b9.heap s2 id;have o2:=b9.size;have o3:=zC s2;clear s0 s1 s2;have Y:∀ g:Gr (λb=>(w7:E)<=b\/b=(w:E)+1+1) w8,g.W.cell? ⟨w,0,Q⟩=C (.slice a ds.length o):=λg=>zB (g.fr.heap u0 (λh=>by omega)) 0
      have cB:∀ g:Gr (λb=>(w7:E)<=b\/b=(w:E)+1+1) w8,DevB g.W ((w:E)+1) d:=λg=>DevB.of (g.fr.heap u1 (λh=>by omega))
      have c0:=λg=>(cB g).c0
      have c1:=λg=>(cB g).c1
      have U:=λg=>(cB g).c2
      have c3:=λg=>(cB g).c3
      have c4:=λg=>(cB g).c4
      have c5:=λg=>(cB g).c5
      have c6:=λg=>(cB g).c6
      have c7:=λg=>(cB g).c7
      have c8:=λg=>(cB g).c8
      have c9:=λg=>(cB g).c9
      clear cB
      repeat((first|apply zT rfl rfl rfl|apply zU rfl rfl rfl);intro i0 hK;go_big_quiet_op;go_big_quiet_on)
      clear c0 c1 U c3 c4 c5 c6 c7 c8 c9 Y;apply zt;exact rfl
      go_wp2_with fail
      refine(K4.out _ x8).mono ?_;rintro e w9 ⟨⟨v,cs,rfl,a4,d0⟩,d1⟩;have h7:=d0.len;rw[h7]at a4;obtain⟨av,cv,rfl⟩:=zI a4;have x9:Fr No w w9:=x8.step d1 zi;have m0:=zh h7;have j8:=zh d0;have a5:=zh a4;clear h7 d0 a4
      go_wp2_with fail
      refine zm d1 ?_;apply zt;exact rfl
      go_wp2_with fail
      refine(K5.out _ x9).mono ?_;rintro e e4 ⟨⟨a',c',rfl,j9,k0,e9⟩,V⟩;have h8:=zg3 j9 k0 e9;clear j9 k0 e9
      go_wp2_with fail
      refine zm V ?_;apply zt;exact rfl;obtain⟨e5,d2,d3,m3⟩:=zy e4 (H (aq { d with aa:=a',ac:=c' }) 36);unfold aq at d2
      go_wp2_with fail
      refine zp ?_;rw[<-d2];clear d2;have X:Fr No w9 e5:=V.step d3 zi;have g4:=zFg (w8:E) (e4:E) av ds.length cv z (flat cs) { d with aa:=a',ac:=c' } e5 (zG a5.out X (λ_ _=>id)) (zMI cs) (by omega) i6 m3 (by have h1:=d1.size;have h2:=V.size;have h3:=d3.size;omega) (λad e h=>by have h1:=(zAD a5.out (by rw[e];rfl:(bu av ds.length cv).ownBlock=C ad.block)).2;have h2:=V.size;omega);apply zt;exact rfl
      go_wp2_with fail
      refine g4.mono ?_;rintro e d4 ⟨⟨a2,U,rfl,N⟩,a6⟩;rw[zKg]at N;have h9:∀ b,(bu av ds.length cv).ownBlock=C b->(w8:E)<=b:=λb hb=>zP a5.out hb
      have a7:=zh N;have y2:=a6.heap (X.heap (d1.heap u2 id) id) (λh=>by have:=h9 _ h;omega);have f0:=zD y2 0;have g0:d4.cell? ⟨(w:E)+1+1,0,Q⟩=C (.slice Q 0 0):=zB y2 0;clear g4 N
      go_wp2_with fail
      refine OnlyN.mk ⟨a6.mono (λb _ h=>by have:=h9 b h;omega),?_⟩
      repeat((first|apply zT rfl rfl rfl|apply zU rfl rfl rfl);intro i0 hK;go_big_quiet_op;go_big_quiet_on)
      apply zt;exact rfl
      go_wp2_with fail
      have e6:Fr (Is ((w:E)+1+1)) d4 (d4.setCell ⟨(w:E)+1+1,0,Q⟩ (.slice a2 (ds.length+1) U)):=Fr.setAt (aj _ _) _;refine OnlyN.mk ⟨e6.mono (λb _ h=>by omega),?_⟩
      repeat((first|apply zT rfl rfl rfl|apply zU rfl rfl rfl);intro i0 hK;go_big_quiet_op;go_big_quiet_on)
      refine zb ?_;have y3:=zE y2 0 (.slice a2 (ds.length+1) U);have g3:(d4.setCell ⟨(w:E)+1+1,0,Q⟩ (.slice a2 (ds.length+1) U)).cell? ⟨(w:E)+1+1,0,Q⟩=C (.slice a2 (ds.length+1) U):=zB y3 0;have zz:(w8:E)<=(w9:E)/\(w9:E)<=(e4:E)/\(e4:E)<=(e5:E):=⟨d1.size,V.size,d3.size⟩
      generalize d4.setCell ⟨(w:E)+1+1,0,Q⟩ (.slice a2 (ds.length+1) U)=W13 at *;clear g0 f0 y2 y3
      go_wp2_with fail
      refine bodyPost_ret (v:=.tuple #[af #[.slice a2 (ds.length+1) U],.int M 0]) (by simp[results,cj,go_sem,g3]) rfl ?_;have Z:(insAt cs z { d with aa:=a',ac:=c' }).length=ds.length+1:=by rw[zCd,m0.out]
      have a8:W13.ownsRow (w8:E) 36 10 (.slice a2 (ds.length+1) U) (insAt cs z { d with aa:=a',ac:=c' }).length (flat (insAt cs z { d with aa:=a',ac:=c' })):=by
       rw[Z];exact zG a7.out e6 (λb hb h=>by have:=zP a7.out hb;omega)
      obtain⟨a3,c3,hv,hD,k1⟩:=Devs.of_own a8;have m4:=zAG a8;injection hv with e1 e2 e3
      subst e1;subst e3;have k2:Cop w8 e5 (w8:E) (insAt ds z d) (insAt cs z { d with aa:=a',ac:=c' }):=by
       refine(j8.out.fr X (λ_ _ _ _=>id)).ins ⟨rfl,⟨l,HA.out.no x8 (λ_=>id),h8.out.1.no d3 (λ_=>id),i7.out,by omega⟩,h8.out.2.1.fr d3 (λ_ _=>id),λad e=>by have:=h8.out.2.2 ad e;omega⟩ i6
      have g5:=k2.own (zG a5.out X (λ_ _=>id)) a6;have g6:Cop w8 W13 (w8:E) (insAt ds z d) (insAt cs z { d with aa:=a',ac:=c' }):=g5.fr e6 (λx O ad e h=>by
       obtain⟨y,_,hy⟩:=g5.mem O;have:=hy.fresh ad e;unfold Is at h;omega)
      have m5:=x8.size;have k3:∀ x∈insAt ds z d,∃ l,Atts w x.aa x.ac l/\x.an=l.length:=by
       intro x O;rcases zX.1 O with h|h
       .subst h;exact⟨l,HA.out,i7.out⟩
       .obtain⟨l',g1,g2,_⟩:=(HL.out.el x h).att;exact⟨l',g1,g2⟩
      rw[l1.out]at g6 k3 Z hD;refine⟨e7.out _ _ (.inr ⟨hsc,⟨a2,U,insAt cs (insK ds d) { d with aa:=a',ac:=c' },by rw[Z],hD,m4,λad e=>by have:=k1 ad e;omega,g6.src x8 k3 m5⟩⟩),?_⟩;have k4:Fr No w W13:=(((x9.step X zi).step a6 (λb hb h=>by have:=h9 b h;omega)).step e6 (λb hb h=>by omega))
      exact k4
     .have m6:=zh hsc;have z2:w7.cell? ⟨(w:E)+1+1,0,Q⟩=C (.slice Q 0 0):=zB s2 0;have f2:=zD s2 0;have f8:Fr (Is ((w:E)+1+1)) w7 (w7.setCell ⟨(w:E)+1+1,0,Q⟩ (.slice Q 0 0)):=Fr.setAt (aj _ _) _;have z3:(w7.setCell ⟨(w:E)+1+1,0,Q⟩ (.slice Q 0 0)).cell? ⟨(w:E)+1+1,0,Q⟩=C (.slice Q 0 0):=zB (zE s2 0 (.slice Q 0 0)) 0;have H8:=zh (x7.step f8 (λb hb h=>by omega));clear f8 hsc
      go_wp2_with fail
      refine bodyPost_ret (v:=.tuple #[af #[.slice Q 0 0],.int M 44]) (by simp[results,cj,go_sem,z3]) rfl ?_;exact⟨e7.out _ _ (.inl (l0.out _ _ m6.out rfl)),H8.out⟩
end Go.Proofs.YtckkocmhlhefpaaGreatDoor
