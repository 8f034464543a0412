import Derived.Test.YtifphhgcelkflaaGreatDoorQ15
import Derived.Test.YtifphhgcelkflaaGreatDoorRows
import Derived.Shelf.Vars
import Derived.Stop.LaidErr
import Derived.MakeChecks
import Derived.Lib.LaidTab
import Derived.OpenShut
import Derived.LaidMore
import Derived.Lay
import Derived.HandedShaped
import Derived.Handed
namespace Go.Proofs.YtifphhgcelkflaaGreatDoor
open Go.RowKit Go.Maps Go.ChangeShapes Go.WideShapes Go
set_option linter.unusedVariables false
set_option maxRecDepth 100000
set_option maxHeartbeats 8000000
open AttOf renaming fr->cd
open EvF renaming own->ce,trans->cf
open EvG renaming trans->cg
open Fr renaming refl->bh,size->bn,of_grown->ch
open Go renaming World->ao,Addr->ap,Calls->az,maxLen->bq,Value->br,info_parts->da,wpList_append_own_at->dz
open Go.IntKind renaming i64->aj
open Go.Lib renaming decDigits->cm
open Go.Obj renaming cells->aq
open Go.OpenSpec renaming ofChange->cw
open Go.Proofs renaming intOf->be
open Go.Proofs.Tryz renaming prog->aw,underlying241->dn,underlying406->dp,underlying408->dq,underlying9->dr
open Go.RowKit renaming Hid->ah
open Go.Value renaming slice->ai,int->am,slice->ax,string->ay,agg->bf,pointer->bs,string->bz
open Go.World renaming ownsRow_nil->du,size_alloc->dw,var?_cell->dx
open KSt renaming new->cl
open OpA renaming vals->cu
open Rec renaming vals->cc,zero->cx
open Recs renaming of_own->dm
open Strs renaming nil->bw,of_block->cy
open UOk renaming nil->cz
open _root_ renaming Nat->Q,Int->B,ByteArray->af,List->ag,Option->al,congrArg->au,if_pos->bd,absurd->bg,if_neg->bm,of_decide_eq_true->dy
open _root_.Bool renaming false->ak,true->ar
open _root_.ByteArray renaming empty->ba
open _root_.Int renaming eq_ofNat_of_zero_le->ci,emod_eq_of_lt->db
open _root_.List renaming mem_of_getElem?->bi,length->bo,length_append->bu,mem_map_of_mem->bv,length_map->bx,filterMap_cons->cn,filter_cons_of_neg->cp,map_cons->cq,map_nil->cr,append_nil->dc,find?_eq_none->dd,getElem?_append_left->de,getElem?_append_right->df,getElem?_eq_getElem->dg,map_append->dh,map_map->di,range_succ_eq_map->dj
open _root_.Nat renaming le_succ->bj,le_refl->bp,le_trans->ca,sub_self->dk,zero_add->dl
open _root_.Option renaming some->ab,none->ae
open _root_.UInt8 renaming toNat->dt
variable{S:Q->Prop}{o cs:ag af}{W:ao}{u d h:Dev}{n bc i j k:Q}{L L' ds:ag Dev}{ct A:B->af}{ix rd r:B}{c:Q->af}{f:Q->Q}{C:ag Src}{p:af}{tx:Dev->af}{M:ag Vir}{s:Src}
structure StK (W:ao)(tb sb:Q)(ka ea:al ap)(kc ec:Q)(K E:ag af):Prop where
 box:W.heap[sb]?=ab (aq #[ai ka K.length kc,am aj 0] 32)
 ks:Strs W ka kc K
 es:Strs W ea ec E
 kt:BlkT W ka 9
 et:BlkT W ea 9
 kf:∀ ad,ka=ab ad->tb<ad.block
 ef:∀ ad,ea=ab ad->tb<ad.block
 sf:tb<sb
section
variable {W W':ao}{tb sb:Q}{ka ea:al ap}{kc ec:Q}{K E:ag af}
theorem StK.fr (h:StK W tb sb ka ea kc ec K E)(u:Fr S W W')(z:¬ S sb)(v:∀ o,ka=ab o->¬ S o.block)(y:∀ o,ea=ab o->¬ S o.block):StK W' tb sb ka ea kc ec K E:=
 ⟨u.heap h.box z,h.ks.fr u (λo e _=>v o e),h.es.fr u (λo e _=>y o e),h.kt.fr u v,h.et.fr u y,h.kf,h.ef,h.sf⟩
theorem StK.no (h:StK W tb sb ka ea kc ec K E)(o:Fr No W W'):StK W' tb sb ka ea kc ec K E:=h.fr o id (λ_ _=>id) (λ_ _=>id)
theorem StK.tape (h:StK W tb sb ka ea kc ec K E)(u:Fr (Is tb) W W'):StK W' tb sb ka ea kc ec K E:=
 h.fr u (λe=>by have:=h.sf;omega) (λo e v=>by have:=h.kf o e;omega) (λo e v=>by have:=h.ef o e;omega)
theorem StK.ev {y o:Q}(h:StK W tb sb ka ea kc ec K E)(u:EvF y o W W'){cs:Array br}(v:W.heap[y]?=ab (aq cs 60)):StK W' tb sb ka ea kc ec K E:=by
 refine h.fr u (λz=>?_) (u.bt h.kt v (by decide) (by decide)) (u.bt h.et v (by decide) (by decide));exact u.bt (a:=ab ⟨sb,0,ae⟩) (T:=32) (λA e=>by cases e;exact⟨_,h.box⟩) v (by decide) (by decide) _ rfl z
end
theorem KA.v {u o:Q}{y:B}(h:KA W u o L ct y n):∃ v,W.cell? ⟨u,3,ae⟩=ab v:=by
 obtain⟨a,z,ds,F,I,J,A,_⟩:=h;exact⟨_,zB A.blk 3⟩
def KSep (W:ao)(kb kc:Q):Prop:=∀ u v b,W.cell? ⟨kb,3,ae⟩=ab u->W.cell? ⟨kc,3,ae⟩=ab v->u.ownBlock=ab b->v.ownBlock=ab b->False
theorem KSep.symm {o y:Q}(h:KSep W o y):KSep W y o:=λu v b z A F I=>h v u b A z I F
theorem KSep.fr {I:ao}{o z X Y Z:Q}{F:B}(h:KSep W o z)(J:Fr S W I)(h1:¬ S o)(h2:¬ S z)(hB:KA W o Z L ct ix X)(hC:KA W z bc L' A F Y):KSep I o z:=λu v b N O=>by
 obtain⟨x,U⟩:=hB.v;obtain⟨y,V⟩:=hC.v;have e1:=J.cell U h1;have e2:=J.cell V h2;rw[e1]at N;rw[e2]at O;cases N;cases O;exact h _ _ b U V
theorem KA.other {w w':ao}{U V I nc:Q}{a6:B->af}{a7:B}(hB:KA w U V L ct ix n)(hC:KA w I bc L' a6 a7 nc)(a8:U≠I)(J:KSep w U I)(hg:EvG I w w'):KA w' U V L ct ix n/\KSep w' U I:=by
 obtain⟨y,hy⟩:=hC.v;obtain⟨Y,hn⟩:=hg y hy;obtain⟨a2,b2,b3,z,A,F,g1,_⟩:=hC;obtain⟨b4,a3⟩:=g1.own;have a9:y=ai z A F:=by
  rw[show w.cell? ⟨I,3,ae⟩=ab (ai z A F)from zB g1.blk 3]at hy;cases hy;rfl
 subst a9;obtain⟨a,b0,ds,ev,en,ec,N,h2,h3,h4⟩:=hB;have hT:∀ b cs T,w.heap[b]?=ab (aq cs T (0,0))->(b=I\/(ax z A F).ownBlock=ab b)->T=60\/T=101:=λb cs T X J=>by
  rcases J with rfl|J
  .rw[g1.blk]at X;cases X;exact .inl rfl
  .refine .inr (Classical.byContradiction λhT=>zI a3 X hT J)
 have a4:¬ (U=I\/(ax z A F).ownBlock=ab U):=λh=>by
  rcases h with h|h
  .exact a8 h
  .exact zI a3 N.blk (by decide) h
 have Z:∀ d∈ds,∀ o,d.aa=ab o->¬ (o.block=I\/(ax z A F).ownBlock=ab o.block):=λd hd o e J=>by
  obtain⟨x,O⟩:=N.te d hd o e;rcases hT _ _ _ O J with h|h<;>exact bg h (by decide)
 have a5:∀ o,a=ab o->¬ (o.block=I\/(ax z A F).ownBlock=ab o.block):=λo e J=>by
  obtain⟨x,O⟩:=N.ta o e;rcases hT _ _ _ O J with h|h<;>exact bg h (by decide)
 have hv:w.cell? ⟨U,3,ae⟩=ab (ai ev en ec):=zB N.blk 3;obtain⟨xs,O⟩:=N.own;have b1:∀ b,(ax ev en ec).ownBlock=ab b->¬ (b=I\/(ax z A F).ownBlock=ab b):=λb X h=>by
  rcases h with rfl|h
  .exact zI O g1.blk (by decide) X
  .exact J _ _ b hv hy X h
 refine⟨⟨a,b0,ds,ev,en,ec,⟨Y.heap N.blk a4,N.tr.foot Y (λb X=>?_),N.ta.fr Y (λo e=>a5 o e),λd hd=>(N.te d hd).fr Y (λo e=>Z d hd o e),⟨xs,zG O Y b1⟩,N.nm⟩,h2,cd h3 Y Z,h4⟩,λu v b q1 q2 q3 q4=>?_⟩
 .rcases X with⟨o,e,rfl⟩|⟨x,O,o,e,rfl⟩
  .exact a5 o e
  .exact Z x O o e
 .rw[Y.cell hv a4]at q1;cases q1;rcases hn v b q2 q4 with h|h
  .exact J _ _ b hv hy q3 h
  .have:=(zAF O q3).2;omega
theorem zNI (o:TreeOk ds)(u:∀ d∈ds,d.kind=2):CntOk ds (recL ds ds) (λ_=>ak):=λd h=>by
 unfold cntB;rw[o.lk h];dsimp only;cases hf:(recL ds ds).find? (Rec.is d.index (pathOf (origin ds d.index)))with
 | none=>
  rw[dd]at hf;refine bg ?_ (hf _ (bv h));unfold Rec.is recA;simp
 | some r=>
  obtain⟨x,_,rfl⟩:=List.mem_map.1 (List.mem_of_find?_eq_some hf);dsimp only;rw[u d h];show ((2:B)==2&&!((():af).toList==[49]))=_
  rw[ByteArray.toList_eq];rfl
def sdN (i:Q):af:=⟨#[115,100,UInt8.ofNat (48+i)]⟩
def sdxB : af:=⟨#[115,100,120]⟩
theorem zIF (h:i<4):isDk (sdN i)=true:=by
 rcases(by omega:i=0\/i=1\/i=2\/i=3)with rfl|rfl|rfl|rfl<;>kernel_rfl
theorem zMR: isDk sdxB=true:=by kernel_rfl
theorem zOa (o:i<4)(u:j<4)(e:sdN i=sdN j):i=j:=by
 have h:=au (λb:af=>b.data.toList[2]?.map dt) e;simp[sdN]at h;omega
theorem zPl (o:i<4):sdN i≠sdxB:=λe=>by
 have h:=au (λb:af=>b.data.toList[2]?.map dt) e;simp[sdN,sdxB]at h;omega
def Dk (c:Q->af)(f:Q->Q):Q->ag (af×B×af)
 | 0=>[]
 | i+1=>(sdN (f i),1+(f i:B),c (f i))::Dk c f i
theorem zGu {c:Q->af}{f:Q->Q}{x:af×B×af}:∀ {i:Q},x∈Dk c f i↔∃ j,j<i/\x=(sdN (f j),1+(f j:B),c (f j))
 | 0=>by simp[Dk]
 | i+1=>by
  unfold Dk;rw[List.mem_cons,zGu (i:=i)];constructor
  .rintro (h|⟨j,u,o⟩);·exact⟨i,by omega,h⟩
   .exact⟨j,by omega,o⟩
  .rintro ⟨j,u,o⟩;by_cases e:j=i;·subst e;exact .inl o
   .exact .inr ⟨j,by omega,o⟩
theorem zLT (h:∀ j,j<=i->f j<4)(o:∀ j,j<i->f j≠f i):∀ x∈Dk c f i,x.1≠sdN (f i)/\x.2.1≠1+(f i:B):=λx u=>by
 obtain⟨j,v,rfl⟩:=zGu.1 u;have y:=o j v;exact⟨λe=>y (zOa (h j (by omega)) (h i (bp _)) e),by show 1+(f j:B)≠_;omega⟩
theorem zIw (h:∀ j,j<i->f j<4):∀ x∈Dk c f i,x.1≠sdxB/\x.2.1≠99:=λx o=>by
 obtain⟨j,u,rfl⟩:=zGu.1 o;have:=h j u;exact⟨zPl this,by show 1+(f j:B)≠99;omega⟩
def rotN (n k j:Q):Q:=if j+k<n then j+k else j+k-n
theorem zKc (h:k<n)(o:j<n):rotN n k j<n:=by unfold rotN;split<;>omega
theorem zOd (o:k<n)(u:i<n)(v:j<n)(h:rotN n k i=rotN n k j):i=j:=by
 unfold rotN at h;split at h<;>split at h<;>omega
theorem zMU {m:Q}(o:k<n)(u:m<n):∃ j,j<n/\rotN n k j=m:=by
 by_cases h:k<=m;·exact⟨m-k,by omega,by unfold rotN;rw[bd (by omega)];omega⟩
 .exact⟨m+n-k,by omega,by unfold rotN;rw[bm (by omega)];omega⟩
theorem zOc (h:k<n)(o:j<n):((j:B)+k).tmod n=(rotN n k j:Q):=by
 rw[Int.tmod_eq_emod_of_nonneg (by omega)];unfold rotN;split;·rw[db (by omega) (by omega)];omega
 .rw[<-Int.sub_emod_right,db (by omega) (by omega)];omega
theorem zK6 (u:k<n)(o x:af):Live (Dk c id n) (λ_=>ak) o x↔Live (Dk c (rotN n k) n) (λ_=>ak) o x:=by
 unfold Live;refine exists_congr λm=>and_congr_left λ_=>?_
 rw[zGu,zGu];constructor
 .rintro ⟨j,h,e⟩;obtain⟨i,v,rfl⟩:=zMU u h;exact⟨i,v,e⟩
 .rintro ⟨j,h,e⟩;exact⟨_,zKc u h,e⟩
theorem zLU {x:af}(h:∀ j,j<i->f j<4):(((sdxB,99,x):af×B×af)::Dk c f i).filter (λy=>!eqB y.1 sdxB)=Dk c f i:=by
 rw[cp (by show ¬ (!eqB sdxB sdxB)=ar;rw[zAL.2 rfl];simp)];refine List.filter_eq_self.2 λy o=>?_
 have:=(zIw h y o).1;cases hb:eqB y.1 sdxB with
 | false=>rfl
 | true=>exact bg (zAL.1 hb) this
structure PI (w0 W:ao)(tb sb k1 k2:Q)(ka ea:al ap)(kc xc:Q)(K E:ag af)(ob:Q)(av:al ap)(cv:Q)(ops:ag OpA)(cb kt:Q)(L1:ag Dev)(c1:B->af)(i1:B)(n1:Q)(L2:ag Dev)(c2:B->af)(i2:B)(n2:Q):Prop where
 a:KA W k1 (k1+1) L1 c1 i1 n1
 b:KA W k2 (k2+1) L2 c2 i2 n2
 s:KSep W k1 k2
 st:StK W tb sb ka ea kc xc K E
 tp:Tape W tb tb kt
 op:W.ownsRow ob 42 14 (ai av ops.length cv) ops.length (opF ops)
 ok:OpsOk W ob ops
 cs:Strs W (ab ⟨cb,0,ae⟩) 16 zAD
 ct:BlkT W (ab ⟨cb,0,ae⟩) 9
 fr:Fr (From tb) w0 W
 lt:tb<k1/\tb<k2/\k1≠k2/\tb<cb/\tb<ob/\k1<(W:Q)/\k2<(W:Q)
section
variable {w0 W W':ao}{tb sb k1 k2:Q}{ka ea:al ap}{kc xc:Q}{K E:ag af}{ob:Q}{av:al ap}{cv:Q}{ops:ag OpA}{cb kt kt':Q}{L1 L1' L2:ag Dev}{c1 c1' c2:B->af}{i1 i1' i2:B}{n1 n1' n2:Q}
theorem PI.swap (h:PI w0 W tb sb k1 k2 ka ea kc xc K E ob av cv ops cb kt L1 c1 i1 n1 L2 c2 i2 n2):PI w0 W tb sb k2 k1 ka ea kc xc K E ob av cv ops cb kt L2 c2 i2 n2 L1 c1 i1 n1:=
 ⟨h.b,h.a,h.s.symm,h.st,h.tp,h.op,h.ok,h.cs,h.ct,h.fr,h.lt.2.1,h.lt.1,Ne.symm h.lt.2.2.1,h.lt.2.2.2.1,h.lt.2.2.2.2.1,h.lt.2.2.2.2.2.2,h.lt.2.2.2.2.2.1⟩
theorem PI.ev (h:PI w0 W tb sb k1 k2 ka ea kc xc K E ob av cv ops cb kt L1 c1 i1 n1 L2 c2 i2 n2)(A:KA W' k1 (k1+1) L1' c1' i1' n1')(o:EvF k1 (k1+1) W W')(F:EvG k1 W W'):PI w0 W' tb sb k1 k2 ka ea kc xc K E ob av cv ops cb kt L1' c1' i1' n1' L2 c2 i2 n2:=by
 obtain⟨v,I,y,J,N,U,V⟩:=h.lt;obtain⟨cs,u⟩:=h.a.blk;have z:=KA.other h.b h.a (Ne.symm y) h.s.symm F;have X:=bn o;exact⟨A,z.1,z.2.symm,h.st.ev o u,EvF.tape o v (by omega) h.tp,ce o h.op u (by decide) (by decide),OpsOk.ev h.ok o u,h.cs.fr o (λO e _=>o.bt h.ct u (by decide) (by decide) O e),h.ct.fr o (o.bt h.ct u (by decide) (by decide)),h.fr.step (EvF.from o (by omega) (by omega)) zi,v,I,y,J,N,by omega,by omega⟩
theorem PI.tape (h:PI w0 W tb sb k1 k2 ka ea kc xc K E ob av cv ops cb kt L1 c1 i1 n1 L2 c2 i2 n2)(v:Fr (Is tb) W W')(I:Tape W' tb tb kt'):PI w0 W' tb sb k1 k2 ka ea kc xc K E ob av cv ops cb kt' L1 c1 i1 n1 L2 c2 i2 n2:=by
 obtain⟨J,N,O,U,V,l6,l7⟩:=h.lt;have hs:=v.size;obtain⟨T,hT⟩:∃ T,T=Is tb:=⟨_,rfl⟩
 have y:∀ b,Is tb b->b=tb:=λb u=>u
 exact⟨h.a.low (bj _) v (λb X _ u=>by have:=y b u;omega),h.b.low (bj _) v (λb X _ u=>by have:=y b u;omega),h.s.fr v (λu=>by have:=y _ u;omega) (λu=>by have:=y _ u;omega) h.a h.b,h.st.tape v,I,
  zG h.op v (λb u Y=>by have:=(zAF h.op u).1;have:=y b Y;omega),λo Z=>by
   obtain⟨g1,g2,g3,A⟩:=h.ok o Z;have F:∀ z,o.x.aa=ab z->¬ Is tb z.block:=λz e u=>by have:=A z e;have:=y _ u;omega
   exact⟨g1.fr v (λz e _=>F z e),g2,g3.fr v F,A⟩,
  h.cs.fr v (λz e _ u=>by cases e;have:=y _ u;dsimp only at this;omega),h.ct.fr v (λz e u=>by cases e;have:=y _ u;dsimp only at this;omega),h.fr.step v (λb _ u=>by have:=y b u;omega),J,N,O,U,V,by omega,by omega⟩
theorem PI.no (h:PI w0 W tb sb k1 k2 ka ea kc xc K E ob av cv ops cb kt L1 c1 i1 n1 L2 c2 i2 n2)(o:Fr No W W'):PI w0 W' tb sb k1 k2 ka ea kc xc K E ob av cv ops cb kt L1 c1 i1 n1 L2 c2 i2 n2:=
 h.tape (o.mono λ_ _ h=>h.elim) (h.tp.fr o (λ_ _=>id) id)
theorem PI.env (h:PI w0 W tb sb k1 k2 ka ea kc xc K E ob av cv ops cb kt L1 c1 i1 n1 L2 c2 i2 n2)(o:Env w0)(u:8<tb):Env W:=o.from u h.fr
theorem PI.push {o:OpA}{F:al ap}{I:Q}(h:PI w0 W tb sb k1 k2 ka ea kc xc K E ob av cv ops cb kt L1 c1 i1 n1 L2 c2 i2 n2)(z:Fr (λb=>(ax av ops.length cv).ownBlock=ab b) W W')(ho:W'.ownsRow ob 42 14 (ai F (ops++[o]).length I) (ops++[o]).length (opF (ops++[o])))
  (hA:Atts W o.x.aa o.x.ac (cAtt o.c)) (O:o.x.an=(cAtt o.c).length) (U:BlkT W o.x.aa 68) (V:∀ u,o.x.aa=ab u->ob<=u.block):PI w0 W' tb sb k1 k2 ka ea kc xc K E ob F I (ops++[o]) cb kt L1 c1 i1 n1 L2 c2 i2 n2:=by
 obtain⟨l1,l2,l3,l4,l5,l6,l7⟩:=h.lt;have hs:=z.size;have A:∀ b,(ax av ops.length cv).ownBlock=ab b->ob<=b:=λb V=>(zAF h.op V).1
 have v:∀ {a:al ap},BlkT W a 9->∀ u,a=ab u->¬ (ax av ops.length cv).ownBlock=ab u.block:=λX u e=>by
  obtain⟨cs,Y⟩:=X u e;exact zI h.op Y (by decide)
 have y:∀ {a:al ap},BlkT W a 68->∀ u,a=ab u->¬ (ax av ops.length cv).ownBlock=ab u.block:=λX u e=>by
  obtain⟨cs,Y⟩:=X u e;exact zI h.op Y (by decide)
 obtain⟨x1,Z⟩:=h.a.blk;obtain⟨x2,a2⟩:=h.b.blk;refine⟨h.a.row h.op (by decide) z,h.b.row h.op (by decide) z,h.s.fr z (zI h.op Z (by decide)) (zI h.op a2 (by decide)) h.a h.b,h.st.fr z (zI h.op h.st.box (by decide)) (v h.st.kt) (v h.st.et),h.tp.fr z (λb h1 J=>by have:=A b J;omega) (λJ=>by have:=A _ J;omega),ho,λp N=>?_,
  h.cs.fr z (λu e _=>v h.ct u e),h.ct.fr z (v h.ct),h.fr.step z (λb _ J=>by have:=A b J;omega),l1,l2,l3,l4,l5,by omega,by omega⟩
 rcases List.mem_append.1 N with N|N
 .obtain⟨g1,g2,g3,g4⟩:=h.ok p N;exact⟨g1.fr z (λu e _=>y g3 u e),g2,g3.fr z (y g3),g4⟩
 .obtain rfl:=List.mem_singleton.1 N;exact⟨hA.fr z (λu e _=>y U u e),O,U.fr z (y U),V⟩
end
theorem zEk (w:ao):
  az aw 6 #[] w λe w'=>e=.returned (ai (ab ⟨w,0,ae⟩) 16 16)/\Strs w' (ab ⟨w,0,ae⟩) 16 zAD/\BlkT w' (ab ⟨w,0,ae⟩) 9/\Fr No w w':=by
 have h:=zF w (aq (zAD.map bz).toArray 9);have o:=cy h (by rw[zA9];unfold bq;omega);rw[zA9]at o;have u:BlkT (w.alloc (aq (zAD.map bz).toArray 9)) (ab ⟨w,0,ae⟩) 9:=λv e=>by cases e;exact⟨_,h⟩
 have H:=zg3 o u ((bh No w).alloc (aq (zAD.map bz).toArray 9));clear h o u;go_enter Tryz.func6,Tryz.ntmps6;go_wp2;go_ret;exact⟨rfl,H⟩
theorem zOr (u n:Q)(L:ag Dev)(ct:B->af)(v:B)(D:ag (af×B×af))(nm c:af)(o:B)(I:al ap)(J:Q)(w:ao)(X:KA w u (u+1) L ct v n)(N:UOk L ct v)(V:DskP D L ct)(z:isDk nm=ar)(y:1<=o/\o<1048576)(A:∀ x∈D,x.1≠nm/\x.2.1≠o)(Y:InU c)(Z:Atts w I J (cAtt c))(hE:Env w)(h8:8<u)(hn:n<=50000000)(O:0<=v/\v<=900000)(hb:u+1<=(w:Q)):
  az aw 10 #[bs (ab ⟨u,0,ae⟩),bf (ocs 1 () ⟨0,0,(),nm,zU,(),(),2,o,I,(cAtt c).length,J⟩ () ())] w λe w'=>e=.returned (.tuple #[am aj (v+1),am aj 0])/\(∃ U F,KA w' u (u+1) U F (v+1) (n+1)/\UOk U F (v+1)/\DskP ((nm,o,c)::D) U F)/\EvF u (u+1) w w'/\EvG u w w':=
 (zLB u (u+1) n L ct v 0 () () () c ⟨0,0,(),nm,zU,(),(),2,o,I,(cAtt c).length,J⟩ w X N hE h8 hn O hb Z rfl ⟨rfl,rfl,rfl,y.1,by show o<=2000000;omega⟩ (.inl ⟨zLt N,rfl,rfl⟩) (.inl ⟨rfl,zNE z⟩) Y (λh=>bg rfl h) (V.free z y.2 A)).mono λe w' h=>⟨h.1,⟨_,_,h.2.1,h.2.2.1,V.put N (x:=⟨0,0,(),nm,zU,(),(),2,o,I,(cAtt c).length,J⟩) z⟩,h.2.2.2.1,h.2.2.2.2⟩
theorem zQQ (o n:Q)(L:ag Dev)(ct:B->af)(u:B)(D:ag (af×B×af))(nm c z:af)(v:B)(w:ao)(I:KA w o (o+1) L ct u n)(A:UOk L ct u)(J:DskP D L ct)(N:(nm,v,c)∈D)(O:z=pathOf [nm])(hn:n<=50000000)(U:o+1<=(w:Q)):
  az aw 10 #[bs (ab ⟨o,0,ae⟩),bf (ocs 2 z ZD () ())] w λe w'=>e=.returned (.tuple #[am aj 0,am aj 0])/\(∃ y F,F<=n+44/\KA w' o (o+1) y ct u F/\UOk y ct u/\DskP (D.filter λx=>!eqB x.1 nm) y ct)/\EvF o (o+1) w w'/\EvG o w w':=by
 obtain⟨d,V,X,Y,Z⟩:=zMV A J N;have hl:=A.len;subst O;exact(zNp o (o+1) n L ct u _ _ _ ZD d w I (by omega) (by omega) U V X).mono λe w' h=>⟨h.1,⟨_,n+L.length,by omega,h.2.1,Y,Z⟩,h.2.2.1,h.2.2.2⟩
def dop (j:Q)(aa:al ap)(ac:Q)(c:af):OpA:=⟨1,(),⟨0,0,(),sdN j,zU,(),(),2,1+(j:B),aa,(cAtt c).length,ac⟩,(),(),c⟩
structure DOps (cs:ag af)(ops:ag OpA):Prop where
 len:ops.length=cs.length
 el:∀ j c,cs[j]?=ab c->InU c/\∃ aa ac,ops[j]?=ab (dop j aa ac c)
theorem DOps.snoc {o:ag OpA}(h:DOps cs o){c:af}(F:InU c)(y:al ap)(z:Q):DOps (cs++[c]) (o++[dop cs.length y z c]):=by
 refine⟨by simp[h.len],λj x u=>?_⟩;by_cases v:j<cs.length
 .rw[de v]at u;obtain⟨I,a1,J,N⟩:=h.el j x u;exact⟨I,a1,J,by rw[de (by rw[h.len];exact v)];exact N⟩
 .have A:=(List.getElem?_eq_some_iff.1 u).1;obtain rfl:j=cs.length:=by rw[bu]at A;simp at A;omega
  rw[df (bp _),dk]at u;obtain rfl:c=x:=by simpa using u
  exact⟨F,y,z,by rw[df (by rw[h.len];exact bp _),h.len,dk];rfl⟩
def cAt (cs:ag af)(j:Q):af:=cs[j]?.getD ⟨#[]⟩
theorem DOps.at {o:ag OpA}(h:DOps cs o)(v:j<cs.length):InU (cAt cs j)/\∃ y z,o[j]?=ab (dop j y z (cAt cs j)):=by
 obtain⟨x,u⟩:∃ x,cs[j]?=ab x:=⟨_,dg v⟩
 have e:cAt cs j=x:=by unfold cAt;rw[u];rfl
 rw[e];exact h.el j x u
def keysE : ag af:=[⟨#[99]⟩,⟨#[100]⟩]
def expE : ag af:=[⟨#[114]⟩,⟨#[115]⟩]
theorem zOx (w:ao):az aw 5 #[] w λe w'=>(∃ k x,e=.returned (.tuple #[bf #[ai (ab ⟨k,0,ae⟩) 2 2,am aj 0],ai (ab ⟨x,0,ae⟩) 2 2])/\Strs w' (ab ⟨k,0,ae⟩) 2 keysE/\Strs w' (ab ⟨x,0,ae⟩) 2 expE/\BlkT w' (ab ⟨k,0,ae⟩) 9/\BlkT w' (ab ⟨x,0,ae⟩) 9/\(w:Q)<=k/\(w:Q)<=x)/\Fr No w w':=by
 obtain⟨u,z,f0,U⟩:=zy w (aq #[ai ae 0 0,am aj 0] 32);obtain⟨A,F,V,X⟩:=zy u (aq #[ay ⟨#[99]⟩,ay ⟨#[100]⟩] 9);obtain⟨W2,Y,J,b2⟩:=zy A (aq #[ay ⟨#[114]⟩,ay ⟨#[115]⟩] 9);have l0:=zC U;have Z:ah ((u:Q)+1=(A:Q)):=by rw[F];unfold ah;simp
 have l1:=zC X;have N:=J.heap (V.heap U id) id;have c1:=J.heap X id;obtain⟨z0,z1⟩:=cl2 N;obtain⟨y0,y1⟩:=fl2 N;obtain⟨y,o⟩:∃ y,y=(W2.setCell ⟨w,0,ae⟩ (ai (ab ⟨u,0,ae⟩) 2 2)).setCell ⟨w,1,ae⟩ (am aj 0):=⟨_,rfl⟩
 have c3:y.heap[(w:Q)]?=ab (aq #[ai (ab ⟨u,0,ae⟩) 2 2,am aj 0] 32):=by rw[o];exact zE (zE N 0 _) 1 _
 have O:Fr (Is (w:Q)) W2 y:=by rw[o];exact Fr.setAt (Fr.setAt (bh _ _) _) _
 have g1:=O.heap c1 (λh=>by omega);have g2:=O.heap b2 (λh=>by omega);obtain⟨x0,x1⟩:=cl2 c3;have I:=zg5 (cy (l:=keysE) g1 (by decide)) (cy (l:=expE) g2 (by decide)) (show BlkT y (ab ⟨u,0,ae⟩) 9 from λad e=>by cases e;exact⟨_,g1⟩) (show BlkT y (ab ⟨A,0,ae⟩) 9 from λad e=>by cases e;exact⟨_,g2⟩) (((f0.step V zi).step J zi).step O (λb hb h=>by omega));have HL:=zg2 l0 l1;clear U X b2 N c1 c3 g1 g2 f0 V J O l0 l1;go_enter Tryz.func5,Tryz.ntmps5;go_upto_region 1 with(fail)
 rw[<-z];clear z;rw[Y,F]at o z0 z1 y0 y1;go_wp2_with fail;rw[<-o,Z];refine bodyPost_ret (v:=.tuple #[bf #[ai (ab ⟨u,0,ae⟩) 2 2,am aj 0],ai (ab ⟨A,0,ae⟩) 2 2]) (by simp[results,Tryz.results5,go_sem,x0,x1]) rfl ?_;exact⟨⟨(u:Q),(A:Q),rfl,I.1,I.2.1,I.2.2.1,I.2.2.2.1,Nat.le_of_lt HL.1,by have:=HL.out;omega⟩,I.2.2.2.2⟩
theorem zOi (s:af)(w:ao):az aw 27 #[ai ae 0 0,ay s] w λe w'=>e=.returned (.bool ak)/\w'=w:=by
 go_enter Tryz.func27,Tryz.ntmps27;go_wp2_with fail;go_loopw [5] (λv wr=>v=am aj 0/\wr=w) (λ_ _=>0);case atStart=>exact⟨rfl,rfl⟩
 case round=>
  obtain⟨rfl,rfl⟩:=hrel;go_wp2;go_ret;exact⟨rfl,rfl⟩
theorem zOG (u:Q)(a:al ap)(y:Q)(ds:ag Dev)(ct:B->af)(M:ag Vir)(U:al ap)(V:Q)(h:B)(w:ao)(hl:Tr w u a y ds)(hU:UOk (ds.map strip) ct h)(X:MustOk ds M)(hx:0<=h/\h<=900000)(hE:Env w)(F:TrT w a ds)(hC:CtO w ds ct)(hV:Virs w U V M)(I:u<=(w:Q)):
  az aw 28 #[bf #[ai a ds.length y],ai U M.length V] w λe w'=>(∃ (o:ag OpA) (z:al ap) (A:Q),e=.returned (ai z o.length A)/\(o=[]/\DoneP M (ds.map strip) ct h\/¬ DoneP M (ds.map strip) ct h/\∃ (J:ag Dev) (N:B->af) (O:B),KRun 44 (ds.map strip) ct h o J N O/\DoneP M J N O/\(∀ D,DskP D (ds.map strip) ct->DskP D J N)/\O<=h+44/\o.length<=132/\w'.ownsRow (w:Q) 42 14 (ai z o.length A) o.length (opF o)/\OpsOk w' (w:Q) o))/\Fr No w w':=by
 by_cases Y:DoneP M (ds.map strip) ct h
 .apply (zPg u a y ds ct M U V h w hl Y X.v X.d (by omega) hE F hC hV I).mono;rintro e w' ⟨⟨z,A,rfl⟩,Z⟩;exact⟨⟨[],z,A,rfl,.inl ⟨rfl,Y⟩⟩,Z⟩
 .apply (zNd u a y ds ct M U V h w hl hU X hx hE F hC hV I (λ_ _ _=>True) trivial (λ_ _ _ _ _ _ _ _ _ _ _=>trivial)).mono;rintro e w' ⟨⟨o,z,A,J,N,O,h1,h2,h3,h4,h5,_,rfl,h6,h7⟩,Z⟩;exact⟨⟨o,z,A,rfl,.inr ⟨Y,J,N,O,h1,h2,h3,h4,h5,h6,h7⟩⟩,Z⟩
theorem zCj (tb sb F y n:Q)(L:ag Dev)(ct:B->af)(ix:B)(D:ag (af×B×af))(ka ea:al ap)(kc xc:Q)(E N:ag af)(w:ao)(hK:KA w F y L ct ix n)(hU:UOk L ct ix)(hD:DskP D L ct)(h8:8<F)(a3:F<=y)(hb:y<=(w:Q))(hn:n<=40000000)(j2:0<=ix/\ix<=800000)
  (hE:Env w) (hS:StK w tb sb ka ea kc xc N E) (j3:N.length<=1000000) (j4:∀ x∈N,x.size<=bq) (e9:AllE E):
  az aw 11 #[bs (ab ⟨F,0,ae⟩),bf #[ai ka N.length kc,am aj 0],ai ea E.length xc,ai ae 0 0] w λe w'=>e=.returned (.bool ar)/\(∃ L' g0 z n',KA w' F y L' g0 z n'/\SetE E N (λ_=>ak) D L' g0 z/\0<=z/\z<=ix+1400/\n'<=n+200000)/\EvF F y w w'/\EvG F w w':=by
 obtain⟨W0,g1,x0,b0⟩:=zy w (aq #[ai ka N.length kc,am aj 0] 32);have g2:ah (KA W0 F y L ct ix n):=hK.no a3 x0;have j5:tb<(w:Q):=by have:=hS.sf;have:=zC hS.box;omega
 have V:=hS.no x0;have g3:ah (StK W0 tb (w:Q) ka ea kc xc N E):=⟨b0,V.ks,V.es,V.kt,V.et,V.kf,V.ef,j5⟩
 have g4:ah (SetS E N (λ_=>ak) D (((0:Q):B)+1) L ct ix):=by rw[show ((0:Q):B)+1=1 from rfl];exact SetS.one hU hD
 have HE:=zh hE;have j6:=zh e9;have X0:=zh x0;have m2:=x0.size;clear hK hU hD hE hS V x0 b0 e9;go_enter Tryz.func11,Tryz.ntmps11;go_upto_region 1 with(fail)
 rw[<-g1];clear g1;go_wp2_with fail;go_loopw [9] (λx wr=>∃ (r nn:Q) (L:ag Dev) (ct:B->af) (z:B),r<=31/\x=am aj (r:B)/\nn<=n+5940*r/\0<=z/\z<=ix+44*r/\ah (SetS E N (λ_=>ak) D ((r:B)+1) L ct z)/\ah (KA wr F y L ct z nn)/\ah (StK wr tb (w:Q) ka ea kc xc N E)/\ah (EvF F y w wr)/\ah (EvG F w wr)) (λx _=>40-(be x).toNat);case atStart=>exact⟨0,n,L,ct,ix,by omega,rfl,by omega,j2.1,by omega,g4,g2,g3,EvF.no X0,EvG.no X0⟩
 case round=>
  clear g4 g2 g3;obtain⟨r,nn,L,ct,z,l8,rfl,m3,g5,m4,HI,HK,HS,d5,HG⟩:=hrel;obtain⟨wA,rfl⟩:∃ wA,wA=wr:=⟨_,rfl⟩
  have l9:(r:B)<40:=by omega
  have m5:=HI.u.len;have m6:=bn d5;have a4:=zDB F y nn L ct z wA HK (by omega);go_wp2_with fail;apply a4.mono;rintro e w1 ⟨⟨ta,tc,ds,rfl,a5,g6,g7,b6⟩,d6⟩;have m7:ds.length<=44:=by have h:=au bo b6;rw[bx]at h;omega
  obtain⟨W2,g8,f2,b2⟩:=zy w1 (aq #[ai ta ds.length tc] 53);have t2:W2.cell? ⟨w1,0,ae⟩=ab (ai ta ds.length tc):=zB b2 0;obtain⟨R,hR⟩:∃ R,R=recL ds ds:=⟨_,rfl⟩
  have d7:ah (UOk (ds.map strip) ct z):=by rw[b6];exact HI.u
  have d8:ah (CntOk ds R (λ_=>ak)):=by
   rw[hR];exact zNI a5.wf.ok λd hd=>(d7.dv (strip d) (bv hd)).1.kind
  have a6:=zJh (bs ae) ta tc ds W2 (a5.no f2).dv a5.wf.ok (by omega);rw[<-hR]at a6;have s1:=d6.size;have b7:=zg4 (a5.no f2) (g6.fr f2 (λ_ _=>id)) (AttOf.no g7 f2) b2;have Z:=zh b6;have j7:=zh (d6.step f2 zi);have l2:=zC b2;clear a5 g6 g7 f2 b2 b6 d6 a4 hR;go_upto_region 5 with(fail)
  rw[<-g8];clear g8;go_wp2_with fail;apply a6.mono;rintro e w3 ⟨⟨ra,rc,rfl,hR,j8⟩,a2⟩;have g9:=zh hR;have j9:=zh (j7.step a2 zi);have b8:=zg4 (b7.1.no a2) (b7.2.1.fr a2 (λ_ _=>id)) (AttOf.no b7.2.2.1 a2) (a2.heap b7.2.2.2 id);have m8:=hR.lenmax;clear hR j8 a2 a6 t2;go_wp2_with fail;go_loopw [12] (λx wi=>∃ (j:Q),j<=R.length/\x=am aj (j:B)/\Fr No w3 wi) (λx _=>R.length-(be x).toNat);case atStart=>exact⟨0,by omega,rfl,bh _ _⟩
  case round=>
   obtain⟨j,hj,rfl,I⟩:=hrel;by_cases k0:j<R.length
   .have h1:(j:B)<R.length:=(by omega);obtain⟨bb,k3,rr,rfl,k4,_,h2⟩:=(g9.no I (λ_=>id)).elem k0;have q0:=h2.c0;have d9:=zh I;clear h2 k4 I;go_wp2_with fail;apply (zOi _ _).mono;rintro e w4 ⟨rfl,rfl⟩;go_wp2;go_roundw;case rel=>exact⟨j+1,by omega,by go_num,d9⟩
    case measure=>simp[be];omega
   .obtain rfl:j=R.length:=by omega
    have h1:¬ (R.length:B)<R.length:=(by omega);have d9:=zh (j9.step I zi);have b9:=zg4 (b8.1.no I) (b8.2.1.fr I (λ_ _=>id)) (AttOf.no b8.2.2.1 I) (I.heap b8.2.2.2 id);have k5:ah (Recs _ ra rc R):=g9.no I (λ_=>id);clear I;go_upto_region 11 with(fail)
    refine zO No [(0,ak),(1,ak),(2,ak),(3,ak),(4,ak),(5,ar),(6,ar),(7,ak)] (by kernel_rfl) (by kernel_rfl) (λw5 X=>?_);have d2:=X.heap b9.2.2.2 id;have F5:=zh (d9.step X zi);have S5:ah (StK w5 tb (w:Q) ka ea kc xc N E):=HS.no F5;have t2:∀ g:Gr No w5,g.W.cell? ⟨w1,0,ae⟩=ab (ai ta ds.length tc):=λg=>zB (g.fr.heap d2 id) 0
    have t5:∀ g:Gr No w5,g.W.cell? ⟨w,0,ae⟩=ab (ai ka N.length kc):=λg=>zB (g.fr.heap S5.box id) 0
    have t6:∀ g:Gr No w5,g.W.cell? ⟨w,1,ae⟩=ab (am aj 0):=λg=>zB (g.fr.heap S5.box id) 1
    have E5:ah (Env w5):=HE.from h8 ((EvF.from (tb:=F) d5 (bp _) a3).step F5 zn);have T5:=zg3 (b9.1.no X) (b9.2.1.fr X (λ_ _=>id)) (AttOf.no b9.2.2.1 X);have a7:=zPf ta ra ka ea tc rc kc xc (wA:Q) 0 ds R E N ct z w5 T5.1 d7 T5.2.2 (k5.no X (λ_=>id)) E5 S5.es S5.ks j3 j4;have s5:=F5.size;clear d2 X;(repeat apply zR rfl rfl rfl;intro N hK;go_big_quiet_op;go_big_quiet_on);clear t2 t5 t6;apply zt rfl;go_wp2_with fail;apply a7.mono;rintro e w6 ⟨⟨ma,mc,M,rfl,hV,k6,k7,hM,re,h3⟩,O⟩;have s6:=O.size;have F6:=zh (F5.step O zi);have a8:=zOG (wA:Q) ta tc ds ct M ma mc z w6 (T5.1.no O) d7 hM ⟨g5,by omega⟩ (E5.fr O (λ_ _=>id)) (T5.2.1.fr O (λ_ _=>id)) (AttOf.no T5.2.2 O) hV (by omega);have HM:=zg2 hM h3;clear a7 hV k6 k7 hM h3;go_wp2_with fail;apply zf O;clear O;apply zt rfl;go_wp2_with fail;apply a8.mono;rintro e w7 ⟨⟨A,av,cv,rfl,hP⟩,d0⟩;have F7:=zh (F6.step d0 zi);have HP:=zh hP;have s7:=d0.size;clear a8 hP;go_wp2_with fail;apply zf d0;clear d0;(repeat apply zR rfl rfl rfl;intro N hK;go_big_quiet_op;go_big_quiet_on);apply zb;have K7:ah (KA w7 F y L ct z nn):=HK.no a3 F7;have S7:ah (StK w7 tb (w:Q) ka ea kc xc N E):=HS.no F7;have G7:ah (EvF F y w w7/\EvG F w w7):=⟨cf d5 (EvF.no F7),cg HG (EvG.no F7) HK.v⟩
    by_cases h0:A.length=0
    .have he:((A.length:B)==0)=true:=(by simp[h0]);have a9:ah (DoneP M L ct z):=by
      rcases HP.out with⟨_,h⟩|⟨_,K2,ck,e0,J,hd,_⟩
      .rw[Z]at h;exact h
      .have ho:A=[]:=List.eq_nil_of_length_eq_zero h0;subst ho;rw[Z]at J;cases J;exact hd
     go_wp2;go_ret;exact⟨rfl,⟨L,ct,z,nn,K7,⟨HI.u,HI.d,ds,R,re,M,Z,d8,HM.2,HM.1,a9⟩,g5,by omega,by omega⟩,G7⟩
    .have he:((A.length:B)==0)=false:=(by simp[h0]);obtain⟨e4,K2,ck,e0,J,hD,e5,m0,m9,d1,d3⟩:=HP.resolve_left (λh=>h0 (by rw[h.1];rfl));rw[Z]at e4 J e5;have ht:(r:B)+1<=31:=by
      rcases HI.f with h|h
      .exact h
      .exact bg (h ds R re M Z d8 HM.2) e4
     have h4:ah (KRun 44 L ct z (A.drop 0) K2 ck e0):=J;have a9:=zg2 hD (e5 D HI.d);have h5:=zg2 d1 d3;obtain⟨m1,h6⟩:=K7.blk;have b1:=zh h6;clear HP e4 J hD e5 d1 d3 h6;go_wp2_with fail;go_loopw [14] (λx wj=>∃ (jj nj:Q) (Lj:ag Dev) (cj:B->af) (U:B),jj<=A.length/\x=am aj (jj:B)/\nj<=nn+45*jj/\ah (KRun 44 Lj cj U (A.drop jj) K2 ck e0)/\ah (KA wj F y Lj cj U nj)/\ah (EvF F y w7 wj)/\ah (EvG F w7 wj)) (λx _=>A.length-(be x).toNat);case atStart=>exact⟨0,nn,L,ct,z,by omega,rfl,by omega,h4,K7,EvF.no (bh _ _),EvG.no (bh _ _)⟩
     case round=>
      obtain⟨jj,nj,Lj,cj,U,n3,rfl,n4,h7,e6,Y,h9⟩:=hrel;obtain⟨wj,rfl⟩:∃ wj,wj=wr:=⟨_,rfl⟩
      have sj:=bn Y;by_cases i0:jj<A.length
      .have e7:(jj:B)<A.length:=(by omega);obtain⟨o,ho⟩:∃ o,A[jj]?=ab o:=⟨_,dg i0⟩
       obtain⟨l1,x1,L1,c1,i3,d4,b3⟩:=KRun.step ho h7;have b4:=ce Y h5.1 b1 (by decide) (by decide);have b5:=OpsOk.ev h5.2 Y b1;obtain⟨b,k3,k8,⟨o0,o1,o2,o3,o4,o5,o6,o7,o8,o9,k9,l0,l3,l4⟩⟩:=zMm b4 rfl ho;obtain⟨i4,i5,_⟩:=b5 o (bi ho);have i6:Env wj:=HE.from h8 ((EvF.from (tb:=F) G7.1 (bp _) a3).step (EvF.from (tb:=F) Y (bp _) a3) zi);have e8:=zQU F y nj Lj L1 cj c1 U i3 o wj e6 i6 h8 (by omega) (by omega) x1 (by omega) ⟨i4,i5⟩ d4;have l5:=zh b3;subst k8;unfold cu ocs at e8;clear d4 b3 b4 b5 ho i4 i5 i6;go_wp2_with fail;apply e8.mono;rintro e w8 ⟨⟨i9,rfl⟩,i7,i8,j0⟩;have l6:=zh i7;have j1:ah (EvF F y w7 w8/\EvG F w7 w8):=⟨cf Y i8,cg h9 j0 e6.v⟩
       clear e8 i7 i8 j0 o0 o1 o2 o3 o4 o5 o6 o7 o8 o9 k9 l0 l3 l4;go_wp2;go_roundw;case rel=>exact⟨jj+1,nj+Lj.length+1,L1,c1,i3,by omega,by go_num,by omega,l5,l6,j1.1,j1.2⟩
       case measure=>simp[be];omega
      .obtain rfl:jj=A.length:=by omega
       have e7:¬ (A.length:B)<A.length:=(by omega);obtain⟨e1,e2,e3⟩:=KRun.done h7;have l7:ah (SetS E N (λ_=>ak) D (((r+1:Q):B)+1) Lj cj U):=by
        rw[<-e1,<-e2,<-e3,show ((r+1:Q):B)+1=(r:B)+1+1 by omega];exact SetS.step HI j6 (λ_ _=>rfl) Z d8 HM.2 HM.1 a9.1 a9.2
       have hp:0<=U/\U<=z+44:=by
        have:=a9.1.p;omega
       have GJ:ah (EvF F y w wj/\EvG F w wj):=⟨cf G7.1 Y,cg G7.2 h9 K7.v⟩
       have SJ:ah (StK wj tb (w:Q) ka ea kc xc N E):=S7.ev Y b1;clear e1 e2 e3;go_wp2;go_roundw;case rel=>exact⟨r+1,nj,Lj,cj,U,by omega,by go_num,by omega,hp.1,by omega,l7,e6,SJ,GJ.1,GJ.2⟩
       case measure=>simp[be];omega
theorem infoSt: (Tryz.prog.info? 9).map (λi=>(i.zero,i.size,i.bytes))=ab (ab (ay ba),1,16):=by kernel_rfl
theorem zHR (d:Dev)(c:af)(w:ao)(z:Atts w d.aa d.ac (cAtt c))(h:d.an=(cAtt c).length):
  az aw 32 #[bf d.vals] w λe w'=>e=.returned (ay c)/\Fr No w w':=by
 obtain⟨J,o,u,A⟩:=zy w (aq d.vals 40);have F:=(DevB.of A).c9;rw[h]at F;have v:=zMX d.aa d.ac (cAtt c) zM J (z.no u (λ_=>id));rw[zCo]at v;have O:=zh u;have U:=zh h;obtain⟨N,I⟩:∃ N,N=(cAtt c).length:=⟨_,rfl⟩
 rw[<-I]at F v;clear u A z h I;unfold Dev.vals at o ⊢;go_enter Tryz.func32,Tryz.ntmps32;go_upto_region 1 with(fail)
 rw[<-o];clear o;go_wp2_with fail;apply v.mono;rintro e V ⟨⟨X,rfl⟩,y⟩;go_wp2;go_ret;exact⟨rfl,O.step y zi⟩
def virT (ds:ag Dev)(ct:B->af)(l:ag Dev):ag af:=(l.filter λd=>virB ds d.index).map λd=>pathOf (origin ds d.index)++⟨#[32]⟩++ct d.index
theorem zKB (ds:ag Dev)(ct:B->af){l:ag Dev}(h:l[k]?=ab d):virT ds ct (l.take (k+1))=virT ds ct (l.take k)++(if virB ds d.index=ar then [pathOf (origin ds d.index)++⟨#[32]⟩++ct d.index]else []):=by
 unfold virT;rw[List.take_add_one,h,List.filter_append,dh]
 congr 1
 cases hb:virB ds d.index<;>simp[hb]
theorem zE8 (a:al ap)(y a7:Q)(ds:ag Dev)(ct:B->af)(w:ao)(hl:Tr w a7 a y ds)(d3:TrT w a ds)(hC:CtO w ds ct)(hn:ds.length<=250)(d4:∀ d∈ds,(ct d.index).size<=1000):
  az aw 14 #[bf #[ai a ds.length y]] w λe w'=>(∃ ra rc,e=.returned (ai ra (virT ds ct ds).length rc)/\Strs w' ra rc (virT ds ct ds))/\Fr No w w':=by
 obtain⟨i0,e9,g0,g1,g2⟩:=da infoSt;obtain⟨U,d5,x0,b0⟩:=zy w (aq #[ai a ds.length y] 53);have b1:ah (∀ b,TrF a ds b->b<(U:Q)):=λb hb=>by
  obtain⟨x,T,hx,_⟩:=d3 b hb;exact Nat.lt_of_lt_of_le (zC hx) x0.size
 have b2:=zg3 (hl.no x0) (AttOf.no hC x0) b0;have d6:=zh x0;have g3:=zh d4;have hm:=hl.dv.lenmax;have s0:=zC b0;clear hl hC x0 b0 d4 d3;go_enter Tryz.func14,Tryz.ntmps14;go_upto_region 1 with(fail)
 rw[<-d5];clear d5;go_wp2_with fail;go_loopw [3,4] (λv i wr=>∃ (k:Q) (O:ag af) (av:al ap) (cv:Q),k<=ds.length/\v=ai av O.length cv/\i=am aj (k:B)/\ah (O=virT ds ct (ds.take k))/\O.length<=k/\ah (wr.ownsRow (U:Q) 9 1 (ai av O.length cv) O.length (O.map bz))/\ah (Fr (From (U:Q)) U wr)) (λ_ i _=>ds.length-(be i).toNat);case atStart=>exact⟨0,[],ae,0,by omega,rfl,rfl,by unfold ah virT;simp,by simp,du _ _ _ _,bh _ _⟩
 case round=>
  obtain⟨k,O,av,cv,hk,rfl,rfl,HO,h5,a8,HF⟩:=hrel;obtain⟨wA,rfl⟩:∃ wA,wA=wr:=⟨_,rfl⟩
  have b4:∀ b,b<(U:Q)->¬ From (U:Q) b:=λb h1 h2=>by omega
  have bA:=HF.heap b2.2.2 (b4 _ s0);have cA:wA.cell? ⟨w,0,ae⟩=ab (ai a ds.length y):=zB bA 0;have sA:=HF.size;by_cases g4:k<ds.length
  .have d7:(k:B)<ds.length:=by omega
   have TA:Tr wA a7 a y ds:=b2.1.foot HF (λb hb=>b4 b (b1 b hb));have CA:CtO wA ds ct:=cd b2.2.1 HF (λd hd ad e=>b4 _ (b1 _ (.inr ⟨d,hd,ad,e,rfl⟩)));obtain⟨bb,b5,x,a2,b6,d8⟩:=TA.dv.dev g4;have d9:=bi b6;have g5:=b1.out bb (.inl ⟨_,a2,rfl⟩);have HS:=zh (zKB ds ct b6);have o:=zg3 TA CA d8;have a3:=zh d9;have e0:=zh a2;rw[a2]at cA bA;have e1:=zh bA;clear TA CA b6 d9 d8 a2 bA;go_upto_region 5 with(fail)
   clear cA;refine zO No [(0,ak),(1,ak),(2,ak),(3,ak),(4,ak),(5,ak),(6,ak),(7,ar)] (by kernel_rfl) (by kernel_rfl) (λw1 X=>?_);have t1:∀ g:Gr No w1,g.W.cell? ⟨w,0,ae⟩=ab (ai (ab ⟨bb,b5,ae⟩) ds.length y):=λg=>zB (g.fr.heap (X.heap e1 id) id) 0
   have t2:∀ g:Gr No w1,g.W.cell? ⟨bb,b5+k*10,ae⟩=ab (am aj x.index):=λg=>g.fr.cell (X.cell o.2.2.c0 id) id
   have Y:=zHQ a y ds x.index w1 (o.1.no X).dv o.1.wf.ok;rw[e0]at Y;have g6:=zh X;clear X;(repeat(first|apply zR rfl rfl rfl|apply zT rfl rfl rfl);intro e8 hK;go_big_quiet_op;go_big_quiet_on);clear t1 t2;apply zt rfl;go_wp2_with fail;apply Y.mono;rintro e w2 ⟨rfl,b7⟩;have F2:=zh (g6.step b7 zi);clear Y;go_wp2_with fail;apply zf b7;clear b7;apply zb;have I:ah (w2.ownsRow (U:Q) 9 1 (ai av O.length cv) O.length (O.map bz)):=zG a8 F2 (λ_ _=>id);have e2:ah (Fr (From (U:Q)) U w2):=HF.step F2 zn;have s2:=F2.size;cases hvb:virB ds x.index with
   | false=>
    have b8:=zh hvb;go_wp2;go_roundw;case rel=>exact⟨k+1,O,av,cv,by omega,rfl,by go_num,by show O=_;rw[HS.out,b8.out,<-HO.out];simp,by omega,I,e2⟩
    case measure=>simp[be];omega
   | true=>
    have b8:=zh hvb;have e4:=zBI o.1.wf.ok hn x.index;have e5:plc ds x.index=pathOf (origin ds x.index):=(by unfold plc;rw[o.1.wf.ok.lk a3];rfl);rw[e5]at e4;obtain⟨J,b9⟩:∃ J,J=pathOf (origin ds x.index):=⟨_,rfl⟩
    obtain⟨V,d0⟩:∃ V,V=ct x.index:=⟨_,rfl⟩
    have g7:=g3.out x a3;rw[<-d0]at g7;rw[<-b9]at e4;have Z:=zg2 b9 d0;have g8:(J++(⟨#[32]⟩:af)).size=J.size+1:=(by rw[ByteArray.size_append];rfl);have h1:(J++(⟨#[32]⟩:af)).size<=9223372036854775807:=(by omega);have h3:(J++(⟨#[32]⟩:af)++V).size<=9223372036854775807:=(by rw[ByteArray.size_append];omega);have h6:¬ 9223372036854775807<(J++(⟨#[32]⟩:af)).size+V.size:=(by omega);have h7:(J++(⟨#[32]⟩:af)).size+V.size<=9223372036854775807:=(by omega);have h8:¬ 9223372036854775807<J.size+1+V.size:=(by omega);clear g8 e5 b9 d0 hvb;go_upto_region 6 with(fail)
    refine zO (λb=>(ax av O.length cv).ownBlock=ab b) [(0,ak),(1,ak),(2,ak),(3,ak),(4,ak),(5,ak),(6,ak),(7,ak),(10,ak),(11,ak),(12,ak),(13,ak),(14,ak),(8,ar),(9,ak),(15,ar),(16,ak),(17,ar),(18,ar),(19,ak)] (by kernel_rfl) (by kernel_rfl) (λw3 a4=>?_);have no:∀ b,b<(U:Q)->¬ (ax av O.length cv).ownBlock=ab b:=λb h1 h2=>by have:=(zAF I h2).1;omega
    have b3:=a4.heap (F2.heap e1 id) id;have e3:=F2.step a4 zi;have t1:∀ g:Gr (λb=>(ax av O.length cv).ownBlock=ab b) w3,g.W.cell? ⟨w,0,ae⟩=ab (ai (ab ⟨bb,b5,ae⟩) ds.length y):=λg=>zB (g.fr.heap b3 (no _ s0)) 0
    have tc:∀ (g:Gr (λb=>(ax av O.length cv).ownBlock=ab b) w3) (i:Q) (u:br),wA.cell? ⟨bb,i,ae⟩=ab u->g.W.cell? ⟨bb,i,ae⟩=ab u:=λg i u h=>g.fr.cell (e3.cell h id) (no _ g5)
    have y0:=λg=>tc g _ _ o.2.2.c0
    have y1:=λg=>tc g _ _ o.2.2.c1
    have y2:=λg=>tc g _ _ o.2.2.c2
    have y3:=λg=>tc g _ _ o.2.2.c3
    have y4:=λg=>tc g _ _ o.2.2.c4
    have y5:=λg=>tc g _ _ o.2.2.c5
    have y6:=λg=>tc g _ _ o.2.2.c6
    have y7:=λg=>tc g _ _ o.2.2.c7
    have y8:=λg=>tc g _ _ o.2.2.c8
    have y9:=λg=>tc g _ _ o.2.2.c9
    have z:=zD2 a y ds x.index w3 (o.1.no e3).dv o.1.wf.ok (by omega);rw[e0,<-Z.1]at z;have E3:=zh e3;have F3:=zh a4;clear a4 e3 tc b3;(repeat(first|apply zR rfl rfl rfl|apply zT rfl rfl rfl);intro e8 hK;go_big_quiet_op;go_big_quiet_on);clear t1 y0 y1 y2 y3 y4 y5 y6 y7 y8 y9;apply zt rfl;go_wp2_with fail;apply z.mono;rintro e w4 ⟨rfl,a5⟩;have E4:=zh (E3.step a5 zi);have F4:=zh (F3.step a5 zi);have A:=zHR x V w4 (by rw[Z.2];exact(o.2.1 x a3).1.no E4 (λ_=>id)) (by rw[Z.2];exact(o.2.1 x a3).2);unfold Dev.vals at A;clear z;go_wp2_with fail;apply zm a5;clear a5;(repeat(first|apply zR rfl rfl rfl|apply zT rfl rfl rfl);intro e8 hK;go_big_quiet_op;go_big_quiet_on);apply zt rfl;go_wp2_with fail;apply A.mono;rintro e w5 ⟨rfl,a6⟩;have F5:=zh (F4.step a6 zi);have a9:=zG (zG I F4 (λ_ _=>id)) a6 (λ_ _=>id);have s5:=F5.size;clear A;go_wp2_with fail;apply zm a6;clear a6;(repeat(first|apply zR rfl rfl rfl|apply zT rfl rfl rfl);intro e8 hK;go_big_quiet_op;go_big_quiet_on);have e6:Fr No w5 (w5.alloc (aq #[ay (J++(⟨#[32]⟩:af)++V)] 9)):=(bh _ _).alloc _;have e7:=zh e6;apply zt rfl;go_wp2_with fail;apply zm e7;apply zt rfl;go_wp2_with (at_builtin;refine wpList_append_own _ rfl _ _ 30 rfl (U:Q) 9 i0 (ay ba) 1 16 Tryz.underlying30 e9 g0 g1 g2 rfl (by decide) _ _ _ rfl (a9.alloc _) ⟨w5,0,ae⟩ 1 1 [ay (J++(⟨#[32]⟩:af)++V)] rfl rfl (cell_one_new _ _ _) (zCZ [(J++(⟨#[32]⟩:af)++V)]) (by unfold bq;omega) (by omega) (by first|omega|(simp;done)|(simp;omega)) ?_;intro v' w9 F N _;obtain⟨g9,h0,rfl⟩:=zJ F)
    have d1:Fr (λb=>(ax av O.length cv).ownBlock=ab b) (w5.alloc (aq #[ay (J++(⟨#[32]⟩:af)++V)] 9)) w9:=ch N;have h4:ah (Fr (From (U:Q)) U w9):=(e2.step (F5.step e7 zi) zn).step d1 (λb hb h=>by have:=(zAF I h).1;omega);have d2:=zh F;apply zf d1;clear e6 F N d1 a9;(repeat(first|apply zR rfl rfl rfl|apply zT rfl rfl rfl);intro e8 hK;go_big_quiet_op;go_big_quiet_on);apply zb;go_wp2;go_roundw;case rel=>exact⟨k+1,O++[J++(⟨#[32]⟩:af)++V],g9,h0,by omega,by simp,by go_num,by show O++_=_;rw[HS.out,b8.out,<-HO.out,Z.1,Z.2];simp,by simp;omega,by rw[bu,dh];exact d2.out,h4⟩
    case measure=>simp[be];omega
  .obtain rfl:k=ds.length:=by omega
   have d7:¬ (ds.length:B)<ds.length:=(by omega);have hO:=HO.out;rw[List.take_length]at hO;subst hO;obtain⟨ra,rc,ee,hR,_⟩:=Strs.of_own a8;cases ee;have HR:=zg2 hR (d6.step HF (λb hb h=>by unfold From at h;have:=d6.size;omega));clear hR;go_wp2;go_ret;exact⟨⟨_,_,rfl,HR.1⟩,HR.2⟩
def sxT : af:=⟨#[116,97,98,108,101,58,116,40,114,97,105,100,58,114,58,49,47,49,47,49,40,102,115,58,120,58,41,41]⟩
def sxR : af:=⟨#[114,97,105,100,58,114,58,49,47,49,47,49,40,102,115,58,120,58,41]⟩
def sxX : af:=⟨#[102,115,58,120,58]⟩
def sxA : af:=⟨#[115,100,97]⟩
def sxB : af:=⟨#[115,100,97,112,49]⟩
def sxPA : af:=⟨#[47,115,100,97]⟩
def sxPB : af:=⟨#[47,115,100,97,47,115,100,97,112,49]⟩
def sxI : af:=⟨#[114]⟩
def sxM : af:=⟨#[109,100,45,114]⟩
def sxCR : Ct:=.mk 2 sxI () 1 1 1 [.mk 1 ⟨#[120]⟩ () 0 0 0 []]
def sxCT : Ct:=.mk 5 ⟨#[116]⟩ () 0 0 0 [sxCR]
theorem zNi: Lib.itoa 1=[49]:=by kernel_rfl
theorem sxPR: parseC sxR=ab sxCR:=(zBJ _ _).2 ⟨by decide,by decide,by rw[sxCR,zJL];simp[zKH,commas,sxR,sxI,zNi];rfl⟩
theorem sxPT: parseC sxT=ab sxCT:=(zBJ _ _).2 ⟨by decide,by decide,by rw[sxCT,zKG];simp[sxCR,zJL,zKH,commas,sxT,sxI,zNi];rfl⟩
theorem sx_x: sxCR.inner.map Ct.txt=[sxX]:=by simp[sxCR,Ct.inner,txt1,sxX];rfl
theorem zQH: sxCR.txt=sxR:=zDR (by rw[zCH];exact((zBJ _ _).1 sxPR).2.2)
theorem sx_r: sxCT.inner.map Ct.txt=[sxR]:=by simp[sxCT,Ct.inner,zQH]
def sxV (r:B):Vir:=⟨sxPA,sxB,sxR,r⟩
def sxW (r:B):Vir:=⟨(),sxM,sxX,r⟩
theorem zDb {L:ag Mem}(h:L.map Mem.k=[]):L=[]:=by simpa using h
theorem zIk {u:Mem->Bool}(h:IsIds2 (zl u []) o):o=[]:=by
 cases o with
 | nil=>rfl
 | cons x t=>
  obtain⟨s,v⟩:=(h.mem x).1 (by simp);cases v
theorem zLH (h:IsIds [] o):o=[]:=by
 cases o with
 | nil=>rfl
 | cons x t=>exact bg ((h.mem x).1 (by simp)) (by simp[best])
section
variable {ds:ag Dev}{tx:Dev->af}{E K:ag af}{r:B}{S:ag Src}{M M3:ag Vir}{G G2:ag (af×af)}
theorem zOu (h:MidR ds tx E K r S M G M3 G2)(A:S.filterMap (λs=>ofK 2 mk2 s.o s.r (tx s.d))=[])(F:S.filterMap (λs=>ofK 3 mk3 s.o s.r (tx s.d))=[]):M3=wantS tx S M r S.length/\G2=G:=by
 obtain⟨X,u,I,Y,Z,v,y,J,N,O,z,U,V⟩:=h;rw[A]at y;obtain rfl:=zDb y;obtain rfl:=zIk J;obtain rfl:I=[]:=by simpa using N
 rw[F]at z;obtain rfl:=zDb z;obtain rfl:=zLH U;injection O with b1 b2
 exact⟨by rw[V,b1];rfl,b2⟩
theorem zIV {A:ag Src}{u:ag Vir}{v:ag (af×af)}(h:NextR ds tx E K C r S M G A u v)(F:S.filterMap (λs=>ofK 4 mk4 s.o s.r (tx s.d))=[]):MidR ds tx E K r S M G u v:=by
 obtain⟨⟨V,X,Y,y,I,J,z,N,O,U⟩,-⟩:=h;rw[F]at z;obtain rfl:=zDb z;obtain rfl:=zIk N;obtain rfl:I=[]:=by simpa using O
 injection U with b1 b2
 rw[b1,b2];exact J
theorem zMY {L:ag Mem}{u:ag af}{O:ag ArrM}(Z:p.toList.isEmpty=ak)(I:L.map Mem.k=[mk2 p rd sxCR])(N:IsIds2 (zl soundA L) u)(v:O.map ArrM.toArr=u.map (buildA (zl soundA L))):
  ∃ o,O=[o]/\o.i=sxI/\o.t=1/\o.e=1/\o.n=1/\o.l=[sxX]:=by
 obtain⟨m,rfl⟩:∃ m,L=[m]:=by
  cases L with
  | nil=>simp at I
  | cons m t=>cases t with
   | nil=>exact⟨m,rfl⟩
   | cons m' t=>simp at I
 have y:m.k=mk2 p rd sxCR:=by simpa using I
 have U:m.p=p:=au Mem.p y;have k2:m.i=sxI:=au Mem.i y;have V:m.s=1:=au Mem.s y;have X:m.t=1:=au Mem.t y;have k5:m.e=1:=au Mem.e y;have Y:m.l=[sxX]:=(au Mem.l y).trans sx_x;have hs:soundA m=true:=by
  unfold soundA soundB;rw[U,V,X,Y,Z];decide
 have hb:zl soundA [m]=λx=>if x=(sxI,1)then ab m else none:=by
  show zAq soundA (λ_=>ae) m=_
  rw[zCS hs (λo h=>by cases h),k2,V]
 rw[hb]at N v;have z:u=[sxI]:=N.unique ⟨by unfold AscS;decide,λx=>⟨λh=>by
  obtain rfl:x=sxI:=by simpa using h
  exact⟨1,by rw[bd rfl];rfl⟩,λ⟨s,h⟩=>by
  split at h
  .rename_i e;simp at e;simp[e.1]
  .cases h⟩⟩
 rw[z]at v;have F:(λx:af×B=>if x=(sxI,1)then ab m else ae) (sxI,1)=ab m:=bd rfl;obtain⟨b,J⟩:∃ b:af×B->al Mem,b=λx=>if x=(sxI,1)then ab m else none:=⟨_,rfl⟩
 rw[<-J]at v F;have hl:zAX b sxI=1:=by unfold zAX;simp[dj,F]
 have hf:zAH b sxI=m:=by unfold zAH;rw[hl,F];rfl
 have hB:buildA b sxI=⟨sxI,[p],1,1,1,[sxX]⟩:=by
  unfold buildA;rw[hf,X,k5,Y];simp[pathAt,F,U,dj]
 simp only[cq,cr,hB]at v;cases O with
 | nil=>simp at v
 | cons o t=>
  cases t with
  | cons o' t=>simp at v
  | nil=>
   have A:o.toArr=⟨sxI,[p],1,1,1,[sxX]⟩:=(by simpa using v);exact⟨o,rfl,au Arr.i A,au Arr.t A,au Arr.e A,au Arr.n A,au Arr.l A⟩
theorem zK3 (U:p.toList.isEmpty=ak)(h:MidR ds tx E K r S M G M3 G2)(V:S.filterMap (λs=>ofK 2 mk2 s.o s.r (tx s.d))=[mk2 p rd sxCR])(X:S.filterMap (λs=>ofK 3 mk3 s.o s.r (tx s.d))=[]):
  (M3,G2)=(if (G.any λy=>decide (y=(mdK,sxI)))=ar then (wantS tx S M r S.length,G++[(mdK,sxI)])else (zAE (wantS tx S M r S.length) (sxW r),G++[(mdK,sxI)])):=by
 obtain⟨L2,z,O2,Y,L3,A,F,Z,o2,u,I,i3,a3⟩:=h;rw[V]at F;obtain⟨o,rfl,J,q2,q3,q4,q5⟩:=zMY U F Z o2;rw[X]at I;obtain rfl:=zDb I;obtain rfl:=zLH i3;have hv:mdOf o.i o.l r=sxW r:=by rw[J,q5];rfl
 have ha:arrAll ds E r (wantS tx S M r S.length,G) [o] [o].length=zAV ds E r (wantS tx S M r S.length,G) o:=rfl;rw[ha]at u;unfold zAV at u;have v:∀ N O,mustB o.t o.e o.n N O=true:=λN O=>by rw[q2,q3,q4];unfold mustB;simp
 rw[bd (v _ _),hv,J]at u;have:M3=Y:=by rw[a3];rfl
 rw[this];exact u
end
structure SxD (d0:Dev)(tx:Dev->af):Prop where
 h0:d0.orig=sxA
 hk:d0.kind=2
 ht:tx d0=sxT
 hp:d0.parent=0
 hi:d0.index=1
structure SxP (d1:Dev)(tx:Dev->af):Prop where
 g0:d1.orig=sxB
 gt:tx d1=sxR
 gp:d1.parent=1
 gi:d1.index=2
theorem zPi (D:SxD h tx)(r:B):pwL sxPA h (tx h) r=[sxV r]:=by
 have ⟨u,v,y,A,F⟩:=D;unfold pwL;rw[y,sxPT];show (if sxCT.kind=5/\h.kind=2 then pwF sxPA h.orig r (sxCT.inner.map Ct.txt) sxCT.inner.length else [])=_
 rw[bd ⟨rfl,v⟩,sx_r,u];have:sxCT.inner.length=0+1:=rfl;rw[this,zFb];have o:partOk sxA 1=true:=by kernel_rfl
 have z:partT sxA 1=sxB:=by kernel_rfl
 simp[pwF,zAj,o,z,sxV]
theorem zQI {v:Dev}(D:SxD v tx){k:B}(u:k≠5)(y:af->B->Ct->Mem)(p:af)(rd:B):ofK k y p rd (tx v)=none:=by
 have ⟨A,F,z,I,J⟩:=D;refine zIT (λc o=>?_);rw[z,sxPT]at o;injection o with o
 subst o;exact λh=>u h.symm
theorem sx_f {v:Dev}(D:SxD v tx){k:B}(h:k≠5)(u:af->B->Ct->Mem)(y:B)(p:af)(rd:B)(t:ag Src):(⟨y,v,p,rd⟩::t:ag Src).filterMap (λs=>ofK k u s.o s.r (tx s.d))=t.filterMap (λs=>ofK k u s.o s.r (tx s.d)):=by
 have ⟨z,A,F,I,J⟩:=D;rw[cn,zQI D h u p rd]
theorem zOL (D:SxD h tx)(M:ag Vir)(r:B):wantS tx [⟨0,h,sxPA,0⟩] M r [(⟨0,h,sxPA,0⟩:Src)].length=zAE M (sxV r):=by
 have ⟨o,u,v,y,z⟩:=D;show zr M (pwL sxPA h (tx h) r)=_
 rw[zPi D];rfl
theorem zH6 (D:SxD u tx){A:ag Src}{v:ag Vir}{y z:ag (af×af)}(h:NextR ds tx [] [] C r [⟨0,u,sxPA,0⟩] M y A v z):v=zAE M (sxV r)/\z=y:=by
 have ⟨N,O,U,V,X⟩:=D;have F:[(⟨0,u,sxPA,0⟩:Src)].filterMap (λs=>ofK 4 mk4 s.o s.r (tx s.d))=[]:=by rw[sx_f D (by decide)];rfl
 obtain⟨I,J⟩:=zOu (zIV h F) (by rw[sx_f D (by decide)];rfl) (by rw[sx_f D (by decide)];rfl);exact⟨by rw[I,zOL D],J⟩
theorem zQJ: inW [sxV 1] sxPA sxB=true:=by unfold inW sxV;simp
theorem zNg: zAE [] (sxV 1)=[sxV 1]:=by unfold zAE inW;simp
theorem zNf (r:B):zAE [sxV 1] (sxV r)=[sxV 1]:=by unfold zAE;rw[bd];exact zQJ
theorem zME (r:B):zAE [sxV 1,sxW 2] (sxV r)=[sxV 1,sxW 2]:=by unfold zAE;rw[bd];unfold inW sxV;simp
theorem zOO: zAE [sxV 1] (sxW 2)=[sxV 1,sxW 2]:=by
 unfold zAE;rw[bm];·rfl
 .unfold inW sxV sxW;simp[sxPA]
theorem zKL {a b:Src}{l:ag Src}(h:l.Perm [a,b])(A:l.Pairwise λx y=>x.at_<=y.at_)(F:a.at_<b.at_):l=[a,b]:=by
 have I:=h.length_eq
 match l,I with
 | [x,y],_=>
  have u:x∈[a,b]:=h.mem_iff.1 (by simp);have o:y∈[a,b]:=h.mem_iff.1 (by simp);have v:a∈[x,y]:=h.mem_iff.2 (by simp);have z:b∈[x,y]:=h.mem_iff.2 (by simp);have J:x.at_<=y.at_:=by simpa using A
  simp at u o v z;rcases u with rfl|rfl
  .rcases o with rfl|rfl
   .rcases z with rfl|rfl<;>omega
   .rfl
  .rcases o with rfl|rfl
   .omega
   .rcases v with rfl|rfl<;>omega
theorem zON (h:M.find? (λv=>decide ((v.q,v.o)=(plc ds s.d.parent,s.d.orig)))=ae):againB ds tx M r s=false:=by
 unfold againB;rw[h]
theorem zNh (D:SxD h tx)(ds:ag Dev)(u:∀ d∈ds,d.index≠0)(M:ag Vir)(y:∀ v∈M,v.o≠sxA)(r:B)(z:B)(p:af)(rd:B):againB ds tx M r ⟨z,h,p,rd⟩=false:=by
 have ⟨A,I,J,N,O⟩:=D;apply zON;rw[dd];intro v F;have:=y v F;rw[A];simp;exact λ_=>this
theorem zOP {o:Dev}(D:SxD o tx){F:ag Src}{u:ag Vir}{I:ag (af×af)}(J:M=[]/\r=1\/M=[sxV 1])(h:NextR [o] tx [] [] [⟨0,o,sxPA,0⟩] r [⟨0,o,sxPA,0⟩] M [] F u I):F=[⟨0,o,sxPA,0⟩]/\u=[sxV 1]/\I=[]:=by
 have ⟨U,V,X,Y,N⟩:=D;obtain⟨v,O⟩:=zH6 D h;have y:u=[sxV 1]:=by
  rcases J with⟨rfl,rfl⟩|rfl
  .rw[v,zNg]
  .rw[v,zNf]
 refine⟨?_,y,O⟩;have z:=h.2.1;have A:=zNh D [o] (by simp[N]) u (by rw[y];unfold sxV sxB sxA;simp) r 0 sxPA 0;have:moreS [o] tx u r [⟨0,o,sxPA,0⟩] [(⟨0,o,sxPA,0⟩:Src)].length=[]:=by
  unfold moreS;simp[A]
 rw[this,dc]at z;exact List.perm_singleton.1 z
theorem zOM {o:Dev}(D:SxD h tx)(P:SxP o tx):plc [h,o] o.parent=sxPA:=by
 have ⟨z,J,N,A,v⟩:=D;have ⟨O,U,F,I⟩:=P;have y:look [h,o] 1=ab h:=by unfold look;simp[v]
 have u:look [h,o] 0=none:=zu.2 (by simp[v,I]);unfold plc origin chain;rw[F,y];show pathOf ((chainK [h,o] (1+1) 1).map Dev.orig).reverse=sxPA
 unfold chainK;rw[y];show pathOf ((h::chainK [h,o] (0+1) h.parent).map Dev.orig).reverse=sxPA
 unfold chainK;rw[A,u];show pathOf [h.orig]=sxPA
 rw[z];kernel_rfl
theorem zMG (D:SxD u tx)(P:SxP h tx)(M:ag Vir)(r:B):againB [u,h] tx (sxV 1::M) r ⟨1,h,sxPB,0⟩=(1==r):=by
 have ⟨A,F,I,J,N⟩:=D;have ⟨y,z,O,U⟩:=P;have e:plc [u,h] (Src.d ⟨1,h,sxPB,0⟩).parent=sxPA:=zOM D P;unfold againB;have:(sxV 1::M).find? (λv=>decide ((v.q,v.o)=(plc [u,h] (Src.d ⟨1,h,sxPB,0⟩).parent,(Src.d ⟨1,h,sxPB,0⟩).orig)))=ab (sxV 1):=by
  rw[List.find?_cons_of_pos];rw[e];show decide ((sxPA,sxB)=(sxPA,h.orig))=ar
  rw[y];simp
 rw[this];show ((1==r)&&(sxR.toList==(tx h).toList))=_
 rw[z];simp
theorem zKM {y:Dev}(D:SxD y tx)(P:SxP u tx)(F:∀ v∈M,v.o≠sxA):moreS [y,u] tx (sxV 1::M) r [⟨0,y,sxPA,0⟩,⟨1,u,sxPB,0⟩] [(⟨0,y,sxPA,0⟩:Src),⟨1,u,sxPB,0⟩].length=if r=1 then [⟨1,u,sxPB,r⟩]else []:=by
 have ⟨O,U,V,X,I⟩:=D;have ⟨Y,Z,gp,J⟩:=P;have N:=zNh D [y,u] (by simp[I,J]) (sxV 1::M) (by
  intro v z;rcases List.mem_cons.1 z with rfl|z
  .show sxB≠sxA
   decide
  .exact F v z) r 0 sxPA 0
 have a1:=zMG D P M r;unfold moreS;show (([(⟨0,y,sxPA,0⟩:Src),⟨1,u,sxPB,0⟩]).filter _).map _=_
 rw[cp (by rw[N];simp)];by_cases A:r=1
 .subst A;rw[List.filter_cons_of_pos (by rw[a1];rfl),bd rfl];rfl
 .rw[cp (by rw[a1];simpa using λh=>A h.symm),bm A];rfl
theorem zMF {y:Dev}(D:SxD u tx)(P:SxP y tx){z:ag Src}{A:ag Vir}{F:ag (af×af)}(h:NextR [u,y] tx [] [] [⟨0,u,sxPA,0⟩,⟨1,y,sxPB,0⟩] 1 [⟨0,u,sxPA,0⟩] [] [] z A F):z=[⟨0,u,sxPA,0⟩,⟨1,y,sxPB,1⟩]/\A=[sxV 1]/\F=[]:=by
 have ⟨J,N,O,U,V⟩:=D;have ⟨X,Y,Z,gi⟩:=P;obtain⟨o,I⟩:=zH6 D h;rw[zNg]at o;refine⟨?_,o,I⟩;have v:=h.2.1;rw[o,zKM D P (by simp),bd rfl]at v;exact zKL v h.2.2 (by show (0:B)<1;omega)
theorem zH7 {F A:Dev}(D:SxD F tx)(P:SxP A tx){S':ag Src}{Z:ag Vir}{O G':ag (af×af)}(hr:(r=2/\M=[sxV 1]/\O=[])\/(3<=r/\M=[sxV 1,sxW 2]/\(O.any λy=>decide (y=(mdK,sxI)))=ar))(h:NextR [F,A] tx [] [] [⟨0,F,sxPA,0⟩,⟨1,A,sxPB,0⟩] r [⟨0,F,sxPA,0⟩,⟨1,A,sxPB,1⟩] M O S' Z G'):
  S'=[⟨0,F,sxPA,0⟩,⟨1,A,sxPB,1⟩]/\Z=[sxV 1,sxW 2]/\G'=O++[(mdK,sxI)]:=by
 have ⟨h0,hk,ht,hp,hi⟩:=D;have ⟨g0,gt,gp,gi⟩:=P;have I:∀ (k:B) (J:af->B->Ct->Mem),[(⟨0,F,sxPA,0⟩:Src),⟨1,A,sxPB,1⟩].filterMap (λs=>ofK k J s.o s.r (tx s.d))=if k=2 then [J sxPB 1 sxCR]else if k=5 then [J sxPA 0 sxCT]else []:=by
  intro k J;have e0:ofK k J sxPA 0 (tx F)=if k=5 then ab (J sxPA 0 sxCT)else none:=by
   unfold ofK;rw[ht,sxPT];show (if (5:B)=k then ab (J sxPA 0 sxCT)else ae)=_
   by_cases u:k=5;·rw[bd u.symm,bd u]
   .rw[bm (λh=>u h.symm),bm u]
  have e1:ofK k J sxPB 1 (tx A)=if k=2 then ab (J sxPB 1 sxCR)else none:=by
   unfold ofK;rw[gt,sxPR];show (if (2:B)=k then ab (J sxPB 1 sxCR)else ae)=_
   by_cases u:k=2;·rw[bd u.symm,bd u]
   .rw[bm (λh=>u h.symm),bm u]
  rw[cn,e0,cn,e1];by_cases U:k=2;·subst U;rfl
  .by_cases u:k=5;·subst u;rfl
   .simp[U,u]
 have V:=zIV h (by rw[I];rfl);have z:=zK3 (p:=sxPB) (rd:=1) (by simp[ByteArray.toList_eq,sxPB]) V (by rw[I];rfl) (by rw[I];rfl);have hw:wantS tx [(⟨0,F,sxPA,0⟩:Src),⟨1,A,sxPB,1⟩] M r [(⟨0,F,sxPA,0⟩:Src),⟨1,A,sxPB,1⟩].length=zAE M (sxV r):=by
  show zr (zr M (pwL sxPA F (tx F) r)) (pwL sxPB A (tx A) r)=_
  rw[zPi D,zNk (s:=tx A) (λc Y=>by
   rw[gt,sxPR]at Y;injection Y with Y
   subst Y;decide)]
  rfl
 rw[hw]at z;have N:Z=[sxV 1,sxW 2]/\G'=O++[(mdK,sxI)]:=by
  rcases hr with⟨rfl,rfl,rfl⟩|⟨-,rfl,hg⟩
  .rw[bm (by simp),zNf,zOO]at z;injection z with b1 b2
   exact⟨b1,b2⟩
  .rw[bd hg,zME]at z;injection z with b1 b2
   exact⟨b1,b2⟩
 refine⟨?_,N.1,N.2⟩;have X:=h.2.1;have a2:r≠1:=by rcases hr with⟨h,_⟩|⟨h,_⟩<;>omega
 rw[N.1,zKM D P (by intro v hv;simp at hv;subst hv;show sxM≠sxA;decide),bm a2,dc]at X;exact zKL X h.2.2 (by show (0:B)<1;omega)
def D0 (aa:al ap)(an ac:Q):Dev:=⟨1,0,sxA,sxA,zU,(),(),2,1,aa,an,ac⟩
def D1 (aa:al ap)(an ac:Q):Dev:=⟨2,1,sxB,sxB,zU,(),(),2,1048576,aa,an,ac⟩
def sxL0 : Rec:={ cx with path:=sxPA,index:=1 }
def sxL1 : Rec:={ cx with path:=sxPB,index:=2 }
def ct1 : B->af:=updC (λ_=>()) 1 sxT
def ct2 : B->af:=updC ct1 2 sxR
section
variable (a0 a1:al ap)(n0 c0 n1 c1:Q)
theorem vir0: virB [D0 a0 n0 c0] 1=false:=by kernel_rfl
theorem zQG: virB [D0 a0 n0 c0,D1 a1 n1 c1] 1=false:=by kernel_rfl
theorem vir1: virB [D0 a0 n0 c0,D1 a1 n1 c1] 2=true:=by kernel_rfl
theorem zQM: plc [D0 a0 n0 c0] 1=sxPA:=by kernel_rfl
theorem zQL: plc [D0 a0 n0 c0,D1 a1 n1 c1] 1=sxPA:=by kernel_rfl
theorem zQK: plc [D0 a0 n0 c0,D1 a1 n1 c1] 2=sxPB:=by kernel_rfl
theorem zPM: cntL [D0 a0 n0 c0] [sxL0] 0 [D0 a0 n0 c0]=[⟨0,D0 a0 n0 c0,sxPA,0⟩]:=by
 have h:cntB [D0 a0 n0 c0] [sxL0] 1=true:=by kernel_rfl
 have e:=zBs [D0 a0 n0 c0] [sxL0] [] 0 (D0 a0 n0 c0);rw[show (D0 a0 n0 c0).index=1 from rfl,h,zQM]at e;exact e
theorem zPL: cntL [D0 a0 n0 c0,D1 a1 n1 c1] [sxL0,sxL1] 0 [D0 a0 n0 c0,D1 a1 n1 c1]=[⟨0,D0 a0 n0 c0,sxPA,0⟩,⟨1,D1 a1 n1 c1,sxPB,0⟩]:=by
 have u:cntB [D0 a0 n0 c0,D1 a1 n1 c1] [sxL0,sxL1] 1=true:=by kernel_rfl
 have v:cntB [D0 a0 n0 c0,D1 a1 n1 c1] [sxL0,sxL1] 2=true:=by kernel_rfl
 have o:=zBs [D0 a0 n0 c0,D1 a1 n1 c1] [sxL0,sxL1] [] 0 (D0 a0 n0 c0);rw[show (D0 a0 n0 c0).index=1 from rfl,u,zQL]at o;have h:=zBs [D0 a0 n0 c0,D1 a1 n1 c1] [sxL0,sxL1] [D0 a0 n0 c0] 0 (D1 a1 n1 c1);rw[show (D1 a1 n1 c1).index=2 from rfl,v,zQK]at h;have y:([D0 a0 n0 c0]:ag Dev)=[]++[D0 a0 n0 c0]:=rfl;rw[y,o]at h;exact h
theorem src0: (cntL [D0 a0 n0 c0] [sxL0] 0 [D0 a0 n0 c0]).filter (λs=>!virB [D0 a0 n0 c0] s.d.index)=[⟨0,D0 a0 n0 c0,sxPA,0⟩]:=by
 rw[zPM];have h:virB [D0 a0 n0 c0] (D0 a0 n0 c0).index=false:=vir0 a0 n0 c0;simp[h]
theorem src1: (cntL [D0 a0 n0 c0,D1 a1 n1 c1] [sxL0,sxL1] 0 [D0 a0 n0 c0,D1 a1 n1 c1]).filter (λs=>!virB [D0 a0 n0 c0,D1 a1 n1 c1] s.d.index)=[⟨0,D0 a0 n0 c0,sxPA,0⟩]:=by
 rw[zPL];have h:virB [D0 a0 n0 c0,D1 a1 n1 c1] (D0 a0 n0 c0).index=false:=zQG a0 a1 n0 c0 n1 c1;have o:virB [D0 a0 n0 c0,D1 a1 n1 c1] (D1 a1 n1 c1).index=true:=vir1 a0 a1 n0 c0 n1 c1;simp[h,o]
end
def sxI0 (d:Dev)(r:B)(S:ag Src)(M:ag Vir)(G:ag (af×af)):Prop:=
 S=[⟨0,d,sxPA,0⟩]/\G=[]/\((r=1/\M=[])\/M=[sxV 1])
def sxI1 (d e:Dev)(r:B)(S:ag Src)(M:ag Vir)(G:ag (af×af)):Prop:=
 (r=1/\S=[⟨0,d,sxPA,0⟩]/\M=[]/\G=[])\/
 (r=2/\S=[⟨0,d,sxPA,0⟩,⟨1,e,sxPB,1⟩]/\M=[sxV 1]/\G=[])\/
 (r=3/\S=[⟨0,d,sxPA,0⟩,⟨1,e,sxPB,1⟩]/\M=[sxV 1,sxW 2]/\G=[(mdK,sxI)])
section
variable {d e:Dev}{tx:Dev->af}{r:B}{S S':ag Src}{M M':ag Vir}{G G':ag (af×af)}
theorem zGN (D:SxD d tx)(h:sxI0 d r S M G)(o:NextR [d] tx [] [] [⟨0,d,sxPA,0⟩] r S M G S' M' G'):S'=[⟨0,d,sxPA,0⟩]/\M'=[sxV 1]/\G'=[]:=by
 obtain⟨rfl,rfl,u⟩:=h;exact zOP D (u.imp (λh=>⟨h.2,h.1⟩) id) o
theorem zGM (D:SxD d tx)(P:SxP e tx)(h:sxI1 d e r S M G)(y:NextR [d,e] tx [] [] [⟨0,d,sxPA,0⟩,⟨1,e,sxPB,0⟩] r S M G S' M' G'):(M.length<M'.length->sxI1 d e (r+1) S' M' G')/\(¬ M.length<M'.length->M'=[sxV 1,sxW 2]):=by
 rcases h with⟨rfl,rfl,rfl,rfl⟩|⟨rfl,rfl,rfl,rfl⟩|⟨rfl,rfl,rfl,rfl⟩
 .obtain⟨u,o,v⟩:=zMF D P y;exact⟨λ_=>.inr (.inl ⟨rfl,u,o,v⟩),λh=>bg (by rw[o];simp) h⟩
 .obtain⟨u,o,v⟩:=zH7 D P (.inl ⟨rfl,rfl,rfl⟩) y;exact⟨λ_=>.inr (.inr ⟨rfl,u,o,v⟩),λ_=>o⟩
 .obtain⟨u,o,v⟩:=zH7 D P (.inr ⟨by omega,rfl,by simp⟩) y;exact⟨λh=>bg h (by rw[o];simp),λ_=>o⟩
theorem zMM (h:s∈[(⟨0,d,sxPA,0⟩:Src),⟨1,e,sxPB,1⟩]):(s.d=d\/s.d=e)/\s.o.size<=1000000:=by
 rcases List.mem_cons.1 h with rfl|h
 .exact⟨.inl rfl,by show sxPA.size<=_;decide⟩
 .obtain rfl:s=⟨1,e,sxPB,1⟩:=by simpa using h
  exact⟨.inr rfl,by show sxPB.size<=_;decide⟩
theorem zOR (h:sxI0 d r S M G):SmR [d] r S M G:=by
 obtain⟨rfl,rfl,o⟩:=h;refine⟨λs u=>?_,by simp,?_,by simp⟩
 .obtain rfl:s=⟨0,d,sxPA,0⟩:=by simpa using u
  exact⟨by simp,by show sxPA.size<=_;decide⟩
 .rcases o with⟨_,rfl⟩|rfl<;>simp
theorem zOQ (h:sxI1 d e r S M G):SmR [d,e] r S M G:=by
 rcases h with⟨rfl,rfl,rfl,rfl⟩|⟨rfl,rfl,rfl,rfl⟩|⟨rfl,rfl,rfl,rfl⟩
 all_goals
  refine⟨λs o=>?_,by simp,by simp,by simp⟩;have h:=zMM (d:=d) (e:=e) (s:=s) (by first|exact o|(simp at o;simp[o]));exact⟨by simpa using h.1,h.2⟩
end
theorem zDs {x:Dev}(h:strip x=strip d):x={ d with aa:=x.aa,an:=x.an,ac:=x.ac }:=by
 obtain⟨z,A,F,I,J,N,O,U,V,X,o,u⟩:=x;obtain⟨Y,Z,d2,d3,d4,d5,d6,d7,d8,d9,v,y⟩:=d;simp only[strip,Dev.mk.injEq]at h ⊢;simp[h]
theorem zH8 (h:ds.map strip=[strip d]):∃ aa an ac,ds=[{ d with aa:=aa,an:=an,ac:=ac }]:=by
 have o:=au bo h;rw[bx]at o
 match ds,o with
 | [x],_=>
  simp only[cq,cr]at h;injection h with h _
  exact⟨_,_,_,by rw[<-zDs h]⟩
theorem zMJ {e:Dev}(h:ds.map strip=[strip d,strip e]):∃ aa an ac u v z,ds=[{ d with aa:=aa,an:=an,ac:=ac },{ e with aa:=u,an:=v,ac:=z }]:=by
 have o:=au bo h;rw[bx]at o
 match ds,o with
 | [x,y],_=>
  simp only[cq,cr]at h;injection h with h1 h2
  injection h2 with h2 _
  exact⟨_,_,_,_,_,_,by rw[<-zDs h1,<-zDs h2]⟩
theorem zFR: InU sxT:=.inr (.inr ⟨taC ⟨#[116]⟩ [rX1],bi (i:=29) rfl,zAL.1 (by kernel_rfl)⟩)
theorem zHG: InU sxR:=.inr (.inr ⟨rX1,bi (i:=28) rfl,zAL.1 (by kernel_rfl)⟩)
theorem zGL: NoTab sxR:=λc h=>by rw[sxPR]at h;cases h;decide
theorem zFS: sxA∈rootN:=bi (i:=10) rfl
theorem zKO: sxB∈parN sxA:=bi (i:=0) (by kernel_rfl)
theorem zKN: sxPA=pathOf [sxA]:=zAL.1 (by kernel_rfl)
theorem zNe (w:ao):∀ r∈[sxL0,sxL1],RecOk w r:=λr h=>by
 rcases List.mem_cons.1 h with rfl|h
 .exact⟨Atts.nil w,bw w⟩
 .obtain rfl:r=sxL1:=by simpa using h
  exact⟨Atts.nil w,bw w⟩
theorem zPh (o:al ap)(u y:Q):MustOk [D0 o u y] [sxV 1]:=by
 refine⟨λv z=>?_,by unfold DistP;simp,λv z _=>?_⟩
 .obtain rfl:v=sxV 1:=by simpa using z
  exact⟨zHG,.inr ⟨sxA,zFS,zKN,zKO,zGL⟩,by kernel_rfl⟩
 .obtain rfl:v=sxV 1:=by simpa using z
  refine⟨D0 o u y,by simp,rfl,zKN,λh=>?_⟩;rw[show (D0 o u y).index=1 from rfl,vir0]at h;cases h
def sxQ (j:Q)(L:ag Dev)(ops:ag OpA):Prop:=(j=0->L=[D0 ae 0 0]/\ops=[])/\(j=1->∃ aa,ops=[⟨1,sxPA,opG sxB 1048576 sxR aa,(),(),sxR⟩])
theorem zMH (o:al ap)(u v:Q)(ct:B->af):sxQ 0 (remF [sxV 1] [D0 o u v] (revR [D0 o u v])).1 (setF [sxV 1] (remF [sxV 1] [D0 o u v] (revR [D0 o u v])).1 ct (remF [sxV 1] [D0 o u v] (revR [D0 o u v])).2 (remF [sxV 1] [D0 o u v] (revR [D0 o u v])).1.length).2:=by
 have h:=zGa (M:=[sxV 1]) (ds:=[D0 o u v]) (λd y h=>by
  obtain rfl:d=D0 o u v:=by simpa using y
  rw[show (D0 o u v).index=1 from rfl,vir0]at h;cases h) (pre:=revR [D0 o u v]) (λx A=>zB1 A)
 rw[h];have F:=zGV (M:=[sxV 1]) (L:=[D0 o u v].map strip) (ct:=ct) (λd y h=>by
  obtain rfl:d=D0 ae 0 0:=by simpa [strip,D0]using y
  have z:virB [D0 ae 0 0] 1=true:=h;rw[vir0]at z;cases z) [] ([D0 o u v].map strip).length
 dsimp only;rw[F];exact⟨λ_=>⟨rfl,rfl⟩,λh=>by cases h⟩
theorem zMI {v:Vir}{y:ag OpA}{J:ag Dev}{u:ag OpA}(N:[sxV 1][j]?=ab v)(h:sxQ j L y)(U:zBv L ct y v J A u):sxQ (j+1) J u:=by
 have F:j=0:=by have:=(List.getElem?_eq_some_iff.1 N).1;simp at this;exact this
 subst F;obtain rfl:sxV 1=v:=by simpa using N
 obtain⟨rfl,rfl⟩:=h.1 rfl;refine⟨(λh=>by cases h),λ_=>?_⟩;have I:[D0 ae 0 0].find? (atP [D0 ae 0 0] ((sxV 1).q++(⟨#[47]⟩:af)++(sxV 1).o))=none:=by kernel_rfl
 rcases U with⟨⟨Z,z⟩,_⟩|⟨_,k,V,p,X,hu,hp,_,_,rfl⟩
 .rw[I]at z;cases z
 .obtain rfl:k=0:=by
   cases k with
   | zero=>rfl
   | succ k=>
    have O:=X.2 0 (by omega);have Y:usedF [D0 ae 0 0] (1048576+((0:Q):B))=false:=(by kernel_rfl);rw[Y]at O;cases O
  exact⟨V,rfl⟩
theorem zO0 (w:ao)(hE:Env w):az aw 16 #[] w λe w'=>e=.returned (.bool ar)/\Fr No w w':=by
 have h9:=hE.sz;have HE:=zh hE;clear hE;go_enter Tryz.func16,Tryz.ntmps16;go_wp2_with fail;apply (zO2 w).mono;rintro e w1 ⟨rfl,Z⟩;have e3:ah (KA w1 (w:Q) ((w:Q)+1) [] (λ_=>()) 0 0):=⟨ae,0,[],ae,0,0,by rw[Z];exact cl w _,rfl,(λd hd=>by simp at hd),by omega⟩
 have k4:ah (Fr No w w1):=by unfold ah;rw[Z];exact(bh _ _).alloc _
 have s1:(w1:Q)=(w:Q)+1:=by rw[Z];simp
 obtain⟨o,d3⟩:∃ o,o=(w:Q):=⟨_,rfl⟩
 rw[<-d3]at e3 ⊢;have h8:8<o:=by omega
 have p0:o+1<=(w1:Q):=by omega
 have k5:=zh d3;clear Z d3 s1;have e4:=zHe sxA sxT 1 w1 zFR;go_wp2_with fail;apply e4.mono;rintro e w2 ⟨⟨aa,ac,rfl,e5,_⟩,a2⟩;have e6:=zh (k4.step a2 zi);have s2:=a2.size;have A:=zLB o (o+1) 0 [] (λ_=>()) 0 0 () () () sxT ⟨0,0,(),sxA,zU,(),(),2,1,aa,(cAtt sxT).length,ac⟩ w2 (e3.no (by omega) a2) (cz _ _) (HE.no e6.out) h8 (by omega) (by omega) (by omega) e5 rfl ⟨rfl,rfl,rfl,by show (1:B)<=1;decide,by show (1:B)<=2000000;decide⟩ (.inl ⟨rfl,rfl,rfl⟩) (.inl ⟨rfl,zFS⟩) zFR (λh=>bg rfl h) (by simp);clear e4 e5 a2;unfold ocs at A;go_wp2_with fail;apply A.mono;rintro e N ⟨rfl,e7,e8,d4,_⟩;have k6:ah (KA N o (o+1) [D0 ae 0 0] ct1 1 1):=e7;have e9:ah (UOk [D0 ae 0 0] ct1 1):=e8;have s3:=bn d4;have k7:ah (Fr (From o) w N):=(e6.mono zn).step (EvF.from d4 (by omega) (by omega)) zi;clear A e7 e8 d4;obtain⟨W4,a3,f4,b4⟩:=zy N (aq sxL0.vals 81);unfold sxL0 cc cx sxPA at a3;simp only[List.length_nil]at a3;go_upto_region 8 with(fail)
 rw[<-a3];clear a3;have O:W4.ownsRow (o+1) 81 12 (ai (ab ⟨N,0,ae⟩) 1 1) [sxL0].length (rflat [sxL0]):=⟨rfl,.inr ⟨(N:Q),1,_,rfl,by omega,b4,bp _,by decide,rfl,rfl⟩⟩
 have k8:=zh O;have k9:ah (Fr (From o) w W4):=k7.step f4 zn;have a4:ah (KA W4 o (o+1) [D0 ae 0 0] ct1 1 1):=k6.no (by omega) f4;have g0:ah (∀ W,Fr No W4 W->Recs W (ab ⟨N,0,ae⟩) 1 [sxL0]):=λW hW=>by
  obtain⟨x,y,hv,hr,_⟩:=dm (zG O hW (λ_ _=>id)) (λr hr=>zNe W r (by simp at hr;simp[hr]));cases hv;exact hr
 have F:=zDB o (o+1) 1 [D0 ae 0 0] ct1 1 W4 a4.out (by simp);have s4:=zC b4;clear O f4 b4;go_wp2_with fail;apply F.mono;rintro e w5 ⟨⟨a5,c5,p1,rfl,g4,_,g5,b6⟩,a6⟩;obtain⟨x5,n5,y5,rfl⟩:=zH8 (d:=D0 ae 0 0) b6;have g6:ah (Fr (From o) w w5):=k9.step a6 zn;have z:=zHv a5 (ab ⟨N,0,ae⟩) ae ae c5 1 0 0 (W4:Q) 0 [D0 x5 n5 y5] [sxL0] (λd=>ct1 d.index) [] [] w5 g4 (by simp) (g0.out w5 a6) (HE.from h8 g6.out) (bw _) (bw _) (by simp) (by simp) (g5.txs (λd hd=>by
  obtain rfl:d=D0 x5 n5 y5:=List.mem_singleton.1 hd;exact zFR)) (sxI0 (D0 x5 n5 y5))
  (λr S M l0 S' M' G' h1 h2 h3=>by
   rw[zPM]at h2;obtain⟨g1,g2,g3⟩:=zGN ⟨rfl,rfl,rfl,rfl,rfl⟩ h1 h2;exact⟨g1,g3,.inr g2⟩) (λr S M l0 h=>zOR h) ⟨src0 x5 n5 y5,rfl,.inl ⟨rfl,rfl⟩⟩
 have b7:=zh a6;clear F g4 g5 b6 a6;go_wp2_with fail;apply z.mono;rintro e w6 ⟨⟨ma,mc,r6,S6,M6,G6,p2,p3,p4,rfl,g7,_,g8,d5,_⟩,a8⟩;rw[zPM]at d5;obtain⟨-,rfl,-⟩:=zGN ⟨rfl,rfl,rfl,rfl,rfl⟩ g8 d5;have l1:=zh g7;have b8:=zh (b7.step a8 zi);have l2:ah (Fr (From o) w w6):=g6.step a8 zn;have s6:=a8.size;have s5:=b7.size;clear z g7 g8 d5 a8;have F:=zDB o (o+1) 1 [D0 ae 0 0] ct1 1 w6 (a4.no (by omega) b8.out) (by simp);go_wp2_with fail;apply F.mono;rintro e w7 ⟨⟨a7,c7,p5,rfl,g9,b9,h0,d0⟩,U⟩;obtain⟨x7,n7,y7,rfl⟩:=zH8 (d:=D0 ae 0 0) d0;have h4:ah (Fr (From o) w w7):=l2.step U zn;have h5:=zh (b8.step U zi);have h6:=zh (l1.no U (λ_=>id));have s7:=U.size;have V:=zNd (w6:Q) a7 c7 [D0 x7 n7 y7] ct1 [sxV 1] ma mc 1 w7 g9 e9 (zPh x7 n7 y7) (by decide) (HE.from h8 h4) b9 h0 h6 (by omega) sxQ (zMH x7 n7 y7 ct1) (λj v L ct l3 L' p6 n4 hj h hs=>zMI hj h hs);clear F g9 b9 h0 d0 U;go_wp2_with fail;apply V.mono;rintro e w8 ⟨⟨l3,av,cv,_,_,_,_,_,_,_,_,⟨_,_,hQ⟩,rfl,h7,i3⟩,X⟩;obtain⟨a9,rfl⟩:=hQ rfl;have i4:ah (Fr (From o) w w8):=h4.step X zn;have Y:=zh (h5.step X zi);obtain⟨i5,_⟩:=i3 _ (List.mem_singleton.2 rfl);obtain⟨g,p7,rfl,⟨o0,o1,o2,o3,o4,o5,o6,o7,o8,o9,b0,b1,d6,d7⟩⟩:=zMm (j:=0) h7 rfl rfl;obtain⟨mb,n6,u,rfl,i6,⟨m0,m1,m2,m3⟩,p8⟩:=(h6.no X (λ_=>id)).elem (k:=0) (by simp);obtain rfl:u=sxV 1:=by simpa using i6.symm
 simp only[Nat.zero_mul,Nat.add_zero]at m0 m1 m2 m3 o0 o1 o2 o3 o4 o5 o6 o7 o8 o9 b0 b1 d6 d7;unfold sxV sxB at m1;dsimp only at m1;have l4:=zh i5;have s8:=X.size;unfold sxPA at o1;unfold opG at o2 o3 o4 o5 o6 o7 o8 o9 b0 b1;dsimp only at o2 o3 o4 o5 o6 o7 o8 o9 b0 b1 o0 o1 d6 d7;clear V h7 i3 X i6 m0 m2 m3 i5 hQ;go_upto_region 12 with(fail)
 clear m1;have eL:insAt [D0 ae 0 0] (insK [D0 ae 0 0] (addD (opG sxB 1048576 sxR a9) 1 1)) (strip (addD (opG sxB 1048576 sxR a9) 1 1))=[D0 ae 0 0,D1 ae 0 0]:=by kernel_rfl
 have A:=(zLB o (o+1) 1 [D0 ae 0 0] ct1 1 1 sxPA () () sxR (opG sxB 1048576 sxR a9) w8 (a4.no (by omega) Y.out) e9.out (HE.from h8 i4.out) h8 (by omega) (by omega) (by omega) l4.out rfl ⟨rfl,rfl,rfl,by show (1:B)<=1048576;decide,by show (1048576:B)<=2000000;decide⟩ (.inr ⟨D0 ae 0 0,by kernel_rfl,rfl⟩) (.inr ⟨D0 ae 0 0,by simp,rfl,rfl,zFS,zKO⟩) zHG (λ_=>zGL) (λe he=>by
  obtain rfl:e=D0 ae 0 0:=List.mem_singleton.1 he;exact⟨by show sxA≠sxB;decide,by show (1:B)≠1048576;decide⟩)).mono (λe w' h=>(⟨h.1,by have:=h.2.1;rw[eL]at this;exact this,h.2.2.2.1⟩:e=.returned (.tuple #[am aj 2,am aj 0])/\KA w' o (o+1) [D0 ae 0 0,D1 ae 0 0] ct2 2 2/\EvF o (o+1) w8 w'))
 unfold sxPA opG ocs at A;dsimp only at A;clear eL;go_wp2_with fail;apply A.mono;rintro e w9 ⟨rfl,i7,b2⟩;have l5:=zh i7;have l6:ah (Fr (From o) w w9):=i4.step (EvF.from (tb:=o) b2 (by omega) (by omega)) zi;obtain⟨n8,i8⟩:=(a4.no (by omega) Y).blk;have l7:ah (w9.ownsRow (o+1) 81 12 (ai (ab ⟨N,0,ae⟩) 1 1) [sxL0].length (rflat [sxL0])):=ce b2 (zG k8 Y (λ_ _=>id)) i8 (by decide) (by decide);have s9:=bn b2;clear A i7 b2 i8 o0 o1 o2 o3 o4 o5 o6 o7 o8 o9 b0 b1 d6 d7;have F:=zDB o (o+1) 2 [D0 ae 0 0,D1 ae 0 0] ct2 2 w9 l5.out (by simp);go_wp2_with fail;apply F.mono;rintro e wA ⟨⟨aA,cA,p9,rfl,i9,_,j0,d1⟩,b3⟩;obtain⟨xA,nA,yA,zA,kA,uA,rfl⟩:=zMJ (d:=D0 ae 0 0) (e:=D1 ae 0 0) d1;have d8:=zg2 i9 j0;have l8:ah (Fr (From o) w wA):=l6.step b3 zn;have l9:=zh (zG l7 b3 (λ_ _=>id));have sA:=b3.size;clear F i9 j0 d1 b3;obtain⟨i0,m4,m5,m6,m7⟩:=da infoR;have m8:wA.ownsRow (o+1) 81 12 (ai (ab ⟨N,0,ae⟩) 1 1) 1 (rflat [sxL0]):=l9.out;have r0:(N:Q)<(w9:Q):=by omega
 go_wp2_with (at_builtin;refine dz _ rfl _ _ 77 rfl (o+1) 81 i0 (bf #[ay ba,am aj 0,ai ae 0 0,ai ae 0 0,ai ae 0 0,ai ae 0 0,ai ae 0 0,ay ba,am aj 0,ay ba,ay ba,am aj 0]) 12 208 Tryz.underlying77 m4 m5 m6 m7 rfl (by decide) _ _ _ rfl (m8.alloc _) ⟨wA,0,ae⟩ 1 1 (cc sxL1).toList rfl rfl (ze _ (cc sxL1) _ rfl) (zGW _) (by decide) (by decide) (by rw[dw];omega) ?_;intro v' wB I J _ j1;obtain⟨d9,e0,rfl⟩:=zJ I)
 have j2:Fr No wA (wA.alloc (aq (cc sxL1) 81)):=(bh _ _).alloc _;have b5:Fr (Is (N:Q)) wA wB:=(j2.mono zn).step (ch J) (λb _ h=>by injection h with h;exact h.symm);have j3:ah (Fr (From o) w wB):=l8.step b5 (λb hb h=>by omega);have e1:∀ b,(w9:Q)<=b->¬ Is (N:Q) b:=λb hb h=>by omega
 have j4:Tr wB (w9:Q) aA cA [D0 xA nA yA,D1 zA kA uA]:=d8.1.fr b5 e1;have j5:CtO wB [D0 xA nA yA,D1 zA kA uA] ct2:=cd d8.2 b5 (λd hd ad e=>e1 _ ((d8.1.el d hd).fresh ad e));have j6:Recs wB d9 e0 [sxL0,sxL1]:=by
  obtain⟨x,y,hv,hr,_⟩:=dm (l:=[sxL0,sxL1]) (v:=ai d9 2 e0) I (zNe wB);cases hv;exact hr
 have z:=zHv aA d9 ae ae cA e0 0 0 (w9:Q) 0 [D0 xA nA yA,D1 zA kA uA] [sxL0,sxL1] (λd=>ct2 d.index) [] [] wB j4 (by simp) j6 (HE.from h8 j3.out) (bw _) (bw _) (by simp) (by simp) (j5.txs (λd hd=>by
  rcases List.mem_cons.1 hd with rfl|hd
  .exact zFR
  .obtain rfl:=List.mem_singleton.1 hd;exact zHG)) (sxI1 (D0 xA nA yA) (D1 zA kA uA))
  (λr S M l0 S' M' G' h1 h2 h3=>by
   rw[zPL]at h2;exact(zGM ⟨rfl,rfl,rfl,rfl,rfl⟩ ⟨rfl,rfl,rfl,rfl⟩ h1 h2).1 h3) (λr S M l0 h=>zOQ h) (.inl ⟨rfl,src1 xA zA nA yA kA uA,rfl,rfl⟩)
 clear I J j1 j2 b5 e1 j4 j5 j6;apply z.mono;rintro e wC ⟨⟨mC,cC,rC,SC,MC,GC,r1,r2,r3,rfl,j7,j8,j9,e2,d2⟩,k0⟩;rw[zPL]at e2;obtain rfl:=(zGM ⟨rfl,rfl,rfl,rfl,rfl⟩ ⟨rfl,rfl,rfl,rfl⟩ j9 e2).2 d2;have m9:ah (Fr No w wC):=(j3.step k0 zn).mono (λb hb h=>by unfold From at h;have:=k5.out;omega);obtain⟨r4,n3,u2,rfl,k3,⟨m0,m1,m2,m3⟩,n9⟩:=j7.elem (k:=1) (by simp);obtain rfl:u2=sxW 2:=by simpa using k3.symm
 unfold sxW sxM sxX at m0 m1 m2 m3;simp only[Nat.one_mul]at m0 m1 m2 m3;clear z j7 j8 j9 e2 d2 k0 k3;go_wp2;go_ret;exact⟨by simp,m9.out⟩
theorem zMS (l:ag af):sameT l l=true:=by unfold sameT;simp
theorem zMs (w:ao):az aw 5 #[] w λe w'=>(∃ u v z A y E,y=keysE/\E=expE/\e=.returned (.tuple #[bf #[ai u (bo y) z,am aj 0],ai v (bo E) A])/\Strs w' u z y/\Strs w' v A E/\BlkT w' u 9/\BlkT w' v 9/\(∀ o,u=ab o->(w:Q)<=o.block)/\∀ o,v=ab o->(w:Q)<=o.block)/\Fr No w w':=
 (zOx w).mono λe w' h=>by
  obtain⟨⟨k,x,rfl,F,I,J,N,O,U⟩,V⟩:=h;exact⟨⟨_,_,_,_,keysE,expE,rfl,rfl,rfl,F,I,J,N,λo e=>by cases e;exact O,λo e=>by cases e;exact U⟩,V⟩
theorem zHf: ∀ x∈keysE,x.size<=maxLen:=λx h=>by
 have o:x.size<=1:=dy (List.all_eq_true.1 (show (keysE.all λx=>decide (x.size<=1))=ar by kernel_rfl) x h);unfold bq;omega
theorem zNX: AllE expE:=λi h=>by rcases h with rfl|rfl<;>kernel_rfl
theorem zKC {b:B}(h:UOk (ds.map strip) ct b):virT ds ct ds=(VL (ds.map strip) ct).map λx=>x.1++(⟨#[32]⟩:af)++x.2:=by
 unfold virT VL;rw[di,List.filter_map,di];have e:(ds.filter λd=>virB ds d.index)=ds.filter ((λd=>!isDk d.orig)∘strip):=List.filter_congr λd o=>by
  have u:virB (ds.map strip) d.index=!isDk d.orig:=h.vir (d:=strip d) (bv (f:=strip) o);rw[zAO]at u;exact u
 rw[e];refine List.map_congr_left λd o=>?_
 have v:=bv (f:=strip) (List.mem_filter.1 o).1;have y:plc (ds.map strip) d.index=pathOf (origin (ds.map strip) d.index):=by
  unfold plc;rw[show look (ds.map strip) d.index=ab (strip d)from h.wf.ok.lk v];rfl
 show _=plc (ds.map strip) d.index++_++_
 rw[y,zB7];rfl
theorem zOZ (h:i<4):(⟨#[115,100]⟩:af)++⟨(cm i).toArray⟩=sdN i/\(⟨(cm i).toArray⟩:af).size=1:=by
 rcases(by omega:i=0\/i=1\/i=2\/i=3)with rfl|rfl|rfl|rfl<;>exact⟨by kernel_rfl,by kernel_rfl⟩
theorem order_walk (la:al ap)(lc:Q)(l:ag B)(N:B)(w:ao)(hl:Ints w la lc l)(ht:(Lit.int aj N).wf=ar)(hE:Env w):
  az aw 3 #[.slice la l.length lc,.int aj N] w λe w'=>e=.returned (.bool ar)/\Fr No w w':=by
 have h9:=hE.sz;obtain⟨W1,j9,f1,-⟩:=zy w (aq #[.slice la l.length lc,.int aj 0] 25);have e9:Tape W1 (w:Q) (w:Q) 0:=by rw[j9];exact Tape.make hl 25
 have D2:(W1:Q)=(w:Q)+1:=by rw[j9];simp
 have a7:=zh hE;have HT:=zh ht;have J5:l.length<=9223372036854775807:=by have h1:=hl.len;have h2:=hl.max;unfold bq at h2;omega
 obtain⟨w2,k0,f2,-⟩:=zy W1 (aq (kcs ae 0 0 ae 0 0 0) 60);obtain⟨w3,k3,f3,-⟩:=zy w2 (aq (kcs ae 0 0 ae 0 0 0) 60);have D3:(w2:Q)=(W1:Q)+1:=by rw[k0];simp
 have D4:(w3:Q)=(w2:Q)+1:=by rw[k3];simp
 have d7:KSt w2 (W1:Q) ((W1:Q)+1) ae 0 [] ae 0 0 0:=by rw[k0];exact cl W1 _
 have s8:KSt w3 (w2:Q) ((w2:Q)+1) ae 0 [] ae 0 0 0:=by rw[k3];exact cl w2 _
 have m4:=d7.no f3;have k4:ah (KA w3 (W1:Q) ((W1:Q)+1) [] (λ_=>()) 0 0):=⟨ae,0,[],ae,0,0,m4,rfl,(λd hd=>by simp at hd),by omega⟩
 have k5:ah (KA w3 (w2:Q) ((w2:Q)+1) [] (λ_=>()) 0 0):=⟨ae,0,[],ae,0,0,s8,rfl,(λd hd=>by simp at hd),by omega⟩
 have k6:ah (KSep w3 (W1:Q) (w2:Q)):=λu v b g1 _ g2 _=>by
  rw[show w3.cell? ⟨W1,3,ae⟩=ab (.slice ae 0 0)from zB m4.blk 3]at g1;cases g1;cases g2
 have m5:ah (Tape w3 (w:Q) (w:Q) 0):=(e9.fr f2 (λ_ _=>id) id).fr f3 (λ_ _=>id) id;have s9:ah (Fr No w w3):=(f1.step f2 zi).step f3 zi;have k7:=zO2 W1;have k8:=zO2 w2;rw[<-k0]at k7;rw[<-k3]at k8;obtain⟨ka,t0⟩:∃ ka,ka=(W1:Q):=⟨_,rfl⟩
 obtain⟨Y,t7⟩:∃ Y,Y=(w2:Q):=⟨_,rfl⟩
 obtain⟨tb,k9⟩:∃ tb,tb=(w:Q):=⟨_,rfl⟩
 rw[<-t0]at k7 k4 k6;rw[<-t7]at k8 k5 k6;rw[<-k9]at m5;have l1:tb<ka/\tb<Y/\ka≠Y/\ka<(w3:Q)/\Y<(w3:Q)/\8<tb:=by omega
 have D5:=zh k9;clear hl hE ht f1 e9 k0 k3 f2 f3 D3 D4 d7 s8 m4 t0 t7 D2;go_enter Tryz.func3,Tryz.ntmps3;go_upto_region 2 with(fail)
 rw[<-j9,<-k9];clear j9 k9;go_wp2_with fail;apply k7.mono;rintro e x2 ⟨rfl,D6⟩;subst D6;go_wp2_with fail;apply k8.mono;rintro e x3 ⟨rfl,D7⟩;subst D7;clear k7 k8;have t8:=zMs x3;go_wp2_with fail;apply t8.mono;rintro e w4 ⟨⟨sa,ea,kc,xc,a3,E,hK,hE,rfl,t9,v0,l0,v1,v2,v3⟩,b9⟩;obtain⟨W5,v4,f5,b5⟩:=zy w4 (aq #[.slice sa a3.length kc,.int aj 0] 32);have s4:=b9.size;have s5:=zC b5;have m6:ah (StK W5 tb (w4:Q) sa ea kc xc a3 E):=⟨b5,t9.no f5 (λ_=>id),v0.no f5 (λ_=>id),l0.fr f5 (λ_ _=>id),v1.fr f5 (λ_ _=>id),λad e=>by have:=v2 ad e;omega,λad e=>by have:=v3 ad e;omega,by omega⟩
 have v5:ah (Fr No x3 W5):=b9.step f5 zi;have g0:a3.length<=1000000:=by rw[hK];decide
 have Z:ah ((∀ x∈a3,x.size<=bq)/\AllE E):=by rw[hK,hE];exact⟨zHf,zNX⟩
 obtain⟨X,m7⟩:∃ X,X=(w4:Q):=⟨_,rfl⟩
 rw[<-m7]at m6;clear t8 hK hE t9 v0 l0 v1 v2 v3 b9 f5 b5;go_upto_region 7 with(fail)
 rw[<-v4,<-m7];clear v4 m7;go_wp2_with fail;apply (zEk W5).mono;rintro e w6 ⟨rfl,v6,v7,d0⟩;have s6:=d0.size;have z:ah (PI w w6 tb X ka Y sa ea kc xc a3 E (w6:Q) ae 0 [] (W5:Q) 0 [] (λ_=>()) 0 0 [] (λ_=>()) 0 0):=by
  have hX:=v5.step d0 zi;have hs:=hX.size;exact⟨k4.no (bj _) hX,k5.no (bj _) hX,k6.fr hX id id k4.out k5.out,m6.no d0,m5.fr hX (λ_ _=>id) id,du _ _ _ _,λo ho=>by simp at ho,v6,v7,(s9.step hX zi).mono zn,l1.1,l1.2.1,l1.2.2.1,by omega,by omega,by omega,by omega⟩
 obtain⟨cb,m8⟩:∃ cb,cb=(W5:Q):=⟨_,rfl⟩
 obtain⟨ob,v8⟩:∃ ob,ob=(w6:Q):=⟨_,rfl⟩
 rw[<-m8,<-v8]at z;rw[<-m8];have J6:ob<=(w6:Q):=by omega
 clear v6 d0 v7 k4 k5 k6 m6 m5 s9 v5 m8 v8;have A:=zBF tb tb 0 3 w6 z.tp (by omega) (by omega) (by omega);go_wp2_with fail;apply A.mono;rintro e w7 ⟨q,rfl,g3,v9,w8,m9⟩;obtain⟨q,rfl⟩:=ci g3;have w9:=zh (z.tape m9 w8);have s7:=m9.size;obtain⟨n,hn⟩:∃ n:Q,(n:B)=2+(q:B):=⟨2+q,by omega⟩
 have D8:2<=n/\n<=4:=by omega
 clear A w8 m9 z;go_upto_region 9 with(fail)
 rw[<-hn];clear hn;go_wp2_with fail;go_loopw [14,15] (λv x wr=>∃ (i kt cv:Q) (av:al ap) (cs:ag af) (F:ag OpA),i<=n/\v=.slice av F.length cv/\x=.int aj (i:B)/\kt<=1+i/\F.length<=i/\ob<=(wr:Q)/\ah (cs.length=i)/\ah (DOps cs F)/\ah (PI w wr tb X ka Y sa ea kc xc a3 E ob av cv F cb kt [] (λ_=>()) 0 0 [] (λ_=>()) 0 0)) (λ_ x _=>n-(be x).toNat);case atStart=>exact⟨0,1,0,ae,[],[],by omega,rfl,rfl,by omega,by simp,by omega,rfl,⟨rfl,λj c h=>by simp at h⟩,w9⟩
 case round=>
  clear w9;obtain⟨i,kt,cv,av,cs,F,D9,rfl,rfl,l0,M4,F0,d8,g4,z⟩:=hrel;obtain⟨wA,rfl⟩:∃ wA,wA=wr:=⟨_,rfl⟩
  by_cases d9:i<n
  .have g5:(i:B)<n:=by omega
   obtain⟨it,n5⟩:∃ it:af,it=⟨(cm i).toArray⟩:=⟨_,rfl⟩
   have l2:=zOZ (i:=i) (by omega);rw[<-n5]at l2;have M5:=l2.2;have F1:=zh l2.1;have g6:az aw 9 #[.int aj (i:B)] wA λe w'=>e=.returned (.string it)/\w'=wA:=by rw[n5];exact Tryz.strconv_Itoa_small i (by omega) wA
   have h1:((⟨#[115,100]⟩:af)++it).size<=9223372036854775807:=by rw[ByteArray.size_append];show 2+it.size<=_;omega
   have M6:¬ 9223372036854775807<2+it.size:=(by omega);have M7:2+it.size<=9223372036854775807:=(by omega);clear n5 l2;go_wp2_with fail;apply g6.mono;rintro e wB ⟨rfl,F2⟩;subst F2;have A:=zBF tb tb kt 16 wB z.tp (by omega) (by omega) (by omega);clear g6;go_wp2_with fail;apply A.mono;rintro e wC ⟨q,rfl,g3,v9,g7,e0⟩;obtain⟨q,rfl⟩:=ci g3;have n6:q<zAD.length:=(by rw[zA9];omega);have sC:=e0.size;have d1:=zh (z.tape e0 g7);obtain⟨b,l3,c,he,g8,g9⟩:=d1.cs.at n6;cases he;rw[dl]at g9;have d2:=zDP c (bi g8);have n7:=zh d2;have a8:=zHe ((⟨#[115,100]⟩:af)++it) c (1+(i:B)) wC d2;unfold ocs at a8;dsimp only at a8;clear A g7 e0 g8 d2 z;go_wp2_with fail;apply a8.mono;rintro e wD ⟨⟨aa,ac,rfl,hA,hT,hb⟩,e1⟩;rw[F1];have sD:=e1.size;have b0:=zh (d1.no e1);have l8:=b0.op;obtain⟨i0,F3,F4,F5,F6⟩:=da infoOp;have n8:=zg3 hA hT (λad (e:aa=ab ad)=>(ca F0 (ca sC (hb ad e)):ob<=ad.block));clear a8 hA hT hb e1 g9 d1;go_wp2_with (at_builtin;refine dz _ rfl _ _ 37 rfl ob 42 i0 (bf #[.int aj 0,.string ba,.int aj 0,.int aj 0,.string ba,.string ba,.string ba,.string ba,.string ba,.int aj 0,.int aj 0,.slice ae 0 0,.string ba,.string ba]) 14 192 Tryz.underlying37 F3 F4 F5 F6 rfl (by decide) _ _ _ rfl (l8.alloc _) ⟨wD,0,ae⟩ 1 1 (dop i aa ac c).vals.toList rfl rfl (ze _ (dop i aa ac c).vals _ rfl) (zB8 _ _ _ _ _) (by unfold bq;omega) (by omega) (by rw[dw];omega) ?_;intro v' w6 h0 x0 _ F7;obtain⟨x1,x4,rfl⟩:=zJ h0)
   have h3:Fr No wD (wD.alloc (aq (dop i aa ac c).vals 42)):=(bh _ _).alloc _;have gf:Fr (λb=>(ax av F.length cv).ownBlock=ab b) (wD.alloc (aq (dop i aa ac c).vals 42)) w6:=ch x0;have F8:ah (PI w w6 tb X ka Y sa ea kc xc a3 E ob x1 x4 (F++[dop i aa ac c]) cb (kt+1) [] (λ_=>()) 0 0 [] (λ_=>()) 0 0):=(b0.no h3).push gf (by rw[bu,zDY];exact h0) (n8.1.no h3 (λ_=>id)) rfl (n8.2.1.fr h3 (λ_ _=>id)) n8.2.2;have F9:ah (DOps (cs++[c]) (F++[dop i aa ac c])):=by
    have h:=g4.snoc n7 aa ac;rw[d8]at h;exact h
   have s6:=gf.size;have M8:=h3.size;clear l8 h0 x0 F7 gf h3;go_wp2;go_roundw;case rel=>exact⟨i+1,kt+1,x4,x1,cs++[c],F++[dop i aa ac c],by omega,by rw[bu];rfl,by go_num,by omega,by rw[bu];simp;omega,by omega,by show (cs++[c]).length=i+1;rw[bu,d8.out];rfl,F9,F8⟩
   case measure=>simp[be];omega
  .obtain rfl:n=i:=by omega
   clear d9;have g5:¬ (n:B)<n:=(by omega);obtain⟨kk,x5⟩:∃ kk:Q,(kk:B)=foldV N n:=⟨(foldV N n).toNat,by have:=(zDd (v:=N) (n:=(n:B)) (by omega)).1;omega⟩
   have h4:kk<n:=(by have:=(zDd (v:=N) (n:=(n:B)) (by omega)).2;omega);have I0:=zh x5;have n9:∀ j,j<n->rotN n kk j<4:=λj hj=>by have:=zKc h4 hj;omega
   clear x5;go_wp2_with fail;go_loopw [16] (λx wr=>∃ (i kt n1 n2:Q) (L1:ag Dev) (c1:B->af) (i1:B) (L2:ag Dev) (c2:B->af) (i2:B),i<=n/\x=.int aj (i:B)/\kt<=5+2*i/\n1<=300000*i/\n2<=300000*i/\0<=i1/\i1<=2000*i/\0<=i2/\i2<=2000*i/\ah (UOk L1 c1 i1/\DskP (Dk (cAt cs) id i) L1 c1)/\ah (UOk L2 c2 i2/\DskP (Dk (cAt cs) (rotN n kk) i) L2 c2)/\ah (PI w wr tb X ka Y sa ea kc xc a3 E ob av cv F cb kt L1 c1 i1 n1 L2 c2 i2 n2)) (λx _=>n-(be x).toNat);case atStart=>exact⟨0,kt,0,0,[],_,0,[],_,0,by omega,rfl,by omega,by omega,by omega,by omega,by omega,by omega,by omega,⟨cz _ _,DskP.nil _⟩,⟨cz _ _,DskP.nil _⟩,z⟩
   case round=>
    clear z;obtain⟨i,kt,n1,n2,L1,c1,i1,L2,c2,i2,D9,rfl,l0,M9,D8,N0,v9,N1,N2,l4,e2,z⟩:=hrel;obtain⟨wA,rfl⟩:∃ wA,wA=wr:=⟨_,rfl⟩
    by_cases d9:i<n
    .have g5:(i:B)<n:=(by omega);obtain⟨l9,aa,ac,a9⟩:=g4.at (j:=i) (by rw[d8];omega);obtain⟨o,ho⟩:∃ o,o=dop i aa ac (cAt cs i):=⟨_,rfl⟩
     rw[<-ho]at a9;obtain⟨b,l3,p0,⟨o0,o1,o2,o3,o4,o5,o6,o7,o8,o9,p1,p2,p3,p4⟩⟩:=zMm z.op rfl a9;obtain⟨d3,d7,_⟩:=z.ok _ (bi a9);have I:=zOr ka n1 L1 c1 i1 (Dk (cAt cs) id i) (sdN i) (cAt cs i) (1+(i:B)) aa ac wA z.a l4.1 l4.2 (zIF (by omega)) ⟨by omega,by omega⟩ (zLT (c:=cAt cs) (f:=id) (i:=i) (λj hj=>by show j<4;omega) (λj hj=>by show j≠i;omega)) l9 (by rw[ho]at d3;exact d3) (z.env a7 l1.2.2.2.2.2) (by omega) (by omega) ⟨by omega,by omega⟩ (by have:=z.lt;omega);have hv:ocs 1 () ⟨0,0,(),sdN i,zU,(),(),2,1+(i:B),aa,(cAtt (cAt cs i)).length,ac⟩ () ()=o.vals:=(by rw[ho];rfl);rw[hv]at I;have x6:i<F.length:=(by rw[g4.len,d8];omega);unfold cu ocs at I;subst p0;clear hv ho a9 d3 d7 l9;go_wp2_with fail;apply I.mono;rintro e I1 ⟨rfl,⟨p5,p6,b1,O,J⟩,a4,b2⟩;have m0:=zh (z.ev b1 a4 b2);have h5:ah (UOk p5 p6 (i1+1)/\DskP (Dk (cAt cs) id (i+1)) p5 p6):=⟨O,J⟩
     have J7:=bn a4;clear I b1 O J a4 b2 o0 o1 o2 o3 o4 o5 o6 o7 o8 o9 p1 p2 p3 p4;go_upto_region 18 with(fail)
     go_cut [91] (λv wx=>v=.bool ak/\∃ (h6 h7:Q) (e3:ag Dev) (e4:B->af) (d4:B),h6=kt+1/\h7<=n1+250000/\0<=d4/\d4<=i1+1500/\ah (UOk e3 e4 d4/\DskP (Dk (cAt cs) id (i+1)) e3 e4)/\ah (PI w wx tb X ka Y sa ea kc xc a3 E ob (ab ⟨b,l3,ae⟩) cv F cb h6 e3 e4 d4 h7 L2 c2 i2 n2));case first=>
      have A:=zBF tb tb kt 2 I1 m0.tp (by omega) (by omega) (by omega);go_wp2_with fail;apply A.mono;rintro e p7 ⟨r,rfl,x7,x8,h8,b3⟩;have U:=zh (m0.tape b3 h8);have x9:p7.cell? ⟨X,0,ae⟩=ab (.slice sa a3.length kc):=zB U.st.box 0;have y0:p7.cell? ⟨X,1,ae⟩=ab (.int aj 0):=zB U.st.box 1;clear A h8 b3;by_cases hr:r=0
      .have i4:(r==0)=true:=(by rw[hr];rfl);have y:=zCj tb X ka (ka+1) (n1+1) p5 p6 (i1+1) (Dk (cAt cs) id (i+1)) sa ea kc xc E a3 p7 U.a h5.1 h5.2 (by omega) (bj _) (by have:=U.lt;omega) (by omega) ⟨by omega,by omega⟩ (U.env a7 l1.2.2.2.2.2) U.st g0 Z.1 Z.2;go_wp2_with fail;apply y.mono;rintro e N3 ⟨rfl,⟨L3,c3,i3,n3,b4,a2,y1,m1,p8⟩,b6,b7⟩;have e5:=zh (U.ev b4 b6 b7);have e6:=zg2 a2.u a2.d;clear y b4 a2 b6 b7 x9 y0;go_wp2;go_meet;exact⟨rfl,_,n3,L3,c3,i3,rfl,by omega,by omega,by omega,e6,e5⟩
      .have i4:(r==0)=false:=(by simpa using hr);clear x9 y0;go_wp2;go_meet;exact⟨rfl,_,_,_,_,_,rfl,by omega,by omega,by omega,h5,U⟩
     case rest=>
      obtain⟨rfl,h6,h7,e3,e4,d4,J8,J9,N4,N5,I2,e7⟩:=hcut;obtain⟨wM,rfl⟩:∃ wM,wM=wc:=⟨_,rfl⟩
      have I3:=zOc (n:=n) (k:=kk) (j:=i) h4 d9;have I4:=zKc h4 d9;obtain⟨jj,p9⟩:∃ jj,jj=rotN n kk i:=⟨_,rfl⟩
      rw[<-p9]at I3 I4;have y2:=zh p9;clear p9;obtain⟨m2,aa,ac,a9⟩:=g4.at (j:=jj) (by rw[d8];omega);obtain⟨o,ho⟩:∃ o,o=dop jj aa ac (cAt cs jj):=⟨_,rfl⟩
      rw[<-ho]at a9;obtain⟨bB,L0,p0,⟨o0,o1,o2,o3,o4,o5,o6,o7,o8,o9,p1,p2,p3,p4⟩⟩:=zMm e7.op rfl a9;obtain⟨d3,d7,_⟩:=e7.ok _ (bi a9);have I:=zOr Y n2 L2 c2 i2 (Dk (cAt cs) (rotN n kk) i) (sdN jj) (cAt cs jj) (1+(jj:B)) aa ac wM e7.swap.a e2.1 e2.2 (zIF (by omega)) ⟨by omega,by omega⟩ (by rw[y2];exact zLT (c:=cAt cs) (f:=rotN n kk) (i:=i) (λj hj=>n9 j (by omega)) (λj hj e=>by have:=zOd h4 (by omega) d9 e;omega)) m2 (by rw[ho]at d3;exact d3) (e7.env a7 l1.2.2.2.2.2) (by omega) (by omega) ⟨by omega,by omega⟩ (by have:=e7.swap.lt;omega);have hv:ocs 1 () ⟨0,0,(),sdN jj,zU,(),(),2,1+(jj:B),aa,(cAtt (cAt cs jj)).length,ac⟩ () ()=o.vals:=(by rw[ho];rfl);rw[hv]at I;have x6:jj<F.length:=(by rw[g4.len,d8];omega);unfold cu ocs at I;cases p0;clear hv ho a9 d3 d7 m2;have y3:∀ W,az aw 12 #[.int aj N,.int aj (n:B)] W λe w'=>e=.returned (.int aj (kk:B))/\W=w':=λW=>by rw[I0];exact zLN N (n:B) W (by omega) (by omega) HT
      go_wp2_with fail;apply (y3 _).mono;rintro e wF ⟨rfl,I5⟩;subst I5;clear y3;skip;go_wp2_with fail;apply I.mono;rintro e I6 ⟨rfl,⟨i5,i6,b1,O,J⟩,a4,b2⟩;have m3:=zh (e7.swap.ev b1 a4 b2).swap;have i7:ah (UOk i5 i6 (i2+1)/\DskP (Dk (cAt cs) (rotN n kk) (i+1)) i5 i6):=⟨O,by rw[y2]at J;exact J⟩
      have L5:=bn a4;clear I b1 O J a4 b2 o0 o1 o2 o3 o4 o5 o6 o7 o8 o9 p1 p2 p3 p4;go_upto_region 21 with(fail)
      go_cut [113] (λv wx=>v=.bool ak/\∃ (l5 l6:Q) (i8:ag Dev) (i9:B->af) (e8:B),l5=h6+1/\l6<=n2+250000/\0<=e8/\e8<=i2+1500/\ah (UOk i8 i9 e8/\DskP (Dk (cAt cs) (rotN n kk) (i+1)) i8 i9)/\ah (PI w wx tb X ka Y sa ea kc xc a3 E ob (ab ⟨b,l3,ae⟩) cv F cb l5 e3 e4 d4 h7 i8 i9 e8 l6));case first=>
       have A:=zBF tb tb h6 2 I6 m3.tp (by omega) (by omega) (by omega);go_wp2_with fail;apply A.mono;rintro e r0 ⟨r,rfl,x7,x8,h8,b3⟩;have V:=zh (m3.tape b3 h8);have y4:r0.cell? ⟨X,0,ae⟩=ab (.slice sa a3.length kc):=zB V.st.box 0;have y5:r0.cell? ⟨X,1,ae⟩=ab (.int aj 0):=zB V.st.box 1;clear A h8 b3;by_cases hr:r=0
       .have i4:(r==0)=true:=(by rw[hr];rfl);have y:=zCj tb X Y (Y+1) (n2+1) i5 i6 (i2+1) (Dk (cAt cs) (rotN n kk) (i+1)) sa ea kc xc E a3 r0 V.swap.a i7.1 i7.2 (by omega) (bj _) (by have:=V.swap.lt;omega) (by omega) ⟨by omega,by omega⟩ (V.env a7 l1.2.2.2.2.2) V.st g0 Z.1 Z.2;go_wp2_with fail;apply y.mono;rintro e N6 ⟨rfl,⟨L3,c3,i3,n3,b4,a2,y1,m1,p8⟩,b6,b7⟩;have e5:=zh (V.swap.ev b4 b6 b7).swap;have e6:=zg2 a2.u a2.d;clear y b4 a2 b6 b7 y4 y5;go_wp2;go_meet;exact⟨rfl,_,n3,L3,c3,i3,rfl,by omega,by omega,by omega,e6,e5⟩
       .have i4:(r==0)=false:=(by simpa using hr);clear y4 y5;go_wp2;go_meet;exact⟨rfl,_,_,_,_,_,rfl,by omega,by omega,by omega,i7,V⟩
      case rest=>
       obtain⟨rfl,l5,l6,i8,i9,e8,L6,L7,N7,N8,j0,a5⟩:=hcut;go_wp2;go_roundw;case rel=>exact⟨i+1,l5,h7,l6,e3,e4,d4,i8,i9,e8,by omega,by go_num,by omega,by omega,by omega,by omega,by omega,by omega,by omega,I2,j0,a5⟩
       case measure=>simp[be];omega
    .obtain rfl:n=i:=by omega
     clear d9;have g5:¬ (n:B)<n:=(by omega);have A:=zBF tb tb kt 2 wA z.tp (by omega) (by omega) (by omega);go_wp2_with fail;apply A.mono;rintro e w1 ⟨r,rfl,x7,x8,e9,j1⟩;have d5:=zh (z.tape j1 e9);clear A e9 j1 z;go_upto_if 116 with(fail)
     go_cut [] (λwx=>∃ (r1 n3:Q) (L3:ag Dev) (c3:B->af) (i3:B),r1<=kt+2/\n3<=n2+300000/\0<=i3/\i3<=i2+2000/\ah (UOk L3 c3 i3/\DskP (Dk (cAt cs) (rotN n kk) n) L3 c3)/\ah (PI w wx tb X ka Y sa ea kc xc a3 E ob av cv F cb r1 L1 c1 i1 n1 L3 c3 i3 n3));case first=>
      by_cases hr:r=0
      .have i4:(r==0)=true:=(by rw[hr];rfl);have A:=zBF tb tb (kt+1) 16 w1 d5.tp (by omega) (by omega) (by omega);go_wp2_with fail;apply A.mono;rintro e wC ⟨q,rfl,g3,L8,g7,e0⟩;obtain⟨q,rfl⟩:=ci g3;have n6:q<zAD.length:=(by rw[zA9];omega);have d1:=zh (d5.tape e0 g7);obtain⟨b,l3,c,he,g8,g9⟩:=d1.cs.at n6;cases he;rw[dl]at g9;have d2:=zDP c (bi g8);have n7:=zh d2;have a8:=zHe ⟨#[115,100,120]⟩ c 99 wC d2;unfold ocs at a8;dsimp only at a8;clear A g7 e0 g8 d2 d5;go_wp2_with fail;apply a8.mono;rintro e wD ⟨⟨aa,ac,rfl,hA,hT,hb⟩,e1⟩;have b0:=zh (d1.no e1);have I:=zOr Y n2 L2 c2 i2 (Dk (cAt cs) (rotN n kk) n) ⟨#[115,100,120]⟩ c 99 aa ac wD b0.b e2.1 e2.2 zMR (by decide) (zIw (λj hj=>n9 j hj)) n7 hA (b0.env a7 l1.2.2.2.2.2) (by omega) (by omega) ⟨by omega,by omega⟩ (by have:=b0.lt;omega);unfold ocs at I;dsimp only at I;clear a8 hA hT hb e1 g9 d1;go_wp2_with fail;apply I.mono;rintro e wE ⟨rfl,⟨i5,i6,b1,O,J⟩,a4,b2⟩;have a5:=zh (b0.swap.ev b1 a4 b2).swap;have j0:=zg2 O J;have I7:wE.cell? ⟨X,0,ae⟩=ab (.slice sa a3.length kc):=zB a5.st.box 0;have I8:wE.cell? ⟨X,1,ae⟩=ab (.int aj 0):=zB a5.st.box 1;have y:=zCj tb X Y (Y+1) (n2+1) i5 i6 (i2+1) ((⟨#[115,100,120]⟩,99,c)::Dk (cAt cs) (rotN n kk) n) sa ea kc xc E a3 wE a5.b j0.1 j0.2 (by omega) (bj _) (by have:=a5.lt;omega) (by omega) ⟨by omega,by omega⟩ (a5.env a7 l1.2.2.2.2.2) a5.st g0 Z.1 Z.2;clear I b1 O J a4 b2 b0;go_wp2_with fail;apply y.mono;rintro e wF ⟨rfl,⟨L3,c3,i3,n3,b4,a2,y1,m1,p8⟩,b6,b7⟩;have l7:=zh (a5.swap.ev b4 b6 b7).swap;have d6:=zQQ Y n3 L3 c3 i3 ((⟨#[115,100,120]⟩,99,c)::Dk (cAt cs) (rotN n kk) n) ⟨#[115,100,120]⟩ c ⟨#[47,115,100,120]⟩ 99 wF l7.b a2.u a2.d (by simp) (by kernel_rfl) (by omega) (by have:=l7.lt;omega);unfold ocs ZD at d6;dsimp only at d6;clear y b4 a2 b6 b7 I7 I8 a5 j0;go_wp2_with fail;apply d6.mono;rintro e wG ⟨rfl,⟨L4,n4,N9,y6,y7,r2⟩,y8,y9⟩;have I9:=zh (l7.swap.ev y6 y8 y9).swap;have J0:ah (UOk L4 c3 i3/\DskP (Dk (cAt cs) (rotN n kk) n) L4 c3):=⟨y7,by rw[show (⟨#[115,100,120]⟩:af)=sdxB from rfl,zLU (λj hj=>n9 j hj)]at r2;exact r2⟩
       clear d6 y6 y7 r2 y8 y9 l7;go_wp2;go_meet;exact⟨_,n4,L4,c3,i3,by omega,by omega,by omega,by omega,J0,I9⟩
      .have i4:(r==0)=false:=(by simpa using hr);go_wp2;go_meet;exact⟨_,n2,L2,c2,i2,by omega,by omega,by omega,by omega,e2,d5⟩
     case rest=>
      obtain⟨r1,n3,L3,c3,i3,L9,p8,O0,O1,e6,HP⟩:=hcut;clear e2;have s0:wc.cell? ⟨X,0,ae⟩=ab (.slice sa a3.length kc):=zB HP.st.box 0;have s1:wc.cell? ⟨X,1,ae⟩=ab (.int aj 0):=zB HP.st.box 1;have y:=zCj tb X ka (ka+1) n1 L1 c1 i1 (Dk (cAt cs) id n) sa ea kc xc E a3 wc HP.a l4.1 l4.2 (by omega) (bj _) (by have:=HP.lt;omega) (by omega) ⟨by omega,by omega⟩ (HP.env a7 l1.2.2.2.2.2) HP.st g0 Z.1 Z.2;go_wp2_with fail;apply y.mono;rintro e wE ⟨rfl,⟨LA,cA,iA,nA,z0,z1,O2,M0,O3⟩,z2,z3⟩;have b8:=zh (HP.ev z0 z2 z3);have r3:=zh z1;clear y z0 z1 z2 z3 s0 s1 HP;have s0:wE.cell? ⟨X,0,ae⟩=ab (.slice sa a3.length kc):=zB b8.st.box 0;have s1:wE.cell? ⟨X,1,ae⟩=ab (.int aj 0):=zB b8.st.box 1;have y:=zCj tb X Y (Y+1) n3 L3 c3 i3 (Dk (cAt cs) (rotN n kk) n) sa ea kc xc E a3 wE b8.b e6.1 e6.2 (by omega) (bj _) (by have:=b8.lt;omega) (by omega) ⟨by omega,by omega⟩ (b8.env a7 l1.2.2.2.2.2) b8.st g0 Z.1 Z.2;go_wp2_with fail;apply y.mono;rintro e wF ⟨rfl,⟨LB,cB,iB,nB,z4,r4,O4,M1,O5⟩,z5,z6⟩;have r5:=zh (b8.swap.ev z4 z5 z6).swap;have z7:=zh r4;have O6:=r3.u.len;have O7:=r4.u.len;have z8:=zDB ka (ka+1) nA LA cA iA wF r5.a (by omega);clear y z4 r4 z5 z6 s0 s1 b8;go_wp2_with fail;apply z8.mono;rintro e w1 ⟨⟨ta,tc,ds,rfl,j2,j3,j4,a6⟩,j1⟩;have O8:ds.length<=44:=(by have h:=au bo a6;rw[bx]at h;omega);have z9:ah (UOk (ds.map strip) cA iA):=(by rw[a6];exact r3.u);have r6:=zE8 ta tc (wF:Q) ds cA w1 j2 j3 j4 (by omega) (λd hd=>by have:=zCD (z9.co (strip d) (bv hd)).1;exact ca this (by decide));have O9:=zh a6;have d5:=zh (r5.no j1);obtain⟨TA,r7⟩:∃ TA,TA=virT ds cA ds:=⟨_,rfl⟩
      rw[<-r7]at r6;have J1:ah (TA=(VL LA cA).map λx=>x.1++(⟨#[32]⟩:af)++x.2):=(by rw[r7,zKC z9,a6];exact rfl);clear z8 j2 j3 j4 a6 j1 r7 r5;go_wp2_with fail;apply r6.mono;rintro e w2 ⟨⟨ra,rc,rfl,A0⟩,b3⟩;have A1:=zh A0;have r8:=zh (d5.no b3);have A2:=zDB Y (Y+1) nB LB cB iB w2 r8.b (by omega);clear r6 A0 b3 d5;go_wp2_with fail;apply A2.mono;rintro e w3 ⟨⟨J2,J3,j5,rfl,j2,j3,j4,a6⟩,r9⟩;have M2:j5.length<=44:=(by have h:=au bo a6;rw[bx]at h;omega);have A3:ah (UOk (j5.map strip) cB iB):=(by rw[a6];exact z7.u);have s2:=zE8 J2 J3 (w2:Q) j5 cB w3 j2 j3 j4 (by omega) (λd hd=>by have:=zCD (A3.co (strip d) (bv hd)).1;exact ca this (by decide));have e5:=zh (r8.no r9);have A4:=zh (A1.no r9 (λ_=>id));obtain⟨j6,j7⟩:∃ j6,j6=virT j5 cB j5:=⟨_,rfl⟩
      rw[<-j7]at s2;have J4:ah (TA=j6):=by
       rw[j7,zKC A3,a6];have h:TA=(VL LA cA).map λx=>x.1++(⟨#[32]⟩:af)++x.2:=J1.out
       rw[h,SetE.same r3 z7 Z.2 (λ_ _=>rfl) (λ_ _=>rfl) (λo c=>zK6 h4 o c)];exact rfl
      clear A2 j2 j3 j4 a6 r9 j7 r8 A1;go_wp2_with fail;apply s2.mono;rintro e w4 ⟨⟨rb,rd,rfl,A5⟩,b9⟩;have A6:=zh (e5.no b9);have s3:=zJR ra rb rc rd TA j6 w4 (A4.no b9 (λ_=>id)) A5;have A7:sameT TA j6=true:=(by rw[J4];exact zMS _);rw[A7]at s3;clear s2 b9 e5 A7 A5;go_wp2_with fail;apply s3.mono;rintro e w5 ⟨rfl,A8⟩;have A9:=zh (A6.no A8);have j8:=zO0 w5 (A9.env a7 l1.2.2.2.2.2);clear s3 A8 A6;go_wp2_with fail;apply j8.mono;rintro e w6 ⟨rfl,d0⟩;have HR:ah (Fr No w w6):=(A9.fr.step d0 zn).mono (λb hb h=>by unfold From at h;have:=D5.out;omega);clear j8 d0;go_wp2;go_ret;exact⟨rfl,HR⟩
theorem gES: Tryz.prog.globalNamed "strconv.ErrSyntax" = ab 7:=by kernel_rfl
theorem zPA: (Tryz.prog.globals[7]?).map (·.type)=ab 241:=by kernel_rfl
theorem gER: Tryz.prog.globalNamed "strconv.ErrRange" = ab 8:=by kernel_rfl
theorem zPB: (Tryz.prog.globals[8]?).map (·.type)=ab 241:=by kernel_rfl
theorem cellsE: Tryz.prog.cellsOf 408=1:=by kernel_rfl
theorem cellsS: Tryz.prog.cellsOf 9=1:=by kernel_rfl
theorem starE: "*" ++ "errors.errorString" = "*errors.errorString" := by decide
theorem rowE (u:TypeId)(h:Tryz.prog.typeName? 3 u=ab "*errors.errorString"):u=406:=
 typeName_ptr_named (nm := "errors.errorString") (by rw[starE];kernel_rfl) (by kernel_rfl) (by decide) u (by rw[starE];exact h)
theorem gPow: Tryz.prog.globalNamed "internal/strconv.uint64pow10" = ab 0:=by kernel_rfl
theorem zM7: (Tryz.prog.globals[0]?).map (·.type)=ab 191:=by kernel_rfl
theorem gAcc: Tryz.prog.globalNamed "unicode.CaseRanges" = ab 4:=by kernel_rfl
theorem gD64: Tryz.prog.globalNamed "math/bits.deBruijn64tab" = ab 2:=by kernel_rfl
theorem cellsU: Tryz.prog.cellsOf 152=1:=by kernel_rfl
theorem cellsP: Tryz.prog.cellsOf 191=20:=by kernel_rfl
theorem zHd {P:Program}{n:String}{d:DataW Unit}{r:ag (String×DataW Unit)}{g:Q}(h:laidMet P ((n,d)::r) W)(v:P.globalNamed n=ab g):g<(W:Q):=by
 obtain⟨F,⟨I,J,y,N,O,U,z,A,u,_⟩,_⟩:=h;unfold World.var? at u;rw[v]at u;simp only[Option.bind_some]at u;cases hh:W.heap[g]? with
 | none=>simp[hh]at u
 | some o=>exact(Array.getElem?_eq_some_iff.1 hh).1
theorem env_of (u:W.ShapedOpen aw)(o:laidMet aw Rows.assemblyOrderRow.laid W):Env W:=by
 obtain⟨m,F⟩:=cell_of_shapedOpen_int (P:=aw) (g:=3) (t:=3) (zero:=#[am aj 0]) u (dy (by kernel_rfl)) (by kernel_rfl) rfl (by kernel_rfl) (by kernel_rfl) Tryz.underlying3;have h:=o.tail.tail.tail.tail;have U:=zHd o.tail.tail.tail.tail.tail.tail gAcc;have V:=zHd o.tail gD64;have X:=zHd h gER;obtain⟨I,Y,v,-,-,-⟩:=laid_sentinel h gER zPB dn rowE dp dq rfl rfl dr cellsE cellsS;obtain⟨y,J,z,-,-,-⟩:=laid_sentinel h.tail gES zPA dn rowE dp dq rfl rfl dr cellsE cellsS;have N:W.cell? ⟨7,0,ae⟩=ab (.iface 406 (bs (ab y))):=by have A:=dx gES z 0;simpa using A
 have O:W.cell? ⟨8,0,ae⟩=ab (.iface 406 (bs (ab I))):=by have A:=dx gER v 0;simpa using A
 exact⟨⟨m,F⟩,⟨⟨_,N,.inr ⟨_,_,rfl⟩⟩,⟨_,O,.inr ⟨_,_,rfl⟩⟩⟩,Lib.tabIs_of_head gPow zM7 Tryz.underlying191 Tryz.underlying152 cellsU cellsP o.tail.tail,by omega⟩
section
variable {H:Type}{enc:TypeId×br->H}
theorem returns_laid_sized {a:Assume}{C:Checked}{os:Os}{f:FuncId}{fn:Func}{s:ChangeSpec}{A:ag PathCond}{h F y I:Bool}{X:ao->Array br->Prop}
  (hX:∀ (w w':ao) (args:Array br),w.heap=w'.heap->X w args->X w' args)
  (a7:ownKnob C.prog.godebug=ae) (J:os.Started) (O:C.prog.inits.idxOf? f=ae) (a8:C.prog.funcs[f]?=ab fn)
  (N:∃ (w:ao) (o:Go.Tape) (i:Input),w.os=os/\(w.forCall o i).Shaped C.prog/\i.vars=[]/\Input.okWide C.prog (w.forCall o i) .any (w:Q) f i/\
   ((s.pre enc C.prog fn A h (w.forCall o i).memory i.args/\X (w.forCall o i).memory i.args)/\sizedMet enc C.prog fn (cw s) h (w.forCall o i).memory i.args)/\a.holds C.prog (lone (Frame.enter C.prog f i.args .normal) [] (w.forCall o i)))
  (z:∀ (W:ao) (Y:Q) (args:Array br) (U V:ag (DataW H)) (u:ag MemPlace),
   (∀ (j:Q) t v,fn.params[j]?=ab t->args[j]?=ab v->Value.okWide C.prog W .any Y t v)->
   DataW.Whole enc C.prog fn.params.toList s.vars h W args.toList U V u->
   (DataW.weightsEach C.prog (fn.params.toList++(cw s).bare.plain.varTypes C.prog) (U++V)).all (·<=reachBytes)=ar->
   X W args->W.ShapedOpen C.prog->
   az C.prog f args W λe W'=>∃ v,e=.returned v/\s.post enc C.prog fn h F y I W args v W'):
  ReturnsInHanded a C os f .any (λw args=>(s.pre enc C.prog fn A h w args/\X w args)/\sizedMet enc C.prog fn (cw s) h w args) (s.post enc C.prog fn h F y I):=by
 apply returnsInHanded_of_calls a7 J O N;intro w o i _ a9 _ b0 Z a5;obtain⟨_,_,_,b1,a2,_,_,_,_,a3⟩:=b0;have e:b1=fn:=Option.some.inj (a2.symm.trans a8);subst e;obtain⟨⟨⟨ds,gs,a6,hw,hc⟩,hx⟩,_,U,V,u,b2,hz⟩:=Z;have a4:=DataW.Whole.of_heap (w':=w.forCall o i) (by rfl) b2;refine(z (w.forCall o i) (w:Q) i.args U V u a3 a4 hz (hX _ _ _ (by rfl) hx) a9).mono λe W' ⟨v,he,hp⟩=>?_
 subst he;exact ChangeSpec.post_blind hp
end
end Go.Proofs.YtifphhgcelkflaaGreatDoor
