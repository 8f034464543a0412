import Derived.Test.YtjoipgjdpnjjiaaGreatDoorQ5
import Derived.Test.YtjoipgjdpnjjiaaGreatDoorShelf4
import Derived.Lib.AtoiAll
import Derived.Lib.ItoaNum
import Derived.Lib.Join
import Derived.Test.YtjoipgjdpnjjiaaGreatDoorStrs3
import Derived.Lib.AtoiAllCases
import Derived.Lib.AppendIntMem
import Derived.Lib.TrimU
import Derived.Lib.OthersKept
import Derived.Laws.RangeString
import Derived.Laws.Runes
import Derived.Deep.LoopGhost
import Derived.WalkMore
namespace Go.Proofs.YtjoipgjdpnjjiaaGreatDoor
open Go.RowKit Go.Maps Go.Sort Go.Shelf Go
set_option linter.unusedVariables false
set_option maxRecDepth 100000
set_option maxHeartbeats 2000000
open Dev renaming vals->ci,zero->cp
open Fr renaming refl->ba,of_below_size->dv
open Go renaming World->ak,Value->ar,Calls->ax,Addr->az,maxLen->c8,wp_scope_straight->ez
open Go.Ending renaming returned->dt
open Go.Exit renaming noGoto_ret->du
open Go.IntKind renaming i64->ae
open Go.Lib renaming itoa->ag,size_eq->bj,decDigits->bs,decodeN->bw,indexByte->bx,indexAny->c9,join->cc,atoiAll->cq,extract_to_end->cr,hasPrefix->cu,contains_iff_indexByte->dw
open Go.Obj renaming cells->aw
open Go.Proofs renaming sortWorldK->cg
open Go.Proofs.Tryz renaming prog->al,func163->es,underlying132->et
open Go.RowKit renaming Hid->aj
open Go.Utf8 renaming decode->bg,encode->br,valid->eu
open Go.Value renaming int->ai,slice->ao,string->au,agg->be,pointer->bm,slice->dj
open Go.World renaming cell?_of_block->ev
open RetB renaming mk->cm
open _root_ renaming Nat->C,List->Q,Int->B,ByteArray->R,UInt8->ab,if_neg->ah,if_pos->an,Option->ap,Bool->aq,Array->ay,if_true->bd,decide_eq_true_eq->bh,congrArg->bi,getElem!_pos->bu,decide_eq_false->ew,of_decide_eq_false->ey
open _root_.Array renaming getElem?_toList->bf,getElem?_eq_getElem->bn,toList->cn,ext'->dk,getElem?_modify->dm
open _root_.Bool renaming false->a0,true->af,and_eq_true->am,not_false->bv,or_eq_true->co,eq_false_iff->dn,or_false->dp,or_true->dq
open _root_.ByteArray renaming empty->ch,ext->dr
open _root_.List renaming isEmpty_iff->bo,length->bp,length_append->bt,dropWhile_cons->bz,takeWhile_cons->c7,cons_append->cd,getElem?_eq_getElem->ce,getElem?_eq_none->cj,getElem?_append_left->cw,getElem?_append_right->cx,getElem?_of_mem->cy,getElem?_take_of_lt->cz,length_drop->da,map->db,mem_cons->dc,mem_of_getElem?->dd,not_mem_nil->de,append_nil->dx,contains_iff_mem->dy,drop_drop->dz,eq_nil_of_length_eq_zero->ec,ext_getElem?->ee,flatMap_cons->ef,intercalate->eg,length_cons->eh,length_take->ei,map_cons->ej,map_nil->ek,nil_append->em
open _root_.Nat renaming zero_le->bq,le_refl->ck,le_trans->df,lt_of_lt_of_le->dg,zero_add->eo
open _root_.Option renaming some->G,none->K,getD_some->cf,bind_some->cl,isSome_none->ep,isSome_some->er
open _root_.UInt8 renaming ofNat->bc,toNat_ofNat'->dh
variable{w w':ak}{A u j:C}{S X Y:C->Prop}{v:ar}{b:ab}{r t:Q ab}{s i:R}{o:ay ar}{a:ap az}{k e:B}
theorem zJZ (o:Q (R×R))(p:R×R):updQ (seenG o) p (.bool af)=seenG (o++[p]):=by
 funext x
 unfold updQ seenG;rw[List.any_append];by_cases h:x=p;·subst h;simp
 .rw[ah h];have:[p].any (λy=>decide (y=x))=false:=by simp;exact λe=>h (Eq.symm e)
  rw[this,dp]
theorem RS.seen {c:RC}{z:ap az}{F:ap az}{I:C}{S:Q Src}{M:Q Vir}{v:Q (R×R)}(h:RS c w z A F I S M v)(f:Fr (Is c.sm) w w'){p:R×R}
  (hQ:QMap w' c.sm (updQ (seenG v) p (.bool af)) ((v:C)+1)):RS c w' z A F I S M (v++[p]):=by
 have u:∀ o,c.ca=G o->¬ Is c.sm o.block:=λo e J=>by
  obtain⟨cs,N⟩:=(h.cb o e).2.2 o e;exact h.smo.ne_cells N J
 refine⟨f.heap h.k (λe=>h.smo.ne_cells h.k e),zG h.so f (λb y e=>by unfold Is at e;subst e;exact h.smo.ne_own h.so y),zG h.mo f (λb y e=>by unfold Is at e;subst e;exact h.smo.ne_own h.mo y),h.cs.fr f (λo e _=>u o e),λo e=>⟨(h.cb o e).1,(h.cb o e).2.1,(h.cb o e).2.2.fr f u⟩,h.wmo.fr f (λe=>h.ne e),?_,h.ne,h.lo,df h.b2l f.size⟩;rw[<-zJZ,bt];exact hQ
theorem zOE (c:RC)(sa:ap az)(sc:C)(ma:ap az)(mc:C)(S:Q Src)(M:Q Vir)(U:Q (R×R))(u v:R)(w:ak)(h:RS c w sa sc ma mc S M U)(hk:u.size<=c8)(hi:v.size<=c8)(hG:(U:C)<=100000):
  ax al 155 #[bm (G ⟨c.xb,0,K⟩),u,v] w λe w'=>e=.returned (.bool (!(U.any λx=>decide (x=(u,v)))))/\RS c w' sa sc ma mc S M (U++[(u,v)])/\Fr (Is c.sm) w w':=by
 obtain⟨W1,X,V,p1⟩:=zy w (aw #[u,v] 125);have Y:=h.no V;have a4:=zh V;obtain⟨F,y⟩:∃ F,F=U.any λx=>decide (x=(u,v)):=⟨_,rfl⟩
 have Z:aj ((seenG U (u,v)).getD (.bool a0)=.bool F):=by
  unfold aj seenG;rw[y];cases hq:U.any λx=>decide (x=(u,v))<;>simp
 rw[<-y];clear h V y;go_enter Tryz.func155,Tryz.ntmps155;go_upto_region 2 with(fail)
 rw[<-X];clear X;refine zO No [(0,a0),(1,a0),(2,a0),(3,a0),(4,a0),(5,a0),(6,a0)] (λw0 I=>?_);have J:=Y.no I;have p0:=I.heap p1 id;have d6:∀ g:Gr No w0,g.W ⟨c.xb,7,K⟩=G (.map (G c.sm)):=λg=>zB (g.fr.heap J.k id) 7
 have g0:∀ g:Gr No w0,g.W ⟨w,0,K⟩=G (au u):=λg=>zB (g.fr.heap p0 id) 0
 have g1:∀ g:Gr No w0,g.W ⟨w,1,K⟩=G (au v):=λg=>zB (g.fr.heap p0 id) 1
 have a2:∀ W,(∃ g:Gr No w0,W=g.W)->(Instr.lookup 132 (.map (G c.sm)) (be #[u,v]) a0).run al W=.ok (.bool F) W:=λW hW=>by
  obtain⟨g,rfl⟩:=hW;have:=(J.smo.fr g.fr id).look (zPl g.W) et hk hi;rw[this,Z]
 apply zR rfl rfl rfl;intro z A;go_big_quiet_op;go_big_quiet_on;apply zR rfl rfl rfl;intro z A;go_big_quiet_op;go_big_quiet_on;apply zR rfl rfl rfl;intro z A;go_big_quiet_op;go_big_quiet_on;apply zR rfl rfl rfl;intro z A;go_big_quiet_op;go_big_quiet_on;apply zR rfl rfl rfl;intro z A;go_big_quiet_op;go_big_quiet_on;apply zR rfl rfl rfl;intro z A;refine zB5 rfl _ _ 132 rfl (.map (G c.sm)) (be #[u,v]) _ rfl rfl a2 ?_
 go_frame
 go_big_quiet_on;apply zR rfl rfl rfl;intro z A;go_big_quiet_op;go_big_quiet_on;apply zY;have a5:=zh (a4.step I zi);clear a2 d6 g0 g1 p1 Y I;go_upto_region 3 with(fail)
 refine zO (Is c.sm) [(0,a0),(1,a0),(2,a0),(3,a0),(4,a0),(5,af)] (λw6 N=>?_);have o:=J.no N;have p6:=N.heap p0 id;have m6:∀ g:Gr (Is c.sm) w6,g.W ⟨c.xb,7,K⟩=G (.map (G c.sm)):=λg=>zB (g.fr.heap o.k (λh=>o.smo.ne_cells o.k h)) 7
 have g0:∀ g:Gr (Is c.sm) w6,g.W ⟨w,0,K⟩=G (au u):=λg=>zB (g.fr.heap p6 (λh=>o.smo.ne_cells p6 h)) 0
 have g1:∀ g:Gr (Is c.sm) w6,g.W ⟨w,1,K⟩=G (au v):=λg=>zB (g.fr.heap p6 (λh=>o.smo.ne_cells p6 h)) 1
 apply zR rfl rfl rfl;intro z A;go_big_quiet_op;go_big_quiet_on;apply zR rfl rfl rfl;intro z A;go_big_quiet_op;go_big_quiet_on;apply zR rfl rfl rfl;intro z A;go_big_quiet_op;go_big_quiet_on;apply zR rfl rfl rfl;intro z A;go_big_quiet_op;go_big_quiet_on;apply zR rfl rfl rfl;intro z A;go_big_quiet_op;go_big_quiet_on;clear m6 g0 g1;apply zu rfl;go_wp2_with (at_mapUpdate;refine zDi rfl _ _ _ 132 4 rfl et c.sm _ (U:C) (by unfold c8;omega) u v hk hi (.bool af) rfl o.smo rfl rfl ?_;intro w7 a3 O)
 apply zf O;apply zY;have HR:=zg2 (o.seen O a3) (((a5.step N zi).mono zn).step O zi);clear a3 O o J N p0 p6;go_wp2;go_ret;exact⟨rfl,HR.1,HR.2⟩
def mdP : R:=⟨#[47,109,100,45]⟩
def exB (ds:Q Dev)(gi:R):Bool:=(ds.find? (atP ds (mdP++gi))).isSome
theorem zNj (c:RC)(Y:ap az)(Z:C)(ma:ap az)(mc:C)(S:Q Src)(M:Q Vir)(a2:Q (R×R))(o:R)(ds:Q Dev)(z:C)(w:ak)(h:RS c w Y Z ma mc S M a2)(hi:o.size<=1000000)(U:Tr w z c.a c.cap ds)(I:c.n=(ds:C))(hn:(ds:C)<=1000):
  ax al 154 #[bm (G ⟨c.xb,0,K⟩),o] w λe w'=>e=.returned (.bool (exB ds o))/\Fr No w w':=by
 have V:w ⟨c.xb,2,K⟩=G (ao c.a c.n c.cap):=zB h.k 2;rw[I]at V;have A:=zDo c.a c.cap ds z (mdP++o) w U hn;have a3:((⟨#[47,109,100,45]⟩:R)++o).size<=9223372036854775807:=by rw[ByteArray.size_append];show 4+o.size<=_;omega
 have a4:¬ 9223372036854775807<4+o.size:=by omega
 have a5:4+o.size<=9223372036854775807:=by omega
 have F:aj (exB ds o=(ds.find? (atP ds (mdP++o))).isSome):=rfl;generalize exB ds o=ex at *;unfold mdP at A;clear h U;go_enter Tryz.func154,Tryz.ntmps154;go_wp2_with fail;apply A.mono;rintro e X ⟨hF,y⟩;clear A V;rcases hF with⟨u,rfl⟩|⟨d,J,N,la,u,rfl,-⟩
 .have O:ex=false:=by rw[F];show (ds.find? (atP ds ((⟨#[47,109,100,45]⟩:R)++o))).isSome=a0;rw[u];rfl
  subst O;have v:Fr No w (X.alloc (aw (ci cp) 41)):=y.alloc _;have F:=zh v;clear v u y;unfold ci cp at *;go_wp2;go_ret;exact⟨rfl,F⟩
 .have O:ex=true:=by rw[F];show (ds.find? (atP ds ((⟨#[47,109,100,45]⟩:R)++o))).isSome=af;rw[u];rfl
  subst O;have v:Fr No w (X.alloc (aw (ci { d with aa:=J,ac:=N }) 41)):=y.alloc _;have F:=zh v;clear v u y;unfold ci at *;go_wp2;go_ret;exact⟨rfl,F⟩
theorem zQg (x y:Src)(w:ak):ax al 163 #[be x.vals,be y.vals] w λe w'=>e=.returned (ai ae (cmpI x.at_ y.at_))/\∃ q o,w'=Go.Sort.grow (w.drewN q) o:=by
 obtain⟨u,h⟩:=ε ((w.alloc (aw x.vals 174)).alloc (aw y.vals 174))
 have v:u.heap[(w:C)]?=G (aw x.vals 174):=by rw[h];exact((ba No _).alloc _).heap (zF _ _) id
 have z:u.heap[(w:C)+1]?=G (aw y.vals 174):=by
  rw[h];have:=zF (w.alloc (aw x.vals 174)) (aw y.vals 174)
  rwa [World.size_alloc]at this
 have c1:=(SrcB0.of v).c0;have F:=(SrcB0.of z).c0;have A:aj (∃ q o,u=Go.Sort.grow (w.drewN q) o):=⟨0,_,by rw[h,alloc_eq_grow,alloc_eq_grow,grow_grow];rfl⟩
 clear v z;unfold Src.vals at h ⊢;go_enter es,Tryz.ntmps163;go_upto_region 1 with(fail)
 rw[<-h];clear h;go_wp2_with fail;apply (zLo x.at_ y.at_ u).mono;rintro e I ⟨rfl,rfl⟩;go_wp2;go_ret;exact⟨rfl,A⟩
instance : Inhabited Src:=⟨⟨0,cp,(),0⟩⟩
def encS (s:Src):Q ar:=s.vals.toList
theorem ltS (x y:Src):ltOf (λx y:Src=>cmpI x.at_ y.at_) x y=decide (x.at_<y.at_):=by
 unfold ltOf cmpI;by_cases h:x.at_<y.at_;·simp[h]
 .by_cases o:y.at_<x.at_<;>simp[h,o]
theorem swoS: SWO (ltOf λx y:Src=>cmpI x.at_ y.at_) where
 irrefl x:=by rw[ltS];simp
 trans x y z h1 h2:=by rw[ltS]at *;simp at *;omega
 ntrans x y z h1 h2:=by rw[ltS]at *;simp at *;omega
theorem layS (o u h:C)(w:ak):CmpLays al 163 #[] encS 13 (λx y:Src=>cmpI x.at_ y.at_) o u h w:=
 λ_ _ _ _ x y=>zQg x y _
theorem isAggS (w:ak):(isAgg 174).run al w=.ok af w:=by kernel_rfl
theorem sizeS (w:ak):(Go.sizeOf 174).run al w=.ok 13 w:=by kernel_rfl
theorem egS (args:ay ar)(w:ak):(callFunc 163 args).run al w=.ok (.enter 163 args) w:=enters_of es (by kernel_rfl) rfl _ _
theorem zOg (g h:C)(d:ay Src)(w:ak)(u:HoldsK encS 13 w g 0 d)(z:g<(w:C))(A:d.size<4611686018427387904):
  ax al 162 #[ao (G ⟨g,0,K⟩) d.size h,.func (.func 163) #[] #[]] w λe w'=>e=.returned (.tuple #[])/\∃ o n os,PermIn 0 d.size d o/\SortedIn (ltOf λx y:Src=>cmpI x.at_ y.at_) 0 d.size o/\w'=cg encS 13 w g 0 n o os:=
 AnyQ.slices_SortFunc Tryz.sortQ 13 isAggS sizeS encS (λ_=>rfl) (λx v F=>zCZ x v F) (λx y:Src=>cmpI x.at_ y.at_) swoS 163 #[] g 0 h d w egS (layS g 0 d.size w) u z A
theorem flatS (L:Q Src):(flatK encS 13 L.toArray).toList=sflat L:=by
 apply ee;intro t;by_cases h:t<(L:C)*13
 .have o:t / 13<(L:C):=by omega
  have u:=zFY L (t / 13) L[t / 13] (ce o) (t % 13) (by omega);rw[show t / 13*13+t % 13=t from by omega]at u;rw[u,bf,bn (by simpa using h),<-bu _ t (by simpa using h),get_flatK encS 13 L.toArray t (by simpa using h)];have v:L.toArray[t / 13]! = L[t / 13]:=by rw[bu _ _ (by simpa using o)];simp
  rw[v];have y:t % 13<(L[t / 13]).vals.size:=by show t % 13<13;omega
  rw[bn y,bu _ _ (by show t % 13<13;omega)];rfl
 .rw[cj (by simpa using Nat.le_of_not_lt h),cj (by rw[zGb];omega)]
theorem zMX (a:ap az)(c A:C)(S:Q Src)(w:ak)(N:w.ownsRow A 174 13 (ao a S c) (S:C) (sflat S))(Z:S≠[])(hS:(S:C)<=1000):
  ax al 162 #[ao a S c,.func (.func 163) #[] #[]] w λe w'=>e=.returned (.tuple #[])/\
   (∃ O:Q Src,O.Perm S/\O.Pairwise (λx y=>x.at_<=y.at_)/\w'.ownsRow A 174 13 (ao a O c) (O:C) (sflat O))/\Fr (λb=>(dj a S c).ownBlock=G b) w w':=by
 obtain⟨h0,⟨hv,h2⟩|⟨g,a7,F,hv,hg,U,h1,h2,h3,h4⟩⟩:=N;·exact absurd (ec h2) Z
 .injection hv with e1 e2 e3
  subst e1;subst e3;have V:∀ j u,(sflat S)[j]?=G u->F[j]?=G u:=λj u hu=>by
   rw[<-h4]at hu;rw[<-bf];have I:j<(S:C)*13:=by
    have:=(List.getElem?_eq_some_iff.1 hu).1;rw[ei]at this;omega
   rwa [cz I]at hu
  have hH:HoldsK encS 13 w g 0 S.toArray:=by
   unfold HoldsK Holds;intro j I;refine⟨?_,zD U _⟩;rw[zB U,eo];apply V j _;rw[<-flatS,bf,bn I,bu (flatK encS 13 S.toArray) j I];rfl
  have v:S.toArray.size=(S:C):=by simp
  have hs:=zOg g c S.toArray w hH (zC U) (by rw[v];omega);rw[v]at hs;apply hs.mono;rintro e w' ⟨rfl,o,n,os,hp,a2,rfl⟩;obtain⟨z,-,X⟩:=hp;rw[v]at z;have ex:∀ d:ay Src,d.size=(S:C)->(d.extract 0 (S:C))=d:=λd hd=>by rw[<-hd];simp
  rw[ex o z,ex S.toArray v]at X;have J:(o.toList:C)=(S:C):=by simpa using z
  have Y:(cg encS 13 w g 0 n o os).heap[g]?=G (aw (putCells id 0 (flatK encS 13 o) F) 174 (0,0)):=by
   unfold cg;have a3:g<(putRowK encS 13 (Go.Sort.ahead w n) g 0 o).heap.size:=by
    have:=zC U
    simpa [putRowK,Go.Sort.putRow,Go.Sort.mapBlock,Go.Sort.ahead]using this
   rw[Go.Sort.heap_grow_old _ _ a3];unfold putRowK Go.Sort.putRow Go.Sort.mapBlock;rw[dm,an rfl];show (w.heap[g]?).map _=_
   rw[U];rfl
  have a8:(flatK encS 13 o).size=(S:C)*13:=by rw[size_flatK,z]
  refine⟨rfl,⟨o.toList,by simpa using X,?_,?_⟩,?_⟩
  .rw[List.pairwise_iff_getElem];intro i j hi I a4;have:=a2 i j (bq _) a4 (by rw[J]at I;omega);rw[ltS]at this;have a5:i<o.size:=(by simpa using hi);have a6:j<o.size:=(by simpa using I);rw[bu o i a5,bu o j a6]at this;simp at this ⊢;exact this
  .rw[J];refine⟨by rw[zGb,J],.inr ⟨g,c,_,rfl,hg,Y,h1,h2,by simp[putCells,h3],?_⟩⟩;have ed:o=o.toList.toArray:=(by simp);rw[<-flatS,<-ed];apply ee;intro t;by_cases ht:t<(S:C)*13
   .rw[cz ht,bf,bf];have hc:t<F.size:=(by rw[h3];exact dg ht (Nat.mul_le_mul_right _ h1));unfold putCells;rw[Array.getElem?_mapIdx,bn hc,bn (by omega)];simp only[Option.map_some];rw[an ⟨bq _,by omega⟩,Nat.sub_zero,bu (flatK encS 13 o) t (by omega)];rfl
   .rw[cj (by rw[ei];omega),cj (by simp only[Array.length_toList];omega)]
  .have f1:Fr (Is g) w (putRowK encS 13 (Go.Sort.ahead w n) g 0 o):=⟨rfl,rfl,rfl,by simp[putRowK,Go.Sort.putRow,Go.Sort.mapBlock,Go.Sort.ahead],λk _ hk=>by
    unfold putRowK Go.Sort.putRow Go.Sort.mapBlock;simp only[dm];rw[ah (λe=>hk e.symm)];rfl⟩
   have f2:Fr (Is g) w (cg encS 13 w g 0 n o os):=f1.step (T:=No) ⟨rfl,rfl,rfl,by simp[cg,Go.Sort.grow],λk hk _=>Go.Sort.heap_grow_old _ os hk⟩ zn;exact f2.mono (λb _ h=>by unfold Is at h;subst h;rfl)
inductive Ct where
 | mk (kind:B) (id label:R) (slot total least:B) (inner:Q Ct)
namespace Ct
def kind : Ct->B | .mk k _ _ _ _ _ _=>k
def id : Ct->R | .mk _ i _ _ _ _ _=>i
def label : Ct->R | .mk _ _ l _ _ _ _=>l
def slot : Ct->B | .mk _ _ _ s _ _ _=>s
def total : Ct->B | .mk _ _ _ _ t _ _=>t
def least : Ct->B | .mk _ _ _ _ _ e _=>e
def inner : Ct->Q Ct | .mk _ _ _ _ _ _ n=>n
def zero : Ct:=.mk 0 () () 0 0 0 []
end Ct
def commas : Q (Q ab)->Q ab
 | []=>[]
 | [x]=>x
 | x::y::t=>x++44::commas (y::t)
abbrev bl (s:R):Q UInt8:=s.data.toList
def zCF (k:B)(i l:R)(s t e:B):Q UInt8:=
 if k=1 then [102,115,58]++bl i++[58]++bl l
 else if k=2 then [114,97,105,100,58]++bl i++[58]++ag s++[47]++ag t++[47]++ag e
 else if k=3 then [99,114,121,112,116,58]++bl i
 else if k=4 then [112,118,58]++bl i++[58]++ag s++[47]++ag t
 else if k=5 then [116,97,98,108,101,58]++bl i
 else []
def hasIn (k:B):Bool:=decide (k=2)||decide (k=3)||decide (k=4)||decide (k=5)
mutual
def Ct.text : Ct->Q ab
 | .mk k i l s t e n=>zCF k i l s t e++if hasIn k=af then 40::commas (Ct.texts n)++[41]else []
def Ct.texts : Q Ct->Q (Q ab)
 | []=>[]
 | c::t=>c.text::Ct.texts t
end
theorem zBn : ∀ l:Q Ct,Ct.texts l=l.map Ct.text
 | []=>rfl
 | c::t=>by rw[Ct.texts,zBn t];rfl
section
variable (i l:R)(s t e:B)(n:Q Ct)
theorem zOU: (Ct.mk 0 i l s t e n).text=[]:=by rw[Ct.text];rfl
theorem zKQ: (Ct.mk 1 i l s t e n).text=[102,115]++58::(bl i++58::bl l):=by rw[Ct.text];simp[zCF,hasIn]
theorem zJU: (Ct.mk 2 i l s t e n).text=[114,97,105,100]++58::(bl i++58::(ag s++47::(ag t++47::(ag e++40::(commas (n.map Ct.text)++[41]))))):=by rw[Ct.text,zBn];simp[zCF,hasIn]
theorem zMO: (Ct.mk 3 i l s t e n).text=[99,114,121,112,116]++58::(bl i++40::(commas (n.map Ct.text)++[41])):=by rw[Ct.text,zBn];simp[zCF,hasIn]
theorem zMN: (Ct.mk 4 i l s t e n).text=[112,118]++58::(bl i++58::(ag s++47::(ag t++40::(commas (n.map Ct.text)++[41])))):=by rw[Ct.text,zBn];simp[zCF,hasIn]
theorem zKP: (Ct.mk 5 i l s t e n).text=[116,97,98,108,101]++58::(bl i++40::(commas (n.map Ct.text)++[41])):=by rw[Ct.text,zBn];simp[zCF,hasIn]
end
def idByte (b:ab):Bool:=(decide (65<=b)&&decide (b<=90))||(decide (97<=b)&&decide (b<=122))||(decide (48<=b)&&decide (b<=57))||decide (b=95)||decide (b=46)||decide (b=45)
def isId (s:R):Bool:=!(bl s).isEmpty&&decide ((bl s).length<=16)&&(bl s).all idByte
def noNum (s t e:B):Bool:=decide (s=0)&&decide (t=0)&&decide (e=0)
def zAV (s t:B):Bool:=decide (1<=t)&&decide (t<=16)&&decide (1<=s)&&decide (s<=t)
def someIn (n:Q Ct):Bool:=decide (1<=(n:C))&&decide ((n:C)<=16)
def alike : Ct->aq
 | .mk k i l s t e n=>
  if k=0 then (bl i).isEmpty&&(bl l).isEmpty&&noNum s t e&&n.isEmpty
  else if k=1 then isId i&&((bl l).isEmpty||isId l)&&noNum s t e&&n.isEmpty
  else if k=2 then isId i&&(bl l).isEmpty&&zAV s t&&decide (1<=e)&&decide (e<=t)&&decide ((n:C)=1)
  else if k=3 then isId i&&(bl l).isEmpty&&noNum s t e&&decide ((n:C)=1)
  else if k=4 then isId i&&(bl l).isEmpty&&zAV s t&&decide (e=0)&&someIn n
  else if k=5 then isId i&&(bl l).isEmpty&&noNum s t e&&someIn n
  else a0
mutual
def Ct.good : Ct->aq
 | .mk k i l s t e n=>alike (.mk k i l s t e n)&&Ct.goods n
def Ct.goods : Q Ct->aq
 | []=>af
 | c::t=>c.good&&Ct.goods t
end
mutual
def Ct.depth : Ct->C
 | .mk k _ _ _ _ _ n=>if k=0 then Ct.depths n else Ct.depths n+1
def Ct.depths : Q Ct->C
 | []=>0
 | c::t=>max c.depth (Ct.depths t)
end
def Ct.valid (c:Ct):Bool:=decide (c.depth<=6)&&c.good
def upto (ends r:Q ab):Q UInt8:=r.takeWhile λb=>!ends.contains b
def past (ends r:Q ab):Q UInt8:=r.dropWhile λb=>!ends.contains b
theorem zAe (ends r:Q ab):upto ends r++past ends r=r:=List.takeWhile_append_dropWhile
def zX (b:ab):Q ab->ap (Q ab)
 | []=>K
 | x::t=>if x=b then G t else K
theorem zt (h:zX b r=G t):r=b::t:=by
 cases r with
 | nil=>cases h
 | cons x r=>
  simp only[zX]at h;by_cases e:x=b;·rw[an e]at h;injection h with h;rw[e,h]
  .rw[ah e]at h;cases h
def pNum (r:Q ab):ap (B×Q ab):=
 match cq (upto [47,40,44,41,58] r)with
 | .ok v=>if ag v=upto [47,40,44,41,58] r then G (v,past [47,40,44,41,58] r)else K
 | _=>K
theorem zBK {r':Q ab}{v:B}(h:pNum r=G (v,r')):r=ag v++r':=by
 unfold pNum at h;split at h
 .split at h
  .rename_i e;injection h with h
   injection h with h1 h2
   subst h1;subst h2;rw[e,zAe]
  .cases h
 .cases h
mutual
def pC : C->Q ab->ap (Ct×Q ab)
 | 0,_=>K
 | n+1,r=>
  if upto [58,44,41] r=[]then G (Ct.zero,r)else
  (zX 58 (past [58,44,41] r)).bind λr2=>
  let id:R:=⟨(upto [58,40,44,41] r2).toArray⟩
  let r3:=past [58,40,44,41] r2
  if upto [58,44,41] r=[102,115]then
   (zX 58 r3).bind λr4=>G (.mk 1 id ⟨(upto [44,41] r4).toArray⟩ 0 0 0 [],past [44,41] r4)
  else if upto [58,44,41] r=[114,97,105,100]then
   (zX 58 r3).bind λr4=>(pNum r4).bind λp5=>(zX 47 p5.2).bind λr6=>(pNum r6).bind λp7=>(zX 47 p7.2).bind λr8=>(pNum r8).bind λp9=>
    (zX 40 p9.2).bind λra=>(pL n [] ra).bind λpb=>G (.mk 2 id () p5.1 p7.1 p9.1 pb.1,pb.2)
  else if upto [58,44,41] r=[99,114,121,112,116]then
   (zX 40 r3).bind λra=>(pL n [] ra).bind λpb=>G (.mk 3 id () 0 0 0 pb.1,pb.2)
  else if upto [58,44,41] r=[112,118]then
   (zX 58 r3).bind λr4=>(pNum r4).bind λp5=>(zX 47 p5.2).bind λr6=>(pNum r6).bind λp7=>
    (zX 40 p7.2).bind λra=>(pL n [] ra).bind λpb=>G (.mk 4 id () p5.1 p7.1 0 pb.1,pb.2)
  else if upto [58,44,41] r=[116,97,98,108,101]then
   (zX 40 r3).bind λra=>(pL n [] ra).bind λpb=>G (.mk 5 id () 0 0 0 pb.1,pb.2)
  else K
def pL : C->Q Ct->Q ab->ap (Q Ct×Q ab)
 | 0,_,_=>K
 | n+1,acc,r=>(pC n r).bind λp=>
  match zX 41 p.2 with
  | some r2=>G (acc++[p.1],r2)
  | none=>(zX 44 p.2).bind λr2=>pL n (acc++[p.1]) r2
end
theorem zEW : ∀ (l:Q (Q ab)) (x:Q ab),l≠[]->commas (l++[x])=commas l++44::x
 | [],x,h=>absurd rfl h
 | [y],x,_=>rfl
 | y::z::t,x,_=>by
  show commas (y::z::(t++[x]))=_
  have h:=zEW (z::t) x (by simp);simp only[commas,cd]at h ⊢;rw[h];simp
theorem zEn (l:Q ab):bl (⟨l.toArray⟩:R)=l:=by simp[bl]
def zCU (acc:Q Ct):Q UInt8:=if acc=[]then []else commas (acc.map Ct.text)++[44]
theorem zJN (o:Q Ct)(c:Ct):zCU o++c.text=commas ((o++[c]).map Ct.text):=by
 unfold zCU;by_cases h:o=[]
 .subst h;simp[commas]
 .rw[ah h,List.map_append,ej,ek,zEW _ _ (by simpa using h)];simp
theorem zMH (h:Q Ct)(c:Ct):zCU (h++[c])=zCU h++c.text++[44]:=by
 rw[zJN];unfold zCU;rw[ah (by simp)]
theorem zKy : ∀ n:C,(∀ r c r',pC n r=G (c,r')->r=c.text++r')/\(∀ F r l r',pL n F r=G (l,r')->zCU F++r=commas (l.map Ct.text)++41::r')
 | 0=>⟨λr c r' h=>by simp[pC]at h,λF r l r' h=>by simp[pL]at h⟩
 | n+1=>by
  obtain⟨a2,Z⟩:=zKy n;have I:∀ z (y:Q Ct×Q ab),pL n [] z=G y->z=commas (y.1.map Ct.text)++41::y.2:=λz y h=>by
   have:=Z [] z y.1 y.2 h
   simpa [zCU]using this
  refine⟨λr c r' h=>?_,λF r l r' h=>?_⟩
  .have N:=zAe [58,44,41] r;rw[pC]at h;by_cases h0:upto [58,44,41] r=[]
   .rw[an h0]at h;injection h with h
    injection h with h1 h2
    subst h1;subst h2;rw[Ct.zero,zOU];rfl
   rw[ah h0]at h;obtain⟨Y,O,h⟩:=Option.bind_eq_some_iff.1 h;have e2:=zt O;have o:=zAe [58,40,44,41] Y;rw[e2]at N;simp only at h;generalize upto [58,40,44,41] Y=di at h o;generalize past [58,40,44,41] Y=r3 at h o;generalize upto [58,44,41] r=kd at h N;split at h
   .rename_i J;obtain⟨r4,A,h⟩:=Option.bind_eq_some_iff.1 h;have e4:=zt A;have hl:=zAe [44,41] r4;generalize upto [44,41] r4=lb at h hl;generalize past [44,41] r4=rs at h hl;injection h with h
    injection h with h1 h2
    subst h1;subst h2;rw[zKQ,zEn,zEn];rw[<-N,J,<-o,e4,<-hl];simp
   split at h
   .rename_i J;obtain⟨r4,A,h⟩:=Option.bind_eq_some_iff.1 h;obtain⟨p5,U,h⟩:=Option.bind_eq_some_iff.1 h;obtain⟨r6,V,h⟩:=Option.bind_eq_some_iff.1 h;obtain⟨p7,X,h⟩:=Option.bind_eq_some_iff.1 h;obtain⟨r8,a3,h⟩:=Option.bind_eq_some_iff.1 h;obtain⟨p9,a4,h⟩:=Option.bind_eq_some_iff.1 h;obtain⟨z,u,h⟩:=Option.bind_eq_some_iff.1 h;obtain⟨y,v,h⟩:=Option.bind_eq_some_iff.1 h;injection h with h
    injection h with h1 h2
    subst h1;subst h2;have e5:=zBK U;have e7:=zBK X;have e9:=zBK a4;rw[zJU,zEn];rw[<-N,J,<-o,zt A,e5,zt V,e7,zt a3,e9,zt u,I z y v];simp
   split at h
   .rename_i J;obtain⟨z,u,h⟩:=Option.bind_eq_some_iff.1 h;obtain⟨y,v,h⟩:=Option.bind_eq_some_iff.1 h;injection h with h
    injection h with h1 h2
    subst h1;subst h2;rw[zMO,zEn];rw[<-N,J,<-o,zt u,I z y v];simp
   split at h
   .rename_i J;obtain⟨r4,A,h⟩:=Option.bind_eq_some_iff.1 h;obtain⟨p5,U,h⟩:=Option.bind_eq_some_iff.1 h;obtain⟨r6,V,h⟩:=Option.bind_eq_some_iff.1 h;obtain⟨p7,X,h⟩:=Option.bind_eq_some_iff.1 h;obtain⟨z,u,h⟩:=Option.bind_eq_some_iff.1 h;obtain⟨y,v,h⟩:=Option.bind_eq_some_iff.1 h;injection h with h
    injection h with h1 h2
    subst h1;subst h2;have e5:=zBK U;have e7:=zBK X;rw[zMN,zEn];rw[<-N,J,<-o,zt A,e5,zt V,e7,zt u,I z y v];simp
   split at h
   .rename_i J;obtain⟨z,u,h⟩:=Option.bind_eq_some_iff.1 h;obtain⟨y,v,h⟩:=Option.bind_eq_some_iff.1 h;injection h with h
    injection h with h1 h2
    subst h1;subst h2;rw[zKP,zEn];rw[<-N,J,<-o,zt u,I z y v];simp
   .cases h
  .rw[pL]at h;obtain⟨p,hp,h⟩:=Option.bind_eq_some_iff.1 h;have e1:=a2 r p.1 p.2 hp;cases hs:zX 41 p.2 with
   | some Y=>
    rw[hs]at h;simp only at h;injection h with h
    injection h with h1 h2
    subst h1;subst h2;rw[<-zJN,e1,zt hs];simp
   | none=>
    rw[hs]at h;simp only at h;obtain⟨Y,O,h⟩:=Option.bind_eq_some_iff.1 h;have:=Z _ Y l r' h;rw[zMH]at this;rw[<-this,e1,zt O];simp
theorem zAK {ends:Q ab}:∀ {w:Q ab} {b:ab} {t:Q ab},(∀ x∈w,ends.contains x=a0)->ends.contains b=af->upto ends (w++b::t)=w/\past ends (w++b::t)=b::t
 | [],b,t,_,h=>by
  simp only[upto,past,em,c7,bz,h];simp
 | x::w,b,t,u,h=>by
  have v:=u x (by simp);have o:=zAK (w:=w) (b:=b) (t:=t) (λy z=>u y (by simp[z])) h;simp only[upto,past,cd,c7,bz,v,bv,bd]at o ⊢;rw[o.1,o.2];exact⟨rfl,rfl⟩
theorem zH8 {ends:Q ab}:∀ {w:Q ab},(∀ x∈w,ends.contains x=a0)->upto ends w=w/\past ends w=[]
 | [],_=>⟨rfl,rfl⟩
 | x::w,o=>by
  have u:=o x (by simp);have h:=zH8 (w:=w) (λy v=>o y (by simp[v]));simp only[upto,past,c7,bz,u,bv,bd]at h ⊢;rw[h.1,h.2];exact⟨rfl,rfl⟩
theorem zBX (b:ab)(t:Q ab):zX b (b::t)=G t:=by simp[zX]
theorem zG3 (k:C)(o:1<=k)(u:k<=16):bs k=if k<10 then [bc (48+k)]else [49,bc (48+k % 10)]:=by
 rw[bs];by_cases h:k<10;·rw[dif_pos h,an h]
 .rw[dif_neg h,ah h,bs,dif_pos (by omega)];have:k / 10=1:=by omega
  rw[this];rfl
theorem zD9 (v:B)(F:1<=v)(I:v<=16)(b:ab)(t:Q ab)(o:([47,40,44,41,58]:Q ab).contains b=af):pNum (ag v++b::t)=G (v,b::t):=by
 obtain⟨k,rfl⟩:=Int.eq_ofNat_of_zero_le (show 0<=v by omega);have u:=zG3 k (by omega) (by omega);have y:ag (k:B)=bs k:=by unfold ag;rw[ah (by omega)];simp
 have h:(∀ x∈ag (k:B),([47,40,44,41,58]:Q ab).contains x=a0)/\cq (ag (k:B))=.ok (k:B):=by
  rw[y,u];rcases(by omega:k=1\/k=2\/k=3\/k=4\/k=5\/k=6\/k=7\/k=8\/k=9\/k=10\/k=11\/k=12\/k=13\/k=14\/k=15\/k=16)with rfl|rfl|rfl|rfl|rfl|rfl|rfl|rfl|rfl|rfl|rfl|rfl|rfl|rfl|rfl|rfl<;>exact⟨by decide,rfl⟩
 obtain⟨z,A⟩:=zAK (t:=t) h.1 o;unfold pNum;rw[z,A,h.2];simp
theorem zLR (h:isId s=af):∀ x∈bl s,x≠58/\x≠40/\x≠44/\x≠41/\x≠47:=by
 unfold isId at h;simp only[am,List.all_eq_true]at h;intro x o;have u:=h.2 x o;refine⟨?_,?_,?_,?_,?_⟩<;>(rintro rfl;revert u;decide)
theorem zDt (h:isId s=af):∀ x∈bl s,([58,40,44,41]:Q ab).contains x=false:=by
 intro x o;obtain⟨u,v,y,z,A⟩:=zLR h x o;simp[u,v,y,z]
theorem zJX (h:((bl s).isEmpty||isId s)=af):∀ x∈bl s,([44,41]:Q ab).contains x=false:=by
 intro x o;rw[co]at h;rcases h with h|h
 .rw[bo]at h;rw[h]at o;simp at o
 .obtain⟨y,z,u,v,A⟩:=zLR h x o;simp[u,v]
theorem zBi (h:(bl s).isEmpty=af):s=():=by
 rw[bo]at h;apply dr;apply dk
 simpa [bl]using h
theorem zP6 (s:R):(⟨(bl s).toArray⟩:R)=s:=by simp[bl]
def Stop (r:Q ab):Prop:=r=[]\/∃ b t,r=b::t/\(b=44\/b=41)
theorem Stop.c (h:Stop r):upto [58,44,41] r=[]/\past [58,44,41] r=r:=by
 rcases h with rfl|⟨b,t,rfl,h⟩
 .exact⟨rfl,rfl⟩
 .have:=zAK (ends:=[58,44,41]) (w:=[]) (b:=b) (t:=t) (by simp) (by rcases h with rfl|rfl<;>rfl)
  simpa using this
theorem Stop.l (h:Stop r){w:Q ab}(o:∀ x∈w,([44,41]:Q ab).contains x=a0):upto [44,41] (w++r)=w/\past [44,41] (w++r)=r:=by
 rcases h with rfl|⟨b,t,rfl,h⟩
 .rw[dx];exact zH8 o
 .exact zAK o (by rcases h with rfl|rfl<;>rfl)
theorem zLV (c:Ct):c.good=(alike c&&Ct.goods c.inner):=by
 obtain⟨k,i,l,s,t,e,n⟩:=c;rw[Ct.good];rfl
theorem zGy : ∀ l:Q Ct,Ct.goods l=l.all Ct.good
 | []=>rfl
 | c::t=>by rw[Ct.goods,zGy t];rfl
theorem zNx : ∀ n:C,(∀ c o,Ct.good c=af->Stop o->(c.text++o).length<n->pC n (c.text++o)=G (c,o))/\
  (∀ O cs o,cs≠[]->Ct.goods cs=af->(commas (cs.map Ct.text)++41::o).length+1<n->pL n O (commas (cs.map Ct.text)++41::o)=G (O++cs,o))
 | 0=>⟨λc o _ _ h=>by omega,λO cs o _ _ h=>by omega⟩
 | n+1=>by
  obtain⟨a3,a4⟩:=zNx n;refine⟨λc o hg hs A=>?_,λO cs o z hg A=>?_⟩
  .obtain⟨k,i,l,s,t,e,v⟩:=c;rw[zLV,am]at hg;obtain⟨F,hi⟩:=hg;have X:∀ y,y=commas (v.map Ct.text)++41::o->v≠[]->y.length+1<n->pL n [] y=G (v,o):=by
    rintro y rfl z Y;have:=a4 [] v o z hi Y
    simpa using this
   simp only[alike,noNum,zAV,someIn]at F;by_cases k0:k=0
   .subst k0;simp only[bd,am,bh,bo]at F;obtain⟨⟨⟨U,N⟩,⟨V,Z⟩,h5⟩,h6⟩:=F;have e1:=zBi (by rw[bo];exact U);have e2:=zBi (by rw[bo];exact N);subst e1;subst e2;subst V;subst Z;subst h5;subst h6;rw[zOU,em,pC];simp[hs.c.1,Ct.zero]
   by_cases k1:k=1
   .subst k1;simp only[bd,ah (show ¬ (1:B)=0 by decide),am,bh,bo]at F;obtain⟨⟨⟨U,N⟩,⟨V,Z⟩,h5⟩,h6⟩:=F;subst V;subst Z;subst h5;subst h6;have I:=zAK (ends:=[58,44,41]) (w:=[102,115]) (b:=58) (t:=bl i++58::(bl l++o)) (by decide) rfl;have J:=zAK (ends:=[58,40,44,41]) (w:=bl i) (b:=58) (t:=bl l++o) (zDt U) rfl;have u3:=hs.l (zJX N);rw[zKQ]at A ⊢;rw[show [102,115]++58::(bl i++58::bl l)++o=[102,115]++58::(bl i++58::(bl l++o)) by simp];rw[pC,I.1,I.2];simp[zBX,J.1,J.2,u3.1,u3.2]
   by_cases k2:k=2
   .subst k2;simp only[bd,ah (show ¬ (2:B)=0 by decide),ah (show ¬ (2:B)=1 by decide),am,bh]at F;obtain⟨⟨⟨⟨⟨U,N⟩,⟨⟨V,Z⟩,h5⟩,h6⟩,h7⟩,h8⟩,h9⟩:=F;have e2:=zBi N;subst e2;have z:v≠[]:=by intro h;subst h;simp at h9
    rw[zJU]at A ⊢;rw[show [114,97,105,100]++58::(bl i++58::(ag s++47::(ag t++47::(ag e++40::(commas (v.map Ct.text)++[41])))))++o=[114,97,105,100]++58::(bl i++58::(ag s++47::(ag t++47::(ag e++40::(commas (v.map Ct.text)++41::o))))) by simp]at A ⊢;generalize a2:commas (v.map Ct.text)++41::o=y at *;have I:=zAK (ends:=[58,44,41]) (w:=[114,97,105,100]) (b:=58) (t:=bl i++58::(ag s++47::(ag t++47::(ag e++40::y)))) (by decide) rfl;have J:=zAK (ends:=[58,40,44,41]) (w:=bl i) (b:=58) (t:=ag s++47::(ag t++47::(ag e++40::y))) (zDt U) rfl;have n1:=zD9 s (by omega) (by omega) 47 (ag t++47::(ag e++40::y)) rfl;have n2:=zD9 t (by omega) (by omega) 47 (ag e++40::y) rfl;have n3:=zD9 e (by omega) (by omega) 40 y rfl;have Y:=X y rfl z (by simp at A;omega);rw[pC,I.1,I.2];simp[zBX,J.1,J.2,n1,n2,n3,Y]
   by_cases k3:k=3
   .subst k3;simp only[bd,ah (show ¬ (3:B)=0 by decide),ah (show ¬ (3:B)=1 by decide),ah (show ¬ (3:B)=2 by decide),am,bh]at F;obtain⟨⟨⟨U,N⟩,⟨V,Z⟩,h5⟩,h9⟩:=F;have e2:=zBi N;subst e2;subst V;subst Z;subst h5;have z:v≠[]:=by intro h;subst h;simp at h9
    rw[zMO]at A ⊢;rw[show [99,114,121,112,116]++58::(bl i++40::(commas (v.map Ct.text)++[41]))++o=[99,114,121,112,116]++58::(bl i++40::(commas (v.map Ct.text)++41::o)) by simp]at A ⊢;generalize a2:commas (v.map Ct.text)++41::o=y at *;have I:=zAK (ends:=[58,44,41]) (w:=[99,114,121,112,116]) (b:=58) (t:=bl i++40::y) (by decide) rfl;have J:=zAK (ends:=[58,40,44,41]) (w:=bl i) (b:=40) (t:=y) (zDt U) rfl;have Y:=X y rfl z (by simp at A;omega);rw[pC,I.1,I.2];simp[zBX,J.1,J.2,Y]
   by_cases k4:k=4
   .subst k4;simp only[bd,ah (show ¬ (4:B)=0 by decide),ah (show ¬ (4:B)=1 by decide),ah (show ¬ (4:B)=2 by decide),ah (show ¬ (4:B)=3 by decide),am,bh]at F;obtain⟨⟨⟨⟨U,N⟩,⟨⟨V,Z⟩,h5⟩,h6⟩,h7⟩,h8,h9⟩:=F;have e2:=zBi N;subst e2;subst h7;have z:v≠[]:=by intro h;subst h;simp at h8
    rw[zMN]at A ⊢;rw[show [112,118]++58::(bl i++58::(ag s++47::(ag t++40::(commas (v.map Ct.text)++[41]))))++o=[112,118]++58::(bl i++58::(ag s++47::(ag t++40::(commas (v.map Ct.text)++41::o)))) by simp]at A ⊢;generalize a2:commas (v.map Ct.text)++41::o=y at *;have I:=zAK (ends:=[58,44,41]) (w:=[112,118]) (b:=58) (t:=bl i++58::(ag s++47::(ag t++40::y))) (by decide) rfl;have J:=zAK (ends:=[58,40,44,41]) (w:=bl i) (b:=58) (t:=ag s++47::(ag t++40::y)) (zDt U) rfl;have n1:=zD9 s (by omega) (by omega) 47 (ag t++40::y) rfl;have n2:=zD9 t (by omega) (by omega) 40 y rfl;have Y:=X y rfl z (by simp at A;omega);rw[pC,I.1,I.2];simp[zBX,J.1,J.2,n1,n2,Y]
   by_cases k5:k=5
   .subst k5;simp only[bd,ah (show ¬ (5:B)=0 by decide),ah (show ¬ (5:B)=1 by decide),ah (show ¬ (5:B)=2 by decide),ah (show ¬ (5:B)=3 by decide),ah (show ¬ (5:B)=4 by decide),am,bh]at F;obtain⟨⟨⟨U,N⟩,⟨V,Z⟩,h5⟩,h8,h9⟩:=F;have e2:=zBi N;subst e2;subst V;subst Z;subst h5;have z:v≠[]:=by intro h;subst h;simp at h8
    rw[zKP]at A ⊢;rw[show [116,97,98,108,101]++58::(bl i++40::(commas (v.map Ct.text)++[41]))++o=[116,97,98,108,101]++58::(bl i++40::(commas (v.map Ct.text)++41::o)) by simp]at A ⊢;generalize a2:commas (v.map Ct.text)++41::o=y at *;have I:=zAK (ends:=[58,44,41]) (w:=[116,97,98,108,101]) (b:=58) (t:=bl i++40::y) (by decide) rfl;have J:=zAK (ends:=[58,40,44,41]) (w:=bl i) (b:=40) (t:=y) (zDt U) rfl;have Y:=X y rfl z (by simp at A;omega);rw[pC,I.1,I.2];simp[zBX,J.1,J.2,Y]
   simp[k0,k1,k2,k3,k4,k5]at F
  .cases cs with
   | nil=>exact absurd rfl z
   | cons c t=>
    rw[Ct.goods,am]at hg;rw[pL];cases t with
    | nil=>
     simp only[ej,ek,commas]at A ⊢;rw[a3 c (41::o) hg.1 (.inr ⟨_,_,rfl,.inr rfl⟩) (by omega)];simp[zBX]
    | cons d u=>
     have e:commas (db Ct.text (c::d::u))++41::o=c.text++44::(commas (db Ct.text (d::u))++41::o):=by
      simp[commas]
     rw[e]at A ⊢;rw[a3 c _ hg.1 (.inr ⟨_,_,rfl,.inl rfl⟩) (by omega)];have N:zX 41 (44::(commas (db Ct.text (d::u))++41::o))=none:=(by simp[zX]);have V:=a4 (O++[c]) (d::u) o (by simp) hg.2 (by simp at A ⊢;omega);simp only[cl,N,zBX,V];simp
def parseC (s:R):ap Ct:=
 if 256<(bl s).length then K else
 match pC ((bl s).length+1) (bl s)with
 | some (c,[])=>if c.valid=af then G c else K
 | _=>K
theorem zBJ (s:R)(c:Ct):parseC s=G c↔(bl s).length<=256/\c.valid=af/\c.text=bl s:=by
 unfold parseC;constructor
 .intro h;split at h;·cases h
  .rename_i A;split at h
   .rename_i F v;split at h
    .rename_i y;injection h with h
     subst h;have:=(zKy _).1 _ _ _ v;exact⟨by omega,y,by rw[this];simp⟩
    .cases h
   .cases h
 .rintro ⟨I,o,u⟩;rw[ah (by omega)];have z:c.good=true:=by unfold Ct.valid at o;rw[am]at o;exact o.2
  have:=(zNx ((bl s).length+1)).1 c [] z (.inl rfl) (by simp[u]);rw[dx,u]at this;rw[this];simp[o]
mutual
def Ct.count : Ct->C
 | .mk _ _ _ _ _ _ n=>Ct.counts n+1
def Ct.counts : Q Ct->C
 | []=>0
 | c::t=>c.count+Ct.counts t
end
theorem zAj : ∀ (l m:Q Ct),Ct.counts (l++m)=Ct.counts l+Ct.counts m
 | [],m=>by simp[Ct.counts]
 | c::t,m=>by rw[cd,Ct.counts,Ct.counts,zAj t m];omega
mutual
theorem zEV: ∀ c:Ct,c.depth<=c.count
 | .mk k i l s t e n=>by
  have h:=zBh n;rw[Ct.depth,Ct.count];split<;>omega
theorem zBh : ∀ l:Q Ct,Ct.depths l<=Ct.counts l
 | []=>by simp[Ct.depths,Ct.counts]
 | c::t=>by
  have h:=zEV c;have o:=zBh t;rw[Ct.depths,Ct.counts];omega
end
theorem zG7: ∀ c:Ct,0<c.count
 | .mk k i l s t e n=>by rw[Ct.count];omega
theorem zAm : ∀ l:Q Ct,(l:C)<=Ct.counts l
 | []=>by simp
 | c::t=>by
  have h:=zG7 c;have o:=zAm t;rw[eh,Ct.counts];omega
theorem zBO {c:Ct}:∀ {l:Q Ct},c∈l->c.count<=Ct.counts l
 | [],h=>by cases h
 | d::t,h=>by
  rw[Ct.counts];rcases List.mem_cons.1 h with rfl|h
  .omega
  .have:=zBO h;omega
theorem zGp {c:Ct}:∀ {l:Q Ct},c∈l->c.depth<=Ct.depths l
 | [],h=>by cases h
 | d::t,h=>by
  rw[Ct.depths];rcases List.mem_cons.1 h with rfl|h
  .omega
  .have:=zGp h;omega
theorem zEU : ∀ (l:Q Ct) (c:Ct),Ct.depths (l++[c])=max (Ct.depths l) c.depth
 | [],c=>by simp[Ct.depths]
 | d::t,c=>by rw[cd,Ct.depths,Ct.depths,zEU t c];omega
theorem zB8 (ends r:Q ab):(past ends r).length<=(r:C):=by
 have h:=bi bp (zAe ends r);rw[bt]at h;omega
theorem zg (h:zX b r=G t):(r:C)=(t:C)+1:=by rw[zt h];rfl
theorem zAn {p:B×Q ab}(h:pNum r=G p):p.2.length<=(r:C):=by
 have:=bi bp (zBK (v:=p.1) (r':=p.2) h);rw[bt]at this;omega
theorem zFj : ∀ n:C,(∀ r c r',pC n r=G (c,r')->c.count+r'.length<=r.length+1)/\(∀ A r l r',pL n A r=G (l,r')->Ct.counts l+r'.length<=Ct.counts A+r.length)
 | 0=>⟨λr c r' h=>by simp[pC]at h,λA r l r' h=>by simp[pL]at h⟩
 | n+1=>by
  obtain⟨X,V⟩:=zFj n;have F:∀ y (v:Q Ct×Q ab),pL n [] y=G v->Ct.counts v.1+v.2.length<=y.length:=λy v h=>by
   have:=V [] y v.1 v.2 h
   simpa [Ct.counts]using this
  refine⟨λr c r' h=>?_,λA r l r' h=>?_⟩
  .have hr:=zB8 [58,44,41] r;rw[pC]at h;by_cases h0:upto [58,44,41] r=[]
   .rw[an h0]at h;injection h with h
    injection h with h1 h2
    subst h1;subst h2;simp[Ct.zero,Ct.count,Ct.counts];omega
   rw[ah h0]at h;obtain⟨U,I,h⟩:=Option.bind_eq_some_iff.1 h;have e2:=zg I;have Y:=zB8 [58,40,44,41] U;simp only at h;generalize upto [58,40,44,41] U=di at h;generalize past [58,40,44,41] U=r3 at h Y;split at h
   .obtain⟨Z,z,h⟩:=Option.bind_eq_some_iff.1 h;have e4:=zg z;have hl:=zB8 [44,41] Z;injection h with h
    injection h with h1 h2
    subst h1;subst h2;simp[Ct.count,Ct.counts];omega
   split at h
   .obtain⟨Z,z,h⟩:=Option.bind_eq_some_iff.1 h;obtain⟨p5,J,h⟩:=Option.bind_eq_some_iff.1 h;obtain⟨r6,N,h⟩:=Option.bind_eq_some_iff.1 h;obtain⟨p7,O,h⟩:=Option.bind_eq_some_iff.1 h;obtain⟨r8,a2,h⟩:=Option.bind_eq_some_iff.1 h;obtain⟨p9,a3,h⟩:=Option.bind_eq_some_iff.1 h;obtain⟨y,o,h⟩:=Option.bind_eq_some_iff.1 h;obtain⟨v,u,h⟩:=Option.bind_eq_some_iff.1 h;injection h with h
    injection h with h1 h2
    subst h1;subst h2;have e5:=zAn J;have e7:=zAn O;have e9:=zAn a3;have e4:=zg z;have e6:=zg N;have e8:=zg a2;have ea:=zg o;have eb:=F y v u;rw[Ct.count];omega
   split at h
   .obtain⟨y,o,h⟩:=Option.bind_eq_some_iff.1 h;obtain⟨v,u,h⟩:=Option.bind_eq_some_iff.1 h;injection h with h
    injection h with h1 h2
    subst h1;subst h2;have ea:=zg o;have eb:=F y v u;rw[Ct.count];omega
   split at h
   .obtain⟨Z,z,h⟩:=Option.bind_eq_some_iff.1 h;obtain⟨p5,J,h⟩:=Option.bind_eq_some_iff.1 h;obtain⟨r6,N,h⟩:=Option.bind_eq_some_iff.1 h;obtain⟨p7,O,h⟩:=Option.bind_eq_some_iff.1 h;obtain⟨y,o,h⟩:=Option.bind_eq_some_iff.1 h;obtain⟨v,u,h⟩:=Option.bind_eq_some_iff.1 h;injection h with h
    injection h with h1 h2
    subst h1;subst h2;have e5:=zAn J;have e7:=zAn O;have e4:=zg z;have e6:=zg N;have ea:=zg o;have eb:=F y v u;rw[Ct.count];omega
   split at h
   .obtain⟨y,o,h⟩:=Option.bind_eq_some_iff.1 h;obtain⟨v,u,h⟩:=Option.bind_eq_some_iff.1 h;injection h with h
    injection h with h1 h2
    subst h1;subst h2;have ea:=zg o;have eb:=F y v u;rw[Ct.count];omega
   .cases h
  .rw[pL]at h;obtain⟨p,hp,h⟩:=Option.bind_eq_some_iff.1 h;have e1:=X r p.1 p.2 hp;cases hs:zX 41 p.2 with
   | some U=>
    rw[hs]at h;simp only at h;injection h with h
    injection h with h1 h2
    subst h1;subst h2;have e2:=zg hs;rw[zAj];simp only[Ct.counts];omega
   | none=>
    rw[hs]at h;simp only at h;obtain⟨U,I,h⟩:=Option.bind_eq_some_iff.1 h;have e2:=zg I;have:=V _ U l r' h;rw[zAj]at this;simp only[Ct.counts]at this;omega
mutual
def Ct.walk : Ct->Q Ct
 | .mk k i l s t e n=>.mk k i l s t e n::Ct.walks n
def Ct.walks : Q Ct->Q Ct
 | []=>[]
 | c::t=>c.walk++Ct.walks t
end
mutual
theorem zDU: ∀ c:Ct,(c.walk:C)=c.count
 | .mk k i l s t e n=>by rw[Ct.walk,Ct.count,eh,zCW n]
theorem zCW : ∀ l:Q Ct,(Ct.walks l).length=Ct.counts l
 | []=>rfl
 | c::t=>by rw[Ct.walks,Ct.counts,bt,zDU c,zCW t]
end
theorem zA8 : ∀ (l m:Q Ct),Ct.walks (l++m)=Ct.walks l++Ct.walks m
 | [],m=>rfl
 | c::t,m=>by rw[cd,Ct.walks,Ct.walks,zA8 t m,List.append_assoc]
mutual
theorem zEP: ∀ c:Ct,c.good=c.walk.all alike
 | .mk k i l s t e n=>by rw[Ct.good,Ct.walk,List.all_cons,zFD n]
theorem zFD : ∀ l:Q Ct,Ct.goods l=(Ct.walks l).all alike
 | []=>rfl
 | c::t=>by rw[Ct.goods,Ct.walks,List.all_append,zEP c,zFD t]
end
def SmallC (m:C)(d:Ct):Prop:=d.id.size<=m/\d.label.size<=m
theorem SmallC.mono {m o:C}{d:Ct}(h:SmallC m d)(u:m<=o):SmallC o d:=⟨df h.1 u,df h.2 u⟩
theorem zH7 (ends r:Q ab):(upto ends r).length<=(r:C):=by
 have h:=bi bp (zAe ends r);rw[bt]at h;omega
theorem zKz : ∀ n:C,(∀ r c r',pC n r=G (c,r')->∀ d∈c.walk,SmallC r.length d)/\(∀ F r l r',pL n F r=G (l,r')->∀ d∈Ct.walks l,d∈Ct.walks F\/SmallC r.length d)
 | 0=>⟨λr c r' h=>by simp[pC]at h,λF r l r' h=>by simp[pL]at h⟩
 | n+1=>by
  obtain⟨a2,Z⟩:=zKz n;have a3:=(zFj n).1;have I:∀ z (y:Q Ct×Q ab),pL n [] z=G y->∀ d∈Ct.walks y.1,SmallC z.length d:=λz y h d o=>by
   rcases Z [] z y.1 y.2 h d o with h|h
   .simp[Ct.walks]at h
   .exact h
  refine⟨λr c r' h=>?_,λF r l r' h=>?_⟩
  .have hr:=zB8 [58,44,41] r;rw[pC]at h;by_cases h0:upto [58,44,41] r=[]
   .rw[an h0]at h;injection h with h
    injection h with h1 h2
    subst h1;subst h2;intro d o;simp[Ct.zero,Ct.walk,Ct.walks]at o;subst o;exact⟨bq _,bq _⟩
   rw[ah h0]at h;obtain⟨N,O,h⟩:=Option.bind_eq_some_iff.1 h;have e2:=zg O;have a4:=zB8 [58,40,44,41] N;have a5:=zH7 [58,40,44,41] N;simp only at h;generalize upto [58,40,44,41] N=di at h a5;generalize past [58,40,44,41] N=r3 at h a4;split at h
   .obtain⟨r4,A,h⟩:=Option.bind_eq_some_iff.1 h;have e4:=zg A;have hl:=zB8 [44,41] r4;injection h with h
    injection h with h1 h2
    subst h1;subst h2;have a8:=zH7 [44,41] r4;intro d o;simp only[Ct.walk,Ct.walks,List.mem_singleton]at o;subst o;exact⟨by show di.toArray.size<=_;simp;omega,by show (upto [44,41] r4).toArray.size<=_;simp;omega⟩
   split at h
   .obtain⟨r4,A,h⟩:=Option.bind_eq_some_iff.1 h;obtain⟨p5,U,h⟩:=Option.bind_eq_some_iff.1 h;obtain⟨r6,V,h⟩:=Option.bind_eq_some_iff.1 h;obtain⟨p7,X,h⟩:=Option.bind_eq_some_iff.1 h;obtain⟨r8,a6,h⟩:=Option.bind_eq_some_iff.1 h;obtain⟨p9,a7,h⟩:=Option.bind_eq_some_iff.1 h;obtain⟨z,u,h⟩:=Option.bind_eq_some_iff.1 h;obtain⟨y,v,h⟩:=Option.bind_eq_some_iff.1 h;injection h with h
    injection h with h1 h2
    subst h1;subst h2;have e5:=zAn U;have e7:=zAn X;have e9:=zAn a7;have e4:=zg A;have e6:=zg V;have e8:=zg a6;have ea:=zg u;have Y:=I z y v;intro d o;rw[Ct.walk]at o;rcases List.mem_cons.1 o with rfl|o
    .exact⟨by show di.toArray.size<=_;simp;omega,bq _⟩
    .exact(Y d o).mono (by omega)
   split at h
   .obtain⟨z,u,h⟩:=Option.bind_eq_some_iff.1 h;obtain⟨y,v,h⟩:=Option.bind_eq_some_iff.1 h;injection h with h
    injection h with h1 h2
    subst h1;subst h2;have ea:=zg u;have Y:=I z y v;intro d o;rw[Ct.walk]at o;rcases List.mem_cons.1 o with rfl|o
    .exact⟨by show di.toArray.size<=_;simp;omega,bq _⟩
    .exact(Y d o).mono (by omega)
   split at h
   .obtain⟨r4,A,h⟩:=Option.bind_eq_some_iff.1 h;obtain⟨p5,U,h⟩:=Option.bind_eq_some_iff.1 h;obtain⟨r6,V,h⟩:=Option.bind_eq_some_iff.1 h;obtain⟨p7,X,h⟩:=Option.bind_eq_some_iff.1 h;obtain⟨z,u,h⟩:=Option.bind_eq_some_iff.1 h;obtain⟨y,v,h⟩:=Option.bind_eq_some_iff.1 h;injection h with h
    injection h with h1 h2
    subst h1;subst h2;have e5:=zAn U;have e7:=zAn X;have e4:=zg A;have e6:=zg V;have ea:=zg u;have Y:=I z y v;intro d o;rw[Ct.walk]at o;rcases List.mem_cons.1 o with rfl|o
    .exact⟨by show di.toArray.size<=_;simp;omega,bq _⟩
    .exact(Y d o).mono (by omega)
   split at h
   .obtain⟨z,u,h⟩:=Option.bind_eq_some_iff.1 h;obtain⟨y,v,h⟩:=Option.bind_eq_some_iff.1 h;injection h with h
    injection h with h1 h2
    subst h1;subst h2;have ea:=zg u;have Y:=I z y v;intro d o;rw[Ct.walk]at o;rcases List.mem_cons.1 o with rfl|o
    .exact⟨by show di.toArray.size<=_;simp;omega,bq _⟩
    .exact(Y d o).mono (by omega)
   .cases h
  .rw[pL]at h;obtain⟨p,hp,h⟩:=Option.bind_eq_some_iff.1 h;have e1:=a2 r p.1 p.2 hp;cases hs:zX 41 p.2 with
   | some N=>
    rw[hs]at h;simp only at h;injection h with h
    injection h with h1 h2
    subst h1;subst h2;have e2:=zg hs;intro d o;rw[zA8]at o;rcases List.mem_append.1 o with o|o
    .exact .inl o
    .exact .inr (e1 d (by simpa [Ct.walks]using o))
   | none=>
    rw[hs]at h;simp only at h;obtain⟨N,O,h⟩:=Option.bind_eq_some_iff.1 h;have e2:=zg O;have e3:=a3 r p.1 p.2 hp;have e4:=zG7 p.1;intro d o;rcases Z _ N l r' h d o with J|J
    .rw[zA8]at J;rcases List.mem_append.1 J with J|J
     .exact .inl J
     .exact .inr (e1 d (by simpa [Ct.walks]using J))
    .exact .inr (J.mono (by omega))
mutual
theorem zEM: ∀ {c d:Ct},d∈c.walk->(d.inner:C)<=c.count
 | .mk k i l s t e n,d,h=>by
  rw[Ct.walk]at h;rw[Ct.count];rcases List.mem_cons.1 h with rfl|h
  .have:=zAm n;show (n:C)<=_
   omega
  .have:=zFC h;omega
theorem zFC : ∀ {n:Q Ct} {d:Ct},d∈Ct.walks n->(d.inner:C)<=Ct.counts n
 | [],d,h=>by simp[Ct.walks]at h
 | c::t,d,h=>by
  rw[Ct.walks]at h;rw[Ct.counts];rcases List.mem_append.1 h with h|h
  .have:=zEM h;omega
  .have:=zFC h;omega
end
theorem zA5 (a b:R):bl (a++b)=bl a++bl b:=by simp[bl]
theorem zDR {a b:R}(h:bl a=bl b):a=b:=by
 rw[<-zP6 a,<-zP6 b,h]
def Ct.txt (c:Ct):R:=⟨c.text.toArray⟩
theorem zCI (c:Ct):bl c.txt=c.text:=zEn _
theorem zEJ : ∀ l:Q (Q ab),cc l [44]=commas l
 | []=>rfl
 | [x]=>by simp[cc,commas,eg]
 | x::y::t=>by
  have h:=zEJ (y::t);unfold cc at *;rw[commas,<-h];simp[eg,List.intersperse]
theorem zDH {x:Q ab}:∀ {l:Q (Q ab)},x∈l->(x:C)<=(commas l).length
 | [],h=>by cases h
 | [y],h=>by simp at h;subst h;simp[commas]
 | y::z::t,h=>by
  rw[commas];rcases List.mem_cons.1 h with rfl|h
  .simp
  .have:=zDH h;simp;omega
def inTxt (n:Q Ct):R:=⟨(commas (n.map Ct.text)).toArray⟩
theorem zQO (n:Q Ct):bl (inTxt n)=commas (n.map Ct.text):=zEn _
theorem zLP (n:Q Ct):(⟨(cc ((n.map Ct.txt).map (·.data.toList)) [44]).toArray⟩:R)=inTxt n:=by
 rw[zEJ,List.map_map];have:(λc=>((λx:R=>x.data.toList)∘Ct.txt) c)=Ct.text:=funext λc=>zCI c
 show (⟨(commas (n.map (λc=>((λx:R=>x.data.toList)∘Ct.txt) c))).toArray⟩:R)=_
 rw[this];rfl
theorem zQF (n:Q Ct):(cc ((n.map Ct.txt).map (·.data.toList)) [44]).length=(commas (n.map Ct.text)).length:=by
 have:=bi bl (zLP n);rw[zEn,zQO]at this;rw[this]
theorem zBR (h:isId i=af):i.size<=16:=by
 unfold isId at h;simp only[am,bh]at h;exact h.1.2
theorem zDC {c:Ct}(h:c.good=af):alike c=af/\c.inner.all Ct.good=true:=by
 rw[zLV,am,zGy]at h;exact h
theorem zEh {s t:B}{l:R}{n:Q Ct}(h:alike (.mk k i l s t e n)=af):i.size<=16/\l.size<=16:=by
 have o:∀ x:R,(bl x).isEmpty=af->x.size<=16:=λx I=>by rw[zBi I];decide
 rw[alike]at h;by_cases u:k=0
 .rw[an u]at h;simp only[am]at h;exact⟨o _ h.1.1.1,o _ h.1.1.2⟩
 rw[ah u]at h;by_cases v:k=1
 .rw[an v]at h;simp only[am,co]at h;exact⟨zBR h.1.1.1,h.1.1.2.elim (o _) zBR⟩
 rw[ah v]at h;by_cases y:k=2
 .rw[an y]at h;simp only[am]at h;exact⟨zBR h.1.1.1.1.1,o _ h.1.1.1.1.2⟩
 rw[ah y]at h;by_cases z:k=3
 .rw[an z]at h;simp only[am]at h;exact⟨zBR h.1.1.1,o _ h.1.1.2⟩
 rw[ah z]at h;by_cases A:k=4
 .rw[an A]at h;simp only[am]at h;exact⟨zBR h.1.1.1.1,o _ h.1.1.1.2⟩
 rw[ah A]at h;by_cases F:k=5
 .rw[an F]at h;simp only[am]at h;exact⟨zBR h.1.1.1,o _ h.1.1.2⟩
 rw[ah F]at h;cases h
theorem zFP {s t:B}{l:R}{n:Q Ct}(h:alike (.mk k i l s t e n)=af):((k=0\/k=1)/\n=[])\/(k=2/\1<=s/\s<=16/\1<=t/\t<=16/\1<=e/\e<=16)\/k=3\/(k=4/\1<=s/\s<=16/\1<=t/\t<=16)\/k=5:=by
 rw[alike]at h;by_cases o:k=0
 .rw[an o]at h;simp only[am,bo]at h;exact .inl ⟨.inl o,h.2⟩
 rw[ah o]at h;by_cases u:k=1
 .rw[an u]at h;simp only[am,bo]at h;exact .inl ⟨.inr u,h.2⟩
 rw[ah u]at h;by_cases v:k=2
 .rw[an v]at h;simp only[am,zAV,bh]at h;exact .inr (.inl ⟨v,by omega⟩)
 rw[ah v]at h;by_cases y:k=3
 .rw[an y]at h;exact .inr (.inr (.inl y))
 rw[ah y]at h;by_cases z:k=4
 .rw[an z]at h;simp only[am,zAV,bh]at h;exact .inr (.inr (.inr (.inl ⟨z,by omega⟩)))
 rw[ah z]at h;by_cases A:k=5
 .rw[an A]at h;exact .inr (.inr (.inr (.inr A)))
 rw[ah A]at h;cases h
theorem zQG {c:Ct}(h:c.good=af):(commas (c.inner.map Ct.text)).length<=(c.text:C):=by
 obtain⟨k,i,l,s,t,e,n⟩:=c;have o:=(zDC h).1;show (commas (n.map Ct.text)).length<=_
 rcases zFP o with⟨_,rfl⟩|⟨rfl,_⟩|rfl|⟨rfl,_⟩|rfl
 .simp[commas]
 .rw[zJU];simp;omega
 .rw[zMO];simp;omega
 .rw[zMN];simp;omega
 .rw[zKP];simp;omega
theorem zNA (k:C):ag (k:B)=bs k:=by unfold ag;rw[ah (by omega)];simp
def numBA (k:C):R:=⟨(bs k).toArray⟩
theorem zCd {k:C}(h:1<=k)(o:k<=16):(numBA k).size<=2:=by
 show (bs k).toArray.size<=2
 rw[zG3 k h o];split<;>simp
theorem zOA (k:C):bl (numBA k)=ag (k:B):=by rw[zNA];exact zEn _
def boxed (n:Q Ct):R:=⟨#[40]⟩++inTxt n++⟨#[41]⟩
theorem zDd (n:Q Ct):bl (boxed n)=40::(commas (n.map Ct.text)++[41]):=by unfold boxed;rw[zA5,zA5,zQO];rfl
section
variable (i l:R)(s t e:B)(n:Q Ct)(a b c:C)
theorem txt0: (Ct.mk 0 i l s t e n).txt=():=zDR (by rw[zCI,zOU])
theorem txt1: (Ct.mk 1 i l s t e n).txt=(⟨#[102,115,58]⟩:R)++i++⟨#[58]⟩++l:=zDR (by rw[zCI,zKQ];simp only[zA5];simp[bl])
theorem txt2: (Ct.mk 2 i l a b c n).txt=(⟨#[114,97,105,100,58]⟩:R)++i++⟨#[58]⟩++numBA a++⟨#[47]⟩++numBA b++⟨#[47]⟩++numBA c++boxed n:=zDR (by rw[zCI,zJU];simp only[zA5,zOA,zDd];simp[bl])
theorem txt3: (Ct.mk 3 i l s t e n).txt=(⟨#[99,114,121,112,116,58]⟩:R)++i++boxed n:=zDR (by rw[zCI,zMO];simp only[zA5,zDd];simp[bl])
theorem txt4: (Ct.mk 4 i l a b e n).txt=(⟨#[112,118,58]⟩:R)++i++⟨#[58]⟩++numBA a++⟨#[47]⟩++numBA b++boxed n:=zDR (by rw[zCI,zMN];simp only[zA5,zOA,zDd];simp[bl])
theorem txt5: (Ct.mk 5 i l s t e n).txt=(⟨#[116,97,98,108,101,58]⟩:R)++i++boxed n:=zDR (by rw[zCI,zKP];simp only[zA5,zDd];simp[bl])
end
def Ascii (s:R):Prop:=∀ (j:C) b,s.data.toList[j]?=G b->b.toNat<128
theorem zOG (w:ak):(zeroValue 356).run al w=.ok (be (Array.replicate 256 (.bool a0))) w:=by kernel_rfl
theorem zLg (n v o u y:C)(h:128<=v):128<=(bw n v o u y).1/\((bw n v o u y).2=1\/((bw n v o u y).2=2/\1<n/\128<=o)\/((bw n v o u y).2=3/\2<n/\128<=o/\128<=u)\/((bw n v o u y).2=4/\3<n/\128<=o/\128<=u/\128<=y)):=by
 unfold bw;rw[ah (by omega)]
 repeat' split
 all_goals (refine⟨?_,?_⟩)
 all_goals first
  | exact .inl rfl
  | exact .inr (.inl ⟨rfl,by omega,by omega⟩)
  | exact .inr (.inr (.inl ⟨rfl,by omega,by omega,by omega⟩))
  | exact .inr (.inr (.inr ⟨rfl,by omega,by omega,by omega,by omega⟩))
  | (simp only;omega)
theorem zIr (s:R)(i:C)(x:ab)(h:s.data.toList[i]?=G x):s.get! i=x:=by
 have o:s.data[i]?=G x:=by rw[<-bf];exact h
 show s.data[i]! = x
 rw[getElem!_def,o]
theorem zI6 (s:R)(o:C)(x:ab)(O:s.data.toList[o]?=G x)(z:128<=x.toNat):
  128<=(bg s o).1/\o+(bg s o).2<=s.size/\∀ j y,o<=j->j<o+(bg s o).2->s.data.toList[j]?=G y->128<=y.toNat:=by
 have A:s.data.toList.length=s.size:=(bj s).symm;have Y:o<s.size:=by rw[<-A];exact(List.getElem?_eq_some_iff.1 O).1
 have F:=zIr s o x O;rw[Lib.decode_at];have v:=zLg (s.size-o) (s.get! o).toNat (s.get! (o+1)).toNat (s.get! (o+2)).toNat (s.get! (o+3)).toNat (by rw[F];exact z);refine⟨v.1,?_,?_⟩;·rcases v.2 with h|⟨h,_⟩|⟨h,_⟩|⟨h,_⟩<;>omega
 .intro j y Z J V;have u:=zIr s j y V;rcases v.2 with h|⟨h,U,I⟩|⟨h,U,I,N⟩|⟨h,U,I,N,X⟩
  .rw[h]at J;obtain rfl:j=o:=by omega
   rw[<-u,F];exact z
  .rw[h]at J;rcases(by omega:j=o\/j=o+1)with rfl|rfl
   .rw[<-u,F];exact z
   .rw[<-u];exact I
  .rw[h]at J;rcases(by omega:j=o\/j=o+1\/j=o+2)with rfl|rfl|rfl
   .rw[<-u,F];exact z
   .rw[<-u];exact I
   .rw[<-u];exact N
  .rw[h]at J;rcases(by omega:j=o\/j=o+1\/j=o+2\/j=o+3)with rfl|rfl|rfl|rfl
   .rw[<-u,F];exact z
   .rw[<-u];exact I
   .rw[<-u];exact N
   .rw[<-u];exact X
theorem zNN (r:C)(h:128<=r):2<=(br (r:B)).size/\(br (r:B)).size<=4/\∀ (j:C) y,(br (r:B)).data.toList[j]?=G y->128<=y.toNat:=by
 have z:∀ l:Q ab,(∀ y∈l,128<=y.toNat)->∀ (j:C) y,(⟨l.toArray⟩:R).data.toList[j]?=G y->128<=y.toNat:=λl A j y o=>A y (by simpa using dd o)
 have u:∀ c:C,128<=c->c<=1114111->∀ e:R,e=(if c<0x80 then ⟨#[bc c]⟩else if c<0x800 then ⟨#[bc (0xC0+c / 64),bc (0x80+c % 64)]⟩
   else if c<0x10000 then ⟨#[bc (0xE0+c / 4096),bc (0x80+c / 64 % 64),bc (0x80+c % 64)]⟩
   else ⟨#[bc (0xF0+c / 262144),bc (0x80+c / 4096 % 64),bc (0x80+c / 64 % 64),bc (0x80+c % 64)]⟩)->2<=e.size/\e.size<=4/\∀ (j:C) y,e.data.toList[j]?=G y->128<=y.toNat:=by
  rintro c F I e rfl;rw[ah (by omega)];split
  .refine⟨by show 2<=2;decide,by show 2<=4;decide,z _ ?_⟩;intro y o;simp only[dc,de,or_false]at o;rcases o with rfl|rfl<;>(simp only[dh];omega)
  split
  .refine⟨by show 2<=3;decide,by show 3<=4;decide,z _ ?_⟩;intro y o;simp only[dc,de,or_false]at o;rcases o with rfl|rfl|rfl<;>(simp only[dh];omega)
  .refine⟨by show 2<=4;decide,by show 4<=4;decide,z _ ?_⟩;intro y o;simp only[dc,de,or_false]at o;rcases o with rfl|rfl|rfl|rfl<;>(simp only[dh];omega)
 by_cases v:eu (r:B)=af
 .refine u r h ?_ _ ?_
  .unfold eu at v;simp only[co,am,bh]at v;omega
  .unfold br;rw[an v];simp only[Int.toNat_natCast]
 .apply u 0xFFFD (by decide) (by decide) _;unfold br;rw[ah v];rfl
theorem zOH (r:B)(w:ak)(h:0<=r):
  ax al 312 #[ai .i32 r] w λe w'=>RetB e/\w'=w:=by
 go_enter Tryz.func312,Tryz.ntmps312;by_cases o:r<55296
 .go_wp2;go_ret;exact⟨cm af,rfl⟩
 .by_cases u:57343<r
  .by_cases v:r<=1114111
   .go_wp2;go_ret;exact⟨cm af,rfl⟩
   .go_wp2;go_ret;exact⟨cm a0,rfl⟩
  .go_wp2;go_ret;exact⟨cm a0,rfl⟩
theorem zOD (h:Ascii s){i:C}(o:i<s.size):(s[i]'o).toNat<128:=by
 apply h i _;rw[bf];exact bn (by simpa using o)
theorem zL7 (h:Ascii s)(z:128<=b.toNat)(k:C):bx (s.extract k s.size).data.toList ((b.toNat:B)).toNat.toUInt8<0:=by
 have e:((b.toNat:B)).toNat.toUInt8=b:=by simp
 rw[e];have o:=dw (s.extract k s.size).data.toList b;have v:(s.extract k s.size).data.toList.contains b=false:=by
  rw[dn];intro u;rw[dy,cr]at u;obtain⟨m,y⟩:=cy (List.mem_of_mem_drop u);have:=h m b y;omega
 rw[v]at o;have:=ey o.symm;omega
theorem zHH (s:R)(r:C)(w:ak)(hs:s.size<=1000)(X:Ascii s)(h1:128<=r)(h2:r<=1114111):
  ax al 282 #[s,ai .i32 (r:B)] w λe w'=>e=.returned (ai ae (-1))/\Fr No w w':=by
 have hm:s.size<=9223372036854775807:=by omega
 have n1:¬ (r:B)<128:=by omega
 have A:=zh X;clear X;go_enter Tryz.func282,Tryz.ntmps282;by_cases he:r=65533
 .subst he;go_wp2_with fail
  go_loopg [5] s.size (λg _ wx=>∃ i:C,i+g=s.size/\wx=w.iter s i)
  case atStart=>exact⟨0,by omega,rfl⟩
  case round=>
   obtain⟨i,a4,rfl⟩:=hrel;cases gk with
   | zero=>
    obtain rfl:i=s.size:=by omega
    have F:=run_next_end (P:=al) w s s.size;go_wp2;go_ret;exact⟨rfl,ba _ _ |>.alloc _⟩
   | succ g=>
    have I:i<s.size:=(by omega);have o:=zOD A I;have F:=λty=>run_next_ascii (P:=al) w s i ty I o
    have J:¬ ((s[i]'I).toNat:B)=65533:=(by omega);go_wp2_with fail
    go_roundg g
    case measure=>omega
    case rel=>exact⟨i+1,by omega,rfl⟩
 have n2:¬ (r:B)=65533:=by omega
 have n3:(0:B)<=r:=by omega
 have u:=zNN r h1;go_wp2_with fail;apply (zOH _ _ (by omega)).mono;rintro e w1 ⟨⟨b,rfl⟩,rfl⟩;cases b with
 | false=>
  go_wp2;go_ret;exact⟨rfl,ba _ _⟩
 | true=>
  go_wp2_with fail;apply ez;go_upto_region 2 with(fail)
  obtain⟨L,Y⟩:∃ L,(br (r:B)).size=L+1:=⟨(br (r:B)).size-1,by omega⟩
  generalize br (r:B)=E at *;obtain⟨e1,e2,Z⟩:=u;have N:((E.size:C):B)=(L:B)+1:=by omega
  have HE:=zh Z;have HL:=zh Y;clear Z Y;go_wp2_with fail
  go_loop [9] (λi=>i=ai ae (L:B)) (λ_=>0)
  case atStart=>rfl
  case round=>
   subst hrel;by_cases v:L<s.size
   .have a2:(L:B)<s.size:=(by omega);have hA:=zOD A v;have h:L<E.size:=(by omega);have hB:128<=(E[L]'h).toNat:=HE.out L _ (by rw[bf];exact bn (by simpa using h));have O:aj (bx (s.extract (L+1) s.size).data.toList (((E[L]'h).toNat:B)).toNat.toUInt8<0):=zL7 A hB _;have J:¬ ((s[L]'v).toNat:B)=((E[L]'h).toNat:B):=(by omega);clear N;go_wp2_with fail;apply ez;go_wp2_with fail;refine zO No [(0,a0),(1,a0),(2,a0),(3,a0),(4,a0),(5,a0),(6,a0)] (λw0 y=>?_);(repeat apply zR rfl rfl rfl;intro a3 hK;go_big_quiet_op;go_big_quiet_on);apply zY;have U:=zh y;clear y;go_wp2_with fail;refine zO No [(0,a0),(1,a0),(2,a0),(3,a0),(4,a0),(5,a0),(6,a0),(7,af),(8,a0)] (λw2 z=>?_);(repeat apply zR rfl rfl rfl;intro a3 hK;go_big_quiet_op;go_big_quiet_on);apply zu rfl;go_wp2_with fail;apply (Tryz.strings_IndexByte _ _ _).mono;rintro e w3 ⟨rfl,rfl⟩;have hq:=O.out;generalize bx (s.extract (L+1) s.size).data.toList (((E[L]'h).toNat:B)).toNat.toUInt8=q at *;go_wp2_with fail;apply zq;(repeat apply zR rfl rfl rfl;intro a3 hK;go_big_quiet_op;go_big_quiet_on);apply zY;have V:=zh (U.step z zi);clear z;go_wp2_with fail;simp +zetaDelta only[du,Exit.inBlock,Exit.then];go_ret;exact⟨rfl,V⟩
   .go_wp2_with fail
    try simp +zetaDelta only[du]
    go_ret;exact⟨rfl,ba _ _⟩
theorem zDT (s o:R)(w:ak)(h2:2<=o.size)(b4:o.size<=1000)(h8:s.size<=8)(Z:Ascii o):
  ax al 255 #[s,o] w λe w'=>e=.returned (ai ae (c9 s.data.toList o.data.toList))/\Fr No w w':=by
 have b9:o.toList.isEmpty=false:=by
  rw[ByteArray.toList_eq];cases h:o.data.toList with
  | nil=>have:=bj o;rw[h,List.length_nil]at this;omega
  | cons _ _=>rfl
 have d0:¬ ((o.size:B)=1):=by omega
 have a2:decide ((8:B)<(s.size:B))=false:=ew (by omega);have d1:s.size<=9223372036854775807:=by omega
 have a3:=zh Z;clear Z;go_enter Tryz.func255,Tryz.ntmps255;go_wp2_with fail;apply (Tryz.strings_shouldUseASCIISet _ _).mono;rintro e z ⟨rfl,rfl⟩;rw[a2];clear a2;go_wp2_with fail
 go_loopg [9,10] s.size (λg _ _ wx=>∃ i:C,i+g=s.size/\wx.heap[(z:C)]?=G (.stringIter s i)/\Fr No z wx/\aj (Lib.NoAny s.data.toList o.data.toList i))
 case atStart=>exact⟨0,by omega,World.iter_heap _ _ _,(ba _ _).alloc _,Lib.NoAny.zero _ _⟩
 case round=>
  obtain⟨i,d2,u,v,HN⟩:=hrel;obtain⟨W,rfl⟩:=ε wr
  cases gk with
  | zero=>
   obtain rfl:i=s.size:=by omega
   have a4:=λty=>Lib.run_next_end_at (P:=al) W (z:C) s s.size ty u (by omega)
   have b5:=zh v;clear u v;go_wp2;go_ret;exact⟨by rw[Lib.indexAny_none (by rw[<-bj];exact HN)];rfl,b5⟩
  | succ g=>
   have hi:i<s.size:=(by omega);have a4:=λty=>Lib.run_next_any_at (P:=al) W (z:C) s i ty u hi
   obtain⟨x,hx⟩:∃ x:ab,s[i]'hi=x:=⟨_,rfl⟩
   have y:s.data.toList[i]?=G x:=by
    rw[<-hx,bf];exact bn (by simpa using hi)
   have b6:1<=(bg s i).2:=Lib.width_pos s i;have a5:(bg s i).1<=1114111:=Lib.rune_le s i;have A:x.toNat<128->bg s i=(x.toNat,1):=λh=>by rw[decode_ascii s i hi (by rw[hx];exact h),hx]
   have a6:128<=x.toNat->_:=λh=>zI6 s i x y h
   have O:=Lib.iterAt_heap W (z:C) s i (i+(bg s i).2) u;have U:Fr No z (W.iterAt (z:C) s (i+(bg s i).2)):=dv (Lib.below_iterAt (v.below (ck _) (λ_ _=>id)) (ck _) s _);have F:=zh A;have a7:=zh a6;have Hx:=zh y;have a8:aj (128<=x.toNat->Lib.NoAny s.data.toList o.data.toList (i+(bg s i).2)):=by
    intro h j b hj hb;by_cases b7:j<i;·exact HN j b b7 hb
    .have h3:=(zI6 s i x y h).2.2 j b (by omega) hj hb;rw[dn];intro I;rw[dy]at I;obtain⟨m,hm⟩:=cy I;have:=a3.out m b hm;omega
   clear A a6 y hx u v;generalize bg s i=D at *;obtain⟨rn,wd⟩:=D;simp only at a4 b6 a5 O U F a7 a8;generalize W.iterAt (z:C) s (i+wd)=W2 at *;have a9:=zh O;have V:=zh U;clear O U;by_cases b0:x.toNat<128
   .have hD:=F.out b0;injection hD with hD1 hD2
    subst hD1;subst hD2;have J:=dw o.data.toList x;have X:((x.toNat:B)).toNat.toUInt8=x:=(by simp);have N:=zh J;clear J;go_wp2_with fail;apply (Tryz.strings_IndexRune_ascii _ _ _ (by omega) (by omega)).mono;rintro e w3 ⟨rfl,rfl⟩;rw[X];by_cases b1:0<=bx o.data.toList x
    .have I:o.data.toList.contains x=true:=(by rw[N];exact decide_eq_true b1);have Hc:=zh I;clear I;generalize bx o.data.toList x=q at *;go_wp2;go_ret;exact⟨by rw[Lib.indexAny_hit HN Hx Hc];rfl,V⟩
    .have I:o.data.toList.contains x=false:=(by rw[N];exact ew b1);have Hc:=zh I;clear I;generalize bx o.data.toList x=q at *;go_wp2_with fail
     go_roundg g
     case measure=>omega
     case rel=>exact⟨i+1,by omega,a9,V,HN.succ Hx Hc⟩
   .have b2:128<=x.toNat:=(by omega);obtain⟨k1,k2,-⟩:=a7.out b2;go_wp2_with fail;apply (zHH o rn _ b4 a3 k1 a5).mono;rintro e w3 ⟨rfl,Y⟩;have b3:=zh (Y.heap a9 id);have b8:=zh (V.step Y zi);clear Y;go_wp2_with fail
    go_roundg (s.size-(i+wd))
    case measure=>omega
    case rel=>exact⟨i+wd,by omega,b3,b8,a8 b2⟩
theorem zJO (s ends:R)(w:ak)(A:s.size<=1000000)(u:ends.size<=1000)(v:Ascii ends):
  ax al 255 #[s,ends] w λe w'=>e=.returned (ai ae (c9 s.data.toList ends.data.toList))/\Fr No w w':=by
 by_cases y:ends.size=0;·exact(Tryz.strings_IndexAny_none s ends w y).mono λe w' ⟨h,o⟩=>⟨h,o▸ba _ _⟩
 by_cases h:ends.size=1;·exact(Tryz.strings_IndexAny_one s ends w h v).mono λe w' ⟨h,o⟩=>⟨h,o▸ba _ _⟩
 by_cases z:s.size<=8;·exact zDT s ends w (by omega) u z v
 .exact(Tryz.strings_IndexAny_long zOG s ends w (by omega) (by omega) (by omega) (by omega) v).mono λe w' ⟨h,o⟩=>⟨h,o▸((ba _ _).alloc _).alloc _⟩
structure Env (w:ak):Prop where
 len:∃ m,w ⟨0,0,K⟩=G (ai ae m)
 err:ErrV w
 tab:Lib.TabIs al w "internal/strconv.uint64pow10" .u64 Lib.pow10Tab
 sz:9<=(w:C)
theorem zMP: Tryz.prog.globalNamed "internal/strconv.uint64pow10" = G 4:=by kernel_rfl
theorem Env.fr (h:Env w)(o:Fr S w w')(u:∀ b,b<9->¬ S b):Env w':=by
 obtain⟨m,v⟩:=h.len;have F:=h.sz;have y:=o.size;refine⟨⟨m,o.cell v (u _ (by decide))⟩,h.err.fr o (u _ (by decide)) (u _ (by decide)),?_,by omega⟩;have z:=h.tab;have A:=o.block 4 (by omega) (u _ (by decide));have e:w'.var? al "internal/strconv.uint64pow10" = w.var? al "internal/strconv.uint64pow10" := by
  unfold World.var?;rw[zMP];simp only[cl,A]
 unfold Lib.TabIs at *;rw[e];exact z
theorem Env.no (h:Env w)(o:Fr No w w'):Env w':=h.fr o (λ_ _=>id)
structure Cur (w:ak)(pb:C)(s:R)(r:Q ab)(bad:aq):Prop where
 blk:∃ at_:C,w.heap[pb]?=G (aw #[s,ai ae (at_:B),bad] 331 (0,0))/\at_<=s.size/\s.data.toList.drop at_=r
theorem Cur.fr {o:aq}(h:Cur w u s r o)(v:Fr S w w')(y:¬ S u):Cur w' u s r o:=by
 obtain⟨a,z,A,F⟩:=h.blk;exact⟨a,v.heap z y,A,F⟩
theorem Cur.no {o:aq}(h:Cur w u s r o)(v:Fr No w w'):Cur w' u s r o:=h.fr v id
theorem Cur.lt {o:aq}(h:Cur w u s r o):u<(w:C):=by
 obtain⟨a,v,y,z⟩:=h.blk;exact zC v
theorem Cur.le {o:aq}(h:Cur w u s r o):(r:C)<=s.size:=by
 obtain⟨a,v,y,rfl⟩:=h.blk;have:s.data.toList.length=s.size:=(bj s).symm;simp only[da];omega
theorem zJL (ends:Q ab):∀ r:Q ab,(c9 r ends=-1/\upto ends r=r/\past ends r=[])\/∃ k:C,c9 r ends=(k:B)/\k<(r:C)/\upto ends r=r.take k/\past ends r=r.drop k
 | []=>.inl ⟨rfl,rfl,rfl⟩
 | b::l=>by
  rw[c9];by_cases h:ends.contains b=af
  .rw[an h];refine .inr ⟨0,rfl,by simp,?_,?_⟩;·simp only[upto,c7,h];simp
   .simp only[past,bz,h];simp
  .have u:ends.contains b=false:=by simpa using h
   rw[ah h];rcases zJL ends l with⟨v,y,o⟩|⟨k,v,y,o,z⟩
   .rw[v];refine .inl ⟨rfl,?_,?_⟩;·simp only[upto,c7,u,bv,bd]at y ⊢;rw[y]
    .simp only[past,bz,u,bv,bd]at o ⊢;rw[o]
   .rw[v];refine .inr ⟨k+1,?_,by simp;omega,?_,?_⟩;·rw[ah (by simp)];rfl
    .simp only[upto,c7,u,bv,bd]at o ⊢;rw[o];rfl
    .simp only[past,bz,u,bv,bd]at z ⊢;rw[z];rfl
theorem zGD (h:C)(s ends:R)(r:Q ab)(z:aq)(w:ak)(hc:Cur w h s r z)(he:Ascii ends)(hs:s.size<=1000000)(a8:ends.size<=1000):
  ax al 294 #[bm (G ⟨h,0,K⟩),ends] w λe w'=>e=.returned (au ⟨(upto ends.data.toList r).toArray⟩)/\Cur w' h s (past ends.data.toList r) z/\Fr (Is h) w w':=by
 obtain⟨a,hb,a9,hr⟩:=hc.blk;have a6:(a:B)<=s.size:=by omega
 have b0:s.data.toList.length=s.size:=(bj s).symm;have I:(s.extract a s.size).data.toList=r:=by rw[cr];exact hr
 obtain⟨q,hq⟩:=ε (s.extract a s.size)
 have O:q.data.toList=r:=by rw[hq];exact I
 have b1:q.size<=1000000:=by
  have A:q.data.toList.length=q.size:=(bj q).symm;have Z:=hc.le;rw[O]at A;omega
 have a2:=zJL ends.data.toList r;have b2:=zh hq;have F:=zh O;have Hr:=zh hr;clear I hq O hr;go_enter Tryz.func294,Tryz.ntmps294;go_wp2_with fail;refine zO No [(0,a0),(1,a0),(2,a0),(3,a0),(4,a0),(5,a0),(6,a0),(7,a0),(8,a0),(9,a0)] (λw0 U=>?_);have V:=U.heap hb id;have g0:∀ g:Gr No w0,g.W ⟨h,0,K⟩=G (au s):=λg=>g.fr.cell (zB V 0) id
 have g1:∀ g:Gr No w0,g.W ⟨h,1,K⟩=G (ai ae (a:B)):=λg=>g.fr.cell (zB V 1) id
 (repeat apply zR rfl rfl rfl;intro b6 hK;go_big_quiet_op;go_big_quiet_on);apply zY;clear g0 g1;rw[<-b2];have J:Fr No w w0:=U;go_wp2_with fail;apply (zJO q ends _ (by omega) (by omega) he).mono;rintro e w1 ⟨rfl,N⟩;have v:Fr No w w1:=J.step N zi;have u:=v.heap hb id;have c1:w1 ⟨h,1,K⟩=G (ai ae (a:B)):=zB u 1;have z1:w1.frozen? ⟨h,1,K⟩=false:=zD u 1;have a3:q.data.toList.length=q.size:=(bj q).symm;have X:(r:C)=q.size:=by rw[<-F];exact a3
 have b3:a+q.size=s.size:=by
  have A:=bi bp Hr;rw[da]at A;omega
 rw[F];have a4:∀ k:C,k<=q.size->aj (q.extract 0 k=⟨(r.take k).toArray⟩/\∀ W,Fr No w W->W.heap[h]?=G (aw #[s,ai ae (a:B),z] 331 (0,0))->Cur (W.setCell ⟨h,1,K⟩ (ai ae ((a:B)+k))) h s (r.drop k) z/\Fr (Is h) w (W.setCell ⟨h,1,K⟩ (ai ae ((a:B)+k)))):=by
  intro k hk;refine⟨?_,λW hW a5=>⟨⟨a+k,?_,by omega,?_⟩,?_⟩⟩
  .apply dr;apply dk;rw[Lib.extract_from_zero,F]
  .rw[zE a5];rfl
  .rw[<-Hr,dz]
  .exact(hW.mono (T:=Is h) zn).setAt _
 have o:=zh a4;clear N J U V a3 a4;rcases a2 with⟨A,Z,h3⟩|⟨k,A,Z,h3,h4⟩
 .rw[A];have a7:((q.size:C):B)<=q.size:=Int.le_refl _;have Hk:=zh ((o q.size (ck _)).out);have He:aj (q=⟨(upto ends.data.toList r).toArray⟩/\r.drop q.size=past ends.data.toList r):=by
   unfold aj;refine⟨?_,by rw[h3,<-X,List.drop_length]⟩;rw[Z,<-F]
  have y:=zg2 v u;clear A Z h3 v u o X;go_wp2;go_ret;have Y:=Hk.2 w1 y.1 y.2;rw[He.2]at Y;exact⟨by show dt q=_;rw[<-He.1],Y.1,Y.2⟩
 .rw[A];have b4:k<q.size:=by omega
  have b5:(k:B)<=q.size:=by omega
  have Hk:=zh ((o k (by omega)).out);have He:aj (q.extract 0 k=⟨(upto ends.data.toList r).toArray⟩/\r.drop k=past ends.data.toList r):=by
   unfold aj;rw[Hk.1,h3,h4];exact⟨rfl,rfl⟩
  have y:=zg2 v u;clear A Z h3 h4 v u o X;go_wp2;go_ret;have Y:=Hk.2 w1 y.1 y.2;rw[He.2]at Y;exact⟨by show dt (au (q.extract 0 k))=_;rw[He.1],Y.1,Y.2⟩
theorem zHU (b:ab)(r:Q ab):cu r [b]=(zX b r).isSome:=by
 cases r with
 | nil=>rfl
 | cons x t=>
  simp only[cu,zX,List.isPrefixOf];by_cases h:x=b;·subst h;simp
  .have o:(b==x)=false:=by simpa using λe=>h e.symm
   simp[h,o]
theorem zKf (h:zX b r=G t):t=r.drop 1:=by rw[zt h];rfl
theorem zN8 (o:C)(s:R)(b:ab)(r:Q ab)(y:aq)(w:ak)(F:Cur w o s r y)(hs:s.size<=1000000):
  ax al 320 #[bm (G ⟨o,0,K⟩),au ⟨#[b]⟩] w λe w'=>e=.returned (.bool (zX b r).isSome)/\Cur w' o s ((zX b r).getD r) y/\Fr (Is o) w w':=by
 obtain⟨a,hb,a2,I⟩:=F.blk;have U:(a:B)<=s.size:=by omega
 have a3:=F.le;have a4:s.data.toList.length=s.size:=(bj s).symm;obtain⟨q,N⟩:=ε (s.extract a s.size)
 have z:q.data.toList=r:=by rw[N,cr];exact I
 have v:cu q.data.toList (⟨#[b]⟩:R).data.toList=(zX b r).isSome:=by rw[z];exact zHU b r
 have V:(r:C)=s.size-a:=by rw[<-I,da];omega
 have a5:=zh N;have Hr:=zh I;have A:=zh v;have Hc:=zh F;clear N z I v F;go_enter Tryz.func320,Tryz.ntmps320;go_wp2_with fail;refine zO No [(0,a0),(1,a0),(2,a0),(3,a0),(4,a0),(5,a0),(6,a0),(7,a0),(8,a0),(9,a0),(10,af),(11,a0)] (λX u=>?_);have h:=u.heap hb id;have g0:∀ g:Gr No X,g.W ⟨o,0,K⟩=G (au s):=λg=>g.fr.cell (zB h 0) id
 have g1:∀ g:Gr No X,g.W ⟨o,1,K⟩=G (ai ae (a:B)):=λg=>g.fr.cell (zB h 1) id
 (repeat apply zR rfl rfl rfl;intro Y Z;go_big_quiet_op;go_big_quiet_on);clear g0 g1;rw[<-a5];apply zu rfl;go_wp2_with fail;apply (Tryz.strings_HasPrefix q ⟨#[b]⟩ _).mono;rintro e J ⟨rfl,rfl⟩;rw[A];have c1:J ⟨o,1,K⟩=G (ai ae (a:B)):=zB h 1;have z1:J.frozen? ⟨o,1,K⟩=false:=zD h 1;cases hk:zX b r with
 | none=>
  have H:=zg2 (Hc.no u) (u.mono (T:=Is o) zn);have O:=zh hk;clear hk h u;simp only[ep];go_wp2_with fail;apply zq;(repeat apply zR rfl rfl rfl;intro Y Z;go_big_quiet_op;go_big_quiet_on);apply zY;go_wp2;go_ret;rw[O];exact⟨rfl,H.1,H.2⟩
 | some t=>
  have a6:1<=(r:C):=by rw[zt hk];simp
  have H:aj (Cur (J.setCell ⟨o,1,K⟩ (ai ae ((a:B)+1))) o s t y/\Fr (Is o) w (J.setCell ⟨o,1,K⟩ (ai ae ((a:B)+1)))):=by
   refine⟨⟨a+1,?_,by omega,?_⟩,?_⟩;·rw[zE h];rfl
   .rw[zKf hk,<-Hr,dz]
   .exact(u.mono (T:=Is o) zn).setAt _
  have O:=zh hk;clear hk h u;simp only[er];go_wp2_with fail;apply zq;(repeat apply zR rfl rfl rfl;intro Y Z;go_big_quiet_op;go_big_quiet_on);apply zY;go_wp2;go_ret;rw[O];exact⟨rfl,H.1,H.2⟩
theorem zCt (u:C)(s:R)(b:ab)(r:Q ab)(o:aq)(w:ak)(U:Cur w u s r o)(X:s.size<=1000000):
  ax al 295 #[bm (G ⟨u,0,K⟩),au ⟨#[b]⟩] w λe w'=>e=.returned (.tuple #[])/\Cur w' u s ((zX b r).getD r) (o||(zX b r).isNone)/\Fr (Is u) w w':=by
 go_enter Tryz.func295,Tryz.ntmps295;go_wp2_with fail;apply (zN8 u s b r o _ U X).mono;rintro e N ⟨rfl,z,A⟩;generalize F:(zX b r).getD r=r' at *;have I:=zh F;clear F;obtain⟨a,y,O,V⟩:=z.blk;have Y:N ⟨u,2,K⟩=G (.bool o):=zB y 2;have Z:N.frozen? ⟨u,2,K⟩=false:=zD y 2;have H:aj (∀ v:aq,Cur (N.setCell ⟨u,2,K⟩ (.bool v)) u s r' v/\Fr (Is u) w (N.setCell ⟨u,2,K⟩ (.bool v))):=by
  intro v;refine⟨⟨a,?_,O,V⟩,A.setAt _⟩;rw[zE y];rfl
 clear y z A V U;cases hk:zX b r with
 | none=>
  have J:=zh hk;clear hk;simp only[ep];go_wp2;go_end0;rw[J];have h:=H.out af;exact⟨rfl,by have e:=I.out;rw[J]at e;rw[e];show Cur _ u s r' (o||true);rw[dq];exact h.1,h.2⟩
 | some t=>
  have J:=zh hk;clear hk;simp only[er];go_wp2;go_end0;rw[J];have h:=H.out o;exact⟨rfl,by have e:=I.out;rw[J]at e;rw[e];show Cur _ u s r' (o||false);rw[dp];exact h.1,h.2⟩
def NumIs (r r':Q ab)(bad bad':aq)(n:B):Prop:=(bad=af->bad'=af)/\(bad=a0->(pNum r=K/\bad'=af)\/(pNum r=G (n,r')/\bad'=a0))
theorem zK5: Ascii ⟨#[47,40,44,41,58]⟩:=λj b o=>by
 have h:∀ x∈([47,40,44,41,58]:Q ab),x.toNat<128:=by decide
 exact h b (dd o)
theorem zCu (o:C)(s:R)(r:Q ab)(y:aq)(w:ak)(hc:Cur w o s r y)(hs:s.size<=900)(hE:Env w)(h9:9<=o):
  ax al 296 #[bm (G ⟨o,0,K⟩)] w λe w'=>∃ n r' U,e=.returned (ai ae n)/\r'.length<=(r:C)/\Cur w' o s r' U/\NumIs r r' y U n/\Fr (Is o) w w':=by
 go_enter Tryz.func296,Tryz.ntmps296;go_wp2_with fail;apply (zGD o s ⟨#[47,40,44,41,58]⟩ r y _ hc zK5 (by omega) (by decide)).mono;rintro e w1 ⟨rfl,X,Y⟩;have a6:=zAe [47,40,44,41,58] r;have a7:pNum r=(match cq (upto [47,40,44,41,58] r)with | .ok v=>if ag v=upto [47,40,44,41,58] r then G (v,past [47,40,44,41,58] r)else K|_=>K):=rfl;have e5:(⟨#[47,40,44,41,58]⟩:R).data.toList=[47,40,44,41,58]:=rfl;rw[e5]at X ⊢;generalize upto [47,40,44,41,58] r=dl at *;generalize past [47,40,44,41,58] r=r' at *;have d0:=hc.le;have a8:(dl:C)<=900/\r'.length<=(r:C):=by
  have:=bi bp a6;rw[bt]at this;omega
 obtain⟨A,Z⟩:=ε (⟨dl.toArray⟩:R)
 rw[<-Z];have a2:A.data.toList=dl:=by rw[Z]
 have b6:A.size<=1000:=by
  have h1:A.data.toList.length=A.size:=(bj A).symm;rw[a2]at h1;omega
 have a3:=hE.fr Y (λb hb h=>by omega);have a9:=zh a2;have b0:=zh a7;have u:=zh a8.2;clear Z a6 e5 hc a2 a7 a8;go_wp2_with fail;apply (zJG A _ b6 a3.err).mono;rintro e F ⟨hR,I⟩;unfold AtoiR at hR;rw[a9]at hR;have b1:=X.no I;have b7:=a3.no I;obtain⟨a,z,b8,hr⟩:=b1.blk;have V:=Y.step I zn;have H:aj (∀ (W:ak) (v:aq),Fr No F W->Cur (W.setCell ⟨o,2,K⟩ (.bool v)) o s r' v/\Fr (Is o) w (W.setCell ⟨o,2,K⟩ (.bool v))):=by
  intro W v hW;refine⟨⟨a,?_,b8,hr⟩,(V.step hW zn).setAt _⟩;rw[zE (hW.heap z id)];rfl
 have c2:F ⟨o,2,K⟩=G (.bool y):=zB z 2;have z2:F.frozen? ⟨o,2,K⟩=false:=zD z 2;have b9:=zh z;clear X b1 Y I V a3 hr z;cases y with
 | true=>
  rcases hR with⟨v,J,rfl⟩|⟨J,k,te,N,rfl⟩
  all_goals
   clear J;go_wp2;go_ret;have h:=H.out F af (ba _ _);exact⟨_,r',af,rfl,u.out,h.1,⟨(λ_=>rfl),(λh=>by cases h)⟩,h.2⟩
 | false=>
  rcases hR with⟨v,J,rfl⟩|⟨J,k,te,N,rfl⟩
  .have b2:=Lib.atoiAll_bounds J;have Hn:aj (pNum r=if ag v=dl then G (v,r')else K):=(by unfold aj;rw[b0,J]);clear J;go_wp2_with fail;apply (Tryz.strconv_Itoa v b2.1 b2.2 _ b7.tab).mono;rintro e w3 ⟨rfl,kk,os,rfl⟩;have O:Fr No F (Go.Sort.grow (F.drewN kk) os):=dv (Lib.below_grow _ F (ck _) kk os);generalize Go.Sort.grow (F.drewN kk) os=w3 at *;have c3:w3 ⟨o,2,K⟩=G (.bool a0):=O.cell c2 id;have z3:w3.frozen? ⟨o,2,K⟩=false:=zD (O.heap b9 id) 2;obtain⟨it,a4⟩:=ε (⟨(ag v).toArray⟩:R)
   rw[<-a4];have b3:aj ((it.toList==A.toList)=decide (ag v=dl)):=by
    unfold aj;rw[a4,Bool.eq_iff_iff,beq_iff_eq,decide_eq_true_iff,ByteArray.toList_eq,ByteArray.toList_eq,a9]
   have b4:=zh O;clear a4 O c2 z2;rcases hie:(it.toList==A.toList)with _|_
   .have a5:aj (pNum r=K):=by
     unfold aj;have h1:=b3.out;rw[hie]at h1;rw[Hn,ah (ey h1.symm)]
    go_wp2;go_ret;have h:=H.out w3 af b4;exact⟨_,r',af,rfl,u,h.1,⟨λ_=>rfl,λ_=>.inl ⟨a5,rfl⟩⟩,h.2⟩
   .have b5:aj (pNum r=G (v,r')):=by
     unfold aj;have h1:=b3.out;rw[hie]at h1;rw[Hn,an (of_decide_eq_true h1.symm)]
    go_wp2;go_ret;have h:=H.out w3 a0 b4;exact⟨_,r',a0,rfl,u.out,h.1,⟨(λh=>by cases h),(λ_=>.inr ⟨b5.out,rfl⟩)⟩,h.2⟩
  .have a5:aj (pNum r=K):=by
    unfold aj;rw[b0];split;·rename_i v e;exact absurd e (J v)
    .rfl
   clear J;go_wp2;go_ret;have h:=H.out F af (ba _ _);exact⟨_,r',af,rfl,u,h.1,⟨λ_=>rfl,λ_=>.inl ⟨a5,rfl⟩⟩,h.2⟩
inductive CAt (w:ak)(X:C->Prop):ay ar->Ct->Prop
 | mk (k:B) (i l:R) (s t e:B) (n:Q Ct) (a:ap az) (cap:C) (vs:C->ay ar)
  (h1:(n:C)<=cap) (h2:cap<=c8) (h3:a=K->n=[]/\cap=0)
  (h4:∀ ad,a=G ad->n≠[]->ad.spot=K/\ad.block<(w:C)/\X ad.block)
  (h5:∀ ad j d,a=G ad->n[j]?=G d->∀ q,q<7->w ⟨ad.block,ad.off+(j*7+q),K⟩=(vs j)[q]?)
  (h6:∀ j d,n[j]?=G d->CAt w X (vs j) d):
  CAt w X #[k,i,l,s,t,e,ao a n cap] (.mk k i l s t e n)
theorem CAt.fr {c:Ct}(h:CAt w X o c)(J:Fr S w w')(O:∀ b,X b->¬ S b):CAt w' X o c:=by
 induction h with
 | mk k i l s t e n a y o U V Y N Z h6 ih=>
  refine .mk k i l s t e n a y o U V Y (λu v z=>?_) (λu j d v A q hq=>?_) ih
  .obtain⟨a1,F,I⟩:=N u v z;exact⟨a1,dg F J.size,I⟩
  .obtain⟨a1,F,I⟩:=N u v (λe=>by rw[e]at A;simp at A);rw[<-Z u j d v A q hq];exact ev (J.block _ F (O _ I))
theorem CAt.no {c:Ct}(h:CAt w X o c)(u:Fr No w w'):CAt w' X o c:=h.fr u (λ_ _=>id)
theorem CAt.mono {c:Ct}(h:CAt w X o c)(z:∀ b,b<(w:C)->X b->Y b):CAt w Y o c:=by
 induction h with
 | mk k i l s t e n a u o A F I J N h6 O=>
  refine .mk k i l s t e n a u o A F I (λU V v=>?_) N O;obtain⟨a1,y,Z⟩:=J U V v;exact⟨a1,y,z _ y Z⟩
theorem CAt.size {c:Ct}(h:CAt w X o c):o.size=7:=by
 cases h;rfl
structure InAt (w:ak)(X:C->Prop)(a:ap az)(cap:C)(cs:Q Ct):Prop where
 len:(cs:C)<=cap
 max:cap<=c8
 isNil:a=K->cs=[]/\cap=0
 el:∃ vs:C->ay ar,(∀ ad,a=G ad->cs≠[]->ad.spot=K/\ad.block<(w:C)/\X ad.block)/\(∀ ad j d,a=G ad->cs[j]?=G d->∀ q,q<7->w ⟨ad.block,ad.off+(j*7+q),K⟩=(vs j)[q]?)/\∀ j d,cs[j]?=G d->CAt w X (vs j) d
theorem InAt.nil (w:ak)(X:C->Prop):InAt w X K 0 []:=⟨by simp,by simp,λ_=>⟨rfl,rfl⟩,λ_=>#[],λ_ e=>(by cases e),λ_ _ _ e=>(by cases e),λj d h=>by simp at h⟩
theorem CAt.of_in {o:C}{cs:Q Ct}(h:InAt w X a o cs)(k:B)(i l:R)(s t e:B):CAt w X #[k,i,l,s,t,e,ao a cs o] (.mk k i l s t e cs):=by
 obtain⟨u,v,y,z⟩:=h.el;exact .mk k i l s t e cs a o u h.len h.max h.isNil v y z
theorem InAt.fr {o:C}{cs:Q Ct}(h:InAt w X a o cs)(z:Fr S w w')(J:∀ b,X b->¬ S b):InAt w' X a o cs:=by
 obtain⟨O,N,U,V⟩:=h.el;refine⟨h.len,h.max,h.isNil,O,λv y A=>?_,λv j d y u q Y=>?_,λj d u=>(V j d u).fr z J⟩
 .obtain⟨a1,F,I⟩:=N v y A;exact⟨a1,dg F z.size,I⟩
 .obtain⟨a1,F,I⟩:=N v y (λe=>by rw[e]at u;simp at u);rw[<-U v j d y u q Y];exact ev (z.block _ F (J _ I))
theorem InAt.mono {o:C}{cs:Q Ct}(h:InAt w X a o cs)(v:∀ b,b<(w:C)->X b->Y b):InAt w Y a o cs:=by
 obtain⟨z,A,F,I⟩:=h.el;refine⟨h.len,h.max,h.isNil,z,λJ N u=>?_,F,λj d O=>(I j d O).mono v⟩;obtain⟨a1,y,U⟩:=A J N u;exact⟨a1,y,v _ y U⟩
structure CRow (w:ak)(base:C)(v:ar)(cs:Q Ct):Prop where
 el:∃ vl:Q (ay ar),(vl:C)=(cs:C)/\w.ownsRow base 258 7 v (cs:C) (vl.flatMap cn)/\∀ (j:C) (vs:ay ar) (c:Ct),vl[j]?=G vs->cs[j]?=G c->CAt w (λb=>base<=b/\v.ownBlock≠G b) vs c
theorem CRow.nil (w:ak)(o:C):CRow w o (ao K 0 0) []:=⟨[],rfl,World.ownsRow_nil _ _ _ _,λj u c h=>by simp at h⟩
theorem CRow.fr {o:C}{cs:Q Ct}(h:CRow w o v cs)(u:Fr S w w')(y:∀ b,o<=b->¬ S b):CRow w' o v cs:=by
 obtain⟨z,A,F,I⟩:=h.el;exact⟨z,A,zAa F u y,λj J c N O=>(I j J c N O).fr u (λb U=>y b U.1)⟩
theorem zIx : ∀ (z:Q (ay ar)),(∀ o∈z,o.size=7)->∀ (j:C) (o:ay ar),z[j]?=G o->∀ q,q<7->(z.flatMap cn)[j*7+q]?=o[q]?
 | [],_,j,o,h,q,A=>by simp at h
 | x::t,u,0,o,h,q,A=>by
  simp at h;subst h;have v:=u x (by simp);rw[ef,cw (by simp[v];omega)];simp
 | x::t,u,j+1,o,h,q,A=>by
  have v:=u x (by simp);rw[ef,cx (by simp[v];omega),show (j+1)*7+q-(x.toList:C)=j*7+q by simp[v];omega];exact zIx t (λy F=>u y (by simp[F])) j o (by simpa using h) q A
theorem CRow.inAt {o:C}{cs:Q Ct}(h:CRow w o v cs):∃ a u,v=ao a cs u/\InAt w (From o) a u cs:=by
 obtain⟨y,V,X,U⟩:=h.el;have Y:∀ J∈y,J.size=7:=λJ N=>by
  obtain⟨j,z⟩:=cy N;have A:j<(cs:C):=by rw[<-V];exact(List.getElem?_eq_some_iff.1 z).1
  exact(U j J cs[j] z (ce A)).size
 obtain⟨_,⟨rfl,Z⟩|⟨g,u,a2,rfl,hg,F,h6,h7,h8,h9⟩⟩:=X
 .have:cs=[]:=ec Z;subst this;exact⟨K,0,rfl,InAt.nil _ _⟩
 .refine⟨G ⟨g,0,K⟩,u,rfl,h6,h7,(λe=>by cases e),λj=>(y[j]?).getD #[],λad e a3=>?_,λad j d e I q hq=>?_,λj d I=>?_⟩;·cases e;exact⟨rfl,zC F,hg⟩
  .cases e;have A:j<(cs:C):=(List.getElem?_eq_some_iff.1 I).1;have z:y[j]?=G (y[j]'(by omega)):=ce (by omega);show _=((y[j]?).getD #[])[q]?
   rw[zB F,z];simp only[eo,cf];rw[<-zIx y Y j _ z q hq,<-h9,cz (by omega),bf]
  .have A:j<(cs:C):=(List.getElem?_eq_some_iff.1 I).1;have z:y[j]?=G (y[j]'(by omega)):=ce (by omega);have O:=U j _ d z I;show CAt w (From o) ((y[j]?).getD #[]) d
   rw[z];exact O.mono (λb _ F=>F.1)
theorem CRow.push {O:ak}{o:C}{F:ar}{cs:Q Ct}{u:ay ar}{c:Ct}(hv:CAt w (From o) u c)(U:∀ b,v.ownBlock=G b->CAt w (λb'=>o<=b'/\b'≠b) u c)
  {I:Q (ay ar)} (h1:(I:C)=(cs:C)) (h3:∀ (j:C) (u:ay ar) (c:Ct),I[j]?=G u->cs[j]?=G c->CAt w (λb=>o<=b/\v.ownBlock≠G b) u c)
  (J:O.ownsRow o 258 7 F ((cs:C)+1) (I.flatMap cn++u.toList)) (hf:Fr (λb=>v.ownBlock=G b) w O) (V:F.ownBlock=v.ownBlock\/∃ g,F.ownBlock=G g/\(w:C)<=g):CRow O o F (cs++[c]):=by
 have N:∀ u c,CAt w (λb=>o<=b/\v.ownBlock≠G b) u c->CAt O (λb=>o<=b/\F.ownBlock≠G b) u c:=by
  intro u c h;have h4:=h.mono (Y:=λb=>(o<=b/\v.ownBlock≠G b)/\b<(w:C)) (λb y hx=>⟨hx,y⟩);have h5:=h4.fr hf (λb y=>y.1.2);refine h5.mono (λb _ y=>⟨y.1.1,?_⟩);rcases V with e|⟨g,e,hg⟩
  .rw[e];exact y.1.2
  .rw[e];intro h;cases h;omega
 have X:CAt w (λb=>o<=b/\v.ownBlock≠G b) u c:=by
  cases hob:v.ownBlock with
  | none=>exact hv.mono (λb _ y=>⟨y,by simp⟩)
  | some g=>exact(U g hob).mono (λb _ y=>⟨y.1,λe=>y.2 (Option.some.inj e).symm⟩)
 refine⟨I++[u],by simp[h1],?_,λj Z c' z A=>?_⟩
 .rw[List.flatMap_append]
  simpa using J
 .by_cases a2:j<(cs:C)
  .rw[cw (by omega)]at z;rw[cw a2]at A;exact N _ _ (h3 j Z c' z A)
  .rw[cx (by omega)]at z;rw[cx (by omega)]at A;have e1:j-(I:C)=0:=by
    have:=(List.getElem?_eq_some_iff.1 z).1;simp at this;omega
   have e2:j-(cs:C)=0:=(by omega);rw[e1]at z;rw[e2]at A;simp at z A;subst z;subst A;exact N _ _ X
def CtRes (w:ak)(pb:C)(s:R)(r:Q ab)(n:C)(e:Ending)(w':ak):Prop:=
 ∃ (k:B) (i l:R) (sl t le:B) (a:ap az) (m c:C) (r':Q ab) (bad':aq),e=.returned (be #[k,i,l,sl,t,le,ao a m c])/\(r':C)<=(r:C)/\Cur w' pb s r' bad'/\Fr (Is pb) w w'/\
  ((bad'=af/\pC n r=K)\/(bad'=a0/\∃ ct,pC n r=G (ct,r')/\CAt w' (From (w:C)) #[k,i,l,sl,t,le,ao a m c] ct))
def PSpec (n:C):Prop:=∀ (pb:C) (s:R) (r:Q ab) (w:ak),(r:C)<n->Cur w pb s r a0->s.size<=900->Env w->9<=pb->
 ax al 261 #[bm (G ⟨pb,0,K⟩)] w (CtRes w pb s r n)
def InRes (w:ak)(pb:C)(s:R)(r:Q ab)(bad:aq)(n:C)(e:Ending)(w':ak):Prop:=
 ∃ (a:ap az) (m c:C) (r':Q ab) (bad':aq),e=.returned (ao a m c)/\(r':C)<=(r:C)/\Cur w' pb s r' bad'/\Fr (Is pb) w w'/\(bad=af->bad'=af)/\
  (bad=a0->(bad'=af/\(zX 40 r).bind (pL n [])=K)\/(bad'=a0/\∃ cs,(zX 40 r).bind (pL n [])=G (cs,r')/\m=cs.length/\InAt w' (From (w:C)) a c cs))
theorem zAu (r:Q ab):((zX b r).getD r).length<=(r:C):=by
 cases h:zX b r with
 | none=>simp
 | some t=>rw[zt h];simp
theorem infoC: (Tryz.prog.info? 258).map (λi=>(i.zero,i.size,i.bytes))=G (G (be #[ai ae 0,ch,ch,ai ae 0,ai ae 0,ai ae 0,ao K 0 0]),7,88):=by kernel_rfl
def lenOf : ar->C
 | .slice _ n _=>n
 | _=>0
theorem zDu (k s t e:B)(i l:R)(a:ap az)(m c:C):∀ u∈[Value.int ae k,au i,au l,ai ae s,ai ae t,ai ae e,ao a m c],u.oneCell'=true:=by
 intro u h;simp at h;rcases h with rfl|rfl|rfl|rfl|rfl|rfl|rfl<;>rfl
theorem zHi (a:ap az)(n c:C):lenOf (ao a n c)=n:=rfl
theorem zPZ (n:C)(hP:∀ k,k<n->PSpec k)(z:C)(s:R)(r:Q ab)(V:aq)(w:ak)(hr:(r:C)+1<=n)(hc:Cur w z s r V)(hs:s.size<=900)(hE:Env w)(h9:9<=z):
  ax al 297 #[bm (G ⟨z,0,K⟩)] w (InRes w z s r V n):=by
 obtain⟨i0,i9,j0,j1,j2⟩:=info_parts infoC;have l5:=hc.lt;have l6:=hc.le;go_enter Tryz.func297,Tryz.ntmps297;go_wp2_with fail;apply (zCt z s 40 r V _ hc (by omega)).mono;rintro e I ⟨rfl,b8,a9⟩;have j3:=zAu (b:=40) r;obtain⟨O,b9⟩:=ε ((zX 40 r).getD r)
 rw[<-b9]at b8 j3;obtain⟨b1,d0⟩:=ε (V||(zX 40 r).isNone)
 rw[<-d0]at b8;have d1:=zh b9;have b0:=zh d0;have l7:=a9.size;have d9:=zh a9;have e0:=hE.fr a9 (λb A h=>by omega);clear b9 d0 a9 hc;go_wp2_with fail;go_loopw [3] (λv wr=>∃ (o:Q Ct) (rr:Q ab) (bb:aq) (av:ap az) (cv:C) (m:C),v=.slice av o cv/\(o:C)+m=n/\(rr:C)<=(O:C)/\Cur wr z s rr bb/\aj (bb=a0->((rr:C)+2<=m/\(o:C)+(rr:C)<=(O:C))/\pL n [] O=pL m o rr/\b1=a0)/\aj (bb=af->b1=af\/pL n [] O=K)/\aj (bb=a0->CRow wr (I:C) (.slice av o cv) o)/\Fr (λb=>b=z\/(I:C)<=b) I wr) (λv _=>n+1-lenOf v);case atStart=>
  refine⟨[],O,b1,none,0,n,rfl,by simp,by omega,b8,λh=>?_,λh=>.inl h,λ_=>CRow.nil _ _,ba _ _⟩;have u:=b0.out;rw[h]at u;have h3:(zX 40 r).isNone=false:=by
   cases h4:(zX 40 r).isNone with
   | false=>rfl
   | true=>rw[h4,dq]at u;cases u
  cases h5:zX 40 r with
  | none=>rw[h5]at h3;cases h3
  | some t=>
   have h6:=d1.out;rw[h5,cf]at h6;have h7:=bi bp (zt h5);rw[h6];simp at h7;exact⟨⟨by omega,by simp⟩,rfl,h⟩
 case round=>
  obtain⟨o,rr,bb,av,cv,m,rfl,hm,l8,a2,H0,H1,HR,a3⟩:=hrel;obtain⟨W2,rfl⟩:=ε wr
  obtain⟨l9,d2,m0,m1⟩:=a2.blk;have c2:W2 ⟨z,2,K⟩=G (.bool bb):=zB d2 2;have m2:=a3.size;have j4:aj (Fr (Is z) w W2):=d9.step a3 (λb A h=>by omega);cases bb with
  | true=>
   have a4:aj (InRes w z s r V n (.returned (.slice K 0 0)) W2):=by
    refine⟨none,0,0,rr,true,rfl,by omega,a2,j4,λ_=>rfl,λe7=>.inl ⟨rfl,?_⟩⟩;cases h5:zX 40 r with
    | none=>rfl
    | some t=>
     have h6:=d1.out;rw[h5,cf]at h6;show pL n [] t=K
     rw[<-h6];rcases H1.out rfl with h|h
     .have u:=b0.out;rw[e7,h5,h]at u;cases u
     .exact h
   clear d2 a2;go_wp2;go_ret;exact a4
  | false=>
   obtain⟨⟨m3,m4⟩,e8,e9⟩:=H0.out rfl;have g0:aj (CRow W2 (I:C) (.slice av o cv) o):=HR.out rfl;obtain⟨m,rfl⟩:∃ m',m=m'+1:=⟨m-1,by omega⟩
   have g1:=e0.fr a3 (λb A h=>by have:=e0.sz;omega);have d3:=zh e8;have d4:=zh e9;have l0:(o:C)<=n:=(by omega);have g2:=hP m (by omega) z s rr W2 (by omega) a2 hs g1 h9;clear d2 e8 e9 a2;go_wp2_with fail;apply g2.mono;rintro e w3 ⟨k,i,l,sl,t,le,a,mm,c,U,b3,rfl,m5,g3,b2,a5⟩;have m6:=b2.size;have d5:aj (CRow w3 (I:C) (.slice av o cv) o):=g0.fr b2 (λb A h=>by omega);obtain⟨vl,j5,a6,g4⟩:=d5.el;have g5:Fr No w3 (w3.alloc (aw #[.int ae k,.string i,.string l,.int ae sl,.int ae t,.int ae le,.slice a mm c] 258)):=(ba _ _).alloc _;have Hc:=zh a5;have j6:=zh g4;have j7:=zh (a3.step b2 (λb A h=>by omega));have j8:=zh g3;have g6:=ze (b:=0) a6;have d6:aj (∀ b,(dj av o cv).ownBlock=G b->b<(W2:C)/\(I:C)<=b):=λb A=>by
    obtain⟨m7,_,g7,_⟩:=g0.el;exact⟨ze g7 A,zQ g7 A⟩
   have l1:(I:C)<=(w3:C):=(by omega);have l2:z<(I:C):=(by omega);clear a5 g4 g2 g3 a3 b2 g6;go_wp2_with (at_builtin;refine wpList_append_own_at _ rfl _ _ 256 rfl (I:C) 258 i0 (be #[.int ae 0,.string ch,.string ch,.int ae 0,.int ae 0,.int ae 0,.slice K 0 0]) 7 88 Tryz.underlying256 i9 j0 j1 j2 rfl (by decide) _ _ _ rfl (a6.alloc _) ⟨w3,0,K⟩ 1 1 [.int ae k,.string i,.string l,.int ae sl,.int ae t,.int ae le,.slice a mm c] rfl rfl (zk _ _ _ rfl) (zDu _ _ _ _ _ _ _ _ _) (by unfold c8;omega) (by omega) (by simp;omega) ?_;intro v' wb J a7 _ g8;obtain⟨X,Y,rfl⟩:=zI J)
   have b4:Fr (λb=>(dj av o cv).ownBlock=G b) w3 wb:=g5.trans (Fr.of_grown a7) zn zi;have g9:=zh b4;have h0:=zh J;have j9:=zh g8;have h8:=j8.fr b4 (λh=>by have:=d6.out _ h;omega);have m8:=b4.size;clear J a7 g8 b4 a6 g5 g1;go_wp2_with fail;apply (zN8 z s 41 U b3 _ h8 (by omega)).mono;rintro e w5 ⟨rfl,F,b5⟩;have m9:=b5.size;have b7:aj (Fr (λb=>b=z\/(I:C)<=b) I w5):=(j7.step g9 (λb A h=>by have:=d6.out b h;omega)).step b5 (λb A h=>by omega);have i3:aj (Fr (Is z) w w5):=d9.step b7 (λb A h=>by omega)
   -- the row with the new content, if the parse went well
   have a8:aj (∀ ct,b3=a0->CAt w3 (From (W2:C)) #[.int ae k,.string i,.string l,.int ae sl,.int ae t,.int ae le,.slice a mm c] ct->CRow w5 (I:C) (.slice X (o++[ct]).length Y) (o++[ct])):=by
    intro ct _ i4;have h1:CRow wb (I:C) (.slice X ((o:C)+1) Y) (o++[ct]):=CRow.push (i4.mono (λb _ A=>by unfold From at *;omega)) (λb A=>i4.mono (λb' _ k0=>by have:=d6.out b A;unfold From at k0;exact⟨by omega,by omega⟩)) j5 j6 h0 g9 (by
     rcases j9.out with h|h
     .exact .inl h
     .exact .inr ⟨_,h,by simp⟩)
    rw[bt,List.length_singleton];exact h1.fr b5 (λb A h=>by omega)
   cases hk:zX 41 U with
   | some r4=>
    rw[hk]at F;simp only[cf]at F;have h7:=bi bp (zt hk);simp at h7;have a4:aj (InRes w z s r V n (.returned (.slice X ((o:C)+1) Y)) w5):=by
     refine⟨X,(o:C)+1,Y,r4,b3,rfl,by omega,F,i3,λk3=>?_,λe7=>?_⟩
     .have u:=b0.out;rw[k3,d4.out]at u;cases u
     .have h6:(zX 40 r).bind (pL n [])=pL n [] O:=by
       cases h5:zX 40 r with
       | none=>have u:=b0.out;rw[h5,d4.out]at u;simp at u
       | some t0=>have h6:=d1.out;rw[h5,cf]at h6;rw[h6];rfl
      rw[h6,d3,pL];rcases Hc.out with⟨h1,u⟩|⟨h1,ct,u,h3⟩
      .rw[u];exact .inl ⟨h1,rfl⟩
      .rw[u];simp only[cl,hk];refine .inr ⟨h1,o++[ct],rfl,by simp,?_⟩;have i5:=a8.out ct h1 h3;obtain⟨a',l3,hv,k4⟩:=i5.inAt;cases hv;exact k4.mono (λb _ A=>by unfold From at *;omega)
    clear F hk;go_wp2;go_ret;exact a4
   | none=>
    rw[hk]at F;simp only[Option.getD_none]at F;have Hk:=zh hk;clear hk;go_wp2_with fail;apply (zCt z s 44 U b3 _ F (by omega)).mono;rintro e w6 ⟨rfl,d7,b6⟩;have l4:=zAu (b:=44) U;have n3:=b6.size;have i6:aj (Fr (λb=>b=z\/(I:C)<=b) I w6):=b7.step b6 (λb A h=>by omega);have i7:∀ ct,b3=a0->pC m rr=G (ct,U)->pL n [] O=(zX 44 U).bind λr2=>pL m (o++[ct]) r2:=by
     intro ct _ u;rw[d3,pL,u];simp only[cl,Hk.out]
    have i8:=zh i7
    -- what the next round has
    have d8:aj (∃ (y:Q Ct) (N:Q ab) (Z:aq),(y:C)=(o:C)+1/\(N:C)<=(O:C)/\Cur w6 z s N Z/\(Z=a0->((N:C)+2<=m/\(y:C)+(N:C)<=(O:C))/\pL n [] O=pL m y N/\b1=a0)/\(Z=af->b1=af\/pL n [] O=K)/\(Z=a0->CRow w6 (I:C) (.slice X y Y) y)):=by
     rcases Hc.out with⟨h1,u⟩|⟨h1,ct,u,h3⟩
     .subst h1;have k5:pL n [] O=none:=(by rw[d3,pL,u];rfl);exact⟨o++[Ct.zero],(zX 44 U).getD U,(af||(zX 44 U).isNone),by simp,by omega,d7,(λh=>by cases h),(λ_=>.inr k5),(λh=>by cases h)⟩
     .subst h1;refine⟨o++[ct],(zX 44 U).getD U,(a0||(zX 44 U).isNone),by simp,by omega,d7,λh=>?_,λh=>?_,?_⟩
      .cases h4:zX 44 U with
       | none=>rw[h4]at h;cases h
       | some r4=>
        have h7:=bi bp (zt h4);simp at h7;refine⟨⟨by simp;omega,by simp;omega⟩,?_,d4.out⟩;rw[i8 ct rfl u,h4];rfl
      .cases h4:zX 44 U with
       | none=>exact .inr (by rw[i8 ct rfl u,h4];rfl)
       | some r4=>rw[h4]at h;cases h
      .intro _;exact(a8 ct rfl h3).fr b6 (λb A h=>by omega)
    obtain⟨y,N,Z,e1,e2,e3,e4,e5,e6⟩:=d8.out;have k6:=zh e3;have k7:=zh e4;have k8:=zh e5;have k9:=zh e6;clear d7 e3 e4 e5 e6 F b6 b5 i7 h8;go_wp2;go_roundw;case rel=>exact⟨y,N,Z,X,Y,m,by rw[e1],by omega,e2,k6,k7,k8,k9,i6⟩
    case measure=>simp only[zHi];omega
theorem CAt.inAt {v:ay ar}{s t:B}{l:R}{n:Q Ct}(h:CAt w X v (.mk k i l s t e n)):∃ a o,v=#[ai ae k,au i,au l,ai ae s,ai ae t,ai ae e,ao a n o]/\InAt w X a o n:=by
 generalize y:Ct.mk k i l s t e n=c at h;cases h with
 | mk O U l' V Y Z n' a o u z A F I J N=>
  injection y with e1 e2 e3 e4 e5 e6 e7
  subst e1;subst e2;subst e3;subst e4;subst e5;subst e6;subst e7;exact⟨a,o,rfl,z,A,F,u,I,J,N⟩
structure CtAt (w:ak)(b o:C)(k:B)(i l:R)(s t e:B)(v:ar):Prop where
 c0:w ⟨b,o,K⟩=G (ai ae k)
 c1:w ⟨b,o+1,K⟩=G (au i)
 c2:w ⟨b,o+2,K⟩=G (au l)
 c3:w ⟨b,o+3,K⟩=G (ai ae s)
 c4:w ⟨b,o+4,K⟩=G (ai ae t)
 c5:w ⟨b,o+5,K⟩=G (ai ae e)
 c6:w ⟨b,o+6,K⟩=G v
theorem InAt.at {cs:Q Ct}(h:InAt w X a A cs){s t:B}{l:R}{n:Q Ct}(y:cs[j]?=G (.mk k i l s t e n)):
  ∃ b u z o,a=G ⟨b,u,K⟩/\b<(w:C)/\X b/\CtAt w b (u+j*7) k i l s t e (ao z n o)/\InAt w X z o n:=by
 cases a with
 | none=>rw[(h.isNil rfl).1]at y;simp at y
 | some F=>
  obtain⟨vs,U,V,Y⟩:=h.el;obtain⟨J,N,O⟩:=U F rfl (λe=>by rw[e]at y;simp at y);obtain⟨z,o,Z,I⟩:=(Y j _ y).inAt;have v:=V F j _ rfl y;rw[Z]at v;obtain⟨b,u,sp⟩:=F;simp only at J N O v;subst J;exact⟨b,u,z,o,rfl,N,O,⟨v 0 (by omega),v 1 (by omega),v 2 (by omega),v 3 (by omega),v 4 (by omega),v 5 (by omega),v 6 (by omega)⟩,I⟩
theorem zHu {n:Q Ct}{d:Ct}(h:n[j]?=G d):Ct.depths (n.take (j+1))=max (Ct.depths (n.take j)) d.depth:=by
 rw[List.take_add_one,h];exact zEU _ _
theorem zG2 {n:Q Ct}(j:C):Ct.depths (n.take j)<=Ct.counts n:=by
 have o:=zBh (n.take j);have h:=zAj (n.take j) (n.drop j);rw[List.take_append_drop]at h;omega
theorem zLw (m:C):m<=10000->∀ (k s t e:B) (i l:R) (n:Q Ct) (a:ap az) (o:C) (w:ak) (X:C->Prop),Ct.counts n<m->InAt w X a o n->
  ax al 298 #[be #[k,au i,l,s,t,e,ao a n o]] w λen w2=>en=.returned (ai ae ((Ct.mk k i l s t e n).depth:B))/\Fr No w w2:=by
 induction m with
 | zero=>intro _ k s t e i l n a o w X h;omega
 | succ m ih=>
  intro hm k s t e i l n a o w X a7 I;have a8:=zAm n;have V:Fr No w (w.alloc (aw #[k,au i,l,s,t,e,ao a n o] 258)):=(ba _ _).alloc _;have q1:=zF w (aw #[k,au i,l,s,t,e,ao a n o] 258);obtain⟨Z,F⟩:=ε (w.alloc (aw #[k,au i,l,s,t,e,ao a n o] 258))
  rw[<-F]at V q1;have J:=I.fr V (λ_ _=>id);obtain⟨c0,-,-,-,-,-,c6⟩:=cl7 q1;have Ih:=zh (ih (by omega));have H0:=zh V;clear ih I V;go_enter Tryz.func298,Tryz.ntmps298;go_wp2_with fail;rw[<-F];clear F;go_wp2_with fail;go_loopw [3,9] (λv i wr=>∃ (j:C),j<=(n:C)/\v=ai ae ((Ct.depths (n.take j):C):B)/\i=ai ae (j:B)/\Fr No Z wr) (λ_ i _=>(n:C)-(intOf i).toNat);case atStart=>exact⟨0,by omega,by simp[Ct.depths],rfl,ba _ _⟩
  case round=>
   obtain⟨j,hj,rfl,rfl,u⟩:=hrel;have a2:=zG2 (n:=n) j;by_cases a3:j<(n:C)
   .have N:(j:B)<(n:C):=(by omega);obtain⟨d,Y⟩:∃ d,n[j]?=G d:=⟨_,ce a3⟩
    have a4:=zBO (dd Y);have O:=zHu Y;have a6:=zG2 (n:=n) (j+1);obtain⟨k1,i1,l1,s1,t1,e1,n1⟩:=d;rw[Ct.count]at a4;obtain⟨b,a9,a',z,rfl,hb,hX,⟨y0,y1,y2,y3,y4,y5,y6⟩,A⟩:=(J.fr u (λ_ _=>id)).at Y;have a5:=zh O;clear O Y;go_wp2_with fail;have hx:Fr No wr (wr.alloc (aw #[k1,i1,l1,s1,t1,e1,ao a' n1 z] 258)):=(ba _ _).alloc _;apply (Ih k1 s1 t1 e1 i1 l1 n1 a' z _ X (by omega) (A.fr hx (λ_ _=>id))).mono;rintro e w2 ⟨rfl,U⟩;have y:=zh ((u.step hx zi).step U zi);clear hx U u y0 y1 y2 y3 y4 y5 y6 A;go_wp2;go_roundw;case rel=>exact⟨j+1,by omega,by rw[a5];congr 1;omega,by go_num,y⟩
    case measure=>simp[intOf];omega
   .have N:¬ (j:B)<(n:C):=(by omega);obtain rfl:j=(n:C):=by omega
    rw[List.take_length]at a2 ⊢;have b0:wr ⟨w,0,K⟩=G (ai ae k):=u.cell c0 id;have y:=zh (H0.trans u zi zi);clear u;by_cases hk:k=0
    .subst hk;go_wp2;go_ret;exact⟨by rw[Ct.depth,an rfl];rfl,y⟩
    .go_wp2;go_ret;exact⟨by rw[Ct.depth,ah hk];rfl,y⟩
theorem zPb {u:ay ar}{c:Ct}(h:CAt w X u c)(v:c.count<=10000):
  ax al 298 #[be u] w λy z=>y=.returned (ai ae (c.depth:B))/\Fr No w z:=by
 obtain⟨k,i,l,s,t,e,n⟩:=c;obtain⟨a,o,rfl,A⟩:=h.inAt;exact zLw _ v k s t e i l n a o w X (by rw[Ct.count];omega) A
end Go.Proofs.YtjoipgjdpnjjiaaGreatDoor
