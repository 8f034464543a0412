import Derived.Test.YtjohgekljmhheaaGreatDoorQ5
import Derived.Test.YtjohgekljmhheaaGreatDoorShelf4
import Derived.Lib.AtoiAll
import Derived.Lib.ItoaNum
import Derived.Lib.Join
import Derived.Test.YtjohgekljmhheaaGreatDoorStrs3
import Derived.Lib.AtoiAllCases
import Derived.Lib.AppendIntMem
import Derived.Lib.TrimU
import Derived.Lib.OthersKept
import Derived.Laws.RangeString
import Derived.Laws.Runes
import Derived.Deep.LoopGhost
import Derived.WalkMore
namespace Go.Proofs.YtjohgekljmhheaaGreatDoor
open Go.RowKit Go.Maps Go.Sort Go.Shelf Go
set_option linter.unusedVariables false
set_option maxRecDepth 100000
set_option maxHeartbeats 2000000
open Dev renaming vals->cj,zero->cq
open Fr renaming refl->bc,of_below_size->dw
open Go renaming World->al,Value->au,Calls->ay,Addr->ba,maxLen->c9,wp_scope_straight->f0
open Go.Ending renaming returned->du
open Go.Exit renaming noGoto_ret->dv
open Go.IntKind renaming i64->af
open Go.Lib renaming itoa->ah,size_eq->bm,decDigits->bt,decodeN->bx,indexByte->bz,indexAny->cc,join->cd,atoiAll->cr,extract_to_end->cu,hasPrefix->cw,contains_iff_indexByte->dx
open Go.Obj renaming cells->ax
open Go.Proofs renaming sortWorldK->ch
open Go.Proofs.Tryz renaming prog->am,func111->et,underlying84->eu
open Go.RowKit renaming Hid->ak
open Go.Utf8 renaming decode->bh,encode->bs,valid->ev
open Go.Value renaming int->aj,slice->ap,string->aw,agg->bf,pointer->bn,slice->dk
open Go.World renaming cell?_of_block->ew
open RetB renaming mk->cn
open _root_ renaming Nat->C,List->Q,Int->B,ByteArray->a0,UInt8->ae,if_neg->ai,if_pos->ao,Option->aq,Bool->ar,Array->az,if_true->be,decide_eq_true_eq->bi,congrArg->bj,getElem!_pos->bv,decide_eq_false->ey,of_decide_eq_false->ez
open _root_.Array renaming getElem?_toList->bg,getElem?_eq_getElem->bo,toList->co,ext'->dm,getElem?_modify->dn
open _root_.Bool renaming false->ab,true->ag,and_eq_true->an,not_false->bw,or_eq_true->cp,eq_false_iff->dp,or_false->dq,or_true->dr
open _root_.ByteArray renaming empty->ci,ext->dt
open _root_.List renaming isEmpty_iff->bp,length->bq,length_append->bu,dropWhile_cons->c7,takeWhile_cons->c8,cons_append->ce,getElem?_eq_getElem->cf,getElem?_eq_none->ck,getElem?_append_left->cx,getElem?_append_right->cy,getElem?_of_mem->cz,getElem?_take_of_lt->da,length_drop->db,map->dc,mem_cons->dd,mem_of_getElem?->de,not_mem_nil->df,append_nil->dy,contains_iff_mem->dz,drop_drop->ec,eq_nil_of_length_eq_zero->ee,ext_getElem?->ef,flatMap_cons->eg,intercalate->eh,length_cons->ei,length_take->ej,map_cons->ek,map_nil->em,nil_append->eo
open _root_.Nat renaming zero_le->br,le_refl->cl,le_trans->dg,lt_of_lt_of_le->dh,zero_add->ep
open _root_.Option renaming some->G,none->R,getD_some->cg,bind_some->cm,isSome_none->er,isSome_some->es
open _root_.UInt8 renaming ofNat->bd,toNat_ofNat'->dj
variable{w w':al}{A u j:C}{S X Y:C->Prop}{v:au}{b:ae}{r t:Q ae}{s i:a0}{o:az au}{a:aq ba}{k e:B}
theorem zJg (o:Q (a0×a0))(p:a0×a0):updQ (seenG o) p (.bool ag)=seenG (o++[p]):=by
 funext x
 unfold updQ seenG;rw[List.any_append];by_cases h:x=p;·subst h;simp
 .rw[ai h];have:[p].any (λy=>decide (y=x))=false:=by simp;exact λe=>h (Eq.symm e)
  rw[this,dq]
theorem RS.seen {c:RC}{z:aq ba}{F:aq ba}{I:C}{S:Q Src}{M:Q Vir}{v:Q (a0×a0)}(h:RS c w z A F I S M v)(f:Fr (Is c.sm) w w'){p:a0×a0}
  (hQ:QMap w' c.sm (updQ (seenG v) p (.bool ag)) ((v:C)+1)):RS c w' z A F I S M (v++[p]):=by
 have u:∀ o,c.ca=G o->¬ Is c.sm o.block:=λo e J=>by
  obtain⟨cs,N⟩:=(h.cb o e).2.2 o e;exact h.smo.ne_cells N J
 refine⟨f.heap h.k (λe=>h.smo.ne_cells h.k e),zG h.so f (λb y e=>by unfold Is at e;subst e;exact h.smo.ne_own h.so y),zG h.mo f (λb y e=>by unfold Is at e;subst e;exact h.smo.ne_own h.mo y),h.cs.fr f (λo e _=>u o e),λo e=>⟨(h.cb o e).1,(h.cb o e).2.1,(h.cb o e).2.2.fr f u⟩,h.wmo.fr f (λe=>h.ne e),?_,h.ne,h.lo,dg h.b2l f.size⟩;rw[<-zJg,bu];exact hQ
theorem zOK (c:RC)(sa:aq ba)(sc:C)(ma:aq ba)(mc:C)(S:Q Src)(M:Q Vir)(O:Q (a0×a0))(u v:a0)(w:al)(h:RS c w sa sc ma mc S M O)(hk:u.size<=c9)(hi:v.size<=c9)(hG:(O:C)<=100000):
  ay am 103 #[bn (G ⟨c.xb,0,R⟩),u,v] w λe w'=>e=.returned (.bool (!(O.any λx=>decide (x=(u,v)))))/\RS c w' sa sc ma mc S M (O++[(u,v)])/\Fr (Is c.sm) w w':=by
 obtain⟨W1,V,U,p1⟩:=zy w (ax #[u,v] 114);have X:=h.no U;have a3:=zh U;obtain⟨A,y⟩:∃ A,A=O.any λx=>decide (x=(u,v)):=⟨_,rfl⟩
 have Y:ak ((seenG O (u,v)).getD (.bool ab)=.bool A):=by
  unfold ak seenG;rw[y];cases hq:O.any λx=>decide (x=(u,v))<;>simp
 rw[<-y];clear h U y;go_enter Tryz.func103,Tryz.ntmps103;go_upto_region 2 with(fail)
 rw[<-V];clear V;refine zO No [(0,ab),(1,ab),(2,ab),(3,ab),(4,ab),(5,ab),(6,ab)] (λw0 F=>?_);have I:=X.no F;have p0:=F.heap p1 id;have d6:∀ g:Gr No w0,g.W ⟨c.xb,7,R⟩=G (.map (G c.sm)):=λg=>zB (g.fr.heap I.k id) 7
 have g0:∀ g:Gr No w0,g.W ⟨w,0,R⟩=G (aw u):=λg=>zB (g.fr.heap p0 id) 0
 have g1:∀ g:Gr No w0,g.W ⟨w,1,R⟩=G (aw v):=λg=>zB (g.fr.heap p0 id) 1
 have Z:∀ W,(∃ g:Gr No w0,W=g.W)->(Instr.lookup 84 (.map (G c.sm)) (bf #[u,v]) ab).run am W=.ok (.bool A) W:=λW hW=>by
  obtain⟨g,rfl⟩:=hW;have:=(I.smo.fr g.fr id).look (zPp g.W) eu hk hi;rw[this,Y]
 apply zR rfl rfl rfl;intro K z;go_big_quiet_op;go_big_quiet_on;apply zR rfl rfl rfl;intro K z;go_big_quiet_op;go_big_quiet_on;apply zR rfl rfl rfl;intro K z;go_big_quiet_op;go_big_quiet_on;apply zR rfl rfl rfl;intro K z;go_big_quiet_op;go_big_quiet_on;apply zR rfl rfl rfl;intro K z;go_big_quiet_op;go_big_quiet_on;apply zR rfl rfl rfl;intro K z;refine zB5 rfl _ _ 84 rfl (.map (G c.sm)) (bf #[u,v]) _ rfl rfl Z ?_
 go_frame
 go_big_quiet_on;apply zR rfl rfl rfl;intro K z;go_big_quiet_op;go_big_quiet_on;apply zb;have a4:=zh (a3.step F zi);clear Z d6 g0 g1 p1 X F;go_upto_region 3 with(fail)
 refine zO (Is c.sm) [(0,ab),(1,ab),(2,ab),(3,ab),(4,ab),(5,ag)] (λw6 J=>?_);have o:=I.no J;have p6:=J.heap p0 id;have m6:∀ g:Gr (Is c.sm) w6,g.W ⟨c.xb,7,R⟩=G (.map (G c.sm)):=λg=>zB (g.fr.heap o.k (λh=>o.smo.ne_cells o.k h)) 7
 have g0:∀ g:Gr (Is c.sm) w6,g.W ⟨w,0,R⟩=G (aw u):=λg=>zB (g.fr.heap p6 (λh=>o.smo.ne_cells p6 h)) 0
 have g1:∀ g:Gr (Is c.sm) w6,g.W ⟨w,1,R⟩=G (aw v):=λg=>zB (g.fr.heap p6 (λh=>o.smo.ne_cells p6 h)) 1
 apply zR rfl rfl rfl;intro K z;go_big_quiet_op;go_big_quiet_on;apply zR rfl rfl rfl;intro K z;go_big_quiet_op;go_big_quiet_on;apply zR rfl rfl rfl;intro K z;go_big_quiet_op;go_big_quiet_on;apply zR rfl rfl rfl;intro K z;go_big_quiet_op;go_big_quiet_on;apply zR rfl rfl rfl;intro K z;go_big_quiet_op;go_big_quiet_on;clear m6 g0 g1;apply zu rfl;go_wp2_with (at_mapUpdate;refine zDu rfl _ _ _ 84 4 rfl eu c.sm _ (O:C) (by unfold c9;omega) u v hk hi (.bool ag) rfl o.smo rfl rfl ?_;intro w7 a2 N)
 apply zf N;apply zb;have HR:=zg2 (o.seen N a2) (((a4.step J zi).mono zn).step N zi);clear a2 N o I J p0 p6;go_wp2;go_ret;exact⟨rfl,HR.1,HR.2⟩
def mdP : a0:=⟨#[47,109,100,45]⟩
def exB (ds:Q Dev)(gi:a0):Bool:=(ds.find? (atP ds (mdP++gi))).isSome
theorem zNp (c:RC)(Y:aq ba)(Z:C)(ma:aq ba)(mc:C)(S:Q Src)(M:Q Vir)(a2:Q (a0×a0))(o:a0)(ds:Q Dev)(z:C)(w:al)(h:RS c w Y Z ma mc S M a2)(hi:o.size<=1000000)(U:Tr w z c.a c.cap ds)(I:c.n=(ds:C))(hn:(ds:C)<=1000):
  ay am 102 #[bn (G ⟨c.xb,0,R⟩),o] w λe w'=>e=.returned (.bool (exB ds o))/\Fr No w w':=by
 have V:w ⟨c.xb,2,R⟩=G (ap c.a c.n c.cap):=zB h.k 2;rw[I]at V;have A:=zD1 c.a c.cap ds z (mdP++o) w U hn;have a3:((⟨#[47,109,100,45]⟩:a0)++o).size<=9223372036854775807:=by rw[ByteArray.size_append];show 4+o.size<=_;omega
 have a4:¬ 9223372036854775807<4+o.size:=by omega
 have a5:4+o.size<=9223372036854775807:=by omega
 have F:ak (exB ds o=(ds.find? (atP ds (mdP++o))).isSome):=rfl;generalize exB ds o=ex at *;unfold mdP at A;clear h U;go_enter Tryz.func102,Tryz.ntmps102;go_wp2_with fail;apply A.mono;rintro e X ⟨hF,y⟩;clear A V;rcases hF with⟨u,rfl⟩|⟨d,J,N,la,u,rfl,-⟩
 .have O:ex=false:=by rw[F];show (ds.find? (atP ds ((⟨#[47,109,100,45]⟩:a0)++o))).isSome=ab;rw[u];rfl
  subst O;have v:Fr No w (X.alloc (ax (cj cq) 48)):=y.alloc _;have F:=zh v;clear v u y;unfold cj cq at *;go_wp2;go_ret;exact⟨rfl,F⟩
 .have O:ex=true:=by rw[F];show (ds.find? (atP ds ((⟨#[47,109,100,45]⟩:a0)++o))).isSome=ag;rw[u];rfl
  subst O;have v:Fr No w (X.alloc (ax (cj { d with aa:=J,ac:=N }) 48)):=y.alloc _;have F:=zh v;clear v u y;unfold cj at *;go_wp2;go_ret;exact⟨rfl,F⟩
theorem zQp (x y:Src)(w:al):ay am 111 #[bf x.vals,bf y.vals] w λe w'=>e=.returned (aj af (cmpI x.at_ y.at_))/\∃ q o,w'=Go.Sort.grow (w.drewN q) o:=by
 obtain⟨u,h⟩:=ε ((w.alloc (ax x.vals 123)).alloc (ax y.vals 123))
 have v:u.heap[(w:C)]?=G (ax x.vals 123):=by rw[h];exact((bc No _).alloc _).heap (zF _ _) id
 have z:u.heap[(w:C)+1]?=G (ax y.vals 123):=by
  rw[h];have:=zF (w.alloc (ax x.vals 123)) (ax y.vals 123)
  rwa [World.size_alloc]at this
 have c1:=(SrcB0.of v).c0;have F:=(SrcB0.of z).c0;have A:ak (∃ q o,u=Go.Sort.grow (w.drewN q) o):=⟨0,_,by rw[h,alloc_eq_grow,alloc_eq_grow,grow_grow];rfl⟩
 clear v z;unfold Src.vals at h ⊢;go_enter et,Tryz.ntmps111;go_upto_region 1 with(fail)
 rw[<-h];clear h;go_wp2_with fail;apply (zLv x.at_ y.at_ u).mono;rintro e I ⟨rfl,rfl⟩;go_wp2;go_ret;exact⟨rfl,A⟩
instance : Inhabited Src:=⟨⟨0,cq,(),0⟩⟩
def encS (s:Src):Q au:=s.vals.toList
theorem ltS (x y:Src):ltOf (λx y:Src=>cmpI x.at_ y.at_) x y=decide (x.at_<y.at_):=by
 unfold ltOf cmpI;by_cases h:x.at_<y.at_;·simp[h]
 .by_cases o:y.at_<x.at_<;>simp[h,o]
theorem swoS: SWO (ltOf λx y:Src=>cmpI x.at_ y.at_) where
 irrefl x:=by rw[ltS];simp
 trans x y z h1 h2:=by rw[ltS]at *;simp at *;omega
 ntrans x y z h1 h2:=by rw[ltS]at *;simp at *;omega
theorem layS (o u h:C)(w:al):CmpLays am 111 #[] encS 13 (λx y:Src=>cmpI x.at_ y.at_) o u h w:=
 λ_ _ _ _ x y=>zQp x y _
theorem isAggS (w:al):(isAgg 123).run am w=.ok ag w:=by kernel_rfl
theorem sizeS (w:al):(Go.sizeOf 123).run am w=.ok 13 w:=by kernel_rfl
theorem egS (args:az au)(w:al):(callFunc 111 args).run am w=.ok (.enter 111 args) w:=enters_of et (by kernel_rfl) rfl _ _
theorem zOm (g h:C)(d:az Src)(w:al)(u:HoldsK encS 13 w g 0 d)(z:g<(w:C))(A:d.size<4611686018427387904):
  ay am 110 #[ap (G ⟨g,0,R⟩) d.size h,.func (.func 111) #[] #[]] w λe w'=>e=.returned (.tuple #[])/\∃ o n os,PermIn 0 d.size d o/\SortedIn (ltOf λx y:Src=>cmpI x.at_ y.at_) 0 d.size o/\w'=ch encS 13 w g 0 n o os:=
 AnyQ.slices_SortFunc Tryz.sortQ 13 isAggS sizeS encS (λ_=>rfl) (λx v F=>zCe x v F) (λx y:Src=>cmpI x.at_ y.at_) swoS 111 #[] g 0 h d w egS (layS g 0 d.size w) u z A
theorem flatS (L:Q Src):(flatK encS 13 L.toArray).toList=sflat L:=by
 apply ef;intro t;by_cases h:t<(L:C)*13
 .have o:t / 13<(L:C):=by omega
  have u:=zFh L (t / 13) L[t / 13] (cf o) (t % 13) (by omega);rw[show t / 13*13+t % 13=t from by omega]at u;rw[u,bg,bo (by simpa using h),<-bv _ t (by simpa using h),get_flatK encS 13 L.toArray t (by simpa using h)];have v:L.toArray[t / 13]! = L[t / 13]:=by rw[bv _ _ (by simpa using o)];simp
  rw[v];have y:t % 13<(L[t / 13]).vals.size:=by show t % 13<13;omega
  rw[bo y,bv _ _ (by show t % 13<13;omega)];rfl
 .rw[ck (by simpa using Nat.le_of_not_lt h),ck (by rw[zGg];omega)]
theorem zMe (a:aq ba)(c A:C)(S:Q Src)(w:al)(N:w.ownsRow A 123 13 (ap a S c) (S:C) (sflat S))(Z:S≠[])(hS:(S:C)<=1000):
  ay am 110 #[ap a S c,.func (.func 111) #[] #[]] w λe w'=>e=.returned (.tuple #[])/\
   (∃ O:Q Src,O.Perm S/\O.Pairwise (λx y=>x.at_<=y.at_)/\w'.ownsRow A 123 13 (ap a O c) (O:C) (sflat O))/\Fr (λb=>(dk a S c).ownBlock=G b) w w':=by
 obtain⟨h0,⟨hv,h2⟩|⟨g,a7,F,hv,hg,U,h1,h2,h3,h4⟩⟩:=N;·exact absurd (ee h2) Z
 .injection hv with e1 e2 e3
  subst e1;subst e3;have V:∀ j u,(sflat S)[j]?=G u->F[j]?=G u:=λj u hu=>by
   rw[<-h4]at hu;rw[<-bg];have I:j<(S:C)*13:=by
    have:=(List.getElem?_eq_some_iff.1 hu).1;rw[ej]at this;omega
   rwa [da I]at hu
  have hH:HoldsK encS 13 w g 0 S.toArray:=by
   unfold HoldsK Holds;intro j I;refine⟨?_,zD U _⟩;rw[zB U,ep];apply V j _;rw[<-flatS,bg,bo I,bv (flatK encS 13 S.toArray) j I];rfl
  have v:S.toArray.size=(S:C):=by simp
  have hs:=zOm g c S.toArray w hH (zC U) (by rw[v];omega);rw[v]at hs;apply hs.mono;rintro e w' ⟨rfl,o,n,os,hp,a2,rfl⟩;obtain⟨z,-,X⟩:=hp;rw[v]at z;have ex:∀ d:az Src,d.size=(S:C)->(d.extract 0 (S:C))=d:=λd hd=>by rw[<-hd];simp
  rw[ex o z,ex S.toArray v]at X;have J:(o.toList:C)=(S:C):=by simpa using z
  have Y:(ch encS 13 w g 0 n o os).heap[g]?=G (ax (putCells id 0 (flatK encS 13 o) F) 123 (0,0)):=by
   unfold ch;have a3:g<(putRowK encS 13 (Go.Sort.ahead w n) g 0 o).heap.size:=by
    have:=zC U
    simpa [putRowK,Go.Sort.putRow,Go.Sort.mapBlock,Go.Sort.ahead]using this
   rw[Go.Sort.heap_grow_old _ _ a3];unfold putRowK Go.Sort.putRow Go.Sort.mapBlock;rw[dn,ao rfl];show (w.heap[g]?).map _=_
   rw[U];rfl
  have a8:(flatK encS 13 o).size=(S:C)*13:=by rw[size_flatK,z]
  refine⟨rfl,⟨o.toList,by simpa using X,?_,?_⟩,?_⟩
  .rw[List.pairwise_iff_getElem];intro i j hi I a4;have:=a2 i j (br _) a4 (by rw[J]at I;omega);rw[ltS]at this;have a5:i<o.size:=(by simpa using hi);have a6:j<o.size:=(by simpa using I);rw[bv o i a5,bv o j a6]at this;simp at this ⊢;exact this
  .rw[J];refine⟨by rw[zGg,J],.inr ⟨g,c,_,rfl,hg,Y,h1,h2,by simp[putCells,h3],?_⟩⟩;have ed:o=o.toList.toArray:=(by simp);rw[<-flatS,<-ed];apply ef;intro t;by_cases ht:t<(S:C)*13
   .rw[da ht,bg,bg];have hc:t<F.size:=(by rw[h3];exact dh ht (Nat.mul_le_mul_right _ h1));unfold putCells;rw[Array.getElem?_mapIdx,bo hc,bo (by omega)];simp only[Option.map_some];rw[ao ⟨br _,by omega⟩,Nat.sub_zero,bv (flatK encS 13 o) t (by omega)];rfl
   .rw[ck (by rw[ej];omega),ck (by simp only[Array.length_toList];omega)]
  .have f1:Fr (Is g) w (putRowK encS 13 (Go.Sort.ahead w n) g 0 o):=⟨rfl,rfl,rfl,by simp[putRowK,Go.Sort.putRow,Go.Sort.mapBlock,Go.Sort.ahead],λk _ hk=>by
    unfold putRowK Go.Sort.putRow Go.Sort.mapBlock;simp only[dn];rw[ai (λe=>hk e.symm)];rfl⟩
   have f2:Fr (Is g) w (ch encS 13 w g 0 n o os):=f1.step (T:=No) ⟨rfl,rfl,rfl,by simp[ch,Go.Sort.grow],λk hk _=>Go.Sort.heap_grow_old _ os hk⟩ zn;exact f2.mono (λb _ h=>by unfold Is at h;subst h;rfl)
inductive Ct where
 | mk (kind:B) (id label:a0) (slot total least:B) (inner:Q Ct)
namespace Ct
def kind : Ct->B | .mk k _ _ _ _ _ _=>k
def id : Ct->a0 | .mk _ i _ _ _ _ _=>i
def label : Ct->a0 | .mk _ _ l _ _ _ _=>l
def slot : Ct->B | .mk _ _ _ s _ _ _=>s
def total : Ct->B | .mk _ _ _ _ t _ _=>t
def least : Ct->B | .mk _ _ _ _ _ e _=>e
def inner : Ct->Q Ct | .mk _ _ _ _ _ _ n=>n
def zero : Ct:=.mk 0 () () 0 0 0 []
end Ct
def commas : Q (Q ae)->Q ae
 | []=>[]
 | [x]=>x
 | x::y::t=>x++44::commas (y::t)
abbrev bl (s:a0):Q UInt8:=s.data.toList
def zCF (k:B)(i l:a0)(s t e:B):Q UInt8:=
 if k=1 then [102,115,58]++bl i++[58]++bl l
 else if k=2 then [114,97,105,100,58]++bl i++[58]++ah s++[47]++ah t++[47]++ah e
 else if k=3 then [99,114,121,112,116,58]++bl i
 else if k=4 then [112,118,58]++bl i++[58]++ah s++[47]++ah t
 else if k=5 then [116,97,98,108,101,58]++bl i
 else []
def hasIn (k:B):Bool:=decide (k=2)||decide (k=3)||decide (k=4)||decide (k=5)
mutual
def Ct.text : Ct->Q ae
 | .mk k i l s t e n=>zCF k i l s t e++if hasIn k=ag then 40::commas (Ct.texts n)++[41]else []
def Ct.texts : Q Ct->Q (Q ae)
 | []=>[]
 | c::t=>c.text::Ct.texts t
end
theorem zBn : ∀ l:Q Ct,Ct.texts l=l.map Ct.text
 | []=>rfl
 | c::t=>by rw[Ct.texts,zBn t];rfl
section
variable (i l:a0)(s t e:B)(n:Q Ct)
theorem zOa: (Ct.mk 0 i l s t e n).text=[]:=by rw[Ct.text];rfl
theorem zKS: (Ct.mk 1 i l s t e n).text=[102,115]++58::(bl i++58::bl l):=by rw[Ct.text];simp[zCF,hasIn]
theorem zJa: (Ct.mk 2 i l s t e n).text=[114,97,105,100]++58::(bl i++58::(ah s++47::(ah t++47::(ah e++40::(commas (n.map Ct.text)++[41]))))):=by rw[Ct.text,zBn];simp[zCF,hasIn]
theorem zMV: (Ct.mk 3 i l s t e n).text=[99,114,121,112,116]++58::(bl i++40::(commas (n.map Ct.text)++[41])):=by rw[Ct.text,zBn];simp[zCF,hasIn]
theorem zMU: (Ct.mk 4 i l s t e n).text=[112,118]++58::(bl i++58::(ah s++47::(ah t++40::(commas (n.map Ct.text)++[41])))):=by rw[Ct.text,zBn];simp[zCF,hasIn]
theorem zKR: (Ct.mk 5 i l s t e n).text=[116,97,98,108,101]++58::(bl i++40::(commas (n.map Ct.text)++[41])):=by rw[Ct.text,zBn];simp[zCF,hasIn]
end
def idByte (b:ae):Bool:=(decide (65<=b)&&decide (b<=90))||(decide (97<=b)&&decide (b<=122))||(decide (48<=b)&&decide (b<=57))||decide (b=95)||decide (b=46)||decide (b=45)
def isId (s:a0):Bool:=!(bl s).isEmpty&&decide ((bl s).length<=16)&&(bl s).all idByte
def noNum (s t e:B):Bool:=decide (s=0)&&decide (t=0)&&decide (e=0)
def zAX (s t:B):Bool:=decide (1<=t)&&decide (t<=16)&&decide (1<=s)&&decide (s<=t)
def someIn (n:Q Ct):Bool:=decide (1<=(n:C))&&decide ((n:C)<=16)
def alike : Ct->ar
 | .mk k i l s t e n=>
  if k=0 then (bl i).isEmpty&&(bl l).isEmpty&&noNum s t e&&n.isEmpty
  else if k=1 then isId i&&((bl l).isEmpty||isId l)&&noNum s t e&&n.isEmpty
  else if k=2 then isId i&&(bl l).isEmpty&&zAX s t&&decide (1<=e)&&decide (e<=t)&&decide ((n:C)=1)
  else if k=3 then isId i&&(bl l).isEmpty&&noNum s t e&&decide ((n:C)=1)
  else if k=4 then isId i&&(bl l).isEmpty&&zAX s t&&decide (e=0)&&someIn n
  else if k=5 then isId i&&(bl l).isEmpty&&noNum s t e&&someIn n
  else ab
mutual
def Ct.good : Ct->ar
 | .mk k i l s t e n=>alike (.mk k i l s t e n)&&Ct.goods n
def Ct.goods : Q Ct->ar
 | []=>ag
 | c::t=>c.good&&Ct.goods t
end
mutual
def Ct.depth : Ct->C
 | .mk k _ _ _ _ _ n=>if k=0 then Ct.depths n else Ct.depths n+1
def Ct.depths : Q Ct->C
 | []=>0
 | c::t=>max c.depth (Ct.depths t)
end
def Ct.valid (c:Ct):Bool:=decide (c.depth<=6)&&c.good
def upto (ends r:Q ae):Q UInt8:=r.takeWhile λb=>!ends.contains b
def past (ends r:Q ae):Q UInt8:=r.dropWhile λb=>!ends.contains b
theorem zAe (ends r:Q ae):upto ends r++past ends r=r:=List.takeWhile_append_dropWhile
def zY (b:ae):Q ae->aq (Q ae)
 | []=>R
 | x::t=>if x=b then G t else R
theorem zt (h:zY b r=G t):r=b::t:=by
 cases r with
 | nil=>cases h
 | cons x r=>
  simp only[zY]at h;by_cases e:x=b;·rw[ao e]at h;injection h with h;rw[e,h]
  .rw[ai e]at h;cases h
def pNum (r:Q ae):aq (B×Q ae):=
 match cr (upto [47,40,44,41,58] r)with
 | .ok v=>if ah v=upto [47,40,44,41,58] r then G (v,past [47,40,44,41,58] r)else R
 | _=>R
theorem zBJ {r':Q ae}{v:B}(h:pNum r=G (v,r')):r=ah v++r':=by
 unfold pNum at h;split at h
 .split at h
  .rename_i e;injection h with h
   injection h with h1 h2
   subst h1;subst h2;rw[e,zAe]
  .cases h
 .cases h
mutual
def pC : C->Q ae->aq (Ct×Q ae)
 | 0,_=>R
 | n+1,r=>
  if upto [58,44,41] r=[]then G (Ct.zero,r)else
  (zY 58 (past [58,44,41] r)).bind λr2=>
  let id:a0:=⟨(upto [58,40,44,41] r2).toArray⟩
  let r3:=past [58,40,44,41] r2
  if upto [58,44,41] r=[102,115]then
   (zY 58 r3).bind λr4=>G (.mk 1 id ⟨(upto [44,41] r4).toArray⟩ 0 0 0 [],past [44,41] r4)
  else if upto [58,44,41] r=[114,97,105,100]then
   (zY 58 r3).bind λr4=>(pNum r4).bind λp5=>(zY 47 p5.2).bind λr6=>(pNum r6).bind λp7=>(zY 47 p7.2).bind λr8=>(pNum r8).bind λp9=>
    (zY 40 p9.2).bind λra=>(pL n [] ra).bind λpb=>G (.mk 2 id () p5.1 p7.1 p9.1 pb.1,pb.2)
  else if upto [58,44,41] r=[99,114,121,112,116]then
   (zY 40 r3).bind λra=>(pL n [] ra).bind λpb=>G (.mk 3 id () 0 0 0 pb.1,pb.2)
  else if upto [58,44,41] r=[112,118]then
   (zY 58 r3).bind λr4=>(pNum r4).bind λp5=>(zY 47 p5.2).bind λr6=>(pNum r6).bind λp7=>
    (zY 40 p7.2).bind λra=>(pL n [] ra).bind λpb=>G (.mk 4 id () p5.1 p7.1 0 pb.1,pb.2)
  else if upto [58,44,41] r=[116,97,98,108,101]then
   (zY 40 r3).bind λra=>(pL n [] ra).bind λpb=>G (.mk 5 id () 0 0 0 pb.1,pb.2)
  else R
def pL : C->Q Ct->Q ae->aq (Q Ct×Q ae)
 | 0,_,_=>R
 | n+1,acc,r=>(pC n r).bind λp=>
  match zY 41 p.2 with
  | some r2=>G (acc++[p.1],r2)
  | none=>(zY 44 p.2).bind λr2=>pL n (acc++[p.1]) r2
end
theorem zEh : ∀ (l:Q (Q ae)) (x:Q ae),l≠[]->commas (l++[x])=commas l++44::x
 | [],x,h=>absurd rfl h
 | [y],x,_=>rfl
 | y::z::t,x,_=>by
  show commas (y::z::(t++[x]))=_
  have h:=zEh (z::t) x (by simp);simp only[commas,ce]at h ⊢;rw[h];simp
theorem zEw (l:Q ae):bl (⟨l.toArray⟩:a0)=l:=by simp[bl]
def zCY (acc:Q Ct):Q UInt8:=if acc=[]then []else commas (acc.map Ct.text)++[44]
theorem zJT (o:Q Ct)(c:Ct):zCY o++c.text=commas ((o++[c]).map Ct.text):=by
 unfold zCY;by_cases h:o=[]
 .subst h;simp[commas]
 .rw[ai h,List.map_append,ek,em,zEh _ _ (by simpa using h)];simp
theorem zMN (h:Q Ct)(c:Ct):zCY (h++[c])=zCY h++c.text++[44]:=by
 rw[zJT];unfold zCY;rw[ai (by simp)]
theorem zK4 : ∀ n:C,(∀ r c r',pC n r=G (c,r')->r=c.text++r')/\(∀ F r l r',pL n F r=G (l,r')->zCY F++r=commas (l.map Ct.text)++41::r')
 | 0=>⟨λr c r' h=>by simp[pC]at h,λF r l r' h=>by simp[pL]at h⟩
 | n+1=>by
  obtain⟨a2,Z⟩:=zK4 n;have I:∀ z (y:Q Ct×Q ae),pL n [] z=G y->z=commas (y.1.map Ct.text)++41::y.2:=λz y h=>by
   have:=Z [] z y.1 y.2 h
   simpa [zCY]using this
  refine⟨λr c r' h=>?_,λF r l r' h=>?_⟩
  .have N:=zAe [58,44,41] r;rw[pC]at h;by_cases h0:upto [58,44,41] r=[]
   .rw[ao h0]at h;injection h with h
    injection h with h1 h2
    subst h1;subst h2;rw[Ct.zero,zOa];rfl
   rw[ai h0]at h;obtain⟨Y,O,h⟩:=Option.bind_eq_some_iff.1 h;have e2:=zt O;have o:=zAe [58,40,44,41] Y;rw[e2]at N;simp only at h;generalize upto [58,40,44,41] Y=di at h o;generalize past [58,40,44,41] Y=r3 at h o;generalize upto [58,44,41] r=kd at h N;split at h
   .rename_i J;obtain⟨r4,A,h⟩:=Option.bind_eq_some_iff.1 h;have e4:=zt A;have hl:=zAe [44,41] r4;generalize upto [44,41] r4=lb at h hl;generalize past [44,41] r4=rs at h hl;injection h with h
    injection h with h1 h2
    subst h1;subst h2;rw[zKS,zEw,zEw];rw[<-N,J,<-o,e4,<-hl];simp
   split at h
   .rename_i J;obtain⟨r4,A,h⟩:=Option.bind_eq_some_iff.1 h;obtain⟨p5,U,h⟩:=Option.bind_eq_some_iff.1 h;obtain⟨r6,V,h⟩:=Option.bind_eq_some_iff.1 h;obtain⟨p7,X,h⟩:=Option.bind_eq_some_iff.1 h;obtain⟨r8,a3,h⟩:=Option.bind_eq_some_iff.1 h;obtain⟨p9,a4,h⟩:=Option.bind_eq_some_iff.1 h;obtain⟨z,u,h⟩:=Option.bind_eq_some_iff.1 h;obtain⟨y,v,h⟩:=Option.bind_eq_some_iff.1 h;injection h with h
    injection h with h1 h2
    subst h1;subst h2;have e5:=zBJ U;have e7:=zBJ X;have e9:=zBJ a4;rw[zJa,zEw];rw[<-N,J,<-o,zt A,e5,zt V,e7,zt a3,e9,zt u,I z y v];simp
   split at h
   .rename_i J;obtain⟨z,u,h⟩:=Option.bind_eq_some_iff.1 h;obtain⟨y,v,h⟩:=Option.bind_eq_some_iff.1 h;injection h with h
    injection h with h1 h2
    subst h1;subst h2;rw[zMV,zEw];rw[<-N,J,<-o,zt u,I z y v];simp
   split at h
   .rename_i J;obtain⟨r4,A,h⟩:=Option.bind_eq_some_iff.1 h;obtain⟨p5,U,h⟩:=Option.bind_eq_some_iff.1 h;obtain⟨r6,V,h⟩:=Option.bind_eq_some_iff.1 h;obtain⟨p7,X,h⟩:=Option.bind_eq_some_iff.1 h;obtain⟨z,u,h⟩:=Option.bind_eq_some_iff.1 h;obtain⟨y,v,h⟩:=Option.bind_eq_some_iff.1 h;injection h with h
    injection h with h1 h2
    subst h1;subst h2;have e5:=zBJ U;have e7:=zBJ X;rw[zMU,zEw];rw[<-N,J,<-o,zt A,e5,zt V,e7,zt u,I z y v];simp
   split at h
   .rename_i J;obtain⟨z,u,h⟩:=Option.bind_eq_some_iff.1 h;obtain⟨y,v,h⟩:=Option.bind_eq_some_iff.1 h;injection h with h
    injection h with h1 h2
    subst h1;subst h2;rw[zKR,zEw];rw[<-N,J,<-o,zt u,I z y v];simp
   .cases h
  .rw[pL]at h;obtain⟨p,hp,h⟩:=Option.bind_eq_some_iff.1 h;have e1:=a2 r p.1 p.2 hp;cases hs:zY 41 p.2 with
   | some Y=>
    rw[hs]at h;simp only at h;injection h with h
    injection h with h1 h2
    subst h1;subst h2;rw[<-zJT,e1,zt hs];simp
   | none=>
    rw[hs]at h;simp only at h;obtain⟨Y,O,h⟩:=Option.bind_eq_some_iff.1 h;have:=Z _ Y l r' h;rw[zMN]at this;rw[<-this,e1,zt O];simp
theorem zAL {ends:Q ae}:∀ {w:Q ae} {b:ae} {t:Q ae},(∀ x∈w,ends.contains x=ab)->ends.contains b=ag->upto ends (w++b::t)=w/\past ends (w++b::t)=b::t
 | [],b,t,_,h=>by
  simp only[upto,past,eo,c8,c7,h];simp
 | x::w,b,t,u,h=>by
  have v:=u x (by simp);have o:=zAL (w:=w) (b:=b) (t:=t) (λy z=>u y (by simp[z])) h;simp only[upto,past,ce,c8,c7,v,bw,be]at o ⊢;rw[o.1,o.2];exact⟨rfl,rfl⟩
theorem zII {ends:Q ae}:∀ {w:Q ae},(∀ x∈w,ends.contains x=ab)->upto ends w=w/\past ends w=[]
 | [],_=>⟨rfl,rfl⟩
 | x::w,o=>by
  have u:=o x (by simp);have h:=zII (w:=w) (λy v=>o y (by simp[v]));simp only[upto,past,c8,c7,u,bw,be]at h ⊢;rw[h.1,h.2];exact⟨rfl,rfl⟩
theorem zBY (b:ae)(t:Q ae):zY b (b::t)=G t:=by simp[zY]
theorem zG8 (k:C)(o:1<=k)(u:k<=16):bt k=if k<10 then [bd (48+k)]else [49,bd (48+k % 10)]:=by
 rw[bt];by_cases h:k<10;·rw[dif_pos h,ao h]
 .rw[dif_neg h,ai h,bt,dif_pos (by omega)];have:k / 10=1:=by omega
  rw[this];rfl
theorem zEH (v:B)(F:1<=v)(I:v<=16)(b:ae)(t:Q ae)(o:([47,40,44,41,58]:Q ae).contains b=ag):pNum (ah v++b::t)=G (v,b::t):=by
 obtain⟨k,rfl⟩:=Int.eq_ofNat_of_zero_le (show 0<=v by omega);have u:=zG8 k (by omega) (by omega);have y:ah (k:B)=bt k:=by unfold ah;rw[ai (by omega)];simp
 have h:(∀ x∈ah (k:B),([47,40,44,41,58]:Q ae).contains x=ab)/\cr (ah (k:B))=.ok (k:B):=by
  rw[y,u];rcases(by omega:k=1\/k=2\/k=3\/k=4\/k=5\/k=6\/k=7\/k=8\/k=9\/k=10\/k=11\/k=12\/k=13\/k=14\/k=15\/k=16)with rfl|rfl|rfl|rfl|rfl|rfl|rfl|rfl|rfl|rfl|rfl|rfl|rfl|rfl|rfl|rfl<;>exact⟨by decide,rfl⟩
 obtain⟨z,A⟩:=zAL (t:=t) h.1 o;unfold pNum;rw[z,A,h.2];simp
theorem zLe (h:isId s=ag):∀ x∈bl s,x≠58/\x≠40/\x≠44/\x≠41/\x≠47:=by
 unfold isId at h;simp only[an,List.all_eq_true]at h;intro x o;have u:=h.2 x o;refine⟨?_,?_,?_,?_,?_⟩<;>(rintro rfl;revert u;decide)
theorem zD5 (h:isId s=ag):∀ x∈bl s,([58,40,44,41]:Q ae).contains x=false:=by
 intro x o;obtain⟨u,v,y,z,A⟩:=zLe h x o;simp[u,v,y,z]
theorem zJd (h:((bl s).isEmpty||isId s)=ag):∀ x∈bl s,([44,41]:Q ae).contains x=false:=by
 intro x o;rw[cp]at h;rcases h with h|h
 .rw[bp]at h;rw[h]at o;simp at o
 .obtain⟨y,z,u,v,A⟩:=zLe h x o;simp[u,v]
theorem zBi (h:(bl s).isEmpty=ag):s=():=by
 rw[bp]at h;apply dt;apply dm
 simpa [bl]using h
theorem zP9 (s:a0):(⟨(bl s).toArray⟩:a0)=s:=by simp[bl]
def Stop (r:Q ae):Prop:=r=[]\/∃ b t,r=b::t/\(b=44\/b=41)
theorem Stop.c (h:Stop r):upto [58,44,41] r=[]/\past [58,44,41] r=r:=by
 rcases h with rfl|⟨b,t,rfl,h⟩
 .exact⟨rfl,rfl⟩
 .have:=zAL (ends:=[58,44,41]) (w:=[]) (b:=b) (t:=t) (by simp) (by rcases h with rfl|rfl<;>rfl)
  simpa using this
theorem Stop.l (h:Stop r){w:Q ae}(o:∀ x∈w,([44,41]:Q ae).contains x=ab):upto [44,41] (w++r)=w/\past [44,41] (w++r)=r:=by
 rcases h with rfl|⟨b,t,rfl,h⟩
 .rw[dy];exact zII o
 .exact zAL o (by rcases h with rfl|rfl<;>rfl)
theorem zLg (c:Ct):c.good=(alike c&&Ct.goods c.inner):=by
 obtain⟨k,i,l,s,t,e,n⟩:=c;rw[Ct.good];rfl
theorem zG1 : ∀ l:Q Ct,Ct.goods l=l.all Ct.good
 | []=>rfl
 | c::t=>by rw[Ct.goods,zG1 t];rfl
theorem zN4 : ∀ n:C,(∀ c o,Ct.good c=ag->Stop o->(c.text++o).length<n->pC n (c.text++o)=G (c,o))/\
  (∀ O cs o,cs≠[]->Ct.goods cs=ag->(commas (cs.map Ct.text)++41::o).length+1<n->pL n O (commas (cs.map Ct.text)++41::o)=G (O++cs,o))
 | 0=>⟨λc o _ _ h=>by omega,λO cs o _ _ h=>by omega⟩
 | n+1=>by
  obtain⟨a3,a4⟩:=zN4 n;refine⟨λc o hg hs A=>?_,λO cs o z hg A=>?_⟩
  .obtain⟨k,i,l,s,t,e,v⟩:=c;rw[zLg,an]at hg;obtain⟨F,hi⟩:=hg;have X:∀ y,y=commas (v.map Ct.text)++41::o->v≠[]->y.length+1<n->pL n [] y=G (v,o):=by
    rintro y rfl z Y;have:=a4 [] v o z hi Y
    simpa using this
   simp only[alike,noNum,zAX,someIn]at F;by_cases k0:k=0
   .subst k0;simp only[be,an,bi,bp]at F;obtain⟨⟨⟨U,N⟩,⟨V,Z⟩,h5⟩,h6⟩:=F;have e1:=zBi (by rw[bp];exact U);have e2:=zBi (by rw[bp];exact N);subst e1;subst e2;subst V;subst Z;subst h5;subst h6;rw[zOa,eo,pC];simp[hs.c.1,Ct.zero]
   by_cases k1:k=1
   .subst k1;simp only[be,ai (show ¬ (1:B)=0 by decide),an,bi,bp]at F;obtain⟨⟨⟨U,N⟩,⟨V,Z⟩,h5⟩,h6⟩:=F;subst V;subst Z;subst h5;subst h6;have I:=zAL (ends:=[58,44,41]) (w:=[102,115]) (b:=58) (t:=bl i++58::(bl l++o)) (by decide) rfl;have J:=zAL (ends:=[58,40,44,41]) (w:=bl i) (b:=58) (t:=bl l++o) (zD5 U) rfl;have u3:=hs.l (zJd N);rw[zKS]at A ⊢;rw[show [102,115]++58::(bl i++58::bl l)++o=[102,115]++58::(bl i++58::(bl l++o)) by simp];rw[pC,I.1,I.2];simp[zBY,J.1,J.2,u3.1,u3.2]
   by_cases k2:k=2
   .subst k2;simp only[be,ai (show ¬ (2:B)=0 by decide),ai (show ¬ (2:B)=1 by decide),an,bi]at F;obtain⟨⟨⟨⟨⟨U,N⟩,⟨⟨V,Z⟩,h5⟩,h6⟩,h7⟩,h8⟩,h9⟩:=F;have e2:=zBi N;subst e2;have z:v≠[]:=by intro h;subst h;simp at h9
    rw[zJa]at A ⊢;rw[show [114,97,105,100]++58::(bl i++58::(ah s++47::(ah t++47::(ah e++40::(commas (v.map Ct.text)++[41])))))++o=[114,97,105,100]++58::(bl i++58::(ah s++47::(ah t++47::(ah e++40::(commas (v.map Ct.text)++41::o))))) by simp]at A ⊢;generalize a2:commas (v.map Ct.text)++41::o=y at *;have I:=zAL (ends:=[58,44,41]) (w:=[114,97,105,100]) (b:=58) (t:=bl i++58::(ah s++47::(ah t++47::(ah e++40::y)))) (by decide) rfl;have J:=zAL (ends:=[58,40,44,41]) (w:=bl i) (b:=58) (t:=ah s++47::(ah t++47::(ah e++40::y))) (zD5 U) rfl;have n1:=zEH s (by omega) (by omega) 47 (ah t++47::(ah e++40::y)) rfl;have n2:=zEH t (by omega) (by omega) 47 (ah e++40::y) rfl;have n3:=zEH e (by omega) (by omega) 40 y rfl;have Y:=X y rfl z (by simp at A;omega);rw[pC,I.1,I.2];simp[zBY,J.1,J.2,n1,n2,n3,Y]
   by_cases k3:k=3
   .subst k3;simp only[be,ai (show ¬ (3:B)=0 by decide),ai (show ¬ (3:B)=1 by decide),ai (show ¬ (3:B)=2 by decide),an,bi]at F;obtain⟨⟨⟨U,N⟩,⟨V,Z⟩,h5⟩,h9⟩:=F;have e2:=zBi N;subst e2;subst V;subst Z;subst h5;have z:v≠[]:=by intro h;subst h;simp at h9
    rw[zMV]at A ⊢;rw[show [99,114,121,112,116]++58::(bl i++40::(commas (v.map Ct.text)++[41]))++o=[99,114,121,112,116]++58::(bl i++40::(commas (v.map Ct.text)++41::o)) by simp]at A ⊢;generalize a2:commas (v.map Ct.text)++41::o=y at *;have I:=zAL (ends:=[58,44,41]) (w:=[99,114,121,112,116]) (b:=58) (t:=bl i++40::y) (by decide) rfl;have J:=zAL (ends:=[58,40,44,41]) (w:=bl i) (b:=40) (t:=y) (zD5 U) rfl;have Y:=X y rfl z (by simp at A;omega);rw[pC,I.1,I.2];simp[zBY,J.1,J.2,Y]
   by_cases k4:k=4
   .subst k4;simp only[be,ai (show ¬ (4:B)=0 by decide),ai (show ¬ (4:B)=1 by decide),ai (show ¬ (4:B)=2 by decide),ai (show ¬ (4:B)=3 by decide),an,bi]at F;obtain⟨⟨⟨⟨U,N⟩,⟨⟨V,Z⟩,h5⟩,h6⟩,h7⟩,h8,h9⟩:=F;have e2:=zBi N;subst e2;subst h7;have z:v≠[]:=by intro h;subst h;simp at h8
    rw[zMU]at A ⊢;rw[show [112,118]++58::(bl i++58::(ah s++47::(ah t++40::(commas (v.map Ct.text)++[41]))))++o=[112,118]++58::(bl i++58::(ah s++47::(ah t++40::(commas (v.map Ct.text)++41::o)))) by simp]at A ⊢;generalize a2:commas (v.map Ct.text)++41::o=y at *;have I:=zAL (ends:=[58,44,41]) (w:=[112,118]) (b:=58) (t:=bl i++58::(ah s++47::(ah t++40::y))) (by decide) rfl;have J:=zAL (ends:=[58,40,44,41]) (w:=bl i) (b:=58) (t:=ah s++47::(ah t++40::y)) (zD5 U) rfl;have n1:=zEH s (by omega) (by omega) 47 (ah t++40::y) rfl;have n2:=zEH t (by omega) (by omega) 40 y rfl;have Y:=X y rfl z (by simp at A;omega);rw[pC,I.1,I.2];simp[zBY,J.1,J.2,n1,n2,Y]
   by_cases k5:k=5
   .subst k5;simp only[be,ai (show ¬ (5:B)=0 by decide),ai (show ¬ (5:B)=1 by decide),ai (show ¬ (5:B)=2 by decide),ai (show ¬ (5:B)=3 by decide),ai (show ¬ (5:B)=4 by decide),an,bi]at F;obtain⟨⟨⟨U,N⟩,⟨V,Z⟩,h5⟩,h8,h9⟩:=F;have e2:=zBi N;subst e2;subst V;subst Z;subst h5;have z:v≠[]:=by intro h;subst h;simp at h8
    rw[zKR]at A ⊢;rw[show [116,97,98,108,101]++58::(bl i++40::(commas (v.map Ct.text)++[41]))++o=[116,97,98,108,101]++58::(bl i++40::(commas (v.map Ct.text)++41::o)) by simp]at A ⊢;generalize a2:commas (v.map Ct.text)++41::o=y at *;have I:=zAL (ends:=[58,44,41]) (w:=[116,97,98,108,101]) (b:=58) (t:=bl i++40::y) (by decide) rfl;have J:=zAL (ends:=[58,40,44,41]) (w:=bl i) (b:=40) (t:=y) (zD5 U) rfl;have Y:=X y rfl z (by simp at A;omega);rw[pC,I.1,I.2];simp[zBY,J.1,J.2,Y]
   simp[k0,k1,k2,k3,k4,k5]at F
  .cases cs with
   | nil=>exact absurd rfl z
   | cons c t=>
    rw[Ct.goods,an]at hg;rw[pL];cases t with
    | nil=>
     simp only[ek,em,commas]at A ⊢;rw[a3 c (41::o) hg.1 (.inr ⟨_,_,rfl,.inr rfl⟩) (by omega)];simp[zBY]
    | cons d u=>
     have e:commas (dc Ct.text (c::d::u))++41::o=c.text++44::(commas (dc Ct.text (d::u))++41::o):=by
      simp[commas]
     rw[e]at A ⊢;rw[a3 c _ hg.1 (.inr ⟨_,_,rfl,.inl rfl⟩) (by omega)];have N:zY 41 (44::(commas (dc Ct.text (d::u))++41::o))=none:=(by simp[zY]);have V:=a4 (O++[c]) (d::u) o (by simp) hg.2 (by simp at A ⊢;omega);simp only[cm,N,zBY,V];simp
def parseC (s:a0):aq Ct:=
 if 256<(bl s).length then R else
 match pC ((bl s).length+1) (bl s)with
 | some (c,[])=>if c.valid=ag then G c else R
 | _=>R
theorem zBI (s:a0)(c:Ct):parseC s=G c↔(bl s).length<=256/\c.valid=ag/\c.text=bl s:=by
 unfold parseC;constructor
 .intro h;split at h;·cases h
  .rename_i A;split at h
   .rename_i F v;split at h
    .rename_i y;injection h with h
     subst h;have:=(zK4 _).1 _ _ _ v;exact⟨by omega,y,by rw[this];simp⟩
    .cases h
   .cases h
 .rintro ⟨I,o,u⟩;rw[ai (by omega)];have z:c.good=true:=by unfold Ct.valid at o;rw[an]at o;exact o.2
  have:=(zN4 ((bl s).length+1)).1 c [] z (.inl rfl) (by simp[u]);rw[dy,u]at this;rw[this];simp[o]
mutual
def Ct.count : Ct->C
 | .mk _ _ _ _ _ _ n=>Ct.counts n+1
def Ct.counts : Q Ct->C
 | []=>0
 | c::t=>c.count+Ct.counts t
end
theorem zAi : ∀ (l m:Q Ct),Ct.counts (l++m)=Ct.counts l+Ct.counts m
 | [],m=>by simp[Ct.counts]
 | c::t,m=>by rw[ce,Ct.counts,Ct.counts,zAi t m];omega
mutual
theorem zEe: ∀ c:Ct,c.depth<=c.count
 | .mk k i l s t e n=>by
  have h:=zBh n;rw[Ct.depth,Ct.count];split<;>omega
theorem zBh : ∀ l:Q Ct,Ct.depths l<=Ct.counts l
 | []=>by simp[Ct.depths,Ct.counts]
 | c::t=>by
  have h:=zEe c;have o:=zBh t;rw[Ct.depths,Ct.counts];omega
end
theorem zHB: ∀ c:Ct,0<c.count
 | .mk k i l s t e n=>by rw[Ct.count];omega
theorem zAj : ∀ l:Q Ct,(l:C)<=Ct.counts l
 | []=>by simp
 | c::t=>by
  have h:=zHB c;have o:=zAj t;rw[ei,Ct.counts];omega
theorem zBM {c:Ct}:∀ {l:Q Ct},c∈l->c.count<=Ct.counts l
 | [],h=>by cases h
 | d::t,h=>by
  rw[Ct.counts];rcases List.mem_cons.1 h with rfl|h
  .omega
  .have:=zBM h;omega
theorem zGr {c:Ct}:∀ {l:Q Ct},c∈l->c.depth<=Ct.depths l
 | [],h=>by cases h
 | d::t,h=>by
  rw[Ct.depths];rcases List.mem_cons.1 h with rfl|h
  .omega
  .have:=zGr h;omega
theorem zEd : ∀ (l:Q Ct) (c:Ct),Ct.depths (l++[c])=max (Ct.depths l) c.depth
 | [],c=>by simp[Ct.depths]
 | d::t,c=>by rw[ce,Ct.depths,Ct.depths,zEd t c];omega
theorem zB8 (ends r:Q ae):(past ends r).length<=(r:C):=by
 have h:=bj bq (zAe ends r);rw[bu]at h;omega
theorem zk (h:zY b r=G t):(r:C)=(t:C)+1:=by rw[zt h];rfl
theorem zAl {p:B×Q ae}(h:pNum r=G p):p.2.length<=(r:C):=by
 have:=bj bq (zBJ (v:=p.1) (r':=p.2) h);rw[bu]at this;omega
theorem zFs : ∀ n:C,(∀ r c r',pC n r=G (c,r')->c.count+r'.length<=r.length+1)/\(∀ A r l r',pL n A r=G (l,r')->Ct.counts l+r'.length<=Ct.counts A+r.length)
 | 0=>⟨λr c r' h=>by simp[pC]at h,λA r l r' h=>by simp[pL]at h⟩
 | n+1=>by
  obtain⟨X,V⟩:=zFs n;have F:∀ y (v:Q Ct×Q ae),pL n [] y=G v->Ct.counts v.1+v.2.length<=y.length:=λy v h=>by
   have:=V [] y v.1 v.2 h
   simpa [Ct.counts]using this
  refine⟨λr c r' h=>?_,λA r l r' h=>?_⟩
  .have hr:=zB8 [58,44,41] r;rw[pC]at h;by_cases h0:upto [58,44,41] r=[]
   .rw[ao h0]at h;injection h with h
    injection h with h1 h2
    subst h1;subst h2;simp[Ct.zero,Ct.count,Ct.counts];omega
   rw[ai h0]at h;obtain⟨U,I,h⟩:=Option.bind_eq_some_iff.1 h;have e2:=zk I;have Y:=zB8 [58,40,44,41] U;simp only at h;generalize upto [58,40,44,41] U=di at h;generalize past [58,40,44,41] U=r3 at h Y;split at h
   .obtain⟨Z,z,h⟩:=Option.bind_eq_some_iff.1 h;have e4:=zk z;have hl:=zB8 [44,41] Z;injection h with h
    injection h with h1 h2
    subst h1;subst h2;simp[Ct.count,Ct.counts];omega
   split at h
   .obtain⟨Z,z,h⟩:=Option.bind_eq_some_iff.1 h;obtain⟨p5,J,h⟩:=Option.bind_eq_some_iff.1 h;obtain⟨r6,N,h⟩:=Option.bind_eq_some_iff.1 h;obtain⟨p7,O,h⟩:=Option.bind_eq_some_iff.1 h;obtain⟨r8,a2,h⟩:=Option.bind_eq_some_iff.1 h;obtain⟨p9,a3,h⟩:=Option.bind_eq_some_iff.1 h;obtain⟨y,o,h⟩:=Option.bind_eq_some_iff.1 h;obtain⟨v,u,h⟩:=Option.bind_eq_some_iff.1 h;injection h with h
    injection h with h1 h2
    subst h1;subst h2;have e5:=zAl J;have e7:=zAl O;have e9:=zAl a3;have e4:=zk z;have e6:=zk N;have e8:=zk a2;have ea:=zk o;have eb:=F y v u;rw[Ct.count];omega
   split at h
   .obtain⟨y,o,h⟩:=Option.bind_eq_some_iff.1 h;obtain⟨v,u,h⟩:=Option.bind_eq_some_iff.1 h;injection h with h
    injection h with h1 h2
    subst h1;subst h2;have ea:=zk o;have eb:=F y v u;rw[Ct.count];omega
   split at h
   .obtain⟨Z,z,h⟩:=Option.bind_eq_some_iff.1 h;obtain⟨p5,J,h⟩:=Option.bind_eq_some_iff.1 h;obtain⟨r6,N,h⟩:=Option.bind_eq_some_iff.1 h;obtain⟨p7,O,h⟩:=Option.bind_eq_some_iff.1 h;obtain⟨y,o,h⟩:=Option.bind_eq_some_iff.1 h;obtain⟨v,u,h⟩:=Option.bind_eq_some_iff.1 h;injection h with h
    injection h with h1 h2
    subst h1;subst h2;have e5:=zAl J;have e7:=zAl O;have e4:=zk z;have e6:=zk N;have ea:=zk o;have eb:=F y v u;rw[Ct.count];omega
   split at h
   .obtain⟨y,o,h⟩:=Option.bind_eq_some_iff.1 h;obtain⟨v,u,h⟩:=Option.bind_eq_some_iff.1 h;injection h with h
    injection h with h1 h2
    subst h1;subst h2;have ea:=zk o;have eb:=F y v u;rw[Ct.count];omega
   .cases h
  .rw[pL]at h;obtain⟨p,hp,h⟩:=Option.bind_eq_some_iff.1 h;have e1:=X r p.1 p.2 hp;cases hs:zY 41 p.2 with
   | some U=>
    rw[hs]at h;simp only at h;injection h with h
    injection h with h1 h2
    subst h1;subst h2;have e2:=zk hs;rw[zAi];simp only[Ct.counts];omega
   | none=>
    rw[hs]at h;simp only at h;obtain⟨U,I,h⟩:=Option.bind_eq_some_iff.1 h;have e2:=zk I;have:=V _ U l r' h;rw[zAi]at this;simp only[Ct.counts]at this;omega
mutual
def Ct.walk : Ct->Q Ct
 | .mk k i l s t e n=>.mk k i l s t e n::Ct.walks n
def Ct.walks : Q Ct->Q Ct
 | []=>[]
 | c::t=>c.walk++Ct.walks t
end
mutual
theorem zDd: ∀ c:Ct,(c.walk:C)=c.count
 | .mk k i l s t e n=>by rw[Ct.walk,Ct.count,ei,zCa n]
theorem zCa : ∀ l:Q Ct,(Ct.walks l).length=Ct.counts l
 | []=>rfl
 | c::t=>by rw[Ct.walks,Ct.counts,bu,zDd c,zCa t]
end
theorem zA7 : ∀ (l m:Q Ct),Ct.walks (l++m)=Ct.walks l++Ct.walks m
 | [],m=>rfl
 | c::t,m=>by rw[ce,Ct.walks,Ct.walks,zA7 t m,List.append_assoc]
mutual
theorem zEX: ∀ c:Ct,c.good=c.walk.all alike
 | .mk k i l s t e n=>by rw[Ct.good,Ct.walk,List.all_cons,zFK n]
theorem zFK : ∀ l:Q Ct,Ct.goods l=(Ct.walks l).all alike
 | []=>rfl
 | c::t=>by rw[Ct.goods,Ct.walks,List.all_append,zEX c,zFK t]
end
def SmallC (m:C)(d:Ct):Prop:=d.id.size<=m/\d.label.size<=m
theorem SmallC.mono {m o:C}{d:Ct}(h:SmallC m d)(u:m<=o):SmallC o d:=⟨dg h.1 u,dg h.2 u⟩
theorem zIH (ends r:Q ae):(upto ends r).length<=(r:C):=by
 have h:=bj bq (zAe ends r);rw[bu]at h;omega
theorem zK5 : ∀ n:C,(∀ r c r',pC n r=G (c,r')->∀ d∈c.walk,SmallC r.length d)/\(∀ F r l r',pL n F r=G (l,r')->∀ d∈Ct.walks l,d∈Ct.walks F\/SmallC r.length d)
 | 0=>⟨λr c r' h=>by simp[pC]at h,λF r l r' h=>by simp[pL]at h⟩
 | n+1=>by
  obtain⟨a2,Z⟩:=zK5 n;have a3:=(zFs n).1;have I:∀ z (y:Q Ct×Q ae),pL n [] z=G y->∀ d∈Ct.walks y.1,SmallC z.length d:=λz y h d o=>by
   rcases Z [] z y.1 y.2 h d o with h|h
   .simp[Ct.walks]at h
   .exact h
  refine⟨λr c r' h=>?_,λF r l r' h=>?_⟩
  .have hr:=zB8 [58,44,41] r;rw[pC]at h;by_cases h0:upto [58,44,41] r=[]
   .rw[ao h0]at h;injection h with h
    injection h with h1 h2
    subst h1;subst h2;intro d o;simp[Ct.zero,Ct.walk,Ct.walks]at o;subst o;exact⟨br _,br _⟩
   rw[ai h0]at h;obtain⟨N,O,h⟩:=Option.bind_eq_some_iff.1 h;have e2:=zk O;have a4:=zB8 [58,40,44,41] N;have a5:=zIH [58,40,44,41] N;simp only at h;generalize upto [58,40,44,41] N=di at h a5;generalize past [58,40,44,41] N=r3 at h a4;split at h
   .obtain⟨r4,A,h⟩:=Option.bind_eq_some_iff.1 h;have e4:=zk A;have hl:=zB8 [44,41] r4;injection h with h
    injection h with h1 h2
    subst h1;subst h2;have a8:=zIH [44,41] r4;intro d o;simp only[Ct.walk,Ct.walks,List.mem_singleton]at o;subst o;exact⟨by show di.toArray.size<=_;simp;omega,by show (upto [44,41] r4).toArray.size<=_;simp;omega⟩
   split at h
   .obtain⟨r4,A,h⟩:=Option.bind_eq_some_iff.1 h;obtain⟨p5,U,h⟩:=Option.bind_eq_some_iff.1 h;obtain⟨r6,V,h⟩:=Option.bind_eq_some_iff.1 h;obtain⟨p7,X,h⟩:=Option.bind_eq_some_iff.1 h;obtain⟨r8,a6,h⟩:=Option.bind_eq_some_iff.1 h;obtain⟨p9,a7,h⟩:=Option.bind_eq_some_iff.1 h;obtain⟨z,u,h⟩:=Option.bind_eq_some_iff.1 h;obtain⟨y,v,h⟩:=Option.bind_eq_some_iff.1 h;injection h with h
    injection h with h1 h2
    subst h1;subst h2;have e5:=zAl U;have e7:=zAl X;have e9:=zAl a7;have e4:=zk A;have e6:=zk V;have e8:=zk a6;have ea:=zk u;have Y:=I z y v;intro d o;rw[Ct.walk]at o;rcases List.mem_cons.1 o with rfl|o
    .exact⟨by show di.toArray.size<=_;simp;omega,br _⟩
    .exact(Y d o).mono (by omega)
   split at h
   .obtain⟨z,u,h⟩:=Option.bind_eq_some_iff.1 h;obtain⟨y,v,h⟩:=Option.bind_eq_some_iff.1 h;injection h with h
    injection h with h1 h2
    subst h1;subst h2;have ea:=zk u;have Y:=I z y v;intro d o;rw[Ct.walk]at o;rcases List.mem_cons.1 o with rfl|o
    .exact⟨by show di.toArray.size<=_;simp;omega,br _⟩
    .exact(Y d o).mono (by omega)
   split at h
   .obtain⟨r4,A,h⟩:=Option.bind_eq_some_iff.1 h;obtain⟨p5,U,h⟩:=Option.bind_eq_some_iff.1 h;obtain⟨r6,V,h⟩:=Option.bind_eq_some_iff.1 h;obtain⟨p7,X,h⟩:=Option.bind_eq_some_iff.1 h;obtain⟨z,u,h⟩:=Option.bind_eq_some_iff.1 h;obtain⟨y,v,h⟩:=Option.bind_eq_some_iff.1 h;injection h with h
    injection h with h1 h2
    subst h1;subst h2;have e5:=zAl U;have e7:=zAl X;have e4:=zk A;have e6:=zk V;have ea:=zk u;have Y:=I z y v;intro d o;rw[Ct.walk]at o;rcases List.mem_cons.1 o with rfl|o
    .exact⟨by show di.toArray.size<=_;simp;omega,br _⟩
    .exact(Y d o).mono (by omega)
   split at h
   .obtain⟨z,u,h⟩:=Option.bind_eq_some_iff.1 h;obtain⟨y,v,h⟩:=Option.bind_eq_some_iff.1 h;injection h with h
    injection h with h1 h2
    subst h1;subst h2;have ea:=zk u;have Y:=I z y v;intro d o;rw[Ct.walk]at o;rcases List.mem_cons.1 o with rfl|o
    .exact⟨by show di.toArray.size<=_;simp;omega,br _⟩
    .exact(Y d o).mono (by omega)
   .cases h
  .rw[pL]at h;obtain⟨p,hp,h⟩:=Option.bind_eq_some_iff.1 h;have e1:=a2 r p.1 p.2 hp;cases hs:zY 41 p.2 with
   | some N=>
    rw[hs]at h;simp only at h;injection h with h
    injection h with h1 h2
    subst h1;subst h2;have e2:=zk hs;intro d o;rw[zA7]at o;rcases List.mem_append.1 o with o|o
    .exact .inl o
    .exact .inr (e1 d (by simpa [Ct.walks]using o))
   | none=>
    rw[hs]at h;simp only at h;obtain⟨N,O,h⟩:=Option.bind_eq_some_iff.1 h;have e2:=zk O;have e3:=a3 r p.1 p.2 hp;have e4:=zHB p.1;intro d o;rcases Z _ N l r' h d o with J|J
    .rw[zA7]at J;rcases List.mem_append.1 J with J|J
     .exact .inl J
     .exact .inr (e1 d (by simpa [Ct.walks]using J))
    .exact .inr (J.mono (by omega))
mutual
theorem zEU: ∀ {c d:Ct},d∈c.walk->(d.inner:C)<=c.count
 | .mk k i l s t e n,d,h=>by
  rw[Ct.walk]at h;rw[Ct.count];rcases List.mem_cons.1 h with rfl|h
  .have:=zAj n;show (n:C)<=_
   omega
  .have:=zFJ h;omega
theorem zFJ : ∀ {n:Q Ct} {d:Ct},d∈Ct.walks n->(d.inner:C)<=Ct.counts n
 | [],d,h=>by simp[Ct.walks]at h
 | c::t,d,h=>by
  rw[Ct.walks]at h;rw[Ct.counts];rcases List.mem_append.1 h with h|h
  .have:=zEU h;omega
  .have:=zFJ h;omega
end
theorem zA3 (a b:a0):bl (a++b)=bl a++bl b:=by simp[bl]
theorem zDa {a b:a0}(h:bl a=bl b):a=b:=by
 rw[<-zP9 a,<-zP9 b,h]
def Ct.txt (c:Ct):a0:=⟨c.text.toArray⟩
theorem zCK (c:Ct):bl c.txt=c.text:=zEw _
theorem zER : ∀ l:Q (Q ae),cd l [44]=commas l
 | []=>rfl
 | [x]=>by simp[cd,commas,eh]
 | x::y::t=>by
  have h:=zER (y::t);unfold cd at *;rw[commas,<-h];simp[eh,List.intersperse]
theorem zDP {x:Q ae}:∀ {l:Q (Q ae)},x∈l->(x:C)<=(commas l).length
 | [],h=>by cases h
 | [y],h=>by simp at h;subst h;simp[commas]
 | y::z::t,h=>by
  rw[commas];rcases List.mem_cons.1 h with rfl|h
  .simp
  .have:=zDP h;simp;omega
def inTxt (n:Q Ct):a0:=⟨(commas (n.map Ct.text)).toArray⟩
theorem zQU (n:Q Ct):bl (inTxt n)=commas (n.map Ct.text):=zEw _
theorem zLZ (n:Q Ct):(⟨(cd ((n.map Ct.txt).map (·.data.toList)) [44]).toArray⟩:a0)=inTxt n:=by
 rw[zER,List.map_map];have:(λc=>((λx:a0=>x.data.toList)∘Ct.txt) c)=Ct.text:=funext λc=>zCK c
 show (⟨(commas (n.map (λc=>((λx:a0=>x.data.toList)∘Ct.txt) c))).toArray⟩:a0)=_
 rw[this];rfl
theorem zQK (n:Q Ct):(cd ((n.map Ct.txt).map (·.data.toList)) [44]).length=(commas (n.map Ct.text)).length:=by
 have:=bj bl (zLZ n);rw[zEw,zQU]at this;rw[this]
theorem zBP (h:isId i=ag):i.size<=16:=by
 unfold isId at h;simp only[an,bi]at h;exact h.1.2
theorem zDL {c:Ct}(h:c.good=ag):alike c=ag/\c.inner.all Ct.good=true:=by
 rw[zLg,an,zG1]at h;exact h
theorem zEs {s t:B}{l:a0}{n:Q Ct}(h:alike (.mk k i l s t e n)=ag):i.size<=16/\l.size<=16:=by
 have o:∀ x:a0,(bl x).isEmpty=ag->x.size<=16:=λx I=>by rw[zBi I];decide
 rw[alike]at h;by_cases u:k=0
 .rw[ao u]at h;simp only[an]at h;exact⟨o _ h.1.1.1,o _ h.1.1.2⟩
 rw[ai u]at h;by_cases v:k=1
 .rw[ao v]at h;simp only[an,cp]at h;exact⟨zBP h.1.1.1,h.1.1.2.elim (o _) zBP⟩
 rw[ai v]at h;by_cases y:k=2
 .rw[ao y]at h;simp only[an]at h;exact⟨zBP h.1.1.1.1.1,o _ h.1.1.1.1.2⟩
 rw[ai y]at h;by_cases z:k=3
 .rw[ao z]at h;simp only[an]at h;exact⟨zBP h.1.1.1,o _ h.1.1.2⟩
 rw[ai z]at h;by_cases A:k=4
 .rw[ao A]at h;simp only[an]at h;exact⟨zBP h.1.1.1.1,o _ h.1.1.1.2⟩
 rw[ai A]at h;by_cases F:k=5
 .rw[ao F]at h;simp only[an]at h;exact⟨zBP h.1.1.1,o _ h.1.1.2⟩
 rw[ai F]at h;cases h
theorem zFW {s t:B}{l:a0}{n:Q Ct}(h:alike (.mk k i l s t e n)=ag):((k=0\/k=1)/\n=[])\/(k=2/\1<=s/\s<=16/\1<=t/\t<=16/\1<=e/\e<=16)\/k=3\/(k=4/\1<=s/\s<=16/\1<=t/\t<=16)\/k=5:=by
 rw[alike]at h;by_cases o:k=0
 .rw[ao o]at h;simp only[an,bp]at h;exact .inl ⟨.inl o,h.2⟩
 rw[ai o]at h;by_cases u:k=1
 .rw[ao u]at h;simp only[an,bp]at h;exact .inl ⟨.inr u,h.2⟩
 rw[ai u]at h;by_cases v:k=2
 .rw[ao v]at h;simp only[an,zAX,bi]at h;exact .inr (.inl ⟨v,by omega⟩)
 rw[ai v]at h;by_cases y:k=3
 .rw[ao y]at h;exact .inr (.inr (.inl y))
 rw[ai y]at h;by_cases z:k=4
 .rw[ao z]at h;simp only[an,zAX,bi]at h;exact .inr (.inr (.inr (.inl ⟨z,by omega⟩)))
 rw[ai z]at h;by_cases A:k=5
 .rw[ao A]at h;exact .inr (.inr (.inr (.inr A)))
 rw[ai A]at h;cases h
theorem zQL {c:Ct}(h:c.good=ag):(commas (c.inner.map Ct.text)).length<=(c.text:C):=by
 obtain⟨k,i,l,s,t,e,n⟩:=c;have o:=(zDL h).1;show (commas (n.map Ct.text)).length<=_
 rcases zFW o with⟨_,rfl⟩|⟨rfl,_⟩|rfl|⟨rfl,_⟩|rfl
 .simp[commas]
 .rw[zJa];simp;omega
 .rw[zMV];simp;omega
 .rw[zMU];simp;omega
 .rw[zKR];simp;omega
theorem zND (k:C):ah (k:B)=bt k:=by unfold ah;rw[ai (by omega)];simp
def numBA (k:C):a0:=⟨(bt k).toArray⟩
theorem zCj {k:C}(h:1<=k)(o:k<=16):(numBA k).size<=2:=by
 show (bt k).toArray.size<=2
 rw[zG8 k h o];split<;>simp
theorem zOG (k:C):bl (numBA k)=ah (k:B):=by rw[zND];exact zEw _
def boxed (n:Q Ct):a0:=⟨#[40]⟩++inTxt n++⟨#[41]⟩
theorem zDo (n:Q Ct):bl (boxed n)=40::(commas (n.map Ct.text)++[41]):=by unfold boxed;rw[zA3,zA3,zQU];rfl
section
variable (i l:a0)(s t e:B)(n:Q Ct)(a b c:C)
theorem txt0: (Ct.mk 0 i l s t e n).txt=():=zDa (by rw[zCK,zOa])
theorem txt1: (Ct.mk 1 i l s t e n).txt=(⟨#[102,115,58]⟩:a0)++i++⟨#[58]⟩++l:=zDa (by rw[zCK,zKS];simp only[zA3];simp[bl])
theorem txt2: (Ct.mk 2 i l a b c n).txt=(⟨#[114,97,105,100,58]⟩:a0)++i++⟨#[58]⟩++numBA a++⟨#[47]⟩++numBA b++⟨#[47]⟩++numBA c++boxed n:=zDa (by rw[zCK,zJa];simp only[zA3,zOG,zDo];simp[bl])
theorem txt3: (Ct.mk 3 i l s t e n).txt=(⟨#[99,114,121,112,116,58]⟩:a0)++i++boxed n:=zDa (by rw[zCK,zMV];simp only[zA3,zDo];simp[bl])
theorem txt4: (Ct.mk 4 i l a b e n).txt=(⟨#[112,118,58]⟩:a0)++i++⟨#[58]⟩++numBA a++⟨#[47]⟩++numBA b++boxed n:=zDa (by rw[zCK,zMU];simp only[zA3,zOG,zDo];simp[bl])
theorem txt5: (Ct.mk 5 i l s t e n).txt=(⟨#[116,97,98,108,101,58]⟩:a0)++i++boxed n:=zDa (by rw[zCK,zKR];simp only[zA3,zDo];simp[bl])
end
def Ascii (s:a0):Prop:=∀ (j:C) b,s.data.toList[j]?=G b->b.toNat<128
theorem zOM (w:al):(zeroValue 397).run am w=.ok (bf (Array.replicate 256 (.bool ab))) w:=by kernel_rfl
theorem zLo (n v o u y:C)(h:128<=v):128<=(bx n v o u y).1/\((bx n v o u y).2=1\/((bx n v o u y).2=2/\1<n/\128<=o)\/((bx n v o u y).2=3/\2<n/\128<=o/\128<=u)\/((bx n v o u y).2=4/\3<n/\128<=o/\128<=u/\128<=y)):=by
 unfold bx;rw[ai (by omega)]
 repeat' split
 all_goals (refine⟨?_,?_⟩)
 all_goals first
  | exact .inl rfl
  | exact .inr (.inl ⟨rfl,by omega,by omega⟩)
  | exact .inr (.inr (.inl ⟨rfl,by omega,by omega,by omega⟩))
  | exact .inr (.inr (.inr ⟨rfl,by omega,by omega,by omega,by omega⟩))
  | (simp only;omega)
theorem zI0 (s:a0)(i:C)(x:ae)(h:s.data.toList[i]?=G x):s.get! i=x:=by
 have o:s.data[i]?=G x:=by rw[<-bg];exact h
 show s.data[i]! = x
 rw[getElem!_def,o]
theorem zJC (s:a0)(o:C)(x:ae)(O:s.data.toList[o]?=G x)(z:128<=x.toNat):
  128<=(bh s o).1/\o+(bh s o).2<=s.size/\∀ j y,o<=j->j<o+(bh s o).2->s.data.toList[j]?=G y->128<=y.toNat:=by
 have A:s.data.toList.length=s.size:=(bm s).symm;have Y:o<s.size:=by rw[<-A];exact(List.getElem?_eq_some_iff.1 O).1
 have F:=zI0 s o x O;rw[Lib.decode_at];have v:=zLo (s.size-o) (s.get! o).toNat (s.get! (o+1)).toNat (s.get! (o+2)).toNat (s.get! (o+3)).toNat (by rw[F];exact z);refine⟨v.1,?_,?_⟩;·rcases v.2 with h|⟨h,_⟩|⟨h,_⟩|⟨h,_⟩<;>omega
 .intro j y Z J V;have u:=zI0 s j y V;rcases v.2 with h|⟨h,U,I⟩|⟨h,U,I,N⟩|⟨h,U,I,N,X⟩
  .rw[h]at J;obtain rfl:j=o:=by omega
   rw[<-u,F];exact z
  .rw[h]at J;rcases(by omega:j=o\/j=o+1)with rfl|rfl
   .rw[<-u,F];exact z
   .rw[<-u];exact I
  .rw[h]at J;rcases(by omega:j=o\/j=o+1\/j=o+2)with rfl|rfl|rfl
   .rw[<-u,F];exact z
   .rw[<-u];exact I
   .rw[<-u];exact N
  .rw[h]at J;rcases(by omega:j=o\/j=o+1\/j=o+2\/j=o+3)with rfl|rfl|rfl|rfl
   .rw[<-u,F];exact z
   .rw[<-u];exact I
   .rw[<-u];exact N
   .rw[<-u];exact X
theorem zNV (r:C)(h:128<=r):2<=(bs (r:B)).size/\(bs (r:B)).size<=4/\∀ (j:C) y,(bs (r:B)).data.toList[j]?=G y->128<=y.toNat:=by
 have z:∀ l:Q ae,(∀ y∈l,128<=y.toNat)->∀ (j:C) y,(⟨l.toArray⟩:a0).data.toList[j]?=G y->128<=y.toNat:=λl A j y o=>A y (by simpa using de o)
 have u:∀ c:C,128<=c->c<=1114111->∀ e:a0,e=(if c<0x80 then ⟨#[bd c]⟩else if c<0x800 then ⟨#[bd (0xC0+c / 64),bd (0x80+c % 64)]⟩
   else if c<0x10000 then ⟨#[bd (0xE0+c / 4096),bd (0x80+c / 64 % 64),bd (0x80+c % 64)]⟩
   else ⟨#[bd (0xF0+c / 262144),bd (0x80+c / 4096 % 64),bd (0x80+c / 64 % 64),bd (0x80+c % 64)]⟩)->2<=e.size/\e.size<=4/\∀ (j:C) y,e.data.toList[j]?=G y->128<=y.toNat:=by
  rintro c F I e rfl;rw[ai (by omega)];split
  .refine⟨by show 2<=2;decide,by show 2<=4;decide,z _ ?_⟩;intro y o;simp only[dd,df,or_false]at o;rcases o with rfl|rfl<;>(simp only[dj];omega)
  split
  .refine⟨by show 2<=3;decide,by show 3<=4;decide,z _ ?_⟩;intro y o;simp only[dd,df,or_false]at o;rcases o with rfl|rfl|rfl<;>(simp only[dj];omega)
  .refine⟨by show 2<=4;decide,by show 4<=4;decide,z _ ?_⟩;intro y o;simp only[dd,df,or_false]at o;rcases o with rfl|rfl|rfl|rfl<;>(simp only[dj];omega)
 by_cases v:ev (r:B)=ag
 .refine u r h ?_ _ ?_
  .unfold ev at v;simp only[cp,an,bi]at v;omega
  .unfold bs;rw[ao v];simp only[Int.toNat_natCast]
 .apply u 0xFFFD (by decide) (by decide) _;unfold bs;rw[ai v];rfl
theorem zON (r:B)(w:al)(h:0<=r):
  ay am 334 #[aj .i32 r] w λe w'=>RetB e/\w'=w:=by
 go_enter Tryz.func334,Tryz.ntmps334;by_cases o:r<55296
 .go_wp2;go_ret;exact⟨cn ag,rfl⟩
 .by_cases u:57343<r
  .by_cases v:r<=1114111
   .go_wp2;go_ret;exact⟨cn ag,rfl⟩
   .go_wp2;go_ret;exact⟨cn ab,rfl⟩
  .go_wp2;go_ret;exact⟨cn ab,rfl⟩
theorem zOJ (h:Ascii s){i:C}(o:i<s.size):(s[i]'o).toNat<128:=by
 apply h i _;rw[bg];exact bo (by simpa using o)
theorem zMD (h:Ascii s)(z:128<=b.toNat)(k:C):bz (s.extract k s.size).data.toList ((b.toNat:B)).toNat.toUInt8<0:=by
 have e:((b.toNat:B)).toNat.toUInt8=b:=by simp
 rw[e];have o:=dx (s.extract k s.size).data.toList b;have v:(s.extract k s.size).data.toList.contains b=false:=by
  rw[dp];intro u;rw[dz,cu]at u;obtain⟨m,y⟩:=cz (List.mem_of_mem_drop u);have:=h m b y;omega
 rw[v]at o;have:=ez o.symm;omega
theorem zHK (s:a0)(r:C)(w:al)(hs:s.size<=1000)(X:Ascii s)(h1:128<=r)(h2:r<=1114111):
  ay am 322 #[s,aj .i32 (r:B)] w λe w'=>e=.returned (aj af (-1))/\Fr No w w':=by
 have hm:s.size<=9223372036854775807:=by omega
 have n1:¬ (r:B)<128:=by omega
 have A:=zh X;clear X;go_enter Tryz.func322,Tryz.ntmps322;by_cases he:r=65533
 .subst he;go_wp2_with fail
  go_loopg [5] s.size (λg _ wx=>∃ i:C,i+g=s.size/\wx=w.iter s i)
  case atStart=>exact⟨0,by omega,rfl⟩
  case round=>
   obtain⟨i,a3,rfl⟩:=hrel;cases gk with
   | zero=>
    obtain rfl:i=s.size:=by omega
    have F:=run_next_end (P:=am) w s s.size;go_wp2;go_ret;exact⟨rfl,bc _ _ |>.alloc _⟩
   | succ g=>
    have I:i<s.size:=(by omega);have o:=zOJ A I;have F:=λty=>run_next_ascii (P:=am) w s i ty I o
    have J:¬ ((s[i]'I).toNat:B)=65533:=(by omega);go_wp2_with fail
    go_roundg g
    case measure=>omega
    case rel=>exact⟨i+1,by omega,rfl⟩
 have n2:¬ (r:B)=65533:=by omega
 have n3:(0:B)<=r:=by omega
 have u:=zNV r h1;go_wp2_with fail;apply (zON _ _ (by omega)).mono;rintro e w1 ⟨⟨b,rfl⟩,rfl⟩;cases b with
 | false=>
  go_wp2;go_ret;exact⟨rfl,bc _ _⟩
 | true=>
  go_wp2_with fail;apply f0;go_upto_region 2 with(fail)
  obtain⟨L,Y⟩:∃ L,(bs (r:B)).size=L+1:=⟨(bs (r:B)).size-1,by omega⟩
  generalize bs (r:B)=E at *;obtain⟨e1,e2,Z⟩:=u;have N:((E.size:C):B)=(L:B)+1:=by omega
  have HE:=zh Z;have HL:=zh Y;clear Z Y;go_wp2_with fail
  go_loop [9] (λi=>i=aj af (L:B)) (λ_=>0)
  case atStart=>rfl
  case round=>
   subst hrel;by_cases v:L<s.size
   .have a2:(L:B)<s.size:=(by omega);have hA:=zOJ A v;have h:L<E.size:=(by omega);have hB:128<=(E[L]'h).toNat:=HE.out L _ (by rw[bg];exact bo (by simpa using h));have O:ak (bz (s.extract (L+1) s.size).data.toList (((E[L]'h).toNat:B)).toNat.toUInt8<0):=zMD A hB _;have J:¬ ((s[L]'v).toNat:B)=((E[L]'h).toNat:B):=(by omega);clear N;go_wp2_with fail;apply f0;go_wp2_with fail;refine zO No [(0,ab),(1,ab),(2,ab),(3,ab),(4,ab),(5,ab),(6,ab)] (λw0 y=>?_);(repeat apply zR rfl rfl rfl;intro K hK;go_big_quiet_op;go_big_quiet_on);apply zb;have U:=zh y;clear y;go_wp2_with fail;refine zO No [(0,ab),(1,ab),(2,ab),(3,ab),(4,ab),(5,ab),(6,ab),(7,ag),(8,ab)] (λw2 z=>?_);(repeat apply zR rfl rfl rfl;intro K hK;go_big_quiet_op;go_big_quiet_on);apply zu rfl;go_wp2_with fail;apply (Tryz.strings_IndexByte _ _ _).mono;rintro e w3 ⟨rfl,rfl⟩;have hq:=O.out;generalize bz (s.extract (L+1) s.size).data.toList (((E[L]'h).toNat:B)).toNat.toUInt8=q at *;go_wp2_with fail;apply zq;(repeat apply zR rfl rfl rfl;intro K hK;go_big_quiet_op;go_big_quiet_on);apply zb;have V:=zh (U.step z zi);clear z;go_wp2_with fail;simp +zetaDelta only[dv,Exit.inBlock,Exit.then];go_ret;exact⟨rfl,V⟩
   .go_wp2_with fail
    try simp +zetaDelta only[dv]
    go_ret;exact⟨rfl,bc _ _⟩
theorem zDc (s o:a0)(w:al)(h2:2<=o.size)(b4:o.size<=1000)(h8:s.size<=8)(Z:Ascii o):
  ay am 300 #[s,o] w λe w'=>e=.returned (aj af (cc s.data.toList o.data.toList))/\Fr No w w':=by
 have b9:o.toList.isEmpty=false:=by
  rw[ByteArray.toList_eq];cases h:o.data.toList with
  | nil=>have:=bm o;rw[h,List.length_nil]at this;omega
  | cons _ _=>rfl
 have d0:¬ ((o.size:B)=1):=by omega
 have a2:decide ((8:B)<(s.size:B))=false:=ey (by omega);have d1:s.size<=9223372036854775807:=by omega
 have a3:=zh Z;clear Z;go_enter Tryz.func300,Tryz.ntmps300;go_wp2_with fail;apply (Tryz.strings_shouldUseASCIISet _ _).mono;rintro e z ⟨rfl,rfl⟩;rw[a2];clear a2;go_wp2_with fail
 go_loopg [9,10] s.size (λg _ _ wx=>∃ i:C,i+g=s.size/\wx.heap[(z:C)]?=G (.stringIter s i)/\Fr No z wx/\ak (Lib.NoAny s.data.toList o.data.toList i))
 case atStart=>exact⟨0,by omega,World.iter_heap _ _ _,(bc _ _).alloc _,Lib.NoAny.zero _ _⟩
 case round=>
  obtain⟨i,d2,u,v,HN⟩:=hrel;obtain⟨W,rfl⟩:=ε wr
  cases gk with
  | zero=>
   obtain rfl:i=s.size:=by omega
   have a4:=λty=>Lib.run_next_end_at (P:=am) W (z:C) s s.size ty u (by omega)
   have b5:=zh v;clear u v;go_wp2;go_ret;exact⟨by rw[Lib.indexAny_none (by rw[<-bm];exact HN)];rfl,b5⟩
  | succ g=>
   have hi:i<s.size:=(by omega);have a4:=λty=>Lib.run_next_any_at (P:=am) W (z:C) s i ty u hi
   obtain⟨x,hx⟩:∃ x:ae,s[i]'hi=x:=⟨_,rfl⟩
   have y:s.data.toList[i]?=G x:=by
    rw[<-hx,bg];exact bo (by simpa using hi)
   have b6:1<=(bh s i).2:=Lib.width_pos s i;have a5:(bh s i).1<=1114111:=Lib.rune_le s i;have A:x.toNat<128->bh s i=(x.toNat,1):=λh=>by rw[decode_ascii s i hi (by rw[hx];exact h),hx]
   have a6:128<=x.toNat->_:=λh=>zJC s i x y h
   have O:=Lib.iterAt_heap W (z:C) s i (i+(bh s i).2) u;have U:Fr No z (W.iterAt (z:C) s (i+(bh s i).2)):=dw (Lib.below_iterAt (v.below (cl _) (λ_ _=>id)) (cl _) s _);have F:=zh A;have a7:=zh a6;have Hx:=zh y;have a8:ak (128<=x.toNat->Lib.NoAny s.data.toList o.data.toList (i+(bh s i).2)):=by
    intro h j b hj hb;by_cases b7:j<i;·exact HN j b b7 hb
    .have h3:=(zJC s i x y h).2.2 j b (by omega) hj hb;rw[dp];intro I;rw[dz]at I;obtain⟨m,hm⟩:=cz I;have:=a3.out m b hm;omega
   clear A a6 y hx u v;generalize bh s i=D at *;obtain⟨rn,wd⟩:=D;simp only at a4 b6 a5 O U F a7 a8;generalize W.iterAt (z:C) s (i+wd)=W2 at *;have a9:=zh O;have V:=zh U;clear O U;by_cases b0:x.toNat<128
   .have hD:=F.out b0;injection hD with hD1 hD2
    subst hD1;subst hD2;have J:=dx o.data.toList x;have X:((x.toNat:B)).toNat.toUInt8=x:=(by simp);have N:=zh J;clear J;go_wp2_with fail;apply (Tryz.strings_IndexRune_ascii _ _ _ (by omega) (by omega)).mono;rintro e w3 ⟨rfl,rfl⟩;rw[X];by_cases b1:0<=bz o.data.toList x
    .have I:o.data.toList.contains x=true:=(by rw[N];exact decide_eq_true b1);have Hc:=zh I;clear I;generalize bz o.data.toList x=q at *;go_wp2;go_ret;exact⟨by rw[Lib.indexAny_hit HN Hx Hc];rfl,V⟩
    .have I:o.data.toList.contains x=false:=(by rw[N];exact ey b1);have Hc:=zh I;clear I;generalize bz o.data.toList x=q at *;go_wp2_with fail
     go_roundg g
     case measure=>omega
     case rel=>exact⟨i+1,by omega,a9,V,HN.succ Hx Hc⟩
   .have b2:128<=x.toNat:=(by omega);obtain⟨k1,k2,-⟩:=a7.out b2;go_wp2_with fail;apply (zHK o rn _ b4 a3 k1 a5).mono;rintro e w3 ⟨rfl,Y⟩;have b3:=zh (Y.heap a9 id);have b8:=zh (V.step Y zi);clear Y;go_wp2_with fail
    go_roundg (s.size-(i+wd))
    case measure=>omega
    case rel=>exact⟨i+wd,by omega,b3,b8,a8 b2⟩
theorem zJU (s ends:a0)(w:al)(A:s.size<=1000000)(u:ends.size<=1000)(v:Ascii ends):
  ay am 300 #[s,ends] w λe w'=>e=.returned (aj af (cc s.data.toList ends.data.toList))/\Fr No w w':=by
 by_cases y:ends.size=0;·exact(Tryz.strings_IndexAny_none s ends w y).mono λe w' ⟨h,o⟩=>⟨h,o▸bc _ _⟩
 by_cases h:ends.size=1;·exact(Tryz.strings_IndexAny_one s ends w h v).mono λe w' ⟨h,o⟩=>⟨h,o▸bc _ _⟩
 by_cases z:s.size<=8;·exact zDc s ends w (by omega) u z v
 .exact(Tryz.strings_IndexAny_long zOM s ends w (by omega) (by omega) (by omega) (by omega) v).mono λe w' ⟨h,o⟩=>⟨h,o▸((bc _ _).alloc _).alloc _⟩
structure Env (w:al):Prop where
 len:∃ m,w ⟨0,0,R⟩=G (aj af m)
 err:ErrV w
 tab:Lib.TabIs am w "internal/strconv.uint64pow10" .u64 Lib.pow10Tab
 sz:9<=(w:C)
theorem zMW: Tryz.prog.globalNamed "internal/strconv.uint64pow10" = G 4:=by kernel_rfl
theorem Env.fr (h:Env w)(o:Fr S w w')(u:∀ b,b<9->¬ S b):Env w':=by
 obtain⟨m,v⟩:=h.len;have F:=h.sz;have y:=o.size;refine⟨⟨m,o.cell v (u _ (by decide))⟩,h.err.fr o (u _ (by decide)) (u _ (by decide)),?_,by omega⟩;have z:=h.tab;have A:=o.block 4 (by omega) (u _ (by decide));have e:w'.var? am "internal/strconv.uint64pow10" = w.var? am "internal/strconv.uint64pow10" := by
  unfold World.var?;rw[zMW];simp only[cm,A]
 unfold Lib.TabIs at *;rw[e];exact z
theorem Env.no (h:Env w)(o:Fr No w w'):Env w':=h.fr o (λ_ _=>id)
structure Cur (w:al)(pb:C)(s:a0)(r:Q ae)(bad:ar):Prop where
 blk:∃ at_:C,w.heap[pb]?=G (ax #[s,aj af (at_:B),bad] 323 (0,0))/\at_<=s.size/\s.data.toList.drop at_=r
theorem Cur.fr {o:ar}(h:Cur w u s r o)(v:Fr S w w')(y:¬ S u):Cur w' u s r o:=by
 obtain⟨a,z,A,F⟩:=h.blk;exact⟨a,v.heap z y,A,F⟩
theorem Cur.no {o:ar}(h:Cur w u s r o)(v:Fr No w w'):Cur w' u s r o:=h.fr v id
theorem Cur.lt {o:ar}(h:Cur w u s r o):u<(w:C):=by
 obtain⟨a,v,y,z⟩:=h.blk;exact zC v
theorem Cur.le {o:ar}(h:Cur w u s r o):(r:C)<=s.size:=by
 obtain⟨a,v,y,rfl⟩:=h.blk;have:s.data.toList.length=s.size:=(bm s).symm;simp only[db];omega
theorem zJR (ends:Q ae):∀ r:Q ae,(cc r ends=-1/\upto ends r=r/\past ends r=[])\/∃ k:C,cc r ends=(k:B)/\k<(r:C)/\upto ends r=r.take k/\past ends r=r.drop k
 | []=>.inl ⟨rfl,rfl,rfl⟩
 | b::l=>by
  rw[cc];by_cases h:ends.contains b=ag
  .rw[ao h];refine .inr ⟨0,rfl,by simp,?_,?_⟩;·simp only[upto,c8,h];simp
   .simp only[past,c7,h];simp
  .have u:ends.contains b=false:=by simpa using h
   rw[ai h];rcases zJR ends l with⟨v,y,o⟩|⟨k,v,y,o,z⟩
   .rw[v];refine .inl ⟨rfl,?_,?_⟩;·simp only[upto,c8,u,bw,be]at y ⊢;rw[y]
    .simp only[past,c7,u,bw,be]at o ⊢;rw[o]
   .rw[v];refine .inr ⟨k+1,?_,by simp;omega,?_,?_⟩;·rw[ai (by simp)];rfl
    .simp only[upto,c8,u,bw,be]at o ⊢;rw[o];rfl
    .simp only[past,c7,u,bw,be]at z ⊢;rw[z];rfl
theorem zGK (h:C)(s ends:a0)(r:Q ae)(z:ar)(w:al)(hc:Cur w h s r z)(he:Ascii ends)(hs:s.size<=1000000)(a8:ends.size<=1000):
  ay am 277 #[bn (G ⟨h,0,R⟩),ends] w λe w'=>e=.returned (aw ⟨(upto ends.data.toList r).toArray⟩)/\Cur w' h s (past ends.data.toList r) z/\Fr (Is h) w w':=by
 obtain⟨a,hb,a9,hr⟩:=hc.blk;have a6:(a:B)<=s.size:=by omega
 have b0:s.data.toList.length=s.size:=(bm s).symm;have I:(s.extract a s.size).data.toList=r:=by rw[cu];exact hr
 obtain⟨q,hq⟩:=ε (s.extract a s.size)
 have O:q.data.toList=r:=by rw[hq];exact I
 have b1:q.size<=1000000:=by
  have A:q.data.toList.length=q.size:=(bm q).symm;have Z:=hc.le;rw[O]at A;omega
 have a2:=zJR ends.data.toList r;have b2:=zh hq;have F:=zh O;have Hr:=zh hr;clear I hq O hr;go_enter Tryz.func277,Tryz.ntmps277;go_wp2_with fail;refine zO No [(0,ab),(1,ab),(2,ab),(3,ab),(4,ab),(5,ab),(6,ab),(7,ab),(8,ab),(9,ab)] (λw0 U=>?_);have V:=U.heap hb id;have g0:∀ g:Gr No w0,g.W ⟨h,0,R⟩=G (aw s):=λg=>g.fr.cell (zB V 0) id
 have g1:∀ g:Gr No w0,g.W ⟨h,1,R⟩=G (aj af (a:B)):=λg=>g.fr.cell (zB V 1) id
 (repeat apply zR rfl rfl rfl;intro K hK;go_big_quiet_op;go_big_quiet_on);apply zb;clear g0 g1;rw[<-b2];have J:Fr No w w0:=U;go_wp2_with fail;apply (zJU q ends _ (by omega) (by omega) he).mono;rintro e w1 ⟨rfl,N⟩;have v:Fr No w w1:=J.step N zi;have u:=v.heap hb id;have c1:w1 ⟨h,1,R⟩=G (aj af (a:B)):=zB u 1;have z1:w1.frozen? ⟨h,1,R⟩=false:=zD u 1;have a3:q.data.toList.length=q.size:=(bm q).symm;have X:(r:C)=q.size:=by rw[<-F];exact a3
 have b3:a+q.size=s.size:=by
  have A:=bj bq Hr;rw[db]at A;omega
 rw[F];have a4:∀ k:C,k<=q.size->ak (q.extract 0 k=⟨(r.take k).toArray⟩/\∀ W,Fr No w W->W.heap[h]?=G (ax #[s,aj af (a:B),z] 323 (0,0))->Cur (W.setCell ⟨h,1,R⟩ (aj af ((a:B)+k))) h s (r.drop k) z/\Fr (Is h) w (W.setCell ⟨h,1,R⟩ (aj af ((a:B)+k)))):=by
  intro k hk;refine⟨?_,λW hW a5=>⟨⟨a+k,?_,by omega,?_⟩,?_⟩⟩
  .apply dt;apply dm;rw[Lib.extract_from_zero,F]
  .rw[zE a5];rfl
  .rw[<-Hr,ec]
  .exact(hW.mono (T:=Is h) zn).setAt _
 have o:=zh a4;clear N J U V a3 a4;rcases a2 with⟨A,Z,h3⟩|⟨k,A,Z,h3,h4⟩
 .rw[A];have a7:((q.size:C):B)<=q.size:=Int.le_refl _;have Hk:=zh ((o q.size (cl _)).out);have He:ak (q=⟨(upto ends.data.toList r).toArray⟩/\r.drop q.size=past ends.data.toList r):=by
   unfold ak;refine⟨?_,by rw[h3,<-X,List.drop_length]⟩;rw[Z,<-F]
  have y:=zg2 v u;clear A Z h3 v u o X;go_wp2;go_ret;have Y:=Hk.2 w1 y.1 y.2;rw[He.2]at Y;exact⟨by show du q=_;rw[<-He.1],Y.1,Y.2⟩
 .rw[A];have b4:k<q.size:=by omega
  have b5:(k:B)<=q.size:=by omega
  have Hk:=zh ((o k (by omega)).out);have He:ak (q.extract 0 k=⟨(upto ends.data.toList r).toArray⟩/\r.drop k=past ends.data.toList r):=by
   unfold ak;rw[Hk.1,h3,h4];exact⟨rfl,rfl⟩
  have y:=zg2 v u;clear A Z h3 h4 v u o X;go_wp2;go_ret;have Y:=Hk.2 w1 y.1 y.2;rw[He.2]at Y;exact⟨by show du (aw (q.extract 0 k))=_;rw[He.1],Y.1,Y.2⟩
theorem zHX (b:ae)(r:Q ae):cw r [b]=(zY b r).isSome:=by
 cases r with
 | nil=>rfl
 | cons x t=>
  simp only[cw,zY,List.isPrefixOf];by_cases h:x=b;·subst h;simp
  .have o:(b==x)=false:=by simpa using λe=>h e.symm
   simp[h,o]
theorem zKh (h:zY b r=G t):t=r.drop 1:=by rw[zt h];rfl
theorem zOE (o:C)(s:a0)(b:ae)(r:Q ae)(y:ar)(w:al)(F:Cur w o s r y)(hs:s.size<=1000000):
  ay am 304 #[bn (G ⟨o,0,R⟩),aw ⟨#[b]⟩] w λe w'=>e=.returned (.bool (zY b r).isSome)/\Cur w' o s ((zY b r).getD r) y/\Fr (Is o) w w':=by
 obtain⟨a,Z,a2,I⟩:=F.blk;have U:(a:B)<=s.size:=by omega
 have a3:=F.le;have a4:s.data.toList.length=s.size:=(bm s).symm;obtain⟨q,N⟩:=ε (s.extract a s.size)
 have z:q.data.toList=r:=by rw[N,cu];exact I
 have v:cw q.data.toList (⟨#[b]⟩:a0).data.toList=(zY b r).isSome:=by rw[z];exact zHX b r
 have V:(r:C)=s.size-a:=by rw[<-I,db];omega
 have a5:=zh N;have Hr:=zh I;have A:=zh v;have Hc:=zh F;clear N z I v F;go_enter Tryz.func304,Tryz.ntmps304;go_wp2_with fail;refine zO No [(0,ab),(1,ab),(2,ab),(3,ab),(4,ab),(5,ab),(6,ab),(7,ab),(8,ab),(9,ab),(10,ag),(11,ab)] (λX u=>?_);have h:=u.heap Z id;have g0:∀ g:Gr No X,g.W ⟨o,0,R⟩=G (aw s):=λg=>g.fr.cell (zB h 0) id
 have g1:∀ g:Gr No X,g.W ⟨o,1,R⟩=G (aj af (a:B)):=λg=>g.fr.cell (zB h 1) id
 (repeat apply zR rfl rfl rfl;intro K Y;go_big_quiet_op;go_big_quiet_on);clear g0 g1;rw[<-a5];apply zu rfl;go_wp2_with fail;apply (Tryz.strings_HasPrefix q ⟨#[b]⟩ _).mono;rintro e J ⟨rfl,rfl⟩;rw[A];have c1:J ⟨o,1,R⟩=G (aj af (a:B)):=zB h 1;have z1:J.frozen? ⟨o,1,R⟩=false:=zD h 1;cases hk:zY b r with
 | none=>
  have H:=zg2 (Hc.no u) (u.mono (T:=Is o) zn);have O:=zh hk;clear hk h u;simp only[er];go_wp2_with fail;apply zq;(repeat apply zR rfl rfl rfl;intro K Y;go_big_quiet_op;go_big_quiet_on);apply zb;go_wp2;go_ret;rw[O];exact⟨rfl,H.1,H.2⟩
 | some t=>
  have a6:1<=(r:C):=by rw[zt hk];simp
  have H:ak (Cur (J.setCell ⟨o,1,R⟩ (aj af ((a:B)+1))) o s t y/\Fr (Is o) w (J.setCell ⟨o,1,R⟩ (aj af ((a:B)+1)))):=by
   refine⟨⟨a+1,?_,by omega,?_⟩,?_⟩;·rw[zE h];rfl
   .rw[zKh hk,<-Hr,ec]
   .exact(u.mono (T:=Is o) zn).setAt _
  have O:=zh hk;clear hk h u;simp only[es];go_wp2_with fail;apply zq;(repeat apply zR rfl rfl rfl;intro K Y;go_big_quiet_op;go_big_quiet_on);apply zb;go_wp2;go_ret;rw[O];exact⟨rfl,H.1,H.2⟩
theorem zCy (u:C)(s:a0)(b:ae)(r:Q ae)(o:ar)(w:al)(U:Cur w u s r o)(X:s.size<=1000000):
  ay am 278 #[bn (G ⟨u,0,R⟩),aw ⟨#[b]⟩] w λe w'=>e=.returned (.tuple #[])/\Cur w' u s ((zY b r).getD r) (o||(zY b r).isNone)/\Fr (Is u) w w':=by
 go_enter Tryz.func278,Tryz.ntmps278;go_wp2_with fail;apply (zOE u s b r o _ U X).mono;rintro e N ⟨rfl,z,A⟩;generalize F:(zY b r).getD r=r' at *;have I:=zh F;clear F;obtain⟨a,y,O,V⟩:=z.blk;have Y:N ⟨u,2,R⟩=G (.bool o):=zB y 2;have Z:N.frozen? ⟨u,2,R⟩=false:=zD y 2;have H:ak (∀ v:ar,Cur (N.setCell ⟨u,2,R⟩ (.bool v)) u s r' v/\Fr (Is u) w (N.setCell ⟨u,2,R⟩ (.bool v))):=by
  intro v;refine⟨⟨a,?_,O,V⟩,A.setAt _⟩;rw[zE y];rfl
 clear y z A V U;cases hk:zY b r with
 | none=>
  have J:=zh hk;clear hk;simp only[er];go_wp2;go_end0;rw[J];have h:=H.out ag;exact⟨rfl,by have e:=I.out;rw[J]at e;rw[e];show Cur _ u s r' (o||true);rw[dr];exact h.1,h.2⟩
 | some t=>
  have J:=zh hk;clear hk;simp only[es];go_wp2;go_end0;rw[J];have h:=H.out o;exact⟨rfl,by have e:=I.out;rw[J]at e;rw[e];show Cur _ u s r' (o||false);rw[dq];exact h.1,h.2⟩
def NumIs (r r':Q ae)(bad bad':ar)(n:B):Prop:=(bad=ag->bad'=ag)/\(bad=ab->(pNum r=R/\bad'=ag)\/(pNum r=G (n,r')/\bad'=ab))
theorem zLB: Ascii ⟨#[47,40,44,41,58]⟩:=λj b o=>by
 have h:∀ x∈([47,40,44,41,58]:Q ae),x.toNat<128:=by decide
 exact h b (de o)
theorem zCz (o:C)(s:a0)(r:Q ae)(y:ar)(w:al)(hc:Cur w o s r y)(hs:s.size<=900)(hE:Env w)(h9:9<=o):
  ay am 279 #[bn (G ⟨o,0,R⟩)] w λe w'=>∃ n r' U,e=.returned (aj af n)/\r'.length<=(r:C)/\Cur w' o s r' U/\NumIs r r' y U n/\Fr (Is o) w w':=by
 go_enter Tryz.func279,Tryz.ntmps279;go_wp2_with fail;apply (zGK o s ⟨#[47,40,44,41,58]⟩ r y _ hc zLB (by omega) (by decide)).mono;rintro e w1 ⟨rfl,X,Y⟩;have a6:=zAe [47,40,44,41,58] r;have a7:pNum r=(match cr (upto [47,40,44,41,58] r)with | .ok v=>if ah v=upto [47,40,44,41,58] r then G (v,past [47,40,44,41,58] r)else R|_=>R):=rfl;have e5:(⟨#[47,40,44,41,58]⟩:a0).data.toList=[47,40,44,41,58]:=rfl;rw[e5]at X ⊢;generalize upto [47,40,44,41,58] r=dl at *;generalize past [47,40,44,41,58] r=r' at *;have d0:=hc.le;have a8:(dl:C)<=900/\r'.length<=(r:C):=by
  have:=bj bq a6;rw[bu]at this;omega
 obtain⟨A,Z⟩:=ε (⟨dl.toArray⟩:a0)
 rw[<-Z];have a2:A.data.toList=dl:=by rw[Z]
 have b6:A.size<=1000:=by
  have h1:A.data.toList.length=A.size:=(bm A).symm;rw[a2]at h1;omega
 have a3:=hE.fr Y (λb hb h=>by omega);have a9:=zh a2;have b0:=zh a7;have u:=zh a8.2;clear Z a6 e5 hc a2 a7 a8;go_wp2_with fail;apply (zJN A _ b6 a3.err).mono;rintro e F ⟨hR,I⟩;unfold AtoiR at hR;rw[a9]at hR;have b1:=X.no I;have b7:=a3.no I;obtain⟨a,z,b8,hr⟩:=b1.blk;have V:=Y.step I zn;have H:ak (∀ (W:al) (v:ar),Fr No F W->Cur (W.setCell ⟨o,2,R⟩ (.bool v)) o s r' v/\Fr (Is o) w (W.setCell ⟨o,2,R⟩ (.bool v))):=by
  intro W v hW;refine⟨⟨a,?_,b8,hr⟩,(V.step hW zn).setAt _⟩;rw[zE (hW.heap z id)];rfl
 have c2:F ⟨o,2,R⟩=G (.bool y):=zB z 2;have z2:F.frozen? ⟨o,2,R⟩=false:=zD z 2;have b9:=zh z;clear X b1 Y I V a3 hr z;cases y with
 | true=>
  rcases hR with⟨v,J,rfl⟩|⟨J,k,te,N,rfl⟩
  all_goals
   clear J;go_wp2;go_ret;have h:=H.out F ag (bc _ _);exact⟨_,r',ag,rfl,u.out,h.1,⟨(λ_=>rfl),(λh=>by cases h)⟩,h.2⟩
 | false=>
  rcases hR with⟨v,J,rfl⟩|⟨J,k,te,N,rfl⟩
  .have b2:=Lib.atoiAll_bounds J;have Hn:ak (pNum r=if ah v=dl then G (v,r')else R):=(by unfold ak;rw[b0,J]);clear J;go_wp2_with fail;apply (Tryz.strconv_Itoa v b2.1 b2.2 _ b7.tab).mono;rintro e w3 ⟨rfl,kk,os,rfl⟩;have O:Fr No F (Go.Sort.grow (F.drewN kk) os):=dw (Lib.below_grow _ F (cl _) kk os);generalize Go.Sort.grow (F.drewN kk) os=w3 at *;have c3:w3 ⟨o,2,R⟩=G (.bool ab):=O.cell c2 id;have z3:w3.frozen? ⟨o,2,R⟩=false:=zD (O.heap b9 id) 2;obtain⟨it,a4⟩:=ε (⟨(ah v).toArray⟩:a0)
   rw[<-a4];have b3:ak ((it.toList==A.toList)=decide (ah v=dl)):=by
    unfold ak;rw[a4,Bool.eq_iff_iff,beq_iff_eq,decide_eq_true_iff,ByteArray.toList_eq,ByteArray.toList_eq,a9]
   have b4:=zh O;clear a4 O c2 z2;rcases hie:(it.toList==A.toList)with _|_
   .have a5:ak (pNum r=R):=by
     unfold ak;have h1:=b3.out;rw[hie]at h1;rw[Hn,ai (ez h1.symm)]
    go_wp2;go_ret;have h:=H.out w3 ag b4;exact⟨_,r',ag,rfl,u,h.1,⟨λ_=>rfl,λ_=>.inl ⟨a5,rfl⟩⟩,h.2⟩
   .have b5:ak (pNum r=G (v,r')):=by
     unfold ak;have h1:=b3.out;rw[hie]at h1;rw[Hn,ao (of_decide_eq_true h1.symm)]
    go_wp2;go_ret;have h:=H.out w3 ab b4;exact⟨_,r',ab,rfl,u.out,h.1,⟨(λh=>by cases h),(λ_=>.inr ⟨b5.out,rfl⟩)⟩,h.2⟩
  .have a5:ak (pNum r=R):=by
    unfold ak;rw[b0];split;·rename_i v e;exact absurd e (J v)
    .rfl
   clear J;go_wp2;go_ret;have h:=H.out F ag (bc _ _);exact⟨_,r',ag,rfl,u,h.1,⟨λ_=>rfl,λ_=>.inl ⟨a5,rfl⟩⟩,h.2⟩
inductive CAt (w:al)(X:C->Prop):az au->Ct->Prop
 | mk (k:B) (i l:a0) (s t e:B) (n:Q Ct) (a:aq ba) (cap:C) (vs:C->az au)
  (h1:(n:C)<=cap) (h2:cap<=c9) (h3:a=R->n=[]/\cap=0)
  (h4:∀ ad,a=G ad->n≠[]->ad.spot=R/\ad.block<(w:C)/\X ad.block)
  (h5:∀ ad j d,a=G ad->n[j]?=G d->∀ q,q<7->w ⟨ad.block,ad.off+(j*7+q),R⟩=(vs j)[q]?)
  (h6:∀ j d,n[j]?=G d->CAt w X (vs j) d):
  CAt w X #[k,i,l,s,t,e,ap a n cap] (.mk k i l s t e n)
theorem CAt.fr {c:Ct}(h:CAt w X o c)(J:Fr S w w')(O:∀ b,X b->¬ S b):CAt w' X o c:=by
 induction h with
 | mk k i l s t e n a y o U V Y N Z h6 ih=>
  refine .mk k i l s t e n a y o U V Y (λu v z=>?_) (λu j d v A q hq=>?_) ih
  .obtain⟨a1,F,I⟩:=N u v z;exact⟨a1,dh F J.size,I⟩
  .obtain⟨a1,F,I⟩:=N u v (λe=>by rw[e]at A;simp at A);rw[<-Z u j d v A q hq];exact ew (J.block _ F (O _ I))
theorem CAt.no {c:Ct}(h:CAt w X o c)(u:Fr No w w'):CAt w' X o c:=h.fr u (λ_ _=>id)
theorem CAt.mono {c:Ct}(h:CAt w X o c)(z:∀ b,b<(w:C)->X b->Y b):CAt w Y o c:=by
 induction h with
 | mk k i l s t e n a u o A F I J N h6 O=>
  refine .mk k i l s t e n a u o A F I (λU V v=>?_) N O;obtain⟨a1,y,Z⟩:=J U V v;exact⟨a1,y,z _ y Z⟩
theorem CAt.size {c:Ct}(h:CAt w X o c):o.size=7:=by
 cases h;rfl
structure InAt (w:al)(X:C->Prop)(a:aq ba)(cap:C)(cs:Q Ct):Prop where
 len:(cs:C)<=cap
 max:cap<=c9
 isNil:a=R->cs=[]/\cap=0
 el:∃ vs:C->az au,(∀ ad,a=G ad->cs≠[]->ad.spot=R/\ad.block<(w:C)/\X ad.block)/\(∀ ad j d,a=G ad->cs[j]?=G d->∀ q,q<7->w ⟨ad.block,ad.off+(j*7+q),R⟩=(vs j)[q]?)/\∀ j d,cs[j]?=G d->CAt w X (vs j) d
theorem InAt.nil (w:al)(X:C->Prop):InAt w X R 0 []:=⟨by simp,by simp,λ_=>⟨rfl,rfl⟩,λ_=>#[],λ_ e=>(by cases e),λ_ _ _ e=>(by cases e),λj d h=>by simp at h⟩
theorem CAt.of_in {o:C}{cs:Q Ct}(h:InAt w X a o cs)(k:B)(i l:a0)(s t e:B):CAt w X #[k,i,l,s,t,e,ap a cs o] (.mk k i l s t e cs):=by
 obtain⟨u,v,y,z⟩:=h.el;exact .mk k i l s t e cs a o u h.len h.max h.isNil v y z
theorem InAt.fr {o:C}{cs:Q Ct}(h:InAt w X a o cs)(z:Fr S w w')(J:∀ b,X b->¬ S b):InAt w' X a o cs:=by
 obtain⟨O,N,U,V⟩:=h.el;refine⟨h.len,h.max,h.isNil,O,λv y A=>?_,λv j d y u q Y=>?_,λj d u=>(V j d u).fr z J⟩
 .obtain⟨a1,F,I⟩:=N v y A;exact⟨a1,dh F z.size,I⟩
 .obtain⟨a1,F,I⟩:=N v y (λe=>by rw[e]at u;simp at u);rw[<-U v j d y u q Y];exact ew (z.block _ F (J _ I))
theorem InAt.mono {o:C}{cs:Q Ct}(h:InAt w X a o cs)(v:∀ b,b<(w:C)->X b->Y b):InAt w Y a o cs:=by
 obtain⟨z,A,F,I⟩:=h.el;refine⟨h.len,h.max,h.isNil,z,λJ N u=>?_,F,λj d O=>(I j d O).mono v⟩;obtain⟨a1,y,U⟩:=A J N u;exact⟨a1,y,v _ y U⟩
structure CRow (w:al)(base:C)(v:au)(cs:Q Ct):Prop where
 el:∃ vl:Q (az au),(vl:C)=(cs:C)/\w.ownsRow base 218 7 v (cs:C) (vl.flatMap co)/\∀ (j:C) (vs:az au) (c:Ct),vl[j]?=G vs->cs[j]?=G c->CAt w (λb=>base<=b/\v.ownBlock≠G b) vs c
theorem CRow.nil (w:al)(o:C):CRow w o (ap R 0 0) []:=⟨[],rfl,World.ownsRow_nil _ _ _ _,λj u c h=>by simp at h⟩
theorem CRow.fr {o:C}{cs:Q Ct}(h:CRow w o v cs)(u:Fr S w w')(y:∀ b,o<=b->¬ S b):CRow w' o v cs:=by
 obtain⟨z,A,F,I⟩:=h.el;exact⟨z,A,zAc F u y,λj J c N O=>(I j J c N O).fr u (λb U=>y b U.1)⟩
theorem zI6 : ∀ (z:Q (az au)),(∀ o∈z,o.size=7)->∀ (j:C) (o:az au),z[j]?=G o->∀ q,q<7->(z.flatMap co)[j*7+q]?=o[q]?
 | [],_,j,o,h,q,A=>by simp at h
 | x::t,u,0,o,h,q,A=>by
  simp at h;subst h;have v:=u x (by simp);rw[eg,cx (by simp[v];omega)];simp
 | x::t,u,j+1,o,h,q,A=>by
  have v:=u x (by simp);rw[eg,cy (by simp[v];omega),show (j+1)*7+q-(x.toList:C)=j*7+q by simp[v];omega];exact zI6 t (λy F=>u y (by simp[F])) j o (by simpa using h) q A
theorem CRow.inAt {o:C}{cs:Q Ct}(h:CRow w o v cs):∃ a u,v=ap a cs u/\InAt w (From o) a u cs:=by
 obtain⟨y,V,X,U⟩:=h.el;have Y:∀ J∈y,J.size=7:=λJ N=>by
  obtain⟨j,z⟩:=cz N;have A:j<(cs:C):=by rw[<-V];exact(List.getElem?_eq_some_iff.1 z).1
  exact(U j J cs[j] z (cf A)).size
 obtain⟨_,⟨rfl,Z⟩|⟨g,u,a2,rfl,hg,F,h6,h7,h8,h9⟩⟩:=X
 .have:cs=[]:=ee Z;subst this;exact⟨R,0,rfl,InAt.nil _ _⟩
 .refine⟨G ⟨g,0,R⟩,u,rfl,h6,h7,(λe=>by cases e),λj=>(y[j]?).getD #[],λad e a3=>?_,λad j d e I q hq=>?_,λj d I=>?_⟩;·cases e;exact⟨rfl,zC F,hg⟩
  .cases e;have A:j<(cs:C):=(List.getElem?_eq_some_iff.1 I).1;have z:y[j]?=G (y[j]'(by omega)):=cf (by omega);show _=((y[j]?).getD #[])[q]?
   rw[zB F,z];simp only[ep,cg];rw[<-zI6 y Y j _ z q hq,<-h9,da (by omega),bg]
  .have A:j<(cs:C):=(List.getElem?_eq_some_iff.1 I).1;have z:y[j]?=G (y[j]'(by omega)):=cf (by omega);have O:=U j _ d z I;show CAt w (From o) ((y[j]?).getD #[]) d
   rw[z];exact O.mono (λb _ F=>F.1)
theorem CRow.push {O:al}{o:C}{F:au}{cs:Q Ct}{u:az au}{c:Ct}(hv:CAt w (From o) u c)(U:∀ b,v.ownBlock=G b->CAt w (λb'=>o<=b'/\b'≠b) u c)
  {I:Q (az au)} (h1:(I:C)=(cs:C)) (h3:∀ (j:C) (u:az au) (c:Ct),I[j]?=G u->cs[j]?=G c->CAt w (λb=>o<=b/\v.ownBlock≠G b) u c)
  (J:O.ownsRow o 218 7 F ((cs:C)+1) (I.flatMap co++u.toList)) (hf:Fr (λb=>v.ownBlock=G b) w O) (V:F.ownBlock=v.ownBlock\/∃ g,F.ownBlock=G g/\(w:C)<=g):CRow O o F (cs++[c]):=by
 have N:∀ u c,CAt w (λb=>o<=b/\v.ownBlock≠G b) u c->CAt O (λb=>o<=b/\F.ownBlock≠G b) u c:=by
  intro u c h;have h4:=h.mono (Y:=λb=>(o<=b/\v.ownBlock≠G b)/\b<(w:C)) (λb y hx=>⟨hx,y⟩);have h5:=h4.fr hf (λb y=>y.1.2);refine h5.mono (λb _ y=>⟨y.1.1,?_⟩);rcases V with e|⟨g,e,hg⟩
  .rw[e];exact y.1.2
  .rw[e];intro h;cases h;omega
 have X:CAt w (λb=>o<=b/\v.ownBlock≠G b) u c:=by
  cases hob:v.ownBlock with
  | none=>exact hv.mono (λb _ y=>⟨y,by simp⟩)
  | some g=>exact(U g hob).mono (λb _ y=>⟨y.1,λe=>y.2 (Option.some.inj e).symm⟩)
 refine⟨I++[u],by simp[h1],?_,λj Z c' z A=>?_⟩
 .rw[List.flatMap_append]
  simpa using J
 .by_cases a2:j<(cs:C)
  .rw[cx (by omega)]at z;rw[cx a2]at A;exact N _ _ (h3 j Z c' z A)
  .rw[cy (by omega)]at z;rw[cy (by omega)]at A;have e1:j-(I:C)=0:=by
    have:=(List.getElem?_eq_some_iff.1 z).1;simp at this;omega
   have e2:j-(cs:C)=0:=(by omega);rw[e1]at z;rw[e2]at A;simp at z A;subst z;subst A;exact N _ _ X
def CtRes (w:al)(pb:C)(s:a0)(r:Q ae)(n:C)(e:Ending)(w':al):Prop:=
 ∃ (k:B) (i l:a0) (sl t le:B) (a:aq ba) (m c:C) (r':Q ae) (bad':ar),e=.returned (bf #[k,i,l,sl,t,le,ap a m c])/\(r':C)<=(r:C)/\Cur w' pb s r' bad'/\Fr (Is pb) w w'/\
  ((bad'=ag/\pC n r=R)\/(bad'=ab/\∃ ct,pC n r=G (ct,r')/\CAt w' (From (w:C)) #[k,i,l,sl,t,le,ap a m c] ct))
def PSpec (n:C):Prop:=∀ (pb:C) (s:a0) (r:Q ae) (w:al),(r:C)<n->Cur w pb s r ab->s.size<=900->Env w->9<=pb->
 ay am 244 #[bn (G ⟨pb,0,R⟩)] w (CtRes w pb s r n)
def InRes (w:al)(pb:C)(s:a0)(r:Q ae)(bad:ar)(n:C)(e:Ending)(w':al):Prop:=
 ∃ (a:aq ba) (m c:C) (r':Q ae) (bad':ar),e=.returned (ap a m c)/\(r':C)<=(r:C)/\Cur w' pb s r' bad'/\Fr (Is pb) w w'/\(bad=ag->bad'=ag)/\
  (bad=ab->(bad'=ag/\(zY 40 r).bind (pL n [])=R)\/(bad'=ab/\∃ cs,(zY 40 r).bind (pL n [])=G (cs,r')/\m=cs.length/\InAt w' (From (w:C)) a c cs))
theorem zAt (r:Q ae):((zY b r).getD r).length<=(r:C):=by
 cases h:zY b r with
 | none=>simp
 | some t=>rw[zt h];simp
theorem infoC: (Tryz.prog.info? 218).map (λi=>(i.zero,i.size,i.bytes))=G (G (bf #[aj af 0,ci,ci,aj af 0,aj af 0,aj af 0,ap R 0 0]),7,88):=by kernel_rfl
def lenOf : au->C
 | .slice _ n _=>n
 | _=>0
theorem zD6 (k s t e:B)(i l:a0)(a:aq ba)(m c:C):∀ u∈[Value.int af k,aw i,aw l,aj af s,aj af t,aj af e,ap a m c],u.oneCell'=true:=by
 intro u h;simp at h;rcases h with rfl|rfl|rfl|rfl|rfl|rfl|rfl<;>rfl
theorem zHn (a:aq ba)(n c:C):lenOf (ap a n c)=n:=rfl
theorem zPd (n:C)(hP:∀ k,k<n->PSpec k)(z:C)(s:a0)(r:Q ae)(V:ar)(w:al)(hr:(r:C)+1<=n)(hc:Cur w z s r V)(hs:s.size<=900)(hE:Env w)(h9:9<=z):
  ay am 280 #[bn (G ⟨z,0,R⟩)] w (InRes w z s r V n):=by
 obtain⟨i0,i9,j0,j1,j2⟩:=info_parts infoC;have l5:=hc.lt;have l6:=hc.le;go_enter Tryz.func280,Tryz.ntmps280;go_wp2_with fail;apply (zCy z s 40 r V _ hc (by omega)).mono;rintro e I ⟨rfl,b8,a9⟩;have j3:=zAt (b:=40) r;obtain⟨O,b9⟩:=ε ((zY 40 r).getD r)
 rw[<-b9]at b8 j3;obtain⟨b1,d0⟩:=ε (V||(zY 40 r).isNone)
 rw[<-d0]at b8;have d1:=zh b9;have b0:=zh d0;have l7:=a9.size;have d9:=zh a9;have e0:=hE.fr a9 (λb A h=>by omega);clear b9 d0 a9 hc;go_wp2_with fail;go_loopw [3] (λv wr=>∃ (o:Q Ct) (rr:Q ae) (bb:ar) (av:aq ba) (cv:C) (m:C),v=.slice av o cv/\(o:C)+m=n/\(rr:C)<=(O:C)/\Cur wr z s rr bb/\ak (bb=ab->((rr:C)+2<=m/\(o:C)+(rr:C)<=(O:C))/\pL n [] O=pL m o rr/\b1=ab)/\ak (bb=ag->b1=ag\/pL n [] O=R)/\ak (bb=ab->CRow wr (I:C) (.slice av o cv) o)/\Fr (λb=>b=z\/(I:C)<=b) I wr) (λv _=>n+1-lenOf v);case atStart=>
  refine⟨[],O,b1,none,0,n,rfl,by simp,by omega,b8,λh=>?_,λh=>.inl h,λ_=>CRow.nil _ _,bc _ _⟩;have u:=b0.out;rw[h]at u;have h3:(zY 40 r).isNone=false:=by
   cases h4:(zY 40 r).isNone with
   | false=>rfl
   | true=>rw[h4,dr]at u;cases u
  cases h5:zY 40 r with
  | none=>rw[h5]at h3;cases h3
  | some t=>
   have h6:=d1.out;rw[h5,cg]at h6;have h7:=bj bq (zt h5);rw[h6];simp at h7;exact⟨⟨by omega,by simp⟩,rfl,h⟩
 case round=>
  obtain⟨o,rr,bb,av,cv,m,rfl,hm,l8,a2,H0,H1,HR,a3⟩:=hrel;obtain⟨W2,rfl⟩:=ε wr
  obtain⟨l9,d2,m0,m1⟩:=a2.blk;have c2:W2 ⟨z,2,R⟩=G (.bool bb):=zB d2 2;have m2:=a3.size;have j4:ak (Fr (Is z) w W2):=d9.step a3 (λb A h=>by omega);cases bb with
  | true=>
   have a4:ak (InRes w z s r V n (.returned (.slice R 0 0)) W2):=by
    refine⟨none,0,0,rr,true,rfl,by omega,a2,j4,λ_=>rfl,λe7=>.inl ⟨rfl,?_⟩⟩;cases h5:zY 40 r with
    | none=>rfl
    | some t=>
     have h6:=d1.out;rw[h5,cg]at h6;show pL n [] t=R
     rw[<-h6];rcases H1.out rfl with h|h
     .have u:=b0.out;rw[e7,h5,h]at u;cases u
     .exact h
   clear d2 a2;go_wp2;go_ret;exact a4
  | false=>
   obtain⟨⟨m3,m4⟩,e8,e9⟩:=H0.out rfl;have g0:ak (CRow W2 (I:C) (.slice av o cv) o):=HR.out rfl;obtain⟨m,rfl⟩:∃ m',m=m'+1:=⟨m-1,by omega⟩
   have g1:=e0.fr a3 (λb A h=>by have:=e0.sz;omega);have d3:=zh e8;have d4:=zh e9;have l0:(o:C)<=n:=(by omega);have g2:=hP m (by omega) z s rr W2 (by omega) a2 hs g1 h9;clear d2 e8 e9 a2;go_wp2_with fail;apply g2.mono;rintro e w3 ⟨k,i,l,sl,t,le,a,mm,c,U,b3,rfl,m5,g3,b2,a5⟩;have m6:=b2.size;have d5:ak (CRow w3 (I:C) (.slice av o cv) o):=g0.fr b2 (λb A h=>by omega);obtain⟨vl,j5,a6,g4⟩:=d5.el;have g5:Fr No w3 (w3.alloc (ax #[.int af k,.string i,.string l,.int af sl,.int af t,.int af le,.slice a mm c] 218)):=(bc _ _).alloc _;have Hc:=zh a5;have j6:=zh g4;have j7:=zh (a3.step b2 (λb A h=>by omega));have j8:=zh g3;have g6:=ze (b:=0) a6;have d6:ak (∀ b,(dk av o cv).ownBlock=G b->b<(W2:C)/\(I:C)<=b):=λb A=>by
    obtain⟨m7,_,g7,_⟩:=g0.el;exact⟨ze g7 A,zQ g7 A⟩
   have l1:(I:C)<=(w3:C):=(by omega);have l2:z<(I:C):=(by omega);clear a5 g4 g2 g3 a3 b2 g6;go_wp2_with (at_builtin;refine wpList_append_own_at _ rfl _ _ 216 rfl (I:C) 218 i0 (bf #[.int af 0,.string ci,.string ci,.int af 0,.int af 0,.int af 0,.slice R 0 0]) 7 88 Tryz.underlying216 i9 j0 j1 j2 rfl (by decide) _ _ _ rfl (a6.alloc _) ⟨w3,0,R⟩ 1 1 [.int af k,.string i,.string l,.int af sl,.int af t,.int af le,.slice a mm c] rfl rfl (zl _ _ _ rfl) (zD6 _ _ _ _ _ _ _ _ _) (by unfold c9;omega) (by omega) (by simp;omega) ?_;intro v' wb J a7 _ g8;obtain⟨X,Y,rfl⟩:=zI J)
   have b4:Fr (λb=>(dk av o cv).ownBlock=G b) w3 wb:=g5.trans (Fr.of_grown a7) zn zi;have g9:=zh b4;have h0:=zh J;have j9:=zh g8;have h8:=j8.fr b4 (λh=>by have:=d6.out _ h;omega);have m8:=b4.size;clear J a7 g8 b4 a6 g5 g1;go_wp2_with fail;apply (zOE z s 41 U b3 _ h8 (by omega)).mono;rintro e w5 ⟨rfl,F,b5⟩;have m9:=b5.size;have b7:ak (Fr (λb=>b=z\/(I:C)<=b) I w5):=(j7.step g9 (λb A h=>by have:=d6.out b h;omega)).step b5 (λb A h=>by omega);have i3:ak (Fr (Is z) w w5):=d9.step b7 (λb A h=>by omega)
   -- the row with the new content, if the parse went well
   have a8:ak (∀ ct,b3=ab->CAt w3 (From (W2:C)) #[.int af k,.string i,.string l,.int af sl,.int af t,.int af le,.slice a mm c] ct->CRow w5 (I:C) (.slice X (o++[ct]).length Y) (o++[ct])):=by
    intro ct _ i4;have h1:CRow wb (I:C) (.slice X ((o:C)+1) Y) (o++[ct]):=CRow.push (i4.mono (λb _ A=>by unfold From at *;omega)) (λb A=>i4.mono (λb' _ k0=>by have:=d6.out b A;unfold From at k0;exact⟨by omega,by omega⟩)) j5 j6 h0 g9 (by
     rcases j9.out with h|h
     .exact .inl h
     .exact .inr ⟨_,h,by simp⟩)
    rw[bu,List.length_singleton];exact h1.fr b5 (λb A h=>by omega)
   cases hk:zY 41 U with
   | some r4=>
    rw[hk]at F;simp only[cg]at F;have h7:=bj bq (zt hk);simp at h7;have a4:ak (InRes w z s r V n (.returned (.slice X ((o:C)+1) Y)) w5):=by
     refine⟨X,(o:C)+1,Y,r4,b3,rfl,by omega,F,i3,λk3=>?_,λe7=>?_⟩
     .have u:=b0.out;rw[k3,d4.out]at u;cases u
     .have h6:(zY 40 r).bind (pL n [])=pL n [] O:=by
       cases h5:zY 40 r with
       | none=>have u:=b0.out;rw[h5,d4.out]at u;simp at u
       | some t0=>have h6:=d1.out;rw[h5,cg]at h6;rw[h6];rfl
      rw[h6,d3,pL];rcases Hc.out with⟨h1,u⟩|⟨h1,ct,u,h3⟩
      .rw[u];exact .inl ⟨h1,rfl⟩
      .rw[u];simp only[cm,hk];refine .inr ⟨h1,o++[ct],rfl,by simp,?_⟩;have i5:=a8.out ct h1 h3;obtain⟨a',l3,hv,k4⟩:=i5.inAt;cases hv;exact k4.mono (λb _ A=>by unfold From at *;omega)
    clear F hk;go_wp2;go_ret;exact a4
   | none=>
    rw[hk]at F;simp only[Option.getD_none]at F;have Hk:=zh hk;clear hk;go_wp2_with fail;apply (zCy z s 44 U b3 _ F (by omega)).mono;rintro e w6 ⟨rfl,d7,b6⟩;have l4:=zAt (b:=44) U;have n3:=b6.size;have i6:ak (Fr (λb=>b=z\/(I:C)<=b) I w6):=b7.step b6 (λb A h=>by omega);have i7:∀ ct,b3=ab->pC m rr=G (ct,U)->pL n [] O=(zY 44 U).bind λr2=>pL m (o++[ct]) r2:=by
     intro ct _ u;rw[d3,pL,u];simp only[cm,Hk.out]
    have i8:=zh i7
    -- what the next round has
    have d8:ak (∃ (y:Q Ct) (N:Q ae) (Z:ar),(y:C)=(o:C)+1/\(N:C)<=(O:C)/\Cur w6 z s N Z/\(Z=ab->((N:C)+2<=m/\(y:C)+(N:C)<=(O:C))/\pL n [] O=pL m y N/\b1=ab)/\(Z=ag->b1=ag\/pL n [] O=R)/\(Z=ab->CRow w6 (I:C) (.slice X y Y) y)):=by
     rcases Hc.out with⟨h1,u⟩|⟨h1,ct,u,h3⟩
     .subst h1;have k5:pL n [] O=none:=(by rw[d3,pL,u];rfl);exact⟨o++[Ct.zero],(zY 44 U).getD U,(ag||(zY 44 U).isNone),by simp,by omega,d7,(λh=>by cases h),(λ_=>.inr k5),(λh=>by cases h)⟩
     .subst h1;refine⟨o++[ct],(zY 44 U).getD U,(ab||(zY 44 U).isNone),by simp,by omega,d7,λh=>?_,λh=>?_,?_⟩
      .cases h4:zY 44 U with
       | none=>rw[h4]at h;cases h
       | some r4=>
        have h7:=bj bq (zt h4);simp at h7;refine⟨⟨by simp;omega,by simp;omega⟩,?_,d4.out⟩;rw[i8 ct rfl u,h4];rfl
      .cases h4:zY 44 U with
       | none=>exact .inr (by rw[i8 ct rfl u,h4];rfl)
       | some r4=>rw[h4]at h;cases h
      .intro _;exact(a8 ct rfl h3).fr b6 (λb A h=>by omega)
    obtain⟨y,N,Z,e1,e2,e3,e4,e5,e6⟩:=d8.out;have k6:=zh e3;have k7:=zh e4;have k8:=zh e5;have k9:=zh e6;clear d7 e3 e4 e5 e6 F b6 b5 i7 h8;go_wp2;go_roundw;case rel=>exact⟨y,N,Z,X,Y,m,by rw[e1],by omega,e2,k6,k7,k8,k9,i6⟩
    case measure=>simp only[zHn];omega
theorem CAt.inAt {v:az au}{s t:B}{l:a0}{n:Q Ct}(h:CAt w X v (.mk k i l s t e n)):∃ a o,v=#[aj af k,aw i,aw l,aj af s,aj af t,aj af e,ap a n o]/\InAt w X a o n:=by
 generalize y:Ct.mk k i l s t e n=c at h;cases h with
 | mk O U l' V Y Z n' a o u z A F I J N=>
  injection y with e1 e2 e3 e4 e5 e6 e7
  subst e1;subst e2;subst e3;subst e4;subst e5;subst e6;subst e7;exact⟨a,o,rfl,z,A,F,u,I,J,N⟩
structure CtAt (w:al)(b o:C)(k:B)(i l:a0)(s t e:B)(v:au):Prop where
 c0:w ⟨b,o,R⟩=G (aj af k)
 c1:w ⟨b,o+1,R⟩=G (aw i)
 c2:w ⟨b,o+2,R⟩=G (aw l)
 c3:w ⟨b,o+3,R⟩=G (aj af s)
 c4:w ⟨b,o+4,R⟩=G (aj af t)
 c5:w ⟨b,o+5,R⟩=G (aj af e)
 c6:w ⟨b,o+6,R⟩=G v
theorem InAt.at {cs:Q Ct}(h:InAt w X a A cs){s t:B}{l:a0}{n:Q Ct}(y:cs[j]?=G (.mk k i l s t e n)):
  ∃ b u z o,a=G ⟨b,u,R⟩/\b<(w:C)/\X b/\CtAt w b (u+j*7) k i l s t e (ap z n o)/\InAt w X z o n:=by
 cases a with
 | none=>rw[(h.isNil rfl).1]at y;simp at y
 | some F=>
  obtain⟨vs,U,V,Y⟩:=h.el;obtain⟨J,N,O⟩:=U F rfl (λe=>by rw[e]at y;simp at y);obtain⟨z,o,Z,I⟩:=(Y j _ y).inAt;have v:=V F j _ rfl y;rw[Z]at v;obtain⟨b,u,sp⟩:=F;simp only at J N O v;subst J;exact⟨b,u,z,o,rfl,N,O,⟨v 0 (by omega),v 1 (by omega),v 2 (by omega),v 3 (by omega),v 4 (by omega),v 5 (by omega),v 6 (by omega)⟩,I⟩
theorem zH3 {n:Q Ct}{d:Ct}(h:n[j]?=G d):Ct.depths (n.take (j+1))=max (Ct.depths (n.take j)) d.depth:=by
 rw[List.take_add_one,h];exact zEd _ _
theorem zG7 {n:Q Ct}(j:C):Ct.depths (n.take j)<=Ct.counts n:=by
 have o:=zBh (n.take j);have h:=zAi (n.take j) (n.drop j);rw[List.take_append_drop]at h;omega
theorem zL2 (m:C):m<=10000->∀ (k s t e:B) (i l:a0) (n:Q Ct) (a:aq ba) (o:C) (w:al) (X:C->Prop),Ct.counts n<m->InAt w X a o n->
  ay am 281 #[bf #[k,aw i,l,s,t,e,ap a n o]] w λen w2=>en=.returned (aj af ((Ct.mk k i l s t e n).depth:B))/\Fr No w w2:=by
 induction m with
 | zero=>intro _ k s t e i l n a o w X h;omega
 | succ m ih=>
  intro hm k s t e i l n a o w X a7 I;have a8:=zAj n;have V:Fr No w (w.alloc (ax #[k,aw i,l,s,t,e,ap a n o] 218)):=(bc _ _).alloc _;have q1:=zF w (ax #[k,aw i,l,s,t,e,ap a n o] 218);obtain⟨Z,F⟩:=ε (w.alloc (ax #[k,aw i,l,s,t,e,ap a n o] 218))
  rw[<-F]at V q1;have J:=I.fr V (λ_ _=>id);obtain⟨c0,-,-,-,-,-,c6⟩:=cl7 q1;have Ih:=zh (ih (by omega));have H0:=zh V;clear ih I V;go_enter Tryz.func281,Tryz.ntmps281;go_wp2_with fail;rw[<-F];clear F;go_wp2_with fail;go_loopw [3,9] (λv i wr=>∃ (j:C),j<=(n:C)/\v=aj af ((Ct.depths (n.take j):C):B)/\i=aj af (j:B)/\Fr No Z wr) (λ_ i _=>(n:C)-(intOf i).toNat);case atStart=>exact⟨0,by omega,by simp[Ct.depths],rfl,bc _ _⟩
  case round=>
   obtain⟨j,hj,rfl,rfl,u⟩:=hrel;have a2:=zG7 (n:=n) j;by_cases a3:j<(n:C)
   .have N:(j:B)<(n:C):=(by omega);obtain⟨d,Y⟩:∃ d,n[j]?=G d:=⟨_,cf a3⟩
    have a4:=zBM (de Y);have O:=zH3 Y;have a6:=zG7 (n:=n) (j+1);obtain⟨k1,i1,l1,s1,t1,e1,n1⟩:=d;rw[Ct.count]at a4;obtain⟨b,a9,a',z,rfl,hb,hX,⟨y0,y1,y2,y3,y4,y5,y6⟩,A⟩:=(J.fr u (λ_ _=>id)).at Y;have a5:=zh O;clear O Y;go_wp2_with fail;have hx:Fr No wr (wr.alloc (ax #[k1,i1,l1,s1,t1,e1,ap a' n1 z] 218)):=(bc _ _).alloc _;apply (Ih k1 s1 t1 e1 i1 l1 n1 a' z _ X (by omega) (A.fr hx (λ_ _=>id))).mono;rintro e w2 ⟨rfl,U⟩;have y:=zh ((u.step hx zi).step U zi);clear hx U u y0 y1 y2 y3 y4 y5 y6 A;go_wp2;go_roundw;case rel=>exact⟨j+1,by omega,by rw[a5];congr 1;omega,by go_num,y⟩
    case measure=>simp[intOf];omega
   .have N:¬ (j:B)<(n:C):=(by omega);obtain rfl:j=(n:C):=by omega
    rw[List.take_length]at a2 ⊢;have b0:wr ⟨w,0,R⟩=G (aj af k):=u.cell c0 id;have y:=zh (H0.trans u zi zi);clear u;by_cases hk:k=0
    .subst hk;go_wp2;go_ret;exact⟨by rw[Ct.depth,ao rfl];rfl,y⟩
    .go_wp2;go_ret;exact⟨by rw[Ct.depth,ai hk];rfl,y⟩
theorem zPf {u:az au}{c:Ct}(h:CAt w X u c)(v:c.count<=10000):
  ay am 281 #[bf u] w λy z=>y=.returned (aj af (c.depth:B))/\Fr No w z:=by
 obtain⟨k,i,l,s,t,e,n⟩:=c;obtain⟨a,o,rfl,A⟩:=h.inAt;exact zL2 _ v k s t e i l n a o w X (by rw[Ct.count];omega) A
end Go.Proofs.YtjohgekljmhheaaGreatDoor
