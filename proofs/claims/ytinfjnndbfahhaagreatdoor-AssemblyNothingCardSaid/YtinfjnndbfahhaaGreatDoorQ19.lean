import Derived.Test.YtinfjnndbfahhaaGreatDoorQ18
import Derived.Test.YtinfjnndbfahhaaGreatDoorShelf4
import Derived.Lib.AtoiAll
import Derived.Lib.ItoaNum
namespace Go.Proofs.YtinfjnndbfahhaaGreatDoor
open Go.RowKit Go.Maps Go.Sort Go.Shelf Go
set_option linter.unusedVariables false
set_option maxRecDepth 100000
set_option maxHeartbeats 2000000
theorem zG7 (G:List (ByteArray×ByteArray))(p:ByteArray×ByteArray):updQ (seenG G) p (.bool true)=seenG (G++[p]):=by
 funext x
 unfold updQ seenG;rw[List.any_append];by_cases h:x=p
 ·subst h;simp
 ·rw[if_neg h];have:[p].any (fun y=>decide (y=x))=false:=by simp;exact fun e=>h (Eq.symm e)
  rw[this,Bool.or_false]
theorem RS.seen {c:RC}{w w':World}{u:Option Addr}{v:Nat}{y:Option Addr}{z:Nat}{S:List Src}{M:List Vir}{G:List (ByteArray×ByteArray)}(h:RS c w u v y z S M G)(f:Fr (Is c.sm) w w'){p:ByteArray×ByteArray}
  (hQ:QMap w' c.sm (updQ (seenG G) p (.bool true)) (G.length+1)):RS c w' u v y z S M (G++[p]):=by
 have o:∀ g,c.ca=some g->¬ Is c.sm g.block:=fun g e A=>by
  obtain⟨cs,C⟩:=(h.cb g e).2.2 g e;exact h.smo.ne_cells C A
 refine⟨f.heap h.k (fun e=>h.smo.ne_cells h.k e),zG h.so f (fun b q e=>by unfold Is at e;subst e;exact h.smo.ne_own h.so q),zG h.mo f (fun b q e=>by unfold Is at e;subst e;exact h.smo.ne_own h.mo q),h.cs.fr f (fun g e _=>o g e),fun g e=>⟨(h.cb g e).1,(h.cb g e).2.1,(h.cb g e).2.2.fr f o⟩,h.wmo.fr f (fun e=>h.ne e),?_,h.ne,h.lo,Nat.le_trans h.b2l f.size⟩;rw[<-zG7,List.length_append];exact hQ
theorem zKV (c:RC)(sa:Option Addr)(sc:Nat)(ma:Option Addr)(mc:Nat)(S:List Src)(M:List Vir)(G:List (ByteArray×ByteArray))(o q:ByteArray)(w:World)(h:RS c w sa sc ma mc S M G)(hk:o.size<=maxLen)(hi:q.size<=maxLen)(hG:G.length<=100000):
  Calls Tryz.prog 108 #[.pointer (some ⟨c.xb,0,none⟩),.string o,.string q] w fun e w'=>e=.returned (.bool (!(G.any fun x=>decide (x=(o,q)))))/\RS c w' sa sc ma mc S M (G++[(o,q)])/\Fr (Is c.sm) w w':=by
 obtain⟨U,y⟩:∃ U,U=w.alloc (.cells #[.string o,.string q] 132):=⟨_,rfl⟩
 have I:Fr No w U:=by rw[y];exact(Fr.refl _ _).alloc _
 have p1:U.heap[w.heap.size]?=some (.cells #[.string o,.string q] 132):=by rw[y];exact zD _ _
 have J:=h.no I;have Y:=zh I;obtain⟨z,u⟩:∃ z,z=G.any fun x=>decide (x=(o,q)):=⟨_,rfl⟩
 have L:Hid ((seenG G (o,q)).getD (.bool false)=.bool z):=by
  unfold Hid seenG;rw[u];cases hq:G.any fun x=>decide (x=(o,q))<;>simp
 rw[<-u];clear h I u
 go_enter Tryz.func108,Tryz.ntmps108
 go_upto_region 2 with(fail)
 rw[<-y];clear y;refine zQ No [(0,false),(1,false),(2,false),(3,false),(4,false),(5,false),(6,false)] (by kernel_rfl) (by kernel_rfl) (fun V A=>?_);have C:=J.no A;have X:=A.heap p1 id;have d6:∀ g:Gr No V,g.W.cell? ⟨c.xb,7,none⟩=some (.map (some c.sm)):=fun g=>zB (g.fr.heap C.k id) 7
 have Z:∀ g:Gr No V,g.W.cell? ⟨w.heap.size,0,none⟩=some (.string o):=fun g=>zB (g.fr.heap X id) 0
 have g1:∀ g:Gr No V,g.W.cell? ⟨w.heap.size,1,none⟩=some (.string q):=fun g=>zB (g.fr.heap X id) 1
 have N:∀ W,(∃ g:Gr No V,W=g.W)->(Instr.lookup 81 (.map (some c.sm)) (.agg #[.string o,.string q]) false).run Tryz.prog W=.ok (.bool z) W:=fun W hW=>by
  obtain⟨g,rfl⟩:=hW;have:=(C.smo.fr g.fr id).look (zLf g.W) Tryz.underlying81 hk hi;rw[this,L.out]
 apply zS rfl rfl rfl;intro K v;go_big_quiet_op;go_big_quiet_on;apply zS rfl rfl rfl;intro K v;go_big_quiet_op;go_big_quiet_on;apply zS rfl rfl rfl;intro K v;go_big_quiet_op;go_big_quiet_on;apply zS rfl rfl rfl;intro K v;go_big_quiet_op;go_big_quiet_on;apply zS rfl rfl rfl;intro K v;go_big_quiet_op;go_big_quiet_on;apply zS rfl rfl rfl;intro K v;refine zBV rfl _ _ 81 rfl (.map (some c.sm)) (.agg #[.string o,.string q]) _ rfl rfl N ?_
 go_frame
 go_big_quiet_on;apply zS rfl rfl rfl;intro K v;go_big_quiet_op;go_big_quiet_on;refine zY ?_;have a2:=zh (Y.out.step A zi);clear N d6 Z g1 p1 J A
 go_upto_region 3 with(fail)
 refine zQ (Is c.sm) [(0,false),(1,false),(2,false),(3,false),(4,false),(5,true)] (by kernel_rfl) (by kernel_rfl) (fun w6 D=>?_);have f:=C.no D;have O:=D.heap X id;have m6:∀ g:Gr (Is c.sm) w6,g.W.cell? ⟨c.xb,7,none⟩=some (.map (some c.sm)):=fun g=>zB (g.fr.heap f.k (fun h=>f.smo.ne_cells f.k h)) 7
 have Z:∀ g:Gr (Is c.sm) w6,g.W.cell? ⟨w.heap.size,0,none⟩=some (.string o):=fun g=>zB (g.fr.heap O (fun h=>f.smo.ne_cells O h)) 0
 have g1:∀ g:Gr (Is c.sm) w6,g.W.cell? ⟨w.heap.size,1,none⟩=some (.string q):=fun g=>zB (g.fr.heap O (fun h=>f.smo.ne_cells O h)) 1
 apply zS rfl rfl rfl;intro K v;go_big_quiet_op;go_big_quiet_on;apply zS rfl rfl rfl;intro K v;go_big_quiet_op;go_big_quiet_on;apply zS rfl rfl rfl;intro K v;go_big_quiet_op;go_big_quiet_on;apply zS rfl rfl rfl;intro K v;go_big_quiet_op;go_big_quiet_on;apply zS rfl rfl rfl;intro K v;go_big_quiet_op;go_big_quiet_on;clear m6 Z g1;apply zk;exact rfl
 go_wp2_with (at_mapUpdate;refine zCk rfl _ _ _ 81 4 rfl Tryz.underlying81 c.sm _ G.length (by unfold maxLen;omega) o q hk hi (.bool true) rfl f.smo rfl rfl ?_;intro w7 R F)
 refine zf F ?_;refine zY ?_;have HR:=zh (And.intro (f.seen F R) (((a2.out.step D zi).mono zn).step F zi));clear R F f C D X O
 go_wp2_with fail
 go_ret;exact⟨rfl,HR.out.1,HR.out.2⟩
def mdP : ByteArray:=⟨#[47,109,100,45]⟩
def exB (ds:List Dev)(gi:ByteArray):Bool:=(ds.find? (atP ds (mdP++gi))).isSome
theorem zKB (c:RC)(L:Option Addr)(N:Nat)(O:Option Addr)(R:Nat)(S:List Src)(M:List Vir)(G:List (ByteArray×ByteArray))(f:ByteArray)(ds:List Dev)(u:Nat)(w:World)(h:RS c w L N O R S M G)(hi:f.size<=1000000)(F:Tr w u c.a c.cap ds)(z:c.n=ds.length)(U:ds.length<=1000):
  Calls Tryz.prog 107 #[.pointer (some ⟨c.xb,0,none⟩),.string f] w fun e w'=>e=.returned (.bool (exB ds f))/\Fr No w w':=by
 have I:w.cell? ⟨c.xb,2,none⟩=some (.slice c.a c.n c.cap):=zB h.k 2;rw[z]at I;have v:=zD0 c.a c.cap ds u (mdP++f) w F U;have V:((⟨#[47,109,100,45]⟩:ByteArray)++f).size<=9223372036854775807:=by rw[ByteArray.size_append];show 4+f.size<=_;omega
 have X:¬ 9223372036854775807<4+f.size:=by omega
 have Y:4+f.size<=9223372036854775807:=by omega
 have y:Hid (exB ds f=(ds.find? (atP ds (mdP++f))).isSome):=rfl;generalize exB ds f=ex at *;unfold mdP at v;clear h F
 go_enter Tryz.func107,Tryz.ntmps107
 go_wp2_with fail
 refine v.mono ?_;rintro e J ⟨Z,q⟩;clear v I;rcases Z with⟨g,rfl⟩ | ⟨d,A,C,la,g,rfl,-⟩
 ·have D:ex=false:=by rw[y.out];show (ds.find? (atP ds ((⟨#[47,109,100,45]⟩:ByteArray)++f))).isSome=false;rw[g];rfl
  subst D;have o:Fr No w (J.alloc (.cells (Dev.vals Dev.zero) 36)):=q.alloc _;have y:=zh o;clear o g q;unfold Dev.vals Dev.zero at *
  go_wp2_with fail
  go_ret;exact⟨rfl,y.out⟩
 ·have D:ex=true:=by rw[y.out];show (ds.find? (atP ds ((⟨#[47,109,100,45]⟩:ByteArray)++f))).isSome=true;rw[g];rfl
  subst D;have o:Fr No w (J.alloc (.cells (Dev.vals { d with aa:=A,ac:=C }) 36)):=q.alloc _;have y:=zh o;clear o g q;unfold Dev.vals at *
  go_wp2_with fail
  go_ret;exact⟨rfl,y.out⟩
theorem zMO (x y:Src)(w:World):Calls Tryz.prog 118 #[.agg x.vals,.agg y.vals] w fun e w'=>e=.returned (.int .i64 (cmpI x.at_ y.at_))/\∃ q g,w'=Go.Sort.grow (w.drewN q) g:=by
 obtain⟨h,f⟩:∃ h,h=(w.alloc (.cells x.vals 123)).alloc (.cells y.vals 123):=⟨_,rfl⟩
 have o:h.heap[w.heap.size]?=some (.cells x.vals 123):=by rw[f];exact((Fr.refl No _).alloc _).heap (zD _ _) id
 have u:h.heap[w.heap.size+1]?=some (.cells y.vals 123):=by
  rw[f];have:=zD (w.alloc (.cells x.vals 123)) (.cells y.vals 123)
  rwa [World.size_alloc]at this
 have z:=(SrcB0.of o).c0;have A:=(SrcB0.of u).c0;have v:Hid (∃ q g,h=Go.Sort.grow (w.drewN q) g):=⟨0,_,by rw[f,alloc_eq_grow,alloc_eq_grow,grow_grow];rfl⟩
 clear o u;unfold Src.vals at f ⊢
 go_enter Tryz.func118,Tryz.ntmps118
 go_upto_region 1 with(fail)
 rw[<-f];clear f
 go_wp2_with fail
 refine(zIl x.at_ y.at_ h).mono ?_;rintro e C ⟨rfl,rfl⟩
 go_wp2_with fail
 go_ret;exact⟨rfl,v.out⟩
instance : Inhabited Src:=⟨⟨0,Dev.zero,⟨#[]⟩,0⟩⟩
def encS (s:Src):List Value:=s.vals.toList
theorem ltS (x y:Src):ltOf (fun x y:Src=>cmpI x.at_ y.at_) x y=decide (x.at_<y.at_):=by
 unfold ltOf cmpI;by_cases f:x.at_<y.at_
 ·simp[f]
 ·by_cases g:y.at_<x.at_<;>simp[f,g]
theorem swoS : SWO (ltOf fun x y:Src=>cmpI x.at_ y.at_) where
 irrefl x:=by rw[ltS];simp
 trans x y z h1 h2:=by rw[ltS]at *;simp at *;omega
 ntrans x y z h1 h2:=by rw[ltS]at *;simp at *;omega
theorem layS (g h f:Nat)(w:World):CmpLays Tryz.prog 118 #[] encS 13 (fun x y:Src=>cmpI x.at_ y.at_) g h f w:=
 fun _ _ _ _ x y=>zMO x y _
theorem isAggS (w:World):(isAgg 123).run Tryz.prog w=.ok true w:=by kernel_rfl
theorem sizeS (w:World):(Go.sizeOf 123).run Tryz.prog w=.ok 13 w:=by kernel_rfl
theorem egS (args:Array Value)(w:World):(callFunc 118 args).run Tryz.prog w=.ok (.enter 118 args) w:=enters_of Tryz.func118 (by kernel_rfl) rfl _ _
theorem zKr (g f:Nat)(d:Array Src)(w:World)(o:HoldsK encS 13 w g 0 d)(q:g<w.heap.size)(u:d.size<4611686018427387904):
  Calls Tryz.prog 117 #[.slice (some ⟨g,0,none⟩) d.size f,.func (.func 118) #[] #[]] w fun e w'=>e=.returned (.tuple #[])/\∃ h n z,PermIn 0 d.size d h/\SortedIn (ltOf fun x y:Src=>cmpI x.at_ y.at_) 0 d.size h/\w'=sortWorldK encS 13 w g 0 n h z:=
 AnyQ.slices_SortFunc Tryz.sortQ 13 isAggS sizeS encS (fun _=>rfl) (fun x v A=>zBt x v A) (fun x y:Src=>cmpI x.at_ y.at_) swoS 118 #[] g 0 f d w egS (layS g 0 d.size w) o q u
theorem flatS (L:List Src):(flatK encS 13 L.toArray).toList=sflat L:=by
 apply List.ext_getElem?;intro t;by_cases f:t<L.length*13
 ·have g:t / 13<L.length:=by omega
  have h:=zD7 L (t / 13) L[t / 13] (List.getElem?_eq_getElem g) (t % 13) (by omega);rw[show t / 13*13+t % 13=t from by omega]at h;rw[h,Array.getElem?_toList,Array.getElem?_eq_getElem (by simpa using f),<-getElem!_pos _ t (by simpa using f),get_flatK encS 13 L.toArray t (by simpa using f)];have o:L.toArray[t / 13]! = L[t / 13]:=by rw[getElem!_pos _ _ (by simpa using g)];simp
  rw[o];have q:t % 13<(L[t / 13]).vals.size:=by show t % 13<13;omega
  rw[Array.getElem?_eq_getElem q,getElem!_pos _ _ (by show t % 13<13;omega)];rfl
 ·rw[List.getElem?_eq_none (by simpa using Nat.le_of_not_lt f),List.getElem?_eq_none (by rw[zEt];omega)]
theorem zJJ (a:Option Addr)(c v:Nat)(S:List Src)(w:World)(D:w.ownsRow v 123 13 (.slice a S.length c) S.length (sflat S))(O:S≠[])(hS:S.length<=1000):
  Calls Tryz.prog 117 #[.slice a S.length c,.func (.func 118) #[] #[]] w fun e w'=>e=.returned (.tuple #[])/\
   (∃ F:List Src,F.Perm S/\F.Pairwise (fun x y=>x.at_<=y.at_)/\w'.ownsRow v 123 13 (.slice a F.length c) F.length (sflat F))/\Fr (fun b=>(Value.slice a S.length c).ownBlock=some b) w w':=by
 obtain⟨h0,⟨hv,R⟩ | ⟨g,a4,z,hv,hg,I,h1,R,h3,h4⟩⟩:=D
 ·exact absurd (List.eq_nil_of_length_eq_zero R) O
 ·injection hv with e1 e2 e3
  subst e1;subst e3;have J:∀ j u,(sflat S)[j]?=some u->z[j]?=some u:=fun j u U=>by
   rw[<-h4]at U;rw[<-Array.getElem?_toList];have A:j<S.length*13:=by
    have:=(List.getElem?_eq_some_iff.1 U).1;rw[List.length_take]at this;omega
   rwa [List.getElem?_take_of_lt A]at U
  have hH:HoldsK encS 13 w g 0 S.toArray:=by
   unfold HoldsK Holds;intro j A;refine⟨?_,zE I _⟩;rw[zB I,Nat.zero_add];refine J j _ ?_;rw[<-flatS,Array.getElem?_toList,Array.getElem?_eq_getElem A,getElem!_pos (flatK encS 13 S.toArray) j A];rfl
  have o:S.toArray.size=S.length:=by simp
  have hs:=zKr g c S.toArray w hH (zC I) (by rw[o];omega);rw[o]at hs;refine hs.mono ?_;rintro e w' ⟨rfl,f,n,V,hp,X,rfl⟩;obtain⟨q,-,L⟩:=hp;rw[o]at q;have ex:∀ d:Array Src,d.size=S.length->(d.extract 0 S.length)=d:=fun d hd=>by rw[<-hd];simp
  rw[ex f q,ex S.toArray o]at L;have C:f.toList.length=S.length:=by simpa using q
  have N:(sortWorldK encS 13 w g 0 n f V).heap[g]?=some (.cells (putCells id 0 (flatK encS 13 f) z) 123 (0,0)):=by
   unfold sortWorldK;have Y:g<(putRowK encS 13 (Go.Sort.ahead w n) g 0 f).heap.size:=by
    have:=zC I
    simpa [putRowK,Go.Sort.putRow,Go.Sort.mapBlock,Go.Sort.ahead]using this
   rw[Go.Sort.heap_grow_old _ _ Y];unfold putRowK Go.Sort.putRow Go.Sort.mapBlock;rw[Array.getElem?_modify,if_pos rfl];show (w.heap[g]?).map _=_
   rw[I];rfl
  have a5:(flatK encS 13 f).size=S.length*13:=by rw[size_flatK,q]
  refine⟨rfl,⟨f.toList,by simpa using L,?_,?_⟩,?_⟩
  ·rw[List.pairwise_iff_getElem];intro i j hi A Z;have:=X i j (Nat.zero_le _) Z (by rw[C]at A;omega);rw[ltS]at this;have a2:i<f.size:=by simpa using hi
   have a3:j<f.size:=by simpa using A
   rw[getElem!_pos f i a2,getElem!_pos f j a3]at this;simp at this ⊢;exact this
  ·rw[C];refine⟨by rw[zEt,C],.inr ⟨g,c,_,rfl,hg,N,h1,R,by simp[putCells,h3],?_⟩⟩;have ed:f=f.toList.toArray:=by simp
   rw[<-flatS,<-ed];apply List.ext_getElem?;intro t;by_cases ht:t<S.length*13
   ·rw[List.getElem?_take_of_lt ht,Array.getElem?_toList,Array.getElem?_toList];have hc:t<z.size:=by rw[h3];exact Nat.lt_of_lt_of_le ht (Nat.mul_le_mul_right _ h1)
    unfold putCells;rw[Array.getElem?_mapIdx,Array.getElem?_eq_getElem hc,Array.getElem?_eq_getElem (by omega)];simp only[Option.map_some];rw[if_pos ⟨Nat.zero_le _,by omega⟩,Nat.sub_zero,getElem!_pos (flatK encS 13 f) t (by omega)];rfl
   ·rw[List.getElem?_eq_none (by rw[List.length_take];omega),List.getElem?_eq_none (by simp only[Array.length_toList];omega)]
  ·have f1:Fr (Is g) w (putRowK encS 13 (Go.Sort.ahead w n) g 0 f):=⟨rfl,rfl,rfl,by simp[putRowK,Go.Sort.putRow,Go.Sort.mapBlock,Go.Sort.ahead],fun k _ hk=>by
    unfold putRowK Go.Sort.putRow Go.Sort.mapBlock;simp only[Array.getElem?_modify];rw[if_neg (fun e=>hk e.symm)];rfl⟩
   have f2:Fr (Is g) w (sortWorldK encS 13 w g 0 n f V):=f1.step (T:=No) ⟨rfl,rfl,rfl,by simp[sortWorldK,Go.Sort.grow],fun k hk _=>Go.Sort.heap_grow_old _ V hk⟩ zn;exact f2.mono (fun b _ h=>by unfold Is at h;subst h;rfl)
inductive Ct where
 | mk (kind:Int) (id label:ByteArray) (slot total least:Int) (inner:List Ct)
namespace Ct
def kind : Ct->Int | .mk k _ _ _ _ _ _=>k
def id : Ct->ByteArray | .mk _ i _ _ _ _ _=>i
def label : Ct->ByteArray | .mk _ _ l _ _ _ _=>l
def slot : Ct->Int | .mk _ _ _ s _ _ _=>s
def total : Ct->Int | .mk _ _ _ _ t _ _=>t
def least : Ct->Int | .mk _ _ _ _ _ e _=>e
def inner : Ct->List Ct | .mk _ _ _ _ _ _ n=>n
def zero : Ct:=.mk 0 ⟨#[]⟩ ⟨#[]⟩ 0 0 0 []
end Ct
def commas : List (List UInt8)->List UInt8
 | []=>[]
 | [x]=>x
 | x::y::t=>x++44::commas (y::t)
abbrev bl (s:ByteArray):List UInt8:=s.data.toList
def zBb (k:Int)(i l:ByteArray)(s t e:Int):List UInt8:=
 if k=1 then [102,115,58]++bl i++[58]++bl l
 else if k=2 then [114,97,105,100,58]++bl i++[58]++Lib.itoa s++[47]++Lib.itoa t++[47]++Lib.itoa e
 else if k=3 then [99,114,121,112,116,58]++bl i
 else if k=4 then [112,118,58]++bl i++[58]++Lib.itoa s++[47]++Lib.itoa t
 else if k=5 then [116,97,98,108,101,58]++bl i
 else []
def hasIn (k:Int):Bool:=decide (k=2)||decide (k=3)||decide (k=4)||decide (k=5)
mutual
def Ct.text : Ct->List UInt8
 | .mk k i l s t e n=>zBb k i l s t e++if hasIn k=true then 40::commas (Ct.texts n)++[41]else []
def Ct.texts : List Ct->List (List UInt8)
 | []=>[]
 | c::t=>c.text::Ct.texts t
end
theorem zBH : ∀ l:List Ct,Ct.texts l=l.map Ct.text
 | []=>rfl
 | c::t=>by rw[Ct.texts,zBH t];rfl
section
variable (i l:ByteArray)(s t e:Int)(n:List Ct)
theorem zKh : (Ct.mk 0 i l s t e n).text=[]:=by rw[Ct.text];rfl
theorem zHk : (Ct.mk 1 i l s t e n).text=[102,115]++58::(bl i++58::bl l):=by rw[Ct.text];simp[zBb,hasIn]
theorem zG2 : (Ct.mk 2 i l s t e n).text=[114,97,105,100]++58::(bl i++58::(Lib.itoa s++47::(Lib.itoa t++47::(Lib.itoa e++40::(commas (n.map Ct.text)++[41]))))):=by rw[Ct.text,zBH];simp[zBb,hasIn]
theorem zJC : (Ct.mk 3 i l s t e n).text=[99,114,121,112,116]++58::(bl i++40::(commas (n.map Ct.text)++[41])):=by rw[Ct.text,zBH];simp[zBb,hasIn]
theorem zJB : (Ct.mk 4 i l s t e n).text=[112,118]++58::(bl i++58::(Lib.itoa s++47::(Lib.itoa t++40::(commas (n.map Ct.text)++[41])))):=by rw[Ct.text,zBH];simp[zBb,hasIn]
theorem zHj : (Ct.mk 5 i l s t e n).text=[116,97,98,108,101]++58::(bl i++40::(commas (n.map Ct.text)++[41])):=by rw[Ct.text,zBH];simp[zBb,hasIn]
end
def idByte (b:UInt8):Bool:=(decide (65<=b)&&decide (b<=90))||(decide (97<=b)&&decide (b<=122))||(decide (48<=b)&&decide (b<=57))||decide (b=95)||decide (b=46)||decide (b=45)
def isId (s:ByteArray):Bool:=!(bl s).isEmpty&&decide ((bl s).length<=16)&&(bl s).all idByte
def noNum (s t e:Int):Bool:=decide (s=0)&&decide (t=0)&&decide (e=0)
def zAH (s t:Int):Bool:=decide (1<=t)&&decide (t<=16)&&decide (1<=s)&&decide (s<=t)
def someIn (n:List Ct):Bool:=decide (1<=n.length)&&decide (n.length<=16)
def alike : Ct->Bool
 | .mk k i l s t e n=>
  if k=0 then (bl i).isEmpty&&(bl l).isEmpty&&noNum s t e&&n.isEmpty
  else if k=1 then isId i&&((bl l).isEmpty||isId l)&&noNum s t e&&n.isEmpty
  else if k=2 then isId i&&(bl l).isEmpty&&zAH s t&&decide (1<=e)&&decide (e<=t)&&decide (n.length=1)
  else if k=3 then isId i&&(bl l).isEmpty&&noNum s t e&&decide (n.length=1)
  else if k=4 then isId i&&(bl l).isEmpty&&zAH s t&&decide (e=0)&&someIn n
  else if k=5 then isId i&&(bl l).isEmpty&&noNum s t e&&someIn n
  else false
mutual
def Ct.good : Ct->Bool
 | .mk k i l s t e n=>alike (.mk k i l s t e n)&&Ct.goods n
def Ct.goods : List Ct->Bool
 | []=>true
 | c::t=>c.good&&Ct.goods t
end
mutual
def Ct.depth : Ct->Nat
 | .mk k _ _ _ _ _ n=>if k=0 then Ct.depths n else Ct.depths n+1
def Ct.depths : List Ct->Nat
 | []=>0
 | c::t=>max c.depth (Ct.depths t)
end
def Ct.valid (c:Ct):Bool:=decide (c.depth<=6)&&c.good
def upto (ends r:List UInt8):List UInt8:=r.takeWhile fun b=>!ends.contains b
def past (ends r:List UInt8):List UInt8:=r.dropWhile fun b=>!ends.contains b
theorem zAM (ends r:List UInt8):upto ends r++past ends r=r:=List.takeWhile_append_dropWhile
def zU (b:UInt8):List UInt8->Option (List UInt8)
 | []=>none
 | x::t=>if x=b then some t else none
theorem zg {b:UInt8}{r t:List UInt8}(h:zU b r=some t):r=b::t:=by
 cases r with
 | nil=>cases h
 | cons x r=>
  simp only[zU]at h;by_cases e:x=b
  ·rw[if_pos e]at h;injection h with h;rw[e,h]
  ·rw[if_neg e]at h;cases h
def pNum (r:List UInt8):Option (Int×List UInt8):=
 match Lib.atoiAll (upto [47,40,44,41,58] r)with
 | .ok v=>if Lib.itoa v=upto [47,40,44,41,58] r then some (v,past [47,40,44,41,58] r)else none
 | _=>none
theorem zAu {r r':List UInt8}{v:Int}(h:pNum r=some (v,r')):r=Lib.itoa v++r':=by
 unfold pNum at h;split at h
 ·split at h
  ·rename_i e;injection h with h
   injection h with h1 h2
   subst h1;subst h2;rw[e,zAM]
  ·cases h
 ·cases h
mutual
def pC : Nat->List UInt8->Option (Ct×List UInt8)
 | 0,_=>none
 | n+1,r=>
  if upto [58,44,41] r=[]then some (Ct.zero,r)else
  (zU 58 (past [58,44,41] r)).bind fun r2=>
  let id:ByteArray:=⟨(upto [58,40,44,41] r2).toArray⟩
  let r3:=past [58,40,44,41] r2
  if upto [58,44,41] r=[102,115]then
   (zU 58 r3).bind fun r4=>some (.mk 1 id ⟨(upto [44,41] r4).toArray⟩ 0 0 0 [],past [44,41] r4)
  else if upto [58,44,41] r=[114,97,105,100]then
   (zU 58 r3).bind fun r4=>(pNum r4).bind fun p5=>(zU 47 p5.2).bind fun r6=>(pNum r6).bind fun p7=>(zU 47 p7.2).bind fun r8=>(pNum r8).bind fun p9=>
    (zU 40 p9.2).bind fun ra=>(pL n [] ra).bind fun pb=>some (.mk 2 id ⟨#[]⟩ p5.1 p7.1 p9.1 pb.1,pb.2)
  else if upto [58,44,41] r=[99,114,121,112,116]then
   (zU 40 r3).bind fun ra=>(pL n [] ra).bind fun pb=>some (.mk 3 id ⟨#[]⟩ 0 0 0 pb.1,pb.2)
  else if upto [58,44,41] r=[112,118]then
   (zU 58 r3).bind fun r4=>(pNum r4).bind fun p5=>(zU 47 p5.2).bind fun r6=>(pNum r6).bind fun p7=>
    (zU 40 p7.2).bind fun ra=>(pL n [] ra).bind fun pb=>some (.mk 4 id ⟨#[]⟩ p5.1 p7.1 0 pb.1,pb.2)
  else if upto [58,44,41] r=[116,97,98,108,101]then
   (zU 40 r3).bind fun ra=>(pL n [] ra).bind fun pb=>some (.mk 5 id ⟨#[]⟩ 0 0 0 pb.1,pb.2)
  else none
def pL : Nat->List Ct->List UInt8->Option (List Ct×List UInt8)
 | 0,_,_=>none
 | n+1,acc,r=>(pC n r).bind fun p=>
  match zU 41 p.2 with
  | some r2=>some (acc++[p.1],r2)
  | none=>(zU 44 p.2).bind fun r2=>pL n (acc++[p.1]) r2
end
theorem zDJ : ∀ (l:List (List UInt8)) (x:List UInt8),l≠[]->commas (l++[x])=commas l++44::x
 | [],x,h=>absurd rfl h
 | [y],x,_=>rfl
 | y::z::t,x,_=>by
  show commas (y::z::(t++[x]))=_
  have h:=zDJ (z::t) x (by simp);simp only[commas,List.cons_append]at h ⊢;rw[h];simp
theorem zDZ (l:List UInt8):bl (⟨l.toArray⟩:ByteArray)=l:=by simp[bl]
def zBn (acc:List Ct):List UInt8:=if acc=[]then []else commas (acc.map Ct.text)++[44]
theorem zGt (f:List Ct)(c:Ct):zBn f++c.text=commas ((f++[c]).map Ct.text):=by
 unfold zBn;by_cases h:f=[]
 ·subst h;simp[commas]
 ·rw[if_neg h,List.map_append,List.map_cons,List.map_nil,zDJ _ _ (by simpa using h)];simp
theorem zI8 (f:List Ct)(c:Ct):zBn (f++[c])=zBn f++c.text++[44]:=by
 rw[zGt];unfold zBn;rw[if_neg (by simp)]
theorem zH4 : ∀ n:Nat,(∀ r c r',pC n r=some (c,r')->r=c.text++r')/\(∀ y r l r',pL n y r=some (l,r')->zBn y++r=commas (l.map Ct.text)++41::r')
 | 0=>⟨fun r c r' h=>by simp[pC]at h,fun y r l r' h=>by simp[pL]at h⟩
 | n+1=>by
  obtain⟨R,N⟩:=zH4 n;have z:∀ u (q:List Ct×List UInt8),pL n [] u=some q->u=commas (q.1.map Ct.text)++41::q.2:=fun u q h=>by
   have:=N [] u q.1 q.2 h
   simpa [zBn]using this
  refine⟨fun r c r' h=>?_,fun y r l r' h=>?_⟩
  ·have C:=zAM [58,44,41] r;rw[pC]at h;by_cases h0:upto [58,44,41] r=[]
   ·rw[if_pos h0]at h;injection h with h
    injection h with h1 h2
    subst h1;subst h2;rw[Ct.zero,zKh];rfl
   rw[if_neg h0]at h;obtain⟨L,D,h⟩:=Option.bind_eq_some_iff.1 h;have e2:=zg D;have f:=zAM [58,40,44,41] L;rw[e2]at C;simp only at h;generalize upto [58,40,44,41] L=di at h f;generalize past [58,40,44,41] L=r3 at h f;generalize upto [58,44,41] r=kd at h C;split at h
   ·rename_i A;obtain⟨O,v,h⟩:=Option.bind_eq_some_iff.1 h;have e4:=zg v;have U:=zAM [44,41] O;generalize upto [44,41] O=lb at h U;generalize past [44,41] O=rs at h U;injection h with h
    injection h with h1 h2
    subst h1;subst h2;rw[zHk,zDZ,zDZ];rw[<-C,A,<-f,e4,<-U];simp
   split at h
   ·rename_i A;obtain⟨O,v,h⟩:=Option.bind_eq_some_iff.1 h;obtain⟨p5,F,h⟩:=Option.bind_eq_some_iff.1 h;obtain⟨r6,I,h⟩:=Option.bind_eq_some_iff.1 h;obtain⟨p7,J,h⟩:=Option.bind_eq_some_iff.1 h;obtain⟨r8,V,h⟩:=Option.bind_eq_some_iff.1 h;obtain⟨p9,X,h⟩:=Option.bind_eq_some_iff.1 h;obtain⟨u,g,h⟩:=Option.bind_eq_some_iff.1 h;obtain⟨q,o,h⟩:=Option.bind_eq_some_iff.1 h;injection h with h
    injection h with h1 h2
    subst h1;subst h2;have Y:=zAu F;have Z:=zAu J;have e9:=zAu X;rw[zG2,zDZ];rw[<-C,A,<-f,zg v,Y,zg I,Z,zg V,e9,zg g,z u q o];simp
   split at h
   ·rename_i A;obtain⟨u,g,h⟩:=Option.bind_eq_some_iff.1 h;obtain⟨q,o,h⟩:=Option.bind_eq_some_iff.1 h;injection h with h
    injection h with h1 h2
    subst h1;subst h2;rw[zJC,zDZ];rw[<-C,A,<-f,zg g,z u q o];simp
   split at h
   ·rename_i A;obtain⟨O,v,h⟩:=Option.bind_eq_some_iff.1 h;obtain⟨p5,F,h⟩:=Option.bind_eq_some_iff.1 h;obtain⟨r6,I,h⟩:=Option.bind_eq_some_iff.1 h;obtain⟨p7,J,h⟩:=Option.bind_eq_some_iff.1 h;obtain⟨u,g,h⟩:=Option.bind_eq_some_iff.1 h;obtain⟨q,o,h⟩:=Option.bind_eq_some_iff.1 h;injection h with h
    injection h with h1 h2
    subst h1;subst h2;have Y:=zAu F;have Z:=zAu J;rw[zJB,zDZ];rw[<-C,A,<-f,zg v,Y,zg I,Z,zg g,z u q o];simp
   split at h
   ·rename_i A;obtain⟨u,g,h⟩:=Option.bind_eq_some_iff.1 h;obtain⟨q,o,h⟩:=Option.bind_eq_some_iff.1 h;injection h with h
    injection h with h1 h2
    subst h1;subst h2;rw[zHj,zDZ];rw[<-C,A,<-f,zg g,z u q o];simp
   ·cases h
  ·rw[pL]at h;obtain⟨p,hp,h⟩:=Option.bind_eq_some_iff.1 h;have e1:=R r p.1 p.2 hp;cases hs:zU 41 p.2 with
   | some L=>
    rw[hs]at h;simp only at h;injection h with h
    injection h with h1 h2
    subst h1;subst h2;rw[<-zGt,e1,zg hs];simp
   | none=>
    rw[hs]at h;simp only at h;obtain⟨L,D,h⟩:=Option.bind_eq_some_iff.1 h;have:=N _ L l r' h;rw[zI8]at this;rw[<-this,e1,zg D];simp
theorem zx {ends:List UInt8}:∀ {w:List UInt8} {b:UInt8} {t:List UInt8},(∀ x∈w,ends.contains x=false)->ends.contains b=true->upto ends (w++b::t)=w/\past ends (w++b::t)=b::t
 | [],b,t,_,f=>by
  simp only[upto,past,List.nil_append,List.takeWhile_cons,List.dropWhile_cons,f];simp
 | x::w,b,t,h,f=>by
  have o:=h x (by simp);have g:=zx (w:=w) (b:=b) (t:=t) (fun y q=>h y (by simp[q])) f;simp only[upto,past,List.cons_append,List.takeWhile_cons,List.dropWhile_cons,o,Bool.not_false,if_true]at g ⊢;rw[g.1,g.2];exact⟨rfl,rfl⟩
theorem zF4 {ends:List UInt8}:∀ {w:List UInt8},(∀ x∈w,ends.contains x=false)->upto ends w=w/\past ends w=[]
 | [],_=>⟨rfl,rfl⟩
 | x::w,g=>by
  have h:=g x (by simp);have f:=zF4 (w:=w) (fun y o=>g y (by simp[o]));simp only[upto,past,List.takeWhile_cons,List.dropWhile_cons,h,Bool.not_false,if_true]at f ⊢;rw[f.1,f.2];exact⟨rfl,rfl⟩
theorem zA6 (b:UInt8)(t:List UInt8):zU b (b::t)=some t:=by simp[zU]
theorem zFC (k:Nat)(f:1<=k)(g:k<=16):Lib.decDigits k=if k<10 then [UInt8.ofNat (48+k)]else [49,UInt8.ofNat (48+k % 10)]:=by
 rw[Lib.decDigits];by_cases h:k<10
 ·rw[dif_pos h,if_pos h]
 ·rw[dif_neg h,if_neg h,Lib.decDigits,dif_pos (by omega)];have:k / 10=1:=by omega
  rw[this];rfl
theorem zCz (v:Int)(y:1<=v)(z:v<=16)(b:UInt8)(t:List UInt8)(g:([47,40,44,41,58]:List UInt8).contains b=true):pNum (Lib.itoa v++b::t)=some (v,b::t):=by
 obtain⟨k,rfl⟩:=Int.eq_ofNat_of_zero_le (show 0<=v by omega);have h:=zFC k (by omega) (by omega);have o:Lib.itoa (k:Int)=Lib.decDigits k:=by unfold Lib.itoa;rw[if_neg (by omega)];simp
 have f:(∀ x∈Lib.itoa (k:Int),([47,40,44,41,58]:List UInt8).contains x=false)/\Lib.atoiAll (Lib.itoa (k:Int))=.ok (k:Int):=by
  rw[o,h];rcases(by omega:k=1\/k=2\/k=3\/k=4\/k=5\/k=6\/k=7\/k=8\/k=9\/k=10\/k=11\/k=12\/k=13\/k=14\/k=15\/k=16)with rfl | rfl | rfl | rfl | rfl | rfl | rfl | rfl | rfl | rfl | rfl | rfl | rfl | rfl | rfl | rfl<;>exact⟨by decide,rfl⟩
 obtain⟨q,u⟩:=zx (t:=t) f.1 g;unfold pNum;rw[q,u,f.2];simp
theorem zIV {s:ByteArray}(h:isId s=true):∀ x∈bl s,x≠58/\x≠40/\x≠44/\x≠41/\x≠47:=by
 unfold isId at h;simp only[Bool.and_eq_true,List.all_eq_true]at h;intro x f;have g:=h.2 x f;refine⟨?_,?_,?_,?_,?_⟩<;>(rintro rfl;revert g;decide)
theorem zCs {s:ByteArray}(h:isId s=true):∀ x∈bl s,([58,40,44,41]:List UInt8).contains x=false:=by
 intro x f;obtain⟨g,o,q,u,v⟩:=zIV h x f;simp[g,o,q,u]
theorem zG5 {s:ByteArray}(h:((bl s).isEmpty||isId s)=true):∀ x∈bl s,([44,41]:List UInt8).contains x=false:=by
 intro x f;rw[Bool.or_eq_true]at h;rcases h with h | h
 ·rw[List.isEmpty_iff]at h;rw[h]at f;simp at f
 ·obtain⟨q,u,g,o,v⟩:=zIV h x f;simp[g,o]
theorem zBC {s:ByteArray}(h:(bl s).isEmpty=true):s=⟨#[]⟩:=by
 rw[List.isEmpty_iff]at h;apply ByteArray.ext;apply Array.ext'
 simpa [bl]using h
theorem zLx (s:ByteArray):(⟨(bl s).toArray⟩:ByteArray)=s:=by simp[bl]
def Stop (r:List UInt8):Prop:=r=[]\/∃ b t,r=b::t/\(b=44\/b=41)
theorem Stop.c {r:List UInt8}(h:Stop r):upto [58,44,41] r=[]/\past [58,44,41] r=r:=by
 rcases h with rfl | ⟨b,t,rfl,h⟩
 ·exact⟨rfl,rfl⟩
 ·have:=zx (ends:=[58,44,41]) (w:=[]) (b:=b) (t:=t) (by simp) (by rcases h with rfl | rfl<;>rfl)
  simpa using this
theorem Stop.l {r:List UInt8}(h:Stop r){w:List UInt8}(f:∀ x∈w,([44,41]:List UInt8).contains x=false):upto [44,41] (w++r)=w/\past [44,41] (w++r)=r:=by
 rcases h with rfl | ⟨b,t,rfl,h⟩
 ·rw[List.append_nil];exact zF4 f
 ·exact zx f (by rcases h with rfl | rfl<;>rfl)
theorem zIX (c:Ct):c.good=(alike c&&Ct.goods c.inner):=by
 obtain⟨k,i,l,s,t,e,n⟩:=c;rw[Ct.good];rfl
theorem zE9 : ∀ l:List Ct,Ct.goods l=l.all Ct.good
 | []=>rfl
 | c::t=>by rw[Ct.goods,zE9 t];rfl
theorem zKL : ∀ n:Nat,(∀ c f,Ct.good c=true->Stop f->(c.text++f).length<n->pC n (c.text++f)=some (c,f))/\
  (∀ D cs f,cs≠[]->Ct.goods cs=true->(commas (cs.map Ct.text)++41::f).length+1<n->pL n D (commas (cs.map Ct.text)++41::f)=some (D++cs,f))
 | 0=>⟨fun c f _ _ h=>by omega,fun D cs f _ _ h=>by omega⟩
 | n+1=>by
  obtain⟨X,Y⟩:=zKL n;refine⟨fun c f U hs v=>?_,fun D cs f q U v=>?_⟩
  ·obtain⟨k,i,l,s,t,e,g⟩:=c;rw[zIX,Bool.and_eq_true]at U;obtain⟨y,hi⟩:=U;have J:∀ o,o=commas (g.map Ct.text)++41::f->g≠[]->o.length+1<n->pL n [] o=some (g,f):=by
    rintro o rfl q L;have:=Y [] g f q hi L
    simpa using this
   simp only[alike,noNum,zAH,someIn]at y;by_cases k0:k=0
   ·subst k0;simp only[if_true,Bool.and_eq_true,decide_eq_true_eq,List.isEmpty_iff]at y;obtain⟨⟨⟨F,C⟩,⟨I,N⟩,O⟩,Z⟩:=y;have e1:=zBC (by rw[List.isEmpty_iff];exact F);have R:=zBC (by rw[List.isEmpty_iff];exact C);subst e1;subst R;subst I;subst N;subst O;subst Z;rw[zKh,List.nil_append,pC];simp[hs.c.1,Ct.zero]
   by_cases k1:k=1
   ·subst k1;simp only[if_true,if_neg (show ¬ (1:Int)=0 by decide),Bool.and_eq_true,decide_eq_true_eq,List.isEmpty_iff]at y;obtain⟨⟨⟨F,C⟩,⟨I,N⟩,O⟩,Z⟩:=y;subst I;subst N;subst O;subst Z;have z:=zx (ends:=[58,44,41]) (w:=[102,115]) (b:=58) (t:=bl i++58::(bl l++f)) (by decide) rfl;have A:=zx (ends:=[58,40,44,41]) (w:=bl i) (b:=58) (t:=bl l++f) (zCs F) rfl;have u3:=hs.l (zG5 C);rw[zHk]at v ⊢;rw[show [102,115]++58::(bl i++58::bl l)++f=[102,115]++58::(bl i++58::(bl l++f)) by simp];rw[pC,z.1,z.2];simp[zA6,A.1,A.2,u3.1,u3.2]
   by_cases k2:k=2
   ·subst k2;simp only[if_true,if_neg (show ¬ (2:Int)=0 by decide),if_neg (show ¬ (2:Int)=1 by decide),Bool.and_eq_true,decide_eq_true_eq]at y;obtain⟨⟨⟨⟨⟨F,C⟩,⟨⟨I,N⟩,O⟩,Z⟩,h7⟩,h8⟩,h9⟩:=y;have R:=zBC C;subst R;have q:g≠[]:=by intro h;subst h;simp at h9
    rw[zG2]at v ⊢;rw[show [114,97,105,100]++58::(bl i++58::(Lib.itoa s++47::(Lib.itoa t++47::(Lib.itoa e++40::(commas (g.map Ct.text)++[41])))))++f=[114,97,105,100]++58::(bl i++58::(Lib.itoa s++47::(Lib.itoa t++47::(Lib.itoa e++40::(commas (g.map Ct.text)++41::f))))) by simp]at v ⊢;generalize V:commas (g.map Ct.text)++41::f=o at *;have z:=zx (ends:=[58,44,41]) (w:=[114,97,105,100]) (b:=58) (t:=bl i++58::(Lib.itoa s++47::(Lib.itoa t++47::(Lib.itoa e++40::o)))) (by decide) rfl;have A:=zx (ends:=[58,40,44,41]) (w:=bl i) (b:=58) (t:=Lib.itoa s++47::(Lib.itoa t++47::(Lib.itoa e++40::o))) (zCs F) rfl;have n1:=zCz s (by omega) (by omega) 47 (Lib.itoa t++47::(Lib.itoa e++40::o)) rfl;have n2:=zCz t (by omega) (by omega) 47 (Lib.itoa e++40::o) rfl;have n3:=zCz e (by omega) (by omega) 40 o rfl;have L:=J o rfl q (by simp at v;omega);rw[pC,z.1,z.2];simp[zA6,A.1,A.2,n1,n2,n3,L]
   by_cases k3:k=3
   ·subst k3;simp only[if_true,if_neg (show ¬ (3:Int)=0 by decide),if_neg (show ¬ (3:Int)=1 by decide),if_neg (show ¬ (3:Int)=2 by decide),Bool.and_eq_true,decide_eq_true_eq]at y;obtain⟨⟨⟨F,C⟩,⟨I,N⟩,O⟩,h9⟩:=y;have R:=zBC C;subst R;subst I;subst N;subst O;have q:g≠[]:=by intro h;subst h;simp at h9
    rw[zJC]at v ⊢;rw[show [99,114,121,112,116]++58::(bl i++40::(commas (g.map Ct.text)++[41]))++f=[99,114,121,112,116]++58::(bl i++40::(commas (g.map Ct.text)++41::f)) by simp]at v ⊢;generalize V:commas (g.map Ct.text)++41::f=o at *;have z:=zx (ends:=[58,44,41]) (w:=[99,114,121,112,116]) (b:=58) (t:=bl i++40::o) (by decide) rfl;have A:=zx (ends:=[58,40,44,41]) (w:=bl i) (b:=40) (t:=o) (zCs F) rfl;have L:=J o rfl q (by simp at v;omega);rw[pC,z.1,z.2];simp[zA6,A.1,A.2,L]
   by_cases k4:k=4
   ·subst k4;simp only[if_true,if_neg (show ¬ (4:Int)=0 by decide),if_neg (show ¬ (4:Int)=1 by decide),if_neg (show ¬ (4:Int)=2 by decide),if_neg (show ¬ (4:Int)=3 by decide),Bool.and_eq_true,decide_eq_true_eq]at y;obtain⟨⟨⟨⟨F,C⟩,⟨⟨I,N⟩,O⟩,Z⟩,h7⟩,h8,h9⟩:=y;have R:=zBC C;subst R;subst h7;have q:g≠[]:=by intro h;subst h;simp at h8
    rw[zJB]at v ⊢;rw[show [112,118]++58::(bl i++58::(Lib.itoa s++47::(Lib.itoa t++40::(commas (g.map Ct.text)++[41]))))++f=[112,118]++58::(bl i++58::(Lib.itoa s++47::(Lib.itoa t++40::(commas (g.map Ct.text)++41::f)))) by simp]at v ⊢;generalize V:commas (g.map Ct.text)++41::f=o at *;have z:=zx (ends:=[58,44,41]) (w:=[112,118]) (b:=58) (t:=bl i++58::(Lib.itoa s++47::(Lib.itoa t++40::o))) (by decide) rfl;have A:=zx (ends:=[58,40,44,41]) (w:=bl i) (b:=58) (t:=Lib.itoa s++47::(Lib.itoa t++40::o)) (zCs F) rfl;have n1:=zCz s (by omega) (by omega) 47 (Lib.itoa t++40::o) rfl;have n2:=zCz t (by omega) (by omega) 40 o rfl;have L:=J o rfl q (by simp at v;omega);rw[pC,z.1,z.2];simp[zA6,A.1,A.2,n1,n2,L]
   by_cases k5:k=5
   ·subst k5;simp only[if_true,if_neg (show ¬ (5:Int)=0 by decide),if_neg (show ¬ (5:Int)=1 by decide),if_neg (show ¬ (5:Int)=2 by decide),if_neg (show ¬ (5:Int)=3 by decide),if_neg (show ¬ (5:Int)=4 by decide),Bool.and_eq_true,decide_eq_true_eq]at y;obtain⟨⟨⟨F,C⟩,⟨I,N⟩,O⟩,h8,h9⟩:=y;have R:=zBC C;subst R;subst I;subst N;subst O;have q:g≠[]:=by intro h;subst h;simp at h8
    rw[zHj]at v ⊢;rw[show [116,97,98,108,101]++58::(bl i++40::(commas (g.map Ct.text)++[41]))++f=[116,97,98,108,101]++58::(bl i++40::(commas (g.map Ct.text)++41::f)) by simp]at v ⊢;generalize V:commas (g.map Ct.text)++41::f=o at *;have z:=zx (ends:=[58,44,41]) (w:=[116,97,98,108,101]) (b:=58) (t:=bl i++40::o) (by decide) rfl;have A:=zx (ends:=[58,40,44,41]) (w:=bl i) (b:=40) (t:=o) (zCs F) rfl;have L:=J o rfl q (by simp at v;omega);rw[pC,z.1,z.2];simp[zA6,A.1,A.2,L]
   simp[k0,k1,k2,k3,k4,k5]at y
  ·cases cs with
   | nil=>exact absurd rfl q
   | cons c t=>
    rw[Ct.goods,Bool.and_eq_true]at U;rw[pL];cases t with
    | nil=>
     simp only[List.map_cons,List.map_nil,commas]at v ⊢;rw[X c (41::f) U.1 (.inr ⟨_,_,rfl,.inr rfl⟩) (by omega)];simp[zA6]
    | cons d u=>
     have e:commas (List.map Ct.text (c::d::u))++41::f=c.text++44::(commas (List.map Ct.text (d::u))++41::f):=by
      simp[commas]
     rw[e]at v ⊢;rw[X c _ U.1 (.inr ⟨_,_,rfl,.inl rfl⟩) (by omega)];have C:zU 41 (44::(commas (List.map Ct.text (d::u))++41::f))=none:=by simp[zU]
     have I:=Y (D++[c]) (d::u) f (by simp) U.2 (by simp at v ⊢;omega);simp only[Option.bind_some,C,zA6,I];simp
def parseC (s:ByteArray):Option Ct:=
 if 256<(bl s).length then none else
 match pC ((bl s).length+1) (bl s)with
 | some (c,[])=>if c.valid=true then some c else none
 | _=>none
theorem zBK (s:ByteArray)(c:Ct):parseC s=some c↔(bl s).length<=256/\c.valid=true/\c.text=bl s:=by
 unfold parseC;constructor
 ·intro h;split at h
  ·cases h
  ·rename_i v;split at h
   ·rename_i c' o;split at h
    ·rename_i q;injection h with h
     subst h;have:=(zH4 _).1 _ _ _ o;exact⟨by omega,q,by rw[this];simp⟩
    ·cases h
   ·cases h
 ·rintro ⟨y,f,g⟩;rw[if_neg (by omega)];have u:c.good=true:=by unfold Ct.valid at f;rw[Bool.and_eq_true]at f;exact f.2
  have:=(zKL ((bl s).length+1)).1 c [] u (.inl rfl) (by simp[g]);rw[List.append_nil,g]at this;rw[this];simp[f]
end Go.Proofs.YtinfjnndbfahhaaGreatDoor
