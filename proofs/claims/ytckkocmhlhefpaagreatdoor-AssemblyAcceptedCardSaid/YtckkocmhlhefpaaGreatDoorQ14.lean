import Derived.Test.YtckkocmhlhefpaaGreatDoorQ13
import Derived.Test.YtckkocmhlhefpaaGreatDoorShelf4
import Derived.Lib.AtoiAll
import Derived.Lib.ItoaNum
namespace Go.Proofs.YtckkocmhlhefpaaGreatDoor
open Go.RowKit Go.Maps Go.Sort Go.Shelf Go
set_option linter.unusedVariables false
set_option maxRecDepth 100000
set_option maxHeartbeats 2000000
open Dev renaming vals->aq,zero->aw
open Go renaming World->ad
open Go.Lib renaming itoa->G,decDigits->ar,atoiAll->b3
open Go.Obj renaming cells->ae
open Go.Proofs renaming sortWorldK->ap
open Go.Proofs.Tryz renaming prog->ag,func120->bd,underlying83->be
open Go.Value renaming string->a9,slice->am
open _root_ renaming List->C,UInt8->Q,Int->B,ByteArray->H,if_neg->q,Nat->P,Option->ab,if_true->ah,getElem!_pos->ai,decide_eq_true_eq->ak,if_pos->al
open _root_.Array renaming getElem?_eq_getElem->an,getElem?_toList->ao,getElem?_modify->b1
open _root_.Bool renaming false->a0,true->a1,and_eq_true->af,not_false->b2
open _root_.List renaming isEmpty_iff->aj,cons_append->au,getElem?_eq_none->av,dropWhile_cons->ax,length_append->ay,map->az,takeWhile_cons->b0,append_nil->b4,ext_getElem?->b5,getElem?_take_of_lt->b6,length->b7,length_take->b8,map_cons->b9,map_nil->ba,nil_append->bb
open _root_.Nat renaming zero_le->bc
open _root_.Option renaming some->E,none->K
open _root_.UInt8 renaming ofNat->bf
variable{b:Q}{r t:C Q}{s:H}
theorem zIr (o:C (H×H))(p:H×H):updQ (seenG o) p (.bool a1)=seenG (o++[p]):=by
 funext x
 unfold updQ seenG;rw[List.any_append];by_cases h:x=p
 .subst h;simp
 .rw[q h];have:[p].any (λy=>decide (y=x))=false:=by simp;exact λe=>h (Eq.symm e)
  rw[this,Bool.or_false]
theorem RS.seen {c:RC}{w w':ad}{z:ab Addr}{A:P}{D:ab Addr}{F:P}{S:C Src}{M:C Vir}{v:C (H×H)}(h:RS c w z A D F S M v)(f:Fr (Is c.sm) w w'){p:H×H}
  (hQ:QMap w' c.sm (updQ (seenG v) p (.bool a1)) (v.length+1)):RS c w' z A D F S M (v++[p]):=by
 have u:∀ o,c.ca=E o->¬ Is c.sm o.block:=λo e I=>by
  obtain⟨cs,J⟩:=(h.cb o e).2.2 o e;exact h.smo.ne_cells J I
 refine⟨f.heap h.k (λe=>h.smo.ne_cells h.k e),zG h.so f (λb y e=>by unfold Is at e;subst e;exact h.smo.ne_own h.so y),zG h.mo f (λb y e=>by unfold Is at e;subst e;exact h.smo.ne_own h.mo y),h.cs.fr f (λo e _=>u o e),λo e=>⟨(h.cb o e).1,(h.cb o e).2.1,(h.cb o e).2.2.fr f u⟩,h.wmo.fr f (λe=>h.ne e),?_,h.ne,h.lo,Nat.le_trans h.b2l f.size⟩;rw[<-zIr,ay];exact hQ
theorem zM4 (c:RC)(sa:ab Addr)(sc:P)(ma:ab Addr)(mc:P)(S:C Src)(M:C Vir)(O:C (H×H))(u v:H)(w:ad)(h:RS c w sa sc ma mc S M O)(hk:u.size<=maxLen)(hi:v.size<=maxLen)(hG:O.length<=100000):
  Calls ag 112 #[.pointer (E ⟨c.xb,0,K⟩),a9 u,a9 v] w λe w'=>e=.returned (.bool (!(O.any λx=>decide (x=(u,v)))))/\RS c w' sa sc ma mc S M (O++[(u,v)])/\Fr (Is c.sm) w w':=by
 obtain⟨W1,U,R,p1⟩:=zy w (ae #[a9 u,a9 v] 99);have V:=h.no R;have a3:=zh R;obtain⟨D,y⟩:∃ D,D=O.any λx=>decide (x=(u,v)):=⟨_,rfl⟩
 have X:Hid ((seenG O (u,v)).getD (.bool a0)=.bool D):=by
  unfold Hid seenG;rw[y];cases hq:O.any λx=>decide (x=(u,v))<;>simp
 rw[<-y];clear h R y
 go_enter Tryz.func112,Tryz.ntmps112
 go_upto_region 2 with(fail)
 rw[<-U];clear U;refine zQ No [(0,a0),(1,a0),(2,a0),(3,a0),(4,a0),(5,a0),(6,a0)] (by kernel_rfl) (by kernel_rfl) (λw0 F=>?_);have I:=V.no F;have p0:=F.heap p1 id;have d6:∀ g:Gr No w0,g.W.cell? ⟨c.xb,7,K⟩=E (.map (E c.sm)):=λg=>zB (g.fr.heap I.k id) 7
 have g0:∀ g:Gr No w0,g.W.cell? ⟨w,0,K⟩=E (a9 u):=λg=>zB (g.fr.heap p0 id) 0
 have g1:∀ g:Gr No w0,g.W.cell? ⟨w,1,K⟩=E (a9 v):=λg=>zB (g.fr.heap p0 id) 1
 have Y:∀ W,(∃ g:Gr No w0,W=g.W)->(Instr.lookup 83 (.map (E c.sm)) (.agg #[a9 u,a9 v]) a0).run ag W=.ok (.bool D) W:=λW hW=>by
  obtain⟨g,rfl⟩:=hW;have:=(I.smo.fr g.fr id).look (zOR g.W) be hk hi;rw[this,X.out]
 apply zT rfl rfl rfl;intro z A;go_big_quiet_op;go_big_quiet_on;apply zT rfl rfl rfl;intro z A;go_big_quiet_op;go_big_quiet_on;apply zT rfl rfl rfl;intro z A;go_big_quiet_op;go_big_quiet_on;apply zT rfl rfl rfl;intro z A;go_big_quiet_op;go_big_quiet_on;apply zT rfl rfl rfl;intro z A;go_big_quiet_op;go_big_quiet_on;apply zT rfl rfl rfl;intro z A;refine zBv rfl _ _ 83 rfl (.map (E c.sm)) (.agg #[a9 u,a9 v]) _ rfl rfl Y ?_
 go_frame
 go_big_quiet_on;apply zT rfl rfl rfl;intro z A;go_big_quiet_op;go_big_quiet_on;refine zb ?_;have a4:=zh (a3.out.step F zi);clear Y d6 g0 g1 p1 V F
 go_upto_region 3 with(fail)
 refine zQ (Is c.sm) [(0,a0),(1,a0),(2,a0),(3,a0),(4,a0),(5,a1)] (by kernel_rfl) (by kernel_rfl) (λw6 J=>?_);have o:=I.no J;have Z:=J.heap p0 id;have m6:∀ g:Gr (Is c.sm) w6,g.W.cell? ⟨c.xb,7,K⟩=E (.map (E c.sm)):=λg=>zB (g.fr.heap o.k (λh=>o.smo.ne_cells o.k h)) 7
 have g0:∀ g:Gr (Is c.sm) w6,g.W.cell? ⟨w,0,K⟩=E (a9 u):=λg=>zB (g.fr.heap Z (λh=>o.smo.ne_cells Z h)) 0
 have g1:∀ g:Gr (Is c.sm) w6,g.W.cell? ⟨w,1,K⟩=E (a9 v):=λg=>zB (g.fr.heap Z (λh=>o.smo.ne_cells Z h)) 1
 apply zT rfl rfl rfl;intro z A;go_big_quiet_op;go_big_quiet_on;apply zT rfl rfl rfl;intro z A;go_big_quiet_op;go_big_quiet_on;apply zT rfl rfl rfl;intro z A;go_big_quiet_op;go_big_quiet_on;apply zT rfl rfl rfl;intro z A;go_big_quiet_op;go_big_quiet_on;apply zT rfl rfl rfl;intro z A;go_big_quiet_op;go_big_quiet_on;clear m6 g0 g1;apply zt;exact rfl
 go_wp2_with (at_mapUpdate;refine zDX rfl _ _ _ 83 4 rfl be c.sm _ O.length (by unfold maxLen;omega) u v hk hi (.bool a1) rfl o.smo rfl rfl ?_;intro w7 a2 N)
 refine zf N ?_;refine zb ?_;have HR:=zg2 (o.seen N a2) (((a4.out.step J zi).mono zn).step N zi);clear a2 N o I J p0 Z
 go_wp2_with fail
 go_ret;exact⟨rfl,HR.out.1,HR.out.2⟩
def mdP : H:=⟨#[47,109,100,45]⟩
def exB (ds:C Dev)(gi:H):Bool:=(ds.find? (atP ds (mdP++gi))).isSome
theorem zMd (c:RC)(V:ab Addr)(X:P)(Y:ab Addr)(Z:P)(S:C Src)(M:C Vir)(a2:C (H×H))(o:H)(ds:C Dev)(z:P)(w:ad)(h:RS c w V X Y Z S M a2)(hi:o.size<=1000000)(O:Tr w z c.a c.cap ds)(F:c.n=ds.length)(hn:ds.length<=1000):
  Calls ag 111 #[.pointer (E ⟨c.xb,0,K⟩),a9 o] w λe w'=>e=.returned (.bool (exB ds o))/\Fr No w w':=by
 have R:w.cell? ⟨c.xb,2,K⟩=E (am c.a c.n c.cap):=zB h.k 2;rw[F]at R;have A:=zDd c.a c.cap ds z (mdP++o) w O hn;have a3:((⟨#[47,109,100,45]⟩:H)++o).size<=9223372036854775807:=by rw[ByteArray.size_append];show 4+o.size<=_;omega
 have a4:¬ 9223372036854775807<4+o.size:=by omega
 have a5:4+o.size<=9223372036854775807:=by omega
 have D:Hid (exB ds o=(ds.find? (atP ds (mdP++o))).isSome):=rfl;generalize exB ds o=ex at *;unfold mdP at A;clear h O
 go_enter Tryz.func111,Tryz.ntmps111
 go_wp2_with fail
 refine A.mono ?_;rintro e U ⟨hF,y⟩;clear A R;rcases hF with⟨u,rfl⟩|⟨d,I,J,la,u,rfl,-⟩
 .have N:ex=false:=by rw[D.out];show (ds.find? (atP ds ((⟨#[47,109,100,45]⟩:H)++o))).isSome=a0;rw[u];rfl
  subst N;have v:Fr No w (U.alloc (ae (aq aw) 36)):=y.alloc _;have D:=zh v;clear v u y;unfold aq aw at *
  go_wp2_with fail
  go_ret;exact⟨rfl,D.out⟩
 .have N:ex=true:=by rw[D.out];show (ds.find? (atP ds ((⟨#[47,109,100,45]⟩:H)++o))).isSome=a1;rw[u];rfl
  subst N;have v:Fr No w (U.alloc (ae (aq { d with aa:=I,ac:=J }) 36)):=y.alloc _;have D:=zh v;clear v u y;unfold aq at *
  go_wp2_with fail
  go_ret;exact⟨rfl,D.out⟩
theorem zPH (x y:Src)(w:ad):Calls ag 120 #[.agg x.vals,.agg y.vals] w λe w'=>e=.returned (.int .i64 (cmpI x.at_ y.at_))/\∃ v o,w'=Go.Sort.grow (w.drewN v) o:=by
 obtain⟨u,h⟩:∃ u,u=(w.alloc (ae x.vals 134)).alloc (ae y.vals 134):=⟨_,rfl⟩
 have z:u.heap[(w:P)]?=E (ae x.vals 134):=by rw[h];exact((Fr.refl No _).alloc _).heap (zF _ _) id
 have A:u.heap[(w:P)+1]?=E (ae y.vals 134):=by
  rw[h];have:=zF (w.alloc (ae x.vals 134)) (ae y.vals 134)
  rwa [World.size_alloc]at this
 have c1:=(SrcB0.of z).c0;have F:=(SrcB0.of A).c0;have D:Hid (∃ v o,u=Go.Sort.grow (w.drewN v) o):=⟨0,_,by rw[h,alloc_eq_grow,alloc_eq_grow,grow_grow];rfl⟩
 clear z A;unfold Src.vals at h ⊢
 go_enter bd,Tryz.ntmps120
 go_upto_region 1 with(fail)
 rw[<-h];clear h
 go_wp2_with fail
 refine(zKu x.at_ y.at_ u).mono ?_;rintro e I ⟨rfl,rfl⟩
 go_wp2_with fail
 go_ret;exact⟨rfl,D.out⟩
instance : Inhabited Src:=⟨⟨0,aw,⟨#[]⟩,0⟩⟩
def encS (s:Src):C Value:=s.vals.toList
theorem ltS (x y:Src):ltOf (λx y:Src=>cmpI x.at_ y.at_) x y=decide (x.at_<y.at_):=by
 unfold ltOf cmpI;by_cases h:x.at_<y.at_
 .simp[h]
 .by_cases o:y.at_<x.at_<;>simp[h,o]
theorem swoS: SWO (ltOf λx y:Src=>cmpI x.at_ y.at_) where
 irrefl x:=by rw[ltS];simp
 trans x y z h1 h2:=by rw[ltS]at *;simp at *;omega
 ntrans x y z h1 h2:=by rw[ltS]at *;simp at *;omega
theorem layS (o u h:P)(w:ad):CmpLays ag 120 #[] encS 13 (λx y:Src=>cmpI x.at_ y.at_) o u h w:=
 λ_ _ _ _ x y=>zPH x y _
theorem isAggS (w:ad):(isAgg 134).run ag w=.ok a1 w:=by kernel_rfl
theorem sizeS (w:ad):(Go.sizeOf 134).run ag w=.ok 13 w:=by kernel_rfl
theorem egS (args:Array Value)(w:ad):(callFunc 120 args).run ag w=.ok (.enter 120 args) w:=enters_of bd (by kernel_rfl) rfl _ _
theorem zNU (g h:P)(d:Array Src)(w:ad)(u:HoldsK encS 13 w g 0 d)(z:g<(w:P))(A:d.size<4611686018427387904):
  Calls ag 119 #[am (E ⟨g,0,K⟩) d.size h,.func (.func 120) #[] #[]] w λe w'=>e=.returned (.tuple #[])/\∃ o n os,PermIn 0 d.size d o/\SortedIn (ltOf λx y:Src=>cmpI x.at_ y.at_) 0 d.size o/\w'=ap encS 13 w g 0 n o os:=
 AnyQ.slices_SortFunc Tryz.sortQ 13 isAggS sizeS encS (λ_=>rfl) (λx v D=>zCP x v D) (λx y:Src=>cmpI x.at_ y.at_) swoS 120 #[] g 0 h d w egS (layS g 0 d.size w) u z A
theorem flatS (L:C Src):(flatK encS 13 L.toArray).toList=sflat L:=by
 apply b5;intro t;by_cases h:t<L.length*13
 .have o:t / 13<L.length:=by omega
  have u:=zFE L (t / 13) L[t / 13] (List.getElem?_eq_getElem o) (t % 13) (by omega);rw[show t / 13*13+t % 13=t from by omega]at u;rw[u,ao,an (by simpa using h),<-ai _ t (by simpa using h),get_flatK encS 13 L.toArray t (by simpa using h)];have v:L.toArray[t / 13]! = L[t / 13]:=by rw[ai _ _ (by simpa using o)];simp
  rw[v];have y:t % 13<(L[t / 13]).vals.size:=by show t % 13<13;omega
  rw[an y,ai _ _ (by show t % 13<13;omega)];rfl
 .rw[av (by simpa using Nat.le_of_not_lt h),av (by rw[zGA];omega)]
theorem zLc (a:ab Addr)(c A:P)(S:C Src)(w:ad)(J:w.ownsRow A 134 13 (am a S.length c) S.length (sflat S))(X:S≠[])(hS:S.length<=1000):
  Calls ag 119 #[am a S.length c,.func (.func 120) #[] #[]] w λe w'=>e=.returned (.tuple #[])/\
   (∃ N:C Src,N.Perm S/\N.Pairwise (λx y=>x.at_<=y.at_)/\w'.ownsRow A 134 13 (am a N.length c) N.length (sflat N))/\Fr (λb=>(Value.slice a S.length c).ownBlock=E b) w w':=by
 obtain⟨h0,⟨hv,Y⟩|⟨g,a7,D,hv,hg,O,h1,Y,h3,h4⟩⟩:=J
 .exact absurd (List.eq_nil_of_length_eq_zero Y) X
 .injection hv with e1 e2 e3
  subst e1;subst e3;have R:∀ j u,(sflat S)[j]?=E u->D[j]?=E u:=λj u Z=>by
   rw[<-h4]at Z;rw[<-ao];have F:j<S.length*13:=by
    have:=(List.getElem?_eq_some_iff.1 Z).1;rw[b8]at this;omega
   rwa [b6 F]at Z
  have hH:HoldsK encS 13 w g 0 S.toArray:=by
   unfold HoldsK Holds;intro j F;refine⟨?_,zD O _⟩;rw[zB O,Nat.zero_add];refine R j _ ?_;rw[<-flatS,ao,an F,ai (flatK encS 13 S.toArray) j F];rfl
  have v:S.toArray.size=S.length:=by simp
  have hs:=zNU g c S.toArray w hH (zC O) (by rw[v];omega);rw[v]at hs;refine hs.mono ?_;rintro e w' ⟨rfl,o,n,os,hp,a2,rfl⟩;obtain⟨z,-,U⟩:=hp;rw[v]at z;have ex:∀ d:Array Src,d.size=S.length->(d.extract 0 S.length)=d:=λd hd=>by rw[<-hd];simp
  rw[ex o z,ex S.toArray v]at U;have I:o.toList.length=S.length:=by simpa using z
  have V:(ap encS 13 w g 0 n o os).heap[g]?=E (ae (putCells id 0 (flatK encS 13 o) D) 134 (0,0)):=by
   unfold ap;have a3:g<(putRowK encS 13 (Go.Sort.ahead w n) g 0 o).heap.size:=by
    have:=zC O
    simpa [putRowK,Go.Sort.putRow,Go.Sort.mapBlock,Go.Sort.ahead]using this
   rw[Go.Sort.heap_grow_old _ _ a3];unfold putRowK Go.Sort.putRow Go.Sort.mapBlock;rw[b1,al rfl];show (w.heap[g]?).map _=_
   rw[O];rfl
  have a8:(flatK encS 13 o).size=S.length*13:=by rw[size_flatK,z]
  refine⟨rfl,⟨o.toList,by simpa using U,?_,?_⟩,?_⟩
  .rw[List.pairwise_iff_getElem];intro i j hi F a4;have:=a2 i j (bc _) a4 (by rw[I]at F;omega);rw[ltS]at this;have a5:i<o.size:=by simpa using hi
   have a6:j<o.size:=by simpa using F
   rw[ai o i a5,ai o j a6]at this;simp at this ⊢;exact this
  .rw[I];refine⟨by rw[zGA,I],.inr ⟨g,c,_,rfl,hg,V,h1,Y,by simp[putCells,h3],?_⟩⟩;have ed:o=o.toList.toArray:=by simp
   rw[<-flatS,<-ed];apply b5;intro t;by_cases ht:t<S.length*13
   .rw[b6 ht,ao,ao];have hc:t<D.size:=by rw[h3];exact Nat.lt_of_lt_of_le ht (Nat.mul_le_mul_right _ h1)
    unfold putCells;rw[Array.getElem?_mapIdx,an hc,an (by omega)];simp only[Option.map_some];rw[al ⟨bc _,by omega⟩,Nat.sub_zero,ai (flatK encS 13 o) t (by omega)];rfl
   .rw[av (by rw[b8];omega),av (by simp only[Array.length_toList];omega)]
  .have f1:Fr (Is g) w (putRowK encS 13 (Go.Sort.ahead w n) g 0 o):=⟨rfl,rfl,rfl,by simp[putRowK,Go.Sort.putRow,Go.Sort.mapBlock,Go.Sort.ahead],λk _ hk=>by
    unfold putRowK Go.Sort.putRow Go.Sort.mapBlock;simp only[b1];rw[q (λe=>hk e.symm)];rfl⟩
   have f2:Fr (Is g) w (ap encS 13 w g 0 n o os):=f1.step (T:=No) ⟨rfl,rfl,rfl,by simp[ap,Go.Sort.grow],λk hk _=>Go.Sort.heap_grow_old _ os hk⟩ zn;exact f2.mono (λb _ h=>by unfold Is at h;subst h;rfl)
inductive Ct where
 | mk (kind:B) (id label:H) (slot total least:B) (inner:C Ct)
namespace Ct
def kind : Ct->B | .mk k _ _ _ _ _ _=>k
def id : Ct->H | .mk _ i _ _ _ _ _=>i
def label : Ct->H | .mk _ _ l _ _ _ _=>l
def slot : Ct->B | .mk _ _ _ s _ _ _=>s
def total : Ct->B | .mk _ _ _ _ t _ _=>t
def least : Ct->B | .mk _ _ _ _ _ e _=>e
def inner : Ct->C Ct | .mk _ _ _ _ _ _ n=>n
def zero : Ct:=.mk 0 ⟨#[]⟩ ⟨#[]⟩ 0 0 0 []
end Ct
def commas : C (C Q)->C Q
 | []=>[]
 | [x]=>x
 | x::y::t=>x++44::commas (y::t)
abbrev bl (s:H):C UInt8:=s.data.toList
def zB4 (k:B)(i l:H)(s t e:B):C UInt8:=
 if k=1 then [102,115,58]++bl i++[58]++bl l
 else if k=2 then [114,97,105,100,58]++bl i++[58]++G s++[47]++G t++[47]++G e
 else if k=3 then [99,114,121,112,116,58]++bl i
 else if k=4 then [112,118,58]++bl i++[58]++G s++[47]++G t
 else if k=5 then [116,97,98,108,101,58]++bl i
 else []
def hasIn (k:B):Bool:=decide (k=2)||decide (k=3)||decide (k=4)||decide (k=5)
mutual
def Ct.text : Ct->C Q
 | .mk k i l s t e n=>zB4 k i l s t e++if hasIn k=a1 then 40::commas (Ct.texts n)++[41]else []
def Ct.texts : C Ct->C (C Q)
 | []=>[]
 | c::t=>c.text::Ct.texts t
end
theorem zBe : ∀ l:C Ct,Ct.texts l=l.map Ct.text
 | []=>rfl
 | c::t=>by rw[Ct.texts,zBe t];rfl
section
variable (i l:H)(s t e:B)(n:C Ct)
theorem zNJ: (Ct.mk 0 i l s t e n).text=[]:=by rw[Ct.text];rfl
theorem zJb: (Ct.mk 1 i l s t e n).text=[102,115]++58::(bl i++58::bl l):=by rw[Ct.text];simp[zB4,hasIn]
theorem zIm: (Ct.mk 2 i l s t e n).text=[114,97,105,100]++58::(bl i++58::(G s++47::(G t++47::(G e++40::(commas (n.map Ct.text)++[41]))))):=by rw[Ct.text,zBe];simp[zB4,hasIn]
theorem zLS: (Ct.mk 3 i l s t e n).text=[99,114,121,112,116]++58::(bl i++40::(commas (n.map Ct.text)++[41])):=by rw[Ct.text,zBe];simp[zB4,hasIn]
theorem zLR: (Ct.mk 4 i l s t e n).text=[112,118]++58::(bl i++58::(G s++47::(G t++40::(commas (n.map Ct.text)++[41])))):=by rw[Ct.text,zBe];simp[zB4,hasIn]
theorem zJa: (Ct.mk 5 i l s t e n).text=[116,97,98,108,101]++58::(bl i++40::(commas (n.map Ct.text)++[41])):=by rw[Ct.text,zBe];simp[zB4,hasIn]
end
def idByte (b:Q):Bool:=(decide (65<=b)&&decide (b<=90))||(decide (97<=b)&&decide (b<=122))||(decide (48<=b)&&decide (b<=57))||decide (b=95)||decide (b=46)||decide (b=45)
def isId (s:H):Bool:=!(bl s).isEmpty&&decide ((bl s).length<=16)&&(bl s).all idByte
def noNum (s t e:B):Bool:=decide (s=0)&&decide (t=0)&&decide (e=0)
def zAP (s t:B):Bool:=decide (1<=t)&&decide (t<=16)&&decide (1<=s)&&decide (s<=t)
def someIn (n:C Ct):Bool:=decide (1<=n.length)&&decide (n.length<=16)
def alike : Ct->Bool
 | .mk k i l s t e n=>
  if k=0 then (bl i).isEmpty&&(bl l).isEmpty&&noNum s t e&&n.isEmpty
  else if k=1 then isId i&&((bl l).isEmpty||isId l)&&noNum s t e&&n.isEmpty
  else if k=2 then isId i&&(bl l).isEmpty&&zAP s t&&decide (1<=e)&&decide (e<=t)&&decide (n.length=1)
  else if k=3 then isId i&&(bl l).isEmpty&&noNum s t e&&decide (n.length=1)
  else if k=4 then isId i&&(bl l).isEmpty&&zAP s t&&decide (e=0)&&someIn n
  else if k=5 then isId i&&(bl l).isEmpty&&noNum s t e&&someIn n
  else a0
mutual
def Ct.good : Ct->Bool
 | .mk k i l s t e n=>alike (.mk k i l s t e n)&&Ct.goods n
def Ct.goods : C Ct->Bool
 | []=>a1
 | c::t=>c.good&&Ct.goods t
end
mutual
def Ct.depth : Ct->P
 | .mk k _ _ _ _ _ n=>if k=0 then Ct.depths n else Ct.depths n+1
def Ct.depths : C Ct->P
 | []=>0
 | c::t=>max c.depth (Ct.depths t)
end
def Ct.valid (c:Ct):Bool:=decide (c.depth<=6)&&c.good
def upto (ends r:C Q):C UInt8:=r.takeWhile λb=>!ends.contains b
def past (ends r:C Q):C UInt8:=r.dropWhile λb=>!ends.contains b
theorem zAU (ends r:C Q):upto ends r++past ends r=r:=List.takeWhile_append_dropWhile
def zW (b:Q):C Q->ab (C Q)
 | []=>K
 | x::t=>if x=b then E t else K
theorem zl (h:zW b r=E t):r=b::t:=by
 cases r with
 | nil=>cases h
 | cons x r=>
  simp only[zW]at h;by_cases e:x=b
  .rw[al e]at h;injection h with h;rw[e,h]
  .rw[q e]at h;cases h
def pNum (r:C Q):ab (B×C Q):=
 match b3 (upto [47,40,44,41,58] r)with
 | .ok v=>if G v=upto [47,40,44,41,58] r then E (v,past [47,40,44,41,58] r)else K
 | _=>K
theorem zBD {r':C Q}{v:B}(h:pNum r=E (v,r')):r=G v++r':=by
 unfold pNum at h;split at h
 .split at h
  .rename_i e;injection h with h
   injection h with h1 h2
   subst h1;subst h2;rw[e,zAU]
  .cases h
 .cases h
mutual
def pC : P->C Q->ab (Ct×C Q)
 | 0,_=>K
 | n+1,r=>
  if upto [58,44,41] r=[]then E (Ct.zero,r)else
  (zW 58 (past [58,44,41] r)).bind λr2=>
  let id:H:=⟨(upto [58,40,44,41] r2).toArray⟩
  let r3:=past [58,40,44,41] r2
  if upto [58,44,41] r=[102,115]then
   (zW 58 r3).bind λr4=>E (.mk 1 id ⟨(upto [44,41] r4).toArray⟩ 0 0 0 [],past [44,41] r4)
  else if upto [58,44,41] r=[114,97,105,100]then
   (zW 58 r3).bind λr4=>(pNum r4).bind λp5=>(zW 47 p5.2).bind λr6=>(pNum r6).bind λp7=>(zW 47 p7.2).bind λr8=>(pNum r8).bind λp9=>
    (zW 40 p9.2).bind λra=>(pL n [] ra).bind λpb=>E (.mk 2 id ⟨#[]⟩ p5.1 p7.1 p9.1 pb.1,pb.2)
  else if upto [58,44,41] r=[99,114,121,112,116]then
   (zW 40 r3).bind λra=>(pL n [] ra).bind λpb=>E (.mk 3 id ⟨#[]⟩ 0 0 0 pb.1,pb.2)
  else if upto [58,44,41] r=[112,118]then
   (zW 58 r3).bind λr4=>(pNum r4).bind λp5=>(zW 47 p5.2).bind λr6=>(pNum r6).bind λp7=>
    (zW 40 p7.2).bind λra=>(pL n [] ra).bind λpb=>E (.mk 4 id ⟨#[]⟩ p5.1 p7.1 0 pb.1,pb.2)
  else if upto [58,44,41] r=[116,97,98,108,101]then
   (zW 40 r3).bind λra=>(pL n [] ra).bind λpb=>E (.mk 5 id ⟨#[]⟩ 0 0 0 pb.1,pb.2)
  else K
def pL : P->C Ct->C Q->ab (C Ct×C Q)
 | 0,_,_=>K
 | n+1,acc,r=>(pC n r).bind λp=>
  match zW 41 p.2 with
  | some r2=>E (acc++[p.1],r2)
  | none=>(zW 44 p.2).bind λr2=>pL n (acc++[p.1]) r2
end
theorem zEG : ∀ (l:C (C Q)) (x:C Q),l≠[]->commas (l++[x])=commas l++44::x
 | [],x,h=>absurd rfl h
 | [y],x,_=>rfl
 | y::z::t,x,_=>by
  show commas (y::z::(t++[x]))=_
  have h:=zEG (z::t) x (by simp);simp only[commas,au]at h ⊢;rw[h];simp
theorem zEV (l:C Q):bl (⟨l.toArray⟩:H)=l:=by simp[bl]
def zCJ (acc:C Ct):C UInt8:=if acc=[]then []else commas (acc.map Ct.text)++[44]
theorem zIf (o:C Ct)(c:Ct):zCJ o++c.text=commas ((o++[c]).map Ct.text):=by
 unfold zCJ;by_cases h:o=[]
 .subst h;simp[commas]
 .rw[q h,List.map_append,b9,ba,zEG _ _ (by simpa using h)];simp
theorem zLL (h:C Ct)(c:Ct):zCJ (h++[c])=zCJ h++c.text++[44]:=by
 rw[zIf];unfold zCJ;rw[q (by simp)]
theorem zJ6 : ∀ n:P,(∀ r c r',pC n r=E (c,r')->r=c.text++r')/\(∀ D r l r',pL n D r=E (l,r')->zCJ D++r=commas (l.map Ct.text)++41::r')
 | 0=>⟨λr c r' h=>by simp[pC]at h,λD r l r' h=>by simp[pL]at h⟩
 | n+1=>by
  obtain⟨Z,X⟩:=zJ6 n;have F:∀ z (y:C Ct×C Q),pL n [] z=E y->z=commas (y.1.map Ct.text)++41::y.2:=λz y h=>by
   have:=X [] z y.1 y.2 h
   simpa [zCJ]using this
  refine⟨λr c r' h=>?_,λD r l r' h=>?_⟩
  .have J:=zAU [58,44,41] r;rw[pC]at h;by_cases h0:upto [58,44,41] r=[]
   .rw[al h0]at h;injection h with h
    injection h with h1 h2
    subst h1;subst h2;rw[Ct.zero,zNJ];rfl
   rw[q h0]at h;obtain⟨V,N,h⟩:=Option.bind_eq_some_iff.1 h;have e2:=zl N;have o:=zAU [58,40,44,41] V;rw[e2]at J;simp only at h;generalize upto [58,40,44,41] V=di at h o;generalize past [58,40,44,41] V=r3 at h o;generalize upto [58,44,41] r=kd at h J;split at h
   .rename_i I;obtain⟨Y,A,h⟩:=Option.bind_eq_some_iff.1 h;have e4:=zl A;have hl:=zAU [44,41] Y;generalize upto [44,41] Y=lb at h hl;generalize past [44,41] Y=rs at h hl;injection h with h
    injection h with h1 h2
    subst h1;subst h2;rw[zJb,zEV,zEV];rw[<-J,I,<-o,e4,<-hl];simp
   split at h
   .rename_i I;obtain⟨Y,A,h⟩:=Option.bind_eq_some_iff.1 h;obtain⟨p5,O,h⟩:=Option.bind_eq_some_iff.1 h;obtain⟨r6,R,h⟩:=Option.bind_eq_some_iff.1 h;obtain⟨p7,U,h⟩:=Option.bind_eq_some_iff.1 h;obtain⟨r8,a2,h⟩:=Option.bind_eq_some_iff.1 h;obtain⟨p9,a3,h⟩:=Option.bind_eq_some_iff.1 h;obtain⟨z,u,h⟩:=Option.bind_eq_some_iff.1 h;obtain⟨y,v,h⟩:=Option.bind_eq_some_iff.1 h;injection h with h
    injection h with h1 h2
    subst h1;subst h2;have e5:=zBD O;have e7:=zBD U;have e9:=zBD a3;rw[zIm,zEV];rw[<-J,I,<-o,zl A,e5,zl R,e7,zl a2,e9,zl u,F z y v];simp
   split at h
   .rename_i I;obtain⟨z,u,h⟩:=Option.bind_eq_some_iff.1 h;obtain⟨y,v,h⟩:=Option.bind_eq_some_iff.1 h;injection h with h
    injection h with h1 h2
    subst h1;subst h2;rw[zLS,zEV];rw[<-J,I,<-o,zl u,F z y v];simp
   split at h
   .rename_i I;obtain⟨Y,A,h⟩:=Option.bind_eq_some_iff.1 h;obtain⟨p5,O,h⟩:=Option.bind_eq_some_iff.1 h;obtain⟨r6,R,h⟩:=Option.bind_eq_some_iff.1 h;obtain⟨p7,U,h⟩:=Option.bind_eq_some_iff.1 h;obtain⟨z,u,h⟩:=Option.bind_eq_some_iff.1 h;obtain⟨y,v,h⟩:=Option.bind_eq_some_iff.1 h;injection h with h
    injection h with h1 h2
    subst h1;subst h2;have e5:=zBD O;have e7:=zBD U;rw[zLR,zEV];rw[<-J,I,<-o,zl A,e5,zl R,e7,zl u,F z y v];simp
   split at h
   .rename_i I;obtain⟨z,u,h⟩:=Option.bind_eq_some_iff.1 h;obtain⟨y,v,h⟩:=Option.bind_eq_some_iff.1 h;injection h with h
    injection h with h1 h2
    subst h1;subst h2;rw[zJa,zEV];rw[<-J,I,<-o,zl u,F z y v];simp
   .cases h
  .rw[pL]at h;obtain⟨p,hp,h⟩:=Option.bind_eq_some_iff.1 h;have e1:=Z r p.1 p.2 hp;cases hs:zW 41 p.2 with
   | some V=>
    rw[hs]at h;simp only at h;injection h with h
    injection h with h1 h2
    subst h1;subst h2;rw[<-zIf,e1,zl hs];simp
   | none=>
    rw[hs]at h;simp only at h;obtain⟨V,N,h⟩:=Option.bind_eq_some_iff.1 h;have:=X _ V l r' h;rw[zLL]at this;rw[<-this,e1,zl N];simp
theorem zAF {ends:C Q}:∀ {w:C Q} {b:Q} {t:C Q},(∀ x∈w,ends.contains x=a0)->ends.contains b=a1->upto ends (w++b::t)=w/\past ends (w++b::t)=b::t
 | [],b,t,_,h=>by
  simp only[upto,past,bb,b0,ax,h];simp
 | x::w,b,t,u,h=>by
  have v:=u x (by simp);have o:=zAF (w:=w) (b:=b) (t:=t) (λy z=>u y (by simp[z])) h;simp only[upto,past,au,b0,ax,v,b2,ah]at o ⊢;rw[o.1,o.2];exact⟨rfl,rfl⟩
theorem zHb {ends:C Q}:∀ {w:C Q},(∀ x∈w,ends.contains x=a0)->upto ends w=w/\past ends w=[]
 | [],_=>⟨rfl,rfl⟩
 | x::w,o=>by
  have u:=o x (by simp);have h:=zHb (w:=w) (λy v=>o y (by simp[v]));simp only[upto,past,b0,ax,u,b2,ah]at h ⊢;rw[h.1,h.2];exact⟨rfl,rfl⟩
theorem zBO (b:Q)(t:C Q):zW b (b::t)=E t:=by simp[zW]
theorem zGa (k:P)(o:1<=k)(u:k<=16):ar k=if k<10 then [bf (48+k)]else [49,bf (48+k % 10)]:=by
 rw[ar];by_cases h:k<10
 .rw[dif_pos h,al h]
 .rw[dif_neg h,q h,ar,dif_pos (by omega)];have:k / 10=1:=by omega
  rw[this];rfl
theorem zDs (v:B)(D:1<=v)(F:v<=16)(b:Q)(t:C Q)(o:([47,40,44,41,58]:C Q).contains b=a1):pNum (G v++b::t)=E (v,b::t):=by
 obtain⟨k,rfl⟩:=Int.eq_ofNat_of_zero_le (show 0<=v by omega);have u:=zGa k (by omega) (by omega);have y:G (k:B)=ar k:=by unfold G;rw[q (by omega)];simp
 have h:(∀ x∈G (k:B),([47,40,44,41,58]:C Q).contains x=a0)/\b3 (G (k:B))=.ok (k:B):=by
  rw[y,u];rcases(by omega:k=1\/k=2\/k=3\/k=4\/k=5\/k=6\/k=7\/k=8\/k=9\/k=10\/k=11\/k=12\/k=13\/k=14\/k=15\/k=16)with rfl|rfl|rfl|rfl|rfl|rfl|rfl|rfl|rfl|rfl|rfl|rfl|rfl|rfl|rfl|rfl<;>exact⟨by decide,rfl⟩
 obtain⟨z,A⟩:=zAF (t:=t) h.1 o;unfold pNum;rw[z,A,h.2];simp
theorem zKb (h:isId s=a1):∀ x∈bl s,x≠58/\x≠40/\x≠44/\x≠41/\x≠47:=by
 unfold isId at h;simp only[af,List.all_eq_true]at h;intro x o;have u:=h.2 x o;refine⟨?_,?_,?_,?_,?_⟩<;>(rintro rfl;revert u;decide)
theorem zDh (h:isId s=a1):∀ x∈bl s,([58,40,44,41]:C Q).contains x=false:=by
 intro x o;obtain⟨u,v,y,z,A⟩:=zKb h x o;simp[u,v,y,z]
theorem zIp (h:((bl s).isEmpty||isId s)=a1):∀ x∈bl s,([44,41]:C Q).contains x=false:=by
 intro x o;rw[Bool.or_eq_true]at h;rcases h with h|h
 .rw[aj]at h;rw[h]at o;simp at o
 .obtain⟨y,z,u,v,A⟩:=zKb h x o;simp[u,v]
theorem zBZ (h:(bl s).isEmpty=a1):s=⟨#[]⟩:=by
 rw[aj]at h;apply ByteArray.ext;apply Array.ext'
 simpa [bl]using h
theorem zOo (s:H):(⟨(bl s).toArray⟩:H)=s:=by simp[bl]
def Stop (r:C Q):Prop:=r=[]\/∃ b t,r=b::t/\(b=44\/b=41)
theorem Stop.c (h:Stop r):upto [58,44,41] r=[]/\past [58,44,41] r=r:=by
 rcases h with rfl|⟨b,t,rfl,h⟩
 .exact⟨rfl,rfl⟩
 .have:=zAF (ends:=[58,44,41]) (w:=[]) (b:=b) (t:=t) (by simp) (by rcases h with rfl|rfl<;>rfl)
  simpa using this
theorem Stop.l (h:Stop r){w:C Q}(o:∀ x∈w,([44,41]:C Q).contains x=a0):upto [44,41] (w++r)=w/\past [44,41] (w++r)=r:=by
 rcases h with rfl|⟨b,t,rfl,h⟩
 .rw[b4];exact zHb o
 .exact zAF o (by rcases h with rfl|rfl<;>rfl)
theorem zKd (c:Ct):c.good=(alike c&&Ct.goods c.inner):=by
 obtain⟨k,i,l,s,t,e,n⟩:=c;rw[Ct.good];rfl
theorem zGW : ∀ l:C Ct,Ct.goods l=l.all Ct.good
 | []=>rfl
 | c::t=>by rw[Ct.goods,zGW t];rfl
theorem zMq : ∀ n:P,(∀ c o,Ct.good c=a1->Stop o->(c.text++o).length<n->pC n (c.text++o)=E (c,o))/\
  (∀ N cs o,cs≠[]->Ct.goods cs=a1->(commas (cs.map Ct.text)++41::o).length+1<n->pL n N (commas (cs.map Ct.text)++41::o)=E (N++cs,o))
 | 0=>⟨λc o _ _ h=>by omega,λN cs o _ _ h=>by omega⟩
 | n+1=>by
  obtain⟨a3,a4⟩:=zMq n;refine⟨λc o hg hs A=>?_,λN cs o z hg A=>?_⟩
  .obtain⟨k,i,l,s,t,e,v⟩:=c;rw[zKd,af]at hg;obtain⟨D,hi⟩:=hg;have U:∀ y,y=commas (v.map Ct.text)++41::o->v≠[]->y.length+1<n->pL n [] y=E (v,o):=by
    rintro y rfl z V;have:=a4 [] v o z hi V
    simpa using this
   simp only[alike,noNum,zAP,someIn]at D;by_cases k0:k=0
   .subst k0;simp only[ah,af,ak,aj]at D;obtain⟨⟨⟨O,J⟩,⟨R,X⟩,Y⟩,h6⟩:=D;have e1:=zBZ (by rw[aj];exact O);have Z:=zBZ (by rw[aj];exact J);subst e1;subst Z;subst R;subst X;subst Y;subst h6;rw[zNJ,bb,pC];simp[hs.c.1,Ct.zero]
   by_cases k1:k=1
   .subst k1;simp only[ah,q (show ¬ (1:B)=0 by decide),af,ak,aj]at D;obtain⟨⟨⟨O,J⟩,⟨R,X⟩,Y⟩,h6⟩:=D;subst R;subst X;subst Y;subst h6;have F:=zAF (ends:=[58,44,41]) (w:=[102,115]) (b:=58) (t:=bl i++58::(bl l++o)) (by decide) rfl;have I:=zAF (ends:=[58,40,44,41]) (w:=bl i) (b:=58) (t:=bl l++o) (zDh O) rfl;have u3:=hs.l (zIp J);rw[zJb]at A ⊢;rw[show [102,115]++58::(bl i++58::bl l)++o=[102,115]++58::(bl i++58::(bl l++o)) by simp];rw[pC,F.1,F.2];simp[zBO,I.1,I.2,u3.1,u3.2]
   by_cases k2:k=2
   .subst k2;simp only[ah,q (show ¬ (2:B)=0 by decide),q (show ¬ (2:B)=1 by decide),af,ak]at D;obtain⟨⟨⟨⟨⟨O,J⟩,⟨⟨R,X⟩,Y⟩,h6⟩,h7⟩,h8⟩,h9⟩:=D;have Z:=zBZ J;subst Z;have z:v≠[]:=by intro h;subst h;simp at h9
    rw[zIm]at A ⊢;rw[show [114,97,105,100]++58::(bl i++58::(G s++47::(G t++47::(G e++40::(commas (v.map Ct.text)++[41])))))++o=[114,97,105,100]++58::(bl i++58::(G s++47::(G t++47::(G e++40::(commas (v.map Ct.text)++41::o))))) by simp]at A ⊢;generalize a2:commas (v.map Ct.text)++41::o=y at *;have F:=zAF (ends:=[58,44,41]) (w:=[114,97,105,100]) (b:=58) (t:=bl i++58::(G s++47::(G t++47::(G e++40::y)))) (by decide) rfl;have I:=zAF (ends:=[58,40,44,41]) (w:=bl i) (b:=58) (t:=G s++47::(G t++47::(G e++40::y))) (zDh O) rfl;have n1:=zDs s (by omega) (by omega) 47 (G t++47::(G e++40::y)) rfl;have n2:=zDs t (by omega) (by omega) 47 (G e++40::y) rfl;have n3:=zDs e (by omega) (by omega) 40 y rfl;have V:=U y rfl z (by simp at A;omega);rw[pC,F.1,F.2];simp[zBO,I.1,I.2,n1,n2,n3,V]
   by_cases k3:k=3
   .subst k3;simp only[ah,q (show ¬ (3:B)=0 by decide),q (show ¬ (3:B)=1 by decide),q (show ¬ (3:B)=2 by decide),af,ak]at D;obtain⟨⟨⟨O,J⟩,⟨R,X⟩,Y⟩,h9⟩:=D;have Z:=zBZ J;subst Z;subst R;subst X;subst Y;have z:v≠[]:=by intro h;subst h;simp at h9
    rw[zLS]at A ⊢;rw[show [99,114,121,112,116]++58::(bl i++40::(commas (v.map Ct.text)++[41]))++o=[99,114,121,112,116]++58::(bl i++40::(commas (v.map Ct.text)++41::o)) by simp]at A ⊢;generalize a2:commas (v.map Ct.text)++41::o=y at *;have F:=zAF (ends:=[58,44,41]) (w:=[99,114,121,112,116]) (b:=58) (t:=bl i++40::y) (by decide) rfl;have I:=zAF (ends:=[58,40,44,41]) (w:=bl i) (b:=40) (t:=y) (zDh O) rfl;have V:=U y rfl z (by simp at A;omega);rw[pC,F.1,F.2];simp[zBO,I.1,I.2,V]
   by_cases k4:k=4
   .subst k4;simp only[ah,q (show ¬ (4:B)=0 by decide),q (show ¬ (4:B)=1 by decide),q (show ¬ (4:B)=2 by decide),q (show ¬ (4:B)=3 by decide),af,ak]at D;obtain⟨⟨⟨⟨O,J⟩,⟨⟨R,X⟩,Y⟩,h6⟩,h7⟩,h8,h9⟩:=D;have Z:=zBZ J;subst Z;subst h7;have z:v≠[]:=by intro h;subst h;simp at h8
    rw[zLR]at A ⊢;rw[show [112,118]++58::(bl i++58::(G s++47::(G t++40::(commas (v.map Ct.text)++[41]))))++o=[112,118]++58::(bl i++58::(G s++47::(G t++40::(commas (v.map Ct.text)++41::o)))) by simp]at A ⊢;generalize a2:commas (v.map Ct.text)++41::o=y at *;have F:=zAF (ends:=[58,44,41]) (w:=[112,118]) (b:=58) (t:=bl i++58::(G s++47::(G t++40::y))) (by decide) rfl;have I:=zAF (ends:=[58,40,44,41]) (w:=bl i) (b:=58) (t:=G s++47::(G t++40::y)) (zDh O) rfl;have n1:=zDs s (by omega) (by omega) 47 (G t++40::y) rfl;have n2:=zDs t (by omega) (by omega) 40 y rfl;have V:=U y rfl z (by simp at A;omega);rw[pC,F.1,F.2];simp[zBO,I.1,I.2,n1,n2,V]
   by_cases k5:k=5
   .subst k5;simp only[ah,q (show ¬ (5:B)=0 by decide),q (show ¬ (5:B)=1 by decide),q (show ¬ (5:B)=2 by decide),q (show ¬ (5:B)=3 by decide),q (show ¬ (5:B)=4 by decide),af,ak]at D;obtain⟨⟨⟨O,J⟩,⟨R,X⟩,Y⟩,h8,h9⟩:=D;have Z:=zBZ J;subst Z;subst R;subst X;subst Y;have z:v≠[]:=by intro h;subst h;simp at h8
    rw[zJa]at A ⊢;rw[show [116,97,98,108,101]++58::(bl i++40::(commas (v.map Ct.text)++[41]))++o=[116,97,98,108,101]++58::(bl i++40::(commas (v.map Ct.text)++41::o)) by simp]at A ⊢;generalize a2:commas (v.map Ct.text)++41::o=y at *;have F:=zAF (ends:=[58,44,41]) (w:=[116,97,98,108,101]) (b:=58) (t:=bl i++40::y) (by decide) rfl;have I:=zAF (ends:=[58,40,44,41]) (w:=bl i) (b:=40) (t:=y) (zDh O) rfl;have V:=U y rfl z (by simp at A;omega);rw[pC,F.1,F.2];simp[zBO,I.1,I.2,V]
   simp[k0,k1,k2,k3,k4,k5]at D
  .cases cs with
   | nil=>exact absurd rfl z
   | cons c t=>
    rw[Ct.goods,af]at hg;rw[pL];cases t with
    | nil=>
     simp only[b9,ba,commas]at A ⊢;rw[a3 c (41::o) hg.1 (.inr ⟨_,_,rfl,.inr rfl⟩) (by omega)];simp[zBO]
    | cons d u=>
     have e:commas (az Ct.text (c::d::u))++41::o=c.text++44::(commas (az Ct.text (d::u))++41::o):=by
      simp[commas]
     rw[e]at A ⊢;rw[a3 c _ hg.1 (.inr ⟨_,_,rfl,.inl rfl⟩) (by omega)];have J:zW 41 (44::(commas (az Ct.text (d::u))++41::o))=none:=by simp[zW]
     have R:=a4 (N++[c]) (d::u) o (by simp) hg.2 (by simp at A ⊢;omega);simp only[Option.bind_some,J,zBO,R];simp
def parseC (s:H):ab Ct:=
 if 256<(bl s).length then K else
 match pC ((bl s).length+1) (bl s)with
 | some (c,[])=>if c.valid=a1 then E c else K
 | _=>K
theorem zBC (s:H)(c:Ct):parseC s=E c↔(bl s).length<=256/\c.valid=a1/\c.text=bl s:=by
 unfold parseC;constructor
 .intro h;split at h
  .cases h
  .rename_i A;split at h
   .rename_i D v;split at h
    .rename_i y;injection h with h
     subst h;have:=(zJ6 _).1 _ _ _ v;exact⟨by omega,y,by rw[this];simp⟩
    .cases h
   .cases h
 .rintro ⟨F,o,u⟩;rw[q (by omega)];have z:c.good=true:=by unfold Ct.valid at o;rw[af]at o;exact o.2
  have:=(zMq ((bl s).length+1)).1 c [] z (.inl rfl) (by simp[u]);rw[b4,u]at this;rw[this];simp[o]
mutual
def Ct.count : Ct->P
 | .mk _ _ _ _ _ _ n=>Ct.counts n+1
def Ct.counts : C Ct->P
 | []=>0
 | c::t=>c.count+Ct.counts t
end
theorem zAY : ∀ (l m:C Ct),Ct.counts (l++m)=Ct.counts l+Ct.counts m
 | [],m=>by simp[Ct.counts]
 | c::t,m=>by rw[au,Ct.counts,Ct.counts,zAY t m];omega
mutual
theorem zEF: ∀ c:Ct,c.depth<=c.count
 | .mk k i l s t e n=>by
  have h:=zBY n;rw[Ct.depth,Ct.count];split<;>omega
theorem zBY : ∀ l:C Ct,Ct.depths l<=Ct.counts l
 | []=>by simp[Ct.depths,Ct.counts]
 | c::t=>by
  have h:=zEF c;have o:=zBY t;rw[Ct.depths,Ct.counts];omega
end
theorem zGe: ∀ c:Ct,0<c.count
 | .mk k i l s t e n=>by rw[Ct.count];omega
theorem zAa : ∀ l:C Ct,l.length<=Ct.counts l
 | []=>by simp
 | c::t=>by
  have h:=zGe c;have o:=zAa t;rw[List.length_cons,Ct.counts];omega
theorem zBF {c:Ct}:∀ {l:C Ct},c∈l->c.count<=Ct.counts l
 | [],h=>by cases h
 | d::t,h=>by
  rw[Ct.counts];rcases List.mem_cons.1 h with rfl|h
  .omega
  .have:=zBF h;omega
theorem zGL {c:Ct}:∀ {l:C Ct},c∈l->c.depth<=Ct.depths l
 | [],h=>by cases h
 | d::t,h=>by
  rw[Ct.depths];rcases List.mem_cons.1 h with rfl|h
  .omega
  .have:=zGL h;omega
theorem zEE : ∀ (l:C Ct) (c:Ct),Ct.depths (l++[c])=max (Ct.depths l) c.depth
 | [],c=>by simp[Ct.depths]
 | d::t,c=>by rw[au,Ct.depths,Ct.depths,zEE t c];omega
theorem zBx (ends r:C Q):(past ends r).length<=r.length:=by
 have h:=congrArg b7 (zAU ends r);rw[ay]at h;omega
theorem ze (h:zW b r=E t):r.length=t.length+1:=by rw[zl h];rfl
theorem zAe {p:B×C Q}(h:pNum r=E p):p.2.length<=r.length:=by
 have:=congrArg b7 (zBD (v:=p.1) (r':=p.2) h);rw[ay]at this;omega
theorem zFN : ∀ n:P,(∀ r c r',pC n r=E (c,r')->c.count+r'.length<=r.length+1)/\(∀ A r l r',pL n A r=E (l,r')->Ct.counts l+r'.length<=Ct.counts A+r.length)
 | 0=>⟨λr c r' h=>by simp[pC]at h,λA r l r' h=>by simp[pL]at h⟩
 | n+1=>by
  obtain⟨U,R⟩:=zFN n;have D:∀ y (v:C Ct×C Q),pL n [] y=E v->Ct.counts v.1+v.2.length<=y.length:=λy v h=>by
   have:=R [] y v.1 v.2 h
   simpa [Ct.counts]using this
  refine⟨λr c r' h=>?_,λA r l r' h=>?_⟩
  .have hr:=zBx [58,44,41] r;rw[pC]at h;by_cases h0:upto [58,44,41] r=[]
   .rw[al h0]at h;injection h with h
    injection h with h1 h2
    subst h1;subst h2;simp[Ct.zero,Ct.count,Ct.counts];omega
   rw[q h0]at h;obtain⟨O,F,h⟩:=Option.bind_eq_some_iff.1 h;have e2:=ze F;have V:=zBx [58,40,44,41] O;simp only at h;generalize upto [58,40,44,41] O=di at h;generalize past [58,40,44,41] O=r3 at h V;split at h
   .obtain⟨X,z,h⟩:=Option.bind_eq_some_iff.1 h;have e4:=ze z;have hl:=zBx [44,41] X;injection h with h
    injection h with h1 h2
    subst h1;subst h2;simp[Ct.count,Ct.counts];omega
   split at h
   .obtain⟨X,z,h⟩:=Option.bind_eq_some_iff.1 h;obtain⟨p5,I,h⟩:=Option.bind_eq_some_iff.1 h;obtain⟨r6,J,h⟩:=Option.bind_eq_some_iff.1 h;obtain⟨p7,N,h⟩:=Option.bind_eq_some_iff.1 h;obtain⟨r8,Y,h⟩:=Option.bind_eq_some_iff.1 h;obtain⟨p9,Z,h⟩:=Option.bind_eq_some_iff.1 h;obtain⟨y,o,h⟩:=Option.bind_eq_some_iff.1 h;obtain⟨v,u,h⟩:=Option.bind_eq_some_iff.1 h;injection h with h
    injection h with h1 h2
    subst h1;subst h2;have e5:=zAe I;have e7:=zAe N;have e9:=zAe Z;have e4:=ze z;have e6:=ze J;have e8:=ze Y;have ea:=ze o;have eb:=D y v u;rw[Ct.count];omega
   split at h
   .obtain⟨y,o,h⟩:=Option.bind_eq_some_iff.1 h;obtain⟨v,u,h⟩:=Option.bind_eq_some_iff.1 h;injection h with h
    injection h with h1 h2
    subst h1;subst h2;have ea:=ze o;have eb:=D y v u;rw[Ct.count];omega
   split at h
   .obtain⟨X,z,h⟩:=Option.bind_eq_some_iff.1 h;obtain⟨p5,I,h⟩:=Option.bind_eq_some_iff.1 h;obtain⟨r6,J,h⟩:=Option.bind_eq_some_iff.1 h;obtain⟨p7,N,h⟩:=Option.bind_eq_some_iff.1 h;obtain⟨y,o,h⟩:=Option.bind_eq_some_iff.1 h;obtain⟨v,u,h⟩:=Option.bind_eq_some_iff.1 h;injection h with h
    injection h with h1 h2
    subst h1;subst h2;have e5:=zAe I;have e7:=zAe N;have e4:=ze z;have e6:=ze J;have ea:=ze o;have eb:=D y v u;rw[Ct.count];omega
   split at h
   .obtain⟨y,o,h⟩:=Option.bind_eq_some_iff.1 h;obtain⟨v,u,h⟩:=Option.bind_eq_some_iff.1 h;injection h with h
    injection h with h1 h2
    subst h1;subst h2;have ea:=ze o;have eb:=D y v u;rw[Ct.count];omega
   .cases h
  .rw[pL]at h;obtain⟨p,hp,h⟩:=Option.bind_eq_some_iff.1 h;have e1:=U r p.1 p.2 hp;cases hs:zW 41 p.2 with
   | some O=>
    rw[hs]at h;simp only at h;injection h with h
    injection h with h1 h2
    subst h1;subst h2;have e2:=ze hs;rw[zAY];simp only[Ct.counts];omega
   | none=>
    rw[hs]at h;simp only at h;obtain⟨O,F,h⟩:=Option.bind_eq_some_iff.1 h;have e2:=ze F;have:=R _ O l r' h;rw[zAY]at this;simp only[Ct.counts]at this;omega
end Go.Proofs.YtckkocmhlhefpaaGreatDoor
