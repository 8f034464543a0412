import Derived.Test.YtmajgldaplkpiaaGreatDoorQ34
namespace Go.Proofs.YtmajgldaplkpiaaGreatDoor
open Go.RowKit Go.Maps
set_option linter.unusedVariables false
set_option maxRecDepth 100000
set_option maxHeartbeats 2000000
def againB (ds:List Dev)(tx:Dev->ByteArray)(M:List Vir)(r:Int)(s:Src):Bool:=
 match M.find? (fun v=>decide ((v.q,v.o)=(plc ds s.d.parent,s.d.orig)))with
 | some v=>(v.r==r)&&(v.c.toList==(tx s.d).toList)
 | none=>false
def moreS (ds:List Dev)(tx:Dev->ByteArray)(M:List Vir)(r:Int)(C:List Src)(k:Nat):List Src:=((C.take k).filter (againB ds tx M r)).map fun s=>{ s with r:=r }
theorem zGa {ds:List Dev}{tx:Dev->ByteArray}{M:List Vir}{r:Int}{C:List Src}{k:Nat}{s:Src}(h:C[k]?=some s):moreS ds tx M r C (k+1)=moreS ds tx M r C k++(if againB ds tx M r s=true then [{ s with r:=r }]else []):=by
 unfold moreS;rw[List.take_add_one,h,List.filter_append,List.map_append]
 congr 1
 cases hb:againB ds tx M r s<;>simp[hb]
theorem zHW (ds:List Dev)(tx:Dev->ByteArray)(M:List Vir)(r:Int)(C:List Src)(k:Nat):(moreS ds tx M r C k).length<=C.length:=by
 unfold moreS;rw[List.length_map];exact Nat.le_trans (List.length_filter_le _ _) (by rw[List.length_take];omega)
theorem RS.growS {c:RC}{w X:World}{sa:Option Addr}{sc:Nat}{ma:Option Addr}{mc:Nat}{S:List Src}{M:List Vir}{G:List (ByteArray×ByteArray)}(h:RS c w sa sc ma mc S M G){s:Src}
  {av:Option Addr} {cv:Nat} (hf:Fr (fun b=>b=c.xb\/(Value.slice sa S.length sc).ownBlock=some b) w X)
  (k5:X.heap[c.xb]?=some (.cells (rcs c.ka c.kn c.kc c.wt c.a c.n c.cap c.ca c.C.length c.cc c.ea c.en c.ec av (S.length+1) cv c.wm c.sm ma M.length mc) 123))
  (h5:X.ownsRow c.b2 163 13 (.slice av (S.length+1) cv) (S.length+1) (sflat S++s.vals.toList)):RS c X av cv ma mc (S++[s]) M G:=by
 have el:(S++[s]).length=S.length+1:=by simp
 have hlo:=h.lo;have hge:∀ b,(Value.slice sa S.length sc).ownBlock=some b->c.b2<=b:=fun b hb=>zN h.so hb
 have hca:∀ ad,c.ca=some ad->¬ (ad.block=c.xb\/(Value.slice sa S.length sc).ownBlock=some ad.block):=fun ad e hs=>by
  have h1:=h.cb ad e;rcases hs with hs | hs
  ·obtain⟨cs,hc⟩:=h1.2.2 ad e;rw[hs,h.k]at hc;injection hc with hc
   injection hc with _ e2
   exact absurd e2 (by decide)
  ·have:=hge _ hs;omega
 refine⟨by rw[el];exact k5,by rw[el,zB7];exact h5,zJ h.mo hf (fun b hb hs=>?_),h.cs.fr hf (fun ad e _=>hca ad e),fun ad e=>⟨(h.cb ad e).1,(h.cb ad e).2.1,(h.cb ad e).2.2.fr hf hca⟩,h.wmo.fr hf (fun hs=>?_),h.smo.fr hf (fun hs=>?_),h.ne,h.lo,Nat.le_trans h.b2l hf.size⟩
 ·rcases hs with hs | hs
  ·subst hs;exact zf h.mo h.k (by decide) hb
  ·obtain⟨ad,rfl,rfl⟩:=zBo hb;exact BlkT.ne h.so (zAj h.mo) (by decide) ad rfl hs
 ·rcases hs with hs | hs
  ·exact h.wmo.ne_cells h.k (Eq.symm hs)
  ·have:=hge _ hs;omega
 ·rcases hs with hs | hs
  ·exact h.smo.ne_cells h.k (Eq.symm hs)
  ·have:=hge _ hs;omega
theorem RS.perm {c:RC}{w X:World}{sa:Option Addr}{sc:Nat}{ma:Option Addr}{mc:Nat}{S S':List Src}{M:List Vir}{G:List (ByteArray×ByteArray)}(h:RS c w sa sc ma mc S M G)
  (hf:Fr (fun b=>(Value.slice sa S.length sc).ownBlock=some b) w X) (hl:S'.length=S.length)
  (h5:X.ownsRow c.b2 163 13 (.slice sa S'.length sc) S'.length (sflat S')):RS c X sa sc ma mc S' M G:=by
 have hlo:=h.lo;have hge:∀ b,(Value.slice sa S.length sc).ownBlock=some b->c.b2<=b:=fun b hb=>zN h.so hb
 have hca:∀ ad,c.ca=some ad->¬ ((Value.slice sa S.length sc).ownBlock=some ad.block):=fun ad e hs=>by
  have h1:=h.cb ad e;have:=hge _ hs;omega
 refine⟨by rw[hl];exact hf.heap h.k (fun hs=>by have:=hge _ hs;omega),h5,zJ h.mo hf (fun b hb hs=>?_),h.cs.fr hf (fun ad e _=>hca ad e),fun ad e=>⟨(h.cb ad e).1,(h.cb ad e).2.1,(h.cb ad e).2.2.fr hf hca⟩,h.wmo.fr hf (fun hs=>?_),h.smo.fr hf (fun hs=>?_),h.ne,h.lo,Nat.le_trans h.b2l hf.size⟩
 ·obtain⟨ad,rfl,rfl⟩:=zBo hb;exact BlkT.ne h.so (zAj h.mo) (by decide) ad rfl hs
 ·have:=hge _ hs;omega
 ·have:=hge _ hs;omega
def mdK : ByteArray:=⟨#[109,100]⟩
def zBK (ds:List Dev)(E:List ByteArray)(r:Int)(x:List Vir×List (ByteArray×ByteArray))(m:ArrM):List Vir×List (ByteArray×ByteArray):=
 if mustB m.t m.e m.n (exB ds m.i) (hasS E m.i)=true then
  (if (x.2.any fun y=>decide (y=(mdK,m.i)))=true then (x.1,x.2++[(mdK,m.i)])else (zn x.1 (mdOf m.i m.l r),x.2++[(mdK,m.i)]))
 else x
def arrAll (ds:List Dev)(E:List ByteArray)(r:Int)(x:List Vir×List (ByteArray×ByteArray))(O:List ArrM)(k:Nat):List Vir×List (ByteArray×ByteArray):=(O.take k).foldl (zBK ds E r) x
theorem zDE {ds:List Dev}{E:List ByteArray}{r:Int}{x:List Vir×List (ByteArray×ByteArray)}{O:List ArrM}{k:Nat}{m:ArrM}(h:O[k]?=some m):arrAll ds E r x O (k+1)=zBK ds E r (arrAll ds E r x O k) m:=by
 unfold arrAll;rw[List.take_add_one,h,List.foldl_append];rfl
theorem zFN (ds:List Dev)(E:List ByteArray)(r:Int)(x:List Vir×List (ByteArray×ByteArray))(m:ArrM):(zBK ds E r x m).1.length<=x.1.length+1/\(zBK ds E r x m).2.length<=x.2.length+1:=by
 unfold zBK;split
 ·split
  ·simp
  ·exact⟨zCb _ _,by simp⟩
 ·simp
theorem zDi (ds:List Dev)(E:List ByteArray)(r:Int)(x:List Vir×List (ByteArray×ByteArray))(O:List ArrM):∀ k,(arrAll ds E r x O k).1.length<=x.1.length+k/\(arrAll ds E r x O k).2.length<=x.2.length+k:=by
 intro k
 induction k with
 | zero=>simp[arrAll]
 | succ k ih=>
  by_cases hk:k<O.length
  ·rw[zDE (List.getElem?_eq_getElem hk)];have:=zFN ds E r (arrAll ds E r x O k) O[k];omega
  ·have:arrAll ds E r x O (k+1)=arrAll ds E r x O k:=by unfold arrAll;rw[List.take_of_length_le (by omega),List.take_of_length_le (by omega)]
   rw[this];omega
def lvK : ByteArray:=⟨#[108,118]⟩
def zCF (r:Int)(x:List Vir×List (ByteArray×ByteArray))(m:ArrM):List Vir×List (ByteArray×ByteArray):=
 if m.n=m.t then
  (if (x.2.any fun y=>decide (y=(lvK,m.i)))=true then (x.1,x.2++[(lvK,m.i)])else (zj x.1 (wantL m.i m.t m.n m.l r),x.2++[(lvK,m.i)]))
 else x
def grpAll (r:Int)(x:List Vir×List (ByteArray×ByteArray))(O:List ArrM)(k:Nat):List Vir×List (ByteArray×ByteArray):=(O.take k).foldl (zCF r) x
theorem zCz {r:Int}{x:List Vir×List (ByteArray×ByteArray)}{O:List ArrM}{k:Nat}{m:ArrM}(h:O[k]?=some m):grpAll r x O (k+1)=zCF r (grpAll r x O k) m:=by
 unfold grpAll;rw[List.take_add_one,h,List.foldl_append];rfl
theorem zEE (gi:ByteArray)(t n:Int)(ins:List ByteArray)(r:Int):(wantL gi t n ins r).length<=ins.length:=by
 unfold wantL;split
 ·exact zGz _ _ _ _
 ·simp
theorem zFC (r:Int)(x:List Vir×List (ByteArray×ByteArray))(m:ArrM)(h:m.l.length<=16):(zCF r x m).1.length<=x.1.length+16/\(zCF r x m).2.length<=x.2.length+1:=by
 unfold zCF;split
 ·split
  ·simp
  ·have h1:=zAY (wantL m.i m.t m.n m.l r) x.1;have h2:=zEE m.i m.t m.n m.l r;exact⟨by dsimp only;omega,by simp⟩
 ·simp
theorem zGf (r:Int)(x:List Vir×List (ByteArray×ByteArray))(O:List ArrM)(hO:∀ m∈O,m.l.length<=16):∀ k,(grpAll r x O k).1.length<=x.1.length+16*k/\(grpAll r x O k).2.length<=x.2.length+k:=by
 intro k
 induction k with
 | zero=>simp[grpAll]
 | succ k ih=>
  by_cases hk:k<O.length
  ·rw[zCz (List.getElem?_eq_getElem hk)];have:=zFC r (grpAll r x O k) O[k] (hO _ (List.getElem_mem hk));omega
  ·have:grpAll r x O (k+1)=grpAll r x O k:=by unfold grpAll;rw[List.take_of_length_le (by omega),List.take_of_length_le (by omega)]
   rw[this];omega
theorem zGx {gi:ByteArray}{t n:Int}{ins:List ByteArray}{r:Int}{v:Vir}(h:v∈wantL gi t n ins r):v.q.size=0/\v.o.size<=32:=by
 unfold wantL at h;split at h
 ·unfold wantF at h;obtain⟨i,hi,rfl⟩:=List.mem_map.1 h;have h1:=(List.mem_filter.1 hi).2;refine⟨rfl,?_⟩;unfold lvOk at h1;simp only[Bool.and_eq_true]at h1;have h2:=h1.2;unfold isName at h2;simp at h2;exact h2.1.1.1.2
 ·cases h
def MidR (ds:List Dev)(tx:Dev->ByteArray)(E K:List ByteArray)(r:Int)(S:List Src)(M:List Vir)(G:List (ByteArray×ByteArray))(M3:List Vir)(G2:List (ByteArray×ByteArray)):Prop:=
 ∃ (L2:List Mem) (ids2:List ByteArray) (O2:List ArrM) (M2:List Vir) (L3:List Mem) (ids3:List ByteArray),
  L2.map Mem.k=S.filterMap (fun s=>ofK 2 mk2 s.o s.r (tx s.d))/\IsIds2 (zk soundA L2) ids2/\O2.map ArrM.toArr=ids2.map (buildA (zk soundA L2))/\
  (M2,G2)=arrAll ds E r (wantS tx S M r S.length,G) O2 O2.length/\
  L3.map Mem.k=S.filterMap (fun s=>ofK 3 mk3 s.o s.r (tx s.d))/\IsIds L3 ids3/\M3=zj M2 ((opened ids3 K).map (virOf L3 r))
def NextR (ds:List Dev)(tx:Dev->ByteArray)(E K:List ByteArray)(C:List Src)(r:Int)(S:List Src)(M:List Vir)(G:List (ByteArray×ByteArray))(S':List Src)(M':List Vir)(G':List (ByteArray×ByteArray)):Prop:=
 (∃ (M3:List Vir) (G2:List (ByteArray×ByteArray)) (L4:List Mem) (ids4:List ByteArray) (O4:List ArrM),MidR ds tx E K r S M G M3 G2/\
  L4.map Mem.k=S.filterMap (fun s=>ofK 4 mk4 s.o s.r (tx s.d))/\IsIds2 (zk soundB L4) ids4/\O4.map ArrM.toArr=ids4.map (buildA (zk soundB L4))/\
  (M',G')=grpAll r (M3,G2) O4 O4.length)/\
 S'.Perm (S++moreS ds tx M' r C C.length)/\S'.Pairwise (fun x y=>x.at_<=y.at_)
theorem zBm {ds:List Dev}(hT:TreeOk ds)(hn:ds.length<=250)(n:Int):(plc ds n).size<=33*250:=by
 rw[<-zCs hT];have:=zBS hT.sz ds.length n;rw[List.take_length]at this;omega
theorem zGF (M:List Vir)(p:ByteArray×ByteArray):∃ y:Vir,(wantG M p).getD zB6=.agg #[.string y.q,.string y.o,.string y.c,.int .i64 y.r]/\∀ v,M.find? (fun v=>decide ((v.q,v.o)=p))=some v->y=v:=by
 unfold wantG;cases hq:M.find? (fun v=>decide ((v.q,v.o)=p))with
 | none=>exact⟨⟨⟨#[]⟩,⟨#[]⟩,⟨#[]⟩,0⟩,rfl,fun v h=>by cases h⟩
 | some v=>exact⟨v,rfl,fun u h=>by injection h⟩
theorem zIE {ds:List Dev}{tx:Dev->ByteArray}{M:List Vir}{r:Int}{s:Src}{P:ByteArray}{y:Vir}(hP:P=plc ds s.d.parent)(hy:∀ v,M.find? (fun v=>decide ((v.q,v.o)=(P,s.d.orig)))=some v->y=v):
  againB ds tx M r s=((wantG M (P,s.d.orig)).isSome&&((y.r==r)&&(y.c.toList==(tx s.d).toList))):=by
 unfold againB wantG;rw[<-hP];cases hq:M.find? (fun v=>decide ((v.q,v.o)=(P,s.d.orig)))with
 | none=>rfl
 | some v=>rw[hy v hq];rfl
theorem zIr (p:Option Addr)(cap:Nat)(fv:Value)(w:World):
  Calls Tryz.prog 266 #[.slice p 0 cap,.int .i64 0,.int .i64 0,fv] w fun e w'=>e=.returned (.tuple #[])/\w'=w:=by
 go_enter Tryz.func266,Tryz.ntmps266
 go_wp2;refine wp_loop_rounds 1 ?_;rw[rounds_succ];go_wp2
 go_end0
 exact⟨rfl,rfl⟩
theorem zIa (p:Option Addr)(cap:Nat)(lim:Int)(fv:Value)(w:World):
  Calls Tryz.prog 220 #[.slice p 0 cap,.int .i64 0,.int .i64 0,.int .i64 lim,fv] w fun e w'=>e=.returned (.tuple #[])/\w'=w:=by
 have hi:=zIr p cap fv w
 go_enter Tryz.func220,Tryz.ntmps220
 go_wp2;refine wp_loop_rounds 1 ?_;rw[rounds_succ]
 go_wp2_with fail
 refine hi.mono ?_;rintro e w' ⟨rfl,rfl⟩
 go_wp2_with fail
 (try simp only[Exit.inBlock,Exit.then]);refine bodyPost_ret (results_none rfl _ _ _) rfl ?_
 exact⟨rfl,rfl⟩
theorem zHD (p:Option Addr)(cap:Nat)(fv:Value)(w:World)(hl:Calls Tryz.prog 221 #[.int .u64 0] w fun e w'=>(∃ k,e=.returned (.int .i64 k))/\w'=w):
  Calls Tryz.prog 162 #[.slice p 0 cap,fv] w fun e w'=>e=.returned (.tuple #[])/\w'=w:=by
 have hp:=fun lim=>zIa p cap lim fv w
 go_enter Tryz.func162,Tryz.ntmps162
 go_wp2_with fail
 refine hl.mono ?_;rintro e w' ⟨⟨k,rfl⟩,rfl⟩
 go_wp2_with fail
 refine(hp k).mono ?_;rintro e w' ⟨rfl,rfl⟩
 go_wp2_with fail
 go_end0
 exact⟨rfl,rfl⟩
def sxT : ByteArray:=⟨#[116,97,98,108,101,58,116,40,114,97,105,100,58,114,58,49,47,49,47,49,40,102,115,58,120,58,41,41]⟩
def sxR : ByteArray:=⟨#[114,97,105,100,58,114,58,49,47,49,47,49,40,102,115,58,120,58,41]⟩
def sxX : ByteArray:=⟨#[102,115,58,120,58]⟩
def sxA : ByteArray:=⟨#[115,100,97]⟩
def sxB : ByteArray:=⟨#[115,100,97,112,49]⟩
def sxPA : ByteArray:=⟨#[47,115,100,97]⟩
def sxPB : ByteArray:=⟨#[47,115,100,97,47,115,100,97,112,49]⟩
def sxI : ByteArray:=⟨#[114]⟩
def sxM : ByteArray:=⟨#[109,100,45,114]⟩
def sxCR : Ct:=.mk 2 sxI ⟨#[]⟩ 1 1 1 [.mk 1 ⟨#[120]⟩ ⟨#[]⟩ 0 0 0 []]
def sxCT : Ct:=.mk 5 ⟨#[116]⟩ ⟨#[]⟩ 0 0 0 [sxCR]
theorem zJH : Lib.itoa 1=[49]:=by kernel_rfl
theorem sxPR : parseC sxR=some sxCR:=(zBC _ _).2 ⟨by decide,by decide,by rw[sxCR,zGM];simp[zG5,commas,sxR,sxI,zJH];rfl⟩
theorem sxPT : parseC sxT=some sxCT:=(zBC _ _).2 ⟨by decide,by decide,by rw[sxCT,zG4];simp[sxCR,zGM,zG5,commas,sxT,sxI,zJH];rfl⟩
theorem sx_x : sxCR.inner.map Ct.txt=[sxX]:=by simp[sxCR,Ct.inner,txt1,sxX];rfl
theorem zLA : sxCR.txt=sxR:=zCM (by rw[zB3];exact((zBC _ _).1 sxPR).2.2)
theorem sx_r : sxCT.inner.map Ct.txt=[sxR]:=by simp[sxCT,Ct.inner,zLA]
def sxV (r:Int):Vir:=⟨sxPA,sxB,sxR,r⟩
def sxW (r:Int):Vir:=⟨⟨#[]⟩,sxM,sxX,r⟩
theorem zCR {L:List Mem}(h:L.map Mem.k=[]):L=[]:=by simpa using h
theorem zFr {good:Mem->Bool}{ids:List ByteArray}(h:IsIds2 (zk good []) ids):ids=[]:=by
 cases ids with
 | nil=>rfl
 | cons x t=>
  obtain⟨s,hs⟩:=(h.mem x).1 (by simp);cases hs
theorem zHj {ids:List ByteArray}(h:IsIds [] ids):ids=[]:=by
 cases ids with
 | nil=>rfl
 | cons x t=>exact absurd ((h.mem x).1 (by simp)) (by simp[best])
section
variable {ds:List Dev}{tx:Dev->ByteArray}{E K:List ByteArray}{r:Int}{S:List Src}{M M3:List Vir}{G G2:List (ByteArray×ByteArray)}
theorem zJ3 (h:MidR ds tx E K r S M G M3 G2)(h2:S.filterMap (fun s=>ofK 2 mk2 s.o s.r (tx s.d))=[])(h3:S.filterMap (fun s=>ofK 3 mk3 s.o s.r (tx s.d))=[]):M3=wantS tx S M r S.length/\G2=G:=by
 obtain⟨L2,ids2,O2,M2,L3,ids3,e2,i2,o2,a2,e3,i3,a3⟩:=h;rw[h2]at e2;obtain rfl:=zCR e2;obtain rfl:=zFr i2;obtain rfl:O2=[]:=by simpa using o2
 rw[h3]at e3;obtain rfl:=zCR e3;obtain rfl:=zHj i3;injection a2 with b1 b2
 exact⟨by rw[a3,b1];rfl,b2⟩
theorem zFh {C S':List Src}{M':List Vir}{G':List (ByteArray×ByteArray)}(h:NextR ds tx E K C r S M G S' M' G')(h4:S.filterMap (fun s=>ofK 4 mk4 s.o s.r (tx s.d))=[]):MidR ds tx E K r S M G M' G':=by
 obtain⟨⟨M3,G2,L4,ids4,O4,hm,e4,i4,o4,a4⟩,-⟩:=h;rw[h4]at e4;obtain rfl:=zCR e4;obtain rfl:=zFr i4;obtain rfl:O4=[]:=by simpa using o4
 injection a4 with b1 b2
 rw[b1,b2];exact hm
theorem zIU {p:ByteArray}{rd:Int}{L:List Mem}{ids:List ByteArray}{O:List ArrM}(hp:p.toList.isEmpty=false)(hL:L.map Mem.k=[mk2 p rd sxCR])(hi:IsIds2 (zk soundA L) ids)(hO:O.map ArrM.toArr=ids.map (buildA (zk soundA L))):
  ∃ o,O=[o]/\o.i=sxI/\o.t=1/\o.e=1/\o.n=1/\o.l=[sxX]:=by
 obtain⟨m,rfl⟩:∃ m,L=[m]:=by
  cases L with
  | nil=>simp at hL
  | cons m t=>cases t with
   | nil=>exact⟨m,rfl⟩
   | cons m' t=>simp at hL
 have hk:m.k=mk2 p rd sxCR:=by simpa using hL
 have k1:m.p=p:=congrArg Mem.p hk;have k2:m.i=sxI:=congrArg Mem.i hk;have k3:m.s=1:=congrArg Mem.s hk;have k4:m.t=1:=congrArg Mem.t hk;have k5:m.e=1:=congrArg Mem.e hk;have k6:m.l=[sxX]:=(congrArg Mem.l hk).trans sx_x;have hs:soundA m=true:=by
  unfold soundA soundB;rw[k1,k3,k4,k6,hp];decide
 have hb:zk soundA [m]=fun x=>if x=(sxI,1)then some m else none:=by
  show zAS soundA (fun _=>none) m=_
  rw[zBd hs (fun o h=>by cases h),k2,k3]
 rw[hb]at hi hO;have hids:ids=[sxI]:=hi.unique ⟨by unfold AscS;decide,fun x=>⟨fun h=>by
  obtain rfl:x=sxI:=by simpa using h
  exact⟨1,by rw[if_pos rfl];rfl⟩,fun ⟨s,h⟩=>by
  split at h
  ·rename_i e;simp at e;simp[e.1]
  ·cases h⟩⟩
 rw[hids]at hO;have h1:(fun x:ByteArray×Int=>if x=(sxI,1)then some m else none) (sxI,1)=some m:=if_pos rfl;obtain⟨b,hbb⟩:∃ b:ByteArray×Int->Option Mem,b=fun x=>if x=(sxI,1)then some m else none:=⟨_,rfl⟩
 rw[<-hbb]at hO h1;have hl:zAq b sxI=1:=by unfold zAq;simp[List.range_succ_eq_map,h1]
 have hf:zAR b sxI=m:=by unfold zAR;rw[hl,h1];rfl
 have hB:buildA b sxI=⟨sxI,[p],1,1,1,[sxX]⟩:=by
  unfold buildA;rw[hf,k4,k5,k6];simp[pathAt,h1,k1,List.range_succ_eq_map]
 simp only[List.map_cons,List.map_nil,hB]at hO;cases O with
 | nil=>simp at hO
 | cons o t=>
  cases t with
  | cons o' t=>simp at hO
  | nil=>
   have ho:o.toArr=⟨sxI,[p],1,1,1,[sxX]⟩:=by simpa using hO
   exact⟨o,rfl,congrArg Arr.i ho,congrArg Arr.t ho,congrArg Arr.e ho,congrArg Arr.n ho,congrArg Arr.l ho⟩
theorem zHZ {p:ByteArray}{rd:Int}(hp:p.toList.isEmpty=false)(h:MidR ds tx E K r S M G M3 G2)(h2:S.filterMap (fun s=>ofK 2 mk2 s.o s.r (tx s.d))=[mk2 p rd sxCR])(h3:S.filterMap (fun s=>ofK 3 mk3 s.o s.r (tx s.d))=[]):
  (M3,G2)=(if (G.any fun y=>decide (y=(mdK,sxI)))=true then (wantS tx S M r S.length,G++[(mdK,sxI)])else (zn (wantS tx S M r S.length) (sxW r),G++[(mdK,sxI)])):=by
 obtain⟨L2,ids2,O2,M2,L3,ids3,e2,i2,o2,a2,e3,i3,a3⟩:=h;rw[h2]at e2;obtain⟨o,rfl,q1,q2,q3,q4,q5⟩:=zIU hp e2 i2 o2;rw[h3]at e3;obtain rfl:=zCR e3;obtain rfl:=zHj i3;have hv:mdOf o.i o.l r=sxW r:=by rw[q1,q5];rfl
 have ha:arrAll ds E r (wantS tx S M r S.length,G) [o] [o].length=zBK ds E r (wantS tx S M r S.length,G) o:=rfl;rw[ha]at a2;unfold zBK at a2;have hmu:∀ ex xp,mustB o.t o.e o.n ex xp=true:=fun ex xp=>by rw[q2,q3,q4];unfold mustB;simp
 rw[if_pos (hmu _ _),hv,q1]at a2;have:M3=M2:=by rw[a3];rfl
 rw[this];exact a2
end
structure SxD (d0:Dev)(tx:Dev->ByteArray):Prop where
 h0:d0.orig=sxA
 hk:d0.kind=2
 ht:tx d0=sxT
 hp:d0.parent=0
 hi:d0.index=1
structure SxP (d1:Dev)(tx:Dev->ByteArray):Prop where
 g0:d1.orig=sxB
 gt:tx d1=sxR
 gp:d1.parent=1
 gi:d1.index=2
theorem zKe {d0:Dev}{tx:Dev->ByteArray}(D:SxD d0 tx)(r:Int):pwL sxPA d0 (tx d0) r=[sxV r]:=by
 have ⟨h0,hk,ht,hp,hi⟩:=D;unfold pwL;rw[ht,sxPT];show (if sxCT.kind=5/\d0.kind=2 then pwF sxPA d0.orig r (sxCT.inner.map Ct.txt) sxCT.inner.length else [])=_
 rw[if_pos ⟨rfl,hk⟩,sx_r,h0];have:sxCT.inner.length=0+1:=rfl;rw[this,zDq];have hok:partOk sxA 1=true:=by kernel_rfl
 have hT:partT sxA 1=sxB:=by kernel_rfl
 simp[pwF,zAQ,hok,hT,sxV]
theorem zLB {d0:Dev}{tx:Dev->ByteArray}(D:SxD d0 tx){k:Int}(hk5:k≠5)(mk:ByteArray->Int->Ct->Mem)(p:ByteArray)(rd:Int):ofK k mk p rd (tx d0)=none:=by
 have ⟨h0,hk,ht,hp,hi⟩:=D;refine zFd (fun c hc=>?_);rw[ht,sxPT]at hc;injection hc with hc
 subst hc;exact fun h=>hk5 h.symm
theorem sx_f {d0:Dev}{tx:Dev->ByteArray}(D:SxD d0 tx){k:Int}(hk5:k≠5)(mk:ByteArray->Int->Ct->Mem)(a0:Int)(p:ByteArray)(rd:Int)(t:List Src):(⟨a0,d0,p,rd⟩::t:List Src).filterMap (fun s=>ofK k mk s.o s.r (tx s.d))=t.filterMap (fun s=>ofK k mk s.o s.r (tx s.d)):=by
 have ⟨h0,hk,ht,hp,hi⟩:=D;rw[List.filterMap_cons,zLB D hk5 mk p rd]
theorem zJj {d0:Dev}{tx:Dev->ByteArray}(D:SxD d0 tx)(M:List Vir)(r:Int):wantS tx [⟨0,d0,sxPA,0⟩] M r [(⟨0,d0,sxPA,0⟩:Src)].length=zn M (sxV r):=by
 have ⟨h0,hk,ht,hp,hi⟩:=D;show zj M (pwL sxPA d0 (tx d0) r)=_
 rw[zKe D];rfl
theorem zFV {d0:Dev}{tx:Dev->ByteArray}(D:SxD d0 tx){ds:List Dev}{C S':List Src}{M M':List Vir}{G G':List (ByteArray×ByteArray)}{r:Int}(h:NextR ds tx [] [] C r [⟨0,d0,sxPA,0⟩] M G S' M' G'):M'=zn M (sxV r)/\G'=G:=by
 have ⟨h0,hk,ht,hp,hi⟩:=D;have h4:[(⟨0,d0,sxPA,0⟩:Src)].filterMap (fun s=>ofK 4 mk4 s.o s.r (tx s.d))=[]:=by rw[sx_f D (by decide)];rfl
 obtain⟨h1,h2⟩:=zJ3 (zFh h h4) (by rw[sx_f D (by decide)];rfl) (by rw[sx_f D (by decide)];rfl);exact⟨by rw[h1,zJj D],h2⟩
theorem zLC : inW [sxV 1] sxPA sxB=true:=by unfold inW sxV;simp
theorem zJF : zn [] (sxV 1)=[sxV 1]:=by unfold zn inW;simp
theorem zJE (r:Int):zn [sxV 1] (sxV r)=[sxV 1]:=by unfold zn;rw[if_pos];exact zLC
theorem zIN (r:Int):zn [sxV 1,sxW 2] (sxV r)=[sxV 1,sxW 2]:=by unfold zn;rw[if_pos];unfold inW sxV;simp
theorem zJm : zn [sxV 1] (sxW 2)=[sxV 1,sxW 2]:=by
 unfold zn;rw[if_neg]
 ·rfl
 ·unfold inW sxV sxW;simp[sxPA]
theorem zG9 {a b:Src}{l:List Src}(h:l.Perm [a,b])(hs:l.Pairwise fun x y=>x.at_<=y.at_)(hab:a.at_<b.at_):l=[a,b]:=by
 have hl:=h.length_eq
 match l,hl with
 | [x,y],_=>
  have hx:x∈[a,b]:=h.mem_iff.1 (by simp);have hy:y∈[a,b]:=h.mem_iff.1 (by simp);have ha:a∈[x,y]:=h.mem_iff.2 (by simp);have hb:b∈[x,y]:=h.mem_iff.2 (by simp);have hxy:x.at_<=y.at_:=by simpa using hs
  simp at hx hy ha hb;rcases hx with rfl | rfl
  ·rcases hy with rfl | rfl
   ·rcases hb with rfl | rfl<;>omega
   ·rfl
  ·rcases hy with rfl | rfl
   ·omega
   ·rcases ha with rfl | rfl<;>omega
theorem zJl {ds:List Dev}{tx:Dev->ByteArray}{M:List Vir}{r:Int}{s:Src}(h:M.find? (fun v=>decide ((v.q,v.o)=(plc ds s.d.parent,s.d.orig)))=none):againB ds tx M r s=false:=by
 unfold againB;rw[h]
theorem zJG {d0:Dev}{tx:Dev->ByteArray}(D:SxD d0 tx)(ds:List Dev)(hds:∀ d∈ds,d.index≠0)(M:List Vir)(hM:∀ v∈M,v.o≠sxA)(r:Int)(a0:Int)(p:ByteArray)(rd:Int):againB ds tx M r ⟨a0,d0,p,rd⟩=false:=by
 have ⟨h0,hk,ht,hp,hi⟩:=D;refine zJl ?_;rw[List.find?_eq_none];intro v hv;have:=hM v hv;rw[h0];simp;exact fun _=>this
theorem zJn {d0:Dev}{tx:Dev->ByteArray}(D:SxD d0 tx){M:List Vir}{S':List Src}{M':List Vir}{G':List (ByteArray×ByteArray)}{r:Int}(hM:M=[]/\r=1\/M=[sxV 1])(h:NextR [d0] tx [] [] [⟨0,d0,sxPA,0⟩] r [⟨0,d0,sxPA,0⟩] M [] S' M' G'):S'=[⟨0,d0,sxPA,0⟩]/\M'=[sxV 1]/\G'=[]:=by
 have ⟨h0,hk,ht,hp,hi⟩:=D;obtain⟨hM',hG⟩:=zFV D h;have hM1:M'=[sxV 1]:=by
  rcases hM with⟨rfl,rfl⟩ | rfl
  ·rw[hM',zJF]
  ·rw[hM',zJE]
 refine⟨?_,hM1,hG⟩;have hpm:=h.2.1;have hno:=zJG D [d0] (by simp[hi]) M' (by rw[hM1];unfold sxV sxB sxA;simp) r 0 sxPA 0;have:moreS [d0] tx M' r [⟨0,d0,sxPA,0⟩] [(⟨0,d0,sxPA,0⟩:Src)].length=[]:=by
  unfold moreS;simp[hno]
 rw[this,List.append_nil]at hpm;exact List.perm_singleton.1 hpm
theorem zJk {d0 d1:Dev}{tx:Dev->ByteArray}(D:SxD d0 tx)(P:SxP d1 tx):plc [d0,d1] d1.parent=sxPA:=by
 have ⟨h0,hk,ht,hp,hi⟩:=D;have ⟨g0,gt,gp,gi⟩:=P;have hl:look [d0,d1] 1=some d0:=by unfold look;simp[hi]
 have hl0:look [d0,d1] 0=none:=zAb.2 (by simp[hi,gi]);unfold plc origin chain;rw[gp,hl];show pathOf ((chainK [d0,d1] (1+1) 1).map Dev.orig).reverse=sxPA
 unfold chainK;rw[hl];show pathOf ((d0::chainK [d0,d1] (0+1) d0.parent).map Dev.orig).reverse=sxPA
 unfold chainK;rw[hp,hl0];show pathOf [d0.orig]=sxPA
 rw[h0];kernel_rfl
theorem zIP {d0 d1:Dev}{tx:Dev->ByteArray}(D:SxD d0 tx)(P:SxP d1 tx)(M:List Vir)(r:Int):againB [d0,d1] tx (sxV 1::M) r ⟨1,d1,sxPB,0⟩=(1==r):=by
 have ⟨h0,hk,ht,hp,hi⟩:=D;have ⟨g0,gt,gp,gi⟩:=P;have e:plc [d0,d1] (Src.d ⟨1,d1,sxPB,0⟩).parent=sxPA:=zJk D P;unfold againB;have:(sxV 1::M).find? (fun v=>decide ((v.q,v.o)=(plc [d0,d1] (Src.d ⟨1,d1,sxPB,0⟩).parent,(Src.d ⟨1,d1,sxPB,0⟩).orig)))=some (sxV 1):=by
  rw[List.find?_cons_of_pos];rw[e];show decide ((sxPA,sxB)=(sxPA,d1.orig))=true
  rw[g0];simp
 rw[this];show ((1==r)&&(sxR.toList==(tx d1).toList))=_
 rw[gt];simp
theorem zHA {d0 d1:Dev}{tx:Dev->ByteArray}(D:SxD d0 tx)(P:SxP d1 tx){M:List Vir}{r:Int}(hM:∀ v∈M,v.o≠sxA):moreS [d0,d1] tx (sxV 1::M) r [⟨0,d0,sxPA,0⟩,⟨1,d1,sxPB,0⟩] [(⟨0,d0,sxPA,0⟩:Src),⟨1,d1,sxPB,0⟩].length=if r=1 then [⟨1,d1,sxPB,r⟩]else []:=by
 have ⟨h0,hk,ht,hp,hi⟩:=D;have ⟨g0,gt,gp,gi⟩:=P;have a0:=zJG D [d0,d1] (by simp[hi,gi]) (sxV 1::M) (by
  intro v hv;rcases List.mem_cons.1 hv with rfl | hv
  ·show sxB≠sxA
   decide
  ·exact hM v hv) r 0 sxPA 0
 have a1:=zIP D P M r;unfold moreS;show (([(⟨0,d0,sxPA,0⟩:Src),⟨1,d1,sxPB,0⟩]).filter _).map _=_
 rw[List.filter_cons_of_neg (by rw[a0];simp)];by_cases hr:r=1
 ·subst hr;rw[List.filter_cons_of_pos (by rw[a1];rfl),if_pos rfl];rfl
 ·rw[List.filter_cons_of_neg (by rw[a1];simpa using fun h=>hr h.symm),if_neg hr];rfl
theorem zIO {d0 d1:Dev}{tx:Dev->ByteArray}(D:SxD d0 tx)(P:SxP d1 tx){S':List Src}{M':List Vir}{G':List (ByteArray×ByteArray)}(h:NextR [d0,d1] tx [] [] [⟨0,d0,sxPA,0⟩,⟨1,d1,sxPB,0⟩] 1 [⟨0,d0,sxPA,0⟩] [] [] S' M' G'):S'=[⟨0,d0,sxPA,0⟩,⟨1,d1,sxPB,1⟩]/\M'=[sxV 1]/\G'=[]:=by
 have ⟨h0,hk,ht,hp,hi⟩:=D;have ⟨g0,gt,gp,gi⟩:=P;obtain⟨hM',hG⟩:=zFV D h;rw[zJF]at hM';refine⟨?_,hM',hG⟩;have hpm:=h.2.1;rw[hM',zHA D P (by simp),if_pos rfl]at hpm;exact zG9 hpm h.2.2 (by show (0:Int)<1;omega)
theorem zFW {d0 d1:Dev}{tx:Dev->ByteArray}(D:SxD d0 tx)(P:SxP d1 tx){S':List Src}{M M':List Vir}{G G':List (ByteArray×ByteArray)}{r:Int}(hr:(r=2/\M=[sxV 1]/\G=[])\/(3<=r/\M=[sxV 1,sxW 2]/\(G.any fun y=>decide (y=(mdK,sxI)))=true))(h:NextR [d0,d1] tx [] [] [⟨0,d0,sxPA,0⟩,⟨1,d1,sxPB,0⟩] r [⟨0,d0,sxPA,0⟩,⟨1,d1,sxPB,1⟩] M G S' M' G'):
  S'=[⟨0,d0,sxPA,0⟩,⟨1,d1,sxPB,1⟩]/\M'=[sxV 1,sxW 2]/\G'=G++[(mdK,sxI)]:=by
 have ⟨h0,hk,ht,hp,hi⟩:=D;have ⟨g0,gt,gp,gi⟩:=P;have hyes:∀ (k:Int) (mk:ByteArray->Int->Ct->Mem),[(⟨0,d0,sxPA,0⟩:Src),⟨1,d1,sxPB,1⟩].filterMap (fun s=>ofK k mk s.o s.r (tx s.d))=if k=2 then [mk sxPB 1 sxCR]else if k=5 then [mk sxPA 0 sxCT]else []:=by
  intro k mk;have e0:ofK k mk sxPA 0 (tx d0)=if k=5 then some (mk sxPA 0 sxCT)else none:=by
   unfold ofK;rw[ht,sxPT];show (if (5:Int)=k then some (mk sxPA 0 sxCT)else none)=_
   by_cases hk5:k=5
   ·rw[if_pos hk5.symm,if_pos hk5]
   ·rw[if_neg (fun h=>hk5 h.symm),if_neg hk5]
  have e1:ofK k mk sxPB 1 (tx d1)=if k=2 then some (mk sxPB 1 sxCR)else none:=by
   unfold ofK;rw[gt,sxPR];show (if (2:Int)=k then some (mk sxPB 1 sxCR)else none)=_
   by_cases hk5:k=2
   ·rw[if_pos hk5.symm,if_pos hk5]
   ·rw[if_neg (fun h=>hk5 h.symm),if_neg hk5]
  rw[List.filterMap_cons,e0,List.filterMap_cons,e1];by_cases hk2:k=2
  ·subst hk2;rfl
  ·by_cases hk5:k=5
   ·subst hk5;rfl
   ·simp[hk2,hk5]
 have hmid:=zFh h (by rw[hyes];rfl);have hres:=zHZ (p:=sxPB) (rd:=1) (by simp[ByteArray.toList_eq,sxPB]) hmid (by rw[hyes];rfl) (by rw[hyes];rfl);have hw:wantS tx [(⟨0,d0,sxPA,0⟩:Src),⟨1,d1,sxPB,1⟩] M r [(⟨0,d0,sxPA,0⟩:Src),⟨1,d1,sxPB,1⟩].length=zn M (sxV r):=by
  show zj (zj M (pwL sxPA d0 (tx d0) r)) (pwL sxPB d1 (tx d1) r)=_
  rw[zKe D,zJK (s:=tx d1) (fun c hc=>by
   rw[gt,sxPR]at hc;injection hc with hc
   subst hc;decide)]
  rfl
 rw[hw]at hres;have hMG:M'=[sxV 1,sxW 2]/\G'=G++[(mdK,sxI)]:=by
  rcases hr with⟨rfl,rfl,rfl⟩ | ⟨-,rfl,hg⟩
  ·rw[if_neg (by simp),zJE,zJm]at hres;injection hres with b1 b2
   exact⟨b1,b2⟩
  ·rw[if_pos hg,zIN]at hres;injection hres with b1 b2
   exact⟨b1,b2⟩
 refine⟨?_,hMG.1,hMG.2⟩;have hpm:=h.2.1;have hr1:r≠1:=by rcases hr with⟨h,_⟩ | ⟨h,_⟩<;>omega
 rw[hMG.1,zHA D P (by intro v hv;simp at hv;subst hv;show sxM≠sxA;decide),if_neg hr1,List.append_nil]at hpm;exact zG9 hpm h.2.2 (by show (0:Int)<1;omega)
theorem zBn {H:Type}{P:Program}{e:TypeId}(he:P.underlying e=some .bool){v:Value}{z:DataW H×List MemPlace}(h:plainElem P e v=some z):∃ b,v=.bool b/\z=(.lit (.bool b),[]):=by
 unfold plainElem at h;rw[he]at h;cases v<;>simp at h;exact⟨_,rfl,h.symm⟩
theorem zA6 {H:Type}{P:Program}(w:World){ops:Array Oper}{rest:List Oper}{o:Oper}{a:Act}{Q:Exit->Act->World->Prop}
  (hg:o.guard=none) (m x:Operand) (t:TypeId) (hop:o.op=Op.lookup t m x false)
  (k e:TypeId) (K:Keyed P k) (ht:P.underlying t=some (.map k e)) (he:P.underlying e=some .bool) (hz:(zeroValue e).run P w=.ok (.bool false) w) (b n:Nat) (D:DataW H)
  (hm:a.eval m=.map (some b)) (hown:w.ownsMap P k (plainElem P e) b n D) (key:Value) (kl:Lit) (hx:a.eval x=key) (hkey:keyOf P k key=some kl)
  (c0:Bool) (hc0:D.atKey kl (.lit (.bool false))=.lit (.bool c0))
  (hK:wpList P ops Q rest (a.put o.dst (.bool c0)) w):
  wpList P ops Q (o::rest) a w:=by
 refine wpList_plain hg fun K' hK'=>?_
 obtain⟨v,ps,hrun,hv⟩:=hown.lookup K ht hz (plainElem_bool he false) hkey;obtain⟨c,rfl,hc⟩:=zBn he hv;simp only[Prod.mk.injEq]at hc;obtain rfl:c=c0:=by
  have:=hc.1.symm.trans hc0
  simpa using this
 unfold Oper.wp;simp[execOp,hop,hm,hx,hrun,Result.andThen];exact hK' _ _ hK
def BMap (w:World)(mb:Nat)(g:Int->Bool)(N:Nat):Prop:=
 ∃ (D:DataW Unit) (n:Nat),n<=N/\w.ownsMap Tryz.prog 3 (plainElem Tryz.prog 4) mb n D/\∀ x,D.atKey (.int .i64 x) (.lit (.bool false))=.lit (.bool (g x))
theorem BMap.lt {w:World}{mb:Nat}{f:Int->Bool}{N:Nat}(h:BMap w mb f N):mb<w.heap.size:=by
 obtain⟨D,n,_,ho,_⟩:=h;exact ho.lt
theorem BMap.fr {S:Nat->Prop}{w w':World}{mb:Nat}{f:Int->Bool}{N:Nat}(h:BMap w mb f N)(hf:Fr S w w')(hS:¬ S mb):BMap w' mb f N:=by
 obtain⟨D,n,hn,ho,r⟩:=h;exact⟨D,n,hn,hf.ownsMap ho hS,r⟩
theorem zeroB (w:World):(zeroValue 4).run Tryz.prog w=.ok (.bool false) w:=by kernel_rfl
theorem zH3 (w:World):BMap (w.alloc (.map #[] 0)) w.heap.size (fun _=>false) 0:=
 ⟨.map [],0,Nat.le_refl _,World.ownsMap_made _ _ _ _,fun _=>rfl⟩
theorem BMap.put {w w1:World}{mb:Nat}{D:DataW Unit}{n N:Nat}{g:Int->Bool}(hn:n<=N)(ho:w.ownsMap Tryz.prog 3 (plainElem Tryz.prog 4) mb n D)(h:∀ x,D.atKey (.int .i64 x) (.lit (.bool false))=.lit (.bool (g x)))
  (x:Int) (b:Bool) (ho1:w1.ownsMap Tryz.prog 3 (plainElem Tryz.prog 4) mb (n+1) (D.put (.int .i64 x) (.lit (.bool b)))):BMap w1 mb (upd g x b) (N+1):=by
 refine⟨_,n+1,by omega,ho1,fun y=>?_⟩;unfold upd;split
 ·rename_i e;subst e;exact atKey_put_same ho.isMap (zBv _) _ _
 ·rename_i e;rw[atKey_put_other (by intro e';exact e (by simpa using e'))];exact h y
end Go.Proofs.YtmajgldaplkpiaaGreatDoor
