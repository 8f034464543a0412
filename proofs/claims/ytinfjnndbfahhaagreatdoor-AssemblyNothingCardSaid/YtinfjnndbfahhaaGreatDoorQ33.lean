import Derived.Test.YtinfjnndbfahhaaGreatDoorQ32
namespace Go.Proofs.YtinfjnndbfahhaaGreatDoor
open Go.RowKit Go.Maps
set_option linter.unusedVariables false
set_option maxRecDepth 100000
set_option maxHeartbeats 8000000
theorem zAj {w:World}{h:Array Oper}{f:List Oper}{o:Oper}{a:Act}{Q:Exit->Act->World->Prop}(y:o.guard=none)(m x:Operand)(t:TypeId)(u:o.op=Op.lookup t m x false)(z:Tryz.prog.underlying t=some (.map 3 4))
  (v:Nat) (g:Int->Bool) (N:Nat) (k:Int) (A:(Lit.int .i64 k).wf=true) (C:a.eval m=.map (some v)) (q:BMap w v g N) (F:a.eval x=.int .i64 k) (b:Bool) (I:g k=b)
  (J:wpList Tryz.prog h Q f (a.put o.dst (.bool b)) w):wpList Tryz.prog h Q (o::f) a w:=by
 obtain⟨D,n,_,L,O⟩:=q;subst I;exact zBE w y m x t u 3 4 lawI z (by kernel_rfl) (zeroB w) v n D C L _ _ F (keyOf_int_mk Tryz.underlying3 A) _ (O k) J
theorem zBi {w:World}{q:Array Oper}{f:List Oper}{o:Oper}{a:Act}{Q:Exit->Act->World->Prop}(C:o.guard=none)(m x v:Operand)(t:TypeId)(z:o.op=Op.mapUpdate t m x v)(F:Tryz.prog.underlying t=some (.map 3 4))
  (u:Nat) (g:Int->Bool) (N:Nat) (Y:N<maxLen) (k:Int) (I:(Lit.int .i64 k).wf=true) (b:Bool) (J:a.eval m=.map (some u)) (y:BMap w u g N) (L:a.eval x=.int .i64 k) (O:a.eval v=.bool b)
  (R:∀ w',BMap w' u (upd g k b) (N+1)->Fr (Is u) w w'->wpList Tryz.prog q Q f (a.put o.dst undef) w'):wpList Tryz.prog q Q (o::f) a w:=by
 obtain⟨D,n,U,A,V⟩:=y;exact wpList_mapUpdate_own w C m x v t z 3 4 lawI F _ u n D J A (by omega) _ _ _ L O (keyOf_int_mk Tryz.underlying3 I) (.lit (.bool b)) [] (plainElem_bool (by kernel_rfl) b) (fun w' h X=>R w' (BMap.put U A V k b h) (Fr.of_grown_some X))
def usedF (l:List Dev):Int->Bool:=fun n=>l.any fun d=>(d.num==n)&&(d.kind==2)
def maxI (l:List Dev):Int:=l.foldl (fun m d=>max m d.index) 0
theorem zIK (l:List Dev)(d:Dev):maxI (l++[d])=max (maxI l) d.index:=by unfold maxI;rw[List.foldl_append];rfl
theorem zGy (l:List Dev)(d:Dev):upd (usedF l) d.num (usedF l d.num||(d.kind==2))=usedF (l++[d]):=by
 funext n
 unfold upd usedF;rw[List.any_append];by_cases h:n=d.num
 ·subst h;rw[if_pos rfl];simp
 ·rw[if_neg h];have:(d.num==n)=false:=by simp;exact fun e=>h e.symm
  simp[this]
theorem zJY (pb O:Nat)(a:Option Addr)(I:Nat)(ds:List Dev)(v1:Value)(w:World)(hl:Tr w O a I ds)(hn:ds.length<=250)(U:w.heap[pb]?=some (.cells #[.slice a ds.length I,v1] 135))(hu:usedF ds 1048576=false)
  (o:∀ d∈ds,(Lit.int .i64 d.num).wf=true):
  Calls Tryz.prog 124 #[.pointer (some ⟨pb,0,none⟩)] w fun e w'=>e=.returned (.tuple #[.int .i64 1048576,.int .i64 (maxI ds)])/\Fr No w w':=by
 have b1:=hl.dv.lenmax;obtain⟨Y,J⟩:∃ Y,Y=w.alloc (.map #[] 0):=⟨_,rfl⟩
 have x0:Fr No w Y:=by rw[J];exact(Fr.refl _ _).alloc _
 have hM:BMap Y w.heap.size (usedF []) 0:=by rw[J];exact zDN w
 have t0:Y.cell? ⟨pb,0,none⟩=some (.slice a ds.length I):=zB (x0.heap U id) 0;have b2:=zC U;have HT:=zh (And.intro hl (And.intro hn hu));have HW:=zh o;have HX:=zh x0;have a6:=@run_makeMap Tryz.prog;clear hl hn U hu o x0
 go_enter Tryz.func124,Tryz.ntmps124
 go_upto_region 2 with(fail)
 rw[<-J];clear J
 go_wp2_with fail
 clear t0 a6
 go_loopw [5,16] (fun u i wr=>∃ k,k<=ds.length/\u=.int .i64 (maxI (ds.take k))/\i=.int .i64 (k:Int)/\BMap wr w.heap.size (usedF (ds.take k)) k/\Fr (Is w.heap.size) Y wr) (fun _ i _=>ds.length-(intOf i).toNat)
 case atStart=>exact⟨0,by omega,rfl,rfl,hM,Fr.refl _ _⟩
 case round=>
  obtain⟨k,hk,rfl,rfl,Z,hf⟩:=hrel;by_cases a7:k<ds.length
  ·have a2:(k:Int)<ds.length:=by omega
   have a3:Tr wr O a I ds:=HT.out.1.no (HX.out.step hf (fun b hb h=>by unfold Is at h;omega));obtain⟨bb,b3,d,rfl,hd,R,c1,c2,c3,c4,c5,c6,c7,c8,c9⟩:=a3.dv.dev a7;have a4:=List.mem_of_getElem? hd;have a5:Hid (ds.take (k+1)=ds.take k++[d]):=by unfold Hid;rw[List.take_add_one,hd];rfl
   obtain⟨W1,y⟩:∃ W1,W1=wr.alloc (.cells d.vals 36):=⟨_,rfl⟩
   have V:Fr No wr W1:=by rw[y];exact(Fr.refl _ _).alloc _
   have d1:W1.heap[wr.heap.size]?=some (.cells d.vals 36):=by rw[y];exact zD _ _
   have q:=Z.fr V id;have b4:w.heap.size<wr.heap.size:=Z.lt;have o:=HW.out d a4;have X:=zh (hf.step V zn);have z:=DevB.of d1;unfold Dev.vals at y;obtain⟨u0,v⟩:∃ u0,u0=usedF (ds.take k) d.num:=⟨_,rfl⟩
   have hU:Hid (upd (usedF (ds.take k)) d.num (u0||(d.kind==2))=usedF (ds.take (k+1))):=by unfold Hid;rw[v,a5.out,zGy]
   have A:Hid (maxI (ds.take (k+1))=max (maxI (ds.take k)) d.index):=by unfold Hid;rw[a5.out,zIK]
   clear hd Z hf V d1 a3
   go_upto_region 5 with(fail)
   rw[<-y];clear y R c1 c2 c3 c4 c5 c6 c7 c8 c9;obtain⟨R,c1,c2,c3,c4,c5,c6,c7,c8,c9⟩:=z;have b5:k<=250:=by have:=HT.out.2.1;omega
   have a8:=A;obtain⟨mx,L⟩:∃ mx,mx=max (maxI (ds.take k)) d.index:=⟨_,rfl⟩
   rw[<-L]at A;clear a8;rcases hu1:u0 with _ | _
   ·have N:=v.symm.trans hu1;rcases hkd:(d.kind==2)with _ | _
    ·skip;have C:Hid (upd (usedF (ds.take k)) d.num false=usedF (ds.take (k+1))):=by unfold Hid;rw[<-hU.out,hu1,hkd];rfl
     clear hU v hu1
     go_wp2_with (first
      | (at_lookup;refine zAj rfl _ _ 213 rfl Tryz.underlying213 w.heap.size _ _ d.num o rfl q rfl false N ?_)
      | (at_mapUpdate;refine zBi rfl _ _ _ 213 rfl Tryz.underlying213 w.heap.size _ _ (by unfold maxLen;omega) d.num o false rfl q rfl rfl ?_;intro w6 f g;have R:w6.cell? ⟨wr.heap.size,0,none⟩=some (.int .i64 d.index):=g.cell R (fun h=>by unfold Is at h;dsimp only at h;omega)))
     rw[C.out]at f;have D:=zh (X.out.step g (fun b _ h=>h));have F:=zh f;clear f g q
     go_roundw
     case rel=>exact⟨k+1,by omega,by rw[A.out,L],by go_num,F.out,D.out⟩
     case measure=>simp[intOf];omega
    ·skip;have C:Hid (upd (usedF (ds.take k)) d.num true=usedF (ds.take (k+1))):=by unfold Hid;rw[<-hU.out,hu1,hkd];rfl
     clear hU v hu1
     go_wp2_with (first
      | (at_lookup;refine zAj rfl _ _ 213 rfl Tryz.underlying213 w.heap.size _ _ d.num o rfl q rfl false N ?_)
      | (at_mapUpdate;refine zBi rfl _ _ _ 213 rfl Tryz.underlying213 w.heap.size _ _ (by unfold maxLen;omega) d.num o true rfl q rfl rfl ?_;intro w6 f g;have R:w6.cell? ⟨wr.heap.size,0,none⟩=some (.int .i64 d.index):=g.cell R (fun h=>by unfold Is at h;dsimp only at h;omega)))
     rw[C.out]at f;have D:=zh (X.out.step g (fun b _ h=>h));have F:=zh f;clear f g q
     go_roundw
     case rel=>exact⟨k+1,by omega,by rw[A.out,L],by go_num,F.out,D.out⟩
     case measure=>simp[intOf];omega
   ·have N:=v.symm.trans hu1;have hkd:(true||(d.kind==2))=true:=rfl;have C:Hid (upd (usedF (ds.take k)) d.num true=usedF (ds.take (k+1))):=by unfold Hid;rw[<-hU.out,hu1];rfl
    clear hU v hu1
    go_wp2_with (first
     | (at_lookup;refine zAj rfl _ _ 213 rfl Tryz.underlying213 w.heap.size _ _ d.num o rfl q rfl true N ?_)
     | (at_mapUpdate;refine zBi rfl _ _ _ 213 rfl Tryz.underlying213 w.heap.size _ _ (by unfold maxLen;omega) d.num o true rfl q rfl rfl ?_;intro w6 f g;have R:w6.cell? ⟨wr.heap.size,0,none⟩=some (.int .i64 d.index):=g.cell R (fun h=>by unfold Is at h;dsimp only at h;omega)))
    rw[C.out]at f;have D:=zh (X.out.step g (fun b _ h=>h));have F:=zh f;clear f g q
    go_roundw
    case rel=>exact⟨k+1,by omega,by rw[A.out,L],by go_num,F.out,D.out⟩
    case measure=>simp[intOf];omega
  ·obtain rfl:k=ds.length:=by omega
   have a2:¬ (ds.length:Int)<ds.length:=by omega
   have a9:BMap wr w.heap.size (usedF ds) ds.length:=by rw[List.take_length]at Z;exact Z
   have Hf:=zh (HX.out.step hf (fun b hb h=>by unfold Is at h;omega));have b0:=HT.out.2.2;rw[List.take_length];clear Z hf
   go_wp2_with fail
   go_loopw [8] (fun x wz=>x=.int .i64 1048576/\wz=wr) (fun _ _=>0)
   case atStart=>exact⟨rfl,rfl⟩
   case round=>
    obtain⟨rfl,rfl⟩:=hrel
    go_wp2_with (at_lookup;refine zAj rfl _ _ 213 rfl Tryz.underlying213 w.heap.size _ _ 1048576 (by decide) rfl a9 rfl false b0 ?_)
    go_ret2
    exact⟨rfl,Hf.out⟩
def addD (x:Dev)(ix p:Int):Dev:=⟨ix+1,p,x.orig,x.orig,x.sub,⟨#[]⟩,x.ali,x.kind,x.num,x.aa,x.an,x.ac⟩
def ocs (k:Int)(path:ByteArray)(x:Dev)(nm vl:ByteArray):Array Value:=#[.int .i64 k,.string path,.int .i64 x.index,.int .i64 x.parent,.string x.name,.string x.orig,.string x.sub,.string x.drv,.string x.ali,.int .i64 x.kind,.int .i64 x.num,.slice x.aa x.an x.ac,.string nm,.string vl]
structure OpB (W:World)(b:Nat)(k:Int)(path:ByteArray)(x:Dev)(nm vl:ByteArray):Prop where
 c0:W.cell? ⟨b,0,none⟩=some (.int .i64 k)
 c1:W.cell? ⟨b,1,none⟩=some (.string path)
 c2:W.cell? ⟨b,2,none⟩=some (.int .i64 x.index)
 c3:W.cell? ⟨b,3,none⟩=some (.int .i64 x.parent)
 c4:W.cell? ⟨b,4,none⟩=some (.string x.name)
 c5:W.cell? ⟨b,5,none⟩=some (.string x.orig)
 c6:W.cell? ⟨b,6,none⟩=some (.string x.sub)
 c7:W.cell? ⟨b,7,none⟩=some (.string x.drv)
 c8:W.cell? ⟨b,8,none⟩=some (.string x.ali)
 c9:W.cell? ⟨b,9,none⟩=some (.int .i64 x.kind)
 c10:W.cell? ⟨b,10,none⟩=some (.int .i64 x.num)
 c11:W.cell? ⟨b,11,none⟩=some (.slice x.aa x.an x.ac)
 c12:W.cell? ⟨b,12,none⟩=some (.string nm)
 c13:W.cell? ⟨b,13,none⟩=some (.string vl)
theorem OpB.of {W:World}{b:Nat}{k:Int}{f nm g:ByteArray}{x:Dev}{T:TypeId}{o:Nat×Nat}(h:W.heap[b]?=some (.cells (ocs k f x nm g) T o)):OpB W b k f x nm g:=
 ⟨zB h 0,zB h 1,zB h 2,zB h 3,zB h 4,zB h 5,zB h 6,zB h 7,zB h 8,zB h 9,zB h 10,zB h 11,zB h 12,zB h 13⟩
structure KSt (w:World)(kb base:Nat)(a:Option Addr)(cap:Nat)(ds:List Dev)(ev:Option Addr)(en ec:Nat)(ix:Int):Prop where
 blk:w.heap[kb]?=some (.cells (kcs a ds.length cap ev en ec ix) 60)
 tr:Tr w base a cap ds
 ta:BlkT w a 36
 te:∀ d∈ds,BlkT w d.aa 76
 own:∃ xs,w.ownsRow base 104 5 (.slice ev en ec) en xs
 nm:∀ d∈ds,d.name.size<=1000
def ParIs (ds:List Dev)(path:ByteArray)(p:Int):Prop:=(ds.find? (atP ds path)=none/\path=⟨#[]⟩/\p=0)\/∃ d,ds.find? (atP ds path)=some d/\p=d.index
theorem Cop.tr {w w':World}{B g:Nat}{q f:List Dev}{v:Option Addr}{c':Nat}(h:Cop w w' B q f)(C:∀ d∈q,Sized d/\d.drv=⟨#[]⟩)(D:Devs w' v c' f)(y:TreeWf f)(F:∀ o,v=some o->B<=o.block)(A:g<=B):Tr w' g v c' f:=
 ⟨D,y,fun o e=>Nat.le_trans A (F o e),fun V I=>by
  obtain⟨d,J,z⟩:=h.mem I;obtain⟨l,_,L,N,O⟩:=z.att;obtain⟨u,R⟩:=C d J;have e:=z.eq;refine⟨⟨by rw[e];exact u.name,by rw[e];exact u.orig,by rw[e];exact u.sub,by rw[e];exact u.drv,by rw[e];exact u.ali⟩,by rw[e];exact R,⟨l,L,by rw[e];exact N,O⟩,fun o U=>Nat.le_trans A (z.fresh o U)⟩⟩
theorem Cop.names {w w':World}{B:Nat}{f g:List Dev}(h:Cop w w' B f g)(o:∀ d∈f,d.name.size<=1000):∀ d∈g,d.name.size<=1000:=fun y q=>by
 obtain⟨d,u,v⟩:=h.mem q;rw[v.eq];exact o d u
theorem BlkT.ne_blk {w:World}{a:Option Addr}{T o:TypeId}(h:BlkT w a T){b:Nat}{cs:Array Value}(v:w.heap[b]?=some (.cells cs o))(g:T≠o):∀ f,a=some f->¬ Is b f.block:=fun f e q=>by
 obtain⟨y,u⟩:=h f e;unfold Is at q;rw[q,v]at u;cases u;exact g rfl
theorem Tr.typ {w w':World}{o:Nat}{a:Option Addr}{u:Nat}{ds:List Dev}{S:Nat->Prop}(h:Tr w o a u ds)(A:BlkT w a 36)(C:∀ d∈ds,BlkT w d.aa 76)(v:Fr S w w')
  (D:∀ b cs T,S b->w.heap[b]?=some (.cells cs T (0,0))->T≠36/\T≠76):Tr w' o a u ds/\BlkT w' a 36/\∀ d∈ds,BlkT w' d.aa 76:=by
 have F:∀ f,a=some f->¬ S f.block:=fun f e y=>by
  obtain⟨cs,z⟩:=A f e;exact(D _ _ _ y z).1 rfl
 have I:∀ d∈ds,∀ f,d.aa=some f->¬ S f.block:=fun d q f e y=>by
  obtain⟨cs,z⟩:=C d q f e;exact(D _ _ _ y z).2 rfl
 refine⟨⟨h.dv.fr v (fun f e _=>F f e),h.wf,h.fresh,fun d q=>?_⟩,A.fr v F,fun d q=>(C d q).fr v (I d q)⟩;have g:=h.el d q;obtain⟨l,J,L⟩:=g.att;exact⟨g.sz,g.drv,⟨l,J.fr v (fun f e _=>I d q f e),L⟩,g.fresh⟩
def AddRes (w w':World)(kb base:Nat)(ds:List Dev)(d:Dev)(en:Nat)(ix:Int):Prop:=
 ∃ a' cap' ds' ev' ec',KSt w' kb base a' cap' ds' ev' (en+1) ec' (ix+1)/\Cop w w' w.heap.size (ds++[d]) ds'
def KO (w w':World)(b:Nat)(ds:List Dev)(d:Dev)(ds':List Dev)(er:Int):Prop:=(er=44/\(sameO ds d||ds.any (clP d))=true)\/(er=0/\(sameO ds d||ds.any (clP d))=false/\Cop w w' b (insAt ds (insK ds d) d) ds')
theorem KO.fr {w w' f:World}{b:Nat}{ds:List Dev}{d:Dev}{g:List Dev}{o:Int}(h:KO w w' b ds d g o)(q:Fr No w' f):KO w f b ds d g o:=h.imp id (fun h=>⟨h.1,h.2.1,h.2.2.fr q (fun _ _ _ _=>id)⟩)
theorem KO.put {w w' f:World}{b:Nat}{ds:List Dev}{d:Dev}{g:List Dev}{q:Int}(h:KO w w' b ds d g q){B:Nat}{cs:Array Value}{T:TypeId}(u:w'.heap[B]?=some (.cells cs T))(o:76≠T)(v:Fr (Is B) w' f):KO w f b ds d g q:=h.imp id (fun h=>⟨h.1,h.2.1,h.2.2.fr v (fun d z=>by
 obtain⟨y,_,A⟩:=h.2.2.mem z;exact A.typ.ne_blk u o)⟩)
theorem KO.src {w o w':World}{b q:Nat}{ds:List Dev}{d:Dev}{f:List Dev}{u:Int}(h:KO o w' b ds d f u)(v:Fr No w o)(g:∀ y∈insAt ds (insK ds d) d,∃ l,Atts w y.aa y.ac l/\y.an=l.length)(z:q<=b):KO w w' q ds d f u:=h.imp id (fun h=>⟨h.1,h.2.1,h.2.2.src v g z⟩)
def InsAny (w w':World)(ds:List Dev)(d:Dev)(e:Ending):Prop:=
 ∃ a' c' ds' er,e=.returned (.tuple #[.agg #[.slice a' (List.length ds') c'],.int .i64 er])/\Devs w' a' c' ds'/\BlkT w' a' 36/\(∀ ad,a'=some ad->w.heap.size<=ad.block)/\KO w w' w.heap.size ds d ds' er
theorem InsAny.of {w w':World}{ds:List Dev}{d:Dev}{e:Ending}(h:InsTk w w' ds d e\/(sameO ds d||ds.any (clP d))=false/\zDV w w' ds d e):InsAny w w' ds d e:=by
 rcases h with⟨f,g⟩ | ⟨f,q,c',o,g,u,v,y,z⟩
 ·exact⟨none,0,[],44,g,Devs.nil _,BlkT.none _ _,(fun _ e=>by cases e),.inl ⟨rfl,f⟩⟩
 ·exact⟨q,c',o,0,g,u,v,y,.inr ⟨rfl,f,z⟩⟩
def zFz (w w':World)(kb base:Nat)(ds:List Dev)(d:Dev)(en:Nat)(ix:Int):Prop:=
 ∃ a' cap' ds' ev' ec',KSt w' kb base a' cap' ds' ev' (en+1) ec' (ix+1)/\Cop w w' w.heap.size (insAt ds (insK ds d) d) ds'
def AddOut (w w':World)(kb base:Nat)(ds:List Dev)(d:Dev)(ev:Option Addr)(en ec:Nat)(ix:Int)(e:Ending):Prop:=
 ((sameO ds d||ds.any (clP d))=true/\e=.returned (.tuple #[.int .i64 0,.int .i64 44])/\Fr No w w')\/
 ((sameO ds d||ds.any (clP d))=false/\e=.returned (.tuple #[.int .i64 (ix+1),.int .i64 0])/\zFz w w' kb base ds d en ix/\Fr (fun b=>b=kb\/(Value.slice ev en ec).ownBlock=some b) w w')
theorem zKO (D F:Nat)(a:Option Addr)(a9:Nat)(ds:List Dev)(ev:Option Addr)(en ec:Nat)(o:Int)(C nm vl:ByteArray)(x:Dev)(k p:Int)(l:List (ByteArray×ByteArray))(m:Int)(w:World)(hK:KSt w D F a a9 ds ev en ec o)(n2:en<=1000)(n3:0<=o/\o<=1000000)(hb:F<=w.heap.size)
  (hA:Atts w x.aa x.ac l) (h1:l.length<=1) (i6:x.an=l.length) (i7:x.kind=2) (hs:Sized (addD x o p)) (hp:ParIs ds C p) (k0:(Lit.int .i64 p).wf=true) (h6:InsPre ds (addD x o p) l) (i8:(sameO ds (addD x o p)||ds.any (clP (addD x o p)))=false->∀ w' f,Cop w w' w.heap.size (insAt ds (insK ds (addD x o p)) (addD x o p)) f->TreeWf f)
  (hm:w.cell? ⟨0,0,none⟩=some (.int .i64 m)) (h0:0<w.heap.size) (n4:0<D):
  Calls Tryz.prog 19 #[.pointer (some ⟨D,0,none⟩),.agg (ocs k C x nm vl)] w fun e w'=>AddOut w w' D F ds (addD x o p) ev en ec o e:=by
 have hn:=h6.len;obtain⟨xs,f0⟩:=hK.own;obtain⟨W0,d2⟩:∃ W0,W0=w.alloc (.cells (ocs k C x nm vl) 38):=⟨_,rfl⟩
 have x0:Fr No w W0:=by rw[d2];exact(Fr.refl _ _).alloc _
 have b0:W0.heap[w.heap.size]?=some (.cells (ocs k C x nm vl) 38):=by rw[d2];exact zD _ _
 have h7:=x0.heap hK.blk id;have k3:=zC hK.blk;have d3:=fun (W:World) (hf:Fr No w W)=>zD0 a a9 ds F C W (hK.tr.no hf) (by omega)
 have i9:=zh d3;have HK:=zh hK;have HA:=zh hA;have j0:=zh h6;have k4:=zh i8;have Hp:=zh hp;have j1:=zh i6;have HS:=zh hs;have k6:=zh i7;have Hm:=zh hm;have f1:=zh f0;clear d3 hA h6 i8 hp i6 hs i7 hm hK f0;unfold ocs at d2 ⊢
 go_enter Tryz.func19,Tryz.ntmps19
 go_upto_region 1 with(fail)
 rw[<-d2];clear d2
 go_cut [6,7] (fun p6 b7 wx=>∃ Bp pd bb,p6=.pointer (some ⟨Bp,0,none⟩)/\b7=.bool bb/\Hid (wx.heap[Bp]?=some (.cells (Dev.vals pd) 36)/\pd.index=p/\(bb=true\/C=⟨#[]⟩)/\w.heap.size<Bp)/\Fr No W0 wx)
 case first=>
  have dz:Dev.zero.vals=#[.int .i64 0,.int .i64 0,.string ⟨#[]⟩,.string ⟨#[]⟩,.string ⟨#[]⟩,.string ⟨#[]⟩,.string ⟨#[]⟩,.int .i64 0,.int .i64 0,.slice none 0 0]:=rfl;refine zb (fun b=>W0.heap.size<=b) (.q 0 (.q 1 (.q 2 (.q 3 (.q 4 (.q 5 (.m2 6 (.q 7 (.q 8 (.q 9 (.m1 10 (.m1 11 (.q 12 .fin)))))) 10 (.m1 6 (.q 7 (.q 8 (.q 9 (.m1 11 (.q 12 .fin))))))))))))) _ (by kernel_rfl) (by kernel_rfl) (fun W1 L=>?_) zj;have b1:=L.heap b0 id;have k1:=L.heap h7 id;have l0:=zC b0;have l1:=L.size;have t0:∀ g:Gr (fun b=>W0.heap.size<=b) W1,g.W.cell? ⟨D,0,none⟩=some (.slice a ds.length a9):=fun g=>zB (g.fr.heap k1 (fun h=>by omega)) 0
  have t1:∀ g:Gr (fun b=>W0.heap.size<=b) W1,g.W.cell? ⟨w.heap.size,1,none⟩=some (.string C):=fun g=>zB (g.fr.heap b1 (fun h=>by omega)) 1
  have x1:=zh (x0.step L zi)
  repeat((first|apply zM rfl rfl rfl|apply zO rfl rfl rfl);intro K hK;go_big_quiet_op;go_big_quiet_on)
  clear t0 t1;refine zv rfl rfl ?_ ?_
  ·skip
   ·have u:=i9.out W1 x1.out
    go_wp2_with fail
    refine u.mono ?_;rintro e w2 ⟨hF,b2⟩;clear u;obtain⟨pd,bb,rfl,d4,d5⟩:∃ pd bb,e=.returned (.tuple #[.agg (Dev.vals pd),.bool bb])/\pd.index=p/\(bb=true\/C=⟨#[]⟩):=by
     rcases hF with⟨Z,rfl⟩ | ⟨d,z,c',l',Z,rfl,_⟩
     ·rcases Hp.out with⟨_,V,h3⟩ | ⟨d,V,_⟩
      ·exact⟨Dev.zero,false,rfl,h3.symm,.inr V⟩
      ·rw[Z]at V;cases V
     ·rcases Hp.out with⟨V,_⟩ | ⟨d',V,h3⟩
      ·rw[Z]at V;cases V
      ·rw[Z]at V;cases V;exact⟨{ d with aa:=z,ac:=c' },true,rfl,h3.symm,.inl rfl⟩
    have d6:=zh (And.intro d4 d5);clear d4 d5;unfold Dev.vals
    go_wp2_with fail
    refine zm b2 ?_
    repeat((first|apply zM rfl rfl rfl|apply zO rfl rfl rfl);intro K hK;go_big_quiet_op;go_big_quiet_on)
    apply zH;exact rfl;obtain⟨W3,a2⟩:∃ W3,W3=w2.alloc (.cells #[.int .i64 0,.int .i64 0,.string ⟨#[]⟩,.string ⟨#[]⟩,.string ⟨#[]⟩,.string ⟨#[]⟩,.string ⟨#[]⟩,.int .i64 0,.int .i64 0,.slice none 0 0] 36):=⟨_,rfl⟩
    have f3:Fr No w2 W3:=by rw[a2];exact(Fr.refl _ _).alloc _
    have q3:W3.heap[w2.heap.size]?=some (.cells #[.int .i64 0,.int .i64 0,.string ⟨#[]⟩,.string ⟨#[]⟩,.string ⟨#[]⟩,.string ⟨#[]⟩,.string ⟨#[]⟩,.int .i64 0,.int .i64 0,.slice none 0 0] 36):=by rw[a2];exact zD _ _
    have HX:Hid (Fr No W0 W3):=(L.step b2 zi).step f3 zi;have n5:=b2.size
    go_wp2_with fail
    refine zp ?_;rw[<-a2];clear a2 f3;apply zH;exact rfl;obtain⟨z0,z1,z2,z3,z4,z5,z6,z7,z8,z9⟩:=DevB.of (d:=⟨0,0,⟨#[]⟩,⟨#[]⟩,⟨#[]⟩,⟨#[]⟩,⟨#[]⟩,0,0,none,0,0⟩) q3;obtain⟨y0,y1,y2,y3,y4,y5,y6,y7,y8,y9⟩:=DevF.of q3;have N:=zh (zBF q3 rfl pd);have l2:=zC q3;clear q3
    go_wp2_with fail
    refine OnlyN.mk ⟨N.out.2.mono (fun b _ h=>by unfold Is at h;omega),?_⟩
    repeat((first|apply zM rfl rfl rfl|apply zO rfl rfl rfl);intro K hK;go_big_quiet_op;go_big_quiet_on)
    refine zX ?_
    go_wp2_with fail
    go_meet
    exact⟨_,pd,bb,rfl,rfl,⟨N.out.1,d6.out.1,d6.out.2,by omega⟩,(HX.out.step N.out.2 (fun b hb h=>by unfold Is at h;omega))⟩
  ·skip
   ·obtain⟨W3,a2⟩:∃ W3,W3=W1.alloc (.cells #[.int .i64 0,.int .i64 0,.string ⟨#[]⟩,.string ⟨#[]⟩,.string ⟨#[]⟩,.string ⟨#[]⟩,.string ⟨#[]⟩,.int .i64 0,.int .i64 0,.slice none 0 0] 36):=⟨_,rfl⟩
    have f3:Fr No W1 W3:=by rw[a2];exact(Fr.refl _ _).alloc _
    have q2:W3.heap[W1.heap.size]?=some (.cells #[.int .i64 0,.int .i64 0,.string ⟨#[]⟩,.string ⟨#[]⟩,.string ⟨#[]⟩,.string ⟨#[]⟩,.string ⟨#[]⟩,.int .i64 0,.int .i64 0,.slice none 0 0] 36):=by rw[a2];exact zD _ _
    go_wp2_with fail
    refine zp ?_;rw[<-a2];clear a2;have u:=i9.out W3 (x1.out.step f3 zi);apply zH;exact rfl
    go_wp2_with fail
    refine u.mono ?_;rintro e w2 ⟨hF,b2⟩;clear u;obtain⟨pd,bb,rfl,d4,d5⟩:∃ pd bb,e=.returned (.tuple #[.agg (Dev.vals pd),.bool bb])/\pd.index=p/\(bb=true\/C=⟨#[]⟩):=by
     rcases hF with⟨Z,rfl⟩ | ⟨d,z,c',l',Z,rfl,_⟩
     ·rcases Hp.out with⟨_,V,h3⟩ | ⟨d,V,_⟩
      ·exact⟨Dev.zero,false,rfl,h3.symm,.inr V⟩
      ·rw[Z]at V;cases V
     ·rcases Hp.out with⟨V,_⟩ | ⟨d',V,h3⟩
      ·rw[Z]at V;cases V
      ·rw[Z]at V;cases V;exact⟨{ d with aa:=z,ac:=c' },true,rfl,h3.symm,.inl rfl⟩
    have d6:=zh (And.intro d4 d5);clear d4 d5;unfold Dev.vals;have q3:=b2.heap q2 id;have HX:Hid (Fr No W0 w2):=(L.step f3 zi).step b2 zi;clear q2 f3
    go_wp2_with fail
    refine zm b2 ?_
    repeat((first|apply zM rfl rfl rfl|apply zO rfl rfl rfl);intro K hK;go_big_quiet_op;go_big_quiet_on)
    apply zH;exact rfl;obtain⟨z0,z1,z2,z3,z4,z5,z6,z7,z8,z9⟩:=DevB.of (d:=⟨0,0,⟨#[]⟩,⟨#[]⟩,⟨#[]⟩,⟨#[]⟩,⟨#[]⟩,0,0,none,0,0⟩) q3;obtain⟨y0,y1,y2,y3,y4,y5,y6,y7,y8,y9⟩:=DevF.of q3;have N:=zh (zBF q3 rfl pd);have l2:=zC q3;clear q3
    go_wp2_with fail
    refine OnlyN.mk ⟨N.out.2.mono (fun b _ h=>by unfold Is at h;omega),?_⟩
    repeat((first|apply zM rfl rfl rfl|apply zO rfl rfl rfl);intro K hK;go_big_quiet_op;go_big_quiet_on)
    refine zX ?_
    go_wp2_with fail
    go_meet
    exact⟨_,pd,bb,rfl,rfl,⟨N.out.1,d6.out.1,d6.out.2,by omega⟩,(HX.out.step N.out.2 (fun b hb h=>by unfold Is at h;omega))⟩
 case rest=>
  obtain⟨Bp,pd,bb,rfl,rfl,hB,L⟩:=hcut;have x1:Fr No w wc:=x0.step L zi;have b1:=L.heap b0 id;have k1:=L.heap h7 id;have p1:=hB.out.1;have l0:=zC b0;have l1:=L.size;have n6:=zC p1;have n7:=hB.out.2.2.2;clear b0 h7 L;obtain⟨o0,o1,o2,o3,o4,o5,o6,o7,o8,o9,l3,l4,l5,l6⟩:=OpB.of b1
  go_upto_region 2 with(fail)
  go_cut [32] (fun v wy=>v=.bool false/\wc=wy)
  case first=>
   rcases hB.out.2.2.1 with rfl | rfl
   ·rcases hpe:C.toList.isEmpty with _ | _
    all_goals
     go_wp2_with fail
     go_meet
     exact⟨rfl,rfl⟩
   ·go_wp2_with fail
    go_meet
    exact⟨rfl,rfl⟩
  case rest=>
   obtain⟨rfl,rfl⟩:=hcut;obtain⟨W4,d7⟩:∃ W4,W4=wc.alloc (.cells x.vals 36):=⟨_,rfl⟩
   have f4:Fr No wc W4:=by rw[d7];exact(Fr.refl _ _).alloc _
   have b4:W4.heap[wc.heap.size]?=some (.cells x.vals 36):=by rw[d7];exact zD _ _
   unfold Dev.vals at d7
   go_upto_region 5 with(fail)
   rw[<-d7];clear d7 o0 o1 o2 o3 o4 o5 o6 o7 o8 o9 l3 l4 l5 l6;have s4:=f4.size;refine zQ (fun b=>W4.heap.size<=b) [(0,false),(1,false),(2,false),(3,false),(4,false),(5,false),(6,false),(7,false),(8,false),(9,false),(10,false),(11,false),(12,false),(13,false),(14,false),(15,false),(16,false),(17,false),(18,false),(19,false),(20,false),(21,false),(22,true),(23,true)] (by kernel_rfl) (by kernel_rfl) (fun W5 d0=>?_);have s5:=d0.size;have x5:Fr No w W5:=(x1.step f4 zi).step d0 zi;have k5:=d0.heap (f4.heap k1 id) id;have p5:=d0.heap (f4.heap p1 id) id;have b5:=d0.heap b4 id;have n8:=zC b4;have t0:∀ g:Gr (fun b=>W4.heap.size<=b) W5,g.W.cell? ⟨D,4,none⟩=some (.int .i64 o):=fun g=>zB (g.fr.heap k5 (fun h=>by omega)) 4
   have t1:∀ g:Gr (fun b=>W4.heap.size<=b) W5,g.W.cell? ⟨Bp,0,none⟩=some (.int .i64 p):=fun g=>by rw[<-hB.out.2.1];exact zB (g.fr.heap p5 (fun h=>by omega)) 0
   have O:∀ g:Gr (fun b=>W4.heap.size<=b) W5,DevB g.W wc.heap.size x:=fun g=>DevB.of (g.fr.heap b5 (fun h=>by omega))
   have c0:=fun g=>(O g).c0
   have c1:=fun g=>(O g).c1
   have c2:=fun g=>(O g).c2
   have c3:=fun g=>(O g).c3
   have c4:=fun g=>(O g).c4
   have c5:=fun g=>(O g).c5
   have c6:=fun g=>(O g).c6
   have c7:=fun g=>(O g).c7
   have c8:=fun g=>(O g).c8
   have c9:=fun g=>(O g).c9
   clear O
   repeat((first|apply zS rfl rfl rfl|apply zW rfl rfl rfl);intro K hK;go_big_quiet_op;go_big_quiet_on)
   clear t0 t1 c0 c1 c2 c3 c4 c5 c6 c7 c8 c9;apply zk;exact rfl;obtain⟨W6,e2⟩:∃ W6,W6=W5.alloc (.cells #[.int .i64 0,.int .i64 0,.string ⟨#[]⟩,.string ⟨#[]⟩,.string ⟨#[]⟩,.string ⟨#[]⟩,.string ⟨#[]⟩,.int .i64 0,.int .i64 0,.slice none 0 0] 36):=⟨_,rfl⟩
   have f6:Fr No W5 W6:=by rw[e2];exact(Fr.refl _ _).alloc _
   have q6:W6.heap[W5.heap.size]?=some (.cells #[.int .i64 0,.int .i64 0,.string ⟨#[]⟩,.string ⟨#[]⟩,.string ⟨#[]⟩,.string ⟨#[]⟩,.string ⟨#[]⟩,.int .i64 0,.int .i64 0,.slice none 0 0] 36):=by rw[e2];exact zD _ _
   go_wp2_with fail
   refine zp ?_;rw[<-e2];clear e2;apply zk;exact rfl;obtain⟨z0,z1,z2,z3,z4,z5,z6,z7,z8,z9⟩:=DevB.of (d:=⟨0,0,⟨#[]⟩,⟨#[]⟩,⟨#[]⟩,⟨#[]⟩,⟨#[]⟩,0,0,none,0,0⟩) q6;obtain⟨y0,y1,y2,y3,y4,y5,y6,y7,y8,y9⟩:=DevF.of q6;have N:=zh (zBF q6 rfl (addD x o p));clear q6
   go_wp2_with fail
   refine OnlyN.mk ⟨N.out.2.mono (fun b _ h=>by unfold Is at h;omega),?_⟩;refine zY ?_;have f7:=N.out.2;have q7:=N.out.1;clear N z0 z1 z2 z3 z4 z5 z6 z7 z8 z9 y0 y1 y2 y3 y4 y5 y6 y7 y8 y9;unfold addD at f7 q7;dsimp only at f7 q7;revert f7 q7;generalize l7:((((((((((W6.setCell _ _).setCell _ _).setCell _ _).setCell _ _).setCell _ _).setCell _ _).setCell _ _).setCell _ _).setCell _ _).setCell _ _)=W7;intro f7 q7;clear l7;have x7:Fr No w W7:=(x5.step f6 zi).step f7 (fun b hb h=>by have:=x5.size;unfold Is at h;omega);have k7:=f7.heap (f6.heap k5 id) (fun h=>by have:=x5.size;unfold Is at h;omega);have l8:(Lit.int .i64 (addD x o p).index).wf=true:=WalkArith.wf_i64 (by show _/\_;unfold addD;dsimp only;omega);have f2:Hid (∀ W,Fr No w W->Calls Tryz.prog 39 #[.agg #[.slice a ds.length a9],.agg #[.int .i64 (o+1),.int .i64 p,.string x.orig,.string x.orig,.string x.sub,.string ⟨#[]⟩,.string x.ali,.int .i64 x.kind,.int .i64 x.num,.slice x.aa x.an x.ac]] W fun e w'=>InsAny W w' ds (addD x o p) e/\Fr No W w'):=fun W hf=>
    (zCp a a9 ds F (addD x o p) l m W (HK.out.tr.no hf) HS.out (HA.out.no hf (fun _=>id)) h1 j1.out k6.out rfl k0 l8 j0.out (hf.cell Hm.out id) (Nat.lt_of_lt_of_le h0 hf.size)).mono (fun _ _ h=>⟨InsAny.of h.1,h.2⟩)
   have d3:Hid (∀ y∈insAt ds (insK ds (addD x o p)) (addD x o p),∃ l,Atts w y.aa y.ac l/\y.an=l.length):=by
    intro y hy;rcases zt.1 hy with h | h
    ·subst h;exact⟨l,HA.out,j1.out⟩
    ·obtain⟨l',g1,g2,_⟩:=(HK.out.tr.el y h).att;exact⟨l',g1,g2⟩
   have n9:D<w.heap.size:=k3;have p0:W5.heap.size<W7.heap.size:=zC q7;have p2:=x5.size;clear k5 p5 b5 f4 f6 f7 d0 k1 p1 b1 b4
   go_upto_region 6 with(fail)
   go_cut [10,11] (fun l9 m0 wy=>∃ Bt z c' f er,l9=.pointer (some ⟨Bt,0,none⟩)/\m0=.int .i64 er/\Hid (wy.heap[Bt]?=some (.cells #[.slice z (List.length f) c'] 48)/\W7.heap.size<=Bt)/\Hid (Devs wy z c' f/\BlkT wy z 36/\(∀ R,z=some R->W7.heap.size<=R.block)/\KO w wy w.heap.size ds (addD x o p) f er)/\Fr No W7 wy)
   case first=>
    refine zb (fun b=>W7.heap.size<=b) (.q 0 (.q 1 (.q 2 (.q 3 (.q 4 (.m2 5 (.q 6 (.q 7 (.q 8 (.m1 9 (.m1 10 (.q 11 .fin)))))) 9 (.m1 5 (.q 6 (.q 7 (.q 8 (.m1 10 (.q 11 .fin))))))))))))  _ (by kernel_rfl) (by kernel_rfl) (fun W8 I=>?_) zj;have s8:=I.size;have k8:=I.heap k7 id;have q8:=I.heap q7 id;have x8:=zh (x7.step I zi);have t0:∀ g:Gr (fun b=>W7.heap.size<=b) W8,g.W.cell? ⟨D,0,none⟩=some (.slice a ds.length a9):=fun g=>zB (g.fr.heap k8 (fun h=>by omega)) 0
    have O:∀ g:Gr (fun b=>W7.heap.size<=b) W8,DevB g.W W5.heap.size ⟨o+1,p,x.orig,x.orig,x.sub,⟨#[]⟩,x.ali,x.kind,x.num,x.aa,x.an,x.ac⟩:=fun g=>DevB.of (g.fr.heap q8 (fun h=>by omega))
    have c0:=fun g=>(O g).c0
    have c1:=fun g=>(O g).c1
    have c2:=fun g=>(O g).c2
    have c3:=fun g=>(O g).c3
    have c4:=fun g=>(O g).c4
    have c5:=fun g=>(O g).c5
    have c6:=fun g=>(O g).c6
    have c7:=fun g=>(O g).c7
    have c8:=fun g=>(O g).c8
    have c9:=fun g=>(O g).c9
    clear O
    repeat((first|apply zM rfl rfl rfl|apply zO rfl rfl rfl);intro K hK;go_big_quiet_op;go_big_quiet_on)
    clear t0 c0 c1 c2 c3 c4 c5 c6 c7 c8 c9;refine zv rfl rfl ?_ ?_
    focus
     have u:=f2.out W8 x8.out
     go_wp2_with fail
     refine u.mono ?_;rintro e w9 ⟨hR,J⟩;clear u;obtain⟨z,c',f,er,rfl,hD,d8,a5,a6⟩:=hR;have HR:=zh (And.intro hD (And.intro d8 (And.intro a5 a6)));have s9:=J.size;clear hD d8 a5 a6
     go_wp2_with fail
     refine zm J ?_
     repeat((first|apply zM rfl rfl rfl|apply zO rfl rfl rfl);intro K hK;go_big_quiet_op;go_big_quiet_on)
     apply zH;exact rfl;obtain⟨X,e3⟩:∃ X,X=w9.alloc (.cells #[.slice none 0 0] 48):=⟨_,rfl⟩
     have fA:Fr No w9 X:=by rw[e3];exact(Fr.refl _ _).alloc _
     have qA:X.heap[w9.heap.size]?=some (.cells #[.slice none 0 0] 48):=by rw[e3];exact zD _ _
     go_wp2_with fail
     refine zp ?_;rw[<-e3];clear e3;have HT:Hid (Devs X z c' f/\BlkT X z 36/\(∀ R,z=some R->W7.heap.size<=R.block)/\KO w X w.heap.size ds (addD x o p) f er):=⟨HR.out.1.no fA (fun _=>id),HR.out.2.1.fr fA (fun _ _=>id),fun R e=>by have:=HR.out.2.2.1 R e;omega,(HR.out.2.2.2.src x8.out d3.out x8.out.size).fr fA⟩
     have f5:Hid (Fr No W7 X):=(I.step J zi).step fA zi;have e4:Hid (W7.heap.size<=w9.heap.size):=by unfold Hid;omega
     generalize w9.heap.size=Bt at *
    rotate_left 1
    focus
     obtain⟨W9,e5⟩:∃ W9,W9=W8.alloc (.cells #[.slice none 0 0] 48):=⟨_,rfl⟩
     have f9:Fr No W8 W9:=by rw[e5];exact(Fr.refl _ _).alloc _
     have q9:W9.heap[W8.heap.size]?=some (.cells #[.slice none 0 0] 48):=by rw[e5];exact zD _ _
     go_wp2_with fail
     refine zp ?_;rw[<-e5];clear e5;have x9:=zh (x8.out.step f9 zi);have u:=f2.out W9 x9.out;apply zH;exact rfl
     go_wp2_with fail
     refine u.mono ?_;rintro e X ⟨hR,h8⟩;clear u;obtain⟨z,c',f,er,rfl,hD,d8,a5,a6⟩:=hR;have s9:=f9.size;have qA:=h8.heap q9 id;have HT:Hid (Devs X z c' f/\BlkT X z 36/\(∀ R,z=some R->W7.heap.size<=R.block)/\KO w X w.heap.size ds (addD x o p) f er):=⟨hD,d8,fun R e=>by have:=a5 R e;omega,a6.src x9.out d3.out x9.out.size⟩
     have f5:Hid (Fr No W7 X):=(I.step f9 zi).step h8 zi;have e4:Hid (W7.heap.size<=W8.heap.size):=s8;clear hD d8 a5 a6 q9
     go_wp2_with fail
     refine zm h8 ?_
     repeat((first|apply zM rfl rfl rfl|apply zO rfl rfl rfl);intro K hK;go_big_quiet_op;go_big_quiet_on)
     generalize W8.heap.size=Bt at *
    all_goals (
     apply zH;exact rfl;have y0:=zE qA 0;have z0:X.cell? ⟨Bt,0,none⟩=some (.slice none 0 0):=zB qA 0;have fB:Fr (Is Bt) X (X.setCell ⟨Bt,0,none⟩ (.slice z f.length c')):=Fr.setAt (Fr.refl _ _) _;have qB:=zF qA 0 (.slice z f.length c');have n1:=HT.out.2.1.ne_blk qA (by decide);have HU:Hid (Devs (X.setCell ⟨Bt,0,none⟩ (.slice z f.length c')) z c' f/\BlkT (X.setCell ⟨Bt,0,none⟩ (.slice z f.length c')) z 36/\(∀ R,z=some R->W7.heap.size<=R.block)/\KO w (X.setCell ⟨Bt,0,none⟩ (.slice z f.length c')) w.heap.size ds (addD x o p) f er):=
      ⟨HT.out.1.fr fB (fun R e _=>n1 R e),HT.out.2.1.fr fB n1,HT.out.2.2.1,HT.out.2.2.2.put qA (by decide) fB⟩
     have m3:Hid (Fr No W7 (X.setCell ⟨Bt,0,none⟩ (.slice z f.length c'))):=f5.out.step fB (fun b hb h=>by have:=e4.out;unfold Is at h;omega);have m4:=zh qB;clear qB fB n1 qA
     go_wp2_with fail
     refine OnlyN.mk ⟨Fr.setCell (Fr.refl _ _) (fun _=>e4.out) _,?_⟩
     repeat((first|apply zM rfl rfl rfl|apply zO rfl rfl rfl);intro K hK;go_big_quiet_op;go_big_quiet_on)
     refine zX ?_
     go_wp2_with fail
     go_meet
     exact⟨Bt,z,c',f,er,rfl,rfl,⟨m4.out,e4.out⟩,HU,m3.out⟩
     )
   case rest=>
    obtain⟨Bt,z,c',f,er,rfl,rfl,e6,HU,I⟩:=hcut;rcases HU.out.2.2.2 with⟨rfl,d9⟩ | ⟨rfl,d9,j2⟩
    ·have e7:=zh d9;have x8:=zh (x7.step I zi);clear d9 I e6
     go_wp2_with fail
     refine bodyPost_ret (v:=.tuple #[.int .i64 0,.int .i64 44]) (by simp[results,Tryz.results19,go_sem]) rfl ?_;exact .inl ⟨e7.out,rfl,x8.out⟩
    have e7:=zh d9;have HC:=zh j2;clear d9 j2;have x8:Fr No w wc:=x7.step I zi;have k8:=I.heap k7 id;have q8:=I.heap q7 id;have f8:=e6.out.1;have n0:=e6.out.2;have s8:=I.size;clear k7 q7 e6 I
    go_upto_region 9 with(fail)
    refine zQ (fun b=>b=D) [(0,false),(1,false),(2,false),(3,false),(4,false),(5,false),(6,false),(7,true),(8,false),(9,false),(10,true)] (by kernel_rfl) (by kernel_rfl) (fun W9 J=>?_);have x9:Fr No w W9:=x8.step J zi;have k9:=J.heap k8 id;have q9:=J.heap q8 id;have t9:=J.heap f8 id;have s9:=J.size;have t0:∀ g:Gr (fun b=>b=D) W9,g.W.cell? ⟨Bt,0,none⟩=some (.slice z f.length c'):=fun g=>zB (g.fr.heap t9 (fun h=>by omega)) 0
    have t1:∀ g:Gr (fun b=>b=D) W9,g.W.cell? ⟨W5.heap.size,0,none⟩=some (.int .i64 (o+1)):=fun g=>zB (g.fr.heap q9 (fun h=>by omega)) 0
    repeat((first|apply zS rfl rfl rfl|apply zW rfl rfl rfl);intro K hK;go_big_quiet_op;go_big_quiet_on)
    clear t0 t1;apply zk;exact rfl;have y0:=zE k9 0;have z0:W9.cell? ⟨D,0,none⟩=some (.slice a ds.length a9):=zB k9 0;have e8:(W9.setCell ⟨D,0,none⟩ (.slice z f.length c')).heap[D]?=some (.cells (kcs z f.length c' ev en ec o) 60):=zF k9 0 _;have h9:Fr (Is D) W9 (W9.setCell ⟨D,0,none⟩ (.slice z f.length c')):=Fr.setAt (Fr.refl _ _) _
    go_wp2_with fail
    refine zf h9 ?_;generalize W9.setCell ⟨D,0,none⟩ (.slice z f.length c')=W10 at *;clear y0 z0
    repeat((first|apply zS rfl rfl rfl|apply zW rfl rfl rfl);intro K hK;go_big_quiet_op;go_big_quiet_on)
    apply zk;exact rfl;have y4:=zE e8 4;have z4:W10.cell? ⟨D,4,none⟩=some (.int .i64 o):=zB e8 4;have j3:(W10.setCell ⟨D,4,none⟩ (.int .i64 (o+1))).heap[D]?=some (.cells (kcs z f.length c' ev en ec (o+1)) 60):=zF e8 4 _;have i0:Fr (Is D) W10 (W10.setCell ⟨D,4,none⟩ (.int .i64 (o+1))):=Fr.setAt (Fr.refl _ _) _
    go_wp2_with fail
    refine zf i0 ?_;generalize W10.setCell ⟨D,4,none⟩ (.int .i64 (o+1))=W11 at *;clear y4 z4;refine zY ?_;have U:Fr (Is D) W9 W11:=h9.step i0 zi;have j4:=U.heap q9 (fun h=>by unfold Is at h;omega);have i1:=(HU.out.2.1.fr J (fun _ _=>id)).ne_blk k9 (by decide);have i2:Cop w W9 w.heap.size (insAt ds (insK ds (addD x o p)) (addD x o p)) f:=HC.out.fr J (fun _ _ _ _=>id);have g0:Devs W11 z c' f:=(HU.out.1.no J (fun _=>id)).fr U (fun R e _=>i1 R e);have g4:BlkT W11 z 36:=(HU.out.2.1.fr J (fun _ _=>id)).fr U i1;have Y:Cop w W11 w.heap.size (insAt ds (insK ds (addD x o p)) (addD x o p)) f:=i2.fr U (fun d hd=>by
     obtain⟨y,_,hy⟩:=i2.mem hd;exact hy.typ.ne_blk k9 (by decide))
    have g5:∀ d∈insAt ds (insK ds (addD x o p)) (addD x o p),Sized d/\d.drv=⟨#[]⟩:=by
     intro y hy;rcases zt.1 hy with h | h
     ·subst h;exact⟨HS.out,rfl⟩
     ·exact⟨(HK.out.tr.el y h).sz,(HK.out.tr.el y h).drv⟩
    have g6:∀ d∈insAt ds (insK ds (addD x o p)) (addD x o p),d.name.size<=1000:=by
     intro y hy;rcases(zt.1 hy).symm with h | h
     ·exact HK.out.nm y h
     ·subst h;have:=j0.out.snd.oklen;show x.orig.size<=1000
      unfold addD at this;dsimp only at this;omega
    have i3:Tr W11 F z c' f:=Y.tr g5 g0 (k4.out e7.out _ _ Y) (fun R e=>by have:=HU.out.2.2.1 R e;have:=x7.size;omega) hb;have e0:=Y.names g6;have m5:f.length<=1000:=by have:=Y.len;rw[zB0]at this;omega
    have b3:=zG f1.out x9 (fun _ _=>id);have g7:=zR b3 k9 (by decide);have b8:=zG b3 U (fun b hb h=>by unfold Is at h;subst h;exact g7 hb);have j5:=zIR D z c' F f ev en ec (o+1) 1 (o+1) W11 j3 i3 m5 (WalkArith.wf_i64 (by omega)) e0;have p3:=U.size;have q0:W11.cell? ⟨W5.heap.size,0,none⟩=some (.int .i64 (o+1)):=zB j4 0;have j6:Hid (Fr (fun b=>b=D\/(Value.slice ev en ec).ownBlock=some b) w W11):=(x9.mono zn).step U (fun b _ h=>.inl h);have a7:=zh (And.intro Y (And.intro i3 (And.intro g4 e0)));clear k8 k9 e8 h9 i0 q8 q9 t9 f8 i1 i2 g0 g5 g6 Y i3 g4 e0 b3 g7
    go_upto_region 10 with(fail)
    go_wp2_with fail
    refine j5.mono ?_;rintro e e9 ⟨⟨sp,rfl⟩,g8⟩;clear j5 q0;obtain⟨a3,b9⟩:∃ a3,a3=e9.alloc (.cells #[.int .i64 0,.int .i64 1,.int .i64 (o+1),.string sp,.string ⟨#[]⟩] 104):=⟨_,rfl⟩
    have m6:Fr No e9 a3:=by rw[b9];exact(Fr.refl _ _).alloc _
    have j7:a3.heap[e9.heap.size]?=some (.cells #[.int .i64 0,.int .i64 1,.int .i64 (o+1),.string sp,.string ⟨#[]⟩] 104):=by rw[b9];exact zD _ _
    have A:Fr No W11 a3:=g8.step m6 zi;have i4:=A.heap j3 id;have a4:=zG b8 A (fun _ _=>id);have j8:=zL1 D e9.heap.size F z f.length c' ev en ec (o+1) 1 (o+1) sp xs a3 i4 a4 (by omega) j7 (by have:=j6.out.size;have:=A.size;omega) (fun h=>by have:=(zAG b8 h).2;have:=g8.size;omega)
    go_wp2_with fail
    rw[<-b9];clear b9;refine j8.mono ?_;rintro e d1 ⟨rfl,⟨m7,m8,m9,i5,e1⟩,a8⟩;clear j8;have j9:=a8.heap (A.heap j4 id) (fun h=>by
     rcases h with h | h
     ·omega
     ·have:=zV f1.out h;omega)
    have q0:d1.cell? ⟨W5.heap.size,0,none⟩=some (.int .i64 (o+1)):=zB j9 0;have k2:d1.cell? ⟨D,2,none⟩=some (.slice none 0 0):=zB i5 2;have hS:∀ b cs T,(b=D\/(Value.slice ev en ec).ownBlock=some b)->a3.heap[b]?=some (.cells cs T (0,0))->T≠36/\T≠76:=by
     intro b cs T h hc;rcases h with rfl | h
     ·rw[i4]at hc;cases hc;exact⟨by decide,by decide⟩
     ·by_cases hT:T=104
      ·subst hT;exact⟨by decide,by decide⟩
      ·exact absurd h (zR a4 hc hT)
    have b6:∀ d∈f,BlkT a3 d.aa 76:=fun d hd=>by
     obtain⟨y,_,hy⟩:=a7.out.1.mem hd;exact hy.typ.fr A (fun _ _=>id)
    have g9:Cop w a3 w.heap.size (insAt ds (insK ds (addD x o p)) (addD x o p)) f:=a7.out.1.fr A (fun _ _ _ _=>id);have h4:Cop w d1 w.heap.size (insAt ds (insK ds (addD x o p)) (addD x o p)) f:=g9.fr a8 (fun d hd R e h=>by
     obtain⟨cs,hc⟩:=b6 d hd R e;exact(hS _ _ _ h hc).2 rfl)
    obtain⟨g1,g2,g3⟩:=Tr.typ (a7.out.2.1.no A) (a7.out.2.2.1.fr A (fun _ _=>id)) b6 a8 hS;have h5:Hid (zFz w d1 D F ds (addD x o p) en o/\Fr (fun b=>b=D\/(Value.slice ev en ec).ownBlock=some b) w d1):=
     ⟨⟨z,c',f,m7,m8,⟨i5,g1,g2,g3,⟨m9,e1⟩,a7.out.2.2.2⟩,h4⟩,(j6.out.step A zn).step a8 zi⟩
    clear g1 g2 g3 h4 g9 b6 hS e1 i5 j9 i4 a4 a8 j7
    go_wp2_with fail
    go_loopw [90] (fun v wr=>v=.int .i64 0/\wr=d1) (fun _ _=>0)
    case atStart=>exact⟨rfl,rfl⟩
    case round=>
     obtain⟨rfl,rfl⟩:=hrel
     go_wp2_with fail
     go_ret2
     exact .inr ⟨e7.out,rfl,h5.out.1,h5.out.2⟩
theorem zL3 (v g:Nat)(a:Option Addr)(y:Nat)(ds:List Dev)(A:Option Addr)(z C:Nat)(q:Int)(o nm V:ByteArray)(x:Dev)(k p:Int)(l:List (ByteArray×ByteArray))(m:Int)(w:World)(Y:KSt w v g a y ds A z C q)(D:z<=1000)(F:0<=q/\q<=1000000)(Z:g<=w.heap.size)
  (hA:Atts w x.aa x.ac l) (I:l.length<=1) (J:x.an=l.length) (L:x.kind=2) (hs:Sized (addD x q p)) (hp:ParIs ds o p) (N:(Lit.int .i64 p).wf=true) (f:InsOk ds (addD x q p) l) (O:∀ w' u,Cop w w' w.heap.size (ds++[addD x q p]) u->TreeWf u)
  (hm:w.cell? ⟨0,0,none⟩=some (.int .i64 m)) (h0:0<w.heap.size) (R:0<v):
  Calls Tryz.prog 19 #[.pointer (some ⟨v,0,none⟩),.agg (ocs k o x nm V)] w fun e w'=>e=.returned (.tuple #[.int .i64 (q+1),.int .i64 0])/\AddRes w w' v g ds (addD x q p) z q/\Fr (fun b=>b=v\/(Value.slice A z C).ownBlock=some b) w w':=by
 obtain⟨X,e2⟩:=zGV f.ord;refine(zKO v g a y ds A z C q o nm V x k p l m w Y D F Z hA I J L hs hp N ⟨f.snd,f.new,f.par,f.len,f.dep⟩ (fun _ w' u h=>O w' u (by rw[X,zC6]at h;exact h)) hm h0 R).mono ?_;rintro e w' (⟨h,_⟩ | ⟨_,I,U,h3⟩)
 ·rw[e2,f.cls]at h;cases h
 ·unfold zFz at U;rw[X,zC6]at U;exact⟨I,U,h3⟩
end Go.Proofs.YtinfjnndbfahhaaGreatDoor
