import Derived.Test.YtmajgldaplkpiaaGreatDoorQ35
namespace Go.Proofs.YtmajgldaplkpiaaGreatDoor
open Go.RowKit Go.Maps
set_option linter.unusedVariables false
set_option maxRecDepth 100000
set_option maxHeartbeats 8000000
theorem zAg {w:World}{ops:Array Oper}{rest:List Oper}{o:Oper}{a:Act}{Q:Exit->Act->World->Prop}(hg:o.guard=none)(m x:Operand)(t:TypeId)(hop:o.op=Op.lookup t m x false)(ht:Tryz.prog.underlying t=some (.map 3 4))
  (mb:Nat) (g:Int->Bool) (N:Nat) (k:Int) (hk:(Lit.int .i64 k).wf=true) (hm:a.eval m=.map (some mb)) (hown:BMap w mb g N) (hx:a.eval x=.int .i64 k) (b:Bool) (hb:g k=b)
  (hK:wpList Tryz.prog ops Q rest (a.put o.dst (.bool b)) w):wpList Tryz.prog ops Q (o::rest) a w:=by
 obtain⟨D,n,_,ho,hh⟩:=hown;subst hb;exact zA6 w hg m x t hop 3 4 lawI ht (by kernel_rfl) (zeroB w) mb n D hm ho _ _ hx (keyOf_int_mk Tryz.underlying3 hk) _ (hh k) hK
theorem zBa {w:World}{ops:Array Oper}{rest:List Oper}{o:Oper}{a:Act}{Q:Exit->Act->World->Prop}(hg:o.guard=none)(m x v:Operand)(t:TypeId)(hop:o.op=Op.mapUpdate t m x v)(ht:Tryz.prog.underlying t=some (.map 3 4))
  (mb:Nat) (g:Int->Bool) (N:Nat) (hN:N<maxLen) (k:Int) (hk:(Lit.int .i64 k).wf=true) (b:Bool) (hm:a.eval m=.map (some mb)) (hown:BMap w mb g N) (hx:a.eval x=.int .i64 k) (hv:a.eval v=.bool b)
  (hK:∀ w',BMap w' mb (upd g k b) (N+1)->Fr (Is mb) w w'->wpList Tryz.prog ops Q rest (a.put o.dst undef) w'):wpList Tryz.prog ops Q (o::rest) a w:=by
 obtain⟨D,n,hn,ho,hh⟩:=hown;exact wpList_mapUpdate_own w hg m x v t hop 3 4 lawI ht _ mb n D hm ho (by omega) _ _ _ hx hv (keyOf_int_mk Tryz.underlying3 hk) (.lit (.bool b)) [] (plainElem_bool (by kernel_rfl) b) (fun w' h h'=>hK w' (BMap.put hn ho hh k b h) (Fr.of_grown_some h'))
def usedF (l:List Dev):Int->Bool:=fun n=>l.any fun d=>(d.num==n)&&(d.kind==2)
def maxI (l:List Dev):Int:=l.foldl (fun m d=>max m d.index) 0
theorem zHa (l:List Dev)(d:Dev):maxI (l++[d])=max (maxI l) d.index:=by unfold maxI;rw[List.foldl_append];rfl
theorem zGI (l:List Dev)(d:Dev):upd (usedF l) d.num (usedF l d.num||(d.kind==2))=usedF (l++[d]):=by
 funext n
 unfold upd usedF;rw[List.any_append];by_cases h:n=d.num
 ·subst h;rw[if_pos rfl];simp
 ·rw[if_neg h];have:(d.num==n)=false:=by simp;exact fun e=>h e.symm
  simp[this]
theorem zIe (pb base:Nat)(a:Option Addr)(cap:Nat)(ds:List Dev)(v1:Value)(w:World)(hl:Tr w base a cap ds)(hn:ds.length<=250)(hpb:w.heap[pb]?=some (.cells #[.slice a ds.length cap,v1] 135))(hu:usedF ds 1048576=false)
  (hwf:∀ d∈ds,(Lit.int .i64 d.num).wf=true):
  Calls Tryz.prog 114 #[.pointer (some ⟨pb,0,none⟩)] w fun e w'=>e=.returned (.tuple #[.int .i64 1048576,.int .i64 (maxI ds)])/\Fr No w w':=by
 have hlm:=hl.dv.lenmax;obtain⟨W0,hW0⟩:∃ W0,W0=w.alloc (.map #[] 0):=⟨_,rfl⟩
 have x0:Fr No w W0:=by rw[hW0];exact(Fr.refl _ _).alloc _
 have hM:BMap W0 w.heap.size (usedF []) 0:=by rw[hW0];exact zH3 w
 have t0:W0.cell? ⟨pb,0,none⟩=some (.slice a ds.length cap):=zB (x0.heap hpb id) 0;have hpl:=zE hpb;have HT:=Lib.hid (And.intro hl (And.intro hn hu));have HW:=Lib.hid hwf;have HX:=Lib.hid x0;have hmk:=@run_makeMap Tryz.prog;clear hl hn hpb hu hwf x0
 go_enter Tryz.func114,Tryz.ntmps114
 go_upto_region 2 with(fail)
 rw[<-hW0];clear hW0
 go_wp2_with fail
 clear t0 hmk
 go_loopw [5,16] (fun u i wr=>∃ k,k<=ds.length/\u=.int .i64 (maxI (ds.take k))/\i=.int .i64 (k:Int)/\BMap wr w.heap.size (usedF (ds.take k)) k/\Fr (Is w.heap.size) W0 wr) (fun _ i _=>ds.length-(intOf i).toNat)
 case atStart=>exact⟨0,by omega,rfl,rfl,hM,Fr.refl _ _⟩
 case round=>
  obtain⟨k,hk,rfl,rfl,hB,hf⟩:=hrel;by_cases hlt:k<ds.length
  ·have hlt':(k:Int)<ds.length:=by omega
   have hTr:Tr wr base a cap ds:=HT.out.1.no (HX.out.step hf (fun b hb h=>by unfold Is at h;omega));obtain⟨bb,off,d,rfl,hd,c0,c1,c2,c3,c4,c5,c6,c7,c8,c9⟩:=hTr.dv.dev hlt;have hmem:=List.mem_of_getElem? hd;have Htk:Hid (ds.take (k+1)=ds.take k++[d]):=by unfold Hid;rw[List.take_add_one,hd];rfl
   obtain⟨W1,hW1⟩:∃ W1,W1=wr.alloc (.cells d.vals 34):=⟨_,rfl⟩
   have hx1:Fr No wr W1:=by rw[hW1];exact(Fr.refl _ _).alloc _
   have d1:W1.heap[wr.heap.size]?=some (.cells d.vals 34):=by rw[hW1];exact zD _ _
   have hB1:=hB.fr hx1 id;have hwl:w.heap.size<wr.heap.size:=hB.lt;have hwf:=HW.out d hmem;have HF1:=Lib.hid (hf.step hx1 (fun _ _ h=>h.elim));have z:=DevB.of d1;unfold Dev.vals at hW1;obtain⟨u0,hu0⟩:∃ u0,u0=usedF (ds.take k) d.num:=⟨_,rfl⟩
   have hU:Hid (upd (usedF (ds.take k)) d.num (u0||(d.kind==2))=usedF (ds.take (k+1))):=by unfold Hid;rw[hu0,Htk.out,zGI]
   have hMx:Hid (maxI (ds.take (k+1))=max (maxI (ds.take k)) d.index):=by unfold Hid;rw[Htk.out,zHa]
   clear hd hB hf hx1 d1 hTr
   go_upto_region 5 with(fail)
   rw[<-hW1];clear hW1 c0 c1 c2 c3 c4 c5 c6 c7 c8 c9;obtain⟨c0,c1,c2,c3,c4,c5,c6,c7,c8,c9⟩:=z;have hk9:k<=250:=by have:=HT.out.2.1;omega
   have HMX:=hMx;obtain⟨mx,hmx⟩:∃ mx,mx=max (maxI (ds.take k)) d.index:=⟨_,rfl⟩
   rw[<-hmx]at hMx;clear HMX;rcases hu1:u0 with _ | _
   ·have hu2:=hu0.symm.trans hu1;rcases hkd:(d.kind==2)with _ | _
    ·skip;have hU2:Hid (upd (usedF (ds.take k)) d.num false=usedF (ds.take (k+1))):=by unfold Hid;rw[<-hU.out,hu1,hkd];rfl
     clear hU hu0 hu1
     go_wp2_with (first
      | (at_lookup;refine zAg rfl _ _ 214 rfl Tryz.underlying214 w.heap.size _ _ d.num hwf rfl hB1 rfl false hu2 ?_)
      | (at_mapUpdate;refine zBa rfl _ _ _ 214 rfl Tryz.underlying214 w.heap.size _ _ (by unfold maxLen;omega) d.num hwf false rfl hB1 rfl rfl ?_;intro w6 hB6 hf6;have c0:w6.cell? ⟨wr.heap.size,0,none⟩=some (.int .i64 d.index):=hf6.cell c0 (fun h=>by unfold Is at h;dsimp only at h;omega)))
     rw[hU2.out]at hB6;have HF6:=Lib.hid (HF1.out.step hf6 (fun b _ h=>h));have HB6:=Lib.hid hB6;clear hB6 hf6 hB1
     go_roundw
     case rel=>exact⟨k+1,by omega,by rw[hMx.out,hmx],by go_num,HB6.out,HF6.out⟩
     case measure=>simp[intOf];omega
    ·skip;have hU2:Hid (upd (usedF (ds.take k)) d.num true=usedF (ds.take (k+1))):=by unfold Hid;rw[<-hU.out,hu1,hkd];rfl
     clear hU hu0 hu1
     go_wp2_with (first
      | (at_lookup;refine zAg rfl _ _ 214 rfl Tryz.underlying214 w.heap.size _ _ d.num hwf rfl hB1 rfl false hu2 ?_)
      | (at_mapUpdate;refine zBa rfl _ _ _ 214 rfl Tryz.underlying214 w.heap.size _ _ (by unfold maxLen;omega) d.num hwf true rfl hB1 rfl rfl ?_;intro w6 hB6 hf6;have c0:w6.cell? ⟨wr.heap.size,0,none⟩=some (.int .i64 d.index):=hf6.cell c0 (fun h=>by unfold Is at h;dsimp only at h;omega)))
     rw[hU2.out]at hB6;have HF6:=Lib.hid (HF1.out.step hf6 (fun b _ h=>h));have HB6:=Lib.hid hB6;clear hB6 hf6 hB1
     go_roundw
     case rel=>exact⟨k+1,by omega,by rw[hMx.out,hmx],by go_num,HB6.out,HF6.out⟩
     case measure=>simp[intOf];omega
   ·have hu2:=hu0.symm.trans hu1;have hkd:(true||(d.kind==2))=true:=rfl;have hU2:Hid (upd (usedF (ds.take k)) d.num true=usedF (ds.take (k+1))):=by unfold Hid;rw[<-hU.out,hu1];rfl
    clear hU hu0 hu1
    go_wp2_with (first
     | (at_lookup;refine zAg rfl _ _ 214 rfl Tryz.underlying214 w.heap.size _ _ d.num hwf rfl hB1 rfl true hu2 ?_)
     | (at_mapUpdate;refine zBa rfl _ _ _ 214 rfl Tryz.underlying214 w.heap.size _ _ (by unfold maxLen;omega) d.num hwf true rfl hB1 rfl rfl ?_;intro w6 hB6 hf6;have c0:w6.cell? ⟨wr.heap.size,0,none⟩=some (.int .i64 d.index):=hf6.cell c0 (fun h=>by unfold Is at h;dsimp only at h;omega)))
    rw[hU2.out]at hB6;have HF6:=Lib.hid (HF1.out.step hf6 (fun b _ h=>h));have HB6:=Lib.hid hB6;clear hB6 hf6 hB1
    go_roundw
    case rel=>exact⟨k+1,by omega,by rw[hMx.out,hmx],by go_num,HB6.out,HF6.out⟩
    case measure=>simp[intOf];omega
  ·obtain rfl:k=ds.length:=by omega
   have hlt':¬ (ds.length:Int)<ds.length:=by omega
   have hB0:BMap wr w.heap.size (usedF ds) ds.length:=by rw[List.take_length]at hB;exact hB
   have Hf:=Lib.hid (HX.out.step hf (fun b hb h=>by unfold Is at h;omega));have hus:=HT.out.2.2;rw[List.take_length];clear hB hf
   go_wp2_with fail
   go_loopw [8] (fun x wz=>x=.int .i64 1048576/\wz=wr) (fun _ _=>0)
   case atStart=>exact⟨rfl,rfl⟩
   case round=>
    obtain⟨rfl,rfl⟩:=hrel
    go_wp2_with (at_lookup;refine zAg rfl _ _ 214 rfl Tryz.underlying214 w.heap.size _ _ 1048576 (by decide) rfl hB0 rfl false hus ?_)
    go_ret2
    exact⟨rfl,Hf.out⟩
def addD (x:Dev)(ix p:Int):Dev:=⟨ix+1,p,x.orig,x.orig,x.sub,⟨#[]⟩,x.ali,x.kind,x.num,x.aa,x.an,x.ac⟩
def ocs (k:Int)(path:ByteArray)(x:Dev)(nm vl:ByteArray):Array Value:=#[.int .i64 k,.string path,.int .i64 x.index,.int .i64 x.parent,.string x.name,.string x.orig,.string x.sub,.string x.drv,.string x.ali,.int .i64 x.kind,.int .i64 x.num,.slice x.aa x.an x.ac,.string nm,.string vl]
structure OpB (W:World)(b:Nat)(k:Int)(path:ByteArray)(x:Dev)(nm vl:ByteArray):Prop where
 c0:W.cell? ⟨b,0,none⟩=some (.int .i64 k)
 c1:W.cell? ⟨b,1,none⟩=some (.string path)
 c2:W.cell? ⟨b,2,none⟩=some (.int .i64 x.index)
 c3:W.cell? ⟨b,3,none⟩=some (.int .i64 x.parent)
 c4:W.cell? ⟨b,4,none⟩=some (.string x.name)
 c5:W.cell? ⟨b,5,none⟩=some (.string x.orig)
 c6:W.cell? ⟨b,6,none⟩=some (.string x.sub)
 c7:W.cell? ⟨b,7,none⟩=some (.string x.drv)
 c8:W.cell? ⟨b,8,none⟩=some (.string x.ali)
 c9:W.cell? ⟨b,9,none⟩=some (.int .i64 x.kind)
 c10:W.cell? ⟨b,10,none⟩=some (.int .i64 x.num)
 c11:W.cell? ⟨b,11,none⟩=some (.slice x.aa x.an x.ac)
 c12:W.cell? ⟨b,12,none⟩=some (.string nm)
 c13:W.cell? ⟨b,13,none⟩=some (.string vl)
theorem OpB.of {W:World}{b:Nat}{k:Int}{path nm vl:ByteArray}{x:Dev}{T:TypeId}{fz:Nat×Nat}(h:W.heap[b]?=some (.cells (ocs k path x nm vl) T fz)):OpB W b k path x nm vl:=
 ⟨zB h 0,zB h 1,zB h 2,zB h 3,zB h 4,zB h 5,zB h 6,zB h 7,zB h 8,zB h 9,zB h 10,zB h 11,zB h 12,zB h 13⟩
structure KSt (w:World)(kb base:Nat)(a:Option Addr)(cap:Nat)(ds:List Dev)(ev:Option Addr)(en ec:Nat)(ix:Int):Prop where
 blk:w.heap[kb]?=some (.cells (kcs a ds.length cap ev en ec ix) 105)
 tr:Tr w base a cap ds
 ta:BlkT w a 34
 te:∀ d∈ds,BlkT w d.aa 50
 own:∃ xs,w.ownsRow base 154 5 (.slice ev en ec) en xs
 nm:∀ d∈ds,d.name.size<=1000
def ParIs (ds:List Dev)(path:ByteArray)(p:Int):Prop:=(ds.find? (atP ds path)=none/\path=⟨#[]⟩/\p=0)\/∃ d,ds.find? (atP ds path)=some d/\p=d.index
theorem Cop.tr {w w':World}{B base:Nat}{src ds':List Dev}{a':Option Addr}{c':Nat}(h:Cop w w' B src ds')(hs:∀ d∈src,Sized d/\d.drv=⟨#[]⟩)(hD:Devs w' a' c' ds')(hwf:TreeWf ds')(hf:∀ ad,a'=some ad->B<=ad.block)(hb:base<=B):Tr w' base a' c' ds':=
 ⟨hD,hwf,fun ad e=>Nat.le_trans hb (hf ad e),fun d' hd=>by
  obtain⟨d,h1,h2⟩:=h.mem hd;obtain⟨l,_,g2,g3,g4⟩:=h2.att;obtain⟨s1,s2⟩:=hs d h1;have e:=h2.eq;refine⟨⟨by rw[e];exact s1.name,by rw[e];exact s1.orig,by rw[e];exact s1.sub,by rw[e];exact s1.drv,by rw[e];exact s1.ali⟩,by rw[e];exact s2,⟨l,g2,by rw[e];exact g3,g4⟩,fun ad ea=>Nat.le_trans hb (h2.fresh ad ea)⟩⟩
theorem Cop.names {w w':World}{B:Nat}{src ds':List Dev}(h:Cop w w' B src ds')(hn:∀ d∈src,d.name.size<=1000):∀ d∈ds',d.name.size<=1000:=fun d' hd=>by
 obtain⟨d,h1,h2⟩:=h.mem hd;rw[h2.eq];exact hn d h1
theorem BlkT.ne_blk {w:World}{a:Option Addr}{T T':TypeId}(h:BlkT w a T){b:Nat}{cs:Array Value}(hb:w.heap[b]?=some (.cells cs T'))(hne:T≠T'):∀ ad,a=some ad->¬ Is b ad.block:=fun ad e hs=>by
 obtain⟨cs',hc⟩:=h ad e;unfold Is at hs;rw[hs,hb]at hc;cases hc;exact hne rfl
theorem Tr.typ {w w':World}{base:Nat}{a:Option Addr}{cap:Nat}{ds:List Dev}{S:Nat->Prop}(h:Tr w base a cap ds)(ha:BlkT w a 34)(he:∀ d∈ds,BlkT w d.aa 50)(hf:Fr S w w')
  (hS:∀ b cs T,S b->w.heap[b]?=some (.cells cs T (0,0))->T≠34/\T≠50):Tr w' base a cap ds/\BlkT w' a 34/\∀ d∈ds,BlkT w' d.aa 50:=by
 have n1:∀ ad,a=some ad->¬ S ad.block:=fun ad e hs=>by
  obtain⟨cs,hc⟩:=ha ad e;exact(hS _ _ _ hs hc).1 rfl
 have n2:∀ d∈ds,∀ ad,d.aa=some ad->¬ S ad.block:=fun d hd ad e hs=>by
  obtain⟨cs,hc⟩:=he d hd ad e;exact(hS _ _ _ hs hc).2 rfl
 refine⟨⟨h.dv.fr hf (fun ad e _=>n1 ad e),h.wf,h.fresh,fun d hd=>?_⟩,ha.fr hf n1,fun d hd=>(he d hd).fr hf (n2 d hd)⟩;have hd':=h.el d hd;obtain⟨l,g1,g2⟩:=hd'.att;exact⟨hd'.sz,hd'.drv,⟨l,g1.fr hf (fun ad e _=>n2 d hd ad e),g2⟩,hd'.fresh⟩
def AddRes (w w':World)(kb base:Nat)(ds:List Dev)(d:Dev)(en:Nat)(ix:Int):Prop:=
 ∃ a' cap' ds' ev' ec',KSt w' kb base a' cap' ds' ev' (en+1) ec' (ix+1)/\Cop w w' w.heap.size (ds++[d]) ds'
theorem zKw (kb base:Nat)(a:Option Addr)(cap:Nat)(ds:List Dev)(ev:Option Addr)(en ec:Nat)(ix:Int)(path nm vl:ByteArray)(x:Dev)(k p:Int)(l:List (ByteArray×ByteArray))(m:Int)(w:World)(hK:KSt w kb base a cap ds ev en ec ix)(hen:en<=1000)(hix:0<=ix/\ix<=1000000)(hb:base<=w.heap.size)
  (hA:Atts w x.aa x.ac l) (h1:l.length<=1) (han:x.an=l.length) (hk2:x.kind=2) (hs:Sized (addD x ix p)) (hp:ParIs ds path p) (hpw:(Lit.int .i64 p).wf=true) (hok:InsOk ds (addD x ix p) l) (hwf:∀ w' ds',Cop w w' w.heap.size (ds++[addD x ix p]) ds'->TreeWf ds')
  (hm:w.cell? ⟨0,0,none⟩=some (.int .i64 m)) (h0:0<w.heap.size) (hkb:0<kb):
  Calls Tryz.prog 55 #[.pointer (some ⟨kb,0,none⟩),.agg (ocs k path x nm vl)] w fun e w'=>e=.returned (.tuple #[.int .i64 (ix+1),.int .i64 0])/\AddRes w w' kb base ds (addD x ix p) en ix/\Fr (fun b=>b=kb\/(Value.slice ev en ec).ownBlock=some b) w w':=by
 have hn:=hok.len;obtain⟨xs,hown⟩:=hK.own;obtain⟨W0,hW0⟩:∃ W0,W0=w.alloc (.cells (ocs k path x nm vl) 69):=⟨_,rfl⟩
 have x0:Fr No w W0:=by rw[hW0];exact(Fr.refl _ _).alloc _
 have b0:W0.heap[w.heap.size]?=some (.cells (ocs k path x nm vl) 69):=by rw[hW0];exact zD _ _
 have kb0:=x0.heap hK.blk id;have hkl:=zE hK.blk;have hat:=fun (W:World) (hf:Fr No w W)=>zEu a cap ds base path W (hK.tr.no hf) (by omega)
 have Hat:=Lib.hid hat;have HK:=Lib.hid hK;have HA:=Lib.hid hA;have Hok:=Lib.hid hok;have Hwf:=Lib.hid hwf;have Hp:=Lib.hid hp;have HAN:=Lib.hid han;have HS:=Lib.hid hs;have HK2:=Lib.hid hk2;have Hm:=Lib.hid hm;have Hown:=Lib.hid hown;clear hat hA hok hwf hp han hs hk2 hm hK hown;unfold ocs at hW0 ⊢
 go_enter Tryz.func55,Tryz.ntmps55
 go_upto_region 1 with(fail)
 rw[<-hW0];clear hW0
 go_cut [6,7] (fun p6 b7 wx=>∃ Bp pd bb,p6=.pointer (some ⟨Bp,0,none⟩)/\b7=.bool bb/\Hid (wx.heap[Bp]?=some (.cells (Dev.vals pd) 34)/\pd.index=p/\(bb=true\/path=⟨#[]⟩)/\w.heap.size<Bp)/\Fr No W0 wx)
 case first=>
  have dz:Dev.zero.vals=#[.int .i64 0,.int .i64 0,.string ⟨#[]⟩,.string ⟨#[]⟩,.string ⟨#[]⟩,.string ⟨#[]⟩,.string ⟨#[]⟩,.int .i64 0,.int .i64 0,.slice none 0 0]:=rfl;refine zY (fun b=>W0.heap.size<=b) (.q 0 (.q 1 (.q 2 (.q 3 (.q 4 (.q 5 (.m2 6 (.q 7 (.q 8 (.q 9 (.m1 10 (.m1 11 (.q 12 .fin)))))) 10 (.m1 6 (.q 7 (.q 8 (.q 9 (.m1 11 (.q 12 .fin))))))))))))) _ (by kernel_rfl) (by kernel_rfl) (fun W1 hf1=>?_) (fun _ _ h=>h);have b1:=hf1.heap b0 id;have k1:=hf1.heap kb0 id;have hs0:=zE b0;have hs1:=hf1.size;have t0:∀ g:Gr (fun b=>W0.heap.size<=b) W1,g.W.cell? ⟨kb,0,none⟩=some (.slice a ds.length cap):=fun g=>zB (g.fr.heap k1 (fun h=>by omega)) 0
  have t1:∀ g:Gr (fun b=>W0.heap.size<=b) W1,g.W.cell? ⟨w.heap.size,1,none⟩=some (.string path):=fun g=>zB (g.fr.heap b1 (fun h=>by omega)) 1
  have x1:=Lib.hid (x0.step hf1 (fun _ _ h=>h))
  repeat (first | (apply zM;exact rfl;exact rfl;exact rfl;intro K hK;go_big_quiet_op;go_big_quiet_on) | (apply zO;exact rfl;exact rfl;exact rfl;intro K hK;go_big_quiet_op;go_big_quiet_on))
  clear t0 t1;refine zh rfl rfl ?_ ?_
  ·skip
   ·have hcall:=Hat.out W1 x1.out
    go_wp2_with fail
    refine hcall.mono ?_;rintro e w2 ⟨hF,hf2⟩;clear hcall;obtain⟨pd,bb,rfl,hpi,hbb⟩:∃ pd bb,e=.returned (.tuple #[.agg (Dev.vals pd),.bool bb])/\pd.index=p/\(bb=true\/path=⟨#[]⟩):=by
     rcases hF with⟨hlk,rfl⟩ | ⟨d,a',c',l',hlk,rfl,_⟩
     ·rcases Hp.out with⟨_,h2,h3⟩ | ⟨d,h2,_⟩
      ·exact⟨Dev.zero,false,rfl,h3.symm,.inr h2⟩
      ·rw[hlk]at h2;cases h2
     ·rcases Hp.out with⟨h2,_⟩ | ⟨d',h2,h3⟩
      ·rw[hlk]at h2;cases h2
      ·rw[hlk]at h2;cases h2;exact⟨{ d with aa:=a',ac:=c' },true,rfl,h3.symm,.inl rfl⟩
    have HPB:=Lib.hid (And.intro hpi hbb);clear hpi hbb;unfold Dev.vals
    go_wp2_with fail
    refine OnlyN.mk ⟨hf2.mono (fun _ _ h=>h.elim),?_⟩
    repeat (first | (apply zM;exact rfl;exact rfl;exact rfl;intro K hK;go_big_quiet_op;go_big_quiet_on) | (apply zO;exact rfl;exact rfl;exact rfl;intro K hK;go_big_quiet_op;go_big_quiet_on))
    apply zH;exact rfl;obtain⟨W3,hW3⟩:∃ W3,W3=w2.alloc (.cells #[.int .i64 0,.int .i64 0,.string ⟨#[]⟩,.string ⟨#[]⟩,.string ⟨#[]⟩,.string ⟨#[]⟩,.string ⟨#[]⟩,.int .i64 0,.int .i64 0,.slice none 0 0] 34):=⟨_,rfl⟩
    have f3:Fr No w2 W3:=by rw[hW3];exact(Fr.refl _ _).alloc _
    have q3:W3.heap[w2.heap.size]?=some (.cells #[.int .i64 0,.int .i64 0,.string ⟨#[]⟩,.string ⟨#[]⟩,.string ⟨#[]⟩,.string ⟨#[]⟩,.string ⟨#[]⟩,.int .i64 0,.int .i64 0,.slice none 0 0] 34):=by rw[hW3];exact zD _ _
    have HX:Hid (Fr No W0 W3):=(hf1.step hf2 (fun _ _ h=>h)).step f3 (fun _ _ h=>h);have hs2:=hf2.size
    go_wp2_with fail
    refine OnlyN.mk ⟨((Fr.refl No _).alloc _).mono (fun _ _ h=>h.elim),?_⟩;rw[<-hW3];clear hW3 f3;apply zH;exact rfl;obtain⟨z0,z1,z2,z3,z4,z5,z6,z7,z8,z9⟩:=DevB.of (d:=⟨0,0,⟨#[]⟩,⟨#[]⟩,⟨#[]⟩,⟨#[]⟩,⟨#[]⟩,0,0,none,0,0⟩) q3;obtain⟨y0,y1,y2,y3,y4,y5,y6,y7,y8,y9⟩:=DevF.of q3;have h10:=Lib.hid (zAy q3 rfl pd);have hq3:=zE q3;clear q3
    go_wp2_with fail
    refine OnlyN.mk ⟨h10.out.2.mono (fun b _ h=>by unfold Is at h;omega),?_⟩
    repeat (first | (apply zM;exact rfl;exact rfl;exact rfl;intro K hK;go_big_quiet_op;go_big_quiet_on) | (apply zO;exact rfl;exact rfl;exact rfl;intro K hK;go_big_quiet_op;go_big_quiet_on))
    refine zS ?_
    go_wp2_with fail
    go_meet
    exact⟨_,pd,bb,rfl,rfl,⟨h10.out.1,HPB.out.1,HPB.out.2,by omega⟩,(HX.out.step h10.out.2 (fun b hb h=>by unfold Is at h;omega))⟩
  ·skip
   ·obtain⟨W3,hW3⟩:∃ W3,W3=W1.alloc (.cells #[.int .i64 0,.int .i64 0,.string ⟨#[]⟩,.string ⟨#[]⟩,.string ⟨#[]⟩,.string ⟨#[]⟩,.string ⟨#[]⟩,.int .i64 0,.int .i64 0,.slice none 0 0] 34):=⟨_,rfl⟩
    have f3:Fr No W1 W3:=by rw[hW3];exact(Fr.refl _ _).alloc _
    have q2:W3.heap[W1.heap.size]?=some (.cells #[.int .i64 0,.int .i64 0,.string ⟨#[]⟩,.string ⟨#[]⟩,.string ⟨#[]⟩,.string ⟨#[]⟩,.string ⟨#[]⟩,.int .i64 0,.int .i64 0,.slice none 0 0] 34):=by rw[hW3];exact zD _ _
    go_wp2_with fail
    refine OnlyN.mk ⟨((Fr.refl No _).alloc _).mono (fun _ _ h=>h.elim),?_⟩;rw[<-hW3];clear hW3;have hcall:=Hat.out W3 (x1.out.step f3 (fun _ _ h=>h));apply zH;exact rfl
    go_wp2_with fail
    refine hcall.mono ?_;rintro e w2 ⟨hF,hf2⟩;clear hcall;obtain⟨pd,bb,rfl,hpi,hbb⟩:∃ pd bb,e=.returned (.tuple #[.agg (Dev.vals pd),.bool bb])/\pd.index=p/\(bb=true\/path=⟨#[]⟩):=by
     rcases hF with⟨hlk,rfl⟩ | ⟨d,a',c',l',hlk,rfl,_⟩
     ·rcases Hp.out with⟨_,h2,h3⟩ | ⟨d,h2,_⟩
      ·exact⟨Dev.zero,false,rfl,h3.symm,.inr h2⟩
      ·rw[hlk]at h2;cases h2
     ·rcases Hp.out with⟨h2,_⟩ | ⟨d',h2,h3⟩
      ·rw[hlk]at h2;cases h2
      ·rw[hlk]at h2;cases h2;exact⟨{ d with aa:=a',ac:=c' },true,rfl,h3.symm,.inl rfl⟩
    have HPB:=Lib.hid (And.intro hpi hbb);clear hpi hbb;unfold Dev.vals;have q3:=hf2.heap q2 id;have HX:Hid (Fr No W0 w2):=(hf1.step f3 (fun _ _ h=>h)).step hf2 (fun _ _ h=>h);clear q2 f3
    go_wp2_with fail
    refine OnlyN.mk ⟨hf2.mono (fun _ _ h=>h.elim),?_⟩
    repeat (first | (apply zM;exact rfl;exact rfl;exact rfl;intro K hK;go_big_quiet_op;go_big_quiet_on) | (apply zO;exact rfl;exact rfl;exact rfl;intro K hK;go_big_quiet_op;go_big_quiet_on))
    apply zH;exact rfl;obtain⟨z0,z1,z2,z3,z4,z5,z6,z7,z8,z9⟩:=DevB.of (d:=⟨0,0,⟨#[]⟩,⟨#[]⟩,⟨#[]⟩,⟨#[]⟩,⟨#[]⟩,0,0,none,0,0⟩) q3;obtain⟨y0,y1,y2,y3,y4,y5,y6,y7,y8,y9⟩:=DevF.of q3;have h10:=Lib.hid (zAy q3 rfl pd);have hq3:=zE q3;clear q3
    go_wp2_with fail
    refine OnlyN.mk ⟨h10.out.2.mono (fun b _ h=>by unfold Is at h;omega),?_⟩
    repeat (first | (apply zM;exact rfl;exact rfl;exact rfl;intro K hK;go_big_quiet_op;go_big_quiet_on) | (apply zO;exact rfl;exact rfl;exact rfl;intro K hK;go_big_quiet_op;go_big_quiet_on))
    refine zS ?_
    go_wp2_with fail
    go_meet
    exact⟨_,pd,bb,rfl,rfl,⟨h10.out.1,HPB.out.1,HPB.out.2,by omega⟩,(HX.out.step h10.out.2 (fun b hb h=>by unfold Is at h;omega))⟩
 case rest=>
  obtain⟨Bp,pd,bb,rfl,rfl,hB,hf1⟩:=hcut;have x1:Fr No w wc:=x0.step hf1 (fun _ _ h=>h);have b1:=hf1.heap b0 id;have k1:=hf1.heap kb0 id;have p1:=hB.out.1;have hs0:=zE b0;have hs1:=hf1.size;have hpl:=zE p1;have hwp:=hB.out.2.2.2;clear b0 kb0 hf1;obtain⟨o0,o1,o2,o3,o4,o5,o6,o7,o8,o9,o10,o11,o12,o13⟩:=OpB.of b1
  go_upto_region 2 with(fail)
  go_cut [32] (fun v wy=>v=.bool false/\wc=wy)
  case first=>
   rcases hB.out.2.2.1 with rfl | rfl
   ·rcases hpe:path.toList.isEmpty with _ | _
    all_goals
     go_wp2_with fail
     go_meet
     exact⟨rfl,rfl⟩
   ·go_wp2_with fail
    go_meet
    exact⟨rfl,rfl⟩
  case rest=>
   obtain⟨rfl,rfl⟩:=hcut;obtain⟨W4,hW4⟩:∃ W4,W4=wc.alloc (.cells x.vals 34):=⟨_,rfl⟩
   have f4:Fr No wc W4:=by rw[hW4];exact(Fr.refl _ _).alloc _
   have b4:W4.heap[wc.heap.size]?=some (.cells x.vals 34):=by rw[hW4];exact zD _ _
   unfold Dev.vals at hW4
   go_upto_region 5 with(fail)
   rw[<-hW4];clear hW4 o0 o1 o2 o3 o4 o5 o6 o7 o8 o9 o10 o11 o12 o13;have s4:=f4.size;refine zR (fun b=>W4.heap.size<=b) [(0,false),(1,false),(2,false),(3,false),(4,false),(5,false),(6,false),(7,false),(8,false),(9,false),(10,false),(11,false),(12,false),(13,false),(14,false),(15,false),(16,false),(17,false),(18,false),(19,false),(20,false),(21,false),(22,true),(23,true)] (by kernel_rfl) (by kernel_rfl) (fun W5 hf5=>?_);have s5:=hf5.size;have x5:Fr No w W5:=(x1.step f4 (fun _ _ h=>h)).step hf5 (fun _ _ h=>h);have k5:=hf5.heap (f4.heap k1 id) id;have p5:=hf5.heap (f4.heap p1 id) id;have b5:=hf5.heap b4 id;have b4l:=zE b4;have t0:∀ g:Gr (fun b=>W4.heap.size<=b) W5,g.W.cell? ⟨kb,4,none⟩=some (.int .i64 ix):=fun g=>zB (g.fr.heap k5 (fun h=>by omega)) 4
   have t1:∀ g:Gr (fun b=>W4.heap.size<=b) W5,g.W.cell? ⟨Bp,0,none⟩=some (.int .i64 p):=fun g=>by rw[<-hB.out.2.1];exact zB (g.fr.heap p5 (fun h=>by omega)) 0
   have cB:∀ g:Gr (fun b=>W4.heap.size<=b) W5,DevB g.W wc.heap.size x:=fun g=>DevB.of (g.fr.heap b5 (fun h=>by omega))
   have c0:=fun g=>(cB g).c0
   have c1:=fun g=>(cB g).c1
   have c2:=fun g=>(cB g).c2
   have c3:=fun g=>(cB g).c3
   have c4:=fun g=>(cB g).c4
   have c5:=fun g=>(cB g).c5
   have c6:=fun g=>(cB g).c6
   have c7:=fun g=>(cB g).c7
   have c8:=fun g=>(cB g).c8
   have c9:=fun g=>(cB g).c9
   clear cB
   repeat (first | (apply zT;exact rfl;exact rfl;exact rfl;intro K hK;go_big_quiet_op;go_big_quiet_on) | (apply zW;exact rfl;exact rfl;exact rfl;intro K hK;go_big_quiet_op;go_big_quiet_on))
   clear t0 t1 c0 c1 c2 c3 c4 c5 c6 c7 c8 c9;apply zi;exact rfl;obtain⟨W6,hW6⟩:∃ W6,W6=W5.alloc (.cells #[.int .i64 0,.int .i64 0,.string ⟨#[]⟩,.string ⟨#[]⟩,.string ⟨#[]⟩,.string ⟨#[]⟩,.string ⟨#[]⟩,.int .i64 0,.int .i64 0,.slice none 0 0] 34):=⟨_,rfl⟩
   have f6:Fr No W5 W6:=by rw[hW6];exact(Fr.refl _ _).alloc _
   have q6:W6.heap[W5.heap.size]?=some (.cells #[.int .i64 0,.int .i64 0,.string ⟨#[]⟩,.string ⟨#[]⟩,.string ⟨#[]⟩,.string ⟨#[]⟩,.string ⟨#[]⟩,.int .i64 0,.int .i64 0,.slice none 0 0] 34):=by rw[hW6];exact zD _ _
   go_wp2_with fail
   refine OnlyN.mk ⟨((Fr.refl No _).alloc _).mono (fun _ _ h=>h.elim),?_⟩;rw[<-hW6];clear hW6;apply zi;exact rfl;obtain⟨z0,z1,z2,z3,z4,z5,z6,z7,z8,z9⟩:=DevB.of (d:=⟨0,0,⟨#[]⟩,⟨#[]⟩,⟨#[]⟩,⟨#[]⟩,⟨#[]⟩,0,0,none,0,0⟩) q6;obtain⟨y0,y1,y2,y3,y4,y5,y6,y7,y8,y9⟩:=DevF.of q6;have h10:=Lib.hid (zAy q6 rfl (addD x ix p));clear q6
   go_wp2_with fail
   refine OnlyN.mk ⟨h10.out.2.mono (fun b _ h=>by unfold Is at h;omega),?_⟩;refine zb ?_;have f7:=h10.out.2;have q7:=h10.out.1;clear h10 z0 z1 z2 z3 z4 z5 z6 z7 z8 z9 y0 y1 y2 y3 y4 y5 y6 y7 y8 y9;unfold addD at f7 q7;dsimp only at f7 q7;revert f7 q7;generalize hW7:((((((((((W6.setCell _ _).setCell _ _).setCell _ _).setCell _ _).setCell _ _).setCell _ _).setCell _ _).setCell _ _).setCell _ _).setCell _ _)=W7;intro f7 q7;clear hW7;have x7:Fr No w W7:=(x5.step f6 (fun _ _ h=>h)).step f7 (fun b hb h=>by have:=x5.size;unfold Is at h;omega);have k7:=f7.heap (f6.heap k5 id) (fun h=>by have:=x5.size;unfold Is at h;omega);have hiw:(Lit.int .i64 (addD x ix p).index).wf=true:=WalkArith.wf_i64 (by show _/\_;unfold addD;dsimp only;omega);have Hins:Hid (∀ W,Fr No w W->Calls Tryz.prog 89 #[.agg #[.slice a ds.length cap],.agg #[.int .i64 (ix+1),.int .i64 p,.string x.orig,.string x.orig,.string x.sub,.string ⟨#[]⟩,.string x.ali,.int .i64 x.kind,.int .i64 x.num,.slice x.aa x.an x.ac]] W fun e w'=>zFQ W w' ds (addD x ix p) e/\Fr No W w'):=fun W hf=>
    zA8 a cap ds base (addD x ix p) l m W (HK.out.tr.no hf) HS.out (HA.out.no hf (fun _=>id)) h1 HAN.out HK2.out rfl hpw hiw Hok.out (hf.cell Hm.out id) (Nat.lt_of_lt_of_le h0 hf.size)
   have hat:Hid (∀ y∈ds++[addD x ix p],∃ l,Atts w y.aa y.ac l/\y.an=l.length):=by
    intro y hy;rcases List.mem_append.1 hy with h | h
    ·obtain⟨l',g1,g2,_⟩:=(HK.out.tr.el y h).att;exact⟨l',g1,g2⟩
    ·simp at h;subst h;exact⟨l,HA.out,HAN.out⟩
   have hkw:kb<w.heap.size:=hkl;have s57:W5.heap.size<W7.heap.size:=zE q7;have sw5:=x5.size;clear k5 p5 b5 f4 f6 f7 hf5 k1 p1 b1 b4
   go_upto_region 6 with(fail)
   go_cut [10,11] (fun p10 v11 wy=>∃ Bt a' c' ds',p10=.pointer (some ⟨Bt,0,none⟩)/\v11=.int .i64 0/\Hid (wy.heap[Bt]?=some (.cells #[.slice a' (List.length ds') c'] 28)/\W7.heap.size<=Bt)/\Hid (Devs wy a' c' ds'/\BlkT wy a' 34/\(∀ ad,a'=some ad->W7.heap.size<=ad.block)/\Cop w wy w.heap.size (ds++[addD x ix p]) ds')/\Fr No W7 wy)
   case first=>
    refine zY (fun b=>W7.heap.size<=b) (.q 0 (.q 1 (.q 2 (.q 3 (.q 4 (.m2 5 (.q 6 (.q 7 (.q 8 (.m1 9 (.m1 10 (.q 11 .fin)))))) 9 (.m1 5 (.q 6 (.q 7 (.q 8 (.m1 10 (.q 11 .fin))))))))))))  _ (by kernel_rfl) (by kernel_rfl) (fun W8 hf8=>?_) (fun _ _ h=>h);have s8:=hf8.size;have k8:=hf8.heap k7 id;have q8:=hf8.heap q7 id;have x8:=Lib.hid (x7.step hf8 (fun _ _ h=>h));have t0:∀ g:Gr (fun b=>W7.heap.size<=b) W8,g.W.cell? ⟨kb,0,none⟩=some (.slice a ds.length cap):=fun g=>zB (g.fr.heap k8 (fun h=>by omega)) 0
    have cB:∀ g:Gr (fun b=>W7.heap.size<=b) W8,DevB g.W W5.heap.size ⟨ix+1,p,x.orig,x.orig,x.sub,⟨#[]⟩,x.ali,x.kind,x.num,x.aa,x.an,x.ac⟩:=fun g=>DevB.of (g.fr.heap q8 (fun h=>by omega))
    have c0:=fun g=>(cB g).c0
    have c1:=fun g=>(cB g).c1
    have c2:=fun g=>(cB g).c2
    have c3:=fun g=>(cB g).c3
    have c4:=fun g=>(cB g).c4
    have c5:=fun g=>(cB g).c5
    have c6:=fun g=>(cB g).c6
    have c7:=fun g=>(cB g).c7
    have c8:=fun g=>(cB g).c8
    have c9:=fun g=>(cB g).c9
    clear cB
    repeat (first | (apply zM;exact rfl;exact rfl;exact rfl;intro K hK;go_big_quiet_op;go_big_quiet_on) | (apply zO;exact rfl;exact rfl;exact rfl;intro K hK;go_big_quiet_op;go_big_quiet_on))
    clear t0 c0 c1 c2 c3 c4 c5 c6 c7 c8 c9;refine zh rfl rfl ?_ ?_
    focus
     have hcall:=Hins.out W8 x8.out
     go_wp2_with fail
     refine hcall.mono ?_;rintro e w9 ⟨hR,hf9⟩;clear hcall;obtain⟨a',c',ds',rfl,hD,hBT,hfre,hcop⟩:=hR;have HR:=Lib.hid (And.intro hD (And.intro hBT (And.intro hfre hcop)));have s9:=hf9.size;clear hD hBT hfre hcop
     go_wp2_with fail
     refine OnlyN.mk ⟨hf9.mono (fun _ _ h=>h.elim),?_⟩
     repeat (first | (apply zM;exact rfl;exact rfl;exact rfl;intro K hK;go_big_quiet_op;go_big_quiet_on) | (apply zO;exact rfl;exact rfl;exact rfl;intro K hK;go_big_quiet_op;go_big_quiet_on))
     apply zH;exact rfl;obtain⟨WA,hWA⟩:∃ WA,WA=w9.alloc (.cells #[.slice none 0 0] 28):=⟨_,rfl⟩
     have fA:Fr No w9 WA:=by rw[hWA];exact(Fr.refl _ _).alloc _
     have qA:WA.heap[w9.heap.size]?=some (.cells #[.slice none 0 0] 28):=by rw[hWA];exact zD _ _
     go_wp2_with fail
     refine OnlyN.mk ⟨((Fr.refl No _).alloc _).mono (fun _ _ h=>h.elim),?_⟩;rw[<-hWA];clear hWA;have HT:Hid (Devs WA a' c' ds'/\BlkT WA a' 34/\(∀ ad,a'=some ad->W7.heap.size<=ad.block)/\Cop w WA w.heap.size (ds++[addD x ix p]) ds'):=⟨HR.out.1.no fA (fun _=>id),HR.out.2.1.fr fA (fun _ _=>id),fun ad e=>by have:=HR.out.2.2.1 ad e;omega,(HR.out.2.2.2.src x8.out hat.out x8.out.size).fr fA (fun _ _ _ _=>id)⟩
     have hfin:Hid (Fr No W7 WA):=(hf8.step hf9 (fun _ _ h=>h)).step fA (fun _ _ h=>h);have hB2:Hid (W7.heap.size<=w9.heap.size):=by unfold Hid;omega
     generalize w9.heap.size=Bt at *
    rotate_left 1
    focus
     obtain⟨W9,hW9⟩:∃ W9,W9=W8.alloc (.cells #[.slice none 0 0] 28):=⟨_,rfl⟩
     have f9:Fr No W8 W9:=by rw[hW9];exact(Fr.refl _ _).alloc _
     have q9:W9.heap[W8.heap.size]?=some (.cells #[.slice none 0 0] 28):=by rw[hW9];exact zD _ _
     go_wp2_with fail
     refine OnlyN.mk ⟨((Fr.refl No _).alloc _).mono (fun _ _ h=>h.elim),?_⟩;rw[<-hW9];clear hW9;have x9:=Lib.hid (x8.out.step f9 (fun _ _ h=>h));have hcall:=Hins.out W9 x9.out;apply zH;exact rfl
     go_wp2_with fail
     refine hcall.mono ?_;rintro e WA ⟨hR,hfA⟩;clear hcall;obtain⟨a',c',ds',rfl,hD,hBT,hfre,hcop⟩:=hR;have s9:=f9.size;have qA:=hfA.heap q9 id;have HT:Hid (Devs WA a' c' ds'/\BlkT WA a' 34/\(∀ ad,a'=some ad->W7.heap.size<=ad.block)/\Cop w WA w.heap.size (ds++[addD x ix p]) ds'):=⟨hD,hBT,fun ad e=>by have:=hfre ad e;omega,hcop.src x9.out hat.out x9.out.size⟩
     have hfin:Hid (Fr No W7 WA):=(hf8.step f9 (fun _ _ h=>h)).step hfA (fun _ _ h=>h);have hB2:Hid (W7.heap.size<=W8.heap.size):=s8;clear hD hBT hfre hcop q9
     go_wp2_with fail
     refine OnlyN.mk ⟨hfA.mono (fun _ _ h=>h.elim),?_⟩
     repeat (first | (apply zM;exact rfl;exact rfl;exact rfl;intro K hK;go_big_quiet_op;go_big_quiet_on) | (apply zO;exact rfl;exact rfl;exact rfl;intro K hK;go_big_quiet_op;go_big_quiet_on))
     generalize W8.heap.size=Bt at *
    all_goals (
     apply zH;exact rfl;have y0:=zC qA 0;have z0:WA.cell? ⟨Bt,0,none⟩=some (.slice none 0 0):=zB qA 0;have fB:Fr (Is Bt) WA (WA.setCell ⟨Bt,0,none⟩ (.slice a' ds'.length c')):=Fr.setAt (Fr.refl _ _) _;have qB:=zF qA 0 (.slice a' ds'.length c');have n1:=HT.out.2.1.ne_blk qA (by decide);have HU:Hid (Devs (WA.setCell ⟨Bt,0,none⟩ (.slice a' ds'.length c')) a' c' ds'/\BlkT (WA.setCell ⟨Bt,0,none⟩ (.slice a' ds'.length c')) a' 34/\(∀ ad,a'=some ad->W7.heap.size<=ad.block)/\Cop w (WA.setCell ⟨Bt,0,none⟩ (.slice a' ds'.length c')) w.heap.size (ds++[addD x ix p]) ds'):=
      ⟨HT.out.1.fr fB (fun ad e _=>n1 ad e),HT.out.2.1.fr fB n1,HT.out.2.2.1,HT.out.2.2.2.fr fB (fun d hd=>by
       obtain⟨y,_,hy⟩:=HT.out.2.2.2.mem hd;exact hy.typ.ne_blk qA (by decide))⟩
     have Hf7:Hid (Fr No W7 (WA.setCell ⟨Bt,0,none⟩ (.slice a' ds'.length c'))):=hfin.out.step fB (fun b hb h=>by have:=hB2.out;unfold Is at h;omega);have HqB:=Lib.hid qB;clear qB fB n1 qA
     go_wp2_with fail
     refine OnlyN.mk ⟨Fr.setCell (Fr.refl _ _) (fun _=>hB2.out) _,?_⟩
     repeat (first | (apply zM;exact rfl;exact rfl;exact rfl;intro K hK;go_big_quiet_op;go_big_quiet_on) | (apply zO;exact rfl;exact rfl;exact rfl;intro K hK;go_big_quiet_op;go_big_quiet_on))
     refine zS ?_
     go_wp2_with fail
     go_meet
     exact⟨Bt,a',c',ds',rfl,rfl,⟨HqB.out,hB2.out⟩,HU,Hf7.out⟩
     )
   case rest=>
    obtain⟨Bt,a',c',ds',rfl,rfl,hBt,HU,hf8⟩:=hcut;have x8:Fr No w wc:=x7.step hf8 (fun _ _ h=>h);have k8:=hf8.heap k7 id;have q8:=hf8.heap q7 id;have hBt1:=hBt.out.1;have hBt2:=hBt.out.2;have s8:=hf8.size;clear k7 q7 hBt hf8
    go_upto_region 9 with(fail)
    refine zR (fun b=>b=kb) [(0,false),(1,false),(2,false),(3,false),(4,false),(5,false),(6,false),(7,true),(8,false),(9,false),(10,true)] (by kernel_rfl) (by kernel_rfl) (fun W9 hf9=>?_);have x9:Fr No w W9:=x8.step hf9 (fun _ _ h=>h);have k9:=hf9.heap k8 id;have q9:=hf9.heap q8 id;have t9:=hf9.heap hBt1 id;have s9:=hf9.size;have t0:∀ g:Gr (fun b=>b=kb) W9,g.W.cell? ⟨Bt,0,none⟩=some (.slice a' ds'.length c'):=fun g=>zB (g.fr.heap t9 (fun h=>by omega)) 0
    have t1:∀ g:Gr (fun b=>b=kb) W9,g.W.cell? ⟨W5.heap.size,0,none⟩=some (.int .i64 (ix+1)):=fun g=>zB (g.fr.heap q9 (fun h=>by omega)) 0
    repeat (first | (apply zT;exact rfl;exact rfl;exact rfl;intro K hK;go_big_quiet_op;go_big_quiet_on) | (apply zW;exact rfl;exact rfl;exact rfl;intro K hK;go_big_quiet_op;go_big_quiet_on))
    clear t0 t1;apply zi;exact rfl;have y0:=zC k9 0;have z0:W9.cell? ⟨kb,0,none⟩=some (.slice a ds.length cap):=zB k9 0;have k10:(W9.setCell ⟨kb,0,none⟩ (.slice a' ds'.length c')).heap[kb]?=some (.cells (kcs a' ds'.length c' ev en ec ix) 105):=zF k9 0 _;have f10:Fr (Is kb) W9 (W9.setCell ⟨kb,0,none⟩ (.slice a' ds'.length c')):=Fr.setAt (Fr.refl _ _) _
    go_wp2_with fail
    refine OnlyN.mk ⟨f10,?_⟩;generalize W9.setCell ⟨kb,0,none⟩ (.slice a' ds'.length c')=W10 at *;clear y0 z0
    repeat (first | (apply zT;exact rfl;exact rfl;exact rfl;intro K hK;go_big_quiet_op;go_big_quiet_on) | (apply zW;exact rfl;exact rfl;exact rfl;intro K hK;go_big_quiet_op;go_big_quiet_on))
    apply zi;exact rfl;have y4:=zC k10 4;have z4:W10.cell? ⟨kb,4,none⟩=some (.int .i64 ix):=zB k10 4;have k11:(W10.setCell ⟨kb,4,none⟩ (.int .i64 (ix+1))).heap[kb]?=some (.cells (kcs a' ds'.length c' ev en ec (ix+1)) 105):=zF k10 4 _;have f11:Fr (Is kb) W10 (W10.setCell ⟨kb,4,none⟩ (.int .i64 (ix+1))):=Fr.setAt (Fr.refl _ _) _
    go_wp2_with fail
    refine OnlyN.mk ⟨f11,?_⟩;generalize W10.setCell ⟨kb,4,none⟩ (.int .i64 (ix+1))=W11 at *;clear y4 z4;refine zb ?_;have f911:Fr (Is kb) W9 W11:=f10.step f11 (fun _ _ h=>h);have q11:=f911.heap q9 (fun h=>by unfold Is at h;omega);have hn9:=(HU.out.2.1.fr hf9 (fun _ _=>id)).ne_blk k9 (by decide);have hC9:Cop w W9 w.heap.size (ds++[addD x ix p]) ds':=HU.out.2.2.2.fr hf9 (fun _ _ _ _=>id);have hD11:Devs W11 a' c' ds':=(HU.out.1.no hf9 (fun _=>id)).fr f911 (fun ad e _=>hn9 ad e);have hT11:BlkT W11 a' 34:=(HU.out.2.1.fr hf9 (fun _ _=>id)).fr f911 hn9;have hC11:Cop w W11 w.heap.size (ds++[addD x ix p]) ds':=hC9.fr f911 (fun d hd=>by
     obtain⟨y,_,hy⟩:=hC9.mem hd;exact hy.typ.ne_blk k9 (by decide))
    have hsrc:∀ d∈ds++[addD x ix p],Sized d/\d.drv=⟨#[]⟩:=by
     intro y hy;rcases List.mem_append.1 hy with h | h
     ·exact⟨(HK.out.tr.el y h).sz,(HK.out.tr.el y h).drv⟩
     ·simp at h;subst h;exact⟨HS.out,rfl⟩
    have hnms:∀ d∈ds++[addD x ix p],d.name.size<=1000:=by
     intro y hy;rcases List.mem_append.1 hy with h | h
     ·exact HK.out.nm y h
     ·simp at h;subst h;have:=Hok.out.snd.oklen;show x.orig.size<=1000
      unfold addD at this;dsimp only at this;omega
    have hTr:Tr W11 base a' c' ds':=hC11.tr hsrc hD11 (Hwf.out _ _ hC11) (fun ad e=>by have:=HU.out.2.2.1 ad e;have:=x7.size;omega) hb;have hnm':=hC11.names hnms;have hn':ds'.length<=1000:=by have:=hC11.len;simp at this;omega
    have hown9:=zJ Hown.out x9 (fun _ _=>id);have hnk9:=zf hown9 k9 (by decide);have hown11:=zJ hown9 f911 (fun b hb h=>by unfold Is at h;subst h;exact hnk9 hb);have hev:=zJ8 kb a' c' base ds' ev en ec (ix+1) 1 (ix+1) W11 k11 hTr hn' (WalkArith.wf_i64 (by omega)) hnm';have s11:=f911.size;have q0:W11.cell? ⟨W5.heap.size,0,none⟩=some (.int .i64 (ix+1)):=zB q11 0;have X11:Hid (Fr (fun b=>b=kb\/(Value.slice ev en ec).ownBlock=some b) w W11):=(x9.mono (fun _ _ h=>h.elim)).step f911 (fun b _ h=>.inl h);have HC11:=Lib.hid (And.intro hC11 (And.intro hTr (And.intro hT11 hnm')));clear k8 k9 k10 f10 f11 q8 q9 t9 hBt1 hn9 hC9 hD11 hsrc hnms hC11 hTr hT11 hnm' hown9 hnk9
    go_upto_region 10 with(fail)
    go_wp2_with fail
    refine hev.mono ?_;rintro e w12 ⟨⟨sp,rfl⟩,hf12⟩;clear hev q0;obtain⟨W13,hW13⟩:∃ W13,W13=w12.alloc (.cells #[.int .i64 0,.int .i64 1,.int .i64 (ix+1),.string sp,.string ⟨#[]⟩] 154):=⟨_,rfl⟩
    have f13:Fr No w12 W13:=by rw[hW13];exact(Fr.refl _ _).alloc _
    have b13:W13.heap[w12.heap.size]?=some (.cells #[.int .i64 0,.int .i64 1,.int .i64 (ix+1),.string sp,.string ⟨#[]⟩] 154):=by rw[hW13];exact zD _ _
    have f1113:Fr No W11 W13:=hf12.step f13 (fun _ _ h=>h);have k13:=f1113.heap k11 id;have hown13:=zJ hown11 f1113 (fun _ _=>id);have hem:=zKv kb w12.heap.size base a' ds'.length c' ev en ec (ix+1) 1 (ix+1) sp xs W13 k13 hown13 (by omega) b13 (by have:=X11.out.size;have:=f1113.size;omega)
    go_wp2_with fail
    rw[<-hW13];clear hW13;refine hem.mono ?_;rintro e w14 ⟨rfl,⟨ev',ec',xs',k14,own14⟩,hf14⟩;clear hem;have q14:=hf14.heap (f1113.heap q11 id) (fun h=>by
     rcases h with h | h
     ·omega
     ·have:=zU Hown.out h;omega)
    have q0:w14.cell? ⟨W5.heap.size,0,none⟩=some (.int .i64 (ix+1)):=zB q14 0;have k2:w14.cell? ⟨kb,2,none⟩=some (.slice none 0 0):=zB k14 2;have hS:∀ b cs T,(b=kb\/(Value.slice ev en ec).ownBlock=some b)->W13.heap[b]?=some (.cells cs T (0,0))->T≠34/\T≠50:=by
     intro b cs T h hc;rcases h with rfl | h
     ·rw[k13]at hc;cases hc;exact⟨by decide,by decide⟩
     ·by_cases hT:T=154
      ·subst hT;exact⟨by decide,by decide⟩
      ·exact absurd h (zf hown13 hc hT)
    have hte13:∀ d∈ds',BlkT W13 d.aa 50:=fun d hd=>by
     obtain⟨y,_,hy⟩:=HC11.out.1.mem hd;exact hy.typ.fr f1113 (fun _ _=>id)
    have hC13:Cop w W13 w.heap.size (ds++[addD x ix p]) ds':=HC11.out.1.fr f1113 (fun _ _ _ _=>id);have hC14:Cop w w14 w.heap.size (ds++[addD x ix p]) ds':=hC13.fr hf14 (fun d hd ad e h=>by
     obtain⟨cs,hc⟩:=hte13 d hd ad e;exact(hS _ _ _ h hc).2 rfl)
    obtain⟨g1,g2,g3⟩:=Tr.typ (HC11.out.2.1.no f1113) (HC11.out.2.2.1.fr f1113 (fun _ _=>id)) hte13 hf14 hS;have HRES:Hid (AddRes w w14 kb base ds (addD x ix p) en ix/\Fr (fun b=>b=kb\/(Value.slice ev en ec).ownBlock=some b) w w14):=
     ⟨⟨a',c',ds',ev',ec',⟨k14,g1,g2,g3,⟨xs',own14⟩,HC11.out.2.2.2⟩,hC14⟩,(X11.out.step f1113 (fun _ _ h=>h.elim)).step hf14 (fun _ _ h=>h)⟩
    clear g1 g2 g3 hC14 hC13 hte13 hS own14 k14 q14 k13 hown13 hf14 b13
    go_wp2_with fail
    go_loopw [90] (fun v wr=>v=.int .i64 0/\wr=w14) (fun _ _=>0)
    case atStart=>exact⟨rfl,rfl⟩
    case round=>
     obtain⟨rfl,rfl⟩:=hrel
     go_wp2_with fail
     go_ret2
     exact⟨rfl,HRES.out.1,HRES.out.2⟩
end Go.Proofs.YtmajgldaplkpiaaGreatDoor
