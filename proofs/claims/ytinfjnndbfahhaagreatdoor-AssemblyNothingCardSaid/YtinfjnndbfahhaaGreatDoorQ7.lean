import Derived.Test.YtinfjnndbfahhaaGreatDoorQ6
namespace Go.Proofs.YtinfjnndbfahhaaGreatDoor
open Go.RowKit Go.Maps
set_option linter.unusedVariables false
set_option maxRecDepth 100000
set_option maxHeartbeats 2000000
def fidx {α:Type}(p:α->Bool):List α->Int
 | []=>-1
 | x::t=>if p x then 0 else if fidx p t<0 then -1 else fidx p t+1
theorem zId {α:Type}(p:α->Bool):∀ (l:List α) (k:Nat) (x:α),l[k]?=some x->p x=true->(∀ y∈l.take k,p y=false)->fidx p l=k
 | [],k,x,h,_,_=>by simp at h
 | y::t,0,x,h,e,_=>by simp at h;subst h;simp[fidx,e]
 | y::t,k+1,x,h,e,f=>by
  have g:p y=false:=f y (by simp);have o:=zId p t k x (by simpa using h) e (fun z q=>f z (by simp[q]));unfold fidx;rw[g,o];simp;omega
theorem zDD {α:Type}(p:α->Bool):∀ l:List α,(∀ y∈l,p y=false)->fidx p l=-1
 | [],_=>rfl
 | y::t,h=>by
  unfold fidx;rw[h y (by simp),zDD p t (fun z f=>h z (by simp[f]))];simp
theorem zBN {α:Type}(p:α->Bool):∀ l:List α,(fidx p l=-1/\l.find? p=none/\l.any p=false)\/∃ (k:Nat) (x:α),fidx p l=(k:Int)/\l[k]?=some x/\l.find? p=some x/\p x=true/\l.any p=true
 | []=>.inl ⟨rfl,rfl,rfl⟩
 | x::t=>by
  cases hp:p x
  ·rcases zBN p t with⟨f,g,h⟩ | ⟨k,y,f,g,h,o,q⟩
   ·exact .inl ⟨by simp[fidx,hp,f],by simp[List.find?,hp,g],by simp[hp,h]⟩
   ·refine .inr ⟨k+1,y,?_,by simpa using g,by simp[List.find?,hp,h],o,by simp[hp,q]⟩;have:¬ ((k:Int)<0):=by omega
    simp[fidx,hp,f,this]
  ·exact .inr ⟨0,x,by simp[fidx,hp],rfl,by simp[List.find?,hp],hp,by simp[hp]⟩
def Tells (g:Nat)(cb:Array Value)(p:Dev->Bool)(ds:List Dev)(w:World):Prop:=
 ∀ d∈ds,∀ W,Fr No w W->Calls Tryz.prog g (#[.agg d.vals]++cb) W fun e w'=>e=.returned (.bool (p d))/\Fr No W w'
theorem zB2 (g:Nat)(D:Array Value)(V:∀ args w,(callFunc g args).run Tryz.prog w=.ok (.enter g args) w)(p:Dev->Bool)(a:Option Addr)(y:Nat)(ds:List Dev)(w:World)(F:Devs w a y ds)(I:Tells g D p ds w):
  Calls Tryz.prog 76 #[.slice a ds.length y,.func (.func g) #[] D] w fun e w'=>e=.returned (.int .i64 (fidx p ds))/\Fr No w w':=by
 have X:=F.lenmax;have O:=zh I;clear I
 go_enter Tryz.func76,Tryz.ntmps76
 go_wp2_with fail
 go_loopw [5,8] (fun j i wr=>∃ k:Nat,k<=ds.length/\i=.int .i64 k/\Hid (∀ x∈ds.take k,p x=false)/\Fr No w wr) (fun _ i _=>ds.length-(intOf i).toNat)
 case atStart=>exact⟨0,by omega,rfl,by unfold Hid;simp,Fr.refl _ _⟩
 case round=>
  obtain⟨k,Y,rfl,u,o⟩:=hrel;by_cases z:k<ds.length
  ·have J:(k:Int)<ds.length:=by omega
   obtain⟨Z,R,d,rfl,A,c0,c1,c2,c3,c4,c5,c6,c7,c8,c9⟩:=(F.no o (fun _=>id)).dev z;have f:=O.out d (List.mem_of_getElem? A) wr o;have L:=zh A;clear A;cases hq:p d with
   | true=>
    rw[hq]at f;have C:=zh hq;clear hq
    go_wp2_with (go_at_fn g;refine f.mono ?_;rintro e U ⟨rfl,v⟩)
    have q:=o.step v zi;go_ret;exact⟨zAp (zId p ds k d L.out C.out u.out).symm,q⟩
   | false=>
    rw[hq]at f;have C:=zh hq;clear hq
    go_wp2_with (go_at_fn g;refine f.mono ?_;rintro e U ⟨rfl,v⟩)
    have q:=o.step v zi
    go_roundw
    case rel=>
     refine⟨k+1,by omega,by go_num,?_,q⟩;unfold Hid;intro x N;rw[List.take_add_one,L.out]at N;rcases List.mem_append.1 N with h | h
     ·exact u.out x h
     ·simp at h;subst h;exact C.out
    case measure=>simp[intOf];omega
  ·obtain rfl:k=ds.length:=by omega
   have h:=u.out;rw[List.take_of_length_le (by omega)]at h;have H:=zh (zDD p ds h);clear h
   go_wp2_with fail
   go_ret;exact⟨zAp H.out.symm,o⟩
theorem zLM (g:Nat)(o:Array Value)(z:∀ args w,(callFunc g args).run Tryz.prog w=.ok (.enter g args) w)(p:Dev->Bool)(a:Option Addr)(f:Nat)(ds:List Dev)(w:World)(A:Devs w a f ds)(C:Tells g o p ds w):
  Calls Tryz.prog 137 #[.slice a ds.length f,.func (.func g) #[] o] w fun e w'=>e=.returned (.bool (ds.any p))/\Fr No w w':=by
 have h:=zB2 g o z p a f ds w A C;have y:decide (0<=fidx p ds)=ds.any p:=by
  rcases zBN p ds with⟨q,_,u⟩ | ⟨k,x,q,_,_,_,u⟩
  ·rw[q,u];rfl
  ·rw[q,u];simp
 have D:=zh y;clear y
 go_enter Tryz.func137,Tryz.ntmps137
 go_wp2_with fail
 refine h.mono ?_;rintro e F ⟨rfl,v⟩
 go_wp2_with fail
 go_ret;exact⟨zK D.out,v⟩
def FoundP (w w':World)(ds:List Dev)(p:Dev->Bool)(e:Ending):Prop:=
 (ds.find? p=none/\e=.returned (.tuple #[.agg Dev.zero.vals,.bool false]))\/
 ∃ d a' c' l,ds.find? p=some d/\e=.returned (.tuple #[.agg ({ d with aa:=a',ac:=c' }:Dev).vals,.bool true])/\Atts w' a' c' l/\Atts w d.aa d.ac l/\d.an=l.length/\l.length<=24/\∀ ad,a'=some ad->w.heap.size<=ad.block
theorem Atts.det {w:World}{a:Option Addr}{c c':Nat}{l l':List (ByteArray×ByteArray)}(h:Atts w a c l)(A:Atts w a c' l')(g:l.length=l'.length):l=l':=by
 by_cases f:l=[]
 ·subst f;exact(List.eq_nil_of_length_eq_zero g.symm).symm
 ·have o:l'≠[]:=fun e=>by subst e;exact f (List.eq_nil_of_length_eq_zero g)
  cases a with
  | none=>exact absurd (h.isNil rfl).1 f
  | some q=>
   obtain⟨_,_,C⟩:=h.cell q rfl f;obtain⟨_,_,D⟩:=A.cell q rfl o;refine List.ext_getElem g fun i F I=>?_
   have u:=C i l[i] (List.getElem?_eq_getElem F);have v:=D i l'[i] (List.getElem?_eq_getElem I);have y:=u.1.symm.trans v.1;have z:=u.2.symm.trans v.2;simp only[Option.some.injEq,Value.string.injEq]at y z;exact Prod.ext y z
theorem zEh (g:Nat)(cb:Array Value)(eg:∀ args w,(callFunc g args).run Tryz.prog w=.ok (.enter g args) w)(p:Dev->Bool)(a:Option Addr)(f:Nat)(ds:List Dev)(V:Nat)(w:World)(hl:Tr w V a f ds)(hp:Tells g cb p ds w):
  Calls Tryz.prog 57 #[.agg #[.slice a ds.length f],.func (.func g) #[] cb] w fun e w'=>FoundP w w' ds p e/\Fr No w w':=by
 obtain⟨I,y⟩:∃ I,I=(w.alloc (.cells #[.slice a ds.length f] 48)).alloc (.cells #[.int .i64 0,.int .i64 0,.string ⟨#[]⟩,.string ⟨#[]⟩,.string ⟨#[]⟩,.string ⟨#[]⟩,.string ⟨#[]⟩,.int .i64 0,.int .i64 0,.slice none 0 0] 36):=⟨_,rfl⟩
 have hx:Fr No w I:=by rw[y];exact((Fr.refl _ _).alloc _).alloc _
 have q0:I.heap[w.heap.size]?=some (.cells #[.slice a ds.length f] 48):=by rw[y];exact zI _ _ _
 have q1:I.heap[w.heap.size+1]?=some (.cells #[.int .i64 0,.int .i64 0,.string ⟨#[]⟩,.string ⟨#[]⟩,.string ⟨#[]⟩,.string ⟨#[]⟩,.string ⟨#[]⟩,.int .i64 0,.int .i64 0,.slice none 0 0] 36):=by rw[y];exact zL _ _ _
 have hm:=hl.dv.lenmax;have F:=zB2 g cb eg p a f ds I (hl.dv.no hx (fun _=>id)) (fun d X W hf=>hp d X W (hx.step hf zi));clear hp
 go_enter Tryz.func57,Tryz.ntmps57
 go_upto_region 1 with(fail)
 rw[<-y];clear y;have t0:I.cell? ⟨w.heap.size,0,none⟩=some (.slice a ds.length f):=zB q0 0
 go_wp2_with fail
 refine F.mono ?_;rintro e w1 ⟨rfl,J⟩;clear F;have p0:=J.heap q0 id;have L:=J.heap q1 id;have z:=hx.step J zi;have a3:=hl.no z;have a8:w.heap.size+1<w1.heap.size:=zC L;clear t0 q0 q1;rcases zBN p ds with⟨A,C,-⟩ | ⟨k,d,A,D,C,-,-⟩
 ·rw[A];have N:=zh C;clear C A;obtain⟨z0,z1,z2,z3,z4,z5,z6,z7,z8,z9⟩:=DevB.of (d:=⟨0,0,⟨#[]⟩,⟨#[]⟩,⟨#[]⟩,⟨#[]⟩,⟨#[]⟩,0,0,none,0,0⟩) L;obtain⟨y0,y1,y2,y3,y4,y5,y6,y7,y8,y9⟩:=DevF.of L;have u:=zBF L rfl ⟨0,0,⟨#[]⟩,⟨#[]⟩,⟨#[]⟩,⟨#[]⟩,⟨#[]⟩,0,0,none,0,0⟩;have o:=zh (z.step u.2 (fun b hb e=>by unfold Is at e;omega));clear u L z p0
  go_wp2_with fail
  refine bodyPost_ret (v:=.tuple #[.agg Dev.zero.vals,.bool false]) (by simp[results,Tryz.results57,go_sem,Dev.vals,Dev.zero,z0,z1,z2,z3,z4,z5,z6,z7,z8,z9];rfl) rfl ?_;exact⟨.inl ⟨N.out,rfl⟩,o.out⟩
 ·rw[A];have N:=zh C;have hk:k<ds.length:=(List.getElem?_eq_some_iff.1 D).1;obtain⟨l,O,R,a4⟩:=(hl.el d (List.mem_of_getElem? D)).att;have hA:=O.no z (fun _=>id);have a5:=zh O;clear O;obtain⟨bb,a6,d',rfl,X,c0,c1,c2,c3,c4,c5,c6,c7,c8,c9⟩:=a3.dv.dev hk;obtain rfl:d=d':=by rw[D]at X;exact Option.some.inj X
  have U:=zh (zDq d l w1 hA R (by omega));have t0:w1.cell? ⟨w.heap.size,0,none⟩=some (.slice (some ⟨bb,a6,none⟩) ds.length f):=zB p0 0;have a7:=zh R;clear C A D X R
  go_wp2_with fail
  refine U.out.mono ?_;rintro e w2 ⟨⟨a',c',rfl,Y,q⟩,Z⟩;have p2:=Z.heap L id;have a2:=z.step Z zi;clear p0 L c0 c1 c2 c3 c4 c5 c6 c7 c8 c9 t0;have a9:w.heap.size+1<w2.heap.size:=zC p2;obtain⟨z0,z1,z2,z3,z4,z5,z6,z7,z8,z9⟩:=DevB.of (d:=⟨0,0,⟨#[]⟩,⟨#[]⟩,⟨#[]⟩,⟨#[]⟩,⟨#[]⟩,0,0,none,0,0⟩) p2;obtain⟨y0,y1,y2,y3,y4,y5,y6,y7,y8,y9⟩:=DevF.of p2;have u:=zBF p2 rfl { d with aa:=a',ac:=c' };have o:Hid _:=And.intro (Y.fr u.2 (fun ad e _ h=>by have:=q ad e;unfold Is at h;omega)) (a2.step u.2 (fun b hb e=>by unfold Is at e;omega));clear u Y p2 a2;unfold Dev.vals
  go_wp2_with fail
  refine bodyPost_ret (v:=.tuple #[.agg ({ d with aa:=a',ac:=c' }:Dev).vals,.bool true]) (by simp[results,Tryz.results57,go_sem,Dev.vals,z0,z1,z2,z3,z4,z5,z6,z7,z8,z9]) rfl ?_;exact⟨.inr ⟨d,a',c',l,N.out,rfl,o.out.1,a5.out,a7.out,a4,fun ad e=>by have:=q ad e;omega⟩,o.out.2⟩
def plc (ds:List Dev)(n:Int):ByteArray:=((look ds n).map fun _=>pathOf (origin ds n)).getD ⟨#[]⟩
def atP (ds:List Dev)(s:ByteArray)(d:Dev):Bool:=(plc ds d.index).toList==s.toList
theorem zCJ {ds:List Dev}(f:TreeOk ds)(n:Int):(ogs ds n).getD ⟨#[]⟩=plc ds n:=by
 have:=zGH f ds.length (Nat.le_refl _) n;rw[List.take_of_length_le (Nat.le_refl _)]at this;rw[this];rfl
theorem zMS (d:Dev)(ds:List Dev)(a:Option Addr)(h F o v y:Nat)(s:ByteArray)(w:World)(z:TreeOk ds)(I:d∈ds)(A:w.heap[v]?=some (.cells #[.slice a ds.length h,.map (some F),.map (some o)] 115))(C:SMap w o (ogs ds) ds.length)(D:w.cell? ⟨y,0,none⟩=some (.string s)):
  Calls Tryz.prog 58 #[.agg d.vals,.pointer (some ⟨v,0,none⟩),.pointer (some ⟨y,0,none⟩)] w fun e w'=>e=.returned (.bool (atP ds s d))/\Fr No w w':=by
 have g:Fr No w (w.alloc (.cells d.vals 36)):=(Fr.refl _ _).alloc _;have J:=g.cell D id;have f:=g.heap A id;have N:=zB f 2;have q:=C.fr g id;have u:=z.iwf I;have L:=zh (zCJ z d.index);clear D A C f;unfold Dev.vals at *
 go_enter Tryz.func58,Tryz.ntmps58
 go_wp2_with (at_lookup;refine zFN rfl _ _ 113 rfl rfl o _ _ d.index u rfl q rfl ?_)
 go_ret;exact⟨by unfold atP;rw[<-L.out];rfl,g⟩
theorem zD0 (a:Option Addr)(f:Nat)(ds:List Dev)(J:Nat)(s:ByteArray)(w:World)(Z:Tr w J a f ds)(hn:ds.length<=1000):
  Calls Tryz.prog 23 #[.agg #[.slice a ds.length f],.string s] w fun e w'=>FoundP w w' ds (atP ds s) e/\Fr No w w':=by
 have hT:=Z.wf.ok;obtain⟨L,z⟩:∃ L,L=((w.alloc (.cells #[.slice a ds.length f] 48)).alloc (.cells #[.string s] 9)).alloc (.cells #[.int .i64 0,.int .i64 0,.string ⟨#[]⟩,.string ⟨#[]⟩,.string ⟨#[]⟩,.string ⟨#[]⟩,.string ⟨#[]⟩,.int .i64 0,.int .i64 0,.slice none 0 0] 36):=⟨_,rfl⟩
 have fx:Fr No ((w.alloc (.cells #[.slice a ds.length f] 48)).alloc (.cells #[.string s] 9)) L:=by rw[z];exact(Fr.refl _ _).alloc _
 have hx:Fr No w L:=by rw[z];exact(((Fr.refl _ _).alloc _).alloc _).alloc _
 have q0:=fx.heap (zI w (.cells #[.slice a ds.length f] 48) (.cells #[.string s] 9)) id;have q1:=fx.heap (zL w (.cells #[.slice a ds.length f] 48) (.cells #[.string s] 9)) id;have q2:L.heap[w.heap.size+1+1]?=some (.cells #[.int .i64 0,.int .i64 0,.string ⟨#[]⟩,.string ⟨#[]⟩,.string ⟨#[]⟩,.string ⟨#[]⟩,.string ⟨#[]⟩,.int .i64 0,.int .i64 0,.slice none 0 0] 36):=by
  have:=zD ((w.alloc (.cells #[.slice a ds.length f] 48)).alloc (.cells #[.string s] 9)) (.cells #[.int .i64 0,.int .i64 0,.string ⟨#[]⟩,.string ⟨#[]⟩,.string ⟨#[]⟩,.string ⟨#[]⟩,.string ⟨#[]⟩,.int .i64 0,.int .i64 0,.slice none 0 0] 36);rw[World.size_alloc,World.size_alloc]at this;rw[z];exact this
 clear fx;have t0:L.cell? ⟨w.heap.size,0,none⟩=some (.slice a ds.length f):=zB q0 0;have A:=zBs a f ds L (Z.dv.no hx (fun _=>id)) hT hn;have a5:=zC q2
 go_enter Tryz.func23,Tryz.ntmps23
 go_upto_region 1 with(fail)
 rw[<-z];clear z
 go_wp2_with fail
 refine A.mono ?_;rintro e w1 ⟨⟨m1,m2,rfl,a6,a7,a8,hI,hS⟩,C⟩;clear A hI;have a2:=hx.step C zi;obtain⟨N,D⟩:∃ N,N=w1.alloc (.cells #[.slice a ds.length f,.map (some m1),.map (some m2)] 115):=⟨_,rfl⟩
 have q:Fr No w1 N:=by rw[D];exact(Fr.refl _ _).alloc _
 have b1:N.heap[w1.heap.size]?=some (.cells #[.slice a ds.length f,.map (some m1),.map (some m2)] 115):=by rw[D];exact zD _ _
 have p0:=q.heap (C.heap q0 id) id;have p1:=q.heap (C.heap q1 id) id;have p2:=q.heap (C.heap q2 id) id;have a3:=hS.fr q id;have F:=a2.step q zi;have a9:=C.size;clear q0 q1 q2 t0;have t0:N.cell? ⟨w.heap.size,0,none⟩=some (.slice a ds.length f):=zB p0 0;have t1:N.cell? ⟨w.heap.size+1,0,none⟩=some (.string s):=zB p1 0;have o:=zEh 58 #[.pointer (some ⟨w1.heap.size,0,none⟩),.pointer (some ⟨w.heap.size+1,0,none⟩)] (fun _ _=>rfl) (atP ds s) a f ds J N (Z.no F) (fun d hd W hf=>zMS d ds a f m1 m2 _ _ s W hT hd (hf.heap b1 id) (a3.fr hf id) (hf.cell t1 id))
 go_upto_region 2 with(fail)
 rw[<-D];clear D
 go_wp2_with fail
 refine o.mono ?_;rintro e w2 ⟨hF,R⟩;clear o;have O:=R.heap p2 id;have I:=F.step R zi;have b0:w.heap.size+1+1<w2.heap.size:=zC O;clear t0 t1 p0 p1 p2;obtain⟨z0,z1,z2,z3,z4,z5,z6,z7,z8,z9⟩:=DevB.of (d:=⟨0,0,⟨#[]⟩,⟨#[]⟩,⟨#[]⟩,⟨#[]⟩,⟨#[]⟩,0,0,none,0,0⟩) O;obtain⟨y0,y1,y2,y3,y4,y5,y6,y7,y8,y9⟩:=DevF.of O;have b2:=F.size;have b3:=q.size;rcases hF with⟨u,rfl⟩ | ⟨d,a',c',l,u,rfl,hA,U,V,a4,X⟩
 ·have y:=zBF O rfl Dev.zero;have g:=zh (And.intro u (I.step y.2 (fun b hb e=>by unfold Is at e;omega)));clear y O I u;unfold Dev.vals Dev.zero
  go_wp2_with fail
  refine bodyPost_ret (v:=.tuple #[.agg Dev.zero.vals,.bool false]) (by simp[results,Tryz.results23,go_sem,Dev.vals,Dev.zero,z0,z1,z2,z3,z4,z5,z6,z7,z8,z9]) rfl ?_;exact⟨.inl ⟨g.out.1,rfl⟩,g.out.2⟩
 ·have y:=zBF O rfl { d with aa:=a',ac:=c' };have Y:Atts w d.aa d.ac l:=by
   obtain⟨l0,g1,g2,_⟩:=(Z.el d (List.mem_of_find?_eq_some u)).att;have e:l0=l:=(g1.no F (fun _=>id)).det U (by omega);rw[<-e];exact g1
  have g:=zh (And.intro u (And.intro V (And.intro (And.intro (hA.fr y.2 (fun ad e _ h=>by have:=X ad e;unfold Is at h;omega)) Y) (I.step y.2 (fun b hb e=>by unfold Is at e;omega)))));clear y O I u V hA U Y;unfold Dev.vals
  go_wp2_with fail
  refine bodyPost_ret (v:=.tuple #[.agg ({ d with aa:=a',ac:=c' }:Dev).vals,.bool true]) (by simp[results,Tryz.results23,go_sem,Dev.vals,z0,z1,z2,z3,z4,z5,z6,z7,z8,z9]) rfl ?_;exact⟨.inr ⟨d,a',c',l,g.out.1,rfl,g.out.2.2.1.1,g.out.2.2.1.2,g.out.2.1,a4,fun ad e=>by have:=X ad e;omega⟩,g.out.2.2.2⟩
structure Rec where
 path:ByteArray
 index:Int
 props:List (ByteArray×ByteArray)
 tags:List ByteArray
 pa:Option Addr
 pc:Nat
 ta:Option Addr
 tc:Nat
 la:Option Addr
 ln:Nat
 lc:Nat
 ra:Option Addr
 rn:Nat
 rc:Nat
 oa:Option Addr
 on:Nat
 oc:Nat
 name:ByteArray
 prio:Int
 owner:ByteArray
 group:ByteArray
 mode:Int
def Rec.cell (r:Rec):Nat->Value
 | 0=>.string r.path
 | 1=>.int .i64 r.index
 | 2=>.slice r.pa r.props.length r.pc
 | 3=>.slice r.ta r.tags.length r.tc
 | 4=>.slice r.la r.ln r.lc
 | 5=>.slice r.ra r.rn r.rc
 | 6=>.slice r.oa r.on r.oc
 | 7=>.string r.name
 | 8=>.int .i64 r.prio
 | 9=>.string r.owner
 | 10=>.string r.group
 | _=>.int .i64 r.mode
def Rec.vals (r:Rec):Array Value:=#[.string r.path,.int .i64 r.index,.slice r.pa r.props.length r.pc,.slice r.ta r.tags.length r.tc,.slice r.la r.ln r.lc,.slice r.ra r.rn r.rc,.slice r.oa r.on r.oc,.string r.name,.int .i64 r.prio,.string r.owner,.string r.group,.int .i64 r.mode]
def Rec.zero : Rec:=⟨⟨#[]⟩,0,[],[],none,0,none,0,none,0,0,none,0,0,none,0,0,⟨#[]⟩,0,⟨#[]⟩,⟨#[]⟩,0⟩
structure RecOk (w:World)(r:Rec):Prop where
 props:Atts w r.pa r.pc r.props
 tags:Strs w r.ta r.tc r.tags
theorem RecOk.no {S:Nat->Prop}{w w':World}{r:Rec}(h:RecOk w r)(f:Fr S w w')(g:∀ k,¬ S k):RecOk w' r:=⟨h.props.no f g,h.tags.no f g⟩
theorem RecOk.zero (w:World):RecOk w Rec.zero:=⟨Atts.nil w,Strs.nil w⟩
structure Recs (w:World)(a:Option Addr)(cap:Nat)(l:List Rec):Prop where
 len:l.length<=cap
 max:cap<=maxLen
 isNil:a=none->l=[]/\cap=0
 ok:∀ r∈l,RecOk w r
 cell:∀ ad,a=some ad->l≠[]->ad.spot=none/\ad.block<w.heap.size/\∀ i r,l[i]?=some r->∀ j,j<12->w.cell? ⟨ad.block,ad.off+(i*12+j),none⟩=some (r.cell j)
structure RecAt (w:World)(b o:Nat)(r:Rec):Prop where
 c0:w.cell? ⟨b,o,none⟩=some (.string r.path)
 c1:w.cell? ⟨b,o+1,none⟩=some (.int .i64 r.index)
 c2:w.cell? ⟨b,o+2,none⟩=some (.slice r.pa r.props.length r.pc)
 c3:w.cell? ⟨b,o+3,none⟩=some (.slice r.ta r.tags.length r.tc)
 c4:w.cell? ⟨b,o+4,none⟩=some (.slice r.la r.ln r.lc)
 c5:w.cell? ⟨b,o+5,none⟩=some (.slice r.ra r.rn r.rc)
 c6:w.cell? ⟨b,o+6,none⟩=some (.slice r.oa r.on r.oc)
 c7:w.cell? ⟨b,o+7,none⟩=some (.string r.name)
 c8:w.cell? ⟨b,o+8,none⟩=some (.int .i64 r.prio)
 c9:w.cell? ⟨b,o+9,none⟩=some (.string r.owner)
 c10:w.cell? ⟨b,o+10,none⟩=some (.string r.group)
 c11:w.cell? ⟨b,o+11,none⟩=some (.int .i64 r.mode)
theorem Recs.elem {w:World}{a:Option Addr}{q:Nat}{l:List Rec}(h:Recs w a q l){k:Nat}(o:k<l.length):
  ∃ b g r,a=some ⟨b,g,none⟩/\l[k]?=some r/\RecOk w r/\RecAt w b (g+k*12) r:=by
 cases a with
 | none=>obtain⟨rfl,_⟩:=h.isNil rfl;simp at o
 | some v=>
  obtain⟨b,g,z⟩:=v;obtain⟨u,A,y⟩:=h.cell _ rfl (by intro e;subst e;simp at o);simp at u;subst u;have f:=y k _ (List.getElem?_eq_getElem o);exact⟨b,g,l[k],rfl,List.getElem?_eq_getElem o,h.ok _ (List.getElem_mem o),⟨f 0 (by omega),f 1 (by omega),f 2 (by omega),f 3 (by omega),f 4 (by omega),f 5 (by omega),f 6 (by omega),f 7 (by omega),f 8 (by omega),f 9 (by omega),f 10 (by omega),f 11 (by omega)⟩⟩
theorem Recs.lenmax {w:World}{a:Option Addr}{f:Nat}{l:List Rec}(h:Recs w a f l):l.length<=9223372036854775807:=by
 have o:=h.len;have g:=h.max;unfold maxLen at g;omega
theorem Recs.no {S:Nat->Prop}{w w':World}{a:Option Addr}{f:Nat}{l:List Rec}(h:Recs w a f l)(g:Fr S w w')(q:∀ k,¬ S k):Recs w' a f l:=
 ⟨h.len,h.max,h.isNil,fun r u=>(h.ok r u).no g q,fun v e o=>by
  obtain⟨y,z,A⟩:=h.cell v e o;exact⟨y,Nat.lt_of_lt_of_le z g.size,fun i r C j D=>g.cell (A i r C j D) (q _)⟩⟩
theorem Recs.nil (w:World):Recs w none 0 []:=⟨by simp,by simp,fun _=>⟨rfl,rfl⟩,by simp,fun _ e _=>by cases e⟩
def Rec.is (n:Int)(p:ByteArray)(r:Rec):Bool:=decide (r.index=n)&&(r.path.toList==p.toList)
def rplace : List Rec->Int->ByteArray->Int
 | [],_,_=>-1
 | r::t,n,p=>if r.is n p then 0 else if rplace t n p<0 then -1 else rplace t n p+1
theorem zCw : ∀ (l:List Rec) (n:Int) (p:ByteArray),(l.find? (Rec.is n p)=none/\rplace l n p=-1)\/∃ (k:Nat) (r:Rec),l.find? (Rec.is n p)=some r/\rplace l n p=(k:Int)/\l[k]?=some r
 | [],n,p=>.inl ⟨rfl,rfl⟩
 | r::t,n,p=>by
  unfold rplace;rw[List.find?_cons];cases hr:r.is n p with
  | true=>exact .inr ⟨0,r,rfl,rfl,rfl⟩
  | false=>
   rcases zCw t n p with⟨f,g⟩ | ⟨k,x,f,g,h⟩
   ·left;refine⟨f,?_⟩;simp[g]
   ·right;refine⟨k+1,x,f,?_,by simpa using h⟩;rw[g,if_neg (by simp),if_neg (by omega)];rfl
theorem zCu : ∀ (l:List Rec) (n:Int) (p:ByteArray) (k:Nat) (r:Rec),l[k]?=some r->r.is n p=true->(∀ x∈l.take k,x.is n p=false)->rplace l n p=k
 | [],n,p,k,r,h,_,_=>by simp at h
 | x::t,n,p,0,r,h,e,_=>by simp at h;subst h;simp[rplace,e]
 | x::t,n,p,k+1,r,h,e,f=>by
  have g:x.is n p=false:=f x (by simp);have o:=zCu t n p k r (by simpa using h) e (fun y q=>f y (by simp[q]));unfold rplace;rw[g,o];simp;omega
theorem zCv : ∀ (l:List Rec) (n:Int) (p:ByteArray),(∀ x∈l,x.is n p=false)->rplace l n p=-1
 | [],n,p,_=>rfl
 | x::t,n,p,h=>by
  unfold rplace;rw[h x (by simp),zCv t n p (fun y f=>h y (by simp[f]))];simp
theorem zKs {W:World}{b:Nat}{cs:Array Value}{T:TypeId}(h:W.heap[b]?=some (.cells cs T))(o:cs.size=12)(r:Rec):
  ((((((((((((W.setCell ⟨b,0,none⟩ (.string r.path)).setCell ⟨b,1,none⟩ (.int .i64 r.index)).setCell ⟨b,2,none⟩ (.slice r.pa r.props.length r.pc)).setCell ⟨b,3,none⟩ (.slice r.ta r.tags.length r.tc)).setCell ⟨b,4,none⟩ (.slice r.la r.ln r.lc)).setCell ⟨b,5,none⟩ (.slice r.ra r.rn r.rc)).setCell ⟨b,6,none⟩ (.slice r.oa r.on r.oc)).setCell ⟨b,7,none⟩ (.string r.name)).setCell ⟨b,8,none⟩ (.int .i64 r.prio)).setCell ⟨b,9,none⟩ (.string r.owner)).setCell ⟨b,10,none⟩ (.string r.group)).setCell ⟨b,11,none⟩ (.int .i64 r.mode)).heap[b]?=some (.cells r.vals T)/\Fr (Is b) W ((((((((((((W.setCell ⟨b,0,none⟩ (.string r.path)).setCell ⟨b,1,none⟩ (.int .i64 r.index)).setCell ⟨b,2,none⟩ (.slice r.pa r.props.length r.pc)).setCell ⟨b,3,none⟩ (.slice r.ta r.tags.length r.tc)).setCell ⟨b,4,none⟩ (.slice r.la r.ln r.lc)).setCell ⟨b,5,none⟩ (.slice r.ra r.rn r.rc)).setCell ⟨b,6,none⟩ (.slice r.oa r.on r.oc)).setCell ⟨b,7,none⟩ (.string r.name)).setCell ⟨b,8,none⟩ (.int .i64 r.prio)).setCell ⟨b,9,none⟩ (.string r.owner)).setCell ⟨b,10,none⟩ (.string r.group)).setCell ⟨b,11,none⟩ (.int .i64 r.mode)):=by
 refine⟨?_,Fr.setAt (Fr.setAt (Fr.setAt (Fr.setAt (Fr.setAt (Fr.setAt (Fr.setAt (Fr.setAt (Fr.setAt (Fr.setAt (Fr.setAt (Fr.setAt (Fr.refl _ _) _) _) _) _) _) _) _) _) _) _) _) _⟩;obtain⟨l⟩:=cs
 match l,o with
 | [_,_,_,_,_,_,_,_,_,_,_,_],_=>
  have q:=zF h 0 (.string r.path);have u:=zF q 1 (.int .i64 r.index);have v:=zF u 2 (.slice r.pa r.props.length r.pc);have y:=zF v 3 (.slice r.ta r.tags.length r.tc);have z:=zF y 4 (.slice r.la r.ln r.lc);have A:=zF z 5 (.slice r.ra r.rn r.rc);have C:=zF A 6 (.slice r.oa r.on r.oc);have D:=zF C 7 (.string r.name);have F:=zF D 8 (.int .i64 r.prio);have I:=zF F 9 (.string r.owner);have g:=zF I 10 (.string r.group);have f:=zF g 11 (.int .i64 r.mode);simp only[List.setIfInBounds_toArray,List.set_cons_zero,List.set_cons_succ]at f;exact f
theorem zLr (r:Rec)(g h:Nat)(n:Int)(p:ByteArray)(w:World)(o:w.cell? ⟨g,0,none⟩=some (.int .i64 n))(q:w.cell? ⟨h,0,none⟩=some (.string p)):
  Calls Tryz.prog 153 #[.agg r.vals,.pointer (some ⟨g,0,none⟩),.pointer (some ⟨h,0,none⟩)] w fun e w'=>e=.returned (.bool (r.is n p))/\Fr No w w':=by
 have f:Fr No w (w.alloc (.cells r.vals 89)):=(Fr.refl _ _).alloc _;have u:=f.cell o id;have v:=f.cell q id;clear o q;unfold Rec.vals at *;rcases h1:(r.index==n)with _ | _
 ·have H:Hid (r.is n p=false):=by unfold Hid Rec.is;simp at h1;simp[h1]
  go_enter Tryz.func153,Tryz.ntmps153
  go_wp2_with fail
  all_goals (go_ret;exact⟨zK H.out.symm,f⟩)
 ·rcases h2:(r.path.toList==p.toList)with _ | _
  ·have H:Hid (r.is n p=false):=by unfold Hid Rec.is;rw[h2,Bool.and_false]
   go_enter Tryz.func153,Tryz.ntmps153
   go_wp2_with fail
   all_goals (go_ret;exact⟨zK H.out.symm,f⟩)
  ·have H:Hid (r.is n p=true):=by unfold Hid Rec.is;simp at h1;rw[h2,Bool.and_true];simp[h1]
   go_enter Tryz.func153,Tryz.ntmps153
   go_wp2_with fail
   all_goals (go_ret;exact⟨zK H.out.symm,f⟩)
theorem zH8 (a:Option Addr)(u:Nat)(l:List Rec)(v y:Nat)(n:Int)(p:ByteArray)(w:World)(F:Recs w a u l)(O:w.cell? ⟨v,0,none⟩=some (.int .i64 n))(R:w.cell? ⟨y,0,none⟩=some (.string p)):
  Calls Tryz.prog 152 #[.slice a l.length u,.func (.func 153) #[] #[.pointer (some ⟨v,0,none⟩),.pointer (some ⟨y,0,none⟩)]] w fun e w'=>e=.returned (.int .i64 (rplace l n p))/\Fr No w w':=by
 have hm:=F.lenmax
 go_enter Tryz.func152,Tryz.ntmps152
 go_wp2_with fail
 go_loopw [8] (fun i wr=>∃ k:Nat,k<=l.length/\i=.int .i64 k/\Hid (∀ x∈l.take k,x.is n p=false)/\Fr No w wr) (fun i _=>l.length-(intOf i).toNat)
 case atStart=>exact⟨0,by omega,rfl,by unfold Hid;simp,Fr.refl _ _⟩
 case round=>
  obtain⟨k,hk,rfl,o,f⟩:=hrel;by_cases z:k<l.length
  ·have I:(k:Int)<l.length:=by omega
   obtain⟨bb,U,r,rfl,J,_,V,X,Y,Z,c4,c5,c6,c7,c8,c9,A,C⟩:=(F.no f (fun _=>id)).elem z;have L:=zh J;clear J
   go_wp2_with fail
   refine(zLr r v y n p _ (f.cell O id) (f.cell R id)).mono ?_;rintro e w1 ⟨rfl,D⟩;have g:=f.step D zi;clear V X Y Z c4 c5 c6 c7 c8 c9 A C;rcases hxn:r.is n p with _ | _
   ·have q:=zh hxn;clear hxn
    go_wp2_with fail
    go_roundw
    case rel=>
     refine⟨k+1,by omega,by go_num,?_,g⟩;unfold Hid;intro x N;rw[List.take_add_one,L.out]at N;rcases List.mem_append.1 N with h | h
     ·exact o.out x h
     ·simp at h;subst h;exact q.out
    case measure=>simp[intOf];omega
   ·have q:=zh hxn;clear hxn
    go_wp2_with fail
    go_ret;exact⟨zAp (zCu l n p k r L.out q.out o.out).symm,g⟩
  ·obtain rfl:k=l.length:=by omega
   have h:=o.out;rw[List.take_of_length_le (by omega)]at h;have Hp:Hid (rplace l n p=-1):=zCv _ _ _ h;clear h
   go_wp2_with fail
   go_ret;exact⟨zAp Hp.out.symm,f⟩
def FoundR (o:Option Rec)(e:Ending):Prop:=match o with
 | none=>e=.returned (.tuple #[.agg Rec.zero.vals,.bool false])
 | some r=>e=.returned (.tuple #[.agg r.vals,.bool true])
theorem zJZ (a:Option Addr)(o:Nat)(l:List Rec)(n:Int)(p:ByteArray)(w:World)(F:Recs w a o l):
  Calls Tryz.prog 96 #[.slice a l.length o,.int .i64 n,.string p] w fun e w'=>FoundR (l.find? (Rec.is n p)) e/\Fr No w w':=by
 have hm:=F.lenmax;have I:Fr No w (((w.alloc (.cells #[.int .i64 n] 3)).alloc (.cells #[.string p] 9)).alloc (.cells #[.string ⟨#[]⟩,.int .i64 0,.slice none 0 0,.slice none 0 0,.slice none 0 0,.slice none 0 0,.slice none 0 0,.string ⟨#[]⟩,.int .i64 0,.string ⟨#[]⟩,.string ⟨#[]⟩,.int .i64 0] 89)):=(((Fr.refl _ _).alloc _).alloc _).alloc _;have R:=(((Fr.refl No _).alloc (.cells #[.string p] 9)).alloc (.cells #[.string ⟨#[]⟩,.int .i64 0,.slice none 0 0,.slice none 0 0,.slice none 0 0,.slice none 0 0,.slice none 0 0,.string ⟨#[]⟩,.int .i64 0,.string ⟨#[]⟩,.string ⟨#[]⟩,.int .i64 0] 89)).heap (zD w (.cells #[.int .i64 n] 3)) id;have U:=((Fr.refl No _).alloc (.cells #[.string ⟨#[]⟩,.int .i64 0,.slice none 0 0,.slice none 0 0,.slice none 0 0,.slice none 0 0,.slice none 0 0,.string ⟨#[]⟩,.int .i64 0,.string ⟨#[]⟩,.string ⟨#[]⟩,.int .i64 0] 89)).heap (zL w (.cells #[.int .i64 n] 3) (.cells #[.string p] 9)) id;have J:=zL (w.alloc (.cells #[.int .i64 n] 3)) (.cells #[.string p] 9) (.cells #[.string ⟨#[]⟩,.int .i64 0,.slice none 0 0,.slice none 0 0,.slice none 0 0,.slice none 0 0,.slice none 0 0,.string ⟨#[]⟩,.int .i64 0,.string ⟨#[]⟩,.string ⟨#[]⟩,.int .i64 0] 89);rw[World.size_alloc]at J;have a3:(((w.alloc (.cells #[.int .i64 n] 3)).alloc (.cells #[.string p] 9)).alloc (.cells #[.string ⟨#[]⟩,.int .i64 0,.slice none 0 0,.slice none 0 0,.slice none 0 0,.slice none 0 0,.slice none 0 0,.string ⟨#[]⟩,.int .i64 0,.string ⟨#[]⟩,.string ⟨#[]⟩,.int .i64 0] 89)).heap.size=w.heap.size+3:=by simp
 go_enter Tryz.func96,Tryz.ntmps96
 go_upto_region 1 with(fail)
 generalize ((w.alloc (.cells #[.int .i64 n] 3)).alloc (.cells #[.string p] 9)).alloc (.cells #[.string ⟨#[]⟩,.int .i64 0,.slice none 0 0,.slice none 0 0,.slice none 0 0,.slice none 0 0,.slice none 0 0,.string ⟨#[]⟩,.int .i64 0,.string ⟨#[]⟩,.string ⟨#[]⟩,.int .i64 0] 89)=W0 at *
 go_wp2_with fail
 refine(zH8 a o l _ _ n p _ (F.no I (fun _=>id)) (zB R 0) (zB U 0)).mono ?_;rintro e w1 ⟨rfl,f⟩;have q:=(F.no I (fun _=>id)).no f (fun _=>id);have y:=I.step f zi;have u:=f.heap J id;have a4:=f.size;clear R U J I f F;obtain⟨V,X,Y,Z,z4,z5,z6,z7,z8,z9,z,A⟩:=cl12 u;obtain⟨y0,y1,y2,y3,y4,y5,y6,y7,y8,y9,a5,a6⟩:=fl12 u;rcases zCw l n p with⟨C,D⟩ | ⟨k,r,C,D,L⟩
 ·rw[D];have N:=zh C;have g:=zKs u rfl Rec.zero;have h:=zh (y.step g.2 (fun b hb e=>by unfold Is at e;omega));clear g u q C D
  go_wp2_with fail
  refine bodyPost_ret (v:=.tuple #[.agg Rec.zero.vals,.bool false]) (by simp[results,Tryz.results96,go_sem,Rec.vals,Rec.zero,V,X,Y,Z,z4,z5,z6,z7,z8,z9,z,A];try rfl) rfl ?_;exact⟨by rw[N.out];rfl,h.out⟩
 ·rw[D];have N:=zh C;have O:k<l.length:=(List.getElem?_eq_some_iff.1 L).1;have a2:(k:Int)<l.length:=by omega
  obtain⟨bb,a7,r',rfl,hr,_,c0,c1,c2,c3,c4,c5,c6,c7,c8,c9,a8,a9⟩:=q.elem O;rw[L]at hr;cases hr;have g:=zKs u rfl r;have h:=zh (y.step g.2 (fun b hb e=>by unfold Is at e;omega));clear g u q C D L
  go_wp2_with fail
  refine bodyPost_ret (v:=.tuple #[.agg r.vals,.bool true]) (by simp[results,Tryz.results96,go_sem,Rec.vals,V,X,Y,Z,z4,z5,z6,z7,z8,z9,z,A]) rfl ?_;exact⟨by rw[N.out];rfl,h.out⟩
def isKey (key:ByteArray)(x:ByteArray×ByteArray):Bool:=x.1.toList==key.toList
def getP (l:List (ByteArray×ByteArray))(key:ByteArray):ByteArray:=((l.find? (isKey key)).map (·.2)).getD ⟨#[]⟩
theorem zDC {α:Type}(p:α->Bool):∀ (l:List α) (k:Nat) (x:α),l[k]?=some x->p x=true->(∀ y∈l.take k,p y=false)->l.find? p=some x
 | [],k,x,h,_,_=>by simp at h
 | y::t,0,x,h,e,_=>by simp at h;subst h;simp[e]
 | y::t,k+1,x,h,e,f=>by
  have g:p y=false:=f y (by simp);rw[List.find?_cons,g];exact zDC p t k x (by simpa using h) e (fun z o=>f z (by simp[o]))
theorem zIc {α:Type}(p:α->Bool)(l:List α)(h:∀ y∈l,p y=false):l.find? p=none:=by
 rw[List.find?_eq_none];intro y f;simp[h y f]
theorem zHB (r:Rec)(f:ByteArray)(w:World)(D:RecOk w r):
  Calls Tryz.prog 97 #[.agg r.vals,.string f] w fun e w'=>e=.returned (.string (getP r.props f))/\Fr No w w':=by
 have v:Fr No w (w.alloc (.cells r.vals 89)):=(Fr.refl _ _).alloc _;have F:=D.props.no v (fun _=>id);have N:=F.lenmax;unfold Rec.vals at *;clear D
 go_enter Tryz.func97,Tryz.ntmps97
 go_wp2_with fail
 generalize w.alloc (.cells _ 89)=W0 at *
 go_loopw [10] (fun i wr=>∃ k:Nat,k<=r.props.length/\i=.int .i64 k/\Hid (∀ x∈r.props.take k,isKey f x=false)/\Fr No W0 wr) (fun i _=>r.props.length-(intOf i).toNat)
 case atStart=>exact⟨0,by omega,rfl,by unfold Hid;simp,Fr.refl _ _⟩
 case round=>
  obtain⟨k,O,rfl,o,g⟩:=hrel;by_cases A:k<r.props.length
  ·have I:(k:Int)<r.props.length:=by omega
   obtain⟨R,L,x,y,U,q,-,-,V,X⟩:=(F.no g (fun _=>id)).at A;have u:=zh q;clear q;rcases he:(x.toList==f.toList)with _ | _
   ·go_wp2_with fail
    go_roundw
    case rel=>
     refine⟨k+1,by omega,by go_num,?_,g.alloc _⟩;unfold Hid;intro z J;rw[List.take_add_one,u.out]at J;rcases List.mem_append.1 J with h | h
     ·exact o.out z h
     ·simp at h;subst h;exact he
    case measure=>simp[intOf];omega
   ·have C:Hid (getP r.props f=y):=by unfold Hid getP;rw[zDC (isKey f) _ _ _ u.out he o.out];rfl
    go_wp2_with fail
    go_ret;exact⟨by rw[C.out];rfl,(v.step g zi).alloc _⟩
  ·obtain rfl:k=r.props.length:=by omega
   have h:=o.out;rw[List.take_of_length_le (by omega)]at h;have C:Hid (getP r.props f=⟨#[]⟩):=by unfold Hid getP;rw[zIc _ _ h];rfl
   go_wp2_with fail
   go_ret;exact⟨by rw[C.out];rfl,v.step g zi⟩
def GotS (s:ByteArray)(e:Ending):Prop:=∃ b,e=.returned (.tuple #[.string s,.bool b])
end Go.Proofs.YtinfjnndbfahhaaGreatDoor
