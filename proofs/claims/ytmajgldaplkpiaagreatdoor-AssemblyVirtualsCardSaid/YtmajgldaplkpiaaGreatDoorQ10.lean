import Derived.Test.YtmajgldaplkpiaaGreatDoorQ9
namespace Go.Proofs.YtmajgldaplkpiaaGreatDoor
open Go.RowKit Go.Maps
set_option linter.unusedVariables false
set_option maxRecDepth 100000
set_option maxHeartbeats 2000000
def fidx {α:Type}(p:α->Bool):List α->Int
 | []=>-1
 | x::t=>if p x then 0 else if fidx p t<0 then -1 else fidx p t+1
theorem zHp {α:Type}(p:α->Bool):∀ (l:List α) (k:Nat) (x:α),l[k]?=some x->p x=true->(∀ y∈l.take k,p y=false)->fidx p l=k
 | [],k,x,h,_,_=>by simp at h
 | y::t,0,x,h,e,_=>by simp at h;subst h;simp[fidx,e]
 | y::t,k+1,x,h,e,hn=>by
  have h1:p y=false:=hn y (by simp);have h2:=zHp p t k x (by simpa using h) e (fun z hz=>hn z (by simp[hz]));unfold fidx;rw[h1,h2];simp;omega
theorem zC3 {α:Type}(p:α->Bool):∀ l:List α,(∀ y∈l,p y=false)->fidx p l=-1
 | [],_=>rfl
 | y::t,h=>by
  unfold fidx;rw[h y (by simp),zC3 p t (fun z hz=>h z (by simp[hz]))];simp
theorem zC2 {α:Type}(p:α->Bool):∀ l:List α,(fidx p l=-1/\l.find? p=none/\l.any p=false)\/∃ (k:Nat) (x:α),fidx p l=(k:Int)/\l[k]?=some x/\l.find? p=some x/\p x=true/\l.any p=true
 | []=>.inl ⟨rfl,rfl,rfl⟩
 | x::t=>by
  cases hp:p x
  ·rcases zC2 p t with⟨h1,h2,h3⟩ | ⟨k,y,h1,h2,h3,h4,h5⟩
   ·exact .inl ⟨by simp[fidx,hp,h1],by simp[List.find?,hp,h2],by simp[hp,h3]⟩
   ·refine .inr ⟨k+1,y,?_,by simpa using h2,by simp[List.find?,hp,h3],h4,by simp[hp,h5]⟩;have:¬ ((k:Int)<0):=by omega
    simp[fidx,hp,h1,this]
  ·exact .inr ⟨0,x,by simp[fidx,hp],rfl,by simp[List.find?,hp],hp,by simp[hp]⟩
def Tells (g:Nat)(cb:Array Value)(p:Dev->Bool)(ds:List Dev)(w:World):Prop:=
 ∀ d∈ds,∀ W,Fr No w W->Calls Tryz.prog g (#[.agg d.vals]++cb) W fun e w'=>e=.returned (.bool (p d))/\Fr No W w'
theorem zC4 (g:Nat)(cb:Array Value)(eg:∀ args w,(callFunc g args).run Tryz.prog w=.ok (.enter g args) w)(p:Dev->Bool)(a:Option Addr)(cap:Nat)(ds:List Dev)(w:World)(hl:Devs w a cap ds)(hp:Tells g cb p ds w):
  Calls Tryz.prog 78 #[.slice a ds.length cap,.func (.func g) #[] cb] w fun e w'=>e=.returned (.int .i64 (fidx p ds))/\Fr No w w':=by
 have hm:=hl.lenmax;have Hp:=Lib.hid hp;clear hp
 go_enter Tryz.func78,Tryz.ntmps78
 go_wp2_with fail
 go_loopw [5,8] (fun j i wr=>∃ k:Nat,k<=ds.length/\i=.int .i64 k/\Hid (∀ x∈ds.take k,p x=false)/\Fr No w wr) (fun _ i _=>ds.length-(intOf i).toNat)
 case atStart=>exact⟨0,by omega,rfl,by unfold Hid;simp,Fr.refl _ _⟩
 case round=>
  obtain⟨k,hk,rfl,hno,hfr⟩:=hrel;by_cases hlt:k<ds.length
  ·have hlt':(k:Int)<ds.length:=by omega
   obtain⟨bb,off,d,rfl,hd,c0,c1,c2,c3,c4,c5,c6,c7,c8,c9⟩:=(hl.no hfr (fun _=>id)).dev hlt;have hcall:=Hp.out d (List.mem_of_getElem? hd) wr hfr;have Hd:=Lib.hid hd;clear hd;cases hq:p d with
   | true=>
    rw[hq]at hcall;have Hq:=Lib.hid hq;clear hq
    go_wp2_with (go_at_fn g;refine hcall.mono ?_;rintro e w1 ⟨rfl,hf1⟩)
    have hfr1:=hfr.step hf1 (fun _ _ h=>h);go_ret;exact⟨zAI (zHp p ds k d Hd.out Hq.out hno.out).symm,hfr1⟩
   | false=>
    rw[hq]at hcall;have Hq:=Lib.hid hq;clear hq
    go_wp2_with (go_at_fn g;refine hcall.mono ?_;rintro e w1 ⟨rfl,hf1⟩)
    have hfr1:=hfr.step hf1 (fun _ _ h=>h)
    go_roundw
    case rel=>
     refine⟨k+1,by omega,by go_num,?_,hfr1⟩;unfold Hid;intro x hx;rw[List.take_add_one,Hd.out]at hx;rcases List.mem_append.1 hx with h | h
     ·exact hno.out x h
     ·simp at h;subst h;exact Hq.out
    case measure=>simp[intOf];omega
  ·obtain rfl:k=ds.length:=by omega
   have h:=hno.out;rw[List.take_of_length_le (by omega)]at h;have H:=Lib.hid (zC3 p ds h);clear h
   go_wp2_with fail
   go_ret;exact⟨zAI H.out.symm,hfr⟩
theorem zKF (g:Nat)(cb:Array Value)(eg:∀ args w,(callFunc g args).run Tryz.prog w=.ok (.enter g args) w)(p:Dev->Bool)(a:Option Addr)(cap:Nat)(ds:List Dev)(w:World)(hl:Devs w a cap ds)(hp:Tells g cb p ds w):
  Calls Tryz.prog 201 #[.slice a ds.length cap,.func (.func g) #[] cb] w fun e w'=>e=.returned (.bool (ds.any p))/\Fr No w w':=by
 have h:=zC4 g cb eg p a cap ds w hl hp;have hq:decide (0<=fidx p ds)=ds.any p:=by
  rcases zC2 p ds with⟨h1,_,h3⟩ | ⟨k,x,h1,_,_,_,h3⟩
  ·rw[h1,h3];rfl
  ·rw[h1,h3];simp
 have Hq:=Lib.hid hq;clear hq
 go_enter Tryz.func201,Tryz.ntmps201
 go_wp2_with fail
 refine h.mono ?_;rintro e w1 ⟨rfl,hf1⟩
 go_wp2_with fail
 go_ret;exact⟨zK Hq.out,hf1⟩
def FoundP (w w':World)(ds:List Dev)(p:Dev->Bool)(e:Ending):Prop:=
 (ds.find? p=none/\e=.returned (.tuple #[.agg Dev.zero.vals,.bool false]))\/
 ∃ d a' c' l,ds.find? p=some d/\e=.returned (.tuple #[.agg ({ d with aa:=a',ac:=c' }:Dev).vals,.bool true])/\Atts w' a' c' l/\Atts w d.aa d.ac l/\d.an=l.length/\l.length<=24/\∀ ad,a'=some ad->w.heap.size<=ad.block
theorem Atts.det {w:World}{a:Option Addr}{c c':Nat}{l l':List (ByteArray×ByteArray)}(h:Atts w a c l)(h':Atts w a c' l')(hn:l.length=l'.length):l=l':=by
 by_cases h0:l=[]
 ·subst h0;exact(List.eq_nil_of_length_eq_zero hn.symm).symm
 ·have h0':l'≠[]:=fun e=>by subst e;exact h0 (List.eq_nil_of_length_eq_zero hn)
  cases a with
  | none=>exact absurd (h.isNil rfl).1 h0
  | some ad=>
   obtain⟨_,_,h3⟩:=h.cell ad rfl h0;obtain⟨_,_,h4⟩:=h'.cell ad rfl h0';refine List.ext_getElem hn fun i h1 h2=>?_
   have e1:=h3 i l[i] (List.getElem?_eq_getElem h1);have e2:=h4 i l'[i] (List.getElem?_eq_getElem h2);have e3:=e1.1.symm.trans e2.1;have e4:=e1.2.symm.trans e2.2;simp only[Option.some.injEq,Value.string.injEq]at e3 e4;exact Prod.ext e3 e4
theorem zEH (g:Nat)(cb:Array Value)(eg:∀ args w,(callFunc g args).run Tryz.prog w=.ok (.enter g args) w)(p:Dev->Bool)(a:Option Addr)(cap:Nat)(ds:List Dev)(base:Nat)(w:World)(hl:Tr w base a cap ds)(hp:Tells g cb p ds w):
  Calls Tryz.prog 42 #[.agg #[.slice a ds.length cap],.func (.func g) #[] cb] w fun e w'=>FoundP w w' ds p e/\Fr No w w':=by
 obtain⟨W0,hW0⟩:∃ W0,W0=(w.alloc (.cells #[.slice a ds.length cap] 28)).alloc (.cells #[.int .i64 0,.int .i64 0,.string ⟨#[]⟩,.string ⟨#[]⟩,.string ⟨#[]⟩,.string ⟨#[]⟩,.string ⟨#[]⟩,.int .i64 0,.int .i64 0,.slice none 0 0] 34):=⟨_,rfl⟩
 have hx:Fr No w W0:=by rw[hW0];exact((Fr.refl _ _).alloc _).alloc _
 have q0:W0.heap[w.heap.size]?=some (.cells #[.slice a ds.length cap] 28):=by rw[hW0];exact zL _ _ _
 have q1:W0.heap[w.heap.size+1]?=some (.cells #[.int .i64 0,.int .i64 0,.string ⟨#[]⟩,.string ⟨#[]⟩,.string ⟨#[]⟩,.string ⟨#[]⟩,.string ⟨#[]⟩,.int .i64 0,.int .i64 0,.slice none 0 0] 34):=by rw[hW0];exact zP _ _ _
 have hm:=hl.dv.lenmax;have hidx:=zC4 g cb eg p a cap ds W0 (hl.dv.no hx (fun _=>id)) (fun d hd W hf=>hp d hd W (hx.step hf (fun _ _ h=>h)));clear hp
 go_enter Tryz.func42,Tryz.ntmps42
 go_upto_region 1 with(fail)
 rw[<-hW0];clear hW0;have t0:W0.cell? ⟨w.heap.size,0,none⟩=some (.slice a ds.length cap):=zB q0 0
 go_wp2_with fail
 refine hidx.mono ?_;rintro e w1 ⟨rfl,hf1⟩;clear hidx;have p0:=hf1.heap q0 id;have p1:=hf1.heap q1 id;have hx1:=hx.step hf1 (fun _ _ h=>h);have hl1:=hl.no hx1;have hs1:w.heap.size+1<w1.heap.size:=zE p1;clear t0 q0 q1;rcases zC2 p ds with⟨hpl,hlk,-⟩ | ⟨k,d,hpl,hdk,hlk,-,-⟩
 ·rw[hpl];have Hlk:=Lib.hid hlk;clear hlk hpl;obtain⟨z0,z1,z2,z3,z4,z5,z6,z7,z8,z9⟩:=DevB.of (d:=⟨0,0,⟨#[]⟩,⟨#[]⟩,⟨#[]⟩,⟨#[]⟩,⟨#[]⟩,0,0,none,0,0⟩) p1;obtain⟨y0,y1,y2,y3,y4,y5,y6,y7,y8,y9⟩:=DevF.of p1;have h10:=zAy p1 rfl ⟨0,0,⟨#[]⟩,⟨#[]⟩,⟨#[]⟩,⟨#[]⟩,⟨#[]⟩,0,0,none,0,0⟩;have hfin:=Lib.hid (hx1.step h10.2 (fun b hb e=>by unfold Is at e;omega));clear h10 p1 hx1 p0
  go_wp2_with fail
  refine bodyPost_ret (v:=.tuple #[.agg Dev.zero.vals,.bool false]) (by simp[results,Tryz.results42,go_sem,Dev.vals,Dev.zero,z0,z1,z2,z3,z4,z5,z6,z7,z8,z9];rfl) rfl ?_;exact⟨.inl ⟨Hlk.out,rfl⟩,hfin.out⟩
 ·rw[hpl];have Hlk:=Lib.hid hlk;have hk:k<ds.length:=(List.getElem?_eq_some_iff.1 hdk).1;obtain⟨l,hA0,han,hlb⟩:=(hl.el d (List.mem_of_getElem? hdk)).att;have hA:=hA0.no hx1 (fun _=>id);have HA0:=Lib.hid hA0;clear hA0;obtain⟨bb,off,d',rfl,hd,c0,c1,c2,c3,c4,c5,c6,c7,c8,c9⟩:=hl1.dv.dev hk;obtain rfl:d=d':=by rw[hdk]at hd;exact Option.some.inj hd
  have Hcopy:=Lib.hid (zDd d l w1 hA han (by omega));have t0:w1.cell? ⟨w.heap.size,0,none⟩=some (.slice (some ⟨bb,off,none⟩) ds.length cap):=zB p0 0;have Han:=Lib.hid han;clear hlk hpl hdk hd han
  go_wp2_with fail
  refine Hcopy.out.mono ?_;rintro e w2 ⟨⟨a',c',rfl,hA',hfresh⟩,hf2⟩;have p2:=hf2.heap p1 id;have hx2:=hx1.step hf2 (fun _ _ h=>h);clear p0 p1 c0 c1 c2 c3 c4 c5 c6 c7 c8 c9 t0;have hs2:w.heap.size+1<w2.heap.size:=zE p2;obtain⟨z0,z1,z2,z3,z4,z5,z6,z7,z8,z9⟩:=DevB.of (d:=⟨0,0,⟨#[]⟩,⟨#[]⟩,⟨#[]⟩,⟨#[]⟩,⟨#[]⟩,0,0,none,0,0⟩) p2;obtain⟨y0,y1,y2,y3,y4,y5,y6,y7,y8,y9⟩:=DevF.of p2;have h10:=zAy p2 rfl { d with aa:=a',ac:=c' };have hfin:Hid _:=And.intro (hA'.fr h10.2 (fun ad e _ h=>by have:=hfresh ad e;unfold Is at h;omega)) (hx2.step h10.2 (fun b hb e=>by unfold Is at e;omega));clear h10 hA' p2 hx2;unfold Dev.vals
  go_wp2_with fail
  refine bodyPost_ret (v:=.tuple #[.agg ({ d with aa:=a',ac:=c' }:Dev).vals,.bool true]) (by simp[results,Tryz.results42,go_sem,Dev.vals,z0,z1,z2,z3,z4,z5,z6,z7,z8,z9]) rfl ?_;exact⟨.inr ⟨d,a',c',l,Hlk.out,rfl,hfin.out.1,HA0.out,Han.out,hlb,fun ad e=>by have:=hfresh ad e;omega⟩,hfin.out.2⟩
def plc (ds:List Dev)(n:Int):ByteArray:=((look ds n).map fun _=>pathOf (origin ds n)).getD ⟨#[]⟩
def atP (ds:List Dev)(s:ByteArray)(d:Dev):Bool:=(plc ds d.index).toList==s.toList
theorem zCs {ds:List Dev}(hT:TreeOk ds)(n:Int):(ogs ds n).getD ⟨#[]⟩=plc ds n:=by
 have:=zFc hT ds.length (Nat.le_refl _) n;rw[List.take_of_length_le (Nat.le_refl _)]at this;rw[this];rfl
theorem zLN (d:Dev)(ds:List Dev)(a:Option Addr)(cap m1 m2 bv bs:Nat)(s:ByteArray)(w:World)(hT:TreeOk ds)(hd:d∈ds)(hv:w.heap[bv]?=some (.cells #[.slice a ds.length cap,.map (some m1),.map (some m2)] 97))(hS:SMap w m2 (ogs ds) ds.length)(hb:w.cell? ⟨bs,0,none⟩=some (.string s)):
  Calls Tryz.prog 105 #[.agg d.vals,.pointer (some ⟨bv,0,none⟩),.pointer (some ⟨bs,0,none⟩)] w fun e w'=>e=.returned (.bool (atP ds s d))/\Fr No w w':=by
 have hx:Fr No w (w.alloc (.cells d.vals 34)):=(Fr.refl _ _).alloc _;have hbx:=hx.cell hb id;have hvx:=hx.heap hv id;have v2:=zB hvx 2;have hSx:=hS.fr hx id;have hiw:=hT.iwf hd;have Ho:=Lib.hid (zCs hT d.index);clear hb hv hS hvx;unfold Dev.vals at *
 go_enter Tryz.func105,Tryz.ntmps105
 go_wp2_with (at_lookup;refine zEp rfl _ _ 95 rfl rfl m2 _ _ d.index hiw rfl hSx rfl ?_)
 go_ret;exact⟨by unfold atP;rw[<-Ho.out];rfl,hx⟩
theorem zEu (a:Option Addr)(cap:Nat)(ds:List Dev)(base:Nat)(s:ByteArray)(w:World)(hl:Tr w base a cap ds)(hn:ds.length<=1000):
  Calls Tryz.prog 59 #[.agg #[.slice a ds.length cap],.string s] w fun e w'=>FoundP w w' ds (atP ds s) e/\Fr No w w':=by
 have hT:=hl.wf.ok;obtain⟨W0,hW0⟩:∃ W0,W0=((w.alloc (.cells #[.slice a ds.length cap] 28)).alloc (.cells #[.string s] 9)).alloc (.cells #[.int .i64 0,.int .i64 0,.string ⟨#[]⟩,.string ⟨#[]⟩,.string ⟨#[]⟩,.string ⟨#[]⟩,.string ⟨#[]⟩,.int .i64 0,.int .i64 0,.slice none 0 0] 34):=⟨_,rfl⟩
 have fx:Fr No ((w.alloc (.cells #[.slice a ds.length cap] 28)).alloc (.cells #[.string s] 9)) W0:=by rw[hW0];exact(Fr.refl _ _).alloc _
 have hx:Fr No w W0:=by rw[hW0];exact(((Fr.refl _ _).alloc _).alloc _).alloc _
 have q0:=fx.heap (zL w (.cells #[.slice a ds.length cap] 28) (.cells #[.string s] 9)) id;have q1:=fx.heap (zP w (.cells #[.slice a ds.length cap] 28) (.cells #[.string s] 9)) id;have q2:W0.heap[w.heap.size+1+1]?=some (.cells #[.int .i64 0,.int .i64 0,.string ⟨#[]⟩,.string ⟨#[]⟩,.string ⟨#[]⟩,.string ⟨#[]⟩,.string ⟨#[]⟩,.int .i64 0,.int .i64 0,.slice none 0 0] 34):=by
  have:=zD ((w.alloc (.cells #[.slice a ds.length cap] 28)).alloc (.cells #[.string s] 9)) (.cells #[.int .i64 0,.int .i64 0,.string ⟨#[]⟩,.string ⟨#[]⟩,.string ⟨#[]⟩,.string ⟨#[]⟩,.string ⟨#[]⟩,.int .i64 0,.int .i64 0,.slice none 0 0] 34);rw[World.size_alloc,World.size_alloc]at this;rw[hW0];exact this
 clear fx;have t0:W0.cell? ⟨w.heap.size,0,none⟩=some (.slice a ds.length cap):=zB q0 0;have hlook:=zBi a cap ds W0 (hl.dv.no hx (fun _=>id)) hT hn;have hs0:=zE q2
 go_enter Tryz.func59,Tryz.ntmps59
 go_upto_region 1 with(fail)
 rw[<-hW0];clear hW0
 go_wp2_with fail
 refine hlook.mono ?_;rintro e w1 ⟨⟨m1,m2,rfl,hm1,hm2,hne,hI,hS⟩,hf1⟩;clear hlook hI;have hx1:=hx.step hf1 (fun _ _ h=>h);obtain⟨W1,hW1⟩:∃ W1,W1=w1.alloc (.cells #[.slice a ds.length cap,.map (some m1),.map (some m2)] 97):=⟨_,rfl⟩
 have fx1:Fr No w1 W1:=by rw[hW1];exact(Fr.refl _ _).alloc _
 have b1:W1.heap[w1.heap.size]?=some (.cells #[.slice a ds.length cap,.map (some m1),.map (some m2)] 97):=by rw[hW1];exact zD _ _
 have p0:=fx1.heap (hf1.heap q0 id) id;have p1:=fx1.heap (hf1.heap q1 id) id;have p2:=fx1.heap (hf1.heap q2 id) id;have hS1:=hS.fr fx1 id;have hxx:=hx1.step fx1 (fun _ _ h=>h);have hsz:=hf1.size;clear q0 q1 q2 t0;have t0:W1.cell? ⟨w.heap.size,0,none⟩=some (.slice a ds.length cap):=zB p0 0;have t1:W1.cell? ⟨w.heap.size+1,0,none⟩=some (.string s):=zB p1 0;have hfirst:=zEH 105 #[.pointer (some ⟨w1.heap.size,0,none⟩),.pointer (some ⟨w.heap.size+1,0,none⟩)] (fun _ _=>rfl) (atP ds s) a cap ds base W1 (hl.no hxx) (fun d hd W hf=>zLN d ds a cap m1 m2 _ _ s W hT hd (hf.heap b1 id) (hS1.fr hf id) (hf.cell t1 id))
 go_upto_region 2 with(fail)
 rw[<-hW1];clear hW1
 go_wp2_with fail
 refine hfirst.mono ?_;rintro e w2 ⟨hF,hf2⟩;clear hfirst;have r2:=hf2.heap p2 id;have hx2:=hxx.step hf2 (fun _ _ h=>h);have hs2:w.heap.size+1+1<w2.heap.size:=zE r2;clear t0 t1 p0 p1 p2;obtain⟨z0,z1,z2,z3,z4,z5,z6,z7,z8,z9⟩:=DevB.of (d:=⟨0,0,⟨#[]⟩,⟨#[]⟩,⟨#[]⟩,⟨#[]⟩,⟨#[]⟩,0,0,none,0,0⟩) r2;obtain⟨y0,y1,y2,y3,y4,y5,y6,y7,y8,y9⟩:=DevF.of r2;have hsx:=hxx.size;have hsy:=fx1.size;rcases hF with⟨hlk,rfl⟩ | ⟨d,a',c',l,hlk,rfl,hA,hA1,han,hlb,hfr⟩
 ·have h10:=zAy r2 rfl Dev.zero;have hfin:=Lib.hid (And.intro hlk (hx2.step h10.2 (fun b hb e=>by unfold Is at e;omega)));clear h10 r2 hx2 hlk;unfold Dev.vals Dev.zero
  go_wp2_with fail
  refine bodyPost_ret (v:=.tuple #[.agg Dev.zero.vals,.bool false]) (by simp[results,Tryz.results59,go_sem,Dev.vals,Dev.zero,z0,z1,z2,z3,z4,z5,z6,z7,z8,z9]) rfl ?_;exact⟨.inl ⟨hfin.out.1,rfl⟩,hfin.out.2⟩
 ·have h10:=zAy r2 rfl { d with aa:=a',ac:=c' };have hA0:Atts w d.aa d.ac l:=by
   obtain⟨l0,g1,g2,_⟩:=(hl.el d (List.mem_of_find?_eq_some hlk)).att;have e:l0=l:=(g1.no hxx (fun _=>id)).det hA1 (by omega);rw[<-e];exact g1
  have hfin:=Lib.hid (And.intro hlk (And.intro han (And.intro (And.intro (hA.fr h10.2 (fun ad e _ h=>by have:=hfr ad e;unfold Is at h;omega)) hA0) (hx2.step h10.2 (fun b hb e=>by unfold Is at e;omega)))));clear h10 r2 hx2 hlk han hA hA1 hA0;unfold Dev.vals
  go_wp2_with fail
  refine bodyPost_ret (v:=.tuple #[.agg ({ d with aa:=a',ac:=c' }:Dev).vals,.bool true]) (by simp[results,Tryz.results59,go_sem,Dev.vals,z0,z1,z2,z3,z4,z5,z6,z7,z8,z9]) rfl ?_;exact⟨.inr ⟨d,a',c',l,hfin.out.1,rfl,hfin.out.2.2.1.1,hfin.out.2.2.1.2,hfin.out.2.1,hlb,fun ad e=>by have:=hfr ad e;omega⟩,hfin.out.2.2.2⟩
structure Rec where
 path:ByteArray
 index:Int
 props:List (ByteArray×ByteArray)
 tags:List ByteArray
 pa:Option Addr
 pc:Nat
 ta:Option Addr
 tc:Nat
 la:Option Addr
 ln:Nat
 lc:Nat
 ra:Option Addr
 rn:Nat
 rc:Nat
 oa:Option Addr
 on:Nat
 oc:Nat
 name:ByteArray
 prio:Int
 owner:ByteArray
 group:ByteArray
 mode:Int
def Rec.cell (r:Rec):Nat->Value
 | 0=>.string r.path
 | 1=>.int .i64 r.index
 | 2=>.slice r.pa r.props.length r.pc
 | 3=>.slice r.ta r.tags.length r.tc
 | 4=>.slice r.la r.ln r.lc
 | 5=>.slice r.ra r.rn r.rc
 | 6=>.slice r.oa r.on r.oc
 | 7=>.string r.name
 | 8=>.int .i64 r.prio
 | 9=>.string r.owner
 | 10=>.string r.group
 | _=>.int .i64 r.mode
def Rec.vals (r:Rec):Array Value:=#[.string r.path,.int .i64 r.index,.slice r.pa r.props.length r.pc,.slice r.ta r.tags.length r.tc,.slice r.la r.ln r.lc,.slice r.ra r.rn r.rc,.slice r.oa r.on r.oc,.string r.name,.int .i64 r.prio,.string r.owner,.string r.group,.int .i64 r.mode]
def Rec.zero : Rec:=⟨⟨#[]⟩,0,[],[],none,0,none,0,none,0,0,none,0,0,none,0,0,⟨#[]⟩,0,⟨#[]⟩,⟨#[]⟩,0⟩
structure RecOk (w:World)(r:Rec):Prop where
 props:Atts w r.pa r.pc r.props
 tags:Strs w r.ta r.tc r.tags
theorem RecOk.no {S:Nat->Prop}{w w':World}{r:Rec}(h:RecOk w r)(hf:Fr S w w')(hS:∀ k,¬ S k):RecOk w' r:=⟨h.props.no hf hS,h.tags.no hf hS⟩
theorem RecOk.zero (w:World):RecOk w Rec.zero:=⟨Atts.nil w,Strs.nil w⟩
structure Recs (w:World)(a:Option Addr)(cap:Nat)(l:List Rec):Prop where
 len:l.length<=cap
 max:cap<=maxLen
 isNil:a=none->l=[]/\cap=0
 ok:∀ r∈l,RecOk w r
 cell:∀ ad,a=some ad->l≠[]->ad.spot=none/\ad.block<w.heap.size/\∀ i r,l[i]?=some r->∀ j,j<12->w.cell? ⟨ad.block,ad.off+(i*12+j),none⟩=some (r.cell j)
structure RecAt (w:World)(b o:Nat)(r:Rec):Prop where
 c0:w.cell? ⟨b,o,none⟩=some (.string r.path)
 c1:w.cell? ⟨b,o+1,none⟩=some (.int .i64 r.index)
 c2:w.cell? ⟨b,o+2,none⟩=some (.slice r.pa r.props.length r.pc)
 c3:w.cell? ⟨b,o+3,none⟩=some (.slice r.ta r.tags.length r.tc)
 c4:w.cell? ⟨b,o+4,none⟩=some (.slice r.la r.ln r.lc)
 c5:w.cell? ⟨b,o+5,none⟩=some (.slice r.ra r.rn r.rc)
 c6:w.cell? ⟨b,o+6,none⟩=some (.slice r.oa r.on r.oc)
 c7:w.cell? ⟨b,o+7,none⟩=some (.string r.name)
 c8:w.cell? ⟨b,o+8,none⟩=some (.int .i64 r.prio)
 c9:w.cell? ⟨b,o+9,none⟩=some (.string r.owner)
 c10:w.cell? ⟨b,o+10,none⟩=some (.string r.group)
 c11:w.cell? ⟨b,o+11,none⟩=some (.int .i64 r.mode)
theorem Recs.elem {w:World}{a:Option Addr}{cap:Nat}{l:List Rec}(h:Recs w a cap l){k:Nat}(hk:k<l.length):
  ∃ b off r,a=some ⟨b,off,none⟩/\l[k]?=some r/\RecOk w r/\RecAt w b (off+k*12) r:=by
 cases a with
 | none=>obtain⟨rfl,_⟩:=h.isNil rfl;simp at hk
 | some ad=>
  obtain⟨b,off,sp⟩:=ad;obtain⟨h1,h2,h3⟩:=h.cell _ rfl (by intro e;subst e;simp at hk);simp at h1;subst h1;have hc:=h3 k _ (List.getElem?_eq_getElem hk);exact⟨b,off,l[k],rfl,List.getElem?_eq_getElem hk,h.ok _ (List.getElem_mem hk),⟨hc 0 (by omega),hc 1 (by omega),hc 2 (by omega),hc 3 (by omega),hc 4 (by omega),hc 5 (by omega),hc 6 (by omega),hc 7 (by omega),hc 8 (by omega),hc 9 (by omega),hc 10 (by omega),hc 11 (by omega)⟩⟩
theorem Recs.lenmax {w:World}{a:Option Addr}{cap:Nat}{l:List Rec}(h:Recs w a cap l):l.length<=9223372036854775807:=by
 have h1:=h.len;have h2:=h.max;unfold maxLen at h2;omega
theorem Recs.no {S:Nat->Prop}{w w':World}{a:Option Addr}{cap:Nat}{l:List Rec}(h:Recs w a cap l)(hf:Fr S w w')(hS:∀ k,¬ S k):Recs w' a cap l:=
 ⟨h.len,h.max,h.isNil,fun r hr=>(h.ok r hr).no hf hS,fun ad e hne=>by
  obtain⟨h1,h2,h3⟩:=h.cell ad e hne;exact⟨h1,Nat.lt_of_lt_of_le h2 hf.size,fun i r hi j hj=>hf.cell (h3 i r hi j hj) (hS _)⟩⟩
theorem Recs.nil (w:World):Recs w none 0 []:=⟨by simp,by simp,fun _=>⟨rfl,rfl⟩,by simp,fun _ e _=>by cases e⟩
def Rec.is (n:Int)(p:ByteArray)(r:Rec):Bool:=decide (r.index=n)&&(r.path.toList==p.toList)
def rplace : List Rec->Int->ByteArray->Int
 | [],_,_=>-1
 | r::t,n,p=>if r.is n p then 0 else if rplace t n p<0 then -1 else rplace t n p+1
theorem zCk : ∀ (l:List Rec) (n:Int) (p:ByteArray),(l.find? (Rec.is n p)=none/\rplace l n p=-1)\/∃ (k:Nat) (r:Rec),l.find? (Rec.is n p)=some r/\rplace l n p=(k:Int)/\l[k]?=some r
 | [],n,p=>.inl ⟨rfl,rfl⟩
 | r::t,n,p=>by
  unfold rplace;rw[List.find?_cons];cases hr:r.is n p with
  | true=>exact .inr ⟨0,r,rfl,rfl,rfl⟩
  | false=>
   rcases zCk t n p with⟨h1,h2⟩ | ⟨k,x,h1,h2,h3⟩
   ·left;refine⟨h1,?_⟩;simp[h2]
   ·right;refine⟨k+1,x,h1,?_,by simpa using h3⟩;rw[h2,if_neg (by simp),if_neg (by omega)];rfl
theorem zCi : ∀ (l:List Rec) (n:Int) (p:ByteArray) (k:Nat) (r:Rec),l[k]?=some r->r.is n p=true->(∀ x∈l.take k,x.is n p=false)->rplace l n p=k
 | [],n,p,k,r,h,_,_=>by simp at h
 | x::t,n,p,0,r,h,e,_=>by simp at h;subst h;simp[rplace,e]
 | x::t,n,p,k+1,r,h,e,hn=>by
  have h1:x.is n p=false:=hn x (by simp);have h2:=zCi t n p k r (by simpa using h) e (fun y hy=>hn y (by simp[hy]));unfold rplace;rw[h1,h2];simp;omega
theorem zCj : ∀ (l:List Rec) (n:Int) (p:ByteArray),(∀ x∈l,x.is n p=false)->rplace l n p=-1
 | [],n,p,_=>rfl
 | x::t,n,p,h=>by
  unfold rplace;rw[h x (by simp),zCj t n p (fun y hy=>h y (by simp[hy]))];simp
theorem zJr {W:World}{b:Nat}{cs:Array Value}{T:TypeId}(h:W.heap[b]?=some (.cells cs T))(hs:cs.size=12)(r:Rec):
  ((((((((((((W.setCell ⟨b,0,none⟩ (.string r.path)).setCell ⟨b,1,none⟩ (.int .i64 r.index)).setCell ⟨b,2,none⟩ (.slice r.pa r.props.length r.pc)).setCell ⟨b,3,none⟩ (.slice r.ta r.tags.length r.tc)).setCell ⟨b,4,none⟩ (.slice r.la r.ln r.lc)).setCell ⟨b,5,none⟩ (.slice r.ra r.rn r.rc)).setCell ⟨b,6,none⟩ (.slice r.oa r.on r.oc)).setCell ⟨b,7,none⟩ (.string r.name)).setCell ⟨b,8,none⟩ (.int .i64 r.prio)).setCell ⟨b,9,none⟩ (.string r.owner)).setCell ⟨b,10,none⟩ (.string r.group)).setCell ⟨b,11,none⟩ (.int .i64 r.mode)).heap[b]?=some (.cells r.vals T)/\Fr (Is b) W ((((((((((((W.setCell ⟨b,0,none⟩ (.string r.path)).setCell ⟨b,1,none⟩ (.int .i64 r.index)).setCell ⟨b,2,none⟩ (.slice r.pa r.props.length r.pc)).setCell ⟨b,3,none⟩ (.slice r.ta r.tags.length r.tc)).setCell ⟨b,4,none⟩ (.slice r.la r.ln r.lc)).setCell ⟨b,5,none⟩ (.slice r.ra r.rn r.rc)).setCell ⟨b,6,none⟩ (.slice r.oa r.on r.oc)).setCell ⟨b,7,none⟩ (.string r.name)).setCell ⟨b,8,none⟩ (.int .i64 r.prio)).setCell ⟨b,9,none⟩ (.string r.owner)).setCell ⟨b,10,none⟩ (.string r.group)).setCell ⟨b,11,none⟩ (.int .i64 r.mode)):=by
 refine⟨?_,Fr.setAt (Fr.setAt (Fr.setAt (Fr.setAt (Fr.setAt (Fr.setAt (Fr.setAt (Fr.setAt (Fr.setAt (Fr.setAt (Fr.setAt (Fr.setAt (Fr.refl _ _) _) _) _) _) _) _) _) _) _) _) _) _⟩;obtain⟨l⟩:=cs
 match l,hs with
 | [_,_,_,_,_,_,_,_,_,_,_,_],_=>
  have h0:=zF h 0 (.string r.path);have h1:=zF h0 1 (.int .i64 r.index);have h2:=zF h1 2 (.slice r.pa r.props.length r.pc);have h3:=zF h2 3 (.slice r.ta r.tags.length r.tc);have h4:=zF h3 4 (.slice r.la r.ln r.lc);have h5:=zF h4 5 (.slice r.ra r.rn r.rc);have h6:=zF h5 6 (.slice r.oa r.on r.oc);have h7:=zF h6 7 (.string r.name);have h8:=zF h7 8 (.int .i64 r.prio);have h9:=zF h8 9 (.string r.owner);have h10:=zF h9 10 (.string r.group);have h11:=zF h10 11 (.int .i64 r.mode);simp only[List.setIfInBounds_toArray,List.set_cons_zero,List.set_cons_succ]at h11;exact h11
theorem zKm (r:Rec)(b4 b5:Nat)(n:Int)(p:ByteArray)(w:World)(h4:w.cell? ⟨b4,0,none⟩=some (.int .i64 n))(h5:w.cell? ⟨b5,0,none⟩=some (.string p)):
  Calls Tryz.prog 50 #[.agg r.vals,.pointer (some ⟨b4,0,none⟩),.pointer (some ⟨b5,0,none⟩)] w fun e w'=>e=.returned (.bool (r.is n p))/\Fr No w w':=by
 have hx:Fr No w (w.alloc (.cells r.vals 46)):=(Fr.refl _ _).alloc _;have h4x:=hx.cell h4 id;have h5x:=hx.cell h5 id;clear h4 h5;unfold Rec.vals at *;rcases h1:(r.index==n)with _ | _
 ·have H:Hid (r.is n p=false):=by unfold Hid Rec.is;simp at h1;simp[h1]
  go_enter Tryz.func50,Tryz.ntmps50
  go_wp2_with fail
  all_goals (go_ret;exact⟨zK H.out.symm,hx⟩)
 ·rcases h2:(r.path.toList==p.toList)with _ | _
  ·have H:Hid (r.is n p=false):=by unfold Hid Rec.is;rw[h2,Bool.and_false]
   go_enter Tryz.func50,Tryz.ntmps50
   go_wp2_with fail
   all_goals (go_ret;exact⟨zK H.out.symm,hx⟩)
  ·have H:Hid (r.is n p=true):=by unfold Hid Rec.is;simp at h1;rw[h2,Bool.and_true];simp[h1]
   go_enter Tryz.func50,Tryz.ntmps50
   go_wp2_with fail
   all_goals (go_ret;exact⟨zK H.out.symm,hx⟩)
theorem zHQ (a:Option Addr)(cap:Nat)(l:List Rec)(b4 b5:Nat)(n:Int)(p:ByteArray)(w:World)(hl:Recs w a cap l)(h4:w.cell? ⟨b4,0,none⟩=some (.int .i64 n))(h5:w.cell? ⟨b5,0,none⟩=some (.string p)):
  Calls Tryz.prog 49 #[.slice a l.length cap,.func (.func 50) #[] #[.pointer (some ⟨b4,0,none⟩),.pointer (some ⟨b5,0,none⟩)]] w fun e w'=>e=.returned (.int .i64 (rplace l n p))/\Fr No w w':=by
 have hm:=hl.lenmax
 go_enter Tryz.func49,Tryz.ntmps49
 go_wp2_with fail
 go_loopw [8] (fun i wr=>∃ k:Nat,k<=l.length/\i=.int .i64 k/\Hid (∀ x∈l.take k,x.is n p=false)/\Fr No w wr) (fun i _=>l.length-(intOf i).toNat)
 case atStart=>exact⟨0,by omega,rfl,by unfold Hid;simp,Fr.refl _ _⟩
 case round=>
  obtain⟨k,hk,rfl,hno,hfr⟩:=hrel;by_cases hlt:k<l.length
  ·have hlt':(k:Int)<l.length:=by omega
   obtain⟨bb,off,r,rfl,hr,_,c0,c1,c2,c3,c4,c5,c6,c7,c8,c9,c10,c11⟩:=(hl.no hfr (fun _=>id)).elem hlt;have Hr:=Lib.hid hr;clear hr
   go_wp2_with fail
   refine(zKm r b4 b5 n p _ (hfr.cell h4 id) (hfr.cell h5 id)).mono ?_;rintro e w1 ⟨rfl,hf1⟩;have hfr1:=hfr.step hf1 (fun _ _ h=>h);clear c0 c1 c2 c3 c4 c5 c6 c7 c8 c9 c10 c11;rcases hxn:r.is n p with _ | _
   ·have Hxn:=Lib.hid hxn;clear hxn
    go_wp2_with fail
    go_roundw
    case rel=>
     refine⟨k+1,by omega,by go_num,?_,hfr1⟩;unfold Hid;intro x hx;rw[List.take_add_one,Hr.out]at hx;rcases List.mem_append.1 hx with h | h
     ·exact hno.out x h
     ·simp at h;subst h;exact Hxn.out
    case measure=>simp[intOf];omega
   ·have Hxn:=Lib.hid hxn;clear hxn
    go_wp2_with fail
    go_ret;exact⟨zAI (zCi l n p k r Hr.out Hxn.out hno.out).symm,hfr1⟩
  ·obtain rfl:k=l.length:=by omega
   have h:=hno.out;rw[List.take_of_length_le (by omega)]at h;have Hp:Hid (rplace l n p=-1):=zCj _ _ _ h;clear h
   go_wp2_with fail
   go_ret;exact⟨zAI Hp.out.symm,hfr⟩
def FoundR (o:Option Rec)(e:Ending):Prop:=match o with
 | none=>e=.returned (.tuple #[.agg Rec.zero.vals,.bool false])
 | some r=>e=.returned (.tuple #[.agg r.vals,.bool true])
theorem zIf (a:Option Addr)(cap:Nat)(l:List Rec)(n:Int)(p:ByteArray)(w:World)(hl:Recs w a cap l):
  Calls Tryz.prog 24 #[.slice a l.length cap,.int .i64 n,.string p] w fun e w'=>FoundR (l.find? (Rec.is n p)) e/\Fr No w w':=by
 have hm:=hl.lenmax;have h0:Fr No w (((w.alloc (.cells #[.int .i64 n] 3)).alloc (.cells #[.string p] 9)).alloc (.cells #[.string ⟨#[]⟩,.int .i64 0,.slice none 0 0,.slice none 0 0,.slice none 0 0,.slice none 0 0,.slice none 0 0,.string ⟨#[]⟩,.int .i64 0,.string ⟨#[]⟩,.string ⟨#[]⟩,.int .i64 0] 46)):=(((Fr.refl _ _).alloc _).alloc _).alloc _;have q4:=(((Fr.refl No _).alloc (.cells #[.string p] 9)).alloc (.cells #[.string ⟨#[]⟩,.int .i64 0,.slice none 0 0,.slice none 0 0,.slice none 0 0,.slice none 0 0,.slice none 0 0,.string ⟨#[]⟩,.int .i64 0,.string ⟨#[]⟩,.string ⟨#[]⟩,.int .i64 0] 46)).heap (zD w (.cells #[.int .i64 n] 3)) id;have q5:=((Fr.refl No _).alloc (.cells #[.string ⟨#[]⟩,.int .i64 0,.slice none 0 0,.slice none 0 0,.slice none 0 0,.slice none 0 0,.slice none 0 0,.string ⟨#[]⟩,.int .i64 0,.string ⟨#[]⟩,.string ⟨#[]⟩,.int .i64 0] 46)).heap (zP w (.cells #[.int .i64 n] 3) (.cells #[.string p] 9)) id;have q6:=zP (w.alloc (.cells #[.int .i64 n] 3)) (.cells #[.string p] 9) (.cells #[.string ⟨#[]⟩,.int .i64 0,.slice none 0 0,.slice none 0 0,.slice none 0 0,.slice none 0 0,.slice none 0 0,.string ⟨#[]⟩,.int .i64 0,.string ⟨#[]⟩,.string ⟨#[]⟩,.int .i64 0] 46);rw[World.size_alloc]at q6;have hs6:(((w.alloc (.cells #[.int .i64 n] 3)).alloc (.cells #[.string p] 9)).alloc (.cells #[.string ⟨#[]⟩,.int .i64 0,.slice none 0 0,.slice none 0 0,.slice none 0 0,.slice none 0 0,.slice none 0 0,.string ⟨#[]⟩,.int .i64 0,.string ⟨#[]⟩,.string ⟨#[]⟩,.int .i64 0] 46)).heap.size=w.heap.size+3:=by simp
 go_enter Tryz.func24,Tryz.ntmps24
 go_upto_region 1 with(fail)
 generalize ((w.alloc (.cells #[.int .i64 n] 3)).alloc (.cells #[.string p] 9)).alloc (.cells #[.string ⟨#[]⟩,.int .i64 0,.slice none 0 0,.slice none 0 0,.slice none 0 0,.slice none 0 0,.slice none 0 0,.string ⟨#[]⟩,.int .i64 0,.string ⟨#[]⟩,.string ⟨#[]⟩,.int .i64 0] 46)=W0 at *
 go_wp2_with fail
 refine(zHQ a cap l _ _ n p _ (hl.no h0 (fun _=>id)) (zB q4 0) (zB q5 0)).mono ?_;rintro e w1 ⟨rfl,hf1⟩;have hl1:=(hl.no h0 (fun _=>id)).no hf1 (fun _=>id);have hfr:=h0.step hf1 (fun _ _ h=>h);have p6:=hf1.heap q6 id;have hs1:=hf1.size;clear q4 q5 q6 h0 hf1 hl;obtain⟨z0,z1,z2,z3,z4,z5,z6,z7,z8,z9,z10,z11⟩:=cl12 p6;obtain⟨y0,y1,y2,y3,y4,y5,y6,y7,y8,y9,y10,y11⟩:=fl12 p6;rcases zCk l n p with⟨h1,h2⟩ | ⟨k,r,h1,h2,h3⟩
 ·rw[h2];have H1:=Lib.hid h1;have h12:=zJr p6 rfl Rec.zero;have hfin:=Lib.hid (hfr.step h12.2 (fun b hb e=>by unfold Is at e;omega));clear h12 p6 hl1 h1 h2
  go_wp2_with fail
  refine bodyPost_ret (v:=.tuple #[.agg Rec.zero.vals,.bool false]) (by simp[results,Tryz.results24,go_sem,Rec.vals,Rec.zero,z0,z1,z2,z3,z4,z5,z6,z7,z8,z9,z10,z11];try rfl) rfl ?_;exact⟨by rw[H1.out];rfl,hfin.out⟩
 ·rw[h2];have H1:=Lib.hid h1;have hlt:k<l.length:=(List.getElem?_eq_some_iff.1 h3).1;have hlt':(k:Int)<l.length:=by omega
  obtain⟨bb,off,r',rfl,hr,_,c0,c1,c2,c3,c4,c5,c6,c7,c8,c9,c10,c11⟩:=hl1.elem hlt;rw[h3]at hr;cases hr;have h12:=zJr p6 rfl r;have hfin:=Lib.hid (hfr.step h12.2 (fun b hb e=>by unfold Is at e;omega));clear h12 p6 hl1 h1 h2 h3
  go_wp2_with fail
  refine bodyPost_ret (v:=.tuple #[.agg r.vals,.bool true]) (by simp[results,Tryz.results24,go_sem,Rec.vals,z0,z1,z2,z3,z4,z5,z6,z7,z8,z9,z10,z11]) rfl ?_;exact⟨by rw[H1.out];rfl,hfin.out⟩
def isKey (key:ByteArray)(x:ByteArray×ByteArray):Bool:=x.1.toList==key.toList
def getP (l:List (ByteArray×ByteArray))(key:ByteArray):ByteArray:=((l.find? (isKey key)).map (·.2)).getD ⟨#[]⟩
theorem zBF {α:Type}(p:α->Bool):∀ (l:List α) (k:Nat) (x:α),l[k]?=some x->p x=true->(∀ y∈l.take k,p y=false)->l.find? p=some x
 | [],k,x,h,_,_=>by simp at h
 | y::t,0,x,h,e,_=>by simp at h;subst h;simp[e]
 | y::t,k+1,x,h,e,hn=>by
  have h1:p y=false:=hn y (by simp);rw[List.find?_cons,h1];exact zBF p t k x (by simpa using h) e (fun z hz=>hn z (by simp[hz]))
theorem zFF {α:Type}(p:α->Bool)(l:List α)(h:∀ y∈l,p y=false):l.find? p=none:=by
 rw[List.find?_eq_none];intro y hy;simp[h y hy]
theorem zGS (r:Rec)(key:ByteArray)(w:World)(hr:RecOk w r):
  Calls Tryz.prog 25 #[.agg r.vals,.string key] w fun e w'=>e=.returned (.string (getP r.props key))/\Fr No w w':=by
 have hx:Fr No w (w.alloc (.cells r.vals 46)):=(Fr.refl _ _).alloc _;have hA:=hr.props.no hx (fun _=>id);have hm:=hA.lenmax;unfold Rec.vals at *;clear hr
 go_enter Tryz.func25,Tryz.ntmps25
 go_wp2_with fail
 generalize w.alloc (.cells _ 46)=W0 at *
 go_loopw [10] (fun i wr=>∃ k:Nat,k<=r.props.length/\i=.int .i64 k/\Hid (∀ x∈r.props.take k,isKey key x=false)/\Fr No W0 wr) (fun i _=>r.props.length-(intOf i).toNat)
 case atStart=>exact⟨0,by omega,rfl,by unfold Hid;simp,Fr.refl _ _⟩
 case round=>
  obtain⟨k,hk,rfl,hno,hfr⟩:=hrel;by_cases hlt:k<r.props.length
  ·have hlt':(k:Int)<r.props.length:=by omega
   obtain⟨bb,off,x,y,ha,hxy,-,-,c0,c1⟩:=(hA.no hfr (fun _=>id)).at hlt;have Hxy:=Lib.hid hxy;clear hxy;rcases he:(x.toList==key.toList)with _ | _
   ·go_wp2_with fail
    go_roundw
    case rel=>
     refine⟨k+1,by omega,by go_num,?_,hfr.alloc _⟩;unfold Hid;intro z hz;rw[List.take_add_one,Hxy.out]at hz;rcases List.mem_append.1 hz with h | h
     ·exact hno.out z h
     ·simp at h;subst h;exact he
    case measure=>simp[intOf];omega
   ·have Hg:Hid (getP r.props key=y):=by unfold Hid getP;rw[zBF (isKey key) _ _ _ Hxy.out he hno.out];rfl
    go_wp2_with fail
    go_ret;exact⟨by rw[Hg.out];rfl,(hx.step hfr (fun _ _ h=>h)).alloc _⟩
  ·obtain rfl:k=r.props.length:=by omega
   have h:=hno.out;rw[List.take_of_length_le (by omega)]at h;have Hg:Hid (getP r.props key=⟨#[]⟩):=by unfold Hid getP;rw[zFF _ _ h];rfl
   go_wp2_with fail
   go_ret;exact⟨by rw[Hg.out];rfl,hx.step hfr (fun _ _ h=>h)⟩
def GotS (s:ByteArray)(e:Ending):Prop:=∃ b,e=.returned (.tuple #[.string s,.bool b])
theorem zIT (a:Option Addr)(cap:Nat)(l:List (ByteArray×ByteArray))(key:ByteArray)(w:World)(hl:Atts w a cap l):
  Calls Tryz.prog 51 #[.slice a l.length cap,.string key] w fun e w'=>GotS (getP l key) e/\Fr No w w':=by
 have hm:=hl.lenmax
 go_enter Tryz.func51,Tryz.ntmps51
 go_wp2_with fail
 go_loop [6] (fun i=>∃ k:Nat,k<=l.length/\i=.int .i64 k/\Hid (∀ x∈l.take k,isKey key x=false)) (fun i=>l.length-(intOf i).toNat)
 case atStart=>exact⟨0,by omega,rfl,by unfold Hid;simp⟩
 case round=>
  obtain⟨k,hk,rfl,hno⟩:=hrel;by_cases hlt:k<l.length
  ·have hlt':(k:Int)<l.length:=by omega
   obtain⟨bb,off,x,y,rfl,hxy,-,-,c0,c1⟩:=hl.at hlt;have Hxy:=Lib.hid hxy;clear hxy;rcases he:(x.toList==key.toList)with _ | _
   ·go_wp2_with fail
    go_round
    case rel=>
     refine⟨k+1,by omega,by go_num,?_⟩;unfold Hid;intro z hz;rw[List.take_add_one,Hxy.out]at hz;rcases List.mem_append.1 hz with h | h
     ·exact hno.out z h
     ·simp at h;subst h;exact he
    case measure=>simp[intOf];omega
   ·have Hg:Hid (getP l key=y):=by unfold Hid getP;rw[zBF (isKey key) _ _ _ Hxy.out he hno.out];rfl
    go_wp2_with fail
    refine bodyPost_ret (v:=.tuple #[.string y,.bool true]) (by simp[results,Tryz.results51,go_sem]) rfl ?_;exact⟨⟨true,by rw[Hg.out]⟩,Fr.refl _ _⟩
  ·obtain rfl:k=l.length:=by omega
   have h:=hno.out;rw[List.take_of_length_le (by omega)]at h;have Hg:Hid (getP l key=⟨#[]⟩):=by unfold Hid getP;rw[zFF _ _ h];rfl
   go_wp2_with fail
   refine bodyPost_ret (v:=.tuple #[.string ⟨#[]⟩,.bool false]) (by simp[results,Tryz.results51,go_sem]) rfl ?_;exact⟨⟨false,by rw[Hg.out]⟩,Fr.refl _ _⟩
theorem zHG (r:Rec)(key:ByteArray)(w:World)(hr:RecOk w r):
  Calls Tryz.prog 26 #[.agg r.vals,.string key] w fun e w'=>e=.returned (.string (getP r.props key))/\Fr No w w':=by
 have hx:Fr No w (w.alloc (.cells r.vals 46)):=(Fr.refl _ _).alloc _;have hA:=hr.props.no hx (fun _=>id);unfold Rec.vals at *;clear hr
 go_enter Tryz.func26,Tryz.ntmps26
 go_wp2_with fail
 refine(zIT _ _ _ key _ hA).mono ?_;rintro e w1 ⟨⟨b,rfl⟩,hf1⟩
 go_wp2_with fail
 go_ret;exact⟨rfl,hx.step hf1 (fun _ _ h=>h)⟩
end Go.Proofs.YtmajgldaplkpiaaGreatDoor
