import Derived.Test.YtmajgldaplkpiaaGreatDoorProg
import Derived.WalkKit
import Derived.WalkSpells
import Derived.WalkLawsBesides
import Derived.Maps.OwnSet
import Derived.Deep.QuietTactic
import Derived.BigQuiet
import Derived.Lib.Hide
import Derived.Deep.DeepFit
import Derived.Deep.DeepMust
import Derived.Test.YtmajgldaplkpiaaGreatDoorStrs
import Derived.Lib.IndexAny
namespace Go.Proofs.YtmajgldaplkpiaaGreatDoor
open Go.RowKit Go.Maps
set_option linter.unusedVariables false
set_option maxRecDepth 100000
set_option maxHeartbeats 1000000
structure Fr (S:Nat->Prop)(w w':World):Prop where
 os:w'.os=w.os
 tape:w'.tape=w.tape
 output:w'.output=w.output
 size:w.heap.size<=w'.heap.size
 block:∀ k,k<w.heap.size->¬ S k->w'.heap[k]?=w.heap[k]?
def No : Nat->Prop:=fun _=>False
def Is (b:Nat):Nat->Prop:=fun k=>k=b
def From (b:Nat):Nat->Prop:=fun k=>b<=k
theorem Fr.refl (S:Nat->Prop)(w:World):Fr S w w:=⟨rfl,rfl,rfl,Nat.le_refl _,fun _ _ _=>rfl⟩
theorem Fr.trans {S T U:Nat->Prop}{w w' w'':World}(h:Fr S w w')(k:Fr T w' w'')(hS:∀ b,b<w.heap.size->S b->U b)(hT:∀ b,b<w.heap.size->T b->U b):Fr U w w'':=
 ⟨k.os.trans h.os,k.tape.trans h.tape,k.output.trans h.output,Nat.le_trans h.size k.size,
  fun b hb hu=>(k.block b (Nat.lt_of_lt_of_le hb h.size) (fun ht=>hu (hT b hb ht))).trans (h.block b hb (fun hs=>hu (hS b hb hs)))⟩
theorem Fr.step {S:Nat->Prop}{w w' w'':World}(h:Fr S w w'){T:Nat->Prop}(k:Fr T w' w'')(hT:∀ b,b<w.heap.size->T b->S b):Fr S w w'':=
 h.trans k (fun _ _ h=>h) hT
theorem Fr.mono {S T:Nat->Prop}{w w':World}(h:Fr S w w')(hS:∀ b,b<w.heap.size->S b->T b):Fr T w w':=
 ⟨h.os,h.tape,h.output,h.size,fun b hb ht=>h.block b hb (fun hs=>ht (hS b hb hs))⟩
theorem Fr.of_grown {w w':World}{row:Option Nat}(h:w.grownBy w' row):Fr (fun k=>row=some k) w w':=
 ⟨h.os,h.tape,h.output,h.size,fun k hk hn=>h.block k hk (fun e=>hn e.symm)⟩
theorem Fr.of_grown_some {w w':World}{b:Nat}(h:w.grownBy w' (some b)):Fr (Is b) w w':=
 (Fr.of_grown h).mono (fun _ _ e=>(Option.some.inj e).symm)
theorem Fr.of_grown_none {w w':World}(h:w.grownBy w' none):Fr No w w':=
 (Fr.of_grown h).mono (fun _ _ e=>by cases e)
theorem Fr.of_below_size {w w':World}(h:Below w.heap.size w w'):Fr No w w':=
 ⟨h.os,h.tape,h.output,h.size,fun k hk _=>h.block k hk⟩
theorem Fr.below {S:Nat->Prop}{B:Nat}{w w':World}(h:Fr S w w')(hB:B<=w.heap.size)(hS:∀ b,b<B->¬ S b):Below B w w':=
 ⟨h.os,h.tape,h.output,h.size,fun k hk=>h.block k (by omega) (hS k hk)⟩
theorem Fr.grown {S:Nat->Prop}{w w':World}{row:Option Nat}(h:Fr S w w')(hS:∀ b,S b->row=some b):w.grownBy w' row:=
 ⟨h.os,h.tape,h.output,h.size,fun k hk hn=>h.block k hk (fun hs=>hn (hS k hs).symm)⟩
theorem Fr.alloc {S:Nat->Prop}{a w:World}(h:Fr S a w)(o:Obj):Fr S a (w.alloc o):=
 h.step (T:=No) ⟨rfl,rfl,rfl,by simp,fun k hk _=>Below.heap_alloc _ _ _ hk⟩ (fun _ _ h=>h.elim)
theorem Fr.setCell {S:Nat->Prop}{a w:World}(h:Fr S a w){p:Addr}(hp:p.block<a.heap.size->S p.block)(u:Value):Fr S a (w.setCell p u):=
 h.step (T:=Is p.block) ⟨rfl,rfl,rfl,by simp[World.setCell],fun k _ hk=>Below.heap_setCell _ _ _ _ hk⟩ (fun b hb e=>by unfold Is at e;subst e;exact hp hb)
theorem Fr.drew {S:Nat->Prop}{a w:World}(h:Fr S a w):Fr S a w.drew:=⟨h.os,h.tape,h.output,h.size,h.block⟩
theorem Fr.drewN {S:Nat->Prop}{a w:World}(h:Fr S a w)(n:Nat):Fr S a (w.drewN n):=⟨h.os,h.tape,h.output,h.size,h.block⟩
theorem Fr.heap {S:Nat->Prop}{w w':World}(h:Fr S w w'){b:Nat}{o:Obj}(hb:w.heap[b]?=some o)(hS:¬ S b):w'.heap[b]?=some o:=
 (h.block b (Array.getElem?_eq_some_iff.1 hb).1 hS).trans hb
theorem Fr.cell {S:Nat->Prop}{w w':World}(h:Fr S w w'){p:Addr}{v:Value}(hb:w.cell? p=some v)(hS:¬ S p.block):w'.cell? p=some v:=by
 have hlt:p.block<w.heap.size:=by
  unfold World.cell? at hb;cases hh:w.heap[p.block]? with
  | none=>simp[hh]at hb
  | some o=>exact(Array.getElem?_eq_some_iff.1 hh).1
 rw[World.cell?_of_block (h.block _ hlt hS)];exact hb
theorem Fr.ownsMap {S:Nat->Prop}{H:Type}{P:Program}{k:TypeId}{R:Value->Option (DataW H×List MemPlace)}{w w':World}{b n:Nat}{D:DataW H}(h:Fr S w w')(ho:w.ownsMap P k R b n D)(hS:¬ S b):w'.ownsMap P k R b n D:=by
 have hlt:=ho.lt;obtain⟨es,clock,hb,r⟩:=ho;exact⟨es,clock,h.heap hb hS,r⟩
theorem zB {w:World}{b:Nat}{cs:Array Value}{T:TypeId}{fz:Nat×Nat}(h:w.heap[b]?=some (.cells cs T fz))(i:Nat):w.cell? ⟨b,i,none⟩=cs[i]?:=by
 simp[World.cell?,h]
theorem zC {w:World}{b:Nat}{cs:Array Value}{T:TypeId}(h:w.heap[b]?=some (.cells cs T (0,0)))(i:Nat):w.frozen? ⟨b,i,none⟩=false:=by
 simp[World.frozen?,h]
theorem zE {w:World}{b:Nat}{o:Obj}(h:w.heap[b]?=some o):b<w.heap.size:=(Array.getElem?_eq_some_iff.1 h).1
theorem zF {w:World}{b:Nat}{cs:Array Value}{T:TypeId}{fz:Nat×Nat}(h:w.heap[b]?=some (.cells cs T fz))(i:Nat)(v:Value):
  (w.setCell ⟨b,i,none⟩ v).heap[b]?=some (.cells (cs.setIfInBounds i v) T fz):=by
 simp[World.setCell,Array.getElem?_modify,h]
theorem zD (w:World)(o:Obj):(w.alloc o).heap[w.heap.size]?=some o:=by
 show (w.heap.push o)[w.heap.size]?=_
 simp
theorem Fr.setNew {S:Nat->Prop}{a w:World}(h:Fr S a w){p:Addr}(hp:a.heap.size<=p.block)(u:Value):Fr S a (w.setCell p u):=
 h.setCell (fun hlt=>absurd hlt (by omega)) u
theorem zL (w:World)(o o':Obj):((w.alloc o).alloc o').heap[w.heap.size]?=some o:=by
 show ((w.heap.push o).push o')[w.heap.size]?=_
 simp[Array.getElem?_push]
theorem zP (w:World)(o o':Obj):((w.alloc o).alloc o').heap[w.heap.size+1]?=some o':=by
 have h:=zD (w.alloc o) o'
 rwa [World.size_alloc]at h
def upd (f:Int->Bool)(x:Int)(b:Bool):Int->Bool:=fun y=>if y=x then b else f y
theorem lawI : Keyed Tryz.prog 3:=int_keyed Tryz.underlying3
theorem zBv (x:Int):WideAt.IsKeyLit (.int .i64 x):=by
 simp[WideAt.IsKeyLit]
structure Ints (w:World)(a:Option Addr)(cap:Nat)(l:List Int):Prop where
 len:l.length<=cap
 max:cap<=maxLen
 wf:∀ x∈l,(Lit.int .i64 x).wf=true
 isNil:a=none->l=[]/\cap=0
 cell:∀ ad,a=some ad->l≠[]->ad.spot=none/\ad.block<w.heap.size/\∀ i x,l[i]?=some x->w.cell? ⟨ad.block,ad.off+i,none⟩=some (.int .i64 x)
theorem Ints.at {w:World}{a:Option Addr}{cap:Nat}{l:List Int}(h:Ints w a cap l){k:Nat}(hk:k<l.length):
  ∃ b off x,a=some ⟨b,off,none⟩/\l[k]?=some x/\w.cell? ⟨b,off+k,none⟩=some (.int .i64 x):=by
 cases a with
 | none=>obtain⟨rfl,_⟩:=h.isNil rfl;simp at hk
 | some ad=>
  obtain⟨b,off,sp⟩:=ad;obtain⟨h1,h2,h3⟩:=h.cell _ rfl (by intro e;subst e;simp at hk);simp at h1;subst h1;exact⟨b,off,l[k],rfl,by simp[hk],h3 k _ (by simp[hk])⟩
theorem Ints.lenmax {w:World}{a:Option Addr}{cap:Nat}{l:List Int}(h:Ints w a cap l):l.length<=9223372036854775807:=by
 have h1:=h.len;have h2:=h.max;unfold maxLen at h2;omega
theorem Ints.fr {S:Nat->Prop}{w w':World}{a:Option Addr}{cap:Nat}{l:List Int}(h:Ints w a cap l)(hf:Fr S w w')(hS:∀ ad,a=some ad->l≠[]->¬ S ad.block):Ints w' a cap l:=
 ⟨h.len,h.max,h.wf,h.isNil,fun ad e hne=>by
  obtain⟨h1,h2,h3⟩:=h.cell ad e hne;exact⟨h1,Nat.lt_of_lt_of_le h2 hf.size,fun i x hi=>hf.cell (h3 i x hi) (hS ad e hne)⟩⟩
theorem Ints.no {S:Nat->Prop}{w w':World}{a:Option Addr}{cap:Nat}{l:List Int}(h:Ints w a cap l)(hf:Fr S w w')(hS:∀ k,¬ S k):Ints w' a cap l:=h.fr hf (fun _ _ _=>hS _)
theorem Ints.nil (w:World):Ints w none 0 []:=⟨by simp,by simp,by simp,fun _=>⟨rfl,rfl⟩,fun _ e _=>by cases e⟩
theorem Ints.of_own {w:World}{base:Nat}{e:TypeId}{v:Value}{l:List Int}(h:w.ownsRow base e 1 v l.length (l.map (Value.int .i64)))(hw:∀ x∈l,(Lit.int .i64 x).wf=true):
  ∃ a cap,v=.slice a l.length cap/\Ints w a cap l/\∀ ad,a=some ad->base<=ad.block:=by
 obtain⟨_,⟨rfl,h2⟩ | ⟨g,cap,cur,rfl,hg,hb,h1,h2,h3,h4⟩⟩:=h
 ·have:l=[]:=List.eq_nil_of_length_eq_zero h2;subst this;exact⟨none,0,rfl,Ints.nil w,fun _ e=>by cases e⟩
 ·refine⟨some ⟨g,0,none⟩,cap,rfl,⟨h1,h2,hw,(fun e=>by cases e),?_⟩,fun ad e=>by cases e;exact hg⟩;intro ad e hne;cases e;refine⟨rfl,zE hb,fun i x hi=>?_⟩;rw[zB hb];simp only[Nat.zero_add];have hlt:i<l.length:=(List.getElem?_eq_some_iff.1 hi).1;have e1:(cur.toList.take (l.length*1))[i]?=(l.map (Value.int .i64))[i]?:=by rw[h4]
  rw[List.getElem?_take_of_lt (by omega)]at e1;rw[<-Array.getElem?_toList,e1];simp[hi]
theorem zK {a b:Bool}(h:a=b):Ending.returned (.bool a)=.returned (.bool b):=by rw[h]
theorem zAI {k:IntKind}{a b:Int}(h:a=b):Ending.returned (.int k a)=.returned (.int k b):=by rw[h]
theorem zFv (v n:Int)(w:World)(h1:1<=n)(h2:n<=4294967296)(hv:(Lit.int .i64 v).wf=true):
  Calls Tryz.prog 41 #[.int .i64 v,.int .i64 n] w fun e w'=>∃ r,e=.returned (.int .i64 r)/\0<=r/\r<n/\w=w':=by
 by_cases h:n<=1
 ·go_enter Tryz.func41,Tryz.ntmps41
  go_wp2;go_ret;exact⟨_,rfl,by omega,by omega,rfl⟩
 ·have hlo:-n<v.tmod n:=by have:=Int.lt_tmod_of_pos v (b:=n) (by omega);omega
  have hhi:v.tmod n<n:=Int.tmod_lt_of_pos v (by omega);by_cases hneg:v.tmod n<0
  ·go_enter Tryz.func41,Tryz.ntmps41
   go_wp2;go_ret;exact⟨_,rfl,by omega,by omega,rfl⟩
  ·go_enter Tryz.func41,Tryz.ntmps41
   go_wp2;go_ret;exact⟨_,rfl,by omega,by omega,rfl⟩
def Tape (w:World)(B tb k:Nat):Prop:=
 ∃ a cap l T,Ints w a cap l/\(∀ ad,a=some ad->l≠[]->ad.block<B)/\B<=tb/\w.heap[tb]?=some (.cells #[.slice a l.length cap,.int .i64 (k:Int)] T (0,0))
theorem Tape.lt {w:World}{B tb k:Nat}(h:Tape w B tb k):tb<w.heap.size:=by
 obtain⟨a,cap,l,T,_,_,_,hb⟩:=h;exact zE hb
theorem Tape.le {w:World}{B tb k:Nat}(h:Tape w B tb k):B<=tb:=by
 obtain⟨a,cap,l,T,_,_,h,_⟩:=h;exact h
theorem Tape.fr {S:Nat->Prop}{w w':World}{B tb k:Nat}(h:Tape w B tb k)(hf:Fr S w w')(hS:∀ b,b<B->¬ S b)(ht:¬ S tb):Tape w' B tb k:=by
 obtain⟨a,cap,l,T,h1,h2,h3,hb⟩:=h;exact⟨a,cap,l,T,h1.fr hf (fun ad e hne=>hS _ (h2 ad e hne)),h2,h3,hf.heap hb ht⟩
theorem zAH (B tb k:Nat)(n:Int)(w:World)(ht:Tape w B tb k)(hk:k<=1000000000000)(h1:1<=n)(h2:n<=4294967296):
  Calls Tryz.prog 14 #[.pointer (some ⟨tb,0,none⟩),.int .i64 n] w fun e w'=>∃ r,e=.returned (.int .i64 r)/\0<=r/\r<n/\Tape w' B tb (k+1)/\Fr (Is tb) w w':=by
 obtain⟨a,cap,l,T,hl,ha,hB,hb⟩:=ht;have c0:w.cell? ⟨tb,0,none⟩=some (.slice a l.length cap):=by rw[zB hb];rfl
 have c1:w.cell? ⟨tb,1,none⟩=some (.int .i64 (k:Int)):=by rw[zB hb];rfl
 have f1:w.frozen? ⟨tb,1,none⟩=false:=zC hb 1;have hm:=hl.lenmax;have hend:∀ m:Nat,Tape ((w.setCell ⟨tb,1,none⟩ (.int .i64 ((k:Int)+1))).drewN m) B tb (k+1)/\Fr (Is tb) w ((w.setCell ⟨tb,1,none⟩ (.int .i64 ((k:Int)+1))).drewN m):=fun m=>by
  have hf:Fr (Is tb) w ((w.setCell ⟨tb,1,none⟩ (.int .i64 ((k:Int)+1))).drewN m):=(Fr.setCell (S:=Is tb) (p:=⟨tb,1,none⟩) (Fr.refl _ _) (fun _=>rfl) _).drewN m;refine⟨⟨a,cap,l,T,hl.fr hf (fun ad e hne h=>by have:=ha ad e hne;unfold Is at h;omega),ha,hB,?_⟩,hf⟩;show (w.setCell ⟨tb,1,none⟩ (.int .i64 ((k:Int)+1))).heap[tb]?=_
  rw[zF hb];rfl
 have Hend:=Lib.hid hend;clear hend;by_cases hlt:k<l.length
 ·obtain⟨b,off,x,rfl,hx,hc⟩:=hl.at hlt;have Hx:=Lib.hid (hl.wf x (List.mem_of_getElem? hx));have hlt':(k:Int)<l.length:=by omega
  clear hx
  go_enter Tryz.func14,Tryz.ntmps14
  go_wp2_with fail
  go_quiet (fail)
  go_wp2_with fail
  go_quiet (fail)
  go_wp2_with fail
  refine(zFv _ n _ h1 h2 Hx.out).mono ?_;rintro e w1 ⟨r,rfl,hr1,hr2,rfl⟩
  go_wp2_with fail
  go_ret;exact⟨r,rfl,hr1,hr2,Hend.out _⟩
 ·have hlt':¬ (k:Int)<l.length:=by omega
  go_enter Tryz.func14,Tryz.ntmps14
  go_wp2_with fail
  go_quiet (fail)
  go_wp2_with fail
  refine(zFv _ n _ h1 h2 (WalkArith.wf_i64 (by omega))).mono ?_;rintro e w1 ⟨r,rfl,hr1,hr2,rfl⟩
  go_wp2_with fail
  go_ret;exact⟨r,rfl,hr1,hr2,Hend.out _⟩
structure Dev where
 index:Int
 parent:Int
 name:ByteArray
 orig:ByteArray
 sub:ByteArray
 drv:ByteArray
 ali:ByteArray
 kind:Int
 num:Int
 aa:Option Addr
 an:Nat
 ac:Nat
def Dev.cell (d:Dev):Nat->Value
 | 0=>.int .i64 d.index
 | 1=>.int .i64 d.parent
 | 2=>.string d.name
 | 3=>.string d.orig
 | 4=>.string d.sub
 | 5=>.string d.drv
 | 6=>.string d.ali
 | 7=>.int .i64 d.kind
 | 8=>.int .i64 d.num
 | _=>.slice d.aa d.an d.ac
def Dev.vals (d:Dev):Array Value:=#[.int .i64 d.index,.int .i64 d.parent,.string d.name,.string d.orig,.string d.sub,.string d.drv,.string d.ali,.int .i64 d.kind,.int .i64 d.num,.slice d.aa d.an d.ac]
def Dev.zero : Dev:=⟨0,0,ByteArray.empty,ByteArray.empty,ByteArray.empty,ByteArray.empty,ByteArray.empty,0,0,none,0,0⟩
structure Devs (w:World)(a:Option Addr)(cap:Nat)(ds:List Dev):Prop where
 len:ds.length<=cap
 max:cap<=maxLen
 isNil:a=none->ds=[]/\cap=0
 cell:∀ ad,a=some ad->ds≠[]->ad.spot=none/\ad.block<w.heap.size/\∀ i d,ds[i]?=some d->∀ j,j<10->w.cell? ⟨ad.block,ad.off+(i*10+j),none⟩=some (d.cell j)
theorem Devs.at {w:World}{a:Option Addr}{cap:Nat}{ds:List Dev}(h:Devs w a cap ds){k:Nat}(hk:k<ds.length):
  ∃ b off d,a=some ⟨b,off,none⟩/\ds[k]?=some d/\∀ j,j<10->w.cell? ⟨b,off+(k*10+j),none⟩=some (d.cell j):=by
 cases a with
 | none=>obtain⟨rfl,_⟩:=h.isNil rfl;simp at hk
 | some ad=>
  obtain⟨b,off,sp⟩:=ad;obtain⟨h1,h2,h3⟩:=h.cell _ rfl (by intro e;subst e;simp at hk);simp at h1;subst h1;exact⟨b,off,ds[k],rfl,List.getElem?_eq_getElem hk,h3 k _ (List.getElem?_eq_getElem hk)⟩
structure DevAt (w:World)(b o:Nat)(d:Dev):Prop where
 c0:w.cell? ⟨b,o,none⟩=some (.int .i64 d.index)
 c1:w.cell? ⟨b,o+1,none⟩=some (.int .i64 d.parent)
 c2:w.cell? ⟨b,o+2,none⟩=some (.string d.name)
 c3:w.cell? ⟨b,o+3,none⟩=some (.string d.orig)
 c4:w.cell? ⟨b,o+4,none⟩=some (.string d.sub)
 c5:w.cell? ⟨b,o+5,none⟩=some (.string d.drv)
 c6:w.cell? ⟨b,o+6,none⟩=some (.string d.ali)
 c7:w.cell? ⟨b,o+7,none⟩=some (.int .i64 d.kind)
 c8:w.cell? ⟨b,o+8,none⟩=some (.int .i64 d.num)
 c9:w.cell? ⟨b,o+9,none⟩=some (.slice d.aa d.an d.ac)
theorem Devs.dev {w:World}{a:Option Addr}{cap:Nat}{ds:List Dev}(h:Devs w a cap ds){k:Nat}(hk:k<ds.length):
  ∃ b off d,a=some ⟨b,off,none⟩/\ds[k]?=some d/\DevAt w b (off+k*10) d:=by
 obtain⟨b,off,d,ha,hd,hc⟩:=h.at hk;refine⟨b,off,d,ha,hd,?_⟩;exact⟨hc 0 (by omega),hc 1 (by omega),hc 2 (by omega),hc 3 (by omega),hc 4 (by omega),hc 5 (by omega),hc 6 (by omega),hc 7 (by omega),hc 8 (by omega),hc 9 (by omega)⟩
theorem Devs.lenmax {w:World}{a:Option Addr}{cap:Nat}{ds:List Dev}(h:Devs w a cap ds):ds.length<=9223372036854775807:=by
 have h1:=h.len;have h2:=h.max;unfold maxLen at h2;omega
theorem Devs.fr {S:Nat->Prop}{w w':World}{a:Option Addr}{cap:Nat}{ds:List Dev}(h:Devs w a cap ds)(hf:Fr S w w')(hS:∀ ad,a=some ad->ds≠[]->¬ S ad.block):Devs w' a cap ds:=
 ⟨h.len,h.max,h.isNil,fun ad e hne=>by
  obtain⟨h1,h2,h3⟩:=h.cell ad e hne;exact⟨h1,Nat.lt_of_lt_of_le h2 hf.size,fun i d hi j hj=>hf.cell (h3 i d hi j hj) (hS ad e hne)⟩⟩
theorem Devs.no {S:Nat->Prop}{w w':World}{a:Option Addr}{cap:Nat}{ds:List Dev}(h:Devs w a cap ds)(hf:Fr S w w')(hS:∀ k,¬ S k):Devs w' a cap ds:=h.fr hf (fun _ _ _=>hS _)
theorem Devs.nil (w:World):Devs w none 0 []:=⟨by simp,by simp,fun _=>⟨rfl,rfl⟩,fun _ e _=>by cases e⟩
def place : List Dev->Int->Int
 | [],_=>-1
 | d::t,n=>if d.index=n then 0 else if place t n<0 then -1 else place t n+1
theorem zFb : ∀ (ds:List Dev) (n:Int),-1<=place ds n/\place ds n<ds.length
 | [],n=>by simp[place]
 | d::t,n=>by
  have:=zFb t n;unfold place;split
  ·simp only[List.length_cons];omega
  ·split<;>simp only[List.length_cons]<;>omega
theorem zB9 : ∀ (ds:List Dev) (n:Int) (k:Nat) (d:Dev),ds[k]?=some d->d.index=n->(∀ x∈ds.take k,x.index≠n)->place ds n=k
 | [],n,k,d,h,_,_=>by simp at h
 | x::t,n,0,d,h,e,_=>by simp at h;subst h;simp[place,e]
 | x::t,n,k+1,d,h,e,hn=>by
  have h1:x.index≠n:=hn x (by simp);have h2:=zB9 t n k d (by simpa using h) e (fun y hy=>hn y (by simp[hy]));unfold place;rw[if_neg h1,h2];split<;>omega
theorem zCA : ∀ (ds:List Dev) (n:Int),(∀ x∈ds,x.index≠n)->place ds n=-1
 | [],n,_=>rfl
 | x::t,n,h=>by
  unfold place;rw[if_neg (h x (by simp)),zCA t n (fun y hy=>h y (by simp[hy]))];simp
theorem zCm (a:Option Addr)(cap:Nat)(ds:List Dev)(n:Int)(w:World)(hl:Devs w a cap ds):
  Calls Tryz.prog 34 #[.slice a ds.length cap,.int .i64 n] w fun e w'=>e=.returned (.int .i64 (place ds n))/\w=w':=by
 have hm:=hl.lenmax
 go_enter Tryz.func34,Tryz.ntmps34
 go_wp2
 go_loop [5] (fun i=>∃ k:Nat,k<=ds.length/\i=.int .i64 k/\Hid (∀ x∈ds.take k,x.index≠n)) (fun i=>ds.length-(intOf i).toNat)
 case atStart=>exact⟨0,by omega,rfl,by unfold Hid;simp⟩
 case round=>
  obtain⟨k,hk,rfl,hno⟩:=hrel;by_cases hlt:k<ds.length
  ·obtain⟨b,off,d,rfl,hx,hc⟩:=hl.at hlt;have Hx:=Lib.hid hx;have c0:=hc 0 (by omega);simp only[Dev.cell,Nat.add_zero]at c0;clear hx hc;by_cases hxn:d.index=n
   ·have hb:(d.index==n)=true:=by simpa using hxn
    go_wp2;go_ret;exact⟨zAI (zB9 ds n k d Hx.out hxn hno.out).symm,rfl⟩
   ·have hb:(d.index==n)=false:=by simpa using hxn
    go_wp2
    go_round
    case rel=>
     refine⟨k+1,by omega,by go_num,?_⟩;unfold Hid;intro x hx;rw[List.take_add_one,Hx.out]at hx;rcases List.mem_append.1 hx with h | h
     ·exact hno.out x h
     ·simp at h;subst h;exact hxn
    case measure=>simp[intOf];omega
  ·obtain rfl:k=ds.length:=by omega
   have h:=hno.out;rw[List.take_of_length_le (by omega)]at h;go_wp2;go_ret;exact⟨zAI (zCA _ _ h).symm,rfl⟩
def devOf (ds:List Dev)(n:Int):Dev:=if place ds n<0 then Dev.zero else (ds[(place ds n).toNat]?).getD Dev.zero
theorem zFZ (a:Option Addr)(cap:Nat)(ds:List Dev)(n:Int)(w:World)(hl:Devs w a cap ds):
  Calls Tryz.prog 21 #[.agg #[.slice a ds.length cap],.int .i64 n] w fun e w'=>e=.returned (.tuple #[.agg (devOf ds n).vals,.bool (decide (0<=place ds n))])/\Fr No w w':=by
 have hx:Fr No w (w.alloc (.cells #[.slice a ds.length cap] 28)):=(Fr.refl _ _).alloc _;have hy:Fr No w ((w.alloc (.cells #[.slice a ds.length cap] 28)).alloc (.cells #[.int .i64 0,.int .i64 0,.string ByteArray.empty,.string ByteArray.empty,.string ByteArray.empty,.string ByteArray.empty,.string ByteArray.empty,.int .i64 0,.int .i64 0,.slice none 0 0] 34)):=hx.alloc _;have hly:=hl.no hy (fun _=>id)
 go_enter Tryz.func21,Tryz.ntmps21
 go_wp2_with fail
 refine(zCm a cap ds n _ hly).mono ?_;rintro e w1 ⟨rfl,rfl⟩;obtain⟨p,hp⟩:∃ p,p=place ds n:=⟨_,rfl⟩
 have hlo:=zFb ds n;rw[<-hp]at hlo;rw[<-hp];have Hp:=Lib.hid hp;clear hp;by_cases hneg:p<0
 ·have hd:devOf ds n=Dev.zero:=by unfold devOf;rw[if_pos (by rw[<-Hp.out];exact hneg)]
  have Hd:=Lib.hid hd;clear hd;have Hb:Hid (decide (0<=place ds n)=false):=decide_eq_false (by rw[<-Hp.out];omega)
  go_wp2_with fail
  refine bodyPost_ret (v:=.tuple #[.agg Dev.zero.vals,.bool false]) (by simp[results,Tryz.results21,go_sem,Dev.vals,Dev.zero];rfl) rfl ?_;refine(fun (hfr:Fr No w _)=>⟨by rw[Hd.out,Hb.out],hfr⟩) ?_
  repeat (first | exact Fr.refl _ _ | refine Fr.alloc ?_ _ | refine Fr.setNew ?_ (by simp) _)
 ·obtain⟨k,rfl⟩:=Int.eq_ofNat_of_zero_le (by omega:0<=p);have hk:k<ds.length:=by omega
  obtain⟨b,off,d,rfl,hd,hc⟩:=hly.dev hk;have hdd:devOf ds n=d:=by
   unfold devOf;rw[if_neg (by rw[<-Hp.out];exact hneg),<-Hp.out,Int.toNat_natCast,hd];rfl
  have Hd:=Lib.hid hdd;have Hb:Hid (decide (0<=place ds n)=true):=decide_eq_true (by rw[<-Hp.out];omega);clear hdd hd;obtain⟨c0,c1,c2,c3,c4,c5,c6,c7,c8,c9⟩:=hc
  go_wp2_with fail
  refine bodyPost_ret (v:=.tuple #[.agg d.vals,.bool true]) (by simp[results,Tryz.results21,go_sem,Dev.vals]) rfl ?_;refine(fun (hfr:Fr No w _)=>⟨by rw[Hd.out,Hb.out],hfr⟩) ?_
  repeat (first | exact Fr.refl _ _ | refine Fr.alloc ?_ _ | refine Fr.setNew ?_ (by simp) _)
theorem Fr.setAt {b i:Nat}{a w:World}(h:Fr (Is b) a w)(v:Value):Fr (Is b) a (w.setCell ⟨b,i,none⟩ v):=h.setCell (p:=⟨b,i,none⟩) (fun _=>rfl) v
theorem zAy {W:World}{b:Nat}{cs:Array Value}{T:TypeId}(h:W.heap[b]?=some (.cells cs T))(hs:cs.size=10)(p:Dev):
  ((((((((((W.setCell ⟨b,0,none⟩ (.int .i64 p.index)).setCell ⟨b,1,none⟩ (.int .i64 p.parent)).setCell ⟨b,2,none⟩ (.string p.name)).setCell ⟨b,3,none⟩ (.string p.orig)).setCell ⟨b,4,none⟩ (.string p.sub)).setCell ⟨b,5,none⟩ (.string p.drv)).setCell ⟨b,6,none⟩ (.string p.ali)).setCell ⟨b,7,none⟩ (.int .i64 p.kind)).setCell ⟨b,8,none⟩ (.int .i64 p.num)).setCell ⟨b,9,none⟩ (.slice p.aa p.an p.ac)).heap[b]?=some (.cells p.vals T)/\Fr (Is b) W ((((((((((W.setCell ⟨b,0,none⟩ (.int .i64 p.index)).setCell ⟨b,1,none⟩ (.int .i64 p.parent)).setCell ⟨b,2,none⟩ (.string p.name)).setCell ⟨b,3,none⟩ (.string p.orig)).setCell ⟨b,4,none⟩ (.string p.sub)).setCell ⟨b,5,none⟩ (.string p.drv)).setCell ⟨b,6,none⟩ (.string p.ali)).setCell ⟨b,7,none⟩ (.int .i64 p.kind)).setCell ⟨b,8,none⟩ (.int .i64 p.num)).setCell ⟨b,9,none⟩ (.slice p.aa p.an p.ac)):=by
 refine⟨?_,Fr.setAt (Fr.setAt (Fr.setAt (Fr.setAt (Fr.setAt (Fr.setAt (Fr.setAt (Fr.setAt (Fr.setAt (Fr.setAt (Fr.refl _ _) _) _) _) _) _) _) _) _) _) _⟩;obtain⟨l⟩:=cs
 match l,hs with
 | [_,_,_,_,_,_,_,_,_,_],_=>
  have h0:=zF h 0 (.int .i64 p.index);have h1:=zF h0 1 (.int .i64 p.parent);have h2:=zF h1 2 (.string p.name);have h3:=zF h2 3 (.string p.orig);have h4:=zF h3 4 (.string p.sub);have h5:=zF h4 5 (.string p.drv);have h6:=zF h5 6 (.string p.ali);have h7:=zF h6 7 (.int .i64 p.kind);have h8:=zF h7 8 (.int .i64 p.num);have h9:=zF h8 9 (.slice p.aa p.an p.ac);simp only[List.setIfInBounds_toArray,List.set_cons_zero,List.set_cons_succ]at h9;exact h9
def OkN (s:ByteArray):Prop:=s.size<=32/\∀ b∈s.data.toList,b≠47
def RetB (e:Ending):Prop:=∃ b,e=.returned (.bool b)
theorem RetB.mk (b:Bool):RetB (.returned (.bool b)):=⟨b,rfl⟩
def RetIf (p:Prop)(e:Ending):Prop:=∃ b,e=.returned (.bool b)/\(b=true->p)
theorem t_in (s set:ByteArray)(w:World)(hs:s.size<=maxLen):
  Calls Tryz.prog 115 #[.string s,.string set] w fun e w'=>RetB e/\w=w':=by
 have hm:s.size<=9223372036854775807:=by unfold maxLen at hs;omega
 go_enter Tryz.func115,Tryz.ntmps115
 go_wp2
 go_loop [5] (fun i=>∃ k:Nat,k<=s.size/\i=.int .i64 k) (fun i=>s.size-(intOf i).toNat)
 case atStart=>exact⟨0,by omega,rfl⟩
 case round=>
  obtain⟨k,hk,rfl⟩:=hrel;by_cases hlt:k<s.size
  ·go_wp2_with fail
   refine(Tryz.strings_IndexByte set _ _).mono ?_;rintro e w1 ⟨rfl,rfl⟩;generalize Lib.indexByte _ _=q;by_cases hq:q<0
   ·go_wp2;go_ret;exact⟨RetB.mk false,rfl⟩
   ·go_wp2
    go_round
    case rel=>exact⟨k+1,by omega,by go_num⟩
    case measure=>simp[intOf];omega
  ·go_wp2;go_ret;exact⟨RetB.mk true,rfl⟩
theorem zEv (s:ByteArray)(w:World)(hs:s.size<=maxLen):
  Calls Tryz.prog 116 #[.string s] w fun e w'=>RetB e/\w=w':=by
 have hm:s.size<=9223372036854775807:=by unfold maxLen at hs;omega
 go_enter Tryz.func116,Tryz.ntmps116
 go_wp2
 go_loop [3] (fun i=>∃ k:Nat,k<=s.size/\i=.int .i64 k) (fun i=>s.size-(intOf i).toNat)
 case atStart=>exact⟨0,by omega,rfl⟩
 case round=>
  obtain⟨k,hk,rfl⟩:=hrel;by_cases hlt:k<s.size
  ·go_wp2
   all_goals first
    | (go_ret;exact⟨RetB.mk false,rfl⟩)
    | (go_round
       case rel=>exact⟨k+1,by omega,by go_num⟩
       case measure=>simp[intOf];omega)
  ·go_wp2;go_ret;exact⟨RetB.mk true,rfl⟩
def inSet (s set:ByteArray):Bool:=s.data.toList.all set.data.toList.contains
def nameBA : ByteArray:=⟨#[65,66,67,68,69,70,71,72,73,74,75,76,77,78,79,80,81,82,83,84,85,86,87,88,89,90,97,98,99,100,101,102,103,104,105,106,107,108,109,110,111,112,113,114,115,116,117,118,119,120,121,122,48,49,50,51,52,53,54,55,56,57,95,46,58,43,45,33]⟩
def isName (s:ByteArray):Bool:=!decide (s.toList=[])&&decide (s.size<=32)&&inSet s nameBA&&!decide (s.toList=[46])&&!decide (s.toList=[46,46])
theorem zA4 (p:UInt8->Bool)(l:List UInt8)(k:Nat)(x:UInt8)(h:l[k]?=some x)(h1:(l.take k).all p=true)(h2:p x=true):(l.take (k+1)).all p=true:=by
 rw[List.take_add_one,h,List.all_append,h1];simp[h2]
theorem zGA (p:UInt8->Bool)(l:List UInt8)(k:Nat)(x:UInt8)(h:l[k]?=some x)(h2:p x=false):l.all p=false:=by
 rw[List.all_eq_false];exact⟨x,List.mem_of_getElem? h,by simp[h2]⟩
theorem v_in (s set:ByteArray)(w:World)(hs:s.size<=maxLen):
  Calls Tryz.prog 115 #[.string s,.string set] w fun e w'=>e=.returned (.bool (inSet s set))/\w=w':=by
 have hm:s.size<=9223372036854775807:=by unfold maxLen at hs;omega
 go_enter Tryz.func115,Tryz.ntmps115
 go_wp2
 go_loop [5] (fun i=>∃ k:Nat,k<=s.size/\i=.int .i64 k/\Hid ((s.data.toList.take k).all set.data.toList.contains=true)) (fun i=>s.size-(intOf i).toNat)
 case atStart=>exact⟨0,by omega,rfl,by unfold Hid;simp⟩
 case round=>
  obtain⟨k,hk,rfl,hno⟩:=hrel;by_cases hlt:k<s.size
  ·go_wp2_with fail
   refine(Tryz.strings_IndexByte set _ _).mono ?_;rintro e w1 ⟨rfl,rfl⟩;have hx:s.data.toList[k]?=some s[k]:=by
    rw[Array.getElem?_toList];exact Array.getElem?_eq_getElem (by simpa using hlt)
   have hq:set.data.toList.contains s[k]=decide (0<=Lib.indexByte set.data.toList ((s[k].toNat:Int)).toNat.toUInt8):=by
    rw[Lib.contains_iff_indexByte];simp
   have Hx:=Lib.hid hx;have Hq:=Lib.hid hq;clear hx hq;generalize Lib.indexByte _ _=q at *;by_cases hq0:q<0
   ·go_wp2;go_ret;refine⟨zK ?_,rfl⟩;exact(zGA _ _ _ _ Hx.out (by rw[Hq.out];simp;omega)).symm
   ·go_wp2
    go_round
    case rel=>exact⟨k+1,by omega,by go_num,zA4 _ _ _ _ Hx.out hno.out (by rw[Hq.out];simp;omega)⟩
    case measure=>simp[intOf];omega
  ·go_wp2;go_ret;refine⟨zK ?_,rfl⟩;have:=hno.out;rw[List.take_of_length_le (by simp;omega)]at this;unfold inSet;rw[this]
theorem zJc (s:ByteArray)(w:World)(hs:s.size<=maxLen):
  Calls Tryz.prog 67 #[.string s] w fun e w'=>e=.returned (.bool (isName s))/\w=w':=by
 have hm:s.size<=9223372036854775807:=by unfold maxLen at hs;omega
 by_cases h0:s.toList=[]
 ·have H:Hid (isName s=false):=by unfold Hid isName;simp[h0]
  go_enter Tryz.func67,Tryz.ntmps67
  go_wp2_with fail
  all_goals (go_ret;exact⟨zK H.out.symm,rfl⟩)
 ·by_cases h1:s.size<=32
  ·go_enter Tryz.func67,Tryz.ntmps67
   go_wp2_with fail
   refine(v_in s _ _ hs).mono ?_;rintro e w1 ⟨rfl,rfl⟩;generalize hb:inSet s _=b;have hb':inSet s nameBA=b:=hb;clear hb;by_cases h2:s.toList=[46]
   ·have H:Hid (isName s=false):=by unfold Hid isName;simp[h2]
    cases b
    all_goals
     go_wp2_with fail
     all_goals (go_ret;exact⟨zK H.out.symm,rfl⟩)
   ·by_cases h3:s.toList=[46,46]
    ·have H:Hid (isName s=false):=by unfold Hid isName;simp[h3]
     cases b
     all_goals
      go_wp2_with fail
      all_goals (go_ret;exact⟨zK H.out.symm,rfl⟩)
    ·have H:Hid (isName s=b):=by unfold Hid isName;simp[h0,h1,h2,h3,hb']
     have e0:s.toList.isEmpty=false:=by simp[h0]
     have e2:(s.toList==[46])=false:=by simp[h2]
     have e3:(s.toList==[46,46])=false:=by simp[h3]
     clear hb' h0 h2 h3;cases b
     all_goals
      go_wp2_with fail
      all_goals (go_ret;exact⟨zK H.out.symm,rfl⟩)
  ·have H:Hid (isName s=false):=by unfold Hid isName;simp[h1]
   go_enter Tryz.func67,Tryz.ntmps67
   go_wp2_with fail
   all_goals (go_ret;exact⟨zK H.out.symm,rfl⟩)
theorem zEa {s:ByteArray}(h:isName s=true):OkN s:=by
 unfold isName at h;simp only[Bool.and_eq_true,decide_eq_true_eq]at h;obtain⟨⟨⟨⟨_,h1⟩,h2⟩,_⟩,_⟩:=h;refine⟨h1,fun b hb e=>?_⟩;unfold inSet at h2;rw[List.all_eq_true]at h2;have:=h2 b hb;subst e;revert this;decide
theorem zCc (s:ByteArray)(w:World)(hs:s.size<=maxLen):
  Calls Tryz.prog 67 #[.string s] w fun e w'=>RetIf (OkN s) e/\w=w':=
 (zJc s w hs).mono fun e w' ⟨h1,h2⟩=>⟨⟨_,h1,zEa⟩,h2⟩
theorem zJD (s:ByteArray)(w:World)(hs:s.size<=maxLen):
  Calls Tryz.prog 68 #[.string s] w fun e w'=>RetB e/\w=w':=by
 have hm:s.size<=9223372036854775807:=by unfold maxLen at hs;omega
 go_enter Tryz.func68,Tryz.ntmps68
 go_wp2_with fail
 refine(zEv s _ hs).mono ?_;rintro e w1 ⟨⟨b,rfl⟩,rfl⟩;cases b
 all_goals
  go_wp2
  all_goals
   go_ret;exact⟨RetB.mk _,rfl⟩
theorem zDW (s:ByteArray)(c:UInt8)(w:World):
  Calls Tryz.prog 117 #[.string s,.string ⟨#[c]⟩] w fun e w'=>RetB e/\w=w':=
 (Tryz.strings_Contains_one s c w).mono fun e w' ⟨h1,h2⟩=>⟨⟨_,h1⟩,h2.symm⟩
theorem zCd (s:ByteArray)(w:World)(hs:s.size<=maxLen):
  Calls Tryz.prog 69 #[.string s] w fun e w'=>RetB e/\w=w':=by
 have hm:s.size<=9223372036854775807:=by unfold maxLen at hs;omega
 go_enter Tryz.func69,Tryz.ntmps69
 go_wp2_with fail
 refine(zCc s _ hs).mono ?_;rintro e w1 ⟨⟨b,rfl,_⟩,rfl⟩;by_cases h15:s.size<=15
 all_goals
  cases b
  all_goals
   go_wp2_with fail
 all_goals first
  | (go_ret;exact⟨RetB.mk _,rfl⟩)
  | (refine(zDW s 58 _).mono ?_
     rintro e w1 ⟨⟨q,rfl⟩,rfl⟩;cases q
     all_goals
      go_wp2_with fail
     all_goals first
      | (go_ret;exact⟨RetB.mk _,rfl⟩)
      | (refine(zDW s 33 _).mono ?_
         rintro e w1 ⟨⟨q,rfl⟩,rfl⟩
         go_wp2_with fail
         go_ret;exact⟨RetB.mk _,rfl⟩))
end Go.Proofs.YtmajgldaplkpiaaGreatDoor
