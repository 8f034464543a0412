import Derived.Test.YtmajgldaplkpiaaGreatDoorQ1
import Derived.Laws.Rows
import Derived.OrdersHeld
namespace Go.Proofs.YtmajgldaplkpiaaGreatDoor
open Go.RowKit
set_option linter.unusedVariables false
set_option maxRecDepth 100000
set_option maxHeartbeats 1000000
def bits (f:UInt8->Bool):Array Value:=Array.ofFn (n:=256) fun i=>.bool (f (UInt8.ofNat i.val))
def allB (f:UInt8->Bool)(s:ByteArray):Bool:=s.data.toList.all f
theorem zl (f:UInt8->Bool):(bits f).size=256:=by simp[bits]
theorem zCV (g:UInt8->Bool):(bits g).all (·.oneCell')=true:=by
 rw[Array.all_eq_true_iff_forall_mem];intro v hv;obtain⟨i,rfl⟩:=(Array.mem_ofFn).1 hv;rfl
theorem zH5 (f:UInt8->Bool)(c:UInt8):(bits f)[c.toNat]?=some (.bool (f c)):=by
 have:c.toNat<256:=c.toNat_lt;rw[Array.getElem?_eq_getElem (by rw[zl];exact this)];simp[bits]
theorem zI4 (f:UInt8->Bool)(c:UInt8):(bits f).setIfInBounds c.toNat (.bool true)=bits (fun x=>f x||x==c):=by
 have:c.toNat<256:=c.toNat_lt;apply Array.ext
 ·simp[zl]
 ·intro i h1 h2;rw[zl]at h2;rw[Array.getElem_setIfInBounds (by rw[zl];exact h2)];simp only[bits,Array.getElem_ofFn];by_cases e:c.toNat=i
  ·subst e;simp
  ·rw[if_neg e];have:(UInt8.ofNat i==c)=false:=by
    rw[beq_eq_false_iff_ne];intro h;subst h;apply e;simp;omega
   rw[this,Bool.or_false]
theorem zFf (f:UInt8->Bool)(s:ByteArray)(w:World)(hs:s.size<=maxLen):
  Calls Tryz.prog 132 #[.agg (bits f),.string s] w fun e w'=>e=.returned (.bool (allB f s))/\Fr No w w':=by
 have hm:s.size<=9223372036854775807:=by unfold maxLen at hs;omega
 have hx:Fr No w (w.alloc (.cells (bits f) 190)):=(Fr.refl _ _).alloc _;have hb:=zD w (.cells (bits f) 190);have c0:∀ c:UInt8,(w.alloc (.cells (bits f) 190)).cell? ⟨w.heap.size,c.toNat,none⟩=some (.bool (f c)):=fun c=>(zB hb _).trans (zH5 f c)
 go_enter Tryz.func132,Tryz.ntmps132
 go_wp2;generalize w.alloc (.cells (bits f) 190)=W0 at *
 go_loop [8] (fun i=>∃ k:Nat,k<=s.size/\i=.int .i64 k/\Hid ((s.data.toList.take k).all f=true)) (fun i=>s.size-(intOf i).toNat)
 case atStart=>exact⟨0,by omega,rfl,by unfold Hid;simp⟩
 case round=>
  obtain⟨k,hk,rfl,hno⟩:=hrel;by_cases hlt:k<s.size
  ·have hx':s.data.toList[k]?=some s[k]:=by
    rw[Array.getElem?_toList];exact Array.getElem?_eq_getElem (by simpa using hlt)
   have Hx:=Lib.hid hx';have hc1:((s[k].toNat:Nat):Int)<256:=by have:=s[k].toNat_lt;omega
   have hc:=c0 s[k];rcases hq:f s[k]with _ | _
   ·rw[hq]at hc;have Hq:=Lib.hid hq;clear hq hx' c0;go_wp2;go_ret;exact⟨zK (zGA _ _ _ _ Hx.out Hq.out).symm,hx⟩
   ·rw[hq]at hc;have Hq:=Lib.hid hq;clear hq hx' c0;go_wp2
    go_round
    case rel=>exact⟨k+1,by omega,by go_num,zA4 _ _ _ _ Hx.out hno.out Hq.out⟩
    case measure=>simp[intOf];omega
  ·go_wp2;go_ret;refine⟨zK ?_,hx⟩;have:=hno.out;rw[List.take_of_length_le (by simp;omega)]at this;unfold allB;rw[this]
theorem zAn (f:UInt8->Bool)(s:ByteArray)(w:World)(hs:s.size<=maxLen):
  Calls Tryz.prog 131 #[.agg (bits f),.string s] w fun e w'=>e=.returned (.agg (bits fun c=>f c||s.data.toList.contains c))/\Fr No w w':=by
 have hm:s.size<=9223372036854775807:=by unfold maxLen at hs;omega
 have hx:Fr No w (w.alloc (.cells (bits f) 190)):=(Fr.refl _ _).alloc _;have hb:=zD w (.cells (bits f) 190);have hi:(Tryz.prog.info? 190).map (·.size)=some 256:=by kernel_rfl
 have hz:Tryz.zeroCells190.size=256:=by kernel_rfl
 have p0:=zL w (.cells (bits f) 190) (.cells Tryz.zeroCells190 190);have p1:=zP w (.cells (bits f) 190) (.cells Tryz.zeroCells190 190);have h2:Fr No w ((w.alloc (.cells (bits f) 190)).alloc (.cells Tryz.zeroCells190 190)):=hx.alloc _;clear hx hb
 go_enter Tryz.func131,Tryz.ntmps131
 go_wp2;generalize (w.alloc (.cells (bits f) 190)).alloc (.cells Tryz.zeroCells190 190)=W0 at *
 go_loopw [8] (fun i wr=>∃ k:Nat,k<=s.size/\i=.int .i64 k/\Hid (wr.heap[w.heap.size]?=some (.cells (bits fun c=>f c||(s.data.toList.take k).contains c) 190))/\Hid (wr.heap[w.heap.size+1]?=some (.cells Tryz.zeroCells190 190))/\Fr No w wr) (fun i _=>s.size-(intOf i).toNat)
 case atStart=>exact⟨0,by omega,rfl,by unfold Hid;simpa using p0,p1,h2⟩
 case round=>
  obtain⟨k,hk,rfl,hb0,hb1,hfr⟩:=hrel;clear p0 p1 h2;by_cases hlt:k<s.size
  ·have hx':s.data.toList[k]?=some s[k]:=by
    rw[Array.getElem?_toList];exact Array.getElem?_eq_getElem (by simpa using hlt)
   have Hx:=Lib.hid hx';have hc1:((s[k].toNat:Nat):Int)<256:=by have:=s[k].toNat_lt;omega
   have c0:=(zB hb0.out s[k].toNat).trans (zH5 _ _);have f0:=zC hb0.out s[k].toNat;have hfr1:Fr No w (wr.setCell ⟨w.heap.size,s[k].toNat,none⟩ (.bool true)):=hfr.setCell (by simp) _;have q0:=zF hb0.out s[k].toNat (.bool true);rw[zI4]at q0;have q1:=(Fr.setAt (Fr.refl (Is w.heap.size) wr) (i:=s[k].toNat) (.bool true)).heap hb1.out (fun e=>by unfold Is at e;omega);have Q:=Lib.hid (And.intro q0 (And.intro q1 hfr1));clear q0 q1 hfr1 hx';go_wp2
   go_roundw
   case rel=>
    refine⟨k+1,by omega,by go_num,?_,Q.out.2.1,Q.out.2.2⟩;unfold Hid;rw[Q.out.1,List.take_add_one,Hx.out]
    congr 3
    funext c
    have e:(c==s[k])=decide (c=s[k]):=by by_cases h:c=s[k]<;>simp[h]
    simp[Bool.or_assoc,e]
   case measure=>simp[intOf];omega
  ·obtain rfl:k=s.size:=by omega
   have q0:=hb0.out;rw[List.take_of_length_le (by simp)]at q0;have q0':=Lib.hid q0;clear hb0 q0
   go_wp2_with (first
    | (refine wpList_load_row rfl 190 _ rfl w.heap.size rfl 190 _ (0,0) _ q0'.out Tryz.underlying190 rfl (by rw[zl];exact hi) ?_)
    | (refine wpList_store_row rfl 190 _ _ rfl (w.heap.size+1) _ rfl rfl 190 _ hb1.out (by rw[zl];exact hi) (by rw[zl];exact hz) (zCV _) ?_))
   have hg:=setRow_heap wr (w.heap.size+1) _ (bits fun c=>f c||s.data.toList.contains c) 190 (0,0) hb1.out;refine bodyPost_ret (v:=.agg (bits fun c=>f c||s.data.toList.contains c)) (results_cell_row rfl _ _ (w.heap.size+1) 190 _ (0,0) _ rfl hg Tryz.underlying190 rfl (by rw[zl];exact hi)) rfl ?_;refine⟨rfl,hfr.step (T:=Is (w.heap.size+1)) ⟨rfl,rfl,rfl,by simp,fun b _ hb=>setRow_other _ _ _ _ (fun e=>hb e)⟩ (fun b hb e=>by unfold Is at e;omega)⟩
def zAc : UInt8->Bool:=fun c=>((((false||[65,66,67,68,69,70,71,72,73,74,75,76,77,78,79,80,81,82,83,84,85,86,87,88,89,90].contains c)||[97,98,99,100,101,102,103,104,105,106,107,108,109,110,111,112,113,114,115,116,117,118,119,120,121,122].contains c)||[48,49,50,51,52,53,54,55,56,57].contains c)||[95,46,58,43,45].contains c)
theorem zGu : Tryz.zeroCells190=bits (fun _=>false):=by kernel_rfl
theorem zGY (s:ByteArray)(w:World)(hs:s.size<=maxLen):
  Calls Tryz.prog 131 #[.agg Tryz.zeroCells190,.string s] w fun e w'=>e=.returned (.agg (bits fun c=>false||s.data.toList.contains c))/\Fr No w w':=by
 rw[zGu];exact zAn _ s w hs
def zG1 : ByteArray:=⟨#[65,66,67,68,69,70,71,72,73,74,75,76,77,78,79,80,81,82,83,84,85,86,87,88,89,90]⟩
theorem zE7 (w:World):
  Calls Tryz.prog 191 #[.string ⟨#[65,66,67,68,69,70,71,72,73,74,75,76,77,78,79,80,81,82,83,84,85,86,87,88,89,90]⟩] w fun e w'=>e=.returned (.string ⟨#[97,98,99,100,101,102,103,104,105,106,107,108,109,110,111,112,113,114,115,116,117,118,119,120,121,122]⟩)/\Fr No w w':=by
 have h:∀ b∈zG1.data.toList,b.toNat<128:=by decide
 refine(Tryz.strings_ToLower_ascii zG1 w (by decide) (fun j b hb=>h b (List.mem_of_getElem? hb))).mono ?_;rintro e w' ⟨rfl,hb⟩;exact⟨by congr 2,Fr.of_below_size hb⟩
theorem zCt (w:World):
  Calls Tryz.prog 130 #[] w fun e w'=>e=.returned (.agg (bits zAc))/\Fr No w w':=by
 have hi:(Tryz.prog.info? 190).map (·.size)=some 256:=by kernel_rfl
 have hz:Tryz.zeroCells190.size=256:=by kernel_rfl
 have h0:Fr No w (w.alloc (.cells Tryz.zeroCells190 190)):=(Fr.refl _ _).alloc _;have p0:=zD w (.cells Tryz.zeroCells190 190);have P0:=Lib.hid (And.intro p0 h0);clear p0 h0
 go_enter Tryz.func130,Tryz.ntmps130
 go_wp2_with fail
 refine(zGY _ _ (by decide)).mono ?_;rintro e w1 ⟨rfl,hf1⟩
 go_wp2_with fail
 refine(zE7 _).mono ?_;rintro e w2 ⟨rfl,hf2⟩
 go_wp2_with fail
 refine(zAn _ _ _ (by decide)).mono ?_;rintro e w3 ⟨rfl,hf3⟩
 go_wp2_with fail
 refine(zAn _ _ _ (by decide)).mono ?_;rintro e w4 ⟨rfl,hf4⟩
 go_wp2_with fail
 refine(zAn _ _ _ (by decide)).mono ?_;rintro e w5 ⟨rfl,hf5⟩;have hfr:=((((P0.out.2.step hf1 (fun _ _ h=>h)).step hf2 (fun _ _ h=>h)).step hf3 (fun _ _ h=>h)).step hf4 (fun _ _ h=>h)).step hf5 (fun _ _ h=>h);have p5:=hf5.heap (hf4.heap (hf3.heap (hf2.heap (hf1.heap P0.out.1 id) id) id) id) id;obtain⟨F,hF⟩:∃ F,F=zAc:=⟨_,rfl⟩
 go_wp2_with (refine wpList_store_row rfl 190 _ _ rfl w.heap.size (bits zAc) rfl rfl 190 _ p5 (by rw[zl];exact hi) (by rw[zl];exact hz) (zCV _) ?_)
 have hg:=setRow_heap w5 w.heap.size _ (bits zAc) 190 (0,0) p5;refine bodyPost_ret (v:=.agg (bits zAc)) (results_cell_row rfl _ _ w.heap.size 190 _ (0,0) _ rfl hg Tryz.underlying190 rfl (by rw[zl];exact hi)) rfl ?_;exact⟨rfl,hfr.step (T:=Is w.heap.size) ⟨rfl,rfl,rfl,by simp,fun b _ hb=>setRow_other _ _ _ _ (fun e=>hb e)⟩ (fun b hb e=>by unfold Is at e;omega)⟩
theorem zEU (s:ByteArray)(w:World):
  Calls Tryz.prog 129 #[.string s] w fun e w'=>e=.returned (.bool (decide (s.toList=[46])||decide (s.toList=[46,46])))/\w=w':=by
 by_cases h2:s.toList=[46]
 ·have H:Hid ((decide (s.toList=[46])||decide (s.toList=[46,46]))=true):=by unfold Hid;simp[h2]
  go_enter Tryz.func129,Tryz.ntmps129
  go_wp2_with fail
  all_goals (go_ret;exact⟨zK H.out.symm,rfl⟩)
 ·by_cases h3:s.toList=[46,46]
  ·have H:Hid ((decide (s.toList=[46])||decide (s.toList=[46,46]))=true):=by unfold Hid;simp[h3]
   go_enter Tryz.func129,Tryz.ntmps129
   go_wp2_with fail
   all_goals (go_ret;exact⟨zK H.out.symm,rfl⟩)
  ·have H:Hid ((decide (s.toList=[46])||decide (s.toList=[46,46]))=false):=by unfold Hid;simp[h2,h3]
   have e2:(s.toList==[46])=false:=by simp[h2]
   have e3:(s.toList==[46,46])=false:=by simp[h3]
   clear h2 h3
   go_enter Tryz.func129,Tryz.ntmps129
   go_wp2_with fail
   all_goals (go_ret;exact⟨zK H.out.symm,rfl⟩)
theorem zFI (s:ByteArray):s.data.toList.all (fun c=>zAc c||[33].contains c)=inSet s nameBA:=by
 unfold inSet
 congr 1
 funext c
 have:nameBA.data.toList=(((([65,66,67,68,69,70,71,72,73,74,75,76,77,78,79,80,81,82,83,84,85,86,87,88,89,90]++[97,98,99,100,101,102,103,104,105,106,107,108,109,110,111,112,113,114,115,116,117,118,119,120,121,122])++[48,49,50,51,52,53,54,55,56,57])++[95,46,58,43,45])++[33]):=rfl;rw[this];unfold zAc;simp only[List.contains_eq_mem,List.mem_append,Bool.false_or,Bool.decide_or]
theorem zAF (s:ByteArray)(w:World)(hs:s.size<=maxLen):
  Calls Tryz.prog 86 #[.string s] w fun e w'=>e=.returned (.bool (isName s))/\Fr No w w':=by
 have hm:s.size<=9223372036854775807:=by unfold maxLen at hs;omega
 by_cases h0:s.toList=[]
 ·have H:Hid (isName s=false):=by unfold Hid isName;simp[h0]
  go_enter Tryz.func86,Tryz.ntmps86
  go_wp2_with fail
  all_goals (go_ret;exact⟨zK H.out.symm,Fr.refl _ _⟩)
 ·by_cases h1:s.size<=32
  ·go_enter Tryz.func86,Tryz.ntmps86
   go_wp2_with fail
   refine(zEU s _).mono ?_;rintro e w1 ⟨rfl,rfl⟩;rcases hd:(decide (s.toList=[46])||decide (s.toList=[46,46]))with _ | _
   ·have hd':s.toList≠[46]/\s.toList≠[46,46]:=by simpa using hd
    have H:Hid (isName s=inSet s nameBA):=by unfold Hid isName;simp[h0,h1,hd'.1,hd'.2]
    clear hd hd'
    go_wp2_with fail
    refine(zCt _).mono ?_;rintro e w2 ⟨rfl,hf2⟩
    go_wp2_with fail
    refine(zAn zAc _ _ (by decide)).mono ?_;rintro e w3 ⟨rfl,hf3⟩
    go_wp2_with fail
    refine(zFf _ s _ hs).mono ?_;rintro e w4 ⟨rfl,hf4⟩;have hfr:=(hf2.step hf3 (fun _ _ h=>h)).step hf4 (fun _ _ h=>h);have hb:allB (fun c=>zAc c||decide (c=33)) s=isName s:=by
     rw[H.out,<-zFI];unfold allB
     congr 1
     funext c
     simp
    have e0:s.toList.isEmpty=false:=by simp[h0]
    clear h0;have Hb:=Lib.hid hb;clear hb H;generalize hq:allB _ s=q;have Hq:Hid (q=isName s):=hq.symm.trans Hb.out;clear hq Hb;cases q
    all_goals
     go_wp2_with fail
     all_goals (go_ret;exact⟨zK Hq.out,hfr⟩)
   ·have H:Hid (isName s=false):=by
     unfold Hid isName;rw[Bool.or_eq_true,decide_eq_true_eq,decide_eq_true_eq]at hd;rcases hd with h | h<;>simp[h]
    clear hd
    go_wp2_with fail
    all_goals (go_ret;exact⟨zK H.out.symm,Fr.refl _ _⟩)
  ·have H:Hid (isName s=false):=by unfold Hid isName;simp[h1]
   go_enter Tryz.func86,Tryz.ntmps86
   go_wp2_with fail
   all_goals (go_ret;exact⟨zK H.out.symm,Fr.refl _ _⟩)
def OnlyN (K:Act->World->Prop):Exit->Act->World->Prop
 | .normal,a,w=>K a w
 | _,_,_=>False
theorem OnlyN.mk {K:Act->World->Prop}{a:Act}{w:World}(h:K a w):OnlyN K .normal a w:=h
def nth : List Oper->Nat->Option Oper
 | [],_=>none
 | o::_,0=>some o
 | _::l,n+1=>nth l n
theorem zFe : ∀ (l:List Oper) (i:Nat),nth l i=l[i]?
 | [],_=>by simp[nth]
 | _::_,0=>rfl
 | _::l,n+1=>by simp only[nth,List.getElem?_cons_succ];exact zFe l n
def zA7 : Op->Bool
 | .move _ | .assign _ | .pick _ _ _ | .load _ _ | .nilCheck _ | .binOp _ _ _ _ _ | .unOp _ _ _ | .convert _ _ _ | .fieldAddr _ _ _ | .field _ _ _ | .indexAddr _ _ _ | .index _ _ _
 | .lookup _ _ _ _ | .extract _ _ | .build _ _ | .slice _ _ _ _ _ | .makeInterface _ _ | .makeFunc _ _ _=>true
 | .call c=>match c.callee with | .builtin .len=>true | .builtin .cap=>true | _=>false
 | _=>false
def zGv (P:Program)(o:Oper)(a:Act)(C:World->Prop)(v:Value):Prop:=∀ W,C W->(execOp a.eval o).run P W=.ok (.value v) W
theorem zFX {P:Program}{s:Sem Value}{W W':World}{n:Next}(h:(do pure (Next.value (← s)):Sem Next).run P W=.ok n W'):∃ v,n=.value v:=by
 rw[Sem.run_bind]at h;cases hs:s.run P W with
 | ok x W''=>rw[hs]at h;simp only[Result.andThen_ok]at h;cases h;exact⟨x,rfl⟩
 | halt x W''=>rw[hs]at h;simp only[Result.andThen_halt]at h;cases h
theorem zCQ {P:Program}{α:Type}{s:Sem α}{f:α->Sem Next}{W W':World}{n:Next}(h:(s >>= f).run P W=.ok n W')(hf:∀ x W,(f x).run P W=.ok n W'->∃ v,n=.value v):∃ v,n=.value v:=by
 rw[Sem.run_bind]at h;cases hs:s.run P W with
 | ok x W''=>rw[hs]at h;simp only[Result.andThen_ok]at h;exact hf x _ h
 | halt x W''=>rw[hs]at h;simp only[Result.andThen_halt]at h;cases h
theorem zAz {P:Program}{x:Value}{W W':World}{n:Next}(h:(pure (Next.value x):Sem Next).run P W=.ok n W'):∃ v,n=.value v:=by
 cases h;exact⟨_,rfl⟩
theorem zBl {P:Program}{W W':World}{n:Next}(h:(runtimePanic .nilDeref:Sem Next).run P W=.ok n W'):∃ v,n=.value v:=by
 unfold runtimePanic at h;simp[Sem.run_bind,goPanic,program,Sem.run]at h
theorem zBh {P:Program}(ρ:Operand->Value)(o:Oper)(hv:zA7 o.op=true){W W':World}{n:Next}(h:(execOp ρ o).run P W=.ok n W'):∃ v,n=.value v:=by
 obtain⟨dst,op,type,pos,after,guard⟩:=o;cases op<;>simp only[zA7,Bool.false_eq_true]at hv
 case nilCheck x=>
  unfold execOp at h;dsimp only at h;split at h
  ·exact zBl h
  ·exact zBl h
  ·exact zBl h
  ·split at h
   ·exact zBl h
   ·refine zCQ h fun _ _ h=>zCQ h fun _ _ h=>?_
    split at h
    ·exact zCQ h fun _ _ h=>zAz h
    ·exact zAz h
   ·exact zAz h
  ·exact zAz h
 case call c=>
  obtain⟨callee,args,ats⟩:=c;cases callee with
  | value f=>simp at hv
  | invoke r m=>simp at hv
  | builtin b=>
   cases b<;>simp at hv
   all_goals
    exact zFX h
 case move x=>unfold execOp at h;exact zAz h
 case assign x=>unfold execOp at h;exact zAz h
 case pick c x y=>
  unfold execOp at h;dsimp only at h;refine zCQ h fun _ _ h=>?_
  split at h<;>exact zAz h
 all_goals (unfold execOp at h;exact zFX h)
structure Gr (T:Nat->Prop)(w:World) where
 W:World
 fr:Fr T w W
instance (T:Nat->Prop)(w:World):Inhabited (Gr T w):=⟨⟨w,Fr.refl _ _⟩⟩
def Cls (T:Nat->Prop)(w:World):World->Prop:=fun W=>∃ g:Gr T w,W=g.W
def wpSig (P:Program)(l:List Oper)(Q:Exit->Act->World->Prop)(T:Nat->Prop):List (Nat×Bool)->Act->World->Prop
 | [],a,w=>Q .normal a w
 | (i,mv)::σ,a,w=>match nth l i with
  | none=>False
  | some o=>
   if mv=true then wpList P l.toArray (OnlyN fun a' w'=>Fr T w w'/\wpSig P l Q T σ a' w') [o] a w
   else zA7 o.op=true/\(if Region.wanted o (yielded l.toArray a.tmps)=true then ∃ v,zGv P o a (Cls T w) v/\wpSig P l Q T σ (a.put o.dst v) w else wpSig P l Q T σ (a.put o.dst undef) w)
def schedB (ops:Array Oper):List (Nat×Bool)->Array Bool->Bool
 | [],listed=>(Region.ready .any ops listed).isEmpty
 | (i,mv)::σ,listed=>(if mv then Region.ready .any ops listed==[i]else (Region.ready .any ops listed).contains i&&Region.free .any ops listed i)&&schedB ops σ (listed.setIfInBounds i true)
section
variable {P:Program}{ops:Array Oper}{Q:Exit->Act->World->Prop}{md:Region.Mode}{S S':World->Prop}
theorem zDF (h:∀ W,S W->S' W):∀ (fuel:Nat) (listed:Array Bool) (a:Act) (w:World),wpAnyH P md ops Q S fuel listed a w->wpAnyH P md ops Q S' fuel listed a w
 | 0,_,_,_,hh=>hh
 | fuel+1,_,_,_,hh=>⟨hh.1,fun i hi=>wpOp_mono (fun a' w' h'=>⟨h _ h'.1,zDF h fuel _ a' w' h'.2⟩) (hh.2 i hi)⟩
theorem zGw {o:Oper}{a:Act}{w:World}{K K0:Act->World->Prop}(hh:o.wp P a w K (OnlyN K0)):o.wp P a w K Q:=by
 unfold Oper.wp at *;generalize (execOp a.eval o).run P w=r at *;cases r with
 | ok n w'=>
  cases n<;>simp only[Oper.upon]at hh ⊢
  case value=>exact hh
  case skip=>exact hh
  case defer=>exact hh
  case enter=>
   refine Calls.mono hh (fun e w'' he=>?_);cases e with
   | returned v=>exact he
   | panicked c=>exact he.elim
   | outgrown=>obtain⟨_,_,h⟩:=he;exact h.elim
  case row=>exact Rows.mono hh (fun _ _ he=>he)
 | halt x w'=>
  cases x<;>simp only[Oper.upon]at hh ⊢
  case panic=>exact hh.elim
theorem zF5 (T:Nat->Prop)(w:World):Cls T w w:=⟨⟨w,Fr.refl _ _⟩,rfl⟩
theorem zAf {l:List Oper}{T:Nat->Prop}(hs:Region.noSelect l.toArray=true):∀ (σ:List (Nat×Bool)) (listed:Array Bool) (a:Act) (w:World),
  schedB l.toArray σ listed=true->wpSig P l Q T σ a w->wpAnyH P .any l.toArray (OnlyN (Q .normal)) (Fr T w) σ.length listed a w
 | [],listed,a,w,hB,h=>wpAnyH_done (P:=P) (S:=Fr T w) (Q:=OnlyN (Q .normal)) (md:=.any) (by simpa [schedB]using hB) (show OnlyN (Q .normal) .normal a w from h) 0
 | (i,mv)::σ,listed,a,w,hB,h=>by
  simp only[schedB,Bool.and_eq_true]at hB;obtain⟨hB1,hB2⟩:=hB;simp only[wpSig]at h;cases hn:nth l i with
  | none=>rw[hn]at h;exact h.elim
  | some o=>
   rw[hn]at h;have ho:l.toArray[i]?=some o:=by rw[List.getElem?_toArray,<-zFe];exact hn
   cases mv with
   | true=>
    simp only[if_true,beq_iff_eq]at hB1 h;refine wpAnyH_all (rs:=[i]) hB1 (by simp) ?_;intro j hj;obtain rfl:j=i:=by simpa using hj
    have step:∀ a' w',(Fr T w w'/\wpSig P l Q T σ a' w')->Fr T w w'/\wpAnyH P .any l.toArray (OnlyN (Q .normal)) (Fr T w) σ.length (listed.setIfInBounds j true) a' w':=fun a' w' h'=>
     ⟨h'.1,zDF (fun W hW=>h'.1.step hW (fun _ _ h=>h)) _ _ _ _ (zAf hs σ _ a' w' hB2 h'.2)⟩
    unfold wpOp;simp only[ho];unfold wpList at h;split
    ·rename_i hw;rw[if_pos hw]at h;rcases h with h | ⟨_,h⟩
     ·exact .inl (Oper.wp_mono (fun a' w' h'=>step a' w' h') (zGw h))
     ·obtain⟨_,_,h⟩:=h;exact h.elim
    ·rename_i hw;rw[if_neg hw]at h;exact step _ _ h
   | false=>
    simp only[Bool.false_eq_true,if_false,Bool.and_eq_true]at hB1 h;obtain⟨hv,h⟩:=h;split at h
    ·rename_i hw;obtain⟨v,hy,h⟩:=h;exact wpAnyH_take ho hs hB1.2 hB1.1 (fun _ _ _ h=>h.elim) (.inl ⟨hw,fun W hW=>hy W ⟨⟨W,hW⟩,rfl⟩⟩) (Fr.refl _ _) (zAf hs σ _ _ w hB2 h)
    ·rename_i hw;exact wpAnyH_take ho hs hB1.2 hB1.1 (fun _ _ _ h=>h.elim) (.inr ⟨by simpa using hw,rfl⟩) (Fr.refl _ _) (zAf hs σ _ _ w hB2 h)
end
section
variable {P:Program}{Q:Exit->Act->World->Prop}{T:Nat->Prop}{l:List Oper}{σ:List (Nat×Bool)}{a:Act}{w:World}
theorem zR {id:Nat}(T:Nat->Prop)(σ:List (Nat×Bool))(hm:P.follows .mixedOrders=true)
  (hB:(Region.noSelect l.toArray&&(σ.length==l.length)&&schedB l.toArray σ (Array.replicate l.toArray.size false))=true)
  (h:∀ w0,Fr No w w0->wpSig P l Q T σ a w0):(Code.region id l.toArray true).wp P Q a w:=by
 simp only[Bool.and_eq_true,beq_iff_eq]at hB;have h1:=zAf (Q:=Q) hB.1.1 σ _ a w.drew hB.2 (h _ ((Fr.refl No w).drew));have h2:l.toArray.size=σ.length:=by simp[hB.1.2]
 rw[<-h2]at h1;refine wp_mono (wp_region_held (S:=Fr T w.drew) hm h1) fun e a w h=>?_
 cases e<;>first | exact h | exact h.elim
theorem zb (h:Q .normal a w):wpSig P l Q T [] a w:=h
theorem zT {i:Nat}{o:Oper}(hn:nth l i=some o)(hv:zA7 o.op=true)(hw:Region.wanted o (yielded l.toArray a.tmps)=true)
  (h:∀ K:Act->Prop,(∀ a',wpSig P l Q T σ a' w->K a')->o.quiet P a (fun W=>∃ g:Gr T w,W=g.W) K):wpSig P l Q T ((i,false)::σ) a w:=by
 obtain⟨v,h1,h2⟩:=h (fun a'=>wpSig P l Q T σ a' w) (fun _ h=>h);simp only[wpSig,hn,Bool.false_eq_true,if_false,hw,if_true];refine⟨hv,v,fun W hW=>?_,h2⟩;have h3:=h1 W hW;unfold Oper.quietAt at h3;cases hr:(execOp a.eval o).run P W with
 | halt x W'=>rw[hr]at h3;exact h3.elim
 | ok n W'=>
  obtain⟨u,rfl⟩:=zBh a.eval o hv hr;rw[hr]at h3;obtain⟨e1,e2⟩:=h3;rw[e1,e2]
theorem zW {i:Nat}{dst:Option Tmp}{op:Op}{type:TypeId}{pos:String}{after:Array Edge}{guard:Option (Nat×Bool)}(hn:nth l i=some ⟨dst,op,type,pos,after,guard⟩)(hv:zA7 op=true)
  (hw:Region.wanted ⟨dst,op,type,pos,after,guard⟩ (yielded l.toArray a.tmps)=false)
  (h:∀ K:Act->Prop,(∀ a',wpSig P l Q T σ a' w->K a')->(⟨dst,.assign (.const undef),type,pos,#[],none⟩:Oper).quiet P a (fun W=>∃ g:Gr T w,W=g.W) K):wpSig P l Q T ((i,false)::σ) a w:=by
 obtain⟨v,h1,h2⟩:=h (fun a'=>wpSig P l Q T σ a' w) (fun _ h=>h);simp only[wpSig,hn,Bool.false_eq_true,if_false,hw];refine⟨hv,?_⟩;have h3:=h1 w (zF5 T w);obtain⟨_,rfl⟩:=(h3:w=w/\undef=v)
 exact h2
theorem zi {i:Nat}{o:Oper}(hn:nth l i=some o)(h:wpList P l.toArray (OnlyN fun a' w'=>Fr T w w'/\wpSig P l Q T σ a' w') [o] a w):wpSig P l Q T ((i,true)::σ) a w:=by
 simp only[wpSig,hn,if_true];exact h
end
inductive Sg where
 | fin:Sg
 | q (i:Nat) (n:Sg):Sg
 | m1 (i:Nat) (n:Sg):Sg
 | m2 (i:Nat) (n:Sg) (j:Nat) (n':Sg):Sg
 | m3 (i:Nat) (n:Sg) (j:Nat) (n':Sg) (k:Nat) (n'':Sg):Sg
def Sg.size : Sg->Nat
 | .fin=>0
 | .q _ n=>n.size+1
 | .m1 _ n=>n.size+1
 | .m2 _ n _ _=>n.size+1
 | .m3 _ n _ _ _ _=>n.size+1
def schedT (ops:Array Oper):Sg->Array Bool->Bool
 | .fin,listed=>(Region.ready .any ops listed).isEmpty
 | .q i n,listed=>(Region.ready .any ops listed).contains i&&Region.free .any ops listed i&&schedT ops n (listed.setIfInBounds i true)
 | .m1 i n,listed=>(Region.ready .any ops listed==[i])&&schedT ops n (listed.setIfInBounds i true)
 | .m2 i n j n',listed=>(Region.ready .any ops listed==[i,j])&&(n'.size==n.size)&&schedT ops n (listed.setIfInBounds i true)&&schedT ops n' (listed.setIfInBounds j true)
 | .m3 i n j n' k n'',listed=>(Region.ready .any ops listed==[i,j,k])&&(n'.size==n.size)&&(n''.size==n.size)&&schedT ops n (listed.setIfInBounds i true)&&schedT ops n' (listed.setIfInBounds j true)&&schedT ops n'' (listed.setIfInBounds k true)
def wpMv (P:Program)(l:List Oper)(T:Nat->Prop)(i:Nat)(K:Act->World->Prop)(a:Act)(w:World):Prop:=
 match nth l i with
 | none=>False
 | some o=>wpList P l.toArray (OnlyN fun a' w'=>Fr T w w'/\K a' w') [o] a w
def wpSg (P:Program)(l:List Oper)(M:Act->World->Prop)(T:Nat->Prop):Sg->Act->World->Prop
 | .fin,a,w=>M a w
 | .q i n,a,w=>match nth l i with
  | none=>False
  | some o=>zA7 o.op=true/\(if Region.wanted o (yielded l.toArray a.tmps)=true then ∃ v,zGv P o a (Cls T w) v/\wpSg P l M T n (a.put o.dst v) w else wpSg P l M T n (a.put o.dst undef) w)
 | .m1 i n,a,w=>wpMv P l T i (wpSg P l M T n) a w
 | .m2 i n j n',a,w=>wpMv P l T i (wpSg P l M T n) a w/\wpMv P l T j (wpSg P l M T n') a w
 | .m3 i n j n' k n'',a,w=>wpMv P l T i (wpSg P l M T n) a w/\wpMv P l T j (wpSg P l M T n') a w/\wpMv P l T k (wpSg P l M T n'') a w
section
variable {P:Program}{M:Act->World->Prop}
theorem zCB {l:List Oper}{T:Nat->Prop}{i:Nat}{K:Act->World->Prop}{fuel:Nat}{listed:Array Bool}{a:Act}{w:World}(h:wpMv P l T i K a w)
  (hn:∀ a' w',K a' w'->wpAnyH P .any l.toArray (OnlyN M) (Fr T w') fuel (listed.setIfInBounds i true) a' w'):
  wpOp P l.toArray (OnlyN M) i (fun a' w'=>Fr T w w'/\wpAnyH P .any l.toArray (OnlyN M) (Fr T w) fuel (listed.setIfInBounds i true) a' w') a w:=by
 unfold wpMv at h;cases ho':nth l i with
 | none=>rw[ho']at h;exact h.elim
 | some o=>
  rw[ho']at h;dsimp only at h;have ho:l.toArray[i]?=some o:=by rw[List.getElem?_toArray,<-zFe];exact ho'
  have step:∀ a' w',(Fr T w w'/\K a' w')->Fr T w w'/\wpAnyH P .any l.toArray (OnlyN M) (Fr T w) fuel (listed.setIfInBounds i true) a' w':=fun a' w' h'=>
   ⟨h'.1,zDF (fun W hW=>h'.1.step hW (fun _ _ h=>h)) _ _ _ _ (hn a' w' h'.2)⟩
  unfold wpOp;simp only[ho];unfold wpList at h;split
  ·rename_i hw;rw[if_pos hw]at h;rcases h with h | ⟨_,h⟩
   ·exact .inl (Oper.wp_mono (fun a' w' h'=>step a' w' h') (zGw h))
   ·obtain⟨_,_,h⟩:=h;exact h.elim
  ·rename_i hw;rw[if_neg hw]at h;exact step _ _ h
theorem anyT {l:List Oper}{T:Nat->Prop}(hs:Region.noSelect l.toArray=true):∀ (σ:Sg) (listed:Array Bool) (a:Act) (w:World),
  schedT l.toArray σ listed=true->wpSg P l M T σ a w->wpAnyH P .any l.toArray (OnlyN M) (Fr T w) σ.size listed a w
 | .fin,listed,a,w,hB,h=>wpAnyH_done (P:=P) (S:=Fr T w) (Q:=OnlyN M) (md:=.any) (by simpa [schedT]using hB) (show OnlyN M .normal a w from h) 0
 | .q i n,listed,a,w,hB,h=>by
  simp only[schedT,Bool.and_eq_true]at hB;obtain⟨hB1,hB2⟩:=hB;simp only[wpSg]at h;cases hn:nth l i with
  | none=>rw[hn]at h;exact h.elim
  | some o=>
   rw[hn]at h;have ho:l.toArray[i]?=some o:=by rw[List.getElem?_toArray,<-zFe];exact hn
   obtain⟨hv,h⟩:=h;split at h
   ·rename_i hw;obtain⟨v,hy,h⟩:=h;exact wpAnyH_take ho hs hB1.2 hB1.1 (fun _ _ _ h=>h.elim) (.inl ⟨hw,fun W hW=>hy W ⟨⟨W,hW⟩,rfl⟩⟩) (Fr.refl _ _) (anyT hs n _ _ w hB2 h)
   ·rename_i hw;exact wpAnyH_take ho hs hB1.2 hB1.1 (fun _ _ _ h=>h.elim) (.inr ⟨by simpa using hw,rfl⟩) (Fr.refl _ _) (anyT hs n _ _ w hB2 h)
 | .m1 i n,listed,a,w,hB,h=>by
  simp only[schedT,Bool.and_eq_true,beq_iff_eq]at hB;refine wpAnyH_all (rs:=[i]) hB.1 (by simp) ?_;intro j hj;obtain rfl:j=i:=by simpa using hj
  exact zCB h (fun a' w' h'=>anyT hs n _ a' w' hB.2 h')
 | .m2 i n j n',listed,a,w,hB,h=>by
  simp only[schedT,Bool.and_eq_true,beq_iff_eq]at hB;obtain⟨⟨⟨hB1,hs1⟩,hB2⟩,hB3⟩:=hB;refine wpAnyH_all (rs:=[i,j]) hB1 (by simp) ?_;intro x hx;simp only[List.mem_cons,List.not_mem_nil,or_false]at hx;by_cases e:x=i
  ·subst e;exact zCB h.1 (fun a' w' h'=>anyT hs n _ a' w' hB2 h')
  ·obtain rfl:x=j:=by omega
   exact zCB h.2 (fun a' w' h'=>by have:=anyT hs n' _ a' w' hB3 h';rwa [hs1]at this)
 | .m3 i n j n' k n'',listed,a,w,hB,h=>by
  simp only[schedT,Bool.and_eq_true,beq_iff_eq]at hB;obtain⟨⟨⟨⟨⟨hB1,hs1⟩,hs2⟩,hB2⟩,hB3⟩,hB4⟩:=hB;refine wpAnyH_all (rs:=[i,j,k]) hB1 (by simp) ?_;intro x hx;simp only[List.mem_cons,List.not_mem_nil,or_false]at hx;by_cases e:x=i
  ·subst e;exact zCB h.1 (fun a' w' h'=>anyT hs n _ a' w' hB2 h')
  ·by_cases e2:x=j
   ·subst e2;exact zCB h.2.1 (fun a' w' h'=>by have:=anyT hs n' _ a' w' hB3 h';rwa [hs1]at this)
   ·obtain rfl:x=k:=by omega
    exact zCB h.2.2 (fun a' w' h'=>by have:=anyT hs n'' _ a' w' hB4 h';rwa [hs2]at this)
end
section
variable {P:Program}{M:Act->World->Prop}{T:Nat->Prop}{l:List Oper}{σ σ' σ'':Sg}{a:Act}{w:World}
theorem zY {id:Nat}{Q:Exit->Act->World->Prop}(T:Nat->Prop)(σ:Sg)(M:Act->World->Prop)(hm:P.follows .mixedOrders=true)
  (hB:(Region.noSelect l.toArray&&(σ.size==l.length)&&schedT l.toArray σ (Array.replicate l.toArray.size false))=true)
  (h:∀ w0,Fr No w w0->wpSg P l M T σ a w0) (hM:∀ a' w',M a' w'->Q .normal a' w'):(Code.region id l.toArray true).wp P Q a w:=by
 simp only[Bool.and_eq_true,beq_iff_eq]at hB;have h1:=anyT (M:=M) hB.1.1 σ _ a w.drew hB.2 (h _ ((Fr.refl No w).drew));have h2:l.toArray.size=σ.size:=by simp[hB.1.2]
 rw[<-h2]at h1;refine wp_mono (wp_region_held (S:=Fr T w.drew) hm h1) fun e a w h=>?_
 cases e<;>first | exact hM _ _ h | exact h.elim
theorem zS (h:M a w):wpSg P l M T .fin a w:=h
theorem zM {i:Nat}{o:Oper}(hn:nth l i=some o)(hv:zA7 o.op=true)(hw:Region.wanted o (yielded l.toArray a.tmps)=true)
  (h:∀ K:Act->Prop,(∀ a',wpSg P l M T σ a' w->K a')->o.quiet P a (fun W=>∃ g:Gr T w,W=g.W) K):wpSg P l M T (.q i σ) a w:=by
 obtain⟨v,h1,h2⟩:=h (fun a'=>wpSg P l M T σ a' w) (fun _ h=>h);simp only[wpSg,hn,hw,if_true];refine⟨hv,v,fun W hW=>?_,h2⟩;have h3:=h1 W hW;unfold Oper.quietAt at h3;cases hr:(execOp a.eval o).run P W with
 | halt x W'=>rw[hr]at h3;exact h3.elim
 | ok n W'=>
  obtain⟨u,rfl⟩:=zBh a.eval o hv hr;rw[hr]at h3;obtain⟨e1,e2⟩:=h3;rw[e1,e2]
theorem zO {i:Nat}{dst:Option Tmp}{op:Op}{type:TypeId}{pos:String}{after:Array Edge}{guard:Option (Nat×Bool)}(hn:nth l i=some ⟨dst,op,type,pos,after,guard⟩)(hv:zA7 op=true)
  (hw:Region.wanted ⟨dst,op,type,pos,after,guard⟩ (yielded l.toArray a.tmps)=false)
  (h:∀ K:Act->Prop,(∀ a',wpSg P l M T σ a' w->K a')->(⟨dst,.assign (.const undef),type,pos,#[],none⟩:Oper).quiet P a (fun W=>∃ g:Gr T w,W=g.W) K):wpSg P l M T (.q i σ) a w:=by
 obtain⟨v,h1,h2⟩:=h (fun a'=>wpSg P l M T σ a' w) (fun _ h=>h);simp only[wpSg,hn,Bool.false_eq_true,if_false,hw];refine⟨hv,?_⟩;have h3:=h1 w (zF5 T w);obtain⟨_,rfl⟩:=(h3:w=w/\undef=v)
 exact h2
theorem zGZ {i:Nat}{o:Oper}{K:Act->World->Prop}(hn:nth l i=some o)(h:wpList P l.toArray (OnlyN fun a' w'=>Fr T w w'/\K a' w') [o] a w):wpMv P l T i K a w:=by
 unfold wpMv;rw[hn];exact h
theorem zH {i:Nat}{o:Oper}(hn:nth l i=some o)(h:wpList P l.toArray (OnlyN fun a' w'=>Fr T w w'/\wpSg P l M T σ a' w') [o] a w):wpSg P l M T (.m1 i σ) a w:=zGZ hn h
theorem zh {i j:Nat}{o o':Oper}(hn:nth l i=some o)(hn':nth l j=some o')(h:wpList P l.toArray (OnlyN fun a' w'=>Fr T w w'/\wpSg P l M T σ a' w') [o] a w)
  (h':wpList P l.toArray (OnlyN fun a' w'=>Fr T w w'/\wpSg P l M T σ' a' w') [o'] a w):wpSg P l M T (.m2 i σ j σ') a w:=⟨zGZ hn h,zGZ hn' h'⟩
theorem zJe {i j k:Nat}{o o' o'':Oper}(hn:nth l i=some o)(hn':nth l j=some o')(hn'':nth l k=some o'')(h:wpList P l.toArray (OnlyN fun a' w'=>Fr T w w'/\wpSg P l M T σ a' w') [o] a w)
  (h':wpList P l.toArray (OnlyN fun a' w'=>Fr T w w'/\wpSg P l M T σ' a' w') [o'] a w) (h'':wpList P l.toArray (OnlyN fun a' w'=>Fr T w w'/\wpSg P l M T σ'' a' w') [o''] a w):wpSg P l M T (.m3 i σ j σ' k σ'') a w:=⟨zGZ hn h,zGZ hn' h',zGZ hn'' h''⟩
end
end Go.Proofs.YtmajgldaplkpiaaGreatDoor
