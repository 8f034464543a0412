import Derived.Test.YtmajgldaplkpiaaGreatDoorQ18
import Derived.Test.YtmajgldaplkpiaaGreatDoorShelf2
namespace Go.Proofs.YtmajgldaplkpiaaGreatDoor
open Go.RowKit Go.Maps Go.Sort Go.Shelf
set_option linter.unusedVariables false
set_option maxRecDepth 100000
set_option maxHeartbeats 2000000
def aheadB (p:ByteArray)(r:Int)(p':ByteArray)(r':Int):Bool:=decide (orI (cmpI r r') (pathO p p')<0)
theorem zFm (p i p' i':ByteArray)(r s t e r' s' t' e':Int)(v v':Value)(m:Int)(w:World)(hs:p.size<=1000000)(ht:p'.size<=1000000)(hm:w.cell? ⟨0,0,none⟩=some (.int .i64 m)):
  Calls Tryz.prog 260 #[.agg #[.string p,.string i,.int .i64 r,.int .i64 s,.int .i64 t,.int .i64 e,v],.agg #[.string p',.string i',.int .i64 r',.int .i64 s',.int .i64 t',.int .i64 e',v']] w fun en w'=>en=.returned (.bool (aheadB p r p' r'))/\Fr No w w':=by
 have h0:Fr No w ((w.alloc (.cells #[.string p,.string i,.int .i64 r,.int .i64 s,.int .i64 t,.int .i64 e,v] 264)).alloc (.cells #[.string p',.string i',.int .i64 r',.int .i64 s',.int .i64 t',.int .i64 e',v'] 264)):=((Fr.refl _ _).alloc _).alloc _;have q1:=zL w (.cells #[.string p,.string i,.int .i64 r,.int .i64 s,.int .i64 t,.int .i64 e,v] 264) (.cells #[.string p',.string i',.int .i64 r',.int .i64 s',.int .i64 t',.int .i64 e',v'] 264);have q2:=zP w (.cells #[.string p,.string i,.int .i64 r,.int .i64 s,.int .i64 t,.int .i64 e,v] 264) (.cells #[.string p',.string i',.int .i64 r',.int .i64 s',.int .i64 t',.int .i64 e',v'] 264);obtain⟨W0,hW0⟩:∃ W0,W0=(w.alloc (.cells #[.string p,.string i,.int .i64 r,.int .i64 s,.int .i64 t,.int .i64 e,v] 264)).alloc (.cells #[.string p',.string i',.int .i64 r',.int .i64 s',.int .i64 t',.int .i64 e',v'] 264):=⟨_,rfl⟩
 rw[<-hW0]at h0 q1 q2;have hm0:=h0.cell hm id;have H0:=Lib.hid h0;obtain⟨rb,hrb⟩:∃ rb,rb=aheadB p r p' r':=⟨_,rfl⟩
 rw[<-hrb];have Hrb:=Lib.hid hrb;clear h0 hm hrb
 go_enter Tryz.func260,Tryz.ntmps260
 go_upto_region 1 with(fail)
 rw[<-hW0];clear hW0;refine zR No [(0,false),(1,false),(2,false),(3,false),(5,false),(6,false),(7,false),(8,false),(4,true),(9,true),(10,true),(11,true),(12,false),(13,false)] (by kernel_rfl) (by kernel_rfl) (fun w0 hf0=>?_);have g0:∀ g:Gr No w0,g.W.cell? ⟨w.heap.size,0,none⟩=some (.string p):=fun g=>g.fr.cell (hf0.cell (zB q1 0) id) id
 have g2:∀ g:Gr No w0,g.W.cell? ⟨w.heap.size,2,none⟩=some (.int .i64 r):=fun g=>g.fr.cell (hf0.cell (zB q1 2) id) id
 have k0:∀ g:Gr No w0,g.W.cell? ⟨w.heap.size+1,0,none⟩=some (.string p'):=fun g=>g.fr.cell (hf0.cell (zB q2 0) id) id
 have k2:∀ g:Gr No w0,g.W.cell? ⟨w.heap.size+1,2,none⟩=some (.int .i64 r'):=fun g=>g.fr.cell (hf0.cell (zB q2 2) id) id
 have hm1:=hf0.cell hm0 id;have Hf0:=Lib.hid (H0.out.step hf0 (fun _ _ h=>h));clear q1 q2 hm0 hf0
 repeat (apply zT;exact rfl;exact rfl;exact rfl;intro K hK;go_big_quiet_op;go_big_quiet_on)
 clear g0 g2 k0 k2;apply zi;exact rfl
 go_wp2_with fail
 refine(zHw r r' _).mono ?_;rintro en w1 ⟨rfl,rfl⟩;generalize hc1:cmpI r r'=c1
 go_wp2_with fail
 refine OnlyN.mk ⟨Fr.refl _ _,?_⟩;apply zi;exact rfl
 go_wp2_with fail
 refine(zGV p p' m _ hs ht hm1).mono ?_;rintro en w2 ⟨rfl,hf2⟩;generalize hc2:pathO p p'=c2;have Hf2:=Lib.hid (Hf0.out.step hf2 (fun _ _ h=>h));have Hc:Hid (rb=decide (orI c1 c2<0)):=by unfold Hid;rw[Hrb.out,aheadB,hc1,hc2]
 clear hc1 hc2 hm1
 go_wp2_with fail
 refine OnlyN.mk ⟨hf2,?_⟩;clear hf2;apply zi;exact rfl
 go_wp2_with fail
 have hx:Fr No w2 (w2.alloc (.cells #[.int .i64 c1,.int .i64 c2] 3)):=(Fr.refl _ _).alloc _;have qx:=zD w2 (.cells #[.int .i64 c1,.int .i64 c2] 3);refine OnlyN.mk ⟨hx,?_⟩;have Hf3:=Lib.hid (Hf2.out.step hx (fun _ _ h=>h));clear hx;apply zi;exact rfl
 go_wp2_with fail
 refine(zKo _ c1 c2 _ (zB qx 0) (zB qx 1)).mono ?_;rintro en w3 ⟨rfl,rfl⟩;generalize orI c1 c2=o at *
 go_wp2_with fail
 refine OnlyN.mk ⟨Fr.refl _ _,?_⟩
 repeat (apply zT;exact rfl;exact rfl;exact rfl;intro K hK;go_big_quiet_op;go_big_quiet_on)
 refine zb ?_
 go_wp2_with fail
 go_ret;exact⟨by rw[Hc.out];rfl,Hf3.out⟩
theorem zJ5 (p i p' i':ByteArray)(r s t e r' s' t' e':Int)(v v':Value)(m:Int)(w:World)(hs:p.size<=1000000)(ht:p'.size<=1000000)(hm:w.cell? ⟨0,0,none⟩=some (.int .i64 m)):
  Calls Tryz.prog 263 #[.agg #[.string p,.string i,.int .i64 r,.int .i64 s,.int .i64 t,.int .i64 e,v],.agg #[.string p',.string i',.int .i64 r',.int .i64 s',.int .i64 t',.int .i64 e',v']] w fun en w'=>en=.returned (.bool (aheadB p r p' r'))/\Fr No w w':=by
 have h0:Fr No w ((w.alloc (.cells #[.string p,.string i,.int .i64 r,.int .i64 s,.int .i64 t,.int .i64 e,v] 318)).alloc (.cells #[.string p',.string i',.int .i64 r',.int .i64 s',.int .i64 t',.int .i64 e',v'] 264)):=((Fr.refl _ _).alloc _).alloc _;have hm0:=h0.cell hm id;have hb:=zFm p i p' i' r s t e r' s' t' e' v v' m _ hs ht hm0;have H0:=Lib.hid h0;clear h0
 go_enter Tryz.func263,Tryz.ntmps263
 go_wp2_with fail
 refine hb.mono ?_;rintro en w1 ⟨rfl,hf1⟩;have Hf:=Lib.hid (H0.out.step hf1 (fun _ _ h=>h));clear hf1
 go_wp2_with fail
 go_ret;exact⟨rfl,Hf.out⟩
structure Mem where
 p:ByteArray
 i:ByteArray
 r:Int
 s:Int
 t:Int
 e:Int
 a:Option Addr
 l:List ByteArray
 c:Nat
def Mem.vals (m:Mem):Array Value:=#[.string m.p,.string m.i,.int .i64 m.r,.int .i64 m.s,.int .i64 m.t,.int .i64 m.e,.slice m.a m.l.length m.c]
def Mem.v (m:Mem):Value:=.agg m.vals
def Mem.k (m:Mem):Mem:={ m with a:=none,c:=0 }
def Mem.zero : Mem:=⟨⟨#[]⟩,⟨#[]⟩,0,0,0,0,none,[],0⟩
def ahead (m o:Mem):Bool:=aheadB m.p m.r o.p o.r
def bestS (g:List UInt8->Option Mem)(m:Mem):List UInt8->Option Mem:=fun x=>
 if (m.l.length==1&&x==kb m.i&&(match g x with | none=>true | some o=>ahead m o))=true then some m else g x
def best (L:List Mem):List UInt8->Option Mem:=L.foldl bestS fun _=>none
theorem zBJ (L:List Mem)(m:Mem):best (L++[m])=bestS (best L) m:=by simp[best,List.foldl_append]
theorem zGo {g:List UInt8->Option Mem}{m:Mem}(h:m.l.length≠1):bestS g m=g:=by
 funext x;unfold bestS;rw[if_neg (by simp[h])]
theorem zGp {g:List UInt8->Option Mem}{m o:Mem}(hg:g (kb m.i)=some o)(h:ahead m o=false):bestS g m=g:=by
 funext x;unfold bestS
 by_cases e:x=kb m.i
 ·subst e;rw[hg];simp[h]
 ·rw[if_neg (by simp[e])]
theorem zDh {g:List UInt8->Option Mem}{m:Mem}(h1:m.l.length=1)(h:∀ o,g (kb m.i)=some o->ahead m o=true):bestS g m=fun x=>if x=kb m.i then some m else g x:=by
 funext x;unfold bestS
 by_cases e:x=kb m.i
 ·subst e;rw[if_pos rfl];rcases hg:g (kb m.i)with _ | o
  ·simp[h1]
  ·simp[h1,h o hg]
 ·rw[if_neg (by simp[e]),if_neg e]
theorem zHF {α:Type}{P:List α->Prop}(h0:P [])(h1:∀ l x,P l->P (l++[x]))(l:List α):P l:=by
 have:∀ l:List α,P l.reverse:=by
  intro l
  induction l with
  | nil=>exact h0
  | cons x t ih=>rw[List.reverse_cons];exact h1 _ _ ih
 simpa using this l.reverse
theorem zFK (g:List UInt8->Option Mem)(m:Mem)(x:List UInt8):(bestS g m x=some m/\m.l.length=1/\x=kb m.i/\∀ o,g x=some o->ahead m o=true)\/(bestS g m x=g x/\(m.l.length=1->x=kb m.i->∃ o,g x=some o/\ahead m o=false)):=by
 by_cases h1:m.l.length=1
 ·by_cases h2:x=kb m.i
  ·rcases hg:g x with _ | o
   ·refine .inl ⟨?_,h1,h2,fun o ho=>by cases ho⟩;unfold bestS;rw[hg];simp[h1,h2]
   ·cases ha:ahead m o with
    | true=>
     refine .inl ⟨?_,h1,h2,fun o' ho=>by cases ho;exact ha⟩;unfold bestS;rw[hg];simp[h1,h2,ha]
    | false=>
     refine .inr ⟨?_,fun _ _=>⟨o,rfl,ha⟩⟩;unfold bestS;rw[hg];simp[ha]
  ·refine .inr ⟨?_,fun _ h=>absurd h h2⟩;unfold bestS;rw[if_neg (by simp[h2])]
 ·refine .inr ⟨?_,fun h=>absurd h h1⟩;unfold bestS;rw[if_neg (by simp[h1])]
theorem zCW (L:List Mem):∀ x m,best L x=some m->m∈L/\m.l.length=1/\kb m.i=x:=by
 refine zHF (P:=fun L=>∀ x m,best L x=some m->m∈L/\m.l.length=1/\kb m.i=x) ?_ ?_ L
 ·intro x m h;cases h
 ·intro l y ih x m h;rw[zBJ]at h;rcases zFK (best l) y x with⟨h1,h2,h3,_⟩ | ⟨h1,_⟩
  ·rw[h1]at h;cases h;exact⟨by simp,h2,h3.symm⟩
  ·rw[h1]at h;obtain⟨a,b⟩:=ih x m h;exact⟨by simp[a],b⟩
structure IsIds (L:List Mem)(ids:List ByteArray):Prop where
 asc:AscS (ids.map kb)
 mem:∀ x:ByteArray,x∈ids↔(best L (kb x)).isSome=true
theorem zCC : ∀ {l l':List ByteArray},l.map kb=l'.map kb->l=l'
 | [],[],_=>rfl
 | [],_::_,h=>by simp at h
 | _::_,[],h=>by simp at h
 | x::s,y::t,h=>by
  simp only[List.map_cons,List.cons.injEq]at h;rw[zEZ h.1,zCC h.2]
theorem zJM {l:List ByteArray}{x:List UInt8}:x∈l.map kb↔bk x∈l:=by
 constructor
 ·intro h;obtain⟨y,hy,rfl⟩:=List.mem_map.1 h
  rwa [zEB]
 ·intro h;exact List.mem_map.2 ⟨_,h,zGd x⟩
def own1 (L:List Mem)(ids:List ByteArray):List Mem:=ids.map fun x=>((best L (kb x)).getD Mem.zero).k

def zAS (good:Mem->Bool)(g:ByteArray×Int->Option Mem)(m:Mem):ByteArray×Int->Option Mem:=fun x=>
 if (good m&&decide (x=(m.i,m.s))&&(match g x with | none=>true | some o=>ahead m o))=true then some m else g x
def zk (good:Mem->Bool)(L:List Mem):ByteArray×Int->Option Mem:=L.foldl (zAS good) fun _=>none
section
variable {good:Mem->Bool}
theorem zAW (L:List Mem)(m:Mem):zk good (L++[m])=zAS good (zk good L) m:=by simp[zk,List.foldl_append]
theorem zEk (g:ByteArray×Int->Option Mem)(m:Mem)(x:ByteArray×Int):(zAS good g m x=some m/\good m=true/\x=(m.i,m.s)/\∀ o,g x=some o->ahead m o=true)\/(zAS good g m x=g x/\(good m=true->x=(m.i,m.s)->∃ o,g x=some o/\ahead m o=false)):=by
 by_cases h1:good m=true
 ·by_cases h2:x=(m.i,m.s)
  ·rcases hg:g x with _ | o
   ·refine .inl ⟨?_,h1,h2,fun o ho=>by cases ho⟩;unfold zAS;rw[hg];simp[h1,h2]
   ·cases ha:ahead m o with
    | true=>
     refine .inl ⟨?_,h1,h2,fun o' ho=>by cases ho;exact ha⟩;unfold zAS;rw[hg];simp[h1,h2,ha]
    | false=>
     refine .inr ⟨?_,fun _ _=>⟨o,rfl,ha⟩⟩;unfold zAS;rw[hg];simp[ha]
  ·refine .inr ⟨?_,fun _ h=>absurd h h2⟩;unfold zAS;rw[if_neg (by simp[h2])]
 ·refine .inr ⟨?_,fun h=>absurd h h1⟩;unfold zAS;rw[if_neg (by simp[h1])]
theorem zDC {g:ByteArray×Int->Option Mem}{m:Mem}(h:good m=false):zAS good g m=g:=by
 funext x;unfold zAS;rw[if_neg (by simp[h])]
theorem zFL {g:ByteArray×Int->Option Mem}{m o:Mem}(hg:g (m.i,m.s)=some o)(h:ahead m o=false):zAS good g m=g:=by
 funext x;unfold zAS
 by_cases e:x=(m.i,m.s)
 ·subst e;rw[hg];simp[h]
 ·rw[if_neg (by simp[e])]
theorem zBd {g:ByteArray×Int->Option Mem}{m:Mem}(h1:good m=true)(h:∀ o,g (m.i,m.s)=some o->ahead m o=true):zAS good g m=fun x=>if x=(m.i,m.s)then some m else g x:=by
 funext x;unfold zAS
 by_cases e:x=(m.i,m.s)
 ·subst e;rw[if_pos rfl];rcases hg:g (m.i,m.s)with _ | o
  ·simp[h1]
  ·simp[h1,h o hg]
 ·rw[if_neg (by simp[e]),if_neg e]
theorem zB4 (L:List Mem):∀ x m,zk good L x=some m->m∈L/\good m=true/\(m.i,m.s)=x:=by
 refine zHF (P:=fun L=>∀ x m,zk good L x=some m->m∈L/\good m=true/\(m.i,m.s)=x) ?_ ?_ L
 ·intro x m h;cases h
 ·intro l y ih x m h;rw[zAW]at h;rcases zEk (zk good l) y x with⟨h1,h2,h3,_⟩ | ⟨h1,_⟩
  ·rw[h1]at h;cases h;exact⟨by simp,h2,h3.symm⟩
  ·rw[h1]at h;obtain⟨a,b⟩:=ih x m h;exact⟨by simp[a],b⟩
end
def soundB (m:Mem):Bool:=!m.p.toList.isEmpty&&(decide (1<=m.s)&&decide (m.s<=16))&&(decide (1<=m.t)&&decide (m.t<=16))
structure Arr where
 i:ByteArray
 ps:List ByteArray
 t:Int
 e:Int
 n:Int
 l:List ByteArray
def zAq (b:ByteArray×Int->Option Mem)(id:ByteArray):Int:=(((List.range 16).find? fun (k:Nat)=>(b (id,(k:Int)+1)).isSome).getD 0:Nat)+1
def zAR (b:ByteArray×Int->Option Mem)(id:ByteArray):Mem:=(b (id,zAq b id)).getD Mem.zero
def pathAt (b:ByteArray×Int->Option Mem)(id:ByteArray)(k:Nat):ByteArray:=match b (id,(k:Int)+1)with | some m=>m.p | none=>⟨#[]⟩
def buildA (b:ByteArray×Int->Option Mem)(id:ByteArray):Arr:=
 ⟨id,(List.range (zAR b id).t.toNat).map (pathAt b id),(zAR b id).t,(zAR b id).e,((List.range (zAR b id).t.toNat).filter fun (k:Nat)=>(b (id,(k:Int)+1)).isSome).length,(zAR b id).l⟩
structure IsIds2 (b:ByteArray×Int->Option Mem)(ids:List ByteArray):Prop where
 asc:AscS (ids.map kb)
 mem:∀ x:ByteArray,x∈ids↔∃ s:Int,(b (x,s)).isSome=true
theorem IsIds2.unique {b:ByteArray×Int->Option Mem}{ids ids':List ByteArray}(h:IsIds2 b ids)(h':IsIds2 b ids'):ids=ids':=by
 refine zCC (AscS.ext h.asc h'.asc fun x=>?_);rw[zJM,zJM,h.mem,h'.mem]
structure IsSlots (b:ByteArray×Int->Option Mem)(id:ByteArray)(zs:List Int):Prop where
 nodup:zs.Nodup
 mem:∀ s:Int,s∈zs↔(b (id,s)).isSome=true
theorem zDz {b:ByteArray×Int->Option Mem}{id:ByteArray}{zs:List Int}(h:IsSlots b id zs)(hr:∀ s∈zs,1<=s/\s<=16){m:Int}(hm:m∈zs)(hmin:∀ s∈zs,m<=s):zAq b id=m:=by
 unfold zAq;obtain⟨h1,h2⟩:=hr m hm;obtain⟨k,rfl⟩:∃ k:Nat,m=(k:Int)+1:=⟨(m-1).toNat,by omega⟩
 have hf:(List.range 16).find? (fun (k:Nat)=>(b (id,(k:Int)+1)).isSome)=some k:=by
  rw[List.find?_range_eq_some];refine⟨(h.mem _).1 hm,List.mem_range.2 (by omega),fun j hj=>?_⟩;cases hb:(b (id,(j:Int)+1)).isSome with
  | false=>rfl
  | true=>
   have:=hmin _ ((h.mem _).2 hb);omega
 rw[hf];rfl
def psJ (b:ByteArray×Int->Option Mem)(id:ByteArray)(T:Nat)(zs:List Int):List ByteArray:=(List.range T).map fun (k:Nat)=>if ((k:Int)+1)∈zs then pathAt b id k else ⟨#[]⟩
def cntJ (T:Int)(zs:List Int):Nat:=(zs.filter fun s=>decide (s<=T)).length
theorem zDr (b:ByteArray×Int->Option Mem)(id:ByteArray)(T:Nat)(zs:List Int):(psJ b id T zs).length=T:=by simp[psJ]
theorem zJw (b:ByteArray×Int->Option Mem)(id:ByteArray)(T:Nat):psJ b id T []=List.replicate T ⟨#[]⟩:=by
 unfold psJ;simp only[List.not_mem_nil,if_false];rw[List.map_const',List.length_range]
theorem zJv (b:ByteArray×Int->Option Mem)(id:ByteArray)(T:Nat)(zs:List Int)(k:Nat)(hk:k<T):psJ b id T (zs++[(k:Int)+1])=(psJ b id T zs).set k (pathAt b id k):=by
 apply List.ext_getElem?;intro j;rw[List.getElem?_set];unfold psJ;by_cases hj:j<T
 ·simp only[List.getElem?_map,List.getElem?_range hj,Option.map_some,List.length_map,List.length_range];by_cases e:k=j
  ·subst e;simp[hj]
  ·have:((j:Int)+1∈zs++[(k:Int)+1])↔(j:Int)+1∈zs:=by
    simp;omega
   simp only[this,if_neg e]
 ·have h1:(List.range T)[j]?=none:=List.getElem?_eq_none (by simp;omega);rw[List.getElem?_map,List.getElem?_map,h1];have e:k≠j:=by omega
  simp[e]
theorem zIW (b:ByteArray×Int->Option Mem)(id:ByteArray)(T:Nat)(zs:List Int)(s:Int)(hs:¬ s<=T):psJ b id T (zs++[s])=psJ b id T zs:=by
 unfold psJ;refine List.map_congr_left (fun k hk=>?_);have hk':=List.mem_range.1 hk;have:((k:Int)+1∈zs++[s])↔(k:Int)+1∈zs:=by simp;omega
 simp only[this]
theorem zIX {b:ByteArray×Int->Option Mem}{id:ByteArray}{zs:List Int}(h:IsSlots b id zs)(T:Nat):psJ b id T zs=(List.range T).map (pathAt b id):=by
 unfold psJ;refine List.map_congr_left (fun k _=>?_);split
 ·rfl
 ·rename_i hn;rw[h.mem]at hn;unfold pathAt;rcases hb:b (id,(k:Int)+1)with _ | m
  ·rfl
  ·rw[hb]at hn;simp at hn
theorem zHu {b:ByteArray×Int->Option Mem}{id:ByteArray}{zs:List Int}(h:IsSlots b id zs)(hr:∀ s∈zs,1<=s)(T:Nat):cntJ T zs=((List.range T).filter fun (k:Nat)=>(b (id,(k:Int)+1)).isSome).length:=by
 unfold cntJ;have hp:(zs.filter fun s=>decide (s<=(T:Int))).Perm (((List.range T).filter fun (k:Nat)=>(b (id,(k:Int)+1)).isSome).map fun k:Nat=>(k:Int)+1):=by
  rw[List.perm_ext_iff_of_nodup]
  ·intro s;simp only[List.mem_filter,List.mem_map,List.mem_range,decide_eq_true_eq];constructor
   ·rintro ⟨h1,h2⟩;have h3:=hr s h1;refine⟨(s-1).toNat,⟨by omega,?_⟩,by omega⟩;rw[show (((s-1).toNat:Nat):Int)+1=s by omega];exact(h.mem s).1 h1
   ·rintro ⟨k,⟨h1,h2⟩,rfl⟩;exact⟨(h.mem _).2 h2,by omega⟩
  ·exact h.nodup.sublist List.filter_sublist
  ·refine List.pairwise_map.2 ((List.nodup_range.sublist List.filter_sublist).imp (fun {a b} hab e=>hab (by omega)))
 rw[hp.length_eq,List.length_map]
theorem zEh (T:Int)(zs:List Int)(s:Int):cntJ T (zs++[s])=cntJ T zs+(if s<=T then 1 else 0):=by
 unfold cntJ;rw[List.filter_append,List.length_append]
 congr 1
 by_cases h:s<=T<;>simp[h]
theorem zKN (T:Int)(zs:List Int):cntJ T zs<=zs.length:=List.length_filter_le _ _
theorem zKh (a:Option Addr)(cap:Nat)(l:List Int)(w:World)(hl:Ints w a cap l)(hne:1<=l.length):
  Calls Tryz.prog 262 #[.slice a l.length cap] w fun e w'=>(∃ m,e=.returned (.int .i64 m)/\m∈l/\∀ x∈l,m<=x)/\w=w':=by
 have hn:¬ (l.length:Int)<1:=by omega
 have hm:=hl.lenmax;have hn0:(0:Int)<l.length:=by omega
 obtain⟨b,off,x0,rfl,hx0,hc0⟩:=hl.at (k:=0) (by omega);rw[Nat.add_zero]at hc0;have Hx0:=Lib.hid hx0;clear hx0
 go_enter Tryz.func262,Tryz.ntmps262
 go_wp2_with fail
 go_loop [3,4] (fun v i=>∃ (k:Nat) (m:Int),1<=k/\k<=l.length/\v=.int .i64 m/\i=.int .i64 (k:Int)/\Hid (m∈l.take k/\∀ x∈l.take k,m<=x)) (fun _ i=>l.length-(intOf i).toNat)
 case atStart=>
  refine⟨1,x0,by omega,hne,rfl,rfl,?_⟩;unfold Hid;have:l.take 1=[x0]:=by rw[List.take_add_one,Hx0.out];rfl
  rw[this];simp
 case round=>
  obtain⟨k,m,hk1,hk,rfl,rfl,Hm⟩:=hrel;by_cases hlt:k<l.length
  ·have hlt':(k:Int)<l.length:=by omega
   obtain⟨b',off',x,e,hx,hc⟩:=hl.at hlt;cases e;have Htk:Hid (l.take (k+1)=l.take k++[x]):=by unfold Hid;rw[List.take_add_one,hx];rfl
   clear hx;by_cases hmx:m<=x
   ·have hmin:min m x=m:=by omega
    go_wp2_with fail
    go_round
    case rel=>
     refine⟨k+1,m,by omega,by omega,by first | rfl | (rw[if_pos hmx]),by go_num,?_⟩;unfold Hid;rw[Htk.out];obtain⟨h1,h2⟩:=Hm.out;refine⟨by simp[h1],fun y hy=>?_⟩;rcases List.mem_append.1 hy with h | h
     ·exact h2 y h
     ·obtain rfl:y=x:=by simpa using h
      exact hmx
    case measure=>simp[intOf];omega
   ·have hmin:min m x=x:=by omega
    go_wp2_with fail
    go_round
    case rel=>
     refine⟨k+1,x,by omega,by omega,by first | rfl | (rw[if_neg hmx]),by go_num,?_⟩;unfold Hid;rw[Htk.out];obtain⟨h1,h2⟩:=Hm.out;refine⟨by simp,fun y hy=>?_⟩;rcases List.mem_append.1 hy with h | h
     ·have:=h2 y h;omega
     ·obtain rfl:y=x:=by simpa using h
      omega
    case measure=>simp[intOf];omega
  ·obtain rfl:k=l.length:=by omega
   have h:=Hm.out;rw[List.take_length]at h;have Hr:=Lib.hid h;clear h Hm
   go_wp2_with fail
   go_ret;exact⟨⟨m,rfl,Hr.out.1,Hr.out.2⟩,rfl⟩
theorem zJg (mb:Option Nat)(w:World):Calls Tryz.prog 301 #[.map mb] w fun e w'=>e=.returned (.func (.func 324) #[] #[.pointer (some ⟨w.heap.size,0,none⟩)])/\w'=w.alloc (.cells #[.map mb] 314):=
 (callsIn_wide (n:=5)).1 (AnyZ.keys_in Tryz.keysT Fence.wide 5 trivial rfl mb w)
theorem zG6 (mb Bm base:Nat)(f:List UInt8->List Int)(N:Nat)(w:World)(hs:GMap w base mb f N)(hN:N<=1099511627776)(hB:w.cell? ⟨Bm,0,none⟩=some (.map (some mb)))(hBl:Bm<w.heap.size):
  Calls Tryz.prog 264 #[.func (.func 324) #[] #[.pointer (some ⟨Bm,0,none⟩)]] w fun e w'=>
   (∃ a cap ids,e=.returned (.slice a ids.length cap)/\Strs w' a cap ids/\AscS (ids.map kb)/\(∀ x:ByteArray,x∈ids↔(f (kb x))≠[])/\ids.length<=N/\∀ ad,a=some ad->w.heap.size<=ad.block)/\Fr No w w':=by
 obtain⟨D,n,hn,hg,_,hf⟩:=hs;obtain⟨es,clock,hbk,Ft,hes,hD,_⟩:=hg;have hown:w.ownsMap Tryz.prog 9 (rowElem w base 3 .i64) mb n D:=⟨es,clock,hbk,Ft,hes,hD⟩
 clear hbk Ft hes hD;have hsz:=hown.size_le;have hmax:Maps.size D<=maxLen:=by unfold maxLen;omega
 have hbytes:Maps.size D*16<=140737488355328:=by omega
 have hmem:=zCv hown Tryz.underlying9;have hnd:=zBr hown lawS Tryz.underlying9;have hlen:=zCe D;have hseq:SeqGives Fence.wide 2 Tryz.prog 324 #[.pointer (some ⟨Bm,0,none⟩)] encStr (fun ss=>ss.Perm (strKeys D)) (Maps.size D) w:=
  AnyZ.keys_gives (ρ:=Tryz.keysT_ren) { Tryz.keysT with } Fence.wide _ trivial rfl (by omega) Bm mb n D _ hBl hB hown
 have cS:=AnyZ.sorted_in Tryz.sortedS Fence.wide 5 trivial trivial trivial trivial rfl (by omega) (sortsS _) (enters_of Tryz.func303 (by kernel_rfl) rfl) 324 #[.pointer (some ⟨Bm,0,none⟩)] trivial (enters_of Tryz.func324 (by kernel_rfl) rfl) _ _ hmax hbytes _ hseq;refine((callsIn_wide (n:=5)).1 cS).mono ?_;rintro e w' ⟨v,ss,rfl,hperm,hrow,_,hb⟩;have hp:(ss.mergeSort (fun x y=>decide (x<=y))).Perm (strKeys D):=(List.mergeSort_perm ss _).trans hperm;obtain⟨L,hL⟩:∃ L,L=(ss.mergeSort (fun x y=>decide (x<=y))):=⟨_,rfl⟩
 have hl:(L.map bk).length=ss.length:=by rw[hL];simp
 have e1:L.map encStr=(L.map bk).map Value.string:=by rw[List.map_map];rfl
 rw[<-hL]at hp hrow;rw[<-hl,e1]at hrow;obtain⟨a,cap,rfl,h1,h2⟩:=Strs.of_own hrow;have e2:(L.map bk).map kb=L:=by
  rw[List.map_map];have:kb∘bk=id:=by funext x;exact zGd x
  rw[this,List.map_id]
 refine⟨⟨a,cap,L.map bk,rfl,h1,?_,fun x=>?_,?_,h2⟩,Fr.of_below_size hb⟩
 ·rw[e2,hL];exact zDD (hperm.nodup_iff.2 hnd)
 ·have hfx:f (kb x)≠[]↔has D (.string (kb x))=true:=by rw[hf];cases f (kb x)<;>simp
  rw[hfx,<-hmem,<-hp.mem_iff];constructor
  ·intro h;obtain⟨y,hy,rfl⟩:=List.mem_map.1 h
   rwa [zGd]
  ·intro h;exact List.mem_map.2 ⟨_,h,zEB x⟩
 ·rw[List.length_map,hp.length_eq];omega
theorem zGN (mb base:Nat)(f:List UInt8->List Int)(N:Nat)(w:World)(hs:GMap w base mb f N)(hN:N<=1099511627776):
  Calls Tryz.prog 261 #[.map (some mb)] w fun e w'=>
   (∃ a cap ids,e=.returned (.slice a ids.length cap)/\Strs w' a cap ids/\AscS (ids.map kb)/\(∀ x:ByteArray,x∈ids↔(f (kb x))≠[])/\ids.length<=N/\∀ ad,a=some ad->w.heap.size<=ad.block)/\Fr No w w':=by
 have hmb:mb<w.heap.size:=hs.lt;have hx:Fr No w (w.alloc (.cells #[.map (some mb)] 314)):=(Fr.refl _ _).alloc _;have hs1:GMap (w.alloc (.cells #[.map (some mb)] 314)) base mb f N:=hs.grown (World.grownBy_alloc w _ none) (by simp) (fun j hj=>by cases hj);have q1:=zD w (.cells #[.map (some mb)] 314);have hsz:w.heap.size<(w.alloc (.cells #[.map (some mb)] 314)).heap.size:=by simp
 go_enter Tryz.func261,Tryz.ntmps261
 go_wp2_with fail
 refine(zJg _ _).mono ?_;rintro en w1 ⟨rfl,rfl⟩
 go_wp2_with fail
 generalize w.alloc (.cells #[.map (some mb)] 314)=W1 at *;refine(zG6 mb w.heap.size base f N W1 hs1 hN (zB q1 0) hsz).mono ?_;rintro en w2 ⟨⟨ia,ic,ids,rfl,hS,hasc,hmem,hln,hfresh⟩,hf2⟩;have H:=Lib.hid (And.intro hS (And.intro hasc (And.intro hmem (And.intro hfresh (hx.step hf2 (fun _ _ h=>h))))));clear hS hasc hmem hfresh hf2 hs1 q1 hx
 go_wp2_with fail
 go_ret;exact⟨⟨ia,ic,ids,rfl,H.out.1,H.out.2.1,H.out.2.2.1,hln,fun ad e=>by have:=H.out.2.2.2.1 ad e;omega⟩,H.out.2.2.2.2⟩
theorem zHn (p i:ByteArray)(r s t e:Int)(v:Value)(w:World):
  Calls Tryz.prog 213 #[.agg #[.string p,.string i,.int .i64 r,.int .i64 s,.int .i64 t,.int .i64 e,v]] w fun en w'=>en=.returned (.bool (!p.toList.isEmpty&&(decide (1<=s)&&decide (s<=16))&&(decide (1<=t)&&decide (t<=16))))/\Fr No w w':=by
 have hx:Fr No w (w.alloc (.cells #[.string p,.string i,.int .i64 r,.int .i64 s,.int .i64 t,.int .i64 e,v] 264)):=(Fr.refl _ _).alloc _;have Hx:=Lib.hid hx;clear hx;obtain⟨b,hb⟩:∃ b,b=(!p.toList.isEmpty&&(decide (1<=s)&&decide (s<=16))&&(decide (1<=t)&&decide (t<=16))):=⟨_,rfl⟩
 rw[<-hb];have Hb:=Lib.hid hb;clear hb
 go_enter Tryz.func213,Tryz.ntmps213
 rcases h1:p.toList.isEmpty with _ | _
 ·by_cases h2:1<=s
  ·by_cases h3:s<=16
   ·by_cases h4:1<=t
    ·by_cases h5:t<=16
     ·go_wp2_with fail
      go_ret;exact⟨by rw[Hb.out,h1];simp[h2,h3,h4,h5],Hx.out⟩
     ·go_wp2_with fail
      go_ret;exact⟨by rw[Hb.out,h1];simp[h5],Hx.out⟩
    ·go_wp2_with fail
     go_ret;exact⟨by rw[Hb.out,h1];simp;omega,Hx.out⟩
   ·go_wp2_with fail
    go_ret;exact⟨by rw[Hb.out,h1];simp;omega,Hx.out⟩
  ·go_wp2_with fail
   go_ret;exact⟨by rw[Hb.out,h1];simp;omega,Hx.out⟩
 ·go_wp2_with fail
  go_ret;exact⟨by rw[Hb.out,h1];simp,Hx.out⟩
theorem zKc (p i:ByteArray)(r s t e:Int)(v:Value)(w:World):
  Calls Tryz.prog 218 #[.agg #[.string p,.string i,.int .i64 r,.int .i64 s,.int .i64 t,.int .i64 e,v]] w fun en w'=>en=.returned (.bool (!p.toList.isEmpty&&(decide (1<=s)&&decide (s<=16))&&(decide (1<=t)&&decide (t<=16))))/\Fr No w w':=by
 have hx:Fr No w (w.alloc (.cells #[.string p,.string i,.int .i64 r,.int .i64 s,.int .i64 t,.int .i64 e,v] 264)):=(Fr.refl _ _).alloc _;have hs:=zHn p i r s t e v (w.alloc (.cells #[.string p,.string i,.int .i64 r,.int .i64 s,.int .i64 t,.int .i64 e,v] 264));have Hx:=Lib.hid hx;clear hx
 go_enter Tryz.func218,Tryz.ntmps218
 go_wp2_with fail
 refine hs.mono ?_;rintro en w1 ⟨rfl,hf1⟩;have H:=Lib.hid (Hx.out.step hf1 (fun _ _ h=>h));clear hf1 hs;obtain⟨b,hb⟩:∃ b,b=(!p.toList.isEmpty&&(decide (1<=s)&&decide (s<=16))&&(decide (1<=t)&&decide (t<=16))):=⟨_,rfl⟩
 rw[<-hb];have Hb:=Lib.hid hb;clear hb
 go_wp2_with fail
 go_ret;exact⟨by rw[<-Hb.out];rfl,H.out⟩
structure ArrM extends Arr where
 pa:Option Addr
 pc:Nat
 la:Option Addr
 lc:Nat
def ArrM.vals (m:ArrM):Array Value:=#[.string m.i,.slice m.pa m.ps.length m.pc,.int .i64 m.t,.int .i64 m.e,.int .i64 m.n,.slice m.la m.l.length m.lc]
structure Arrs (w:World)(a:Option Addr)(cap:Nat)(L:List ArrM):Prop where
 len:L.length<=cap
 max:cap<=maxLen
 isNil:a=none->L=[]/\cap=0
 ok:∀ m∈L,Strs w m.pa m.pc m.ps/\Strs w m.la m.lc m.l
 cell:∀ ad,a=some ad->L≠[]->ad.spot=none/\ad.block<w.heap.size/\∀ i m,L[i]?=some m->∀ j,j<6->w.cell? ⟨ad.block,ad.off+(i*6+j),none⟩=m.vals[j]?
structure ArrAt (w:World)(b o:Nat)(m:ArrM):Prop where
 c0:w.cell? ⟨b,o,none⟩=some (.string m.i)
 c1:w.cell? ⟨b,o+1,none⟩=some (.slice m.pa m.ps.length m.pc)
 c2:w.cell? ⟨b,o+2,none⟩=some (.int .i64 m.t)
 c3:w.cell? ⟨b,o+3,none⟩=some (.int .i64 m.e)
 c4:w.cell? ⟨b,o+4,none⟩=some (.int .i64 m.n)
 c5:w.cell? ⟨b,o+5,none⟩=some (.slice m.la m.l.length m.lc)
theorem Arrs.elem {w:World}{a:Option Addr}{cap:Nat}{L:List ArrM}(h:Arrs w a cap L){k:Nat}(hk:k<L.length):
  ∃ b off m,a=some ⟨b,off,none⟩/\L[k]?=some m/\(Strs w m.pa m.pc m.ps/\Strs w m.la m.lc m.l)/\ArrAt w b (off+k*6) m/\b<w.heap.size:=by
 cases a with
 | none=>obtain⟨rfl,_⟩:=h.isNil rfl;simp at hk
 | some ad=>
  obtain⟨b,off,sp⟩:=ad;obtain⟨h1,h2,h3⟩:=h.cell _ rfl (by intro e;subst e;simp at hk);simp at h1;subst h1;have hc:=h3 k _ (List.getElem?_eq_getElem hk);exact⟨b,off,L[k],rfl,List.getElem?_eq_getElem hk,h.ok _ (List.getElem_mem hk),⟨hc 0 (by omega),hc 1 (by omega),hc 2 (by omega),hc 3 (by omega),hc 4 (by omega),hc 5 (by omega)⟩,h2⟩
theorem Arrs.lenmax {w:World}{a:Option Addr}{cap:Nat}{L:List ArrM}(h:Arrs w a cap L):L.length<=9223372036854775807:=by
 have h1:=h.len;have h2:=h.max;unfold maxLen at h2;omega
theorem Arrs.fr {S:Nat->Prop}{w w':World}{a:Option Addr}{cap:Nat}{L:List ArrM}(h:Arrs w a cap L)(hf:Fr S w w')(hS:∀ ad,a=some ad->L≠[]->¬ S ad.block)(hM:∀ m∈L,(∀ ad,m.pa=some ad->m.ps≠[]->¬ S ad.block)/\∀ ad,m.la=some ad->m.l≠[]->¬ S ad.block):Arrs w' a cap L:=
 ⟨h.len,h.max,h.isNil,fun m hm=>⟨(h.ok m hm).1.fr hf (hM m hm).1,(h.ok m hm).2.fr hf (hM m hm).2⟩,fun ad e hne=>by
  obtain⟨h1,h2,h3⟩:=h.cell ad e hne;refine⟨h1,Nat.lt_of_lt_of_le h2 hf.size,fun i m hi j hj=>?_⟩;rw[<-h3 i m hi j hj];exact World.cell?_of_block (hf.block _ h2 (hS ad e hne))⟩
theorem Arrs.nil (w:World):Arrs w none 0 []:=⟨by simp,by simp,fun _=>⟨rfl,rfl⟩,by simp,fun _ e _=>by cases e⟩
theorem infoAr : (Tryz.prog.info? 206).map (fun i=>(i.zero,i.size,i.bytes))=some (some (.agg #[.string ByteArray.empty,.slice none 0 0,.int .i64 0,.int .i64 0,.int .i64 0,.slice none 0 0]),6,88):=by kernel_rfl
def arflat (L:List ArrM):List Value:=L.flatMap (fun m=>m.vals.toList)
theorem zFO (L:List ArrM)(m:ArrM):arflat (L++[m])=arflat L++m.vals.toList:=by simp[arflat]
theorem zGr (m:ArrM):∀ u∈m.vals.toList,u.oneCell'=true:=by
 intro u hu;simp[ArrM.vals]at hu;rcases hu with rfl | rfl | rfl | rfl | rfl | rfl<;>rfl
theorem zEl : ∀ (L:List ArrM) (i:Nat) (m:ArrM),L[i]?=some m->∀ j,j<6->(arflat L)[i*6+j]?=m.vals[j]?
 | [],i,m,h,j,hj=>by simp at h
 | x::t,0,m,h,j,hj=>by
  simp at h;subst h;have:arflat (x::t)=x.vals.toList++arflat t:=by simp[arflat]
  rw[this,List.getElem?_append_left (by simp[ArrM.vals];omega)];simp
 | x::t,i+1,m,h,j,hj=>by
  have:arflat (x::t)=x.vals.toList++arflat t:=by simp[arflat]
  rw[this,List.getElem?_append_right (by simp[ArrM.vals];omega),show (i+1)*6+j-x.vals.toList.length=i*6+j from by simp[ArrM.vals];omega];exact zEl t i m (by simpa using h) j hj
theorem Arrs.of_own {w:World}{base:Nat}{e:TypeId}{v:Value}{L:List ArrM}(h:w.ownsRow base e 6 v L.length (arflat L))(hok:∀ m∈L,Strs w m.pa m.pc m.ps/\Strs w m.la m.lc m.l):
  ∃ a cap,v=.slice a L.length cap/\Arrs w a cap L/\∀ ad,a=some ad->base<=ad.block:=by
 obtain⟨_,⟨rfl,h2⟩ | ⟨g,cap,cur,rfl,hg,hb,h1,h2,h3,h4⟩⟩:=h
 ·have:L=[]:=List.eq_nil_of_length_eq_zero h2;subst this;exact⟨none,0,rfl,Arrs.nil w,fun _ e=>by cases e⟩
 ·refine⟨some ⟨g,0,none⟩,cap,rfl,⟨h1,h2,(fun e=>by cases e),hok,?_⟩,fun ad e=>by cases e;exact hg⟩;intro ad e hne;cases e;refine⟨rfl,zE hb,fun i m hi j hj=>?_⟩;rw[zB hb];simp only[Nat.zero_add];have hlt:i<L.length:=(List.getElem?_eq_some_iff.1 hi).1;have e1:(cur.toList.take (L.length*6))[i*6+j]?=(arflat L)[i*6+j]?:=by rw[h4]
  rw[List.getElem?_take_of_lt (by omega),zEl L i m hi j hj]at e1;rw[<-Array.getElem?_toList,e1]
def AFresh (w:World)(base:Nat)(L:List ArrM):Prop:=∀ m∈L,(Strs w m.pa m.pc m.ps/\Strs w m.la m.lc m.l)/\(BlkT w m.pa 9/\BlkT w m.la 9)/\(∀ ad,m.pa=some ad->base<=ad.block)/\∀ ad,m.la=some ad->base<=ad.block
theorem AFresh.fr {S:Nat->Prop}{w w':World}{base:Nat}{L:List ArrM}(h:AFresh w base L)(hf:Fr S w w')(hS:∀ b,base<=b->b<w.heap.size->¬ S b):AFresh w' base L:=fun m hm=>by
 obtain⟨⟨h1,h2⟩,⟨h3,h4⟩,h5,h6⟩:=h m hm;have hk:∀ ad,m.pa=some ad->¬ S ad.block:=fun ad e=>by obtain⟨cs,hc⟩:=h3 ad e;exact hS _ (h5 ad e) (zE hc)
 have hk2:∀ ad,m.la=some ad->¬ S ad.block:=fun ad e=>by obtain⟨cs,hc⟩:=h4 ad e;exact hS _ (h6 ad e) (zE hc)
 exact⟨⟨h1.fr hf (fun ad e _=>hk ad e),h2.fr hf (fun ad e _=>hk2 ad e)⟩,⟨h3.fr hf hk,h4.fr hf hk2⟩,h5,h6⟩
theorem AFresh.own {w w':World}{base b0:Nat}{L:List ArrM}{v:Value}{n:Nat}{xs:List Value}(h:AFresh w base L)(ho:w.ownsRow b0 206 6 v n xs)(hf:Fr (fun b=>v.ownBlock=some b) w w'):AFresh w' base L:=fun m hm=>by
 obtain⟨⟨h1,h2⟩,⟨h3,h4⟩,h5,h6⟩:=h m hm;have hk:=BlkT.ne ho h3 (by decide);have hk2:=BlkT.ne ho h4 (by decide);exact⟨⟨h1.fr hf (fun ad e _=>hk ad e),h2.fr hf (fun ad e _=>hk2 ad e)⟩,⟨h3.fr hf hk,h4.fr hf hk2⟩,h5,h6⟩
theorem AFresh.snoc {w:World}{base:Nat}{L:List ArrM}{m:ArrM}(h:AFresh w base L)(h1:Strs w m.pa m.pc m.ps/\Strs w m.la m.lc m.l)(h2:BlkT w m.pa 9/\BlkT w m.la 9)(h3:(∀ ad,m.pa=some ad->base<=ad.block)/\∀ ad,m.la=some ad->base<=ad.block):AFresh w base (L++[m]):=fun x hx=>by
 rcases List.mem_append.1 hx with hx | hx
 ·exact h x hx
 ·obtain rfl:x=m:=by simpa using hx
  exact⟨h1,h2,h3⟩
end Go.Proofs.YtmajgldaplkpiaaGreatDoor
