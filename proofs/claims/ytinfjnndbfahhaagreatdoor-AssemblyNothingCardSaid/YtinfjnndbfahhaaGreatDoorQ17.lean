import Derived.Test.YtinfjnndbfahhaaGreatDoorQ16
import Derived.Test.YtinfjnndbfahhaaGreatDoorShelf2
namespace Go.Proofs.YtinfjnndbfahhaaGreatDoor
open Go.RowKit Go.Maps Go.Sort Go.Shelf
set_option linter.unusedVariables false
set_option maxRecDepth 100000
set_option maxHeartbeats 2000000
theorem zLA (p i f h:ByteArray)(r s t e r' o q u:Int)(v y:Value)(m:Int)(w:World)(D:p.size<=1000000)(F:f.size<=1000000)(I:w.cell? ⟨0,0,none⟩=some (.int .i64 m)):
  Calls Tryz.prog 207 #[.agg #[.string p,.string i,.int .i64 r,.int .i64 s,.int .i64 t,.int .i64 e,v],.agg #[.string f,.string h,.int .i64 r',.int .i64 o,.int .i64 q,.int .i64 u,y]] w fun C w'=>C=.returned (.bool (aheadB p r f r'))/\Fr No w w':=by
 have z:Fr No w ((w.alloc (.cells #[.string p,.string i,.int .i64 r,.int .i64 s,.int .i64 t,.int .i64 e,v] 285)).alloc (.cells #[.string f,.string h,.int .i64 r',.int .i64 o,.int .i64 q,.int .i64 u,y] 231)):=((Fr.refl _ _).alloc _).alloc _;have A:=z.cell I id;have J:=zGQ p i f h r s t e r' o q u v y m _ D F A;have L:=zh z;clear z
 go_enter Tryz.func207,Tryz.ntmps207
 go_wp2_with fail
 refine J.mono ?_;rintro C O ⟨rfl,g⟩;have N:=zh (L.out.step g zi);clear g
 go_wp2_with fail
 go_ret;exact⟨rfl,N.out⟩
structure Mem where
 p:ByteArray
 i:ByteArray
 r:Int
 s:Int
 t:Int
 e:Int
 a:Option Addr
 l:List ByteArray
 c:Nat
def Mem.vals (m:Mem):Array Value:=#[.string m.p,.string m.i,.int .i64 m.r,.int .i64 m.s,.int .i64 m.t,.int .i64 m.e,.slice m.a m.l.length m.c]
def Mem.v (m:Mem):Value:=.agg m.vals
def Mem.k (m:Mem):Mem:={ m with a:=none,c:=0 }
def Mem.zero : Mem:=⟨⟨#[]⟩,⟨#[]⟩,0,0,0,0,none,[],0⟩
def ahead (m o:Mem):Bool:=aheadB m.p m.r o.p o.r
def bestS (g:List UInt8->Option Mem)(m:Mem):List UInt8->Option Mem:=fun x=>
 if (m.l.length==1&&x==kb m.i&&(match g x with | none=>true | some o=>ahead m o))=true then some m else g x
def best (L:List Mem):List UInt8->Option Mem:=L.foldl bestS fun _=>none
theorem zBQ (L:List Mem)(m:Mem):best (L++[m])=bestS (best L) m:=by simp[best,List.foldl_append]
theorem zHW {g:List UInt8->Option Mem}{m:Mem}(h:m.l.length≠1):bestS g m=g:=by
 funext x;unfold bestS;rw[if_neg (by simp[h])]
theorem zHX {g:List UInt8->Option Mem}{m o:Mem}(f:g (kb m.i)=some o)(h:ahead m o=false):bestS g m=g:=by
 funext x;unfold bestS
 by_cases e:x=kb m.i
 ·subst e;rw[f];simp[h]
 ·rw[if_neg (by simp[e])]
theorem zDv {g:List UInt8->Option Mem}{m:Mem}(f:m.l.length=1)(h:∀ o,g (kb m.i)=some o->ahead m o=true):bestS g m=fun x=>if x=kb m.i then some m else g x:=by
 funext x;unfold bestS
 by_cases e:x=kb m.i
 ·subst e;rw[if_pos rfl];rcases hg:g (kb m.i)with _ | o
  ·simp[f]
  ·simp[f,h o hg]
 ·rw[if_neg (by simp[e]),if_neg e]
theorem zHu {α:Type}{P:List α->Prop}(f:P [])(g:∀ l x,P l->P (l++[x]))(l:List α):P l:=by
 have:∀ l:List α,P l.reverse:=by
  intro l
  induction l with
  | nil=>exact f
  | cons x t h=>rw[List.reverse_cons];exact g _ _ h
 simpa using this l.reverse
theorem zFt (g:List UInt8->Option Mem)(m:Mem)(x:List UInt8):(bestS g m x=some m/\m.l.length=1/\x=kb m.i/\∀ o,g x=some o->ahead m o=true)\/(bestS g m x=g x/\(m.l.length=1->x=kb m.i->∃ o,g x=some o/\ahead m o=false)):=by
 by_cases f:m.l.length=1
 ·by_cases q:x=kb m.i
  ·rcases hg:g x with _ | o
   ·refine .inl ⟨?_,f,q,fun o u=>by cases u⟩;unfold bestS;rw[hg];simp[f,q]
   ·cases ha:ahead m o with
    | true=>
     refine .inl ⟨?_,f,q,fun v u=>by cases u;exact ha⟩;unfold bestS;rw[hg];simp[f,q,ha]
    | false=>
     refine .inr ⟨?_,fun _ _=>⟨o,rfl,ha⟩⟩;unfold bestS;rw[hg];simp[ha]
  ·refine .inr ⟨?_,fun _ h=>absurd h q⟩;unfold bestS;rw[if_neg (by simp[q])]
 ·refine .inr ⟨?_,fun h=>absurd h f⟩;unfold bestS;rw[if_neg (by simp[f])]
theorem zCi (L:List Mem):∀ x m,best L x=some m->m∈L/\m.l.length=1/\kb m.i=x:=by
 refine zHu (P:=fun L=>∀ x m,best L x=some m->m∈L/\m.l.length=1/\kb m.i=x) ?_ ?_ L
 ·intro x m h;cases h
 ·intro l y g x m h;rw[zBQ]at h;rcases zFt (best l) y x with⟨f,o,q,_⟩ | ⟨f,_⟩
  ·rw[f]at h;cases h;exact⟨by simp,o,q.symm⟩
  ·rw[f]at h;obtain⟨a,b⟩:=g x m h;exact⟨by simp[a],b⟩
structure IsIds (L:List Mem)(ids:List ByteArray):Prop where
 asc:AscS (ids.map kb)
 mem:∀ x:ByteArray,x∈ids↔(best L (kb x)).isSome=true
theorem zCL : ∀ {l l':List ByteArray},l.map kb=l'.map kb->l=l'
 | [],[],_=>rfl
 | [],_::_,h=>by simp at h
 | _::_,[],h=>by simp at h
 | x::s,y::t,h=>by
  simp only[List.map_cons,List.cons.injEq]at h;rw[zE5 h.1,zCL h.2]
theorem zKM {l:List ByteArray}{x:List UInt8}:x∈l.map kb↔bk x∈l:=by
 constructor
 ·intro h;obtain⟨y,f,rfl⟩:=List.mem_map.1 h
  rwa [zEY]
 ·intro h;exact List.mem_map.2 ⟨_,h,zHK x⟩
def own1 (L:List Mem)(ids:List ByteArray):List Mem:=ids.map fun x=>((best L (kb x)).getD Mem.zero).k

def zAX (good:Mem->Bool)(g:ByteArray×Int->Option Mem)(m:Mem):ByteArray×Int->Option Mem:=fun x=>
 if (good m&&decide (x=(m.i,m.s))&&(match g x with | none=>true | some o=>ahead m o))=true then some m else g x
def zo (good:Mem->Bool)(L:List Mem):ByteArray×Int->Option Mem:=L.foldl (zAX good) fun _=>none
section
variable {good:Mem->Bool}
theorem zAb (L:List Mem)(m:Mem):zo good (L++[m])=zAX good (zo good L) m:=by simp[zo,List.foldl_append]
theorem zFH (g:ByteArray×Int->Option Mem)(m:Mem)(x:ByteArray×Int):(zAX good g m x=some m/\good m=true/\x=(m.i,m.s)/\∀ o,g x=some o->ahead m o=true)\/(zAX good g m x=g x/\(good m=true->x=(m.i,m.s)->∃ o,g x=some o/\ahead m o=false)):=by
 by_cases f:good m=true
 ·by_cases q:x=(m.i,m.s)
  ·rcases hg:g x with _ | o
   ·refine .inl ⟨?_,f,q,fun o u=>by cases u⟩;unfold zAX;rw[hg];simp[f,q]
   ·cases ha:ahead m o with
    | true=>
     refine .inl ⟨?_,f,q,fun v u=>by cases u;exact ha⟩;unfold zAX;rw[hg];simp[f,q,ha]
    | false=>
     refine .inr ⟨?_,fun _ _=>⟨o,rfl,ha⟩⟩;unfold zAX;rw[hg];simp[ha]
  ·refine .inr ⟨?_,fun _ h=>absurd h q⟩;unfold zAX;rw[if_neg (by simp[q])]
 ·refine .inr ⟨?_,fun h=>absurd h f⟩;unfold zAX;rw[if_neg (by simp[f])]
theorem zDO {g:ByteArray×Int->Option Mem}{m:Mem}(h:good m=false):zAX good g m=g:=by
 funext x;unfold zAX;rw[if_neg (by simp[h])]
theorem zFu {g:ByteArray×Int->Option Mem}{m o:Mem}(f:g (m.i,m.s)=some o)(h:ahead m o=false):zAX good g m=g:=by
 funext x;unfold zAX
 by_cases e:x=(m.i,m.s)
 ·subst e;rw[f];simp[h]
 ·rw[if_neg (by simp[e])]
theorem zBm {g:ByteArray×Int->Option Mem}{m:Mem}(f:good m=true)(h:∀ o,g (m.i,m.s)=some o->ahead m o=true):zAX good g m=fun x=>if x=(m.i,m.s)then some m else g x:=by
 funext x;unfold zAX
 by_cases e:x=(m.i,m.s)
 ·subst e;rw[if_pos rfl];rcases hg:g (m.i,m.s)with _ | o
  ·simp[f]
  ·simp[f,h o hg]
 ·rw[if_neg (by simp[e]),if_neg e]
theorem zCB (L:List Mem):∀ x m,zo good L x=some m->m∈L/\good m=true/\(m.i,m.s)=x:=by
 refine zHu (P:=fun L=>∀ x m,zo good L x=some m->m∈L/\good m=true/\(m.i,m.s)=x) ?_ ?_ L
 ·intro x m h;cases h
 ·intro l y g x m h;rw[zAb]at h;rcases zFH (zo good l) y x with⟨f,o,q,_⟩ | ⟨f,_⟩
  ·rw[f]at h;cases h;exact⟨by simp,o,q.symm⟩
  ·rw[f]at h;obtain⟨a,b⟩:=g x m h;exact⟨by simp[a],b⟩
end
def soundB (m:Mem):Bool:=!m.p.toList.isEmpty&&(decide (1<=m.s)&&decide (m.s<=16))&&(decide (1<=m.t)&&decide (m.t<=16))
structure Arr where
 i:ByteArray
 ps:List ByteArray
 t:Int
 e:Int
 n:Int
 l:List ByteArray
def zAz (b:ByteArray×Int->Option Mem)(id:ByteArray):Int:=(((List.range 16).find? fun (k:Nat)=>(b (id,(k:Int)+1)).isSome).getD 0:Nat)+1
def zAW (b:ByteArray×Int->Option Mem)(id:ByteArray):Mem:=(b (id,zAz b id)).getD Mem.zero
def pathAt (b:ByteArray×Int->Option Mem)(id:ByteArray)(k:Nat):ByteArray:=match b (id,(k:Int)+1)with | some m=>m.p | none=>⟨#[]⟩
def buildA (b:ByteArray×Int->Option Mem)(id:ByteArray):Arr:=
 ⟨id,(List.range (zAW b id).t.toNat).map (pathAt b id),(zAW b id).t,(zAW b id).e,((List.range (zAW b id).t.toNat).filter fun (k:Nat)=>(b (id,(k:Int)+1)).isSome).length,(zAW b id).l⟩
structure IsIds2 (b:ByteArray×Int->Option Mem)(ids:List ByteArray):Prop where
 asc:AscS (ids.map kb)
 mem:∀ x:ByteArray,x∈ids↔∃ s:Int,(b (x,s)).isSome=true
theorem IsIds2.unique {b:ByteArray×Int->Option Mem}{g f:List ByteArray}(h:IsIds2 b g)(o:IsIds2 b f):g=f:=by
 refine zCL (AscS.ext h.asc o.asc fun x=>?_);rw[zKM,zKM,h.mem,o.mem]
structure IsSlots (b:ByteArray×Int->Option Mem)(id:ByteArray)(zs:List Int):Prop where
 nodup:zs.Nodup
 mem:∀ s:Int,s∈zs↔(b (id,s)).isSome=true
theorem zEM {b:ByteArray×Int->Option Mem}{g:ByteArray}{o:List Int}(h:IsSlots b g o)(u:∀ s∈o,1<=s/\s<=16){m:Int}(q:m∈o)(f:∀ s∈o,m<=s):zAz b g=m:=by
 unfold zAz;obtain⟨y,z⟩:=u m q;obtain⟨k,rfl⟩:∃ k:Nat,m=(k:Int)+1:=⟨(m-1).toNat,by omega⟩
 have v:(List.range 16).find? (fun (k:Nat)=>(b (g,(k:Int)+1)).isSome)=some k:=by
  rw[List.find?_range_eq_some];refine⟨(h.mem _).1 q,List.mem_range.2 (by omega),fun j A=>?_⟩;cases hb:(b (g,(j:Int)+1)).isSome with
  | false=>rfl
  | true=>
   have:=f _ ((h.mem _).2 hb);omega
 rw[v];rfl
def psJ (b:ByteArray×Int->Option Mem)(id:ByteArray)(T:Nat)(zs:List Int):List ByteArray:=(List.range T).map fun (k:Nat)=>if ((k:Int)+1)∈zs then pathAt b id k else ⟨#[]⟩
def cntJ (T:Int)(zs:List Int):Nat:=(zs.filter fun s=>decide (s<=T)).length
theorem zEC (b:ByteArray×Int->Option Mem)(f:ByteArray)(T:Nat)(g:List Int):(psJ b f T g).length=T:=by simp[psJ]
theorem zKz (b:ByteArray×Int->Option Mem)(f:ByteArray)(T:Nat):psJ b f T []=List.replicate T ⟨#[]⟩:=by
 unfold psJ;simp only[List.not_mem_nil,if_false];rw[List.map_const',List.length_range]
theorem zKy (b:ByteArray×Int->Option Mem)(g:ByteArray)(T:Nat)(f:List Int)(k:Nat)(q:k<T):psJ b g T (f++[(k:Int)+1])=(psJ b g T f).set k (pathAt b g k):=by
 apply List.ext_getElem?;intro j;rw[List.getElem?_set];unfold psJ;by_cases h:j<T
 ·simp only[List.getElem?_map,List.getElem?_range h,Option.map_some,List.length_map,List.length_range];by_cases e:k=j
  ·subst e;simp[h]
  ·have:((j:Int)+1∈f++[(k:Int)+1])↔(j:Int)+1∈f:=by
    simp;omega
   simp only[this,if_neg e]
 ·have o:(List.range T)[j]?=none:=List.getElem?_eq_none (by simp;omega);rw[List.getElem?_map,List.getElem?_map,o];have e:k≠j:=by omega
  simp[e]
theorem zJQ (b:ByteArray×Int->Option Mem)(g:ByteArray)(T:Nat)(f:List Int)(s:Int)(q:¬ s<=T):psJ b g T (f++[s])=psJ b g T f:=by
 unfold psJ;refine List.map_congr_left (fun k h=>?_);have o:=List.mem_range.1 h;have:((k:Int)+1∈f++[s])↔(k:Int)+1∈f:=by simp;omega
 simp only[this]
theorem zJR {b:ByteArray×Int->Option Mem}{f:ByteArray}{o:List Int}(h:IsSlots b f o)(T:Nat):psJ b f T o=(List.range T).map (pathAt b f):=by
 unfold psJ;refine List.map_congr_left (fun k _=>?_);split
 ·rfl
 ·rename_i g;rw[h.mem]at g;unfold pathAt;rcases hb:b (f,(k:Int)+1)with _ | m
  ·rfl
  ·rw[hb]at g;simp at g
theorem zIj {b:ByteArray×Int->Option Mem}{g:ByteArray}{f:List Int}(h:IsSlots b g f)(v:∀ s∈f,1<=s)(T:Nat):cntJ T f=((List.range T).filter fun (k:Nat)=>(b (g,(k:Int)+1)).isSome).length:=by
 unfold cntJ;have y:(f.filter fun s=>decide (s<=(T:Int))).Perm (((List.range T).filter fun (k:Nat)=>(b (g,(k:Int)+1)).isSome).map fun k:Nat=>(k:Int)+1):=by
  rw[List.perm_ext_iff_of_nodup]
  ·intro s;simp only[List.mem_filter,List.mem_map,List.mem_range,decide_eq_true_eq];constructor
   ·rintro ⟨o,u⟩;have z:=v s o;refine⟨(s-1).toNat,⟨by omega,?_⟩,by omega⟩;rw[show (((s-1).toNat:Nat):Int)+1=s by omega];exact(h.mem s).1 o
   ·rintro ⟨k,⟨o,u⟩,rfl⟩;exact⟨(h.mem _).2 u,by omega⟩
  ·exact h.nodup.sublist List.filter_sublist
  ·refine List.pairwise_map.2 ((List.nodup_range.sublist List.filter_sublist).imp (fun {a b} q e=>q (by omega)))
 rw[y.length_eq,List.length_map]
theorem zFF (T:Int)(f:List Int)(s:Int):cntJ T (f++[s])=cntJ T f+(if s<=T then 1 else 0):=by
 unfold cntJ;rw[List.filter_append,List.length_append]
 congr 1
 by_cases h:s<=T<;>simp[h]
theorem zLT (T:Int)(f:List Int):cntJ T f<=f.length:=List.length_filter_le _ _
theorem zLl (a:Option Addr)(g:Nat)(l:List Int)(w:World)(A:Ints w a g l)(C:1<=l.length):
  Calls Tryz.prog 206 #[.slice a l.length g] w fun e w'=>(∃ m,e=.returned (.int .i64 m)/\m∈l/\∀ x∈l,m<=x)/\w=w':=by
 have hn:¬ (l.length:Int)<1:=by omega
 have hm:=A.lenmax;have Y:(0:Int)<l.length:=by omega
 obtain⟨b,Z,N,rfl,o,D⟩:=A.at (k:=0) (by omega);rw[Nat.add_zero]at D;have F:=zh o;clear o
 go_enter Tryz.func206,Tryz.ntmps206
 go_wp2_with fail
 go_loop [3,4] (fun v i=>∃ (k:Nat) (m:Int),1<=k/\k<=l.length/\v=.int .i64 m/\i=.int .i64 (k:Int)/\Hid (m∈l.take k/\∀ x∈l.take k,m<=x)) (fun _ i=>l.length-(intOf i).toNat)
 case atStart=>
  refine⟨1,N,by omega,C,rfl,rfl,?_⟩;unfold Hid;have:l.take 1=[N]:=by rw[List.take_add_one,F.out];rfl
  rw[this];simp
 case round=>
  obtain⟨k,m,a2,hk,rfl,rfl,z⟩:=hrel;by_cases I:k<l.length
  ·have O:(k:Int)<l.length:=by omega
   obtain⟨b',R,x,e,U,hc⟩:=A.at I;cases e;have q:Hid (l.take (k+1)=l.take k++[x]):=by unfold Hid;rw[List.take_add_one,U];rfl
   clear U;by_cases f:m<=x
   ·have u:min m x=m:=by omega
    go_wp2_with fail
    go_round
    case rel=>
     refine⟨k+1,m,by omega,by omega,by first | rfl | (rw[if_pos f]),by go_num,?_⟩;unfold Hid;rw[q.out];obtain⟨V,J⟩:=z.out;refine⟨by simp[V],fun y L=>?_⟩;rcases List.mem_append.1 L with h | h
     ·exact J y h
     ·obtain rfl:y=x:=by simpa using h
      exact f
    case measure=>simp[intOf];omega
   ·have u:min m x=x:=by omega
    go_wp2_with fail
    go_round
    case rel=>
     refine⟨k+1,x,by omega,by omega,by first | rfl | (rw[if_neg f]),by go_num,?_⟩;unfold Hid;rw[q.out];obtain⟨V,J⟩:=z.out;refine⟨by simp,fun y L=>?_⟩;rcases List.mem_append.1 L with h | h
     ·have:=J y h;omega
     ·obtain rfl:y=x:=by simpa using h
      omega
    case measure=>simp[intOf];omega
  ·obtain rfl:k=l.length:=by omega
   have h:=z.out;rw[List.take_length]at h;have X:=zh h;clear h z
   go_wp2_with fail
   go_ret;exact⟨⟨m,rfl,X.out.1,X.out.2⟩,rfl⟩
theorem zKi (f:Option Nat)(w:World):Calls Tryz.prog 246 #[.map f] w fun e w'=>e=.returned (.func (.func 280) #[] #[.pointer (some ⟨w.heap.size,0,none⟩)])/\w'=w.alloc (.cells #[.map f] 281):=
 (callsIn_wide (n:=5)).1 (AnyZ.keys_in Tryz.keysT Fence.wide 5 trivial rfl f w)
theorem zHl (Y I C:Nat)(f:List UInt8->List Int)(N:Nat)(w:World)(hs:GMap w C Y f N)(hN:N<=1099511627776)(hB:w.cell? ⟨I,0,none⟩=some (.map (some Y)))(Z:I<w.heap.size):
  Calls Tryz.prog 208 #[.func (.func 280) #[] #[.pointer (some ⟨I,0,none⟩)]] w fun e w'=>
   (∃ a z o,e=.returned (.slice a o.length z)/\Strs w' a z o/\AscS (o.map kb)/\(∀ x:ByteArray,x∈o↔(f (kb x))≠[])/\o.length<=N/\∀ ad,a=some ad->w.heap.size<=ad.block)/\Fr No w w':=by
 obtain⟨D,n,hn,hg,_,hf⟩:=hs;obtain⟨es,F,O,Ft,R,hD,_⟩:=hg;have g:w.ownsMap Tryz.prog 9 (rowElem w C 3 .i64) Y n D:=⟨es,F,O,Ft,R,hD⟩
 clear O Ft R hD;have a5:=g.size_le;have U:Maps.size D<=maxLen:=by unfold maxLen;omega
 have A:Maps.size D*16<=140737488355328:=by omega
 have V:=zC4 g Tryz.underlying9;have a2:=zBw g lawS Tryz.underlying9;have a4:=zCr D;have X:SeqGives Fence.wide 2 Tryz.prog 280 #[.pointer (some ⟨I,0,none⟩)] encStr (fun J=>J.Perm (strKeys D)) (Maps.size D) w:=
  AnyZ.keys_gives (ρ:=Tryz.keysT_ren) { Tryz.keysT with } Fence.wide _ trivial rfl (by omega) I Y n D _ Z hB g
 have cS:=AnyZ.sorted_in Tryz.sortedS Fence.wide 5 trivial trivial trivial trivial rfl (by omega) (sortsS _) (enters_of Tryz.func248 (by kernel_rfl) rfl) 280 #[.pointer (some ⟨I,0,none⟩)] trivial (enters_of Tryz.func280 (by kernel_rfl) rfl) _ _ U A _ X;refine((callsIn_wide (n:=5)).1 cS).mono ?_;rintro e w' ⟨v,J,rfl,q,u,_,hb⟩;have hp:(J.mergeSort (fun x y=>decide (x<=y))).Perm (strKeys D):=(List.mergeSort_perm J _).trans q;obtain⟨L,hL⟩:∃ L,L=(J.mergeSort (fun x y=>decide (x<=y))):=⟨_,rfl⟩
 have hl:(L.map bk).length=J.length:=by rw[hL];simp
 have e1:L.map encStr=(L.map bk).map Value.string:=by rw[List.map_map];rfl
 rw[<-hL]at hp u;rw[<-hl,e1]at u;obtain⟨a,z,rfl,h1,h2⟩:=Strs.of_own u;have e2:(L.map bk).map kb=L:=by
  rw[List.map_map];have:kb∘bk=id:=by funext x;exact zHK x
  rw[this,List.map_id]
 refine⟨⟨a,z,L.map bk,rfl,h1,?_,fun x=>?_,?_,h2⟩,Fr.of_below_size hb⟩
 ·rw[e2,hL];exact zDP (q.nodup_iff.2 a2)
 ·have a3:f (kb x)≠[]↔has D (.string (kb x))=true:=by rw[hf];cases f (kb x)<;>simp
  rw[a3,<-V,<-hp.mem_iff];constructor
  ·intro h;obtain⟨y,hy,rfl⟩:=List.mem_map.1 h
   rwa [zHK]
  ·intro h;exact List.mem_map.2 ⟨_,h,zEY x⟩
 ·rw[List.length_map,hp.length_eq];omega
theorem zG3 (q o:Nat)(f:List UInt8->List Int)(N:Nat)(w:World)(I:GMap w o q f N)(R:N<=1099511627776):
  Calls Tryz.prog 205 #[.map (some q)] w fun e w'=>
   (∃ a y g,e=.returned (.slice a g.length y)/\Strs w' a y g/\AscS (g.map kb)/\(∀ x:ByteArray,x∈g↔(f (kb x))≠[])/\g.length<=N/\∀ C,a=some C->w.heap.size<=C.block)/\Fr No w w':=by
 have U:q<w.heap.size:=I.lt;have J:Fr No w (w.alloc (.cells #[.map (some q)] 281)):=(Fr.refl _ _).alloc _;have z:GMap (w.alloc (.cells #[.map (some q)] 281)) o q f N:=I.grown (World.grownBy_alloc w _ none) (by simp) (fun j V=>by cases V);have L:=zD w (.cells #[.map (some q)] 281);have D:w.heap.size<(w.alloc (.cells #[.map (some q)] 281)).heap.size:=by simp
 go_enter Tryz.func205,Tryz.ntmps205
 go_wp2_with fail
 refine(zKi _ _).mono ?_;rintro X w1 ⟨rfl,rfl⟩
 go_wp2_with fail
 generalize w.alloc (.cells #[.map (some q)] 281)=W1 at *;refine(zHl q w.heap.size o f N W1 z R (zB L 0) D).mono ?_;rintro X w2 ⟨⟨Y,Z,g,rfl,O,u,v,F,h⟩,A⟩;have H:=zh (And.intro O (And.intro u (And.intro v (And.intro h (J.step A zi)))));clear O u v h A z L J
 go_wp2_with fail
 go_ret;exact⟨⟨Y,Z,g,rfl,H.out.1,H.out.2.1,H.out.2.2.1,F,fun C e=>by have:=H.out.2.2.2.1 C e;omega⟩,H.out.2.2.2.2⟩
theorem zIY (p i:ByteArray)(r s t e:Int)(v:Value)(w:World):
  Calls Tryz.prog 161 #[.agg #[.string p,.string i,.int .i64 r,.int .i64 s,.int .i64 t,.int .i64 e,v]] w fun u w'=>u=.returned (.bool (!p.toList.isEmpty&&(decide (1<=s)&&decide (s<=16))&&(decide (1<=t)&&decide (t<=16))))/\Fr No w w':=by
 have o:Fr No w (w.alloc (.cells #[.string p,.string i,.int .i64 r,.int .i64 s,.int .i64 t,.int .i64 e,v] 231)):=(Fr.refl _ _).alloc _;have f:=zh o;clear o;obtain⟨b,h⟩:∃ b,b=(!p.toList.isEmpty&&(decide (1<=s)&&decide (s<=16))&&(decide (1<=t)&&decide (t<=16))):=⟨_,rfl⟩
 rw[<-h];have g:=zh h;clear h
 go_enter Tryz.func161,Tryz.ntmps161
 rcases h1:p.toList.isEmpty with _ | _
 ·by_cases y:1<=s
  ·by_cases z:s<=16
   ·by_cases A:1<=t
    ·by_cases q:t<=16
     ·go_wp2_with fail
      go_ret;exact⟨by rw[g.out,h1];simp[y,z,A,q],f.out⟩
     ·go_wp2_with fail
      go_ret;exact⟨by rw[g.out,h1];simp[q],f.out⟩
    ·go_wp2_with fail
     go_ret;exact⟨by rw[g.out,h1];simp;omega,f.out⟩
   ·go_wp2_with fail
    go_ret;exact⟨by rw[g.out,h1];simp;omega,f.out⟩
  ·go_wp2_with fail
   go_ret;exact⟨by rw[g.out,h1];simp;omega,f.out⟩
 ·go_wp2_with fail
  go_ret;exact⟨by rw[g.out,h1];simp,f.out⟩
theorem zLh (p i:ByteArray)(r s t e:Int)(v:Value)(w:World):
  Calls Tryz.prog 166 #[.agg #[.string p,.string i,.int .i64 r,.int .i64 s,.int .i64 t,.int .i64 e,v]] w fun h w'=>h=.returned (.bool (!p.toList.isEmpty&&(decide (1<=s)&&decide (s<=16))&&(decide (1<=t)&&decide (t<=16))))/\Fr No w w':=by
 have o:Fr No w (w.alloc (.cells #[.string p,.string i,.int .i64 r,.int .i64 s,.int .i64 t,.int .i64 e,v] 231)):=(Fr.refl _ _).alloc _;have q:=zIY p i r s t e v (w.alloc (.cells #[.string p,.string i,.int .i64 r,.int .i64 s,.int .i64 t,.int .i64 e,v] 231));have u:=zh o;clear o
 go_enter Tryz.func166,Tryz.ntmps166
 go_wp2_with fail
 refine q.mono ?_;rintro h z ⟨rfl,f⟩;have H:=zh (u.out.step f zi);clear f q;obtain⟨b,g⟩:∃ b,b=(!p.toList.isEmpty&&(decide (1<=s)&&decide (s<=16))&&(decide (1<=t)&&decide (t<=16))):=⟨_,rfl⟩
 rw[<-g];have y:=zh g;clear g
 go_wp2_with fail
 go_ret;exact⟨by rw[<-y.out];rfl,H.out⟩
structure ArrM extends Arr where
 pa:Option Addr
 pc:Nat
 la:Option Addr
 lc:Nat
def ArrM.vals (m:ArrM):Array Value:=#[.string m.i,.slice m.pa m.ps.length m.pc,.int .i64 m.t,.int .i64 m.e,.int .i64 m.n,.slice m.la m.l.length m.lc]
structure Arrs (w:World)(a:Option Addr)(cap:Nat)(L:List ArrM):Prop where
 len:L.length<=cap
 max:cap<=maxLen
 isNil:a=none->L=[]/\cap=0
 ok:∀ m∈L,Strs w m.pa m.pc m.ps/\Strs w m.la m.lc m.l
 cell:∀ ad,a=some ad->L≠[]->ad.spot=none/\ad.block<w.heap.size/\∀ i m,L[i]?=some m->∀ j,j<6->w.cell? ⟨ad.block,ad.off+(i*6+j),none⟩=m.vals[j]?
structure ArrAt (w:World)(b o:Nat)(m:ArrM):Prop where
 c0:w.cell? ⟨b,o,none⟩=some (.string m.i)
 c1:w.cell? ⟨b,o+1,none⟩=some (.slice m.pa m.ps.length m.pc)
 c2:w.cell? ⟨b,o+2,none⟩=some (.int .i64 m.t)
 c3:w.cell? ⟨b,o+3,none⟩=some (.int .i64 m.e)
 c4:w.cell? ⟨b,o+4,none⟩=some (.int .i64 m.n)
 c5:w.cell? ⟨b,o+5,none⟩=some (.slice m.la m.l.length m.lc)
theorem Arrs.elem {w:World}{a:Option Addr}{q:Nat}{L:List ArrM}(h:Arrs w a q L){k:Nat}(o:k<L.length):
  ∃ b f m,a=some ⟨b,f,none⟩/\L[k]?=some m/\(Strs w m.pa m.pc m.ps/\Strs w m.la m.lc m.l)/\ArrAt w b (f+k*6) m/\b<w.heap.size:=by
 cases a with
 | none=>obtain⟨rfl,_⟩:=h.isNil rfl;simp at o
 | some v=>
  obtain⟨b,f,A⟩:=v;obtain⟨u,y,z⟩:=h.cell _ rfl (by intro e;subst e;simp at o);simp at u;subst u;have g:=z k _ (List.getElem?_eq_getElem o);exact⟨b,f,L[k],rfl,List.getElem?_eq_getElem o,h.ok _ (List.getElem_mem o),⟨g 0 (by omega),g 1 (by omega),g 2 (by omega),g 3 (by omega),g 4 (by omega),g 5 (by omega)⟩,y⟩
theorem Arrs.lenmax {w:World}{a:Option Addr}{f:Nat}{L:List ArrM}(h:Arrs w a f L):L.length<=9223372036854775807:=by
 have o:=h.len;have g:=h.max;unfold maxLen at g;omega
theorem Arrs.fr {S:Nat->Prop}{w w':World}{a:Option Addr}{g:Nat}{L:List ArrM}(h:Arrs w a g L)(q:Fr S w w')(z:∀ f,a=some f->L≠[]->¬ S f.block)(v:∀ m∈L,(∀ f,m.pa=some f->m.ps≠[]->¬ S f.block)/\∀ f,m.la=some f->m.l≠[]->¬ S f.block):Arrs w' a g L:=
 ⟨h.len,h.max,h.isNil,fun m u=>⟨(h.ok m u).1.fr q (v m u).1,(h.ok m u).2.fr q (v m u).2⟩,fun f e o=>by
  obtain⟨A,y,C⟩:=h.cell f e o;refine⟨A,Nat.lt_of_lt_of_le y q.size,fun i m D j F=>?_⟩;rw[<-C i m D j F];exact World.cell?_of_block (q.block _ y (z f e o))⟩
theorem Arrs.nil (w:World):Arrs w none 0 []:=⟨by simp,by simp,fun _=>⟨rfl,rfl⟩,by simp,fun _ e _=>by cases e⟩
theorem infoAr : (Tryz.prog.info? 176).map (fun i=>(i.zero,i.size,i.bytes))=some (some (.agg #[.string ByteArray.empty,.slice none 0 0,.int .i64 0,.int .i64 0,.int .i64 0,.slice none 0 0]),6,88):=by kernel_rfl
def arflat (L:List ArrM):List Value:=L.flatMap (fun m=>m.vals.toList)
theorem zFy (L:List ArrM)(m:ArrM):arflat (L++[m])=arflat L++m.vals.toList:=by simp[arflat]
theorem zHY (m:ArrM):∀ u∈m.vals.toList,u.oneCell'=true:=by
 intro u f;simp[ArrM.vals]at f;rcases f with rfl | rfl | rfl | rfl | rfl | rfl<;>rfl
theorem zFI : ∀ (L:List ArrM) (i:Nat) (m:ArrM),L[i]?=some m->∀ j,j<6->(arflat L)[i*6+j]?=m.vals[j]?
 | [],i,m,h,j,f=>by simp at h
 | x::t,0,m,h,j,f=>by
  simp at h;subst h;have:arflat (x::t)=x.vals.toList++arflat t:=by simp[arflat]
  rw[this,List.getElem?_append_left (by simp[ArrM.vals];omega)];simp
 | x::t,i+1,m,h,j,f=>by
  have:arflat (x::t)=x.vals.toList++arflat t:=by simp[arflat]
  rw[this,List.getElem?_append_right (by simp[ArrM.vals];omega),show (i+1)*6+j-x.vals.toList.length=i*6+j from by simp[ArrM.vals];omega];exact zFI t i m (by simpa using h) j f
theorem Arrs.of_own {w:World}{o:Nat}{e:TypeId}{v:Value}{L:List ArrM}(h:w.ownsRow o e 6 v L.length (arflat L))(u:∀ m∈L,Strs w m.pa m.pc m.ps/\Strs w m.la m.lc m.l):
  ∃ a f,v=.slice a L.length f/\Arrs w a f L/\∀ q,a=some q->o<=q.block:=by
 obtain⟨_,⟨rfl,y⟩ | ⟨g,f,z,rfl,F,A,I,y,U,J⟩⟩:=h
 ·have:L=[]:=List.eq_nil_of_length_eq_zero y;subst this;exact⟨none,0,rfl,Arrs.nil w,fun _ e=>by cases e⟩
 ·refine⟨some ⟨g,0,none⟩,f,rfl,⟨I,y,(fun e=>by cases e),u,?_⟩,fun q e=>by cases e;exact F⟩;intro q e N;cases e;refine⟨rfl,zC A,fun i m C j O=>?_⟩;rw[zB A];simp only[Nat.zero_add];have R:i<L.length:=(List.getElem?_eq_some_iff.1 C).1;have D:(z.toList.take (L.length*6))[i*6+j]?=(arflat L)[i*6+j]?:=by rw[J]
  rw[List.getElem?_take_of_lt (by omega),zFI L i m C j O]at D;rw[<-Array.getElem?_toList,D]
def AFresh (w:World)(base:Nat)(L:List ArrM):Prop:=∀ m∈L,(Strs w m.pa m.pc m.ps/\Strs w m.la m.lc m.l)/\(BlkT w m.pa 9/\BlkT w m.la 9)/\(∀ ad,m.pa=some ad->base<=ad.block)/\∀ ad,m.la=some ad->base<=ad.block
theorem AFresh.fr {S:Nat->Prop}{w w':World}{g:Nat}{L:List ArrM}(h:AFresh w g L)(q:Fr S w w')(v:∀ b,g<=b->b<w.heap.size->¬ S b):AFresh w' g L:=fun m F=>by
 obtain⟨⟨I,J⟩,⟨y,z⟩,A,C⟩:=h m F;have D:∀ f,m.pa=some f->¬ S f.block:=fun f e=>by obtain⟨cs,u⟩:=y f e;exact v _ (A f e) (zC u)
 have o:∀ f,m.la=some f->¬ S f.block:=fun f e=>by obtain⟨cs,u⟩:=z f e;exact v _ (C f e) (zC u)
 exact⟨⟨I.fr q (fun f e _=>D f e),J.fr q (fun f e _=>o f e)⟩,⟨y.fr q D,z.fr q o⟩,A,C⟩
theorem AFresh.own {w w':World}{f C:Nat}{L:List ArrM}{v:Value}{n:Nat}{D:List Value}(h:AFresh w f L)(u:w.ownsRow C 176 6 v n D)(o:Fr (fun b=>v.ownBlock=some b) w w'):AFresh w' f L:=fun m F=>by
 obtain⟨⟨I,J⟩,⟨y,z⟩,N,O⟩:=h m F;have A:=BlkT.ne u y (by decide);have g:=BlkT.ne u z (by decide);exact⟨⟨I.fr o (fun q e _=>A q e),J.fr o (fun q e _=>g q e)⟩,⟨y.fr o A,z.fr o g⟩,N,O⟩
theorem AFresh.snoc {w:World}{f:Nat}{L:List ArrM}{m:ArrM}(h:AFresh w f L)(q:Strs w m.pa m.pc m.ps/\Strs w m.la m.lc m.l)(u:BlkT w m.pa 9/\BlkT w m.la 9)(v:(∀ g,m.pa=some g->f<=g.block)/\∀ g,m.la=some g->f<=g.block):AFresh w f (L++[m]):=fun x o=>by
 rcases List.mem_append.1 o with o | o
 ·exact h x o
 ·obtain rfl:x=m:=by simpa using o
  exact⟨q,u,v⟩
theorem zAc {w:World}{g:Array Oper}{f:List Oper}{o:Oper}{a:Act}{Q:Exit->Act->World->Prop}(A:o.guard=none)(m x:Operand)(t:TypeId)(q:o.op=Op.lookup t m x false)
  (y z v:Value) (C:a.eval m=y) (D:a.eval x=z) (h:(Instr.lookup t y z false).run Tryz.prog w=.ok v w)
  (F:wpList Tryz.prog g Q f (a.put o.dst v) w):wpList Tryz.prog g Q (o::f) a w:=by
 refine wpList_plain A fun I u=>?_
 unfold Oper.wp;simp[execOp,q,C,D,h,Result.andThen];exact u _ _ F
theorem zDa {w:World}{g:Array Oper}{f:List Oper}{o:Oper}{a:Act}{Q:Exit->Act->World->Prop}(D:o.guard=none)(m x v:Operand)(t:TypeId)(q:o.op=Op.mapUpdate t m x v)
  (y z A:Value) (F:a.eval m=y) (I:a.eval x=z) (J:a.eval v=A) {C:World} (h:(Instr.mapUpdate t y z A).run Tryz.prog w=.ok () C)
  (L:wpList Tryz.prog g Q f (a.put o.dst undef) C):wpList Tryz.prog g Q (o::f) a w:=by
 refine wpList_plain D fun N u=>?_
 unfold Oper.wp;simp[execOp,q,F,I,J,h,Result.andThen];exact u _ _ L
theorem zBV {o:Oper}{a:Act}{S:World->Prop}{K:Act->Prop}(C:o.guard=none)(m x:Operand)(t:TypeId)(g:o.op=Op.lookup t m x false)(h q v:Value)(u:a.eval m=h)(y:a.eval x=q)
  (f:∀ W,S W->(Instr.lookup t h q false).run Tryz.prog W=.ok v W) (z:K (a.put o.dst v)):o.quiet Tryz.prog a S K:=by
 refine⟨v,fun W A=>?_,z⟩;unfold Oper.quietAt;simp[execOp,g,u,y,f W A,Result.andThen,Oper.quietUpon]
theorem hfdM : ∀ (p i:ByteArray) (r s t e:Int) (a:Option Addr) (n c:Nat) (W:World),(Instr.field 231 (.agg #[.string p,.string i,.int .i64 r,.int .i64 s,.int .i64 t,.int .i64 e,.slice a n c]) 0).run Tryz.prog W=.ok (.string p) W:=by intros;kernel_rfl
theorem Fr.grownF {w w':World}(h:Fr (From w.heap.size) w w'):w.grownBy w' none:=⟨h.os,h.tape,h.output,h.size,fun k f _=>h.block k f (by unfold From;omega)⟩
def mapP (g:ByteArray×Int->Option Mem):ByteArray×Int->Option Value:=fun x=>(g x).map Mem.v
theorem zGO (g:ByteArray×Int->Option Mem)(x:ByteArray×Int)(m:Mem):updP (mapP g) x m.v=mapP (fun y=>if y=x then some m else g y):=by
 funext y
 unfold updP mapP;by_cases h:y=x<;>simp[h]
theorem zL4 : (Tryz.prog.info? 3).map (fun i=>(i.zero,i.size,i.bytes))=some (some (.int .i64 0),1,8):=by kernel_rfl
structure Grp (D:DataW Value)(left:Lit->Bool)(f:List UInt8->List Int):Prop where
 mem:∀ (x:ByteArray) (s:Int),s∈f (kb x)↔(x.size<=maxLen/\(Lit.int .i64 s).wf=true/\has D (plL (x,s))=true/\left (plL (x,s))=false)
 nodup:∀ x:ByteArray,(f (kb x)).Nodup
theorem Grp.start (D:DataW Value):Grp D (has D) (fun _=>[]):=by
 constructor
 ·intro x s;simp only[List.not_mem_nil,false_iff];rintro ⟨_,_,g,f⟩;rw[g]at f;cases f
 ·exact fun _=>List.nodup_nil
theorem Grp.step {D:DataW Value}{g:Lit->Bool}{f:List UInt8->List Int}(h:Grp D g f){x:ByteArray}{s:Int}(o:x.size<=maxLen)(q:(Lit.int .i64 s).wf=true)(I:g (plL (x,s))=true)(J:has D (plL (x,s))=true):
  Grp D (fun z=>g z&&!z.sameKey (plL (x,s))) (fun z=>if z=kb x then f (kb x)++[s]else f z):=by
 constructor
 ·intro y r;by_cases e:y=x
  ·subst e;rw[if_pos rfl,List.mem_append,h.mem];by_cases u:r=s
   ·subst u;rw[WideAt.sameKey_self (zFj _)];simp[o,q,J]
   ·constructor
    ·rintro (⟨a,b,c,d⟩ | C)
     ·exact⟨a,b,c,by rw[d];rfl⟩
     ·simp at C;exact absurd C u
    ·rintro ⟨a,b,c,d⟩;refine .inl ⟨a,b,c,?_⟩;cases hk:(plL (y,r)).sameKey (plL (y,s))with
     | true=>
      have:=zFZ a b o q (WideAt.sameKey_eq hk);simp at this;exact absurd this u
     | false=>rw[hk]at d;simpa using d
  ·rw[if_neg (fun v=>e (zE5 v)),h.mem];constructor
   ·rintro ⟨a,b,c,d⟩;exact⟨a,b,c,by rw[d];rfl⟩
   ·rintro ⟨a,b,c,d⟩;refine⟨a,b,c,?_⟩;cases hk:(plL (y,r)).sameKey (plL (x,s))with
    | true=>
     have:=zFZ a b o q (WideAt.sameKey_eq hk);simp at this;exact absurd this.1 e
    | false=>rw[hk]at d;simpa using d
 ·intro y;by_cases e:y=x
  ·subst e;rw[if_pos rfl];refine List.nodup_append.2 ⟨h.nodup y,by simp,fun a L b N=>?_⟩;obtain rfl:b=s:=by simpa using N
   intro A;subst A;obtain⟨_,_,_,F⟩:=(h.mem y a).1 L;rw[I]at F;cases F
  ·rw[if_neg (fun v=>e (zE5 v))];exact h.nodup y
theorem zIW {D:DataW Value}{f:Lit}{d:DataW Value}(h:∀ zd,D.atKey f zd=d):has D f=true:=by
 cases hk:has D f with
 | true=>rfl
 | false=>
  have g:=h (.held (.bool true));have o:=h (.held (.bool false));rw[atKey_of_not_has hk]at g o;rw[<-o]at g;cases g
theorem Grp.slots {D:DataW Value}{g:Lit->Bool}{f:List UInt8->List Int}(h:Grp D g f)(y:∀ z,g z=false){b:ByteArray×Int->Option Mem}
  (o:∀ x:ByteArray×Int,x.1.size<=maxLen->(Lit.int .i64 x.2).wf=true->has D (plL x)=(mapP b x).isSome) (A:∀ x s m,b (x,s)=some m->x.size<=maxLen/\(Lit.int .i64 s).wf=true) (x:ByteArray):IsSlots b x (f (kb x)):=by
 refine⟨h.nodup x,fun s=>?_⟩;rw[h.mem];constructor
 ·rintro ⟨a,C,c,_⟩;rw[o (x,s) a C]at c
  simpa [mapP]using c
 ·intro F;obtain⟨m,q⟩:=Option.isSome_iff_exists.1 F;obtain⟨u,v⟩:=A x s m q;exact⟨u,v,by rw[o (x,s) u v];simp[mapP,q],y _⟩
theorem IsIds2.of_slots {b:ByteArray×Int->Option Mem}{g:List ByteArray}{f:List UInt8->List Int}(u:AscS (g.map kb))(v:∀ x:ByteArray,x∈g↔f (kb x)≠[])(q:∀ x:ByteArray,IsSlots b x (f (kb x))):IsIds2 b g:=by
 refine⟨u,fun x=>?_⟩;rw[v];constructor
 ·intro o;obtain⟨s,h⟩:=List.exists_mem_of_ne_nil _ o;exact⟨s,((q x).mem s).1 h⟩
 ·rintro ⟨s,h⟩ e;have:=((q x).mem s).2 h;rw[e]at this;cases this
theorem set6 {W:World}{b:Nat}{cs:Array Value}{T:TypeId}(h:W.heap[b]?=some (.cells cs T))(C:cs.size=6)(g o q u y z:Value):
  (((((((W.setCell ⟨b,0,none⟩ g).setCell ⟨b,1,none⟩ o).setCell ⟨b,2,none⟩ q).setCell ⟨b,3,none⟩ u).setCell ⟨b,4,none⟩ y).setCell ⟨b,5,none⟩ z)).heap[b]?=some (.cells #[g,o,q,u,y,z] T)/\Fr (Is b) W ((((((W.setCell ⟨b,0,none⟩ g).setCell ⟨b,1,none⟩ o).setCell ⟨b,2,none⟩ q).setCell ⟨b,3,none⟩ u).setCell ⟨b,4,none⟩ y).setCell ⟨b,5,none⟩ z):=by
 have f:∀ {a w:World} (h:Fr (Is b) a w) (i:Nat) (v:Value),Fr (Is b) a (w.setCell ⟨b,i,none⟩ v):=fun h i v=>h.setCell (p:=⟨b,i,none⟩) (fun _=>rfl) v
 refine⟨?_,f (f (f (f (f (f (Fr.refl _ _) _ _) _ _) _ _) _ _) _ _) _ _⟩;obtain⟨l⟩:=cs
 match l,C with
 | [_,_,_,_,_,_],_=>
  have D:=zF h 0 g;have F:=zF D 1 o;have I:=zF F 2 q;have J:=zF I 3 u;have L:=zF J 4 y;have A:=zF L 5 z;simp only[List.setIfInBounds_toArray,List.set_cons_zero,List.set_cons_succ]at A;exact A
theorem zAy {W:World}{f T P:Nat}(h:W.ownsRow f 9 1 (.slice (some ⟨P,0,none⟩) T T) T (madeCells (Value.string ByteArray.empty).cells (T*1)).toList):
  W.heap[P]?=some (.cells ((List.replicate T (⟨#[]⟩:ByteArray)).map Value.string).toArray 9):=by
 obtain⟨_,⟨q,_⟩ | ⟨g,v,o,q,F,y,I,J,z,A⟩⟩:=h
 ·cases q
 ·cases q;rw[y];have C:o.toList=(madeCells (Value.string ByteArray.empty).cells (T*1)).toList:=by
   rw[<-A,List.take_of_length_le];rw[Array.length_toList,z];exact Nat.le_refl _
  have D:(madeCells (Value.string ByteArray.empty).cells (T*1)).toList=(List.replicate T (⟨#[]⟩:ByteArray)).map Value.string:=by
   apply List.ext_getElem?;intro i;by_cases u:i<T
   ·rw[List.getElem?_map,List.getElem?_replicate,if_pos u];simp[madeCells,Value.cells,u,Nat.mod_one];rfl
   ·rw[List.getElem?_eq_none (by simp[madeCells];omega),List.getElem?_eq_none (by simp;omega)]
  rw[show o=((List.replicate T (⟨#[]⟩:ByteArray)).map Value.string).toArray by rw[<-D,<-C]]
theorem zD5 {W:World}{P:Nat}{l:List ByteArray}(h:W.heap[P]?=some (.cells (l.map Value.string).toArray 9))(f:l.length<=maxLen):Strs W (some ⟨P,0,none⟩) l.length l:=by
 refine⟨Nat.le_refl _,f,(fun e=>by cases e),fun o e _=>?_⟩;cases e;refine⟨rfl,zC h,fun i x g=>?_⟩;rw[zB h];simp[g]
end Go.Proofs.YtinfjnndbfahhaaGreatDoor
