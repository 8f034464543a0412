import Derived.Test.YtinfjnndbfahhaaGreatDoorStrs2
import Derived.Lib.SplitLaws
import Derived.Laws.EntriesVeiled
import Derived.Test.YtinfjnndbfahhaaGreatDoorQ7
namespace Go.Proofs.YtinfjnndbfahhaaGreatDoor
open Go.RowKit Go.Maps
set_option linter.unusedVariables false
set_option maxRecDepth 100000
set_option maxHeartbeats 2000000
def spl (c:UInt8):List UInt8->List (List UInt8)
 | []=>[[]]
 | x::t=>if x=c then []::spl c t else match spl c t with
  | []=>[[x]]
  | h::r=>(x::h)::r
theorem zDh (c:UInt8):∀ s:List UInt8,Lib.splitK [c] 0 (s.count c) s=spl c s
 | []=>rfl
 | x::t=>by
  have q:=zDh c t;by_cases g:x=c
  ·subst g;have o:Lib.index (x::t) [x]=0:=by
    unfold Lib.index;rw[if_pos (by simp)]
   have e:spl x (x::t)=[]::spl x t:=by rw[spl,if_pos rfl]
   rw[List.count_cons_self,Lib.splitK,o,e,<-q];rfl
  ·have u:(x::t).count c=t.count c:=List.count_cons_of_ne g;have v:([c].isPrefixOf (x::t))=false:=by
    have f:(c==x)=false:=by simpa using fun h=>g h.symm
    simp[List.isPrefixOf,f]
   have y:spl c (x::t)=(match spl c t with | []=>[[x]] | h::r=>(x::h)::r):=by
    rw[spl,if_neg g]
   rw[u,y,<-q];cases hk:t.count c with
   | zero=>simp[Lib.splitK]
   | succ k=>
    have o:Lib.index (x::t) [c]=if Lib.index t [c]==-1 then -1 else Lib.index t [c]+1:=by
     rw[Lib.index,if_neg (by rw[v];simp)]
    rw[Lib.splitK,Lib.splitK,o];by_cases f:(Lib.index t [c]==-1)=true
    ·simp[f]
    ·have A:=Lib.index_ge t [c];have C:Lib.index t [c]≠-1:=by simpa using f
     obtain⟨n,z⟩:=Int.eq_ofNat_of_zero_le (show 0<=Lib.index t [c] by omega);rw[if_neg f,if_neg f,z];rw[if_neg (by simp;omega)];rw[show ((n:Int)+1).toNat=n+1 by omega,show ((n:Int)).toNat=n by omega];simp
def sparts (s:ByteArray):List ByteArray:=(spl 47 (Lib.trimPrefix s.data.toList [47])).map fun x=>⟨x.toArray⟩
def zAA (s:ByteArray):Bool:=Lib.hasPrefix s.data.toList [47]&&(sparts s).all isName
theorem zHr (c:UInt8):∀ (s:List UInt8),∀ x∈spl c s,x.length<=s.length
 | [],x,h=>by simp[spl]at h;subst h;simp
 | y::t,x,h=>by
  have f:=zHr c t;unfold spl at h;split at h
  ·rcases List.mem_cons.1 h with rfl | h
   ·simp
   ·have:=f x h;simp;omega
  ·split at h
   ·simp at h;subst h;simp
   ·rename_i a r e;rcases List.mem_cons.1 h with rfl | h
    ·have:=f a (by rw[e];simp);simp;omega
    ·have:=f x (by rw[e];simp[h]);simp;omega
theorem zHh (s p:List UInt8):(Lib.trimPrefix s p).length<=s.length:=by
 unfold Lib.trimPrefix;split<;>simp
theorem zFU (s:ByteArray):∀ x∈sparts s,x.size<=s.size:=by
 intro x f;obtain⟨y,g,rfl⟩:=List.mem_map.1 f;have o:=zHr 47 _ y g;have q:=zHh s.data.toList [47];have h:s.data.toList.length=s.size:=(Lib.size_eq s).symm;simp only[ByteArray.size,List.size_toArray]at h ⊢;omega
theorem zBj (s:ByteArray):Lib.splitB ⟨#[47]⟩ 0 (Lib.countB s ⟨#[47]⟩) s=(spl 47 s.data.toList).map fun x=>⟨x.toArray⟩:=by
 have f:=Lib.splitB_data ⟨#[47]⟩ 0 (Lib.countB s ⟨#[47]⟩) s;have h:Lib.countB s ⟨#[47]⟩=s.data.toList.count 47:=Lib.count_one 47 s.data.toList;have o:(⟨#[47]⟩:ByteArray).data.toList=[47]:=rfl;rw[o]at f;rw[h]at f ⊢;rw[zDh]at f;rw[<-f,List.map_map];symm;rw[List.map_congr_left (g:=id)]
 ·simp
 ·intro x _;simp
theorem zEq (s:ByteArray):Lib.countB s ⟨#[47]⟩+1=((spl 47 s.data.toList).map fun x=>(⟨x.toArray⟩:ByteArray)).length:=by
 rw[<-zBj,Lib.splitB_all ⟨#[47]⟩ (by decide) 0 _ _ rfl]
theorem Strs.new (w:World)(l:List ByteArray)(T:TypeId)(f:l.length<=maxLen):Strs (w.alloc (.cells (l.map Value.string).toArray T)) (some ⟨w.heap.size,0,none⟩) l.length l:=by
 refine⟨Nat.le_refl _,f,(fun e=>by cases e),?_⟩;intro o e g;cases e;refine⟨rfl,by simp,fun i x h=>?_⟩;rw[zB (zD _ _)];simp[h]
theorem zJ9 (g:Nat)(s:ByteArray)(w:World)(o:w.cell? ⟨g,0,none⟩=some (.func (.func 36) #[] #[]))(h:s.size<=maxLen):
  Calls Tryz.prog 233 #[.string s,.pointer (some ⟨g,0,none⟩)] w fun e w'=>e=.returned (.bool (!isName s))/\Fr No w w':=by
 go_enter Tryz.func233,Tryz.ntmps233
 go_wp2_with fail
 refine(zAL s _ h).mono ?_;rintro e q ⟨rfl,f⟩
 go_wp2_with fail
 go_ret;exact⟨rfl,f⟩
theorem zHZ (v:Nat)(D:Option Addr)(F:Nat)(l:List ByteArray)(w:World)(L:w.cell? ⟨v,0,none⟩=some (.func (.func 36) #[] #[]))(I:Strs w D F l)(N:∀ x∈l,x.size<=maxLen):
  Calls Tryz.prog 69 #[.slice D l.length F,.func (.func 233) #[] #[.pointer (some ⟨v,0,none⟩)]] w fun e w'=>(∃ r:Int,e=.returned (.int .i64 r)/\decide (0<=r)=!l.all isName)/\Fr No w w':=by
 have Y:=I.lenmax
 go_enter Tryz.func69,Tryz.ntmps69
 go_wp2_with fail
 go_loopw [8] (fun i wr=>∃ k:Nat,k<=l.length/\i=.int .i64 k/\Hid ((l.take k).all isName=true)/\Fr No w wr) (fun i _=>l.length-(intOf i).toNat)
 case atStart=>exact⟨0,by omega,rfl,by unfold Hid;simp,Fr.refl _ _⟩
 case round=>
  obtain⟨k,Z,rfl,o,f⟩:=hrel;by_cases y:k<l.length
  ·have J:(k:Int)<l.length:=by omega
   obtain⟨bb,O,x,rfl,u,R⟩:=(I.no f (fun _=>id)).at y;have z:=N x (List.mem_of_getElem? u);have A:Hid (l.take (k+1)=l.take k++[x]):=by unfold Hid;rw[List.take_add_one,u];rfl
   have q:=zh (List.mem_of_getElem? u);clear u
   go_wp2_with fail
   refine(zJ9 v x _ (f.cell L id) z).mono ?_;rintro e w1 ⟨rfl,C⟩;have g:=f.step C zi;clear R;cases hp:isName x
   ·have U:Hid (l.all isName=false):=by unfold Hid;rw[List.all_eq_false];exact⟨x,q.out,by rw[hp];simp⟩
    clear hp
    go_wp2_with fail
    go_ret;exact⟨⟨(k:Int),rfl,by rw[U.out];simp⟩,g⟩
   ·have V:Hid ((l.take (k+1)).all isName=true):=by unfold Hid;rw[A.out,List.all_append,o.out];simp[hp]
    clear hp
    go_wp2_with fail
    go_roundw
    case rel=>exact⟨k+1,by omega,by go_num,V,g⟩
    case measure=>simp[intOf];omega
  ·have h:=o.out;rw[List.take_of_length_le (by omega)]at h;have X:=zh h;clear h
   go_wp2_with fail
   go_ret;exact⟨⟨-1,rfl,by rw[X.out];rfl⟩,f⟩
theorem zJc (g:Option Addr)(h:Nat)(l:List ByteArray)(w:World)(v:Strs w g h l)(y:∀ x∈l,x.size<=maxLen):
  Calls Tryz.prog 189 #[.slice g l.length h,.func (.func 36) #[] #[]] w fun e w'=>e=.returned (.bool (l.all isName))/\Fr No w w':=by
 have q:Fr No w (w.alloc (.cells #[.func (.func 36) #[] #[]] 98)):=(Fr.refl _ _).alloc _;have z:=zD w (.cells #[.func (.func 36) #[] #[]] 98);have o:=v.no q (fun _=>id)
 go_enter Tryz.func189,Tryz.ntmps189
 go_wp2_with fail
 generalize w.alloc (.cells #[.func (.func 36) #[] #[]] 98)=W0 at *;refine(show Calls Tryz.prog 33 _ _ (fun e w'=>e=.returned (.bool (!l.all isName))/\Fr No W0 w')from ?_).mono ?_
 ·go_enter Tryz.func33,Tryz.ntmps33
  go_wp2_with fail
  refine(zHZ w.heap.size g h l _ (zB z 0) o y).mono ?_;rintro e A ⟨⟨r,rfl,u⟩,f⟩;have C:=zh u;clear u
  go_wp2_with fail
  go_ret;exact⟨zK C.out,f⟩
 ·rintro e A ⟨rfl,f⟩
  go_wp2_with fail
  go_ret;exact⟨zK (by simp),q.step f zi⟩
def SplitR (s:ByteArray)(e:Ending)(w':World)(B:Nat):Prop:=
 (zAA s=false/\e=.returned (.tuple #[.slice none 0 0,.int .i64 10]))\/
 (zAA s=true/\∃ ad,e=.returned (.tuple #[.slice (some ad) (sparts s).length (sparts s).length,.int .i64 0])/\Strs w' (some ad) (sparts s).length (sparts s)/\B<=ad.block)
theorem zBM (s:ByteArray)(m:Int)(w:World)(hs:s.size<=1000000)(Z:w.cell? ⟨0,0,none⟩=some (.int .i64 m)):
  Calls Tryz.prog 136 #[.string s] w fun e w'=>SplitR s e w' w.heap.size/\Fr No w w':=by
 have a2:(1000001:Nat)<=maxLen:=by unfold maxLen;omega
 have v:=Tryz.strings_CutPrefix s ⟨#[47]⟩ w;obtain⟨f,g⟩:∃ r,r=(⟨(Lib.trimPrefix s.data.toList [47]).toArray⟩:ByteArray):=⟨_,rfl⟩
 have a3:f.size<=1000000:=by
  rw[g];have h2:=zHh s.data.toList [47];simp only[ByteArray.size,List.size_toArray];simp at h2;omega
 have D:sparts s=(spl 47 f.data.toList).map fun x=>⟨x.toArray⟩:=by rw[g];rfl
 obtain⟨h,o⟩:∃ h,h=sparts s:=⟨_,rfl⟩
 have hg:zAA s=(Lib.hasPrefix s.data.toList [47]&&h.all isName):=by rw[o];rfl
 have F:∀ x∈h,x.size<=maxLen:=fun x C=>by rw[o]at C;have:=zFU s x C;omega
 have q:=zEq f;have u:=zBj f;rw[<-D,<-o]at q u;have R:=Lib.countB_le ⟨#[47]⟩ (by decide) f.size f (Nat.le_refl _);have U:h.length<=maxLen:=by omega
 have y:Calls Tryz.prog 192 #[.string s,.string ⟨#[47]⟩] w fun e w'=>e=.returned (.tuple #[.string f,.bool (Lib.hasPrefix s.data.toList [47])])/\w'=w:=by rw[g];exact v
 have V:=zh hg;have I:=zh o;have J:=zh u;have L:=zh q;clear v g D o hg q u;generalize Lib.hasPrefix s.data.toList [47]=pre at *
 go_enter Tryz.func136,Tryz.ntmps136
 go_wp2_with fail
 refine y.mono ?_;rintro e z ⟨rfl,rfl⟩
 go_wp2_with fail
 refine(Tryz.strings_Split f ⟨#[47]⟩ m _ (by omega) Z (by decide)).mono ?_;rintro e w2 ⟨rfl,rfl⟩;rw[J.out,L.out];have C:Fr No z (z.alloc (.cells ((h.map Value.string).toArray) 9)):=(Fr.refl _ _).alloc _;have X:=Strs.new z h 9 U;have a4:z.heap.size<(z.alloc (.cells ((h.map Value.string).toArray) 9)).heap.size:=by simp
 clear Z R;generalize z.alloc (.cells ((h.map Value.string).toArray) 9)=W2 at *;cases pre with
 | false=>
  have N:Hid (zAA s=false):=by unfold Hid;rw[V.out];rfl
  go_wp2_with fail
  go_ret2
  exact⟨.inl ⟨N.out,rfl⟩,C⟩
 | true=>
  have Hx:=zh C;have HS:=zh X;clear C
  go_wp2_with fail
  refine(zJc _ _ h _ X F).mono ?_;rintro e w3 ⟨rfl,A⟩;have Y:=zh (HS.out.no A (fun _=>id));have O:=zh (Hx.out.step A zi);clear X F A;cases hal:h.all isName with
  | false=>
   have N:Hid (zAA s=false):=by unfold Hid;rw[V.out,hal];rfl
   clear hal
   go_wp2_with fail
   go_ret2
   exact⟨.inl ⟨N.out,rfl⟩,O.out⟩
  | true=>
   have N:Hid (zAA s=true):=by unfold Hid;rw[V.out,hal];rfl
   clear hal
   go_wp2_with fail
   go_ret2
   refine⟨.inr ⟨N.out,⟨z.heap.size,0,none⟩,?_,?_,Nat.le_refl _⟩,O.out⟩
   ·rw[<-I.out];rfl
   ·rw[<-I.out];exact Y.out
def cmpI (x y:Int):Int:=if x<y then -1 else if y<x then 1 else 0
theorem zIE (x:Int)(w:World):Calls Tryz.prog 170 #[.int .i64 x] w fun e w'=>e=.returned (.bool false)/\w=w':=by
 go_enter Tryz.func170,Tryz.ntmps170
 go_wp2_with fail
 go_ret;simp
theorem zID (x:ByteArray)(w:World):Calls Tryz.prog 260 #[.string x] w fun e w'=>e=.returned (.bool false)/\w=w':=by
 have f:(!x.toList==x.toList)=false:=by simp
 go_enter Tryz.func260,Tryz.ntmps260
 go_wp2_with fail
 go_ret;simp
theorem zIl (x y:Int)(w:World):Calls Tryz.prog 119 #[.int .i64 x,.int .i64 y] w fun e w'=>e=.returned (.int .i64 (cmpI x y))/\w=w':=by
 obtain⟨r,g⟩:∃ r,r=cmpI x y:=⟨_,rfl⟩
 rw[<-g];have h:=zh g;clear g
 go_enter Tryz.func119,Tryz.ntmps119
 go_wp2_with fail
 refine(zIE x _).mono ?_;rintro e v ⟨rfl,rfl⟩
 go_wp2_with fail
 refine(zIE y _).mono ?_;rintro e v ⟨rfl,rfl⟩;by_cases o:x<y
 ·have f:=zh o
  go_wp2_with fail
  go_ret;exact⟨by rw[h.out,cmpI,if_pos f.out];rfl,rfl⟩
 ·by_cases u:y<x
  ·have f:=zh o;have q:=zh u
   go_wp2_with fail
   go_ret;exact⟨by rw[h.out,cmpI,if_neg (by have:=f.out;omega),if_pos q.out];rfl,rfl⟩
  ·have f:=zh o;have q:=zh u
   go_wp2_with fail
   go_ret;exact⟨by rw[h.out,cmpI,if_neg (by have:=f.out;omega),if_neg (by have:=q.out;omega)];rfl,rfl⟩
def orI (x y:Int):Int:=if x=0 then y else x
theorem zLt (b:Nat)(x y:Int)(w:World)(z:w.cell? ⟨b,0,none⟩=some (.int .i64 x))(A:w.cell? ⟨b,1,none⟩=some (.int .i64 y)):Calls Tryz.prog 244 #[.slice (some ⟨b,0,none⟩) 2 2] w fun e w'=>e=.returned (.int .i64 (orI x y))/\w=w':=by
 obtain⟨r,h⟩:∃ r,r=orI x y:=⟨_,rfl⟩
 rw[<-h];have o:=zh h;clear h
 go_enter Tryz.func244,Tryz.ntmps244
 go_wp2_with fail
 go_loop [8] (fun i=>i=.int .i64 0\/(i=.int .i64 1/\Hid (x=0))\/(i=.int .i64 2/\Hid (x=0/\y=0))) (fun i=>2-(intOf i).toNat)
 case atStart=>exact .inl rfl
 case round=>
  rcases hrel with rfl | ⟨rfl,f⟩ | ⟨rfl,g⟩
  ·by_cases f:x=0
   ·have q:=zh f
    go_wp2_with fail
    go_round
    case rel=>exact .inr (.inl ⟨rfl,q⟩)
    case measure=>decide
   ·have q:=zh f
    go_wp2_with fail
    go_ret;exact⟨by rw[o.out,orI,if_neg q.out];rfl,rfl⟩
  ·by_cases u:y=0
   ·have v:=zh u
    go_wp2_with fail
    go_round
    case rel=>exact .inr (.inr ⟨rfl,f.out,v.out⟩)
    case measure=>decide
   ·have v:=zh u
    go_wp2_with fail
    go_ret;exact⟨by rw[o.out,orI,if_pos f.out];rfl,rfl⟩
  ·go_wp2_with fail
   go_ret;exact⟨by rw[o.out,orI,if_pos g.out.1,g.out.2];rfl,rfl⟩
theorem zA2 : ∀ a:List UInt8,Lib.compareBytes a a=0
 | []=>rfl
 | a::s=>by unfold Lib.compareBytes;rw[if_neg (UInt8.lt_irrefl _),if_neg (UInt8.lt_irrefl _)];exact zA2 s
theorem zCU : ∀ a b:List UInt8,Lib.compareBytes a b=if Op.bytesLess a b=true then -1 else if a=b then 0 else 1
 | [],[]=>by simp[Lib.compareBytes,Op.bytesLess]
 | [],_::_=>by simp[Lib.compareBytes,Op.bytesLess]
 | _::_,[]=>by simp[Lib.compareBytes,Op.bytesLess]
 | a::s,b::t=>by
  have o:=zCU s t;by_cases f:a<b
  ·simp[Lib.compareBytes,Op.bytesLess,f]
  ·by_cases g:b<a
   ·have h:a≠b:=fun e=>by subst e;exact absurd g (UInt8.lt_irrefl _)
    simp[Lib.compareBytes,Op.bytesLess,f,g,h]
   ·have h:a=b:=UInt8.le_antisymm (UInt8.not_lt.1 g) (UInt8.not_lt.1 f);subst h;simp only[Lib.compareBytes,Op.bytesLess,if_neg f,o];simp[f]
theorem zIk (x y:ByteArray)(w:World):Calls Tryz.prog 229 #[.string x,.string y] w fun e w'=>e=.returned (.int .i64 (Lib.compareBytes x.data.toList y.data.toList))/\w=w':=by
 obtain⟨r,g⟩:∃ r,r=Lib.compareBytes x.data.toList y.data.toList:=⟨_,rfl⟩
 rw[<-g];have v:=zh g;clear g
 go_enter Tryz.func229,Tryz.ntmps229
 go_wp2_with fail
 refine(zID x _).mono ?_;rintro e z ⟨rfl,rfl⟩
 go_wp2_with fail
 refine(zID y _).mono ?_;rintro e z ⟨rfl,rfl⟩;have o:=zCU x.toList y.toList;rw[ByteArray.toList_eq,ByteArray.toList_eq,<-v.out,<-ByteArray.toList_eq,<-ByteArray.toList_eq]at o;have q:=zh o;clear o;cases hb:Op.bytesLess x.toList y.toList with
 | true=>
  have f:=zh hb
  go_wp2_with fail
  go_ret;exact⟨by rw[q.out,if_pos f.out];rfl,rfl⟩
 | false=>
  have f:=zh hb;cases he:(x.toList==y.toList)with
  | true=>
   have u:=zh he
   go_wp2_with fail
   go_ret;exact⟨by rw[q.out,if_neg (by rw[f.out];simp),if_pos (eq_of_beq u.out)];rfl,rfl⟩
  | false=>
   have u:=zh he
   go_wp2_with fail
   go_ret;exact⟨by rw[q.out,if_neg (by rw[f.out];simp),if_neg (fun e=>by have h:=u.out;rw[e]at h;simp at h)];rfl,rfl⟩
theorem zEp (a:Option Addr)(y:Nat)(l:List ByteArray)(a':Option Addr)(h:Nat)(l':List ByteArray)(w:World)(hl:Strs w a y l)(z:Strs w a' h l'):
  Calls Tryz.prog 181 #[.slice a l.length y,.slice a' l'.length h] w fun e w'=>e=.returned (.int .i64 (cmpN l l'))/\w=w':=by
 have hm:=hl.lenmax;have a5:=z.lenmax;obtain⟨r,R⟩:∃ r,r=cmpN l l':=⟨_,rfl⟩
 rw[<-R];have J:=zh R;clear R
 go_enter Tryz.func181,Tryz.ntmps181
 go_wp2_with fail
 go_loop [11] (fun i=>∃ k:Nat,k<=l.length/\k<=l'.length/\i=.int .i64 (k:Int)/\Hid (l.take k=l'.take k)) (fun i=>l.length-(intOf i).toNat)
 case atStart=>exact⟨0,by omega,by omega,rfl,by unfold Hid;simp⟩
 case round=>
  obtain⟨k,hk,a6,rfl,Ht⟩:=hrel;have L:=zh (zIm Ht.out);by_cases U:k<l.length
  ·have A:(k:Int)<l.length:=by omega
   obtain⟨b,a7,x,rfl,N,c0⟩:=hl.at U;have g:l.drop k=x::l.drop (k+1):=by
    obtain⟨v,V⟩:=List.getElem?_eq_some_iff.1 N;rw[<-V];exact List.drop_eq_getElem_cons v
   by_cases C:k<l'.length
   ·have D:¬ (l'.length:Int)<=(k:Int):=by omega
    have a3:(k:Int)<l'.length:=by omega
    obtain⟨b',a4,o,rfl,u,c1⟩:=z.at C;have q:l'.drop k=o::l'.drop (k+1):=by
     obtain⟨v,V⟩:=List.getElem?_eq_some_iff.1 u;rw[<-V];exact List.drop_eq_getElem_cons v
    have X:=zh g;have F:=zh q;have Y:Hid (x=o->l.take (k+1)=l'.take (k+1)):=fun e=>by rw[List.take_add_one,List.take_add_one,N,u,Ht.out,e]
    clear g q N u
    go_wp2_with fail
    refine(zIk x o _).mono ?_;rintro e w1 ⟨rfl,rfl⟩;by_cases O:Lib.compareBytes x.data.toList o.data.toList=0
    ·have Z:x=o:=by
      have v:=zA1 _ _ O;cases x;cases o;simp only at v
      congr 1
      exact Array.toList_inj.1 v
     have Hn:=zh (Y.out Z);rw[O];clear O
     go_wp2_with fail
     go_round
     case rel=>exact⟨k+1,by omega,by omega,by go_num,Hn⟩
     case measure=>simp[intOf];omega
    ·have f:Hid (r=Lib.compareBytes x.data.toList o.data.toList):=by
      unfold Hid;rw[J.out,L.out,X.out,F.out,cmpN,if_neg (fun e=>O (by rw[e];exact zA2 _))]
     generalize Lib.compareBytes x.data.toList o.data.toList=cb at *
     go_wp2_with fail
     go_ret;exact⟨by rw[f.out];rfl,rfl⟩
   ·have D:(l'.length:Int)<=(k:Int):=by omega
    have f:Hid (r=1):=by
     unfold Hid;rw[J.out,L.out,g,List.drop_eq_nil_of_le (by omega:l'.length<=k)];rfl
    clear g N
    go_wp2_with fail
    go_ret;exact⟨by rw[f.out];rfl,rfl⟩
  ·have A:¬ (k:Int)<l.length:=by omega
   obtain rfl:k=l.length:=by omega
   by_cases a2:l.length<l'.length
   ·have I:(l.length:Int)<l'.length:=by omega
    have f:Hid (r=-1):=by
     unfold Hid;rw[J.out,L.out,List.drop_length,List.drop_eq_getElem_cons a2];rfl
    go_wp2_with fail
    go_ret;exact⟨by rw[f.out];rfl,rfl⟩
   ·have I:¬ (l.length:Int)<l'.length:=by omega
    have f:Hid (r=0):=by
     unfold Hid;rw[J.out,L.out,List.drop_length,List.drop_eq_nil_of_le (by omega:l'.length<=l.length)];rfl
    go_wp2_with fail
    go_ret;exact⟨by rw[f.out];rfl,rfl⟩
def cmpP (s t:ByteArray):Int×Int:=if zAA s&&zAA t then (cmpN (sparts s) (sparts t),0)else (0,10)
theorem zCT (s t:ByteArray)(m:Int)(w:World)(hs:s.size<=1000000)(ht:t.size<=1000000)(N:w.cell? ⟨0,0,none⟩=some (.int .i64 m)):
  Calls Tryz.prog 128 #[.string s,.string t] w fun e w'=>e=.returned (.tuple #[.int .i64 (cmpP s t).1,.int .i64 (cmpP s t).2])/\Fr No w w':=by
 obtain⟨r1,O⟩:∃ r,r=(cmpP s t).1:=⟨_,rfl⟩
 obtain⟨r2,R⟩:∃ r,r=(cmpP s t).2:=⟨_,rfl⟩
 rw[<-O,<-R];have J:=zh O;have L:=zh R;clear O R
 go_enter Tryz.func128,Tryz.ntmps128
 go_wp2_with fail
 refine(zBM s m _ hs N).mono ?_;rintro e w1 ⟨U,y⟩;have u:=y.cell N id;have A:=zh y;clear N y;rcases U with⟨h,rfl⟩ | ⟨h,V,rfl,C,_⟩
 ·have D:=zh h;clear h
  go_wp2_with fail
  refine(zBM t m _ ht u).mono ?_;rintro e w2 ⟨z,g⟩;have o:=zh (A.out.step g zi);clear u g;rcases z with⟨f,rfl⟩ | ⟨f,F,rfl,v,_⟩
  ·clear f
   go_wp2_with fail
   go_ret2
   exact⟨by rw[J.out,L.out,cmpP,D.out];rfl,o.out⟩
  ·clear f v
   go_wp2_with fail
   go_ret2
   exact⟨by rw[J.out,L.out,cmpP,D.out];rfl,o.out⟩
 ·have D:=zh h;clear h
  go_wp2_with fail
  refine(zBM t m _ ht u).mono ?_;rintro e w2 ⟨z,g⟩;have o:=zh (A.out.step g zi);have q:=C.no g (fun _=>id);clear u g C;rcases z with⟨f,rfl⟩ | ⟨f,F,rfl,v,_⟩
  ·have X:=zh f;clear f q
   go_wp2_with fail
   go_ret2
   exact⟨by rw[J.out,L.out,cmpP,D.out,X.out];rfl,o.out⟩
  ·have X:=zh f;have I:=zEp (some V) _ _ (some F) _ _ w2 q v;clear f q v;obtain⟨p1,Y⟩:∃ p,p=sparts s:=⟨_,rfl⟩
   obtain⟨p2,Z⟩:∃ p,p=sparts t:=⟨_,rfl⟩
   rw[<-Y,<-Z]at I ⊢;have E1:=zh Y;have E2:=zh Z;clear Y Z
   go_wp2_with fail
   refine I.mono ?_;rintro e w3 ⟨rfl,rfl⟩;have Hr:Hid (r1=cmpN p1 p2/\r2=0):=by unfold Hid;rw[J.out,L.out,cmpP,D.out,X.out,<-E1.out,<-E2.out];exact⟨rfl,rfl⟩
   generalize cmpN p1 p2=cn at *
   go_wp2_with fail
   go_ret2
   exact⟨by rw[Hr.out.1,Hr.out.2];rfl,o.out⟩
def clB (d d':Dev):Bool:=(d.kind==4&&d'.kind==4&&(d.name.toList==d'.name.toList))||(numK d.kind&&numK d'.kind&&((d.kind==d'.kind&&d.num==d'.num)||((nodeOf d.orig).toList==(nodeOf d'.orig).toList)||benB (nodeOf d.orig) (nodeOf d'.orig)||benB (nodeOf d'.orig) (nodeOf d.orig)))
theorem zLP (d f:Dev)(m:Int)(w:World)(hs:d.orig.size<=1000000)(C:f.orig.size<=1000000)(hm:w.cell? ⟨0,0,none⟩=some (.int .i64 m))(h0:0<w.heap.size):
  Calls Tryz.prog 139 #[.agg d.vals,.agg f.vals] w fun e w'=>e=.returned (.bool (clB d f))/\Fr No w w':=by
 obtain⟨D,h⟩:∃ D,D=(w.alloc (.cells d.vals 36)).alloc (.cells f.vals 36):=⟨_,rfl⟩
 have hx:Fr No w D:=by rw[h];exact((Fr.refl _ _).alloc _).alloc _
 have F:D.heap[w.heap.size]?=some (.cells d.vals 36):=by rw[h];exact zI _ _ _
 have I:D.heap[w.heap.size+1]?=some (.cells f.vals 36):=by rw[h];exact zL _ _ _
 have J:=hx.cell hm id;have V:0<D.heap.size:=by have:=hx.size;omega
 have N1:=zh (fun (W:World) h1 h2=>zIi d m W hs h1 h2);have N2:=zh (fun (W:World) h1 h2=>zIi f m W C h1 h2);obtain⟨z,L⟩:∃ z,z=clB d f:=⟨_,rfl⟩
 rw[<-L];obtain⟨X,g⟩:∃ X,X=(d.kind==4&&f.kind==4&&(d.name.toList==f.name.toList)):=⟨_,rfl⟩
 have Y:Hid (z=(X||(numK d.kind&&numK f.kind&&((d.kind==f.kind&&d.num==f.num)||((nodeR d).toList==(nodeR f).toList)||benB (nodeR d) (nodeR f)||benB (nodeR f) (nodeR d))))):=by unfold Hid;rw[L,g];unfold clB nodeR;cases numK d.kind<;>cases numK f.kind<;>simp
 have c5:=zh g;have N:=zDk d hs;have O:=zDk f C;have c6:=zh (fun W=>zE1 (nodeR d) (nodeR f) W N O);have c7:=zh (fun W=>zE1 (nodeR f) (nodeR d) W O N);generalize nodeR d=s at *;generalize nodeR f=u at *;clear L g hm N O hs C;obtain⟨a0,a1,a2,a3,a4,a5,a6,a7,a8,a9⟩:=DevB.of F;obtain⟨b0,b1,b2,b3,b4,b5,b6,b7,b8,b9⟩:=DevB.of I;unfold Dev.vals at h N1 N2 ⊢
 go_enter Tryz.func139,Tryz.ntmps139
 go_upto_region 1 with(fail)
 rw[<-h];clear h
 go_cut [23] (fun v wx=>v=.bool X/\D=wx)
 case first=>
  rcases hk:(d.kind==4)with _ | _
  all_goals rcases hk':(f.kind==4)with _ | _
  all_goals have Z:=zh hk
  all_goals have c8:=zh hk'
  all_goals
   go_wp2_with fail
   all_goals
    go_meet
    exact⟨by rw[c5.out,Z.out,c8.out];rfl,rfl⟩
 case rest=>
  obtain⟨rfl,rfl⟩:=hcut;cases g:X with
  | true=>
   have Hv:Hid (z=true):=by unfold Hid;rw[Y.out,g];rfl
   clear g
   go_wp2_with fail
   go_ret;exact⟨zK Hv.out.symm,hx⟩
  | false=>
   have Hv:Hid (z=(numK d.kind&&numK f.kind&&((d.kind==f.kind&&d.num==f.num)||(s.toList==u.toList)||benB s u||benB u s))):=by unfold Hid;rw[Y.out,g];rfl
   clear g
   go_wp2_with fail
   refine(N1.out _ J V).mono ?_;rintro e w1 ⟨rfl,o⟩;have c9:=hx.step o zi;have A:=o.heap F id;have q:=o.heap I id;have d0:=o.cell J id;have d1:0<w1.heap.size:=by have:=o.size;omega
   clear a0 a1 a2 a3 a4 a5 a6 a7 a8 a9 b0 b1 b2 b3 b4 b5 b6 b7 b8 b9 F I J V;obtain⟨b0,b1,b2,b3,b4,b5,b6,b7,b8,b9⟩:=DevB.of q
   go_wp2_with fail
   refine(N2.out _ d0 d1).mono ?_;rintro e w2 ⟨rfl,R⟩;have y:=c9.step R zi;have c2:=R.heap A id;have c3:=R.heap q id;clear b0 b1 b2 b3 b4 b5 b6 b7 b8 b9 A q;obtain⟨a0,a1,a2,a3,a4,a5,a6,a7,a8,a9⟩:=DevB.of c2;obtain⟨b0,b1,b2,b3,b4,b5,b6,b7,b8,b9⟩:=DevB.of c3;rcases hg1:numK d.kind with _ | _
   ·have Hz:Hid (z=false):=by unfold Hid;rw[Hv.out,hg1];rfl
    clear hg1
    go_wp2_with fail
    go_ret;exact⟨zK Hz.out.symm,y⟩
   have d2:=zh hg1;clear hg1;rcases hg2:numK f.kind with _ | _
   ·have Hz:Hid (z=false):=by unfold Hid;rw[Hv.out,hg2,Bool.and_false];rfl
    clear hg2
    go_wp2_with fail
    go_ret;exact⟨zK Hz.out.symm,y⟩
   have Hw:Hid (z=((d.kind==f.kind&&d.num==f.num)||(s.toList==u.toList)||benB s u||benB u s)):=by unfold Hid;rw[Hv.out,d2.out,hg2];rfl
   clear hg2;rcases hk:(d.kind==f.kind)with _ | _
   all_goals rcases hn:(d.num==f.num)with _ | _
   all_goals rcases hsu:(s.toList==u.toList)with _ | _
   all_goals have Z:=zh hk
   all_goals have Hn:=zh hn
   all_goals have U:=zh hsu
   all_goals
    go_wp2_with fail
   all_goals first
    | (go_ret;exact⟨zK (by rw[Hw.out,Z.out,Hn.out,U.out];rfl),y⟩)
    | skip
   all_goals
    refine(c6.out _).mono ?_;rintro e w3 ⟨rfl,rfl⟩;rcases hb1:benB s u with _ | _
   all_goals have c4:=zh hb1
   all_goals clear hb1
   all_goals
    go_wp2_with fail
   all_goals first
    | (go_ret;exact⟨zK (by rw[Hw.out,Z.out,Hn.out,U.out,c4.out];rfl),y⟩)
    | skip
   all_goals
    refine(c7.out _).mono ?_;rintro e w3 ⟨rfl,rfl⟩
    go_wp2_with fail
    go_ret;exact⟨zK (by rw[Hw.out,Z.out,Hn.out,U.out,c4.out];rfl),y⟩
def clP (d:Dev)(x:Dev):Bool:=(x.index != d.index)&&clB x d
theorem zHT (x d:Dev)(b:Nat)(m:Int)(w:World)(I:x.orig.size<=1000000)(o:d.orig.size<=1000000)(J:w.heap[b]?=some (.cells d.vals 36))(L:w.cell? ⟨0,0,none⟩=some (.int .i64 m))(O:0<w.heap.size):
  Calls Tryz.prog 138 #[.agg x.vals,.pointer (some ⟨b,0,none⟩)] w fun e w'=>e=.returned (.bool (clP d x))/\Fr No w w':=by
 obtain⟨h,f⟩:∃ h,h=w.alloc (.cells x.vals 36):=⟨_,rfl⟩
 have q:Fr No w h:=by rw[f];exact(Fr.refl _ _).alloc _
 have u:h.heap[w.heap.size]?=some (.cells x.vals 36):=by rw[f];exact zD _ _
 have v:=q.heap J id;have y:=q.cell L id;have z:0<h.heap.size:=by have:=q.size;omega
 have N:=zLP x d m h I o y z;obtain⟨A,g⟩:∃ A,A=clP d x:=⟨_,rfl⟩
 rw[<-g];have C:Hid (A=((x.index != d.index)&&clB x d)):=g;clear g L y z I o J;obtain⟨R,U,V,X,Y,Z,a6,a7,a8,a9⟩:=DevB.of u;obtain⟨b0,b1,b2,b3,b4,b5,b6,b7,b8,b9⟩:=DevB.of v;unfold Dev.vals at f N ⊢
 go_enter Tryz.func138,Tryz.ntmps138
 go_upto_region 1 with(fail)
 rw[<-f];clear f u v;rcases hi:(x.index != d.index)with _ | _
 ·have D:Hid (A=false):=by unfold Hid;rw[C.out,hi];rfl
  go_wp2_with fail
  go_ret;exact⟨zK D.out.symm,q⟩
 ·have D:Hid (A=clB x d):=by unfold Hid;rw[C.out,hi];rfl
  go_wp2_with fail
  refine N.mono ?_;rintro e w1 ⟨rfl,F⟩
  go_wp2_with fail
  go_ret;exact⟨zK D.out.symm,q.step F zi⟩
theorem zEi (a:Option Addr)(g:Nat)(ds:List Dev)(d:Dev)(m:Int)(w:World)(I:Devs w a g ds)(J:∀ x∈ds,x.orig.size<=1000000)(v:d.orig.size<=1000000)(D:w.cell? ⟨0,0,none⟩=some (.int .i64 m))(L:0<w.heap.size):
  Calls Tryz.prog 81 #[.slice a ds.length g,.agg d.vals] w fun e w'=>e=.returned (.bool (ds.any (clP d)))/\Fr No w w':=by
 obtain⟨h,f⟩:∃ h,h=w.alloc (.cells d.vals 36):=⟨_,rfl⟩
 have u:Fr No w h:=by rw[f];exact(Fr.refl _ _).alloc _
 have o:h.heap[w.heap.size]?=some (.cells d.vals 36):=by rw[f];exact zD _ _
 have q:=u.cell D id;have y:0<h.heap.size:=by have:=u.size;omega
 have F:=zLM 138 #[.pointer (some ⟨w.heap.size,0,none⟩)] (fun _ _=>rfl) (clP d) a g ds h (I.no u (fun _=>id)) (fun x z W A=>zHT x d w.heap.size m W (J x z) v (A.heap o id) (A.cell q id) (by have:=A.size;omega));clear D q y o;unfold Dev.vals at f ⊢
 go_enter Tryz.func81,Tryz.ntmps81
 go_upto_region 1 with(fail)
 rw[<-f];clear f
 go_wp2_with fail
 refine F.mono ?_;rintro e N ⟨rfl,C⟩;clear F
 go_wp2_with fail
 go_ret;exact⟨rfl,u.step C zi⟩
theorem zGz (s t:ByteArray)(m:Int)(w:World)(g:s.size<=1000000)(o:t.size<=1000000)(q:w.cell? ⟨0,0,none⟩=some (.int .i64 m)):
  Calls Tryz.prog 78 #[.string s,.string t] w fun e w'=>e=.returned (.int .i64 (cmpP s t).1)/\Fr No w w':=by
 have h:=zCT s t m w g o q
 go_enter Tryz.func78,Tryz.ntmps78
 go_wp2_with fail
 refine h.mono ?_;rintro e u ⟨rfl,f⟩
 go_wp2_with fail
 go_ret;exact⟨rfl,f⟩
def depthB (s:ByteArray):Nat:=if zAA s=true then (sparts s).length else 0
theorem zG1 (s:ByteArray)(m:Int)(w:World)(u:s.size<=1000000)(v:w.cell? ⟨0,0,none⟩=some (.int .i64 m)):
  Calls Tryz.prog 80 #[.string s] w fun e w'=>e=.returned (.int .i64 (depthB s:Nat))/\Fr No w w':=by
 have h:=zBM s m w u v;have q:Hid (depthB s=if zAA s=true then (sparts s).length else 0):=rfl;generalize depthB s=D at *
 go_enter Tryz.func80,Tryz.ntmps80
 go_wp2_with fail
 refine h.mono ?_;rintro e y ⟨hR,f⟩;rcases hR with⟨g,rfl⟩ | ⟨g,z,rfl,A,C⟩
 ·have o:Hid (D=0):=by unfold Hid;rw[q.out,g];rfl
  clear g
  go_wp2_with fail
  go_ret;exact⟨zAp (by rw[o.out];rfl),f⟩
 ·have o:Hid (D=(sparts s).length):=by unfold Hid;rw[q.out,g];rfl
  clear g;generalize sparts s=P at *
  go_wp2_with fail
  go_ret;exact⟨zAp (by rw[o.out]),f⟩
end Go.Proofs.YtinfjnndbfahhaaGreatDoor
