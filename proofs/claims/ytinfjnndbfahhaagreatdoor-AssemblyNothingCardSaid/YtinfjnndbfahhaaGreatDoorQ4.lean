import Derived.Test.YtinfjnndbfahhaaGreatDoorQ3
import Derived.Laws.Rows
import Derived.Lib.ReplaceLaws
import Derived.Deep.DeepCutAuto
namespace Go.Proofs.YtinfjnndbfahhaaGreatDoor
open Go.RowKit Go.Maps
set_option linter.unusedVariables false
set_option maxRecDepth 100000
set_option maxHeartbeats 1000000
def bits (f:UInt8->Bool):Array Value:=Array.ofFn (n:=256) fun i=>.bool (f (UInt8.ofNat i.val))
def allB (f:UInt8->Bool)(s:ByteArray):Bool:=s.data.toList.all f
theorem zu (f:UInt8->Bool):(bits f).size=256:=by simp[bits]
theorem zCh (g:UInt8->Bool):(bits g).all (·.oneCell')=true:=by
 rw[Array.all_eq_true_iff_forall_mem];intro v f;obtain⟨i,rfl⟩:=(Array.mem_ofFn).1 f;rfl
theorem zIv (f:UInt8->Bool)(c:UInt8):(bits f)[c.toNat]?=some (.bool (f c)):=by
 have:c.toNat<256:=c.toNat_lt;rw[Array.getElem?_eq_getElem (by rw[zu];exact this)];simp[bits]
theorem zJ4 (f:UInt8->Bool)(c:UInt8):(bits f).setIfInBounds c.toNat (.bool true)=bits (fun x=>f x||x==c):=by
 have:c.toNat<256:=c.toNat_lt;apply Array.ext
 ·simp[zu]
 ·intro i o g;rw[zu]at g;rw[Array.getElem_setIfInBounds (by rw[zu];exact g)];simp only[bits,Array.getElem_ofFn];by_cases e:c.toNat=i
  ·subst e;simp
  ·rw[if_neg e];have:(UInt8.ofNat i==c)=false:=by
    rw[beq_eq_false_iff_ne];intro h;subst h;apply e;simp;omega
   rw[this,Bool.or_false]
theorem zGJ (f:UInt8->Bool)(s:ByteArray)(w:World)(A:s.size<=maxLen):
  Calls Tryz.prog 74 #[.agg (bits f),.string s] w fun e w'=>e=.returned (.bool (allB f s))/\Fr No w w':=by
 have F:s.size<=9223372036854775807:=by unfold maxLen at A;omega
 have v:Fr No w (w.alloc (.cells (bits f) 143)):=(Fr.refl _ _).alloc _;have C:=zD w (.cells (bits f) 143);have o:∀ c:UInt8,(w.alloc (.cells (bits f) 143)).cell? ⟨w.heap.size,c.toNat,none⟩=some (.bool (f c)):=fun c=>(zB C _).trans (zIv f c)
 go_enter Tryz.func74,Tryz.ntmps74
 go_wp2;generalize w.alloc (.cells (bits f) 143)=W0 at *
 go_loop [8] (fun i=>∃ k:Nat,k<=s.size/\i=.int .i64 k/\Hid ((s.data.toList.take k).all f=true)) (fun i=>s.size-(intOf i).toNat)
 case atStart=>exact⟨0,by omega,rfl,by unfold Hid;simp⟩
 case round=>
  obtain⟨k,I,rfl,h⟩:=hrel;by_cases q:k<s.size
  ·have g:s.data.toList[k]?=some s[k]:=by
    rw[Array.getElem?_toList];exact Array.getElem?_eq_getElem (by simpa using q)
   have y:=zh g;have D:((s[k].toNat:Nat):Int)<256:=by have:=s[k].toNat_lt;omega
   have z:=o s[k];rcases hq:f s[k]with _ | _
   ·rw[hq]at z;have u:=zh hq;clear hq g o;go_wp2;go_ret;exact⟨zK (zI3 _ _ _ _ y.out u.out).symm,v⟩
   ·rw[hq]at z;have u:=zh hq;clear hq g o;go_wp2
    go_round
    case rel=>exact⟨k+1,by omega,by go_num,zCD _ _ _ _ y.out h.out u.out⟩
    case measure=>simp[intOf];omega
  ·go_wp2;go_ret;refine⟨zK ?_,v⟩;have:=h.out;rw[List.take_of_length_le (by simp;omega)]at this;unfold allB;rw[this]
theorem zAv (f:UInt8->Bool)(s:ByteArray)(w:World)(R:s.size<=maxLen):
  Calls Tryz.prog 73 #[.agg (bits f),.string s] w fun e w'=>e=.returned (.agg (bits fun c=>f c||s.data.toList.contains c))/\Fr No w w':=by
 have Z:s.size<=9223372036854775807:=by unfold maxLen at R;omega
 have I:Fr No w (w.alloc (.cells (bits f) 143)):=(Fr.refl _ _).alloc _;have A:=zD w (.cells (bits f) 143);have C:(Tryz.prog.info? 143).map (·.size)=some 256:=by kernel_rfl
 have U:Tryz.zeroCells143.size=256:=by kernel_rfl
 have J:=zI w (.cells (bits f) 143) (.cells Tryz.zeroCells143 143);have L:=zL w (.cells (bits f) 143) (.cells Tryz.zeroCells143 143);have N:Fr No w ((w.alloc (.cells (bits f) 143)).alloc (.cells Tryz.zeroCells143 143)):=I.alloc _;clear I A
 go_enter Tryz.func73,Tryz.ntmps73
 go_wp2;generalize (w.alloc (.cells (bits f) 143)).alloc (.cells Tryz.zeroCells143 143)=W0 at *
 go_loopw [8] (fun i wr=>∃ k:Nat,k<=s.size/\i=.int .i64 k/\Hid (wr.heap[w.heap.size]?=some (.cells (bits fun c=>f c||(s.data.toList.take k).contains c) 143))/\Hid (wr.heap[w.heap.size+1]?=some (.cells Tryz.zeroCells143 143))/\Fr No w wr) (fun i _=>s.size-(intOf i).toNat)
 case atStart=>exact⟨0,by omega,rfl,by unfold Hid;simpa using J,L,N⟩
 case round=>
  obtain⟨k,hk,rfl,g,q,y⟩:=hrel;clear J L N;by_cases D:k<s.size
  ·have z:s.data.toList[k]?=some s[k]:=by
    rw[Array.getElem?_toList];exact Array.getElem?_eq_getElem (by simpa using D)
   have V:=zh z;have X:((s[k].toNat:Nat):Int)<256:=by have:=s[k].toNat_lt;omega
   have c0:=(zB g.out s[k].toNat).trans (zIv _ _);have f0:=zE g.out s[k].toNat;have o:Fr No w (wr.setCell ⟨w.heap.size,s[k].toNat,none⟩ (.bool true)):=y.setCell (by simp) _;have u:=zF g.out s[k].toNat (.bool true);rw[zJ4]at u;have O:=(Fr.setAt (Fr.refl (Is w.heap.size) wr) (i:=s[k].toNat) (.bool true)).heap q.out (fun e=>by unfold Is at e;omega);have Q:=zh (And.intro u (And.intro O o));clear u O o z;go_wp2
   go_roundw
   case rel=>
    refine⟨k+1,by omega,by go_num,?_,Q.out.2.1,Q.out.2.2⟩;unfold Hid;rw[Q.out.1,List.take_add_one,V.out]
    congr 3
    funext c
    have e:(c==s[k])=decide (c=s[k]):=by by_cases h:c=s[k]<;>simp[h]
    simp[Bool.or_assoc,e]
   case measure=>simp[intOf];omega
  ·obtain rfl:k=s.size:=by omega
   have u:=g.out;rw[List.take_of_length_le (by simp)]at u;have F:=zh u;clear g u
   go_wp2_with (first
    | (refine wpList_load_row rfl 143 _ rfl w.heap.size rfl 143 _ (0,0) _ F.out Tryz.underlying143 rfl (by rw[zu];exact C) ?_)
    | (refine wpList_store_row rfl 143 _ _ rfl (w.heap.size+1) _ rfl rfl 143 _ q.out (by rw[zu];exact C) (by rw[zu];exact U) (zCh _) ?_))
   have Y:=setRow_heap wr (w.heap.size+1) _ (bits fun c=>f c||s.data.toList.contains c) 143 (0,0) q.out;refine bodyPost_ret (v:=.agg (bits fun c=>f c||s.data.toList.contains c)) (results_cell_row rfl _ _ (w.heap.size+1) 143 _ (0,0) _ rfl Y Tryz.underlying143 rfl (by rw[zu];exact C)) rfl ?_;refine⟨rfl,y.step (T:=Is (w.heap.size+1)) ⟨rfl,rfl,rfl,by simp,fun b _ A=>setRow_other _ _ _ _ (fun e=>A e)⟩ (fun b A e=>by unfold Is at e;omega)⟩
def zAf : UInt8->Bool:=fun c=>((((false||[65,66,67,68,69,70,71,72,73,74,75,76,77,78,79,80,81,82,83,84,85,86,87,88,89,90].contains c)||[97,98,99,100,101,102,103,104,105,106,107,108,109,110,111,112,113,114,115,116,117,118,119,120,121,122].contains c)||[48,49,50,51,52,53,54,55,56,57].contains c)||[95,46,58,43,45].contains c)
theorem zHb : Tryz.zeroCells143=bits (fun _=>false):=by kernel_rfl
theorem zHF (s:ByteArray)(w:World)(f:s.size<=maxLen):
  Calls Tryz.prog 73 #[.agg Tryz.zeroCells143,.string s] w fun e w'=>e=.returned (.agg (bits fun c=>false||s.data.toList.contains c))/\Fr No w w':=by
 rw[zHb];exact zAv _ s w f
def zHg : ByteArray:=⟨#[65,66,67,68,69,70,71,72,73,74,75,76,77,78,79,80,81,82,83,84,85,86,87,88,89,90]⟩
theorem zFh (w:World):
  Calls Tryz.prog 127 #[.string ⟨#[65,66,67,68,69,70,71,72,73,74,75,76,77,78,79,80,81,82,83,84,85,86,87,88,89,90]⟩] w fun e w'=>e=.returned (.string ⟨#[97,98,99,100,101,102,103,104,105,106,107,108,109,110,111,112,113,114,115,116,117,118,119,120,121,122]⟩)/\Fr No w w':=by
 have h:∀ b∈zHg.data.toList,b.toNat<128:=by decide
 refine(Tryz.strings_ToLower_ascii zHg w (by decide) (fun j b f=>h b (List.mem_of_getElem? f))).mono ?_;rintro e w' ⟨rfl,f⟩;exact⟨by congr 2,Fr.of_below_size f⟩
theorem zC2 (w:World):
  Calls Tryz.prog 72 #[] w fun e w'=>e=.returned (.agg (bits zAf))/\Fr No w w':=by
 have y:(Tryz.prog.info? 143).map (·.size)=some 256:=by kernel_rfl
 have J:Tryz.zeroCells143.size=256:=by kernel_rfl
 have z:Fr No w (w.alloc (.cells Tryz.zeroCells143 143)):=(Fr.refl _ _).alloc _;have A:=zD w (.cells Tryz.zeroCells143 143);have C:=zh (And.intro A z);clear A z
 go_enter Tryz.func72,Tryz.ntmps72
 go_wp2_with fail
 refine(zHF _ _ (by decide)).mono ?_;rintro e O ⟨rfl,f⟩
 go_wp2_with fail
 refine(zFh _).mono ?_;rintro e R ⟨rfl,g⟩
 go_wp2_with fail
 refine(zAv _ _ _ (by decide)).mono ?_;rintro e U ⟨rfl,h⟩
 go_wp2_with fail
 refine(zAv _ _ _ (by decide)).mono ?_;rintro e V ⟨rfl,o⟩
 go_wp2_with fail
 refine(zAv _ _ _ (by decide)).mono ?_;rintro e L ⟨rfl,q⟩;have u:=((((C.out.2.step f zi).step g zi).step h zi).step o zi).step q zi;have D:=q.heap (o.heap (h.heap (g.heap (f.heap C.out.1 id) id) id) id) id;obtain⟨F,X⟩:∃ F,F=zAf:=⟨_,rfl⟩
 go_wp2_with (refine wpList_store_row rfl 143 _ _ rfl w.heap.size (bits zAf) rfl rfl 143 _ D (by rw[zu];exact y) (by rw[zu];exact J) (zCh _) ?_)
 have N:=setRow_heap L w.heap.size _ (bits zAf) 143 (0,0) D;refine bodyPost_ret (v:=.agg (bits zAf)) (results_cell_row rfl _ _ w.heap.size 143 _ (0,0) _ rfl N Tryz.underlying143 rfl (by rw[zu];exact y)) rfl ?_;exact⟨rfl,u.step (T:=Is w.heap.size) ⟨rfl,rfl,rfl,by simp,fun b _ I=>setRow_other _ _ _ _ (fun e=>I e)⟩ (fun b I e=>by unfold Is at e;omega)⟩
theorem zE0 (s:ByteArray)(w:World):
  Calls Tryz.prog 71 #[.string s] w fun e w'=>e=.returned (.bool (decide (s.toList=[46])||decide (s.toList=[46,46])))/\w=w':=by
 by_cases f:s.toList=[46]
 ·have H:Hid ((decide (s.toList=[46])||decide (s.toList=[46,46]))=true):=by unfold Hid;simp[f]
  go_enter Tryz.func71,Tryz.ntmps71
  go_wp2_with fail
  all_goals (go_ret;exact⟨zK H.out.symm,rfl⟩)
 ·by_cases g:s.toList=[46,46]
  ·have H:Hid ((decide (s.toList=[46])||decide (s.toList=[46,46]))=true):=by unfold Hid;simp[g]
   go_enter Tryz.func71,Tryz.ntmps71
   go_wp2_with fail
   all_goals (go_ret;exact⟨zK H.out.symm,rfl⟩)
  ·have H:Hid ((decide (s.toList=[46])||decide (s.toList=[46,46]))=false):=by unfold Hid;simp[f,g]
   have h:(s.toList==[46])=false:=by simp[f]
   have o:(s.toList==[46,46])=false:=by simp[g]
   clear f g
   go_enter Tryz.func71,Tryz.ntmps71
   go_wp2_with fail
   all_goals (go_ret;exact⟨zK H.out.symm,rfl⟩)
theorem zFr (s:ByteArray):s.data.toList.all (fun c=>zAf c||[33].contains c)=inSet s nameBA:=by
 unfold inSet
 congr 1
 funext c
 have:nameBA.data.toList=(((([65,66,67,68,69,70,71,72,73,74,75,76,77,78,79,80,81,82,83,84,85,86,87,88,89,90]++[97,98,99,100,101,102,103,104,105,106,107,108,109,110,111,112,113,114,115,116,117,118,119,120,121,122])++[48,49,50,51,52,53,54,55,56,57])++[95,46,58,43,45])++[33]):=rfl;rw[this];unfold zAf;simp only[List.contains_eq_mem,List.mem_append,Bool.false_or,Bool.decide_or]
theorem zAL (s:ByteArray)(w:World)(z:s.size<=maxLen):
  Calls Tryz.prog 36 #[.string s] w fun e w'=>e=.returned (.bool (isName s))/\Fr No w w':=by
 have J:s.size<=9223372036854775807:=by unfold maxLen at z;omega
 by_cases g:s.toList=[]
 ·have H:Hid (isName s=false):=by unfold Hid isName;simp[g]
  go_enter Tryz.func36,Tryz.ntmps36
  go_wp2_with fail
  all_goals (go_ret;exact⟨zK H.out.symm,Fr.refl _ _⟩)
 ·by_cases A:s.size<=32
  ·go_enter Tryz.func36,Tryz.ntmps36
   go_wp2_with fail
   refine(zE0 s _).mono ?_;rintro e L ⟨rfl,rfl⟩;rcases hd:(decide (s.toList=[46])||decide (s.toList=[46,46]))with _ | _
   ·have f:s.toList≠[46]/\s.toList≠[46,46]:=by simpa using hd
    have H:Hid (isName s=inSet s nameBA):=by unfold Hid isName;simp[g,A,f.1,f.2]
    clear hd f
    go_wp2_with fail
    refine(zC2 _).mono ?_;rintro e N ⟨rfl,o⟩
    go_wp2_with fail
    refine(zAv zAf _ _ (by decide)).mono ?_;rintro e O ⟨rfl,u⟩
    go_wp2_with fail
    refine(zGJ _ s _ z).mono ?_;rintro e R ⟨rfl,v⟩;have y:=(o.step u zi).step v zi;have C:allB (fun c=>zAf c||decide (c=33)) s=isName s:=by
     rw[H.out,<-zFr];unfold allB
     congr 1
     funext c
     simp
    have U:s.toList.isEmpty=false:=by simp[g]
    clear g;have D:=zh C;clear C H;generalize F:allB _ s=q;have I:Hid (q=isName s):=F.symm.trans D.out;clear F D;cases q
    all_goals
     go_wp2_with fail
     all_goals (go_ret;exact⟨zK I.out,y⟩)
   ·have H:Hid (isName s=false):=by
     unfold Hid isName;rw[Bool.or_eq_true,decide_eq_true_eq,decide_eq_true_eq]at hd;rcases hd with h | h<;>simp[h]
    clear hd
    go_wp2_with fail
    all_goals (go_ret;exact⟨zK H.out.symm,Fr.refl _ _⟩)
  ·have H:Hid (isName s=false):=by unfold Hid isName;simp[A]
   go_enter Tryz.func36,Tryz.ntmps36
   go_wp2_with fail
   all_goals (go_ret;exact⟨zK H.out.symm,Fr.refl _ _⟩)
structure Atts (w:World)(a:Option Addr)(cap:Nat)(l:List (ByteArray×ByteArray)):Prop where
 len:l.length<=cap
 max:cap<=maxLen
 isNil:a=none->l=[]/\cap=0
 wf:∀ x∈l,x.1.size<=maxLen/\x.2.size<=maxLen
 cell:∀ ad,a=some ad->l≠[]->ad.spot=none/\ad.block<w.heap.size/\∀ i x,l[i]?=some x->w.cell? ⟨ad.block,ad.off+i*2,none⟩=some (.string x.1)/\w.cell? ⟨ad.block,ad.off+i*2+1,none⟩=some (.string x.2)
theorem Atts.at {w:World}{a:Option Addr}{o:Nat}{l:List (ByteArray×ByteArray)}(h:Atts w a o l){k:Nat}(g:k<l.length):
  ∃ b f x y,a=some ⟨b,f,none⟩/\l[k]?=some (x,y)/\x.size<=maxLen/\y.size<=maxLen/\w.cell? ⟨b,f+k*2,none⟩=some (.string x)/\w.cell? ⟨b,f+k*2+1,none⟩=some (.string y):=by
 cases a with
 | none=>obtain⟨rfl,_⟩:=h.isNil rfl;simp at g
 | some z=>
  obtain⟨b,f,C⟩:=z;obtain⟨q,D,A⟩:=h.cell _ rfl (by intro e;subst e;simp at g);simp at q;subst q;have u:=A k _ (List.getElem?_eq_getElem g);have v:=h.wf l[k] (List.getElem_mem g);exact⟨b,f,l[k].1,l[k].2,rfl,List.getElem?_eq_getElem g,v.1,v.2,u.1,u.2⟩
theorem Atts.lenmax {w:World}{a:Option Addr}{f:Nat}{l:List (ByteArray×ByteArray)}(h:Atts w a f l):l.length<=9223372036854775807:=by
 have o:=h.len;have g:=h.max;unfold maxLen at g;omega
theorem Atts.fr {S:Nat->Prop}{w w':World}{a:Option Addr}{o:Nat}{l:List (ByteArray×ByteArray)}(h:Atts w a o l)(q:Fr S w w')(u:∀ g,a=some g->l≠[]->¬ S g.block):Atts w' a o l:=
 ⟨h.len,h.max,h.isNil,h.wf,fun g e f=>by
  obtain⟨z,A,v⟩:=h.cell g e f;exact⟨z,Nat.lt_of_lt_of_le A q.size,fun i x y=>⟨q.cell (v i x y).1 (u g e f),q.cell (v i x y).2 (u g e f)⟩⟩⟩
theorem Atts.no {S:Nat->Prop}{w w':World}{a:Option Addr}{f:Nat}{l:List (ByteArray×ByteArray)}(h:Atts w a f l)(g:Fr S w w')(o:∀ k,¬ S k):Atts w' a f l:=h.fr g (fun _ _ _=>o _)
theorem Atts.nil (w:World):Atts w none 0 []:=⟨by simp,by simp,fun _=>⟨rfl,rfl⟩,by simp,fun _ e _=>by cases e⟩
theorem zCS (g f:List UInt8):∀ (k:Nat) (s:List UInt8),(Lib.replaceK g f k s).length<=s.length+k*f.length
 | 0,s=>by simp[Lib.replaceK]
 | k+1,s=>by
  unfold Lib.replaceK;split
  ·omega
  ·have h:=zCS g f k (s.drop ((Lib.index s g).toNat+g.length));simp only[List.length_append,List.length_take,List.length_drop]at h ⊢;have e:(k+1)*f.length=k*f.length+f.length:=Nat.succ_mul _ _;omega
theorem zDX (s f g:List UInt8):(Lib.replaceAll s f g).length<=s.length+(s.length+1)*g.length:=by
 unfold Lib.replaceAll Lib.replace;split
 ·omega
 ·have h:=zCS f g (Lib.replaceNum s f (-1)) s;have o:Lib.replaceNum s f (-1)<=s.length+1:=by
   unfold Lib.replaceNum;rw[if_pos (.inl (by omega))];exact Lib.count_le s f
  have q:=Nat.mul_le_mul_right g.length o;omega
structure Sized (d:Dev):Prop where
 name:d.name.size<=maxLen
 orig:d.orig.size<=maxLen
 sub:d.sub.size<=maxLen
 drv:d.drv.size<=maxLen
 ali:d.ali.size<=maxLen
theorem strEq (x y:ByteArray):(x.toList==y.toList)=decide (x=y):=by
 rw[ByteArray.toList_eq,ByteArray.toList_eq,Bool.eq_iff_iff,decide_eq_true_iff];constructor
 ·intro h;cases x;cases y;have:=eq_of_beq h;simp only at this
  congr 1
  exact Array.toList_inj.1 this
 ·rintro rfl;simp
theorem zA1 : ∀ (a b:List UInt8),Lib.compareBytes a b=0->a=b
 | [],[],_=>rfl
 | [],_::_,h=>by simp[Lib.compareBytes]at h
 | _::_,[],h=>by simp[Lib.compareBytes]at h
 | a::s,b::t,h=>by
  unfold Lib.compareBytes at h;split at h
  ·simp at h
  ·rename_i f;split at h
   ·simp at h
   ·rename_i g;have:a=b:=by
     have o:=UInt8.not_lt.1 f;have q:=UInt8.not_lt.1 g;exact UInt8.le_antisymm q o
    rw[this,zA1 s t h]
def cmpN : List ByteArray->List ByteArray->Int
 | [],[]=>0
 | [],_::_=>-1
 | _::_,[]=>1
 | a::s,b::t=>if a=b then cmpN s t else Lib.compareBytes a.data.toList b.data.toList
theorem zGl : ∀ (p a b:List ByteArray),cmpN (p++a) (p++b)=cmpN a b
 | [],_,_=>rfl
 | x::p,a,b=>by
  show cmpN (x::(p++a)) (x::(p++b))=_
  rw[cmpN,if_pos rfl];exact zGl p a b
theorem zIm {a b:List ByteArray}{k:Nat}(h:a.take k=b.take k):cmpN a b=cmpN (a.drop k) (b.drop k):=by
 have f:=zGl (a.take k) (a.drop k) (b.drop k);rw[List.take_append_drop,h,List.take_append_drop]at f;exact f
structure DevB (W:World)(b:Nat)(d:Dev):Prop where
 c0:W.cell? ⟨b,0,none⟩=some (.int .i64 d.index)
 c1:W.cell? ⟨b,1,none⟩=some (.int .i64 d.parent)
 c2:W.cell? ⟨b,2,none⟩=some (.string d.name)
 c3:W.cell? ⟨b,3,none⟩=some (.string d.orig)
 c4:W.cell? ⟨b,4,none⟩=some (.string d.sub)
 c5:W.cell? ⟨b,5,none⟩=some (.string d.drv)
 c6:W.cell? ⟨b,6,none⟩=some (.string d.ali)
 c7:W.cell? ⟨b,7,none⟩=some (.int .i64 d.kind)
 c8:W.cell? ⟨b,8,none⟩=some (.int .i64 d.num)
 c9:W.cell? ⟨b,9,none⟩=some (.slice d.aa d.an d.ac)
theorem DevB.of {W:World}{b:Nat}{d:Dev}{T:TypeId}{f:Nat×Nat}(h:W.heap[b]?=some (.cells d.vals T f)):DevB W b d:=
 ⟨zB h 0,zB h 1,zB h 2,zB h 3,zB h 4,zB h 5,zB h 6,zB h 7,zB h 8,zB h 9⟩
structure DevF (W:World)(b:Nat):Prop where
 f0:W.frozen? ⟨b,0,none⟩=false
 f1:W.frozen? ⟨b,1,none⟩=false
 f2:W.frozen? ⟨b,2,none⟩=false
 f3:W.frozen? ⟨b,3,none⟩=false
 f4:W.frozen? ⟨b,4,none⟩=false
 f5:W.frozen? ⟨b,5,none⟩=false
 f6:W.frozen? ⟨b,6,none⟩=false
 f7:W.frozen? ⟨b,7,none⟩=false
 f8:W.frozen? ⟨b,8,none⟩=false
 f9:W.frozen? ⟨b,9,none⟩=false
theorem DevF.of {W:World}{b:Nat}{cs:Array Value}{T:TypeId}(h:W.heap[b]?=some (.cells cs T)):DevF W b:=
 ⟨zE h 0,zE h 1,zE h 2,zE h 3,zE h 4,zE h 5,zE h 6,zE h 7,zE h 8,zE h 9⟩
theorem zES (x f h:Int)(w:World):
  Calls Tryz.prog 129 #[.int .i64 x,.int .i64 f,.int .i64 h] w fun e w'=>e=.returned (.bool (decide (f<=x)&&decide (x<=h)))/\w=w':=by
 by_cases o:f<=x
 ·have g:=zh o
  go_enter Tryz.func129,Tryz.ntmps129
  go_wp2_with fail
  all_goals (go_ret;exact⟨zK (by rw[decide_eq_true g.out];rfl),rfl⟩)
 ·have g:=zh o
  go_enter Tryz.func129,Tryz.ntmps129
  go_wp2_with fail
  all_goals (go_ret;exact⟨zK (by rw[decide_eq_false (by have:=g.out;omega)];rfl),rfl⟩)
def numK (k:Int):Bool:=k==2||k==3
theorem zDr (k:Int)(w:World):
  Calls Tryz.prog 183 #[.int .i64 k] w fun e w'=>e=.returned (.bool (numK k))/\w=w':=by
 rcases h1:(k==2)with _ | _
 ·have H:Hid (numK k=(k==3)):=by unfold Hid numK;rw[h1];rfl
  go_enter Tryz.func183,Tryz.ntmps183
  go_wp2_with fail
  all_goals (go_ret;exact⟨zK H.out.symm,rfl⟩)
 ·have H:Hid (numK k=true):=by unfold Hid numK;rw[h1];rfl
  go_enter Tryz.func183,Tryz.ntmps183
  go_wp2_with fail
  all_goals (go_ret;exact⟨zK H.out.symm,rfl⟩)
def nodeOf (s:ByteArray):ByteArray:=⟨(Lib.replaceAll s.data.toList [33] [47]).toArray⟩
theorem zC3 (s:ByteArray)(g:s.size<=1000000):(nodeOf s).size<=3000000:=by
 have h:=zDX s.data.toList [33] [47];have f:s.data.toList.length=s.size:=Array.length_toList;rw[f]at h;simp only[List.length_cons,List.length_nil]at h;show (Array.size (List.toArray _))<=_
 rw[List.size_toArray];omega
def nodeR (d:Dev):ByteArray:=if numK d.kind=true then nodeOf d.orig else ⟨#[]⟩
theorem zDk (d:Dev)(f:d.orig.size<=1000000):(nodeR d).size<=3000000:=by
 unfold nodeR;split
 ·exact zC3 _ f
 ·show (0:Nat)<=_;omega
theorem zIi (d:Dev)(m:Int)(w:World)(I:d.orig.size<=1000000)(C:w.cell? ⟨0,0,none⟩=some (.int .i64 m))(J:0<w.heap.size):
  Calls Tryz.prog 134 #[.agg d.vals] w fun e w'=>e=.returned (.tuple #[.string (nodeR d),.bool (numK d.kind)])/\Fr No w w':=by
 have u:Fr No w (w.alloc (.cells d.vals 36)):=(Fr.refl _ _).alloc _;have y:=u.cell C id;have g:=Lib.countB_le ⟨#[33]⟩ (by decide) _ d.orig (Nat.le_refl _);have f:d.orig.size+Lib.countB d.orig ⟨#[33]⟩*(⟨#[47]⟩:ByteArray).size<=140737488355328:=by
  show d.orig.size+Lib.countB d.orig ⟨#[33]⟩*1<=_
  omega
 have h:=zh f;clear g f;obtain⟨rs,o⟩:∃ rs,rs=nodeR d:=⟨_,rfl⟩
 rw[<-o];have q:Hid (rs=if numK d.kind=true then nodeOf d.orig else ⟨#[]⟩):=o;clear o;unfold Dev.vals at *
 go_enter Tryz.func134,Tryz.ntmps134
 go_wp2_with fail
 refine(zDr _ _).mono ?_;rintro e D ⟨rfl,rfl⟩;rcases hk:numK d.kind with _ | _
 ·have z:Hid (rs=⟨#[]⟩):=by unfold Hid;rw[q.out,hk];rfl
  have A:=zh hk;clear hk
  go_wp2_with fail
  refine bodyPost_ret (v:=.tuple #[.string ⟨#[]⟩,.bool false]) (by simp[results,Tryz.results134,go_sem]) rfl ?_;exact⟨by rw[z.out,A.out],u⟩
 ·have z:Hid (rs=nodeOf d.orig):=by unfold Hid;rw[q.out,hk];rfl
  have A:=zh hk;clear hk
  go_wp2_with fail
  refine(Tryz.strings_ReplaceAll d.orig ⟨#[33]⟩ ⟨#[47]⟩ m _ (by omega) y (by decide) h.out).mono ?_;rintro e D ⟨rfl,F⟩
  go_wp2_with fail
  refine bodyPost_ret (v:=.tuple #[.string ⟨(Lib.replaceAll d.orig.data.toList [33] [47]).toArray⟩,.bool true]) (by simp[results,Tryz.results134,go_sem]) rfl ?_;exact⟨by rw[z.out,A.out];rfl,u.step (Fr.of_below_size F) zi⟩
def textF : UInt8->Bool:=fun c=>!(decide ((c.toNat:Int)<32))&&!(decide (126<(c.toNat:Int)))
def zAr (s:ByteArray):Bool:=s.data.toList.all textF&&decide (s.size<=256)
theorem zEz (s:ByteArray)(w:World)(I:s.size<=maxLen):
  Calls Tryz.prog 125 #[.string s] w fun e w'=>e=.returned (.bool (zAr s))/\w=w':=by
 have L:s.size<=9223372036854775807:=by unfold maxLen at I;omega
 go_enter Tryz.func125,Tryz.ntmps125
 go_wp2
 go_loop [6] (fun i=>∃ k:Nat,k<=s.size/\i=.int .i64 k/\Hid ((s.data.toList.take k).all textF=true)) (fun i=>s.size-(intOf i).toNat)
 case atStart=>exact⟨0,by omega,rfl,by unfold Hid;simp⟩
 case round=>
  obtain⟨k,N,rfl,u⟩:=hrel;by_cases z:k<s.size
  ·have v:s.data.toList[k]?=some s[k]:=by
    rw[Array.getElem?_toList];exact Array.getElem?_eq_getElem (by simpa using z)
   have A:=zh v;clear v;obtain⟨q,f⟩:∃ q,q=s[k]:=⟨_,rfl⟩
   have H:Hid (textF q=(!(decide ((q.toNat:Int)<32))&&!(decide (126<(q.toNat:Int))))):=by unfold Hid;rfl
   have C:=zh f;by_cases g:((q.toNat:Nat):Int)<32
   ·have D:((s[k].toNat:Nat):Int)<32:=by rw[<-f];exact g
    have y:Hid (textF q=false):=by unfold Hid;rw[H.out];simp only[g,decide_true,Bool.not_true,Bool.false_and]
    clear f g;go_wp2;go_ret;exact⟨zK (by unfold zAr;rw[zI3 _ _ _ _ A.out (by rw[<-C.out];exact y.out)];rfl),rfl⟩
   ·have D:¬ ((s[k].toNat:Nat):Int)<32:=by rw[<-f];exact g
    by_cases o:126<((q.toNat:Nat):Int)
    ·have F:126<((s[k].toNat:Nat):Int):=by rw[<-f];exact o
     have y:Hid (textF q=false):=by unfold Hid;rw[H.out];simp only[o,decide_true,Bool.not_true,Bool.and_false]
     clear f g o;go_wp2;go_ret;exact⟨zK (by unfold zAr;rw[zI3 _ _ _ _ A.out (by rw[<-C.out];exact y.out)];rfl),rfl⟩
    ·have F:¬ 126<((s[k].toNat:Nat):Int):=by rw[<-f];exact o
     have y:Hid (textF q=true):=by unfold Hid;rw[H.out];simp only[g,o,decide_false,Bool.not_false,Bool.and_self]
     clear f g o;go_wp2
     go_round
     case rel=>exact⟨k+1,by omega,by go_num,zCD _ _ _ _ A.out u.out (by rw[<-C.out];exact y.out)⟩
     case measure=>simp[intOf];omega
  ·have h:=u.out;rw[List.take_of_length_le (by simp;omega)]at h;have J:=zh h;clear h;go_wp2;go_ret;exact⟨zK (by unfold zAr;rw[J.out];simp;omega),rfl⟩
def benB (s t:ByteArray):Bool:=Lib.hasPrefix t.data.toList (s++⟨#[47]⟩).data.toList
theorem zE1 (s u:ByteArray)(w:World)(g:s.size<=3000000)(h:u.size<=3000000):
  Calls Tryz.prog 193 #[.string s,.string u] w fun e w'=>e=.returned (.bool (benB s u))/\w=w':=by
 have f:Hid (benB s u=Lib.hasPrefix u.data.toList (s++⟨#[47]⟩).data.toList):=rfl
 go_enter Tryz.func193,Tryz.ntmps193
 go_wp2_with fail
 refine(Tryz.strings_HasPrefix u _ _).mono ?_;rintro e o ⟨rfl,rfl⟩
 go_wp2_with fail
 go_ret;exact⟨zK f.out.symm,rfl⟩
def namedB (d:Dev):Bool:=isName d.name&&isName d.orig&&isName d.sub&&zAr d.ali
theorem zLN (d:Dev)(w:World)(hs:Sized d)(hd:d.drv=⟨#[]⟩):
  Calls Tryz.prog 130 #[.agg d.vals] w fun e w'=>e=.returned (.bool (namedB d))/\Fr No w w':=by
 obtain⟨ix,pa,nm,h,o,dr,q,kd,nu,aa,an,ac⟩:=d;dsimp only at hd;subst hd;obtain⟨s1,s2,s3,-,s5⟩:=hs;have hx:Fr No w (w.alloc (.cells (Dev.vals ⟨ix,pa,nm,h,o,⟨#[]⟩,q,kd,nu,aa,an,ac⟩) 36)):=(Fr.refl _ _).alloc _;have q0:=zD w (.cells (Dev.vals ⟨ix,pa,nm,h,o,⟨#[]⟩,q,kd,nu,aa,an,ac⟩) 36);obtain⟨W0,f⟩:∃ W0,W0=w.alloc (.cells (Dev.vals ⟨ix,pa,nm,h,o,⟨#[]⟩,q,kd,nu,aa,an,ac⟩) 36):=⟨_,rfl⟩
 rw[<-f]at hx q0;unfold Dev.vals at f ⊢;dsimp only at f;obtain⟨u,v⟩:∃ u,u=namedB ⟨ix,pa,nm,h,o,⟨#[]⟩,q,kd,nu,aa,an,ac⟩:=⟨_,rfl⟩
 rw[<-v];have g:Hid (u=(isName nm&&isName h&&isName o&&zAr q)):=v;clear v;obtain⟨z,A,C,D,F,I,J,L,N,O⟩:=DevB.of q0
 go_enter Tryz.func130,Tryz.ntmps130
 go_upto_region 1 with(fail)
 rw[<-f];clear f
 go_wp2_with fail
 refine(zAL nm _ s1).mono ?_;rintro e w1 ⟨rfl,R⟩;have q1:=R.heap q0 id;have U:=hx.step R zi;clear z A C D F I J L N O q0;obtain⟨z,A,C,D,F,I,J,L,N,O⟩:=DevB.of q1;rcases hb1:isName nm with _ | _
 ·have y:Hid (u=false):=by unfold Hid;rw[g.out,hb1];rfl
  clear hb1
  go_wp2_with fail
  go_ret;exact⟨zK y.out.symm,U⟩
 have H1:=zh hb1;clear hb1
 go_wp2_with fail
 refine(zAL h _ s2).mono ?_;rintro e w2 ⟨rfl,V⟩;have q2:=V.heap q1 id;have X:=U.step V zi;clear z A C D F I J L N O q1;obtain⟨z,A,C,D,F,I,J,L,N,O⟩:=DevB.of q2;rcases hb1:isName h with _ | _
 ·have y:Hid (u=false):=by unfold Hid;rw[g.out,hb1,Bool.and_false];rfl
  clear hb1
  go_wp2_with fail
  go_ret;exact⟨zK y.out.symm,X⟩
 have H2:=zh hb1;clear hb1
 go_wp2_with fail
 refine(zAL o _ s3).mono ?_;rintro e w3 ⟨rfl,Y⟩;have q3:=Y.heap q2 id;have Z:=X.step Y zi;clear z A C D F I J L N O q2;obtain⟨z,A,C,D,F,I,J,L,N,O⟩:=DevB.of q3;rcases hb1:isName o with _ | _
 ·have y:Hid (u=false):=by unfold Hid;rw[g.out,hb1,Bool.and_false];rfl
  clear hb1
  go_wp2_with fail
  go_ret;exact⟨zK y.out.symm,Z⟩
 have H3:=zh hb1;clear hb1
 go_wp2_with fail
 refine(zEz q _ s5).mono ?_;rintro e w4 ⟨rfl,rfl⟩;have y:Hid (u=zAr q):=by unfold Hid;rw[g.out,H1.out,H2.out,H3.out];rfl
 go_wp2_with fail
 go_ret;exact⟨zK y.out.symm,Z⟩
theorem zLO (d:Dev)(w:World)(f:d.kind=2):
  Calls Tryz.prog 131 #[.agg d.vals] w fun e w'=>e=.returned (.bool (d.name.toList==d.orig.toList))/\Fr No w w':=by
 obtain⟨h,o,nm,q,u,v,y,F,z,A,C,D⟩:=d;dsimp only at f;subst f;have g:Fr No w (w.alloc (.cells (Dev.vals ⟨h,o,nm,q,u,v,y,2,z,A,C,D⟩) 36)):=(Fr.refl _ _).alloc _;unfold Dev.vals at *;dsimp only at g ⊢
 go_enter Tryz.func131,Tryz.ntmps131
 go_wp2_with fail
 go_ret;exact⟨rfl,g⟩
theorem zIh (d:Dev)(w:World)(f:d.kind=2):
  Calls Tryz.prog 132 #[.agg d.vals] w fun e w'=>e=.returned (.bool (decide (1<=d.num)&&decide (d.num<=1073741824)))/\Fr No w w':=by
 obtain⟨h,o,nm,q,u,v,y,I,z,A,C,D⟩:=d;dsimp only at f;subst f;have g:Fr No w (w.alloc (.cells (Dev.vals ⟨h,o,nm,q,u,v,y,2,z,A,C,D⟩) 36)):=(Fr.refl _ _).alloc _;unfold Dev.vals at *;dsimp only at g ⊢;have H:Hid (numK 2=true):=rfl
 go_enter Tryz.func132,Tryz.ntmps132
 go_wp2_with fail
 refine(zDr _ _).mono ?_;rintro e F ⟨rfl,rfl⟩;rw[H.out]
 go_wp2_with fail
 refine(zES _ _ _ _).mono ?_;rintro e F ⟨rfl,rfl⟩
 go_wp2_with fail
 go_ret;exact⟨rfl,g⟩
end Go.Proofs.YtinfjnndbfahhaaGreatDoor
