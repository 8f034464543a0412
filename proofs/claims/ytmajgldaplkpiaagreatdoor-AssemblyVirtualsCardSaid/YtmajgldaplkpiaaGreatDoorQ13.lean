import Derived.Test.YtmajgldaplkpiaaGreatDoorQ11
import Derived.Test.YtmajgldaplkpiaaGreatDoorQ12
import Derived.RangeFuncNested
import Derived.RangeFuncBound
import Derived.RangeFuncCalls
import Derived.RangeFuncLeaves
import Derived.Shelf.Abstract
import Derived.Shelf.RegionOpen
import Derived.TacticsInMore
import Derived.LoopNIn
import Derived.LoopIn
namespace Go.Proofs.YtmajgldaplkpiaaGreatDoor
open Go.RowKit Go.Maps Go.Shelf
set_option linter.unusedVariables false
set_option maxRecDepth 100000
set_option maxHeartbeats 1000000
theorem Strs.keep {X W:World}{a:Option Addr}{cap:Nat}{l:List ByteArray}{S:Nat->Prop}(h:Strs X a cap l)(hf:Fr S X W)(hS:∀ b,b<X.heap.size->¬ S b):Strs W a cap l:=
 h.fr hf (fun ad e hne=>hS _ (h.cell ad e hne).2.1)
def BlkT (w:World)(a:Option Addr)(T:TypeId):Prop:=∀ ad,a=some ad->∃ cs,w.heap[ad.block]?=some (.cells cs T (0,0))
theorem BlkT.none (w:World)(T:TypeId):BlkT w none T:=fun _ e=>by cases e
theorem zAj {w:World}{base:Nat}{e:TypeId}{size:Nat}{a:Option Addr}{n m c:Nat}{xs:List Value}(h:w.ownsRow base e size (.slice a n c) m xs):BlkT w a e:=by
 obtain⟨_,⟨h1,_⟩ | ⟨g,cap,cur,h1,hg,hb,_⟩⟩:=h
 ·cases h1;exact BlkT.none _ _
 ·cases h1;exact fun ad e=>by cases e;exact⟨cur,hb⟩
theorem BlkT.fr {S:Nat->Prop}{w w':World}{a:Option Addr}{T:TypeId}(h:BlkT w a T)(hf:Fr S w w')(hS:∀ ad,a=some ad->¬ S ad.block):BlkT w' a T:=fun ad e=>by
 obtain⟨cs,hc⟩:=h ad e;exact⟨cs,hf.heap hc (hS ad e)⟩
theorem BlkT.ne {w:World}{base:Nat}{e T:TypeId}{size:Nat}{v:Value}{n:Nat}{xs:List Value}(ho:w.ownsRow base e size v n xs){a:Option Addr}(h:BlkT w a T)(hne:T≠e):∀ ad,a=some ad->¬ v.ownBlock=some ad.block:=by
 intro ad e' hb;obtain⟨cs,hc⟩:=h ad e';obtain⟨_,⟨rfl,_⟩ | ⟨g,cap,cur,rfl,hg,hbl,_⟩⟩:=ho
 ·cases hb
 ·cases hb;rw[hc]at hbl;cases hbl;exact hne rfl
theorem zJ {w w1:World}{base:Nat}{e:TypeId}{size:Nat}{v:Value}{n:Nat}{xs:List Value}(h:w.ownsRow base e size v n xs){S:Nat->Prop}(hf:Fr S w w1)(hS:∀ b,v.ownBlock=some b->¬ S b):w1.ownsRow base e size v n xs:=by
 obtain⟨h0,⟨rfl,h2⟩ | ⟨g,cap,cur,rfl,hg,hb,h1,h2,h3,h4⟩⟩:=h
 ·exact⟨h0,.inl ⟨rfl,h2⟩⟩
 ·exact⟨h0,.inr ⟨g,cap,cur,rfl,hg,hf.heap hb (hS g rfl),h1,h2,h3,h4⟩⟩
structure Vir where
 q:ByteArray
 o:ByteArray
 c:ByteArray
 r:Int
def Vir.vals (v:Vir):Array Value:=#[.string v.q,.string v.o,.string v.c,.int .i64 v.r]
structure Virs (w:World)(a:Option Addr)(cap:Nat)(L:List Vir):Prop where
 len:L.length<=cap
 max:cap<=maxLen
 isNil:a=none->L=[]/\cap=0
 cell:∀ ad,a=some ad->L≠[]->ad.spot=none/\ad.block<w.heap.size/\∀ i m,L[i]?=some m->∀ j,j<4->w.cell? ⟨ad.block,ad.off+(i*4+j),none⟩=m.vals[j]?
structure VirAt (w:World)(b o:Nat)(m:Vir):Prop where
 c0:w.cell? ⟨b,o,none⟩=some (.string m.q)
 c1:w.cell? ⟨b,o+1,none⟩=some (.string m.o)
 c2:w.cell? ⟨b,o+2,none⟩=some (.string m.c)
 c3:w.cell? ⟨b,o+3,none⟩=some (.int .i64 m.r)
theorem Virs.elem {w:World}{a:Option Addr}{cap:Nat}{L:List Vir}(h:Virs w a cap L){k:Nat}(hk:k<L.length):
  ∃ b off m,a=some ⟨b,off,none⟩/\L[k]?=some m/\VirAt w b (off+k*4) m/\b<w.heap.size:=by
 cases a with
 | none=>obtain⟨rfl,_⟩:=h.isNil rfl;simp at hk
 | some ad=>
  obtain⟨b,off,sp⟩:=ad;obtain⟨h1,h2,h3⟩:=h.cell _ rfl (by intro e;subst e;simp at hk);simp at h1;subst h1;have hc:=h3 k _ (List.getElem?_eq_getElem hk);exact⟨b,off,L[k],rfl,List.getElem?_eq_getElem hk,⟨hc 0 (by omega),hc 1 (by omega),hc 2 (by omega),hc 3 (by omega)⟩,h2⟩
theorem Virs.lenmax {w:World}{a:Option Addr}{cap:Nat}{L:List Vir}(h:Virs w a cap L):L.length<=9223372036854775807:=by
 have h1:=h.len;have h2:=h.max;unfold maxLen at h2;omega
theorem Virs.fr {S:Nat->Prop}{w w':World}{a:Option Addr}{cap:Nat}{L:List Vir}(h:Virs w a cap L)(hf:Fr S w w')(hS:∀ ad,a=some ad->L≠[]->¬ S ad.block):Virs w' a cap L:=
 ⟨h.len,h.max,h.isNil,fun ad e hne=>by
  obtain⟨h1,h2,h3⟩:=h.cell ad e hne;refine⟨h1,Nat.lt_of_lt_of_le h2 hf.size,fun i m hi j hj=>?_⟩;rw[<-h3 i m hi j hj];exact World.cell?_of_block (hf.block _ h2 (hS ad e hne))⟩
theorem Virs.nil (w:World):Virs w none 0 []:=⟨by simp,by simp,fun _=>⟨rfl,rfl⟩,fun _ e _=>by cases e⟩
theorem infoV : (Tryz.prog.info? 79).map (fun i=>(i.zero,i.size,i.bytes))=some (some (.agg #[.string ByteArray.empty,.string ByteArray.empty,.string ByteArray.empty,.int .i64 0]),4,56):=by kernel_rfl
def vflat (L:List Vir):List Value:=L.flatMap (fun m=>m.vals.toList)
theorem zBN (L:List Vir)(m:Vir):vflat (L++[m])=vflat L++m.vals.toList:=by simp[vflat]
theorem zBg (m:Vir):∀ u∈m.vals.toList,u.oneCell'=true:=by
 intro u hu;simp[Vir.vals]at hu;rcases hu with rfl | rfl | rfl | rfl<;>rfl
theorem zFS : ∀ (L:List Vir) (i:Nat) (m:Vir),L[i]?=some m->∀ j,j<4->(vflat L)[i*4+j]?=m.vals[j]?
 | [],i,m,h,j,hj=>by simp at h
 | x::t,0,m,h,j,hj=>by
  simp at h;subst h;have:vflat (x::t)=x.vals.toList++vflat t:=by simp[vflat]
  rw[this,List.getElem?_append_left (by simp[Vir.vals];omega)];simp
 | x::t,i+1,m,h,j,hj=>by
  have:vflat (x::t)=x.vals.toList++vflat t:=by simp[vflat]
  rw[this,List.getElem?_append_right (by simp[Vir.vals];omega),show (i+1)*4+j-x.vals.toList.length=i*4+j from by simp[Vir.vals];omega];exact zFS t i m (by simpa using h) j hj
theorem Virs.of_own {w:World}{base:Nat}{e:TypeId}{v:Value}{L:List Vir}(h:w.ownsRow base e 4 v L.length (vflat L)):
  ∃ a cap,v=.slice a L.length cap/\Virs w a cap L/\∀ ad,a=some ad->base<=ad.block:=by
 obtain⟨_,⟨rfl,h2⟩ | ⟨g,cap,cur,rfl,hg,hb,h1,h2,h3,h4⟩⟩:=h
 ·have:L=[]:=List.eq_nil_of_length_eq_zero h2;subst this;exact⟨none,0,rfl,Virs.nil w,fun _ e=>by cases e⟩
 ·refine⟨some ⟨g,0,none⟩,cap,rfl,⟨h1,h2,(fun e=>by cases e),?_⟩,fun ad e=>by cases e;exact hg⟩;intro ad e hne;cases e;refine⟨rfl,zE hb,fun i m hi j hj=>?_⟩;rw[zB hb];simp only[Nat.zero_add];have hlt:i<L.length:=(List.getElem?_eq_some_iff.1 hi).1;have e1:(cur.toList.take (L.length*4))[i*4+j]?=(vflat L)[i*4+j]?:=by rw[h4]
  rw[List.getElem?_take_of_lt (by omega),zFS L i m hi j hj]at e1;rw[<-Array.getElem?_toList,e1]
structure Src where
 at_:Int
 d:Dev
 o:ByteArray
 r:Int
def Src.vals (s:Src):Array Value:=#[.int .i64 s.at_,.int .i64 s.d.index,.int .i64 s.d.parent,.string s.d.name,.string s.d.orig,.string s.d.sub,.string s.d.drv,.string s.d.ali,.int .i64 s.d.kind,.int .i64 s.d.num,.slice s.d.aa s.d.an s.d.ac,.string s.o,.int .i64 s.r]
structure SrcB (W:World)(b o:Nat)(s:Src):Prop where
 c0:W.cell? ⟨b,o,none⟩=some (.int .i64 s.at_)
 c1:W.cell? ⟨b,o+1,none⟩=some (.int .i64 s.d.index)
 c2:W.cell? ⟨b,o+2,none⟩=some (.int .i64 s.d.parent)
 c3:W.cell? ⟨b,o+3,none⟩=some (.string s.d.name)
 c4:W.cell? ⟨b,o+4,none⟩=some (.string s.d.orig)
 c5:W.cell? ⟨b,o+5,none⟩=some (.string s.d.sub)
 c6:W.cell? ⟨b,o+6,none⟩=some (.string s.d.drv)
 c7:W.cell? ⟨b,o+7,none⟩=some (.string s.d.ali)
 c8:W.cell? ⟨b,o+8,none⟩=some (.int .i64 s.d.kind)
 c9:W.cell? ⟨b,o+9,none⟩=some (.int .i64 s.d.num)
 c10:W.cell? ⟨b,o+10,none⟩=some (.slice s.d.aa s.d.an s.d.ac)
 c11:W.cell? ⟨b,o+11,none⟩=some (.string s.o)
 c12:W.cell? ⟨b,o+12,none⟩=some (.int .i64 s.r)
structure SrcB0 (W:World)(b:Nat)(s:Src):Prop where
 c0:W.cell? ⟨b,0,none⟩=some (.int .i64 s.at_)
 c1:W.cell? ⟨b,1,none⟩=some (.int .i64 s.d.index)
 c2:W.cell? ⟨b,2,none⟩=some (.int .i64 s.d.parent)
 c3:W.cell? ⟨b,3,none⟩=some (.string s.d.name)
 c4:W.cell? ⟨b,4,none⟩=some (.string s.d.orig)
 c5:W.cell? ⟨b,5,none⟩=some (.string s.d.sub)
 c6:W.cell? ⟨b,6,none⟩=some (.string s.d.drv)
 c7:W.cell? ⟨b,7,none⟩=some (.string s.d.ali)
 c8:W.cell? ⟨b,8,none⟩=some (.int .i64 s.d.kind)
 c9:W.cell? ⟨b,9,none⟩=some (.int .i64 s.d.num)
 c10:W.cell? ⟨b,10,none⟩=some (.slice s.d.aa s.d.an s.d.ac)
 c11:W.cell? ⟨b,11,none⟩=some (.string s.o)
 c12:W.cell? ⟨b,12,none⟩=some (.int .i64 s.r)
theorem SrcB0.of {W:World}{b:Nat}{s:Src}{T:TypeId}{fz:Nat×Nat}(h:W.heap[b]?=some (.cells s.vals T fz)):SrcB0 W b s:=
 ⟨zB h 0,zB h 1,zB h 2,zB h 3,zB h 4,zB h 5,zB h 6,zB h 7,zB h 8,zB h 9,zB h 10,zB h 11,zB h 12⟩
structure Srcs (w:World)(a:Option Addr)(cap:Nat)(L:List Src):Prop where
 len:L.length<=cap
 max:cap<=maxLen
 isNil:a=none->L=[]/\cap=0
 cell:∀ ad,a=some ad->L≠[]->ad.spot=none/\ad.block<w.heap.size/\∀ i s,L[i]?=some s->∀ j,j<13->w.cell? ⟨ad.block,ad.off+(i*13+j),none⟩=s.vals[j]?
theorem Srcs.elem {w:World}{a:Option Addr}{cap:Nat}{L:List Src}(h:Srcs w a cap L){k:Nat}(hk:k<L.length):
  ∃ b off s,a=some ⟨b,off,none⟩/\L[k]?=some s/\SrcB w b (off+k*13) s/\b<w.heap.size:=by
 cases a with
 | none=>have:=(h.isNil rfl).1;subst this;simp at hk
 | some ad=>
  obtain⟨b,off,sp⟩:=ad;obtain⟨h1,h2,h3⟩:=h.cell _ rfl (by intro e;subst e;simp at hk);simp only at h1 h2 h3;subst h1;have h4:=h3 k L[k] (List.getElem?_eq_getElem hk);refine⟨b,off,L[k],rfl,List.getElem?_eq_getElem hk,⟨?_,?_,?_,?_,?_,?_,?_,?_,?_,?_,?_,?_,?_⟩,h2⟩
  ·exact h4 0 (by omega)
  ·exact h4 1 (by omega)
  ·exact h4 2 (by omega)
  ·exact h4 3 (by omega)
  ·exact h4 4 (by omega)
  ·exact h4 5 (by omega)
  ·exact h4 6 (by omega)
  ·exact h4 7 (by omega)
  ·exact h4 8 (by omega)
  ·exact h4 9 (by omega)
  ·exact h4 10 (by omega)
  ·exact h4 11 (by omega)
  ·exact h4 12 (by omega)
theorem Srcs.lenmax {w:World}{a:Option Addr}{cap:Nat}{L:List Src}(h:Srcs w a cap L):L.length<=9223372036854775807:=by
 have h1:=h.len;have h2:=h.max;unfold maxLen at h2;omega
theorem Srcs.fr {S:Nat->Prop}{w w':World}{a:Option Addr}{cap:Nat}{L:List Src}(h:Srcs w a cap L)(hf:Fr S w w')(hS:∀ ad,a=some ad->L≠[]->¬ S ad.block):Srcs w' a cap L:=
 ⟨h.len,h.max,h.isNil,fun ad e hne=>by
  obtain⟨h1,h2,h3⟩:=h.cell ad e hne;refine⟨h1,Nat.lt_of_lt_of_le h2 hf.size,fun i s hi j hj=>?_⟩;have h4:=h3 i s hi j hj;have h5:j<s.vals.size:=hj;rw[Array.getElem?_eq_getElem h5]at h4 ⊢;exact hf.cell h4 (hS ad e hne)⟩
theorem Srcs.nil (w:World):Srcs w none 0 []:=⟨by simp,by simp,fun _=>⟨rfl,rfl⟩,fun _ e _=>by cases e⟩
def sflat (L:List Src):List Value:=L.flatMap (fun s=>s.vals.toList)
theorem zB7 (L:List Src)(s:Src):sflat (L++[s])=sflat L++s.vals.toList:=by simp[sflat]
theorem zBj (s:Src):∀ u∈s.vals.toList,u.oneCell'=true:=by
 intro u hu;simp[Src.vals]at hu;rcases hu with rfl | rfl | rfl | rfl | rfl | rfl | rfl | rfl | rfl | rfl | rfl | rfl | rfl<;>rfl
theorem zEP (L:List Src):(sflat L).length=L.length*13:=by
 induction L with
 | nil=>rfl
 | cons x t ih=>
  have:sflat (x::t)=x.vals.toList++sflat t:=by simp[sflat]
  rw[this,List.length_append,ih];simp[Src.vals];omega
theorem zDn : ∀ (L:List Src) (i:Nat) (s:Src),L[i]?=some s->∀ j,j<13->(sflat L)[i*13+j]?=s.vals[j]?
 | [],i,s,h,j,hj=>by simp at h
 | x::t,0,s,h,j,hj=>by
  simp at h;subst h;have:sflat (x::t)=x.vals.toList++sflat t:=by simp[sflat]
  rw[this,List.getElem?_append_left (by simp[Src.vals];omega)];simp
 | x::t,i+1,s,h,j,hj=>by
  have e:sflat (x::t)=x.vals.toList++sflat t:=by simp[sflat]
  have hl:x.vals.toList.length=13:=rfl;rw[e,List.getElem?_append_right (by rw[hl];omega),hl,show (i+1)*13+j-13=i*13+j from by omega];exact zDn t i s (by simpa using h) j hj
theorem Srcs.of_own {w:World}{base:Nat}{e:TypeId}{v:Value}{L:List Src}(h:w.ownsRow base e 13 v L.length (sflat L)):
  ∃ a cap,v=.slice a L.length cap/\Srcs w a cap L/\∀ ad,a=some ad->base<=ad.block:=by
 obtain⟨_,⟨rfl,h2⟩ | ⟨g,cap,cur,rfl,hg,hb,h1,h2,h3,h4⟩⟩:=h
 ·have:L=[]:=List.eq_nil_of_length_eq_zero h2;subst this;exact⟨none,0,rfl,Srcs.nil w,fun _ e=>by cases e⟩
 ·refine⟨some ⟨g,0,none⟩,cap,rfl,⟨h1,h2,(fun e=>by cases e),?_⟩,fun ad e=>by cases e;exact hg⟩;intro ad e hne;cases e;refine⟨rfl,zE hb,fun i s hi j hj=>?_⟩;have hlt:i<L.length:=(List.getElem?_eq_some_iff.1 hi).1;have h5:=zDn L i s hi j hj;rw[zB hb];simp only[Nat.zero_add];rw[<-Array.getElem?_toList,<-h5,<-h4,List.getElem?_take_of_lt (by omega)]
theorem infoSr : (Tryz.prog.info? 163).map (fun i=>(i.zero,i.size,i.bytes))=some (some (.agg #[.int .i64 0,.int .i64 0,.int .i64 0,.string ByteArray.empty,.string ByteArray.empty,.string ByteArray.empty,.string ByteArray.empty,.string ByteArray.empty,.int .i64 0,.int .i64 0,.slice none 0 0,.string ByteArray.empty,.int .i64 0]),13,168):=by kernel_rfl
def cntL (ds:List Dev)(L:List Rec):Nat->List Dev->List Src
 | _,[]=>[]
 | i,d::t=>(if cntB ds L d.index=true then [⟨i,d,plc ds d.index,0⟩]else [])++cntL ds L (i+1) t
theorem zBH (ds:List Dev)(L:List Rec):∀ (l:List Dev) (i:Nat) (d:Dev),cntL ds L i (l++[d])=cntL ds L i l++(if cntB ds L d.index=true then [⟨((i+l.length:Nat):Int),d,plc ds d.index,0⟩]else [])
 | [],i,d=>by simp[cntL]
 | x::t,i,d=>by
  rw[List.cons_append,cntL,cntL,zBH ds L t (i+1) d,List.append_assoc]
  congr 4
  simp;omega
theorem zCT (ds:List Dev)(L:List Rec):∀ (l:List Dev) (i:Nat),(cntL ds L i l).length<=l.length
 | [],i=>by simp[cntL]
 | x::t,i=>by
  have:=zCT ds L t (i+1);rw[cntL,List.length_append,List.length_cons];split<;>simp<;>omega
theorem zD7 (ds:List Dev)(L:List Rec):∀ (l:List Dev) (i:Nat) (s:Src),s∈cntL ds L i l->s.d∈l/\s.o=plc ds s.d.index/\s.r=0/\0<=s.at_/\s.at_<((i+l.length:Nat):Int)
 | [],i,s,h=>by simp[cntL]at h
 | x::t,i,s,h=>by
  rw[cntL]at h;rcases List.mem_append.1 h with h | h
  ·split at h
   ·simp at h;subst h;exact⟨by simp,rfl,rfl,by first | (simp;done) | (simp;omega),by first | (simp;done) | (simp;omega)⟩
   ·simp at h
  ·obtain⟨h1,h2,h3,h4,h5⟩:=zD7 ds L t (i+1) s h;exact⟨by simp[h1],h2,h3,h4,by simp at h5 ⊢;omega⟩
def rcs (ka:Option Addr)(kn kc:Nat)(wt:Int)(a:Option Addr)(n cap:Nat)(ca:Option Addr)(cn cc:Nat)(ea:Option Addr)(en ec:Nat)(sa:Option Addr)(sn sc:Nat)(wm sm:Nat)(ma:Option Addr)(mn mc:Nat):Array Value:=
 #[.slice ka kn kc,.int .i64 wt,.slice a n cap,.slice ca cn cc,.slice ea en ec,.slice sa sn sc,.map (some wm),.map (some sm),.slice ma mn mc]
def wantG (M:List Vir):ByteArray×ByteArray->Option Value:=fun p=>(M.find? fun v=>decide ((v.q,v.o)=p)).map fun v=>.agg v.vals
def seenG (G:List (ByteArray×ByteArray)):ByteArray×ByteArray->Option Value:=fun p=>if G.any (fun x=>decide (x=p))=true then some (.bool true)else none
def zJs {α:Type}(N:Nat)(I:List α->(Nat->Prop)->World->Prop)(pre:List α)(V:Nat->Prop)(W:World):Exit->Act->World->Prop
 | .normal,_,W'=>∃ V',(∀ b,V' b->V b\/N<=b)/\I pre V' W'/\Fr V W W'
 | _,_,_=>False
theorem Fr.putObj {S:Nat->Prop}(W:World)(r:Nat)(o:Obj)(hS:S r):Fr S W (W.putObj r o):=
 ⟨rfl,rfl,rfl,by simp,fun k _ hk=>World.putObj_heap_other (fun e=>hk (e▸hS))⟩
def Gives {α:Type}(F:Fence)(n:Nat)(P:Program)(gf:Nat)(lb:Array Value)(encs:α->Array Value)(T V0:Nat->Prop)(xs:List α)(w:World):Prop:=
 ∀ (l:Nat) (J:List α->(Nat->Prop)->World->Prop) (W:World),Fr No w W->w.heap.size<=l->l<W.heap.size->
  (∀ s V A,J s V A->∀ b,V b->b<A.heap.size)->
  (∀ s V A B,J s V A->Fr T A B->(∀ b,V b->¬ T b)->J s V B)->
  (∀ pre V x A,J pre V A->pre++[x] <+: xs->YieldAt F (n-1) P l (encs x) A fun e B=>e=.returned (.bool true)/\∃ V',(∀ b,V' b->V b\/w.heap.size+2<=b)/\J (pre++[x]) V' B/\Fr (fun b=>V b\/b=l) A B)->
  J [] V0 W->CallsIn F n P gf (#[.func (.yield l) #[] #[]]++lb) W fun e W'=>(∃ v,e=.returned v)/\∃ V,J xs V W'
theorem zAw {α:Type}{F:Fence}{n:Nat}{P:Program}{g:Operand}{ps:Array Tmp}{assign body:Code}{Q:Exit->Act->World->Prop}{a:Act}{w:World}
  (hro:F.round=none) (h1:1<=n) {gf:Nat} {lb:Array Value} (hg:a.eval g=.func (.func gf) #[] lb) (hFg:F.fn gf) (eg:∀ args w,(callFunc gf args).run P w=.ok (.enter gf args) w)
  {encs:α->Array Value} (hps:∀ x,(encs x).size=ps.size) {T V0:Nat->Prop} (hT:∀ b,T b->b<w.heap.size) (hV0:∀ b,V0 b->b<w.heap.size) {xs:List α}
  (hseq:Gives F (n-1) P gf lb encs T V0 xs w)
  (I:List α->(Nat->Prop)->World->Prop) (hIlt:∀ s V A,I s V A->∀ b,V b->b<A.heap.size)
  (hI:∀ s V A B S,I s V A->Fr S A B->(∀ b,S b->¬ V b/\(T b\/w.heap.size<=b))->I s V B) (h0:I [] V0 w)
  (Ax:α->(Nat->Prop)->Act->World->Prop) (hAx:∀ x V a' A B,Ax x V a' A->Fr (Is (w.heap.size+1)) A B->Ax x V a' B)
  (hassign:∀ (l:Nat) (pre:List α) (V:Nat->Prop) (x:α) (W:World) (K:Act->World->Prop),I pre V W->w.heap.size+2<=W.heap.size->(∀ a' W',Fr No W W'->Ax x V a' W'->K a' W')->
   assign.wpIn (F.inRound l) (n-1-1) P (Exit.then K (fun _ _ _=>False)) { tmps:=(ps.zip (encs x)).foldl (fun t (p,v)=>t.setIfInBounds p v) a.tmps,defers:=[] } W)
  (hbody:∀ (l:Nat) (pre:List α) (V:Nat->Prop) (x:α) (a':Act) (W:World),I pre V W->Ax x V a' W->pre++[x] <+: xs->w.heap.size+2<=W.heap.size->body.wpIn (F.inRound l) (n-1-1) P (zJs (w.heap.size+2) I (pre++[x]) V W) a' W)
  (hdone:∀ (V:Nat->Prop) (W:World),I xs V W->W.heap[w.heap.size]?=some (.deferred (some []))->¬ V w.heap.size->Q .normal { a with defers:={ target:=.collected w.heap.size,args:=#[] }::a.defers } W):
  (Code.rangeFunc g ps assign body).wpIn F n P Q a w:=by
 refine wpIn_rangeFunc ?_;intro fn hfn;rw[hro];obtain⟨rec,hrec⟩:∃ rec:LoopState->Option Code->Loop,rec=fun st pe=>{ state:=st,pending:=pe,fn,tmps:=a.tmps,params:=ps,assign,body,defers:=w.heap.size }:=⟨_,rfl⟩
 obtain⟨W1,hW1⟩:∃ W1,(w.alloc (.deferred (some []))).alloc (.loop (rec .ready none))=W1:=⟨_,rfl⟩
 have hsz:W1.heap.size=w.heap.size+2:=by rw[<-hW1];simp
 have hL1:W1.heap[w.heap.size+1]?=some (.loop (rec .ready none)):=by
  rw[<-hW1];have:=World.alloc_heap_new (w.alloc (.deferred (some []))) (.loop (rec .ready none));rwa [World.size_alloc]at this
 have hK1:W1.heap[w.heap.size]?=some (.deferred (some [])):=by
  rw[<-hW1];exact(Below.heap_alloc _ _ _ (by simp)).trans (World.alloc_heap_new w _)
 have hfr1:Fr No w W1:=by rw[<-hW1];exact((Fr.refl _ _).alloc _).alloc _
 have hI1:I [] V0 W1:=hI _ _ _ _ _ h0 hfr1 (fun _ h=>h.elim);refine⟨w.heap.size+1,[{ target:=.collected w.heap.size,args:=#[] }],W1,{ target:=.fn (.func gf) lb,args:=#[.func (.yield (w.heap.size+1)) #[] #[]] },W1,gf,
  #[.func (.yield (w.heap.size+1)) #[] #[]]++lb,W1,?_,?_,?_,?_,fun _=>h1,?_⟩
 ·rw[<-hW1,hrec];exact run_enterLoop_outer _ _ _ _ _
 ·simp only[resolve,hg];simp[go_sem]
 ·intro f' hf';simp[Target.leads]at hf';subst hf';exact hFg
 ·simp[invoke,go_sem,eg]
 ·refine(hseq (w.heap.size+1) (fun pre V W=>I pre V W/\¬ V w.heap.size/\¬ V (w.heap.size+1)/\W.heap[w.heap.size+1]?=some (.loop (rec .ready none))/\W.heap[w.heap.size]?=some (.deferred (some [])))
   W1 hfr1 (by omega) (by omega) (fun s V A h=>hIlt s V A h.1) ?_ ?_ ⟨hI1,fun h=>by have:=hV0 _ h;omega,fun h=>by have:=hV0 _ h;omega,hL1,hK1⟩).mono ?_
  ·rintro s V A B ⟨hi,hv1,hv2,hl,hk⟩ hf hVT;refine⟨hI _ _ _ _ _ hi hf (fun b hb=>⟨fun h=>hVT b h hb,.inl hb⟩),hv1,hv2,hf.heap hl (fun h=>?_),hf.heap hk (fun h=>?_)⟩
   ·have:=hT _ h;omega
   ·have:=hT _ h;omega
  ·rintro pre V x W ⟨hi,hv1,hv2,hl,hk⟩ hpre;have hlt:w.heap.size+1<W.heap.size:=(Array.getElem?_eq_some_iff.1 hl).1;have hy:=run_yield (P:=P) (args:=encs x) hl (by rw[hrec];exact hps x);rw[hrec]at hy;refine⟨fn,_,assign,body,hy,roundIn_of_wpIn hfn (hassign _ pre V x W _ hi (by omega) ?_)⟩;clear hy;intro a' Wa hfa hax;have hla:=hfa.heap hl id;have hka:=hfa.heap hk id;have hia:=hI _ _ _ _ _ hi hfa (fun _ h=>h.elim);have hlta:w.heap.size+1<Wa.heap.size:=(Array.getElem?_eq_some_iff.1 hla).1;have hsa:=hfa.size;refine⟨_,run_beginRound hla (by rw[hrec]),?_⟩;have hl2:(Wa.putObj (w.heap.size+1) (.loop { rec .ready none with state:=.busy })).heap[w.heap.size+1]?=some (.loop { rec .ready none with state:=.busy }):=World.putObj_heap_same hlta;have hk2:(Wa.putObj (w.heap.size+1) (.loop { rec .ready none with state:=.busy })).heap[w.heap.size]?=some (.deferred (some [])):=(World.putObj_heap_other (by omega)).trans hka;have hp2:Fr (Is (w.heap.size+1)) Wa (Wa.putObj (w.heap.size+1) (.loop { rec .ready none with state:=.busy })):=Fr.putObj _ _ _ rfl;have hi2:=hI _ _ _ _ _ hia hp2 (fun b hb=>by unfold Is at hb;subst hb;exact⟨hv2,.inr (by omega)⟩);refine wpIn_mono (hbody _ pre V x a' _ hi2 (hAx _ _ _ _ _ hax hp2) hpre (by simp;omega)) ?_;rintro e a3 W3 hp;cases e with
   | normal=>
    obtain⟨V',hV',hi3,hf3⟩:=hp;have hl3:=hf3.heap hl2 hv2;have hk3:=hf3.heap hk2 hv1;have hv1':¬ V' w.heap.size:=fun h=>by rcases hV' _ h with h | h;exact hv1 h;omega
    have hv2':¬ V' (w.heap.size+1):=fun h=>by rcases hV' _ h with h | h;exact hv2 h;omega
    have hend:=run_endRound (P:=P) none hl3;rw[hrec]at hend;refine⟨_,_,hend,rfl,V',hV',⟨hI _ _ _ _ _ hi3 (Fr.putObj (S:=Is (w.heap.size+1)) _ _ _ rfl) (fun b hb=>by unfold Is at hb;subst hb;exact⟨hv2',.inr (by omega)⟩),hv1',hv2',?_,?_⟩,?_⟩
    ·rw[hrec];exact World.putObj_heap_same (Array.getElem?_eq_some_iff.1 hl3).1
    ·exact(World.putObj_heap_other (by omega)).trans hk3
    ·refine(((hfa.mono (fun _ _ h=>h.elim)).step hp2 ?_).step hf3 ?_).step (Fr.putObj (S:=Is (w.heap.size+1)) _ _ _ rfl) ?_
     ·rintro b _ h;exact .inr h
     ·rintro b _ h;exact .inl h
     ·rintro b _ h;exact .inr h
   | ret=>exact hp.elim
   | exit id=>exact hp.elim
   | goto t=>exact hp.elim
   | panic ch=>exact hp.elim
   | outgrown=>exact hp.elim
  ·rintro e W2 ⟨⟨v,rfl⟩,V,hi,hv1,hv2,hl,hk⟩;refine⟨none,_,by have:=run_endLoop (P:=P) hl (by rw[hrec];simp);rw[hrec]at this;exact this,hdone V _ (hI _ _ _ _ _ hi (Fr.putObj (S:=Is (w.heap.size+1)) _ _ _ rfl) (fun b hb=>by unfold Is at hb;subst hb;exact⟨hv2,.inr (by omega)⟩)) ((World.putObj_heap_other (by omega)).trans hk) hv1⟩
attribute [local go_sem] Oper.semAt_some
theorem FindIs.no {ds:List Dev}{n:Int}{e:Ending}(h:FindIs ds n e)(hl:look ds n=none):e=.returned (.tuple #[.agg Dev.zero.vals,.bool false]):=by
 rcases h with⟨_,h⟩ | ⟨d,h,_⟩
 ·exact h
 ·rw[hl]at h;cases h
theorem FindIs.yes {ds:List Dev}{n:Int}{e:Ending}{d:Dev}(h:FindIs ds n e)(hl:look ds n=some d):e=.returned (.tuple #[.agg d.vals,.bool true]):=by
 rcases h with⟨h,_⟩ | ⟨d',h,h'⟩
 ·rw[hl]at h;cases h
 ·rw[hl]at h;cases h;exact h'
structure UpAt (W:World)(a:Option Addr)(cap:Nat)(ds:List Dev)(m1 m2 Bv Bn:Nat):Prop where
 devs:Devs W a cap ds
 maps:VAt W m1 m2 ds
 view:W.heap[Bv]?=some (.cells #[.slice a ds.length cap,.map (some m1),.map (some m2)] 97)
theorem UpAt.fr {S:Nat->Prop}{W W':World}{a:Option Addr}{cap:Nat}{ds:List Dev}{m1 m2 Bv Bn:Nat}(h:UpAt W a cap ds m1 m2 Bv Bn)(hf:Fr S W W')(h1:∀ ad,a=some ad->ds≠[]->¬ S ad.block)(h2:¬ S m1)(h3:¬ S m2)(h4:¬ S Bv):UpAt W' a cap ds m1 m2 Bv Bn:=
 ⟨h.devs.fr hf h1,h.maps.fr hf h2 h3,hf.heap h.view h4⟩
theorem zIH (n:Nat)(hn:3<=n)(a:Option Addr)(cap:Nat)(ds:List Dev)(m1 m2 Bv Bn:Nat)(i0:Int)(w:World)(V0:Nat->Prop)(hU:UpAt w a cap ds m1 m2 Bv Bn)(hT:TreeOk ds)
  (hb:w.heap[Bn]?=some (.cells #[.int .i64 i0] 3)) (hi0:(Lit.int .i64 i0).wf=true)
  (hne:Bn≠Bv/\Bn≠m1/\Bn≠m2/\∀ ad,a=some ad->ds≠[]->ad.block≠Bn) (hlt:m1<w.heap.size/\m2<w.heap.size)
  (hV:¬ V0 Bn/\¬ V0 Bv/\¬ V0 m1/\¬ V0 m2/\∀ ad,a=some ad->ds≠[]->¬ V0 ad.block):
  Gives Fence.wide n Tryz.prog 256 #[.pointer (some ⟨Bv,0,none⟩),.pointer (some ⟨Bn,0,none⟩)] (fun d:Dev=>#[.agg d.vals]) (Is Bn) V0 (chain ds i0) w:=by
 intro l J W hfr hl1 hl2 hJlt hJ hY h0;have hbn:Bn<w.heap.size:=zE hb;have hbv:Bv<w.heap.size:=zE hU.view;have hbd:∀ ad,a=some ad->ds≠[]->ad.block<w.heap.size:=fun ad e hne=>(hU.devs.cell ad e hne).2.1
 have hUW:=hU.fr hfr (fun _ _ _=>id) id id id;have hbW:=hfr.heap hb id;have hsz:=hfr.size;have hm:=hU.devs.lenmax;have h1n:1<=n:=by omega
 have hfF:Fence.wide.fn 257:=trivial;show CallsIn Fence.wide n Tryz.prog 256 #[.func (.yield l) #[] #[],.pointer (some ⟨Bv,0,none⟩),.pointer (some ⟨Bn,0,none⟩)] W _
 have cv:W.cell? ⟨Bv,0,none⟩=some (.slice a ds.length cap):=zB hUW.view 0;refine callsIn_of_wp Tryz.func256 rfl trivial ?_ rfl;simp only[Tryz.ntmps256,List.size_toArray,List.length_cons,List.length_nil,Nat.reduceAdd,Nat.reduceSub,Array.replicate_succ,Array.replicate_zero,List.push_toArray,List.append_toArray,List.nil_append,List.cons_append]
 gi_wp2
 clear cv
 gi_loopw [9] (fun i wr=>∃ (pre:List Dev) (m:Int) (V:Nat->Prop),pre.length<=ds.length/\i=.int .i64 (pre.length:Int)/\(Lit.int .i64 m).wf=true/\Hid (chain ds i0=pre++chainK ds (ds.length-pre.length) m)/\wr.heap[Bn]?=some (.cells #[.int .i64 m] 3)/\UpAt wr a cap ds m1 m2 Bv Bn/\J pre V wr/\(∀ b,V b->V0 b\/w.heap.size<=b)/\W.heap.size<=wr.heap.size) (fun i _=>ds.length-(intOf i).toNat)
 case atStart=>exact⟨[],i0,V0,by simp,rfl,hi0,by unfold Hid chain;simp,hbW,hUW,h0,fun b hb=>.inl hb,Nat.le_refl _⟩
 case round=>
  obtain⟨pre,m,V,hk,rfl,hwm,HC,hbr,hUr,hJr,hVr,hsr⟩:=hrel;have nV:∀ b,b<w.heap.size->¬ V0 b->¬ V b:=fun b h1 h2 h=>(hVr b h).elim h2 (fun h'=>by omega)
  have c0:wr.cell? ⟨Bv,0,none⟩=some (.slice a ds.length cap):=zB hUr.view 0;have c1:wr.cell? ⟨Bv,1,none⟩=some (.map (some m1)):=zB hUr.view 1;have c2:wr.cell? ⟨Bv,2,none⟩=some (.map (some m2)):=zB hUr.view 2;have d0:wr.cell? ⟨Bn,0,none⟩=some (.int .i64 m):=zB hbr 0;by_cases hlt':pre.length<ds.length
  ·cases hlk:look ds m with
   | none=>
    have Hlk:=Lib.hid hlk;clear hlk
    gi_wp2_with (gi_at_call 257;refine(callsIn_wide.2 (zEG a cap ds m1 m2 m _ hUr.devs hUr.maps hwm)).mono ?_;rintro e w1 ⟨hF,hf1⟩;obtain rfl:=hF.no Hlk.out;unfold Dev.vals Dev.zero)
    have hJ1:=hJ _ _ _ _ hJr ((hf1.mono (fun _ _ h=>h.elim)).alloc (.cells Dev.zero.vals 34)) (fun b h1 h2=>by unfold Is at h2;subst h2;exact nV _ hbn hV.1 h1);have HJ:=Lib.hid hJ1;clear hJ1;refine⟨fun _ h=>(by cases h),?_⟩
    gi_wp2
    refine bodyPost_ret (results_none rfl _ _ _) rfl ?_;have e:chain ds i0=pre:=by rw[HC.out,zAd Hlk.out,List.append_nil]
    rw[e];exact⟨⟨_,rfl⟩,V,HJ.out⟩
   | some d=>
    have Hlk:=Lib.hid hlk;clear hlk;have hch:chain ds i0=pre++d::chainK ds (ds.length-pre.length-1) d.parent:=by
     rw[HC.out,show ds.length-pre.length=(ds.length-pre.length-1)+1 from by omega,zC9 Hlk.out];rfl
    have Hch:=Lib.hid hch;clear hch
    gi_wp2_with (gi_at_call 257;refine(callsIn_wide.2 (zEG a cap ds m1 m2 m _ hUr.devs hUr.maps hwm)).mono ?_;rintro e w1 ⟨hF,hf1⟩;obtain rfl:=hF.yes Hlk.out;unfold Dev.vals;obtain⟨fn,tmps,assign,body,hy,hR⟩:=hY pre V d _ (hJ _ _ _ _ hJr ((hf1.mono (fun _ _ h=>h.elim)).alloc (.cells d.vals 34)) (fun b h1 h2=>by unfold Is at h2;subst h2;exact nV _ hbn hV.1 h1)) ⟨chainK ds (ds.length-pre.length-1) d.parent,by rw[Hch.out];simp⟩;have hp1:=zD w1 (.cells d.vals 34);have hfx:=(hf1.alloc (.cells d.vals 34));unfold Dev.vals at hy hR hp1 hfx)
    refine hR.mono ?_;rintro e W3 ⟨rfl,V',hV',hJ3,hf3⟩;have hs1:=hf1.size;have hVlt:=hJlt _ _ _ hJr;have n3:∀ b,b<w.heap.size->¬ V0 b->¬ (V b\/b=l):=fun b h1 h2 h=>h.elim (nV b h1 h2) (fun e=>by omega)
    have hU1:=((hUr.fr hf1 (fun _ _ _=>id) id id id).fr ((Fr.refl No w1).alloc (.cells #[.int .i64 d.index,.int .i64 d.parent,.string d.name,.string d.orig,.string d.sub,.string d.drv,.string d.ali,.int .i64 d.kind,.int .i64 d.num,.slice d.aa d.an d.ac] 34)) (fun _ _ _=>id) id id id)
    have hU3:=hU1.fr hf3 (fun ad e hne'=>n3 _ (hbd ad e hne') (hV.2.2.2.2 ad e hne')) (n3 _ hlt.1 hV.2.2.1) (n3 _ hlt.2 hV.2.2.2.1) (n3 _ hbv hV.2.1);have p3:=hf3.heap hp1 (fun h=>h.elim (fun h=>by have:=hVlt _ h;omega) (fun h=>by omega));have e1:W3.cell? ⟨w1.heap.size,1,none⟩=some (.int .i64 d.parent):=zB p3 1;have b3:=hf3.heap (hfx.heap hbr id) (n3 _ hbn hV.1);have g0:W3.cell? ⟨Bn,0,none⟩=some (.int .i64 m):=zB b3 0;have g1:W3.frozen? ⟨Bn,0,none⟩=false:=zC b3 0;have hset:Fr (Is Bn) W3 (W3.setCell ⟨Bn,0,none⟩ (.int .i64 d.parent)):=Fr.setAt (Fr.refl _ _) _;have hnI:∀ b,b≠Bn->¬ Is Bn b:=fun b h e=>h e
    have hU4:=hU3.fr hset (fun ad e hne'=>hnI _ (hne.2.2.2 ad e hne')) (hnI _ hne.2.1.symm) (hnI _ hne.2.2.1.symm) (hnI _ hne.1.symm);have hJ4:=hJ _ _ _ _ hJ3 hset (fun b h1 h2=>by unfold Is at h2;subst h2;exact(hV' _ h1).elim (nV _ hbn hV.1) (fun h=>by omega));have b4:=zF b3 0 (.int .i64 d.parent);have hs3:=hf3.size;have HF:=Lib.hid (And.intro hU4 (And.intro hJ4 b4));have HV:Hid (∀ b,V' b->V0 b\/w.heap.size<=b):=fun b h=>(hV' b h).elim (hVr b) (fun h=>.inr (by omega))
    have hpw:=hT.pwf (zAE Hlk.out).1;clear hU1 hU3 p3 b3 hset hU4 hJ4 b4 hp1 hfx hV' hUr hbr c0 c1 c2 d0
    gi_wp2
    go_roundw
    case rel=>
     refine⟨pre++[d],d.parent,V',by simp;omega,by simp,hpw,?_,HF.out.2.2,HF.out.1,HF.out.2.1,HV.out,by simp at hs3 ⊢;omega⟩;unfold Hid;rw[Hch.out,show ds.length-(pre++[d]).length=ds.length-pre.length-1 from by simp;omega];simp
    case measure=>simp[intOf];omega
  ·gi_wp2
   go_end0
   have e:chain ds i0=pre:=by rw[HC.out,show ds.length-pre.length=0 from by omega];simp[chainK]
   rw[e];exact⟨⟨_,rfl⟩,V,hJr⟩
end Go.Proofs.YtmajgldaplkpiaaGreatDoor
