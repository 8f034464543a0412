import Derived.Test.YtinfjnndbfahhaaGreatDoorQ2
import Derived.Maps.AppendAt
import Derived.Test.YtinfjnndbfahhaaGreatDoorStrs
import Derived.Lib.IndexAny
namespace Go.Proofs.YtinfjnndbfahhaaGreatDoor
open Go.RowKit Go.Maps
set_option linter.unusedVariables false
set_option maxRecDepth 100000
set_option maxHeartbeats 2000000
theorem infoD : (Tryz.prog.info? 36).map (fun i=>(i.zero,i.size,i.bytes))=some (some (.agg #[.int .i64 0,.int .i64 0,.string ByteArray.empty,.string ByteArray.empty,.string ByteArray.empty,.string ByteArray.empty,.string ByteArray.empty,.int .i64 0,.int .i64 0,.slice none 0 0]),10,136):=by kernel_rfl
theorem infoS : (Tryz.prog.info? 9).map (fun i=>(i.zero,i.size,i.bytes))=some (some (.string ByteArray.empty),1,16):=by kernel_rfl
theorem zP {w:World}{f:Nat}{e:TypeId}{o:Nat}{v:Value}{n:Nat}{u:List Value}(h:w.ownsRow f e o v n u){b:Nat}(q:v.ownBlock=some b):From f b:=by
 obtain⟨_,⟨rfl,_⟩ | ⟨g,y,z,rfl,A,_⟩⟩:=h
 ·cases q
 ·cases q;exact A
theorem zJ {w:World}{f:Nat}{e:TypeId}{o:Nat}{v:Value}{n:Nat}{q:List Value}(h:w.ownsRow f e o v n q):∃ a c,v=.slice a n c:=by
 obtain⟨_,⟨rfl,rfl⟩ | ⟨g,u,y,rfl,z,_⟩⟩:=h
 ·exact⟨_,_,rfl⟩
 ·exact⟨_,_,rfl⟩
theorem zAT {w:World}{f base':Nat}{e:TypeId}{o:Nat}{v:Value}{n:Nat}{y:List Value}(h:w.ownsRow f e o v n y)(A:base'<=f):w.ownsRow base' e o v n y:=by
 obtain⟨z,h | ⟨g,q,u,h,C,r⟩⟩:=h
 ·exact⟨z,.inl h⟩
 ·exact⟨z,.inr ⟨g,q,u,h,Nat.le_trans A C,r⟩⟩
theorem zV {w:World}{f:Nat}{e:TypeId}{o:Nat}{v:Value}{n:Nat}{y:List Value}(h:w.ownsRow f e o v n y){b:Nat}(u:v.ownBlock=some b):b<w.heap.size:=by
 obtain⟨_,⟨rfl,_⟩ | ⟨g,z,A,rfl,C,q,_⟩⟩:=h
 ·cases u
 ·cases u;exact zC q
theorem zBc {w q:World}{f:Nat}{e:TypeId}{g:Nat}{v:Value}{n:Nat}{u:List Value}(h:w.ownsRow f e g v n u){o:Obj}(y:(w.alloc o).grownBy q v.ownBlock):Fr (From f) w q:=
 ((Fr.refl _ _).alloc o).step (Fr.of_grown y) (fun b _ e=>zP h e)
theorem zAK {w z:World}{f:Nat}{e:TypeId}{o:Nat}{v:Value}{n:Nat}{A:List Value}(h:w.ownsRow f e o v n A){S:Nat->Prop}(F:Fr S w z)(I:∀ b,f<=b->¬ S b):z.ownsRow f e o v n A:=by
 obtain⟨C,⟨rfl,q⟩ | ⟨g,u,y,rfl,D,J,L,q,N,O⟩⟩:=h
 ·exact⟨C,.inl ⟨rfl,q⟩⟩
 ·exact⟨C,.inr ⟨g,u,y,rfl,D,F.heap J (I g D),L,q,N,O⟩⟩
theorem ze (w:World)(f:Array Value)(t:TypeId){b:Nat}(g:w.heap.size=b):∀ j u,f.toList[j]?=some u->(w.alloc (.cells f t)).cell? ((⟨b,0,none⟩:Addr).add j)=some u:=by
 intro j u h;subst g;rw[Addr.add_lit,zB (zD w (.cells f t))]
 simpa using h
def flat (l:List Dev):List Value:=l.flatMap (fun d=>d.vals.toList)
theorem zB1 (l:List Dev)(d:Dev):flat (l++[d])=flat l++d.vals.toList:=by simp[flat]
theorem zJt (l:List Dev):(flat l).length=l.length*10:=by
 induction l with
 | nil=>rfl
 | cons d t f=>
  have:flat (d::t)=d.vals.toList++flat t:=by simp[flat]
  rw[this,List.length_append,f];simp[Dev.vals];omega
theorem zKd (d:Dev)(j:Nat)(f:j<10):d.vals.toList[j]?=some (d.cell j):=by
 unfold Dev.vals
 match j,f with
 | 0,_=>rfl
 | 1,_=>rfl
 | 2,_=>rfl
 | 3,_=>rfl
 | 4,_=>rfl
 | 5,_=>rfl
 | 6,_=>rfl
 | 7,_=>rfl
 | 8,_=>rfl
 | 9,_=>rfl
theorem zFl : ∀ (l:List Dev) (i:Nat) (d:Dev),l[i]?=some d->∀ j,j<10->(flat l)[i*10+j]?=some (d.cell j)
 | [],i,d,h,j,f=>by simp at h
 | x::t,0,d,h,j,f=>by
  simp at h;subst h;have:flat (x::t)=x.vals.toList++flat t:=by simp[flat]
  rw[this,List.getElem?_append_left (by simp[Dev.vals];omega)]
  simpa using zKd x j f
 | x::t,i+1,d,h,j,f=>by
  have:flat (x::t)=x.vals.toList++flat t:=by simp[flat]
  rw[this,List.getElem?_append_right (by simp[Dev.vals];omega)];have g:=zFl t i d (by simpa using h) j f;rw[show (i+1)*10+j-x.vals.toList.length=i*10+j from by simp[Dev.vals];omega];exact g
theorem zAR (d:Dev):∀ u∈d.vals.toList,u.oneCell'=true:=by
 intro u f;simp[Dev.vals]at f;rcases f with rfl | rfl | rfl | rfl | rfl | rfl | rfl | rfl | rfl | rfl<;>rfl
theorem zJs (l:List Dev):∀ u∈flat l,u.oneCell'=true:=by
 intro u f;obtain⟨d,g,f⟩:=List.mem_flatMap.1 f;exact zAR d u f
theorem Devs.of_own {w:World}{o:Nat}{e:TypeId}{v:Value}{l:List Dev}(h:w.ownsRow o e 10 v l.length (flat l)):
  ∃ a f,v=.slice a l.length f/\Devs w a f l/\∀ q,a=some q->o<=q.block:=by
 obtain⟨_,⟨rfl,u⟩ | ⟨g,f,y,rfl,D,z,F,u,O,I⟩⟩:=h
 ·have:l=[]:=List.eq_nil_of_length_eq_zero u;subst this;exact⟨none,0,rfl,Devs.nil w,fun _ e=>by cases e⟩
 ·refine⟨some ⟨g,0,none⟩,f,rfl,⟨F,u,(fun e=>by cases e),?_⟩,fun q e=>by cases e;exact D⟩;intro q e J;cases e;refine⟨rfl,zC z,fun i d A j L=>?_⟩;rw[zB z];simp only[Nat.zero_add];have N:i<l.length:=(List.getElem?_eq_some_iff.1 A).1;have C:(y.toList.take (l.length*10))[i*10+j]?=(flat l)[i*10+j]?:=by rw[I]
  rw[List.getElem?_take_of_lt (by omega),zFl l i d A j L]at C;rw[<-Array.getElem?_toList,C]
structure Strs (w:World)(a:Option Addr)(cap:Nat)(l:List ByteArray):Prop where
 len:l.length<=cap
 max:cap<=maxLen
 isNil:a=none->l=[]/\cap=0
 cell:∀ ad,a=some ad->l≠[]->ad.spot=none/\ad.block<w.heap.size/\∀ i x,l[i]?=some x->w.cell? ⟨ad.block,ad.off+i,none⟩=some (.string x)
theorem Strs.at {w:World}{a:Option Addr}{o:Nat}{l:List ByteArray}(h:Strs w a o l){k:Nat}(g:k<l.length):
  ∃ b f x,a=some ⟨b,f,none⟩/\l[k]?=some x/\w.cell? ⟨b,f+k,none⟩=some (.string x):=by
 cases a with
 | none=>obtain⟨rfl,_⟩:=h.isNil rfl;simp at g
 | some u=>
  obtain⟨b,f,y⟩:=u;obtain⟨q,z,v⟩:=h.cell _ rfl (by intro e;subst e;simp at g);simp at q;subst q;exact⟨b,f,l[k],rfl,by simp[g],v k _ (by simp[g])⟩
theorem Strs.lenmax {w:World}{a:Option Addr}{f:Nat}{l:List ByteArray}(h:Strs w a f l):l.length<=9223372036854775807:=by
 have o:=h.len;have g:=h.max;unfold maxLen at g;omega
theorem Strs.fr {S:Nat->Prop}{w w':World}{a:Option Addr}{f:Nat}{l:List ByteArray}(h:Strs w a f l)(q:Fr S w w')(u:∀ g,a=some g->l≠[]->¬ S g.block):Strs w' a f l:=
 ⟨h.len,h.max,h.isNil,fun g e o=>by
  obtain⟨v,y,z⟩:=h.cell g e o;exact⟨v,Nat.lt_of_lt_of_le y q.size,fun i x A=>q.cell (z i x A) (u g e o)⟩⟩
theorem Strs.no {S:Nat->Prop}{w w':World}{a:Option Addr}{f:Nat}{l:List ByteArray}(h:Strs w a f l)(g:Fr S w w')(o:∀ k,¬ S k):Strs w' a f l:=h.fr g (fun _ _ _=>o _)
theorem Strs.nil (w:World):Strs w none 0 []:=⟨by simp,by simp,fun _=>⟨rfl,rfl⟩,fun _ e _=>by cases e⟩
theorem Strs.of_own {w:World}{o:Nat}{e:TypeId}{v:Value}{l:List ByteArray}(h:w.ownsRow o e 1 v l.length (l.map Value.string)):
  ∃ a f,v=.slice a l.length f/\Strs w a f l/\∀ q,a=some q->o<=q.block:=by
 obtain⟨_,⟨rfl,u⟩ | ⟨g,f,y,rfl,D,z,F,u,N,I⟩⟩:=h
 ·have:l=[]:=List.eq_nil_of_length_eq_zero u;subst this;exact⟨none,0,rfl,Strs.nil w,fun _ e=>by cases e⟩
 ·refine⟨some ⟨g,0,none⟩,f,rfl,⟨F,u,(fun e=>by cases e),?_⟩,fun q e=>by cases e;exact D⟩;intro q e J;cases e;refine⟨rfl,zC z,fun i x A=>?_⟩;rw[zB z];simp only[Nat.zero_add];have L:i<l.length:=(List.getElem?_eq_some_iff.1 A).1;have C:(y.toList.take (l.length*1))[i]?=(l.map Value.string)[i]?:=by rw[I]
  rw[List.getElem?_take_of_lt (by omega)]at C;rw[<-Array.getElem?_toList,C];simp[A]
theorem zEA (a:Option Addr)(f:Nat)(ds:List Dev)(n:Int)(w:World)(h:Devs w a f ds)(g:look ds n=none):
  Calls Tryz.prog 171 #[.agg #[.slice a ds.length f],.int .i64 n] w fun e w'=>e=.returned (.tuple #[.agg Dev.zero.vals,.bool false])/\Fr No w w':=
 (zGD a f ds n w h).mono fun e w' ⟨o,q⟩=>⟨by rw[o,zHP g,decide_eq_false (by have:=zCy.2 g;omega)],q⟩
theorem zD9 (a:Option Addr)(f:Nat)(ds:List Dev)(n:Int)(d:Dev)(w:World)(o:Devs w a f ds)(g:look ds n=some d):
  Calls Tryz.prog 171 #[.agg #[.slice a ds.length f],.int .i64 n] w fun e w'=>e=.returned (.tuple #[.agg d.vals,.bool true])/\Fr No w w':=
 (zGD a f ds n w o).mono fun e w' ⟨q,u⟩=>⟨by
  rw[q,zHQ g,decide_eq_true (by
   have v:¬ place ds n<0:=fun h=>by rw[zCy.1 h]at g;cases g
   omega)],u⟩
theorem zDK {ds:List Dev}{n:Int}{d:Dev}(h:look ds n=some d)(k:Nat):chainK ds (k+1) n=d::chainK ds k d.parent:=by
 rw[chainK,h]
theorem zHw (a:Option Addr)(g:Nat)(ds:List Dev)(n:Int)(w:World)(J:Devs w a g ds)(hb:ds.length<=1000000):
  Calls Tryz.prog 120 #[.agg #[.slice a ds.length g],.int .i64 n] w fun e w'=>(∃ v,e=.returned v/\w'.ownsRow w.heap.size 36 10 v (chain ds n).length (flat (chain ds n)))/\Fr No w w':=by
 obtain⟨i0,hi,L,N,O⟩:=info_parts infoD;have R:Fr No w (w.alloc (.cells #[.slice a ds.length g] 48)):=(Fr.refl _ _).alloc _;have U:=J.no R (fun _=>id);have V:=zD w (.cells #[.slice a ds.length g] 48);have hm:=J.lenmax
 go_enter Tryz.func120,Tryz.ntmps120
 go_wp2;generalize D:w.alloc (.cells #[.slice a ds.length g] 48)=W0 at *;have a6:w.heap.size+1<=W0.heap.size:=by rw[<-D];simp
 clear D
 go_loopw [1,5] (fun i v wr=>∃ (f:List Dev) (m:Int) (X:Option Addr) (Y:Nat),f.length<=ds.length/\i=.int .i64 m/\v=.slice X f.length Y/\Hid (chain ds n=f++chainK ds (ds.length-f.length) m)/\wr.ownsRow (w.heap.size+1) 36 10 (.slice X f.length Y) f.length (flat f)/\Fr (From (w.heap.size+1)) W0 wr) (fun _ v _=>match v with | .slice _ k _=>ds.length-k | _=>0)
 case atStart=>exact⟨[],n,none,0,by simp,rfl,rfl,by unfold Hid chain;simp,World.ownsRow_nil _ _ _ _,Fr.refl _ _⟩
 case round=>
  obtain⟨f,m,X,Y,hk,rfl,rfl,Z,z,u⟩:=hrel;have a7:=u.size;have a2:=u.heap V (by unfold From;omega);have c0:wr.cell? ⟨w.heap.size,0,none⟩=some (.slice a ds.length g):=zB a2 0;have F:=U.fr u (fun ad e a3 hS=>by have:=(J.cell ad e a3).2.1;unfold From at hS;omega);by_cases a8:f.length<ds.length
  ·cases hlk:look ds m with
   | none=>
    have A:=zh hlk;clear hlk
    go_wp2_with fail
    refine(zEA a g ds m _ F A.out).mono ?_;rintro e I ⟨rfl,y⟩;unfold Dev.vals Dev.zero
    go_wp2_with fail
    go_ret;have e:chain ds n=f:=by rw[Z.out,zAg A.out,List.append_nil]
    rw[e];exact⟨⟨_,rfl,zAT ((zAK z y (fun _ _=>id)).alloc _) (by omega)⟩,((R.step u (fun b hb h=>by unfold From at h;omega)).step y zi).alloc _⟩
   | some d=>
    have A:=zh hlk;clear hlk
    go_wp2_with fail
    refine(zD9 a g ds m d _ F A.out).mono ?_;rintro e I ⟨rfl,y⟩;unfold Dev.vals;have o:=zAK z y (fun _ _=>id)
    go_wp2_with (at_builtin;refine wpList_append_own _ rfl _ _ 46 rfl (w.heap.size+1) 36 i0 (.agg #[.int .i64 0,.int .i64 0,.string ByteArray.empty,.string ByteArray.empty,.string ByteArray.empty,.string ByteArray.empty,.string ByteArray.empty,.int .i64 0,.int .i64 0,.slice none 0 0]) 10 136 Tryz.underlying46 hi L N O rfl (by decide) _ _ _ rfl ((o.alloc _).alloc _) ⟨I.heap.size+1,0,none⟩ 1 1 d.vals.toList rfl rfl (ze _ d.vals _ (World.size_alloc _ _)) (zAR d) (by unfold maxLen;omega) (by omega) (by have:=y.size;simp;omega) ?_;intro v' w2 C q _;have c1:w2.cell? ⟨I.heap.size,1,none⟩=some (.int .i64 d.parent):=(Fr.of_grown q).cell (zB (zI I _ _) 1) (fun e=>Nat.lt_irrefl _ (zV o e));obtain⟨a4,a5,rfl⟩:=zJ C)
    go_roundw
    case rel=>
     refine⟨f++[d],d.parent,a4,a5,by simp;omega,rfl,by simp,?_,by rw[List.length_append,zB1];exact C,(u.step y zn).step (((Fr.refl (From (w.heap.size+1)) I).alloc _).step (zBc (o.alloc _) q) zi) zi⟩;unfold Hid;rw[Z.out,show ds.length-f.length=(ds.length-(f++[d]).length)+1 from by simp;omega,zDK A.out];simp
    case measure=>simp;omega
  ·have e:chain ds n=f:=by rw[Z.out,show ds.length-f.length=0 from by omega];simp[chainK]
   have He:=zh e;clear e
   go_wp2_with fail
   go_ret;rw[He.out];exact⟨⟨_,rfl,zAT z (by omega)⟩,R.step u (fun b hb h=>by unfold From at h;omega)⟩
theorem zCa (l:List ByteArray):∀ u∈l.map Value.string,u.oneCell'=true:=by
 intro u f;obtain⟨x,_,rfl⟩:=List.mem_map.1 f;rfl
theorem zHA (a:Option Addr)(o:Nat)(ds:List Dev)(n:Int)(w:World)(hl:Devs w a o ds)(Z:ds.length<=1000000):
  Calls Tryz.prog 63 #[.agg #[.slice a ds.length o],.int .i64 n] w fun e w'=>(∃ v,e=.returned v/\w'.ownsRow w.heap.size 9 1 v (origin ds n).length ((origin ds n).map Value.string))/\Fr No w w':=by
 obtain⟨i0,hi,I,J,L⟩:=info_parts infoS;have N:Fr No w (w.alloc (.cells #[.slice a ds.length o] 48)):=(Fr.refl _ _).alloc _;have y:=hl.no N (fun _=>id);have a2:(origin ds n).length<=1000000:=by unfold origin;simp;have:=zB3 ds n;omega
 go_enter Tryz.func63,Tryz.ntmps63
 go_wp2_with fail
 refine(zHw a o ds n _ y Z).mono ?_;rintro e z ⟨⟨v,rfl,f⟩,A⟩;have a3:(chain ds n).length<=1000000:=by have:=zB3 ds n;omega
 have a4:w.heap.size+1<=z.heap.size:=by have:=A.size;rwa [World.size_alloc]at this
 obtain⟨ac,cc,rfl,hD,F⟩:=Devs.of_own f;have C:Hid (origin ds n=((chain ds n).map Dev.orig).reverse):=rfl;have D:=N.step A zi;clear f N y;generalize chain ds n=c at *
 go_wp2_with fail
 go_loopw [5,7] (fun v i wr=>∃ (k:Nat) (O:Option Addr) (R:Nat),k<=c.length/\i=.int .i64 ((k:Int)-1)/\v=.slice O (c.length-k) R/\wr.ownsRow z.heap.size 9 1 (.slice O (c.length-k) R) (c.length-k) ((((c.drop k).map Dev.orig).reverse).map Value.string)/\Fr (From z.heap.size) z wr) (fun _ i _=>(intOf i+1).toNat)
 case atStart=>exact⟨c.length,none,0,by omega,rfl,by simp,by simpa using World.ownsRow_nil _ _ _ _,Fr.refl _ _⟩
 case round=>
  obtain⟨k,O,R,hk,rfl,rfl,f,q⟩:=hrel;have a5:=q.size;cases k with
  | zero=>
   go_wp2_with fail
   go_ret;rw[C.out];simp only[List.drop_zero,Nat.sub_zero]at f;exact⟨⟨_,rfl,by rw[List.length_reverse,List.length_map];exact zAT f (by omega)⟩,D.step q (fun b Z h=>by unfold From at h;omega)⟩
  | succ j=>
   have U:=hD.fr q (fun ad e V hS=>by have:=(hD.cell ad e V).2.1;unfold From at hS;omega);obtain⟨b,a6,d,rfl,hd,hc⟩:=U.dev (by omega:j<c.length);have c3:=hc.c3;have Hd:=zh hd;clear hd hc;rw[show ((j+1:Nat):Int)-1=(j:Int)from by omega]
   go_wp2_with (at_builtin;refine wpList_append_own _ rfl _ _ 30 rfl z.heap.size 9 i0 (.string ByteArray.empty) 1 16 Tryz.underlying30 hi I J L rfl (by decide) _ _ _ rfl (f.alloc _) ⟨wr.heap.size,0,none⟩ 1 1 [.string d.orig] rfl rfl (cell_one_new _ _ _) (zCa [d.orig]) (by unfold maxLen;omega) (by omega) (by simp;omega) ?_;intro v' w2 g u _;obtain⟨X,Y,rfl⟩:=zJ g)
   go_roundw
   case rel=>
    have e:c.length-(j+1)+1=c.length-j:=by omega
    rw[e]at g ⊢;refine⟨j,X,Y,by omega,rfl,rfl,?_,q.step (zBc f u) zi⟩;rw[List.drop_eq_getElem_cons (by omega:j<c.length)];have e2:c[j]=d:=by have:=Hd.out;rw[List.getElem?_eq_getElem (by omega)]at this;exact Option.some.inj this
    rw[e2]
    simpa using g
   case measure=>simp[intOf]
theorem Strs.keep {X W:World}{a:Option Addr}{f:Nat}{l:List ByteArray}{S:Nat->Prop}(h:Strs X a f l)(o:Fr S X W)(q:∀ b,b<X.heap.size->¬ S b):Strs W a f l:=
 h.fr o (fun u e g=>q _ (h.cell u e g).2.1)
def BlkT (w:World)(a:Option Addr)(T:TypeId):Prop:=∀ ad,a=some ad->∃ cs,w.heap[ad.block]?=some (.cells cs T (0,0))
theorem BlkT.none (w:World)(T:TypeId):BlkT w none T:=fun _ e=>by cases e
theorem zAI {w:World}{f:Nat}{e:TypeId}{o:Nat}{a:Option Addr}{n m c:Nat}{v:List Value}(h:w.ownsRow f e o (.slice a n c) m v):BlkT w a e:=by
 obtain⟨_,⟨q,_⟩ | ⟨g,y,u,q,A,z,_⟩⟩:=h
 ·cases q;exact BlkT.none _ _
 ·cases q;exact fun C e=>by cases e;exact⟨u,z⟩
theorem BlkT.fr {S:Nat->Prop}{w w':World}{a:Option Addr}{T:TypeId}(h:BlkT w a T)(g:Fr S w w')(o:∀ f,a=some f->¬ S f.block):BlkT w' a T:=fun f e=>by
 obtain⟨cs,q⟩:=h f e;exact⟨cs,g.heap q (o f e)⟩
theorem BlkT.ne {w:World}{f:Nat}{e T:TypeId}{o:Nat}{v:Value}{n:Nat}{A:List Value}(C:w.ownsRow f e o v n A){a:Option Addr}(h:BlkT w a T)(y:T≠e):∀ u,a=some u->¬ v.ownBlock=some u.block:=by
 intro u D z;obtain⟨cs,F⟩:=h u D;obtain⟨_,⟨rfl,_⟩ | ⟨g,I,J,rfl,L,q,_⟩⟩:=C
 ·cases z
 ·cases z;rw[F]at q;cases q;exact y rfl
theorem zG {w z:World}{f:Nat}{e:TypeId}{o:Nat}{v:Value}{n:Nat}{A:List Value}(h:w.ownsRow f e o v n A){S:Nat->Prop}(D:Fr S w z)(F:∀ b,v.ownBlock=some b->¬ S b):z.ownsRow f e o v n A:=by
 obtain⟨C,⟨rfl,q⟩ | ⟨g,u,y,rfl,I,J,L,q,N,O⟩⟩:=h
 ·exact⟨C,.inl ⟨rfl,q⟩⟩
 ·exact⟨C,.inr ⟨g,u,y,rfl,I,D.heap J (F g rfl),L,q,N,O⟩⟩
structure Vir where
 q:ByteArray
 o:ByteArray
 c:ByteArray
 r:Int
def Vir.vals (v:Vir):Array Value:=#[.string v.q,.string v.o,.string v.c,.int .i64 v.r]
structure Virs (w:World)(a:Option Addr)(cap:Nat)(L:List Vir):Prop where
 len:L.length<=cap
 max:cap<=maxLen
 isNil:a=none->L=[]/\cap=0
 cell:∀ ad,a=some ad->L≠[]->ad.spot=none/\ad.block<w.heap.size/\∀ i m,L[i]?=some m->∀ j,j<4->w.cell? ⟨ad.block,ad.off+(i*4+j),none⟩=m.vals[j]?
structure VirAt (w:World)(b o:Nat)(m:Vir):Prop where
 c0:w.cell? ⟨b,o,none⟩=some (.string m.q)
 c1:w.cell? ⟨b,o+1,none⟩=some (.string m.o)
 c2:w.cell? ⟨b,o+2,none⟩=some (.string m.c)
 c3:w.cell? ⟨b,o+3,none⟩=some (.int .i64 m.r)
theorem Virs.elem {w:World}{a:Option Addr}{q:Nat}{L:List Vir}(h:Virs w a q L){k:Nat}(g:k<L.length):
  ∃ b f m,a=some ⟨b,f,none⟩/\L[k]?=some m/\VirAt w b (f+k*4) m/\b<w.heap.size:=by
 cases a with
 | none=>obtain⟨rfl,_⟩:=h.isNil rfl;simp at g
 | some v=>
  obtain⟨b,f,A⟩:=v;obtain⟨u,y,z⟩:=h.cell _ rfl (by intro e;subst e;simp at g);simp at u;subst u;have o:=z k _ (List.getElem?_eq_getElem g);exact⟨b,f,L[k],rfl,List.getElem?_eq_getElem g,⟨o 0 (by omega),o 1 (by omega),o 2 (by omega),o 3 (by omega)⟩,y⟩
theorem Virs.lenmax {w:World}{a:Option Addr}{f:Nat}{L:List Vir}(h:Virs w a f L):L.length<=9223372036854775807:=by
 have o:=h.len;have g:=h.max;unfold maxLen at g;omega
theorem Virs.fr {S:Nat->Prop}{w w':World}{a:Option Addr}{f:Nat}{L:List Vir}(h:Virs w a f L)(q:Fr S w w')(v:∀ g,a=some g->L≠[]->¬ S g.block):Virs w' a f L:=
 ⟨h.len,h.max,h.isNil,fun g e o=>by
  obtain⟨y,u,z⟩:=h.cell g e o;refine⟨y,Nat.lt_of_lt_of_le u q.size,fun i m A j C=>?_⟩;rw[<-z i m A j C];exact World.cell?_of_block (q.block _ u (v g e o))⟩
theorem Virs.nil (w:World):Virs w none 0 []:=⟨by simp,by simp,fun _=>⟨rfl,rfl⟩,fun _ e _=>by cases e⟩
theorem infoV : (Tryz.prog.info? 94).map (fun i=>(i.zero,i.size,i.bytes))=some (some (.agg #[.string ByteArray.empty,.string ByteArray.empty,.string ByteArray.empty,.int .i64 0]),4,56):=by kernel_rfl
def vflat (L:List Vir):List Value:=L.flatMap (fun m=>m.vals.toList)
theorem zBU (L:List Vir)(m:Vir):vflat (L++[m])=vflat L++m.vals.toList:=by simp[vflat]
theorem zBr (m:Vir):∀ u∈m.vals.toList,u.oneCell'=true:=by
 intro u f;simp[Vir.vals]at f;rcases f with rfl | rfl | rfl | rfl<;>rfl
theorem zF2 : ∀ (L:List Vir) (i:Nat) (m:Vir),L[i]?=some m->∀ j,j<4->(vflat L)[i*4+j]?=m.vals[j]?
 | [],i,m,h,j,f=>by simp at h
 | x::t,0,m,h,j,f=>by
  simp at h;subst h;have:vflat (x::t)=x.vals.toList++vflat t:=by simp[vflat]
  rw[this,List.getElem?_append_left (by simp[Vir.vals];omega)];simp
 | x::t,i+1,m,h,j,f=>by
  have:vflat (x::t)=x.vals.toList++vflat t:=by simp[vflat]
  rw[this,List.getElem?_append_right (by simp[Vir.vals];omega),show (i+1)*4+j-x.vals.toList.length=i*4+j from by simp[Vir.vals];omega];exact zF2 t i m (by simpa using h) j f
theorem Virs.of_own {w:World}{o:Nat}{e:TypeId}{v:Value}{L:List Vir}(h:w.ownsRow o e 4 v L.length (vflat L)):
  ∃ a f,v=.slice a L.length f/\Virs w a f L/\∀ q,a=some q->o<=q.block:=by
 obtain⟨_,⟨rfl,u⟩ | ⟨g,f,y,rfl,D,z,F,u,R,I⟩⟩:=h
 ·have:L=[]:=List.eq_nil_of_length_eq_zero u;subst this;exact⟨none,0,rfl,Virs.nil w,fun _ e=>by cases e⟩
 ·refine⟨some ⟨g,0,none⟩,f,rfl,⟨F,u,(fun e=>by cases e),?_⟩,fun q e=>by cases e;exact D⟩;intro q e J;cases e;refine⟨rfl,zC z,fun i m A j N=>?_⟩;rw[zB z];simp only[Nat.zero_add];have O:i<L.length:=(List.getElem?_eq_some_iff.1 A).1;have C:(y.toList.take (L.length*4))[i*4+j]?=(vflat L)[i*4+j]?:=by rw[I]
  rw[List.getElem?_take_of_lt (by omega),zF2 L i m A j N]at C;rw[<-Array.getElem?_toList,C]
def revR {α:Type}(L:List α):List (Int×α):=(L.zipIdx.reverse).map fun p=>((p.2:Int),p.1)
theorem zAl {α:Type}(L:List α):(revR L).length=L.length:=by unfold revR;simp
theorem zFW {α:Type}{L:List α}{j:Nat}{x:α}(h:j<L.length)(f:L[j]?=some x):(revR L)[L.length-1-j]?=some ((j:Int),x):=by
 unfold revR;rw[List.getElem?_map,List.getElem?_reverse (by simp;omega)];have e:L.zipIdx.length-1-(L.length-1-j)=j:=by simp;omega
 rw[e,List.getElem?_zipIdx,f];simp
theorem zEv {α:Type}{L:List α}{j:Nat}{x:α}(h:j<L.length)(g:L[j]?=some x):(revR L).take (L.length-j)=(revR L).take (L.length-(j+1))++[((j:Int),x)]:=by
 have e:L.length-j=(L.length-(j+1))+1:=by omega
 have f:=zFW h g;have o:L.length-1-j=L.length-(j+1):=by omega
 rw[o]at f;rw[e,List.take_add_one,f];rfl
theorem zEZ (a:Option Addr)(n c:Nat)(w:World):Calls Tryz.prog 91 #[.slice a n c] w fun e w'=>e=.returned (.func (.func 144) #[] #[.pointer (some ⟨w.heap.size,0,none⟩)])/\w'=w.alloc (.cells #[.slice a n c] 46):=by
 go_enter Tryz.func91,Tryz.ntmps91
 go_wp2_with fail
 go_ret;exact⟨rfl,rfl⟩
theorem zAs (n:Nat)(hn:3<=n)(y:Nat)(a:Option Addr)(f:Nat)(ds:List Dev)(w:World)(V0:Nat->Prop)(F:w.heap[y]?=some (.cells #[.slice a ds.length f] 46))(hS:Devs w a f ds)(b1:ds.length<=1000000)
  (hV:¬ V0 y/\∀ g,a=some g->ds≠[]->¬ V0 g.block):
  Gives Fence.wide n Tryz.prog 144 #[.pointer (some ⟨y,0,none⟩)] (fun x:Int×Dev=>#[.int .i64 x.1,.agg x.2.vals]) (fun _=>False) V0 (revR ds) w:=by
 intro l J W z b2 b3 a7 hJ hY h0;have I:=z.heap F id;have a3:Devs W a f ds:=hS.fr z (fun _ _ _ h=>h);have b4:=z.size;have b5:1<=n:=by omega
 have hm:=hS.lenmax;have b6:=zC F;have a4:∀ g,a=some g->ds≠[]->g.block<w.heap.size:=fun g e o=>(hS.cell g e o).2.1
 show CallsIn Fence.wide n Tryz.prog 144 #[.func (.yield l) #[] #[],.pointer (some ⟨y,0,none⟩)] W _
 have cv:W.cell? ⟨y,0,none⟩=some (.slice a ds.length f):=zB I 0;refine callsIn_of_wp Tryz.func144 rfl trivial ?_ rfl;simp only[Tryz.ntmps144,List.size_toArray,List.length_cons,List.length_nil,Nat.reduceAdd,Nat.reduceSub,Array.replicate_succ,Array.replicate_zero,List.push_toArray,List.append_toArray,List.nil_append,List.cons_append]
 gi_wp2
 clear cv
 gi_loopw [3] (fun i wr=>∃ (m:Nat) (V:Nat->Prop),m<=ds.length/\i=.int .i64 ((m:Int)-1)/\wr.heap[y]?=some (.cells #[.slice a ds.length f] 46)/\Devs wr a f ds/\J ((revR ds).take (ds.length-m)) V wr/\(∀ b,V b->V0 b\/w.heap.size<=b)/\W.heap.size<=wr.heap.size) (fun i _=>(intOf i+1).toNat)
 case atStart=>exact⟨ds.length,V0,Nat.le_refl _,rfl,I,a3,by simpa using h0,fun b hb=>.inl hb,Nat.le_refl _⟩
 case round=>
  obtain⟨m,V,b7,Z,A,C,D,q,b8⟩:=hrel;cases m with
  | succ j=>
   have u:(((j+1:Nat):Int)-1)=(j:Int):=by omega
   rw[u]at Z;subst Z;have L:j<ds.length:=by omega
   have b9:(0:Int)<=(j:Int):=by omega
   have a8:(j:Int)<ds.length:=by omega
   have cv:wr.cell? ⟨y,0,none⟩=some (.slice a ds.length f):=zB A 0;obtain⟨bb,d0,x,rfl,hx,c0,c1,c2,c3,c4,c5,c6,c7,c8,c9⟩:=C.dev L;have N:=zh (zEv L hx);have a5:=hY _ V ((j:Int),x) wr D (by rw[<-N.out];exact List.take_prefix _ _);obtain⟨fn,a9,a2,b0,hy,hR⟩:=a5;unfold Dev.vals at hy;dsimp only at hy;clear hx u
   gi_wp2
   refine hR.mono ?_;rintro e W3 ⟨rfl,V',O,R,v⟩;have U:=C.fr v (fun g e o h=>by
    have h1:=a4 g e o;rcases h with h | h
    ·rcases q _ h with X | X
     ·exact hV.2 g e o X
     ·omega
    ·omega)
   have Y:=v.heap A (fun h=>by
    rcases h with h | h
    ·rcases q _ h with X | X
     ·exact hV.1 X
     ·omega
    ·omega)
   have d1:=v.size;have HF:=zh (And.intro U (And.intro R Y));have HV:Hid (∀ b,V' b->V0 b\/w.heap.size<=b):=fun b h=>(O b h).elim (q b) (fun h=>.inr (by omega))
   clear U R O C D q hR hy v A cv Y
   gi_wp2
   go_roundw
   case rel=>exact⟨j,V',by omega,by first | rfl | (go_num;done),HF.out.2.2,HF.out.1,by rw[N.out];exact HF.out.2.1,HV.out,by omega⟩
   case measure=>simp[intOf]
  | zero=>
   have u:(((0:Nat):Int)-1)=-1:=by omega
   rw[u]at Z;subst Z;have a6:J (revR ds) V wr:=by
    have e:(revR ds).take (ds.length-0)=revR ds:=by rw[Nat.sub_zero];exact List.take_of_length_le (Nat.le_of_eq (zAl ds))
    rw[<-e];exact D
   gi_wp2
   go_end0
   exact⟨⟨_,rfl⟩,V,a6⟩
theorem zGo (a:Option Addr)(n c:Nat)(w:World):Calls Tryz.prog 65 #[.slice a n c] w fun e w'=>e=.returned (.func (.func 122) #[] #[.pointer (some ⟨w.heap.size,0,none⟩)])/\w'=w.alloc (.cells #[.slice a n c] 50):=by
 go_enter Tryz.func65,Tryz.ntmps65
 go_wp2_with fail
 go_ret;exact⟨rfl,rfl⟩
theorem zBe (n:Nat)(hn:3<=n)(y:Nat)(a:Option Addr)(f:Nat)(ds:List Vir)(w:World)(V0:Nat->Prop)(F:w.heap[y]?=some (.cells #[.slice a ds.length f] 50))(hS:Virs w a f ds)(b1:ds.length<=1000000)
  (hV:¬ V0 y/\∀ g,a=some g->ds≠[]->¬ V0 g.block):
  Gives Fence.wide n Tryz.prog 122 #[.pointer (some ⟨y,0,none⟩)] (fun x:Int×Vir=>#[.int .i64 x.1,.agg x.2.vals]) (fun _=>False) V0 (revR ds) w:=by
 intro l J W z b2 b3 a7 hJ hY h0;have I:=z.heap F id;have a3:Virs W a f ds:=hS.fr z (fun _ _ _ h=>h);have b4:=z.size;have b5:1<=n:=by omega
 have hm:=hS.lenmax;have b6:=zC F;have a4:∀ g,a=some g->ds≠[]->g.block<w.heap.size:=fun g e o=>(hS.cell g e o).2.1
 show CallsIn Fence.wide n Tryz.prog 122 #[.func (.yield l) #[] #[],.pointer (some ⟨y,0,none⟩)] W _
 have cv:W.cell? ⟨y,0,none⟩=some (.slice a ds.length f):=zB I 0;refine callsIn_of_wp Tryz.func122 rfl trivial ?_ rfl;simp only[Tryz.ntmps122,List.size_toArray,List.length_cons,List.length_nil,Nat.reduceAdd,Nat.reduceSub,Array.replicate_succ,Array.replicate_zero,List.push_toArray,List.append_toArray,List.nil_append,List.cons_append]
 gi_wp2
 clear cv
 gi_loopw [3] (fun i wr=>∃ (m:Nat) (V:Nat->Prop),m<=ds.length/\i=.int .i64 ((m:Int)-1)/\wr.heap[y]?=some (.cells #[.slice a ds.length f] 50)/\Virs wr a f ds/\J ((revR ds).take (ds.length-m)) V wr/\(∀ b,V b->V0 b\/w.heap.size<=b)/\W.heap.size<=wr.heap.size) (fun i _=>(intOf i+1).toNat)
 case atStart=>exact⟨ds.length,V0,Nat.le_refl _,rfl,I,a3,by simpa using h0,fun b hb=>.inl hb,Nat.le_refl _⟩
 case round=>
  obtain⟨m,V,b7,Z,A,C,D,q,b8⟩:=hrel;cases m with
  | succ j=>
   have u:(((j+1:Nat):Int)-1)=(j:Int):=by omega
   rw[u]at Z;subst Z;have L:j<ds.length:=by omega
   have b9:(0:Int)<=(j:Int):=by omega
   have a8:(j:Int)<ds.length:=by omega
   have cv:wr.cell? ⟨y,0,none⟩=some (.slice a ds.length f):=zB A 0;obtain⟨bb,c4,x,rfl,hx,⟨c0,c1,c2,c3⟩,c5⟩:=C.elem L;have N:=zh (zEv L hx);have a5:=hY _ V ((j:Int),x) wr D (by rw[<-N.out];exact List.take_prefix _ _);obtain⟨fn,a9,a2,b0,hy,hR⟩:=a5;unfold Vir.vals at hy;dsimp only at hy;clear hx u
   gi_wp2
   refine hR.mono ?_;rintro e W3 ⟨rfl,V',O,R,v⟩;have U:=C.fr v (fun g e o h=>by
    have h1:=a4 g e o;rcases h with h | h
    ·rcases q _ h with X | X
     ·exact hV.2 g e o X
     ·omega
    ·omega)
   have Y:=v.heap A (fun h=>by
    rcases h with h | h
    ·rcases q _ h with X | X
     ·exact hV.1 X
     ·omega
    ·omega)
   have c6:=v.size;have HF:=zh (And.intro U (And.intro R Y));have HV:Hid (∀ b,V' b->V0 b\/w.heap.size<=b):=fun b h=>(O b h).elim (q b) (fun h=>.inr (by omega))
   clear U R O C D q hR hy v A cv Y
   gi_wp2
   go_roundw
   case rel=>exact⟨j,V',by omega,by first | rfl | (go_num;done),HF.out.2.2,HF.out.1,by rw[N.out];exact HF.out.2.1,HV.out,by omega⟩
   case measure=>simp[intOf]
  | zero=>
   have u:(((0:Nat):Int)-1)=-1:=by omega
   rw[u]at Z;subst Z;have a6:J (revR ds) V wr:=by
    have e:(revR ds).take (ds.length-0)=revR ds:=by rw[Nat.sub_zero];exact List.take_of_length_le (Nat.le_of_eq (zAl ds))
    rw[<-e];exact D
   gi_wp2
   go_end0
   exact⟨⟨_,rfl⟩,V,a6⟩
def RetB (e:Ending):Prop:=∃ b,e=.returned (.bool b)
theorem RetB.mk (b:Bool):RetB (.returned (.bool b)):=⟨b,rfl⟩
def inSet (s set:ByteArray):Bool:=s.data.toList.all set.data.toList.contains
def nameBA : ByteArray:=⟨#[65,66,67,68,69,70,71,72,73,74,75,76,77,78,79,80,81,82,83,84,85,86,87,88,89,90,97,98,99,100,101,102,103,104,105,106,107,108,109,110,111,112,113,114,115,116,117,118,119,120,121,122,48,49,50,51,52,53,54,55,56,57,95,46,58,43,45,33]⟩
def isName (s:ByteArray):Bool:=!decide (s.toList=[])&&decide (s.size<=32)&&inSet s nameBA&&!decide (s.toList=[46])&&!decide (s.toList=[46,46])
theorem zCD (p:UInt8->Bool)(l:List UInt8)(k:Nat)(x:UInt8)(h:l[k]?=some x)(f:(l.take k).all p=true)(g:p x=true):(l.take (k+1)).all p=true:=by
 rw[List.take_add_one,h,List.all_append,f];simp[g]
theorem zI3 (p:UInt8->Bool)(l:List UInt8)(k:Nat)(x:UInt8)(h:l[k]?=some x)(f:p x=false):l.all p=false:=by
 rw[List.all_eq_false];exact⟨x,List.mem_of_getElem? h,by simp[f]⟩
theorem zE6 {s:ByteArray}(h:isName s=true):OkN s:=by
 unfold isName at h;simp only[Bool.and_eq_true,decide_eq_true_eq]at h;obtain⟨⟨⟨⟨_,g⟩,f⟩,_⟩,_⟩:=h;refine⟨g,fun b o e=>?_⟩;unfold inSet at f;rw[List.all_eq_true]at f;have:=f b o;subst e;revert this;decide
end Go.Proofs.YtinfjnndbfahhaaGreatDoor
