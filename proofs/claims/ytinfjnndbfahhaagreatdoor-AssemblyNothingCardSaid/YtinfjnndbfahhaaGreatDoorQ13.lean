import Derived.Test.YtinfjnndbfahhaaGreatDoorQ12
import Derived.Shelf.Spec.SlicesInsert
import Derived.Lib.AppendZerosOnto
import Derived.Laws.CopyOwn
namespace Go.Proofs.YtinfjnndbfahhaaGreatDoor
open Go.RowKit Go.Maps
set_option linter.unusedVariables false
set_option maxRecDepth 100000
set_option maxHeartbeats 4000000
section
variable {K:Act->World->Prop}{T:Nat->Prop}{w w':World}{a:Act}
theorem zf (f:Fr T w w')(h:K a w'):OnlyN (fun a w'=>Fr T w w'/\K a w') .normal a w':=⟨f,h⟩
theorem zm (f:Fr No w w')(h:K a w'):OnlyN (fun a w'=>Fr T w w'/\K a w') .normal a w':=⟨f.mono fun _ _ h=>h.elim,h⟩
theorem zp {o:Obj}(h:K a (w.alloc o)):OnlyN (fun a w'=>Fr T w w'/\K a w') .normal a (w.alloc o):=⟨(Fr.refl _ _).alloc _,h⟩
theorem zq (h:K a w):OnlyN (fun a w'=>Fr T w w'/\K a w') .normal a w:=⟨Fr.refl _ _,h⟩
end
theorem zAG {w:World}{f:Nat}{e:TypeId}{o:Nat}{v:Value}{n:Nat}{u:List Value}(h:w.ownsRow f e o v n u){b:Nat}(q:v.ownBlock=some b):f<=b/\b<w.heap.size:=by
 obtain⟨_,⟨rfl,_⟩ | ⟨g,y,z,rfl,A,C,_⟩⟩:=h
 ·cases q
 ·cases q;exact⟨A,zC C⟩
theorem zA8 {P:Program}(w:World)(I N O f:TypeId)(D g o q y:Nat)(a:Addr)(u z:Nat)(h:Array Value)(t:TypeId)(cs:List Value)
  (R:P.underlying I=some (.slice f)) (J:(P.info? f).map (·.size)=some D) (U:w.heap[g]?=some (.cells h t (0,0))) (k:Nat) (V:k=Nat.min u q) (X:cs.length=k*D)
  (A:∀ j v,cs[j]?=some v->w.cell? (a.add j)=some v) (C:o+cs.length<=h.size) (Y:∀ v∈cs,v.oneCell'=true):
  (Builtin.copy_ #[I,N] O #[.slice (some ⟨g,o,none⟩) q y,.slice (some a) u z]).run P w=.ok (goInt k) (w.setRow g (splice h.toList o cs).toArray):=by
 have L:=run_loadCells_list (P:=P) w a cs A;have F:=run_storeCells_at P g o t cs 0 h w U (by simpa using C) Y;subst V;cases hq:P.info? f with
 | none=>simp[hq]at J
 | some i=>
  have Z:i.size=D:=by simpa [hq]using J
  rw[X]at L;simp[Builtin.copy_,run_underlying R,Builtin.lenOf,Builtin.firstCells,sizeOf,typeInfo,hq,Z,L,F,splice]
theorem zEr {α:Type}(L:List α)(o:Nat)(cs:List α):splice L o cs=L.take o++(cs++L.drop (o+cs.length)):=rfl
theorem zG6 {L cs d:List Value}{i n z:Nat}(f:d.length=z)(o:cs.length=n)(q:(i*z)+n+z<=L.length):
  (splice (splice L ((i+1)*z) cs) (i*z) d).take (i*z+n+z)=L.take (i*z)++(d++cs):=by
 have e:(i+1)*z=i*z+z:=by rw[Nat.add_mul,Nat.one_mul]
 have g:(splice L ((i+1)*z) cs).take (i*z)=L.take (i*z):=by
  unfold splice;rw[List.take_append_of_le_length (by rw[List.length_take];omega),List.take_take,Nat.min_eq_left (by omega)]
 have h:(splice L ((i+1)*z) cs).drop (i*z+z)=cs++L.drop ((i+1)*z+cs.length):=by
  unfold splice;rw[List.drop_append_of_le_length (by rw[List.length_take];omega),List.drop_take,e,Nat.sub_self,List.take_zero,List.nil_append]
 rw[zEr _ (i*z) d,g,f,h,List.take_append,List.length_take,Nat.min_eq_left (by omega),List.take_of_length_le (by rw[List.length_take];omega)]
 congr 1
 rw[show i*z+n+z-i*z=z+n by omega,List.take_append,f,List.take_of_length_le (by omega),show z+n-z=n by omega,List.take_append_of_le_length (by omega),List.take_of_length_le (by omega)]
theorem Fr.setRow {S:Nat->Prop}(w:World)(g:Nat)(cs:Array Value)(h:S g):Fr S w (w.setRow g cs):=
 ⟨rfl,rfl,rfl,by simp[World.setRow],fun k _ f=>setRow_other w g k cs (fun e=>f (e▸h))⟩
theorem zDE : (Tryz.prog.info? 36).map (·.size)=some 10:=by kernel_rfl
theorem zDF (b3 g b q n i:Nat)(o:Array Value)(y:List Value)(d:Dev)(w:World)(Y:w.heap[g]?=some (.cells o 36))(O:o.toList.take (n*10)=y)(Z:y.length=n*10)(a2:∀ u∈y,u.oneCell'=true)
  (a8:o.size=q*10) (a9:n+1<=q) (b0:q<=maxLen) (b5:i<n) (hb:w.heap[b]?=some (.cells d.vals 36)) (a3:b≠g):
  Calls Tryz.prog 82 #[.slice (some ⟨g,0,none⟩) n q,.int .i64 (i:Int),.slice (some ⟨b,0,none⟩) 1 1] w fun e w'=>e=.returned (.slice (some ⟨g,0,none⟩) (n+1) q)/\
   (∃ A,w'.heap[g]?=some (.cells A 36)/\A.toList.take ((n+1)*10)=y.take (i*10)++(d.vals.toList++y.drop (i*10))/\A.size=q*10)/\Fr (Is g) w w':=by
 have b6:¬ ((i:Int)=(n:Int)):=by omega
 unfold maxLen at b0;have hr:(n:Int)+1<=(q:Int):=by omega
 have b4:i<=n:=by omega
 have b7:=zC hb;have b8:=zC Y;have b1:∀ R lb cb,(callFunc 140 #[.slice (some ⟨b,0,none⟩) 1 1,.slice (some ⟨g,R,none⟩) lb cb]).run Tryz.prog w=.ok (.value (.bool false)) w:=fun R lb cb=>by
  rw[run_callFunc_extern (f:=140) (P:=Tryz.prog) (fn:=Tryz.f140) (by kernel_rfl) (by kernel_rfl) (by kernel_rfl) (by kernel_rfl) (e:=Extern.SlicesOverlaps.overlaps #[46,46] #[4]) (by kernel_rfl),
   Lib.run_overlaps_apart w 46 4 36 Tryz.underlying46 10 (fun w=>by kernel_rfl) ⟨b,0,none⟩ ⟨g,R,none⟩ 1 1 lb cb a3 36 36 10 o.size (by simp[World.shape?,hb,Dev.vals]) (by simp[World.shape?,Y]) (by omega) (zE hb 0) (zE hb 10)]
  rfl
 have C:(y.drop (i*10)).length=(n-i)*10:=by rw[List.length_drop,Z,<-Nat.sub_mul]
 have a4:∀ j v,y[j]?=some v->o[j]?=some v:=fun j v h=>by
  have hj:=(List.getElem?_eq_some_iff.1 h).1;rw[<-O,List.getElem?_take_of_lt (by omega)]at h;rw[<-Array.getElem?_toList];exact h
 have N:∀ (W:World),Fr No w W->∀ U F V sl sc,F=n-i->sl=n+1-i->(Builtin.copy_ #[46,46] U #[.slice (some ⟨g,(i+1)*10,none⟩) F V,.slice (some ⟨g,i*10,none⟩) sl sc]).run Tryz.prog W=.ok (goInt (n-i:Nat)) (W.setRow g (splice o.toList ((i+1)*10) (y.drop (i*10))).toArray):=fun W hW U F V sl sc e1 e2=>
  zA8 W 46 46 U 36 10 g ((i+1)*10) F V ⟨g,i*10,none⟩ sl sc o 36 (y.drop (i*10)) Tryz.underlying46 zDE (hW.heap Y id) (n-i) (by simp only[Nat.min_def];split<;>omega) C
   (fun j v hj=>by
    rw[List.getElem?_drop]at hj;rw[Addr.add_lit,zB (hW.heap Y id)];exact a4 _ v hj)
   (by rw[C];omega) (fun v hv=>a2 v (List.mem_of_mem_drop hv))
 go_enter Tryz.func82,Tryz.ntmps82
 go_upto_region 15 with(simp only[b1])
 refine zQ (Is g) [(0,false),(1,false),(2,false),(3,false),(4,false),(5,false),(6,false),(7,false),(8,true)] (by kernel_rfl) (by kernel_rfl) (fun w1 I=>?_);have h1:=N w1 I
 repeat (apply zS rfl rfl rfl;intro K hK;go_big_quiet_op;go_big_quiet_on)
 apply zk;exact rfl
 go_wp2_with (at_builtin;refine wpList_copy_runI _ rfl _ _ 46 46 rfl _ _ rfl rfl (h1 _ _ _ _ _ (by omega) (by omega)) ?_)
 have f2:Fr (Is g) w1 (w1.setRow g (splice o.toList ((i+1)*10) (y.drop (i*10))).toArray):=Fr.setRow _ _ _ rfl;refine zf f2 ?_;refine zY ?_;have g2:=setRow_heap w1 g o (splice o.toList ((i+1)*10) (y.drop (i*10))).toArray 36 (0,0) (I.heap Y id);have b2:=f2.heap (I.heap hb id) a3;have F2:=zh ((I.mono zn).step f2 zi:Fr (Is g) w _);generalize (w1.setRow g (splice o.toList ((i+1)*10) (y.drop (i*10))).toArray)=w2 at *;have J:(splice o.toList ((i+1)*10) (y.drop (i*10))).length=o.size:=(length_splice _ _ _ (by rw[C,Array.length_toList];omega)).trans Array.length_toList;have X:d.vals.toList.length=10:=rfl;obtain⟨row,D⟩:∃ row,row=splice o.toList ((i+1)*10) (y.drop (i*10)):=⟨_,rfl⟩
 rw[<-D]at g2 J;have a5:∀ U F V,F=n+1-i->(Builtin.copy_ #[46,46] U #[.slice (some ⟨g,i*10,none⟩) F V,.slice (some ⟨b,0,none⟩) 1 1]).run Tryz.prog w2=.ok (goInt (1:Nat)) (w2.setRow g (splice row (i*10) d.vals.toList).toArray):=fun U F V e1=>
  zA8 w2 46 46 U 36 10 g (i*10) F V ⟨b,0,none⟩ 1 1 row.toArray 36 d.vals.toList Tryz.underlying46 zDE g2 1 (by subst e1;simp only[Nat.min_def];split<;>omega) rfl
   (fun j v hj=>by rw[Addr.add_lit,zB b2];simpa using hj) (by rw[X,List.size_toArray,J];omega) (zAR d)
 have g3:=setRow_heap w2 g row.toArray (splice row (i*10) d.vals.toList).toArray 36 (0,0) g2;have F3:=zh (F2.out.step (Fr.setRow (S:=Is g) w2 g (splice row (i*10) d.vals.toList).toArray rfl) zi);have a6:Hid ((splice row (i*10) d.vals.toList).toArray.toList.take ((n+1)*10)=y.take (i*10)++(d.vals.toList++y.drop (i*10))):=by
  unfold Hid;have h:=zG6 (L:=o.toList) (cs:=y.drop (i*10)) (d:=d.vals.toList) (i:=i) (n:=(n-i)*10) (z:=10) X C (by rw[Array.length_toList];omega);rw[show (n+1)*10=i*10+(n-i)*10+10 by omega,List.toList_toArray,D,h,<-O,List.take_take,Nat.min_eq_left (by omega)]
 have a7:Hid ((splice row (i*10) d.vals.toList).toArray.size=q*10):=by
  unfold Hid;rw[List.size_toArray,length_splice _ _ _ (by rw[X,J];omega),J];exact a8
 have H3:=zh g3;clear D O C a4 N a2 g2 b2 g3 Z;generalize splice row (i*10) d.vals.toList=row2 at *
 go_wp2_with (at_builtin;refine wpList_copy_runI _ rfl _ _ 46 46 rfl _ _ rfl rfl (a5 _ _ _ (by omega)) ?_)
 go_ret;exact⟨rfl,⟨_,H3.out,a6.out,a7.out⟩,F3.out⟩
theorem zFT {L cs d:List Value}{i n z:Nat}(f:d.length=z)(h:cs.length=n)(q:(i*z)+n+z<=L.length):
  (splice (splice L (i*z) d) ((i+1)*z) cs).take (i*z+n+z)=L.take (i*z)++(d++cs):=by
 have e:(i+1)*z=i*z+z:=by rw[Nat.add_mul,Nat.one_mul]
 have g:(L.take (i*z)).length=i*z:=by rw[List.length_take];omega
 have o:(splice L (i*z) d).take (i*z+z)=L.take (i*z)++d:=by
  unfold splice;rw[<-List.append_assoc];exact List.take_left' (by rw[List.length_append,g,f])
 rw[zEr _ ((i+1)*z) cs,e,o,<-List.append_assoc,List.append_assoc (L.take (i*z)) d cs];exact List.take_left' (by rw[List.length_append,List.length_append,g,f,h];omega)
theorem zDG (g b q n i:Nat)(X:Array Value)(o:List Value)(d:Dev)(w:World)(hg:w.heap[g]?=some (.cells X 36))(b6:X.toList.take (n*10)=o)(a7:o.length=n*10)(a8:∀ u∈o,u.oneCell'=true)
  (c4:n<=q) (Y:q<n+1) (hn:n<=100000) (c5:i<n) (hb:w.heap[b]?=some (.cells d.vals 36)):
  Calls Tryz.prog 82 #[.slice (some ⟨g,0,none⟩) n q,.int .i64 (i:Int),.slice (some ⟨b,0,none⟩) 1 1] w fun e w'=>∃ G C,e=.returned (.slice (some ⟨w.heap.size,0,none⟩) (n+1) G)/\
   w'.heap[w.heap.size]?=some (.cells C 36)/\C.toList.take ((n+1)*10)=o.take (i*10)++(d.vals.toList++o.drop (i*10))/\C.size=G*10/\n+1<=G/\G<=maxLen/\Fr No w w':=by
 obtain⟨i0,b7,b8,b9,a9⟩:=info_parts infoD;have c6:¬ ((i:Int)=(n:Int)):=by omega
 have hr:(q:Int)<(n:Int)+1:=by omega
 have c3:i<=n:=by omega
 have c7:=zC hb;have c8:=zC hg;have J:(o.drop (i*10)).length=(n-i)*10:=by rw[List.length_drop,a7,<-Nat.sub_mul]
 have a2:∀ j v,o[j]?=some v->X[j]?=some v:=fun j v h=>by
  have I:=(List.getElem?_eq_some_iff.1 h).1;rw[<-b6,List.getElem?_take_of_lt (by omega)]at h;rw[<-Array.getElem?_toList];exact h
 have b0:(o.take (i*10)).length=i*10:=by rw[List.length_take,a7];omega
 have R:(Builtin.firstCells i0.size i (.slice (some ⟨g,0,none⟩) i q)).run Tryz.prog w.drew=.ok (o.take (i*10)).toArray w.drew:=by
  rw[b9];exact run_firstCells_some (P:=Tryz.prog) w.drew 10 i ⟨g,0,none⟩ i q (o.take (i*10)) b0 (fun j v I=>by
   rw[Addr.add_lit,Nat.zero_add];rw[List.getElem?_take]at I;split at I
   ·exact(zB (show w.drew.heap[g]?=_ from hg) j).trans (a2 _ _ I)
   ·cases I)
 have b1:(n:Int)+1-(i:Int)=((n+1-i:Nat):Int):=by omega
 have a3:i+(n+1-i)=n+1:=by omega
 obtain⟨G,hG⟩:∃ G,G=grownCap w (n+1) q 36:=⟨_,rfl⟩
 obtain⟨Z,hZ⟩:∃ Z:Value,Z=.agg #[.int .i64 0,.int .i64 0,.string ByteArray.empty,.string ByteArray.empty,.string ByteArray.empty,.string ByteArray.empty,.string ByteArray.empty,.int .i64 0,.int .i64 0,.slice none 0 0]:=⟨_,rfl⟩
 obtain⟨f,y⟩:∃ f:Array Value,f=(o.take (i*10)).toArray++Builtin.zeroCells Z.cells (n+1-i)++Builtin.zeroCells Z.cells (G-(n+1)):=⟨_,rfl⟩
 have b2:∀ D A,A=(n:Int)+1-(i:Int)->(Builtin.append_ #[46,3] D #[.slice (some ⟨g,0,none⟩) i q,.int .i64 A]).run Tryz.prog w=.ok (.slice (some ⟨w.heap.size,0,none⟩) (n+1) G) (w.drew.alloc (.cells f 36)):=fun D A e=>by
  have h:=Lib.run_append_grow_zeros (P:=Tryz.prog) w 46 3 D 36 i0 _ .i64 .i64 Tryz.underlying46 Tryz.underlying3 b7 b8 (some ⟨g,0,none⟩) i q (o.take (i*10)) R (n+1-i) (by omega) (by omega) (by omega) (by omega) (by rw[a9];omega) (by rw[a9,a3];exact growslice_fits Y (by omega));rw[a3]at h;rw[e,b1,y,hG,hZ];exact h
 have c2:n+1<=G:=by rw[hG];exact grownCap_ge w _ _ _
 have b3:G<=maxLen:=by rw[hG];exact grownCap_le_maxLen w (n+1) q 36 (by unfold maxLen;omega)
 have a4:f.size=G*10:=by
  rw[y,hZ];simp[Builtin.zeroCells,Value.cells,b0];omega
 have b4:f.toList.take (i*10)=o.take (i*10):=by
  rw[y];simp only[Array.toList_append,List.append_assoc];rw[List.take_append_of_le_length (by omega),List.take_take,Nat.min_self]
 clear y hZ b1 a3 hG R;obtain⟨F,N⟩:∃ F,F=(w.alloc (.cells f 36)).drew:=⟨_,rfl⟩
 have F1:Fr No w F:=by rw[N];exact((Fr.refl No w).alloc _).drew
 have n1:F.heap[w.heap.size]?=some (.cells f 36):=by rw[N];exact zD w.drew _
 have a5:d.vals.toList.length=10:=rfl;have U:∀ D A dc,A=n+1-i->(Builtin.copy_ #[46,46] D #[.slice (some ⟨w.heap.size,i*10,none⟩) A dc,.slice (some ⟨b,0,none⟩) 1 1]).run Tryz.prog F=.ok (goInt (1:Nat)) (F.setRow w.heap.size (splice f.toList (i*10) d.vals.toList).toArray):=fun D A dc e1=>
  zA8 F 46 46 D 36 10 w.heap.size (i*10) A dc ⟨b,0,none⟩ 1 1 f 36 d.vals.toList Tryz.underlying46 zDE n1 1 (by subst e1;simp only[Nat.min_def];split<;>omega) rfl
   (fun j v I=>by rw[Addr.add_lit,zB (F1.heap hb id)];simpa using I) (by rw[a5,a4];omega) (zAR d)
 have n2:=setRow_heap F w.heap.size f (splice f.toList (i*10) d.vals.toList).toArray 36 (0,0) n1;have f2:=Fr.setRow (S:=Is w.heap.size) F w.heap.size (splice f.toList (i*10) d.vals.toList).toArray rfl;have a6:(splice f.toList (i*10) d.vals.toList).length=G*10:=(length_splice _ _ _ (by rw[a5,Array.length_toList];omega)).trans (Array.length_toList.trans a4);have hF:Hid ((splice (splice f.toList (i*10) d.vals.toList) ((i+1)*10) (o.drop (i*10))).take ((n+1)*10)=o.take (i*10)++(d.vals.toList++o.drop (i*10))):=by
  unfold Hid;rw[show (n+1)*10=i*10+(n-i)*10+10 by omega,zFT (L:=f.toList) (cs:=o.drop (i*10)) (d:=d.vals.toList) (i:=i) (n:=(n-i)*10) (z:=10) a5 J (by rw[Array.length_toList];omega),b4]
 have F2:Fr No w (F.setRow w.heap.size (splice f.toList (i*10) d.vals.toList).toArray):=F1.step f2 (fun b hb h=>by unfold Is at h;omega);generalize (F.setRow w.heap.size (splice f.toList (i*10) d.vals.toList).toArray)=W2 at *;generalize splice f.toList (i*10) d.vals.toList=row2 at *;have V:∀ (W:World),Fr No W2 W->∀ D A dc sl sc,A=n-i->sl=n-i->(Builtin.copy_ #[46,46] D #[.slice (some ⟨w.heap.size,(i+1)*10,none⟩) A dc,.slice (some ⟨g,i*10,none⟩) sl sc]).run Tryz.prog W=.ok (goInt (n-i:Nat)) (W.setRow w.heap.size (splice row2 ((i+1)*10) (o.drop (i*10))).toArray):=fun W hW D A dc sl sc e1 e2=>
  zA8 W 46 46 D 36 10 w.heap.size ((i+1)*10) A dc ⟨g,i*10,none⟩ sl sc row2.toArray 36 (o.drop (i*10)) Tryz.underlying46 zDE (hW.heap n2 id) (n-i) (by simp only[Nat.min_def];split<;>omega) J
   (fun j v I=>by
    rw[List.getElem?_drop]at I;rw[Addr.add_lit,zB (hW.heap (F2.heap hg id) id)];exact a2 _ v I)
   (by rw[J,List.size_toArray,a6];omega) (fun v hv=>a8 v (List.mem_of_mem_drop hv))
 have HN:=zh (And.intro n2 (And.intro F2 a6));clear n1 n2 f2 F1 F2 a6 b4 a4 a2 a8
 go_enter Tryz.func82,Tryz.ntmps82
 go_upto_region 10 with(at_builtin;refine Lib.wpList_append_run _ rfl _ _ _ _ rfl _ _ rfl rfl _ _ (b2 _ _ (by omega)) ?_)
 rw[<-N];clear N b2
 go_upto_region 11 with(at_builtin;refine wpList_copy_runI _ rfl _ _ 46 46 rfl _ _ rfl rfl (U _ _ _ (by omega)) ?_)
 refine zQ (Is w.heap.size) [(0,false),(1,false),(2,false),(3,false),(4,false),(5,false),(6,false),(7,false),(8,true)] (by kernel_rfl) (by kernel_rfl) (fun w3 O=>?_);have h3:=V w3 O;have F3:=HN.out.2.1.step O zi;have n3:=setRow_heap w3 w.heap.size row2.toArray (splice row2 ((i+1)*10) (o.drop (i*10))).toArray 36 (0,0) (O.heap HN.out.1 id);have f3:=Fr.setRow (S:=Is w.heap.size) w3 w.heap.size (splice row2 ((i+1)*10) (o.drop (i*10))).toArray rfl;have b5:(splice row2 ((i+1)*10) (o.drop (i*10))).toArray.size=G*10:=(length_splice _ _ _ (by have:=HN.out.2.2;rw[J];omega)).trans HN.out.2.2;have H3:=zh (And.intro n3 (And.intro f3 (And.intro b5 (F3.step f3 (fun b hb h=>by unfold Is at h;omega)))));clear n3 f3 b5 F3 U V O
 repeat (apply zS rfl rfl rfl;intro K hK;go_big_quiet_op;go_big_quiet_on)
 apply zk;exact rfl
 go_wp2_with (at_builtin;refine wpList_copy_runI _ rfl _ _ 46 46 rfl _ _ rfl rfl (h3 _ _ _ _ _ (by omega) (by omega)) ?_)
 refine zf H3.out.2.1 ?_;refine zY ?_;clear h3;generalize splice row2 ((i+1)*10) (o.drop (i*10))=row3 at *
 go_wp2_with fail
 go_ret;exact⟨G,_,rfl,H3.out.1,hF.out,H3.out.2.2.1,c2,b3,H3.out.2.2.2⟩
theorem zER (f b:Nat)(a:Option Addr)(n o i:Nat)(z:List Value)(d:Dev)(w:World)(q:w.ownsRow f 36 10 (.slice a n o) n z)(A:∀ u∈z,u.oneCell'=true)(U:n<=100000)(hi:i<=n)(I:w.heap[b]?=some (.cells d.vals 36))(v:f<=w.heap.size)(J:∀ V,a=some V->b≠V.block):
  Calls Tryz.prog 82 #[.slice a n o,.int .i64 (i:Int),.slice (some ⟨b,0,none⟩) 1 1] w fun e w'=>(∃ F c',e=.returned (.slice F (n+1) c')/\w'.ownsRow f 36 10 (.slice F (n+1) c') (n+1) (z.take (i*10)++(d.vals.toList++z.drop (i*10))))/\Fr (fun b=>(Value.slice a n o).ownBlock=some b) w w':=by
 by_cases he:i=n
 ·subst he;refine(zDY f b a i o z d w q U I v).mono ?_;rintro e w' ⟨⟨F,c',rfl,h⟩,C⟩;refine⟨⟨F,c',rfl,?_⟩,C⟩;rw[List.take_of_length_le (by rw[q.1];omega),List.drop_of_length_le (by rw[q.1];omega),List.append_nil];exact h
 ·have L:=q.1;have X:(z.take (i*10)++(d.vals.toList++z.drop (i*10))).length=(n+1)*10:=by
   rw[List.length_append,List.length_append,List.length_take,List.length_drop,L,show d.vals.toList.length=10 from rfl];omega
  obtain⟨_,⟨_,h2⟩ | ⟨g,c,D,h1,hg,Y,h3,Z,h5,h6⟩⟩:=q
  ·omega
  ·cases h1;by_cases hr:n+1<=o
   ·refine(zDF f g b o n i D z d w Y h6 L A h5 hr Z (by omega) I (J _ rfl)).mono ?_;rintro e w' ⟨rfl,⟨y,N,O,R⟩,C⟩;exact⟨⟨_,_,rfl,X,.inr ⟨g,o,y,rfl,hg,N,hr,Z,R,O⟩⟩,C.mono (fun b _ h=>by unfold Is at h;rw[h];rfl)⟩
   ·refine(zDG g b o n i D z d w Y h6 L A h3 (by omega) U (by omega) I).mono ?_;rintro e w' ⟨G,y,rfl,N,O,R,k4,k5,C⟩;exact⟨⟨_,_,rfl,X,.inr ⟨_,G,y,rfl,v,N,k4,k5,R,O⟩⟩,C.mono (fun b _ h=>h.elim)⟩
def rngB (d:Dev):Bool:=decide (1<=d.index)&&decide (d.index<=1073741824)&&(decide (0<=d.parent)&&decide (d.parent<=1073741824))&&!(d.parent==d.index)
structure Sound (d:Dev)(l:List (ByteArray×ByteArray)):Prop where
 rng:rngB d=true
 named:namedB d=true
 same:(d.name.toList==d.orig.toList)=true
 num:(decide (1<=d.num)&&decide (d.num<=1073741824))=true
 attrs:l.all attrOk=true
 link:zEN (nodeOf d.orig)=true
theorem Sound.orig {d:Dev}{l:List (ByteArray×ByteArray)}(h:Sound d l):isName d.orig=true:=by
 have:=h.named;unfold namedB at this;simp only[Bool.and_eq_true]at this;exact this.1.1.2
theorem Sound.oklen {d:Dev}{l:List (ByteArray×ByteArray)}(h:Sound d l):d.orig.size<=32:=(zE6 h.orig).1
theorem zHR (d:Dev)(l:List (ByteArray×ByteArray))(m:Int)(w:World)(hs:Sized d)(hl:Atts w d.aa d.ac l)(h1:l.length<=1)(o:d.an=l.length)(hk:d.kind=2)(hd:d.drv=⟨#[]⟩)(f:Sound d l)(hm:w.cell? ⟨0,0,none⟩=some (.int .i64 m))(h0:0<w.heap.size):
  Calls Tryz.prog 79 #[.agg d.vals] w fun e w'=>e=.returned (.int .i64 0)/\Fr No w w':=by
 obtain⟨W0,h⟩:∃ W0,W0=w.alloc (.cells d.vals 36):=⟨_,rfl⟩
 have hx:Fr No w W0:=by rw[h];exact(Fr.refl _ _).alloc _
 have q0:W0.heap[w.heap.size]?=some (.cells d.vals 36):=by rw[h];exact zD _ _
 have a4:=f.oklen;have K1:=zh (fun W=>zLN d W hs hd);have K2:=zh (fun W=>zLO d W hk);have K3:=zh (fun W=>zIh d W hk);have K4:=zh (fun (W:World) (J:Fr No w W)=>zET d.aa d.ac l W (hl.no J (fun _=>id)) h1);have K5:=zh (fun (W:World) (J:Fr No w W)=>zIi d m W (by omega) (J.cell hm id) (Nat.lt_of_lt_of_le h0 J.size));have K6:=zh (fun (W:World) (J:Fr No w W)=>zLw (nodeOf d.orig) m W (zC3 _ (by omega)) (J.cell hm id) (Nat.lt_of_lt_of_le h0 J.size));have L:numK d.kind=true:=by rw[hk];rfl
 have O:nodeR d=nodeOf d.orig:=by unfold nodeR;rw[L];rfl
 rw[O,L]at K5;rw[f.named]at K1;rw[f.same]at K2;rw[f.num]at K3;rw[f.attrs]at K4;rw[f.link]at K6;have N:=f.rng;unfold rngB at N;simp only[Bool.and_eq_true]at N;have R:(decide (1<=d.index)&&decide (d.index<=1073741824))=true:=by simp only[Bool.and_eq_true];exact N.1.1
 have U:(decide (0<=d.parent)&&decide (d.parent<=1073741824))=true:=by simp only[Bool.and_eq_true];exact N.1.2
 have a5:(d.parent==d.index)=false:=by simpa using N.2
 have K7:=zh (fun W=>zES d.index 1 1073741824 W);have K8:=zh (fun W=>zES d.parent 0 1073741824 W);rw[R]at K7;rw[U]at K8;have a6:=hl.lenmax;have a7:¬ (24:Int)<l.length:=by omega
 generalize nodeOf d.orig=nd at *;obtain⟨q,u,v,y,z,A,C,D,F,g⟩:=DevB.of q0;have I:=zh o;rw[o]at g;unfold Dev.vals at h K1 K2 K3 K5 ⊢;rw[o]at h K1 K2 K3 K5 ⊢;clear N R U f L O hm hl hs hk hd o
 go_enter Tryz.func79,Tryz.ntmps79
 go_upto_region 1 with(fail)
 rw[<-h];clear h
 go_wp2_with fail
 refine(K7.out _).mono ?_;rintro e w1 ⟨rfl,rfl⟩
 go_wp2_with fail
 refine(K8.out _).mono ?_;rintro e w1 ⟨rfl,rfl⟩
 go_wp2_with fail
 refine(K1.out _).mono ?_;rintro e w1 ⟨rfl,V⟩;have q1:=V.heap q0 id;have x1:=hx.step V zi;clear q u v y z A C D F g q0;obtain⟨q,u,v,y,z,A,C,D,F,g⟩:=DevB.of q1;rw[I.out]at g
 go_wp2_with fail
 refine(K2.out _).mono ?_;rintro e w2 ⟨rfl,X⟩;have q2:=X.heap q1 id;have x2:=x1.step X zi;clear q u v y z A C D F g q1;obtain⟨q,u,v,y,z,A,C,D,F,g⟩:=DevB.of q2;rw[I.out]at g
 go_wp2_with fail
 refine(K3.out _).mono ?_;rintro e w3 ⟨rfl,Y⟩;have q3:=Y.heap q2 id;have x3:=x2.step Y zi;clear q u v y z A C D F g q2;obtain⟨q,u,v,y,z,A,C,D,F,g⟩:=DevB.of q3;rw[I.out]at g
 go_wp2_with fail
 refine(K4.out _ x3).mono ?_;rintro e w4 ⟨rfl,Z⟩;have q4:=Z.heap q3 id;have x4:=x3.step Z zi;clear q u v y z A C D F g q3;obtain⟨q,u,v,y,z,A,C,D,F,g⟩:=DevB.of q4;rw[I.out]at g
 go_wp2_with fail
 refine(K5.out _ x4).mono ?_;rintro e w5 ⟨rfl,a2⟩;have q5:=a2.heap q4 id;have x5:=x4.step a2 zi;clear q u v y z A C D F g q4
 go_wp2_with fail
 refine(K6.out _ x5).mono ?_;rintro e w6 ⟨rfl,a3⟩;have x6:=x5.step a3 zi
 go_wp2_with fail
 go_ret;exact⟨rfl,x6⟩
end Go.Proofs.YtinfjnndbfahhaaGreatDoor
