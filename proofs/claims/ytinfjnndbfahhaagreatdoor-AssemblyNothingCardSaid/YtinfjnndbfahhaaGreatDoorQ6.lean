import Derived.Test.YtinfjnndbfahhaaGreatDoorQ5
import Derived.Lib.SliceRun
namespace Go.Proofs.YtinfjnndbfahhaaGreatDoor
open Go.RowKit Go.Maps
set_option linter.unusedVariables false
set_option maxRecDepth 100000
set_option maxHeartbeats 2000000
theorem zA5 (a:Option Addr)(f:Nat)(ds:List Dev)(n:Int)(w:World)(A:Devs w a f ds)(o:TreeOk ds)(C:ds.length<=1000)(D:(Lit.int .i64 n).wf=true):
  Calls Tryz.prog 59 #[.agg #[.slice a ds.length f],.int .i64 n] w fun e w'=>e=.returned (.tuple #[.string (((look ds n).map fun _=>pathOf (origin ds n)).getD ⟨#[]⟩),.bool (look ds n).isSome])/\Fr No w w':=by
 have q:Fr No w (w.alloc (.cells #[.slice a ds.length f] 48)):=(Fr.refl _ _).alloc _;have u:ogs ds n=(look ds n).map fun _=>pathOf (origin ds n):=by
  have:=zGH o ds.length (Nat.le_refl _) n;rw[List.take_of_length_le (Nat.le_refl _)]at this;exact this
 have F:∀ (y g:Nat) (W:World),(Instr.field 115 (.agg #[.slice a ds.length f,.map (some y),.map (some g)]) 2).run Tryz.prog W=.ok (.map (some g)) W:=fun _ _ _=>by kernel_rfl
 have I:=zh u;have z:=zh q;clear u q
 go_enter Tryz.func59,Tryz.ntmps59
 go_wp2_with fail
 refine(zBs a f ds _ (A.no z.out (fun _=>id)) o C).mono ?_;rintro e L ⟨⟨y,g,rfl,_,_,_,_,J⟩,h⟩
 go_wp2_with (at_lookup;refine zDb rfl _ _ 113 rfl rfl g _ _ n D rfl J rfl ?_)
 refine bodyPost_ret (v:=.tuple #[.string ((ogs ds n).getD ⟨#[]⟩),.bool (ogs ds n).isSome]) (by simp[results,Tryz.results59,go_sem]) rfl ?_;refine⟨?_,z.out.step h zi⟩;rw[I.out];cases look ds n<;>rfl
def VAt (w:World)(m1 m2:Nat)(ds:List Dev):Prop:=IMap w m1 (plcs ds ds.length) ds.length/\SMap w m2 (ogs ds) ds.length
theorem VAt.fr {S:Nat->Prop}{w w':World}{f g:Nat}{ds:List Dev}(h:VAt w f g ds)(o:Fr S w w')(q:¬ S f)(u:¬ S g):VAt w' f g ds:=⟨h.1.fr o q,h.2.fr o u⟩
theorem zJS (ds:List Dev)(n:Int):plcs ds ds.length n=(look ds n).map fun _=>place ds n:=by unfold plcs;rw[List.take_of_length_le (Nat.le_refl _)]
def FindIs (ds:List Dev)(n:Int)(e:Ending):Prop:=(look ds n=none/\e=.returned (.tuple #[.agg Dev.zero.vals,.bool false]))\/∃ d,look ds n=some d/\e=.returned (.tuple #[.agg d.vals,.bool true])
theorem zEg (a:Option Addr)(f:Nat)(ds:List Dev)(q y:Nat)(n:Int)(w:World)(D:Devs w a f ds)(J:VAt w q y ds)(V:(Lit.int .i64 n).wf=true):
  Calls Tryz.prog 196 #[.agg #[.slice a ds.length f,.map (some q),.map (some y)],.int .i64 n] w fun e w'=>
   FindIs ds n e/\Fr No w w':=by
 have hm:=D.lenmax;have z:Fr No w ((w.alloc (.cells #[.slice a ds.length f,.map (some q),.map (some y)] 115)).alloc (.cells #[.int .i64 0,.int .i64 0,.string ⟨#[]⟩,.string ⟨#[]⟩,.string ⟨#[]⟩,.string ⟨#[]⟩,.string ⟨#[]⟩,.int .i64 0,.int .i64 0,.slice none 0 0] 36)):=((Fr.refl _ _).alloc _).alloc _;have L:=zI w (.cells #[.slice a ds.length f,.map (some q),.map (some y)] 115) (.cells #[.int .i64 0,.int .i64 0,.string ⟨#[]⟩,.string ⟨#[]⟩,.string ⟨#[]⟩,.string ⟨#[]⟩,.string ⟨#[]⟩,.int .i64 0,.int .i64 0,.slice none 0 0] 36);have A:=zL w (.cells #[.slice a ds.length f,.map (some q),.map (some y)] 115) (.cells #[.int .i64 0,.int .i64 0,.string ⟨#[]⟩,.string ⟨#[]⟩,.string ⟨#[]⟩,.string ⟨#[]⟩,.string ⟨#[]⟩,.int .i64 0,.int .i64 0,.slice none 0 0] 36)
 go_enter Tryz.func196,Tryz.ntmps196
 go_upto_region 1 with(fail)
 generalize (w.alloc (.cells #[.slice a ds.length f,.map (some q),.map (some y)] 115)).alloc (.cells #[.int .i64 0,.int .i64 0,.string ⟨#[]⟩,.string ⟨#[]⟩,.string ⟨#[]⟩,.string ⟨#[]⟩,.string ⟨#[]⟩,.int .i64 0,.int .i64 0,.slice none 0 0] 36)=w2 at *;obtain⟨t0,t1⟩:=cl2 L;obtain⟨X,Y,Z,z3,z4,z5,z6,z7,z8,z9⟩:=cl10 A;obtain⟨y0,y1,y2,y3,y4,y5,y6,y7,y8,y9⟩:=fl10 A;have hI:=J.1.fr z id;have u:=D.no z (fun _=>id);have F:=zJS ds n;rcases zAa ds n with⟨o,I⟩ | ⟨k,d,o,I,N⟩
 ·have O:plcs ds ds.length n=none:=by rw[F,o];rfl
  have g:=zBF A rfl Dev.zero;have h:=zh (And.intro o (z.step g.2 (fun b hb e=>by unfold Is at e;omega)));have C:look ds n=none:=o;clear g A L F I z o J D u;have R:=zh C;clear C
  go_wp2_with (at_lookup;refine zDd rfl _ _ 112 rfl rfl q _ _ n V rfl hI rfl ?_;rw[O];simp only[Option.getD_none,Option.isSome_none])
  refine bodyPost_ret (v:=.tuple #[.agg Dev.zero.vals,.bool false]) (by simp[results,Tryz.results196,go_sem,Dev.vals,Dev.zero,X,Y,Z,z3,z4,z5,z6,z7,z8,z9];try rfl) rfl ?_;exact⟨.inl ⟨R.out,rfl⟩,h.out.2⟩
 ·have O:plcs ds ds.length n=some (k:Int):=by rw[F,o,I];rfl
  have U:k<ds.length:=(List.getElem?_eq_some_iff.1 N).1;have a2:(k:Int)<ds.length:=by omega
  obtain⟨bb,a3,d',rfl,hd,c0,c1,c2,c3,c4,c5,c6,c7,c8,c9⟩:=u.dev U;rw[N]at hd;cases hd;have g:=zBF A rfl d;have h:=zh (And.intro o (z.step g.2 (fun b hb e=>by unfold Is at e;omega)));have R:=zh o;clear g A L F I N z o J D u
  go_wp2_with (at_lookup;refine zDd rfl _ _ 112 rfl rfl q _ _ n V rfl hI rfl ?_;rw[O];simp only[Option.getD_some,Option.isSome_some])
  refine bodyPost_ret (v:=.tuple #[.agg d.vals,.bool true]) (by simp[results,Tryz.results196,go_sem,Dev.vals,X,Y,Z,z3,z4,z5,z6,z7,z8,z9]) rfl ?_;exact⟨.inr ⟨d,R.out,rfl⟩,h.out.2⟩
theorem zKc (u v x:Value)(n:Int)(w:World):
  Calls Tryz.prog 142 #[.agg #[u,v,x],.int .i64 n] w fun e w'=>e=.returned (.func (.func 195) #[] #[.pointer (some ⟨w.heap.size,0,none⟩),.pointer (some ⟨w.heap.size+1,0,none⟩)])/\w'=(w.alloc (.cells #[u,v,x] 115)).alloc (.cells #[.int .i64 n] 3):=by
 go_enter Tryz.func142,Tryz.ntmps142
 go_wp2_with fail
 go_ret;exact⟨rfl,rfl⟩
theorem zDp : ∀ (l:List ByteArray) (s:ByteArray),(l.foldl (fun s x=>s++⟨#[47]⟩++x) s).data.toList=s.data.toList++Lib.joinTail [47] (l.map (·.data.toList))
 | [],s=>by simp[Lib.joinTail]
 | x::t,s=>by
  rw[List.foldl_cons,zDp t];simp[Lib.joinTail]
theorem zBW (l:List ByteArray):(pathOf l).data.toList=Lib.joinTail [47] (l.map (·.data.toList)):=by
 unfold pathOf;rw[zDp];rfl
theorem zH0 {l:List ByteArray}(h:l≠[]):(⟨#[47]⟩:ByteArray)++⟨(Lib.join (l.map (·.data.toList)) [47]).toArray⟩=pathOf l:=by
 refine zCf ?_;rw[zBW];cases l with
 | nil=>exact absurd rfl h
 | cons x t=>simp[Lib.join_cons,Lib.joinTail]
theorem zHm : ∀ (l:List ByteArray),(∀ x∈l,x.size<=32)->(Lib.joinTail [47] (l.map (·.data.toList))).length<=33*l.length
 | [],_=>by simp[Lib.joinTail]
 | x::t,h=>by
  have f:=zHm t (fun y g=>h y (List.mem_cons_of_mem _ g));have o:=h x (List.mem_cons_self ..);have q:x.data.toList.length=x.size:=by simp
  simp only[Lib.joinTail,List.map_cons,List.flatten_cons,List.length_append,List.length_cons,List.length_nil,List.map_map]at f ⊢;omega
theorem zLD {l:List ByteArray}(h:∀ x∈l,x.size<=32):(Lib.join (l.map (·.data.toList)) [47]).length<=33*l.length:=by
 cases l with
 | nil=>simp[Lib.join,List.intercalate]
 | cons x t=>
  have:=zHm (x::t) h;simp only[List.map_cons,Lib.join_cons,Lib.joinTail,List.flatten_cons,List.length_append,List.length_cons,List.length_nil]at this ⊢;omega
theorem zJO (a:Option Addr)(f:Nat)(l:List ByteArray)(w:World)(q:Strs w a f l)(g:l≠[])(z:∀ x∈l,x.size<=32)(L:l.length<=1000000):
  Calls Tryz.prog 64 #[.slice a l.length f] w fun e w'=>e=.returned (.string (pathOf l))/\Fr No w w':=by
 have N:l.length≠0:=fun h=>g (List.eq_nil_of_length_eq_zero h)
 obtain⟨b,u,x,rfl,_,_⟩:=q.at (k:=0) (by omega);obtain⟨_,A,C⟩:=q.cell _ rfl g;have O:=zLD z;have o:=q.len;have D:=zh (zH0 g)
 go_enter Tryz.func64,Tryz.ntmps64
 go_wp2_with fail
 refine(Tryz.strings_Join b u f l ⟨#[47]⟩ _ (fun j x F=>C j x F) A (by omega) o (by show (Lib.join _ [47]).length<=_;omega)).mono ?_;rintro e R ⟨rfl,I⟩;have v:=Fr.of_below_size I;have J:(Lib.join (l.map (·.data.toList)) [47]).length<=33000000:=by omega
 have y:(⟨#[47]⟩:ByteArray).data.toList=[47]:=rfl;rw[y]
 go_wp2_with fail
 go_ret;refine⟨?_,v⟩;rw[<-D.out];rfl
theorem zIA {ds:List Dev}(g:TreeOk ds)(n:Int):∀ x∈origin ds n,x.size<=32:=by
 intro x f;unfold origin at f;rw[List.mem_reverse]at f;obtain⟨d,h,rfl⟩:=List.mem_map.1 f;exact g.sz d (zFG h)
theorem zEw (a:Option Addr)(g:Nat)(ds:List Dev)(n:Int)(w:World)(F:Devs w a g ds)(J:TreeOk ds)(L:ds.length<=1000000):
  Calls Tryz.prog 28 #[.agg #[.slice a ds.length g],.int .i64 n] w fun e w'=>e=.returned (.string (pathOf (origin ds n)))/\Fr No w w':=by
 have A:Fr No w (w.alloc (.cells #[.slice a ds.length g] 48)):=(Fr.refl _ _).alloc _;have u:=F.no A (fun _=>id);have y:(origin ds n).length<=1000000:=by unfold origin;simp;have:=zB3 ds n;omega
 have N:=zh (zIA J n)
 go_enter Tryz.func28,Tryz.ntmps28
 go_wp2_with fail
 refine(zHA a g ds n _ u L).mono ?_;rintro e X ⟨⟨v,rfl,h⟩,C⟩;obtain⟨O,R,rfl,I,z⟩:=Strs.of_own h;have o:=A.step C zi;clear h A u F;by_cases f:origin ds n=[]
 ·have q:=zh f;have U:(origin ds n).length=0:=by rw[f];rfl
  clear f y I
  go_wp2_with fail
  go_ret;refine⟨?_,o⟩;rw[q.out];rfl
 ·have U:0<(origin ds n).length:=List.length_pos_iff.2 f;have V:(0:Int)<(origin ds n).length:=by omega
  have q:=zh f;clear f
  go_wp2_with fail
  refine(zJO O R (origin ds n) _ I q.out N.out y).mono ?_;rintro e Y ⟨rfl,D⟩
  go_wp2_with fail
  go_ret;exact⟨rfl,o.step D zi⟩
theorem zLL (d:Dev)(b:Nat)(n:Int)(w:World)(f:w.cell? ⟨b,0,none⟩=some (.int .i64 n)):
  Calls Tryz.prog 88 #[.agg d.vals,.pointer (some ⟨b,0,none⟩)] w fun e w'=>e=.returned (.bool (d.index==n))/\Fr No w w':=by
 have g:Fr No w (w.alloc (.cells d.vals 36)):=(Fr.refl _ _).alloc _;have h:=g.cell f id;clear f;unfold Dev.vals at *
 go_enter Tryz.func88,Tryz.ntmps88
 go_wp2_with fail
 go_ret;exact⟨rfl,g⟩
theorem zHN (a:Option Addr)(v:Nat)(ds:List Dev)(b:Nat)(n:Int)(w:World)(C:Devs w a v ds)(L:w.cell? ⟨b,0,none⟩=some (.int .i64 n)):
  Calls Tryz.prog 76 #[.slice a ds.length v,.func (.func 88) #[] #[.pointer (some ⟨b,0,none⟩)]] w fun e w'=>e=.returned (.int .i64 (place ds n))/\Fr No w w':=by
 have hm:=C.lenmax
 go_enter Tryz.func76,Tryz.ntmps76
 go_wp2_with fail
 go_loopw [8] (fun i wr=>∃ k:Nat,k<=ds.length/\i=.int .i64 k/\Hid (∀ x∈ds.take k,x.index≠n)/\Fr No w wr) (fun i _=>ds.length-(intOf i).toNat)
 case atStart=>exact⟨0,by omega,rfl,by unfold Hid;simp,Fr.refl _ _⟩
 case round=>
  obtain⟨k,hk,rfl,q,g⟩:=hrel;by_cases y:k<ds.length
  ·have D:(k:Int)<ds.length:=by omega
   obtain⟨bb,N,d,rfl,F,O,R,U,V,X,Y,Z,c7,c8,c9⟩:=(C.no g (fun _=>id)).dev y;have I:=zh F;clear F
   go_wp2_with fail
   refine(zLL d b n _ (g.cell L id)).mono ?_;rintro e w1 ⟨rfl,z⟩;have o:=g.step z zi;clear O R U V X Y Z c7 c8 c9;by_cases f:d.index=n
   ·have A:(d.index==n)=true:=by simpa using f
    have u:=zh f;clear f
    go_wp2_with fail
    go_ret;exact⟨zAp (zCH ds n k d I.out u.out q.out).symm,o⟩
   ·have A:(d.index==n)=false:=by simpa using f
    have u:=zh f;clear f
    go_wp2_with fail
    go_roundw
    case rel=>
     refine⟨k+1,by omega,by go_num,?_,o⟩;unfold Hid;intro x J;rw[List.take_add_one,I.out]at J;rcases List.mem_append.1 J with h | h
     ·exact q.out x h
     ·simp at h;subst h;exact u.out
    case measure=>simp[intOf];omega
  ·obtain rfl:k=ds.length:=by omega
   have h:=q.out;rw[List.take_of_length_le (by omega)]at h;have Hp:Hid (place ds n=-1):=zCI _ _ h;clear h
   go_wp2_with fail
   go_ret;exact⟨zAp Hp.out.symm,g⟩
theorem zEQ (W:World)(a:Option Addr)(n c:Nat):(binOp .eql 34 (.slice a n c) (.slice none 0 0)).run Tryz.prog W=.ok (.bool a.isNone) W:=Lib.run_eql_slice_nil W 34 76 a n c 0 0 Tryz.underlying34
theorem infoA : (Tryz.prog.info? 76).map (fun i=>(i.zero,i.size,i.bytes))=some (some (.agg #[.string ByteArray.empty,.string ByteArray.empty]),2,32):=by kernel_rfl
def aflat (l:List (ByteArray×ByteArray)):List Value:=l.flatMap (fun x=>[.string x.1,.string x.2])
theorem zDT (l:List (ByteArray×ByteArray)):(aflat l).length=l.length*2:=by
 induction l with
 | nil=>rfl
 | cons d t f=>
  have:aflat (d::t)=[.string d.1,.string d.2]++aflat t:=by simp[aflat]
  rw[this,List.length_append,f];simp;omega
theorem zEa : ∀ (l:List (ByteArray×ByteArray)) (i:Nat) (x:ByteArray×ByteArray),l[i]?=some x->(aflat l)[i*2]?=some (.string x.1)/\(aflat l)[i*2+1]?=some (.string x.2)
 | [],i,d,h=>by simp at h
 | y::t,0,x,h=>by
  simp at h;subst h;exact⟨rfl,rfl⟩
 | y::t,i+1,x,h=>by
  have e:aflat (y::t)=.string y.1::.string y.2::aflat t:=by simp[aflat]
  have f:=zEa t i x (by simpa using h);rw[e,show (i+1)*2=i*2+1+1 from by omega];exact f
theorem zI7 (l:List (ByteArray×ByteArray))(j:Nat)(u:Value)(h:(aflat l)[j]?=some u):∃ i x,l[i]?=some x/\((j=i*2/\u=.string x.1)\/(j=i*2+1/\u=.string x.2)):=by
 have f:j<(aflat l).length:=(List.getElem?_eq_some_iff.1 h).1;rw[zDT]at f;have g:j / 2<l.length:=by omega
 have o:=zEa l (j / 2) l[j / 2] (List.getElem?_eq_getElem g);refine⟨j / 2,l[j / 2],List.getElem?_eq_getElem g,?_⟩;rcases(by omega:j=j / 2*2\/j=j / 2*2+1)with e | e
 ·left;refine⟨e,?_⟩;rw[e,o.1]at h;exact(Option.some.inj h).symm
 ·right;refine⟨e,?_⟩;rw[e,o.2]at h;exact(Option.some.inj h).symm
theorem zFK (l:List (ByteArray×ByteArray)):∀ u∈aflat l,u.oneCell'=true:=by
 intro u f;obtain⟨x,_,f⟩:=List.mem_flatMap.1 f;simp at f;rcases f with rfl | rfl<;>rfl
theorem Atts.src {W:World}{a:Option Addr}{g:Nat}{l:List (ByteArray×ByteArray)}(h:Atts W a g l):∀ f,a=some f->∀ j u,(aflat l)[j]?=some u->W.cell? (f.add j)=some u:=by
 intro f e j u z;obtain⟨i,x,q,A⟩:=zI7 _ _ _ z;obtain⟨v,_,C⟩:=h.cell f e (by intro e;subst e;simp at q);obtain⟨b,o,D⟩:=f;simp only at v;subst v;have y:=C i x q;rw[Addr.add_lit];rcases A with⟨rfl,rfl⟩ | ⟨rfl,rfl⟩
 ·exact y.1
 ·exact y.2
theorem Atts.of_own {w:World}{o:Nat}{e:TypeId}{v:Value}{l:List (ByteArray×ByteArray)}(h:w.ownsRow o e 2 v l.length (aflat l))(D:∀ x∈l,x.1.size<=maxLen/\x.2.size<=maxLen):
  ∃ a f,v=.slice a l.length f/\Atts w a f l/\∀ q,a=some q->o<=q.block:=by
 obtain⟨_,⟨rfl,u⟩ | ⟨g,f,y,rfl,F,z,I,u,U,J⟩⟩:=h
 ·have:l=[]:=List.eq_nil_of_length_eq_zero u;subst this;exact⟨none,0,rfl,Atts.nil w,fun _ e=>by cases e⟩
 ·refine⟨some ⟨g,0,none⟩,f,rfl,⟨I,u,(fun e=>by cases e),D,?_⟩,fun q e=>by cases e;exact F⟩;intro q e L;cases e;refine⟨rfl,zC z,fun i x A=>?_⟩;have N:i<l.length:=(List.getElem?_eq_some_iff.1 A).1;have O:=zEa l i x A;rw[zB z,zB z];simp only[Nat.zero_add];rw[<-Array.getElem?_toList,<-Array.getElem?_toList];have C:∀ j,j<l.length*2->y.toList[j]?=(aflat l)[j]?:=fun j R=>by
   rw[<-J,List.getElem?_take_of_lt R]
  rw[C _ (by omega),C _ (by omega)];exact O
theorem zFv (a:Option Addr)(o:Nat)(l:List (ByteArray×ByteArray))(w:World)(v:Atts w a o l)(I:l.length<=1000000):
  Calls Tryz.prog 25 #[.slice a l.length o] w fun e w'=>(∃ q c',e=.returned (.slice q l.length c')/\Atts w' q c' l/\∀ u,q=some u->w.heap.size<=u.block)/\Fr No w w':=by
 obtain⟨J,L,y,z,A⟩:=info_parts infoA;cases a with
 | none=>
  obtain⟨rfl,rfl⟩:=v.isNil rfl;have N:=zEQ
  go_enter Tryz.func25,Tryz.ntmps25
  go_wp2_with fail
  go_ret;exact⟨⟨none,0,rfl,Atts.nil _,fun _ e=>by cases e⟩,Fr.refl _ _⟩
 | some u=>
  have O:Fr No w (w.alloc (.cells #[] 76)):=(Fr.refl _ _).alloc _;have C:=v.no O (fun _=>id);have N:=zEQ
  go_enter Tryz.func25,Tryz.ntmps25
  have f:(w.alloc (.cells #[] 76)).ownsRow w.heap.size 76 2 (.slice (some ⟨w.heap.size,0,none⟩) 0 0) 0 []:=
   ⟨rfl,.inr ⟨w.heap.size,0,#[],rfl,Nat.le_refl _,zD _ _,Nat.le_refl _,by unfold maxLen;omega,rfl,rfl⟩⟩
  go_wp2_with (at_builtin;refine zy rfl _ _ 34 rfl w.heap.size 76 J (.agg #[.string ByteArray.empty,.string ByteArray.empty]) 2 32 Tryz.underlying34 L y z A rfl (by decide) _ 0 [] rfl f (some u) l.length _ (aflat l) rfl (fun e=>by cases e) (zDT l) (fun D e=>C.src D e) (zFK l) (by unfold maxLen;omega) (by omega) (by simp) ?_;intro X Y g F)
  go_ret;simp only[Nat.zero_add,List.nil_append]at g;obtain⟨q,c',R,U,V⟩:=Atts.of_own g v.wf;exact⟨⟨q,c',by rw[<-R];rfl,U,V⟩,((Fr.refl No w).alloc _).step (zGG f F) (fun b I h=>by unfold From at h;omega)⟩
theorem zDq (d:Dev)(l:List (ByteArray×ByteArray))(w:World)(hl:Atts w d.aa d.ac l)(O:d.an=l.length)(Z:l.length<=1000000):
  Calls Tryz.prog 84 #[.agg d.vals] w fun e w'=>(∃ g c',e=.returned (.agg ({ d with aa:=g,ac:=c' }:Dev).vals)/\Atts w' g c' l/\∀ q,g=some q->w.heap.size<=q.block)/\Fr No w w':=by
 obtain⟨u,y,nm,z,A,C,D,F,I,aa,an,ac⟩:=d;dsimp only at O hl;subst O;have hx:Fr No w ((w.alloc (.cells #[.int .i64 u,.int .i64 y,.string nm,.string z,.string A,.string C,.string D,.int .i64 F,.int .i64 I,.slice aa l.length ac] 36)).alloc (.cells #[.int .i64 0,.int .i64 0,.string ⟨#[]⟩,.string ⟨#[]⟩,.string ⟨#[]⟩,.string ⟨#[]⟩,.string ⟨#[]⟩,.int .i64 0,.int .i64 0,.slice none 0 0] 36)):=((Fr.refl _ _).alloc _).alloc _;have q0:=zI w (.cells #[.int .i64 u,.int .i64 y,.string nm,.string z,.string A,.string C,.string D,.int .i64 F,.int .i64 I,.slice aa l.length ac] 36) (.cells #[.int .i64 0,.int .i64 0,.string ⟨#[]⟩,.string ⟨#[]⟩,.string ⟨#[]⟩,.string ⟨#[]⟩,.string ⟨#[]⟩,.int .i64 0,.int .i64 0,.slice none 0 0] 36);have q1:=zL w (.cells #[.int .i64 u,.int .i64 y,.string nm,.string z,.string A,.string C,.string D,.int .i64 F,.int .i64 I,.slice aa l.length ac] 36) (.cells #[.int .i64 0,.int .i64 0,.string ⟨#[]⟩,.string ⟨#[]⟩,.string ⟨#[]⟩,.string ⟨#[]⟩,.string ⟨#[]⟩,.int .i64 0,.int .i64 0,.slice none 0 0] 36);show Calls Tryz.prog 84 #[.agg #[.int .i64 u,.int .i64 y,.string nm,.string z,.string A,.string C,.string D,.int .i64 F,.int .i64 I,.slice aa l.length ac]] w _
 go_enter Tryz.func84,Tryz.ntmps84
 go_upto_region 1 with(fail)
 have a2:w.heap.size+2<=((w.alloc (.cells #[.int .i64 u,.int .i64 y,.string nm,.string z,.string A,.string C,.string D,.int .i64 F,.int .i64 I,.slice aa l.length ac] 36)).alloc (.cells #[.int .i64 0,.int .i64 0,.string ⟨#[]⟩,.string ⟨#[]⟩,.string ⟨#[]⟩,.string ⟨#[]⟩,.string ⟨#[]⟩,.int .i64 0,.int .i64 0,.slice none 0 0] 36)).heap.size:=by simp
 generalize (w.alloc (.cells #[.int .i64 u,.int .i64 y,.string nm,.string z,.string A,.string C,.string D,.int .i64 F,.int .i64 I,.slice aa l.length ac] 36)).alloc (.cells #[.int .i64 0,.int .i64 0,.string ⟨#[]⟩,.string ⟨#[]⟩,.string ⟨#[]⟩,.string ⟨#[]⟩,.string ⟨#[]⟩,.int .i64 0,.int .i64 0,.slice none 0 0] 36)=W0 at *;have V:W0.cell? ⟨w.heap.size,9,none⟩=some (.slice aa l.length ac):=zB q0 9;have a3:w.heap.size<=W0.heap.size:=hx.size
 go_wp2_with fail
 refine(zFv aa ac l _ (hl.no hx (fun _=>id)) Z).mono ?_;rintro e R ⟨⟨g,c',rfl,hA,f⟩,L⟩;have X:=L.heap q0 id;have p1:=L.heap q1 id;clear V q0 q1;have V:R.cell? ⟨w.heap.size,9,none⟩=some (.slice aa l.length ac):=zB X 9;have f9:R.frozen? ⟨w.heap.size,9,none⟩=false:=zE X 9
 go_upto_region 2 with(fail)
 have o:Fr (Is w.heap.size) R (R.setCell ⟨w.heap.size,9,none⟩ (.slice g l.length c')):=Fr.setAt (Fr.refl _ _) _;have r0:=zF X 9 (.slice g l.length c');have Y:=o.heap p1 (fun e=>by unfold Is at e;omega);have U:=hA.fr o (fun q e _ h=>by have:=f q e;unfold Is at h;omega);clear X p1 V f9;generalize R.setCell ⟨w.heap.size,9,none⟩ (.slice g l.length c')=W1 at *;obtain⟨c0,c1,c2,c3,c4,c5,c6,c7,c8,V⟩:=cl10 r0;obtain⟨z0,z1,z2,z3,z4,z5,z6,z7,z8,z9⟩:=cl10 Y;obtain⟨y0,y1,y2,y3,y4,y5,y6,y7,y8,y9⟩:=fl10 Y;have N:=zBF Y rfl ⟨u,y,nm,z,A,C,D,F,I,g,l.length,c'⟩;have J:Hid _:=And.intro (U.fr N.2 (fun q e _ h=>by have:=f q e;unfold Is at h;omega)) ((((hx.step L zi).step o (fun b Z e=>by unfold Is at e;omega)).step N.2 (fun b Z e=>by unfold Is at e;omega)));clear N U hA r0 Y o
 go_wp2_with fail
 refine bodyPost_ret (v:=.agg #[.int .i64 u,.int .i64 y,.string nm,.string z,.string A,.string C,.string D,.int .i64 F,.int .i64 I,.slice g l.length c']) (by simp[results,Tryz.results84,go_sem,z0,z1,z2,z3,z4,z5,z6,z7,z8,z9]) rfl ?_;exact⟨⟨g,c',rfl,J.out.1,fun q e=>by have:=f q e;omega⟩,J.out.2⟩
def FoundD (w w':World)(ds:List Dev)(n:Int)(e:Ending):Prop:=
 (look ds n=none/\e=.returned (.tuple #[.agg Dev.zero.vals,.bool false]))\/
 ∃ d a' c' l,look ds n=some d/\e=.returned (.tuple #[.agg ({ d with aa:=a',ac:=c' }:Dev).vals,.bool true])/\Atts w' a' c' l/\d.an=l.length/\l.length<=24/\∀ ad,a'=some ad->w.heap.size<=ad.block
theorem zG0 (a:Option Addr)(f:Nat)(ds:List Dev)(b L:Nat)(n:Int)(w:World)(X:Tr w L a f ds)(Y:w.cell? ⟨b,0,none⟩=some (.int .i64 n)):
  Calls Tryz.prog 57 #[.agg #[.slice a ds.length f],.func (.func 88) #[] #[.pointer (some ⟨b,0,none⟩)]] w fun e w'=>FoundD w w' ds n e/\Fr No w w':=by
 have Z:Fr No w ((w.alloc (.cells #[.slice a ds.length f] 48)).alloc (.cells #[.int .i64 0,.int .i64 0,.string ⟨#[]⟩,.string ⟨#[]⟩,.string ⟨#[]⟩,.string ⟨#[]⟩,.string ⟨#[]⟩,.int .i64 0,.int .i64 0,.slice none 0 0] 36)):=((Fr.refl _ _).alloc _).alloc _;have q0:=zI w (.cells #[.slice a ds.length f] 48) (.cells #[.int .i64 0,.int .i64 0,.string ⟨#[]⟩,.string ⟨#[]⟩,.string ⟨#[]⟩,.string ⟨#[]⟩,.string ⟨#[]⟩,.int .i64 0,.int .i64 0,.slice none 0 0] 36);have q1:=zL w (.cells #[.slice a ds.length f] 48) (.cells #[.int .i64 0,.int .i64 0,.string ⟨#[]⟩,.string ⟨#[]⟩,.string ⟨#[]⟩,.string ⟨#[]⟩,.string ⟨#[]⟩,.int .i64 0,.int .i64 0,.slice none 0 0] 36);have a5:w.heap.size+2<=((w.alloc (.cells #[.slice a ds.length f] 48)).alloc (.cells #[.int .i64 0,.int .i64 0,.string ⟨#[]⟩,.string ⟨#[]⟩,.string ⟨#[]⟩,.string ⟨#[]⟩,.string ⟨#[]⟩,.int .i64 0,.int .i64 0,.slice none 0 0] 36)).heap.size:=by simp
 have hm:=X.dv.lenmax
 go_enter Tryz.func57,Tryz.ntmps57
 go_upto_region 1 with(fail)
 generalize (w.alloc (.cells #[.slice a ds.length f] 48)).alloc (.cells #[.int .i64 0,.int .i64 0,.string ⟨#[]⟩,.string ⟨#[]⟩,.string ⟨#[]⟩,.string ⟨#[]⟩,.string ⟨#[]⟩,.int .i64 0,.int .i64 0,.slice none 0 0] 36)=W0 at *;have t0:W0.cell? ⟨w.heap.size,0,none⟩=some (.slice a ds.length f):=zB q0 0
 go_wp2_with fail
 refine(zHN a f ds b n _ (X.dv.no Z (fun _=>id)) (Z.cell Y id)).mono ?_;rintro e w1 ⟨rfl,C⟩;have p0:=C.heap q0 id;have D:=C.heap q1 id;have z:=Z.step C zi;have N:=X.no z;have a6:w.heap.size+1<w1.heap.size:=zC D;clear t0 q0 q1;rcases zAa ds n with⟨u,y⟩ | ⟨k,d,u,y,A⟩
 ·rw[y];have F:=zh u;clear u y;obtain⟨z0,z1,z2,z3,z4,z5,z6,z7,z8,z9⟩:=cl10 D;obtain⟨y0,y1,y2,y3,y4,y5,y6,y7,y8,y9⟩:=fl10 D;have q:=zBF D rfl ⟨0,0,⟨#[]⟩,⟨#[]⟩,⟨#[]⟩,⟨#[]⟩,⟨#[]⟩,0,0,none,0,0⟩;have g:=zh (z.step q.2 (fun b Y e=>by unfold Is at e;omega));clear q D z p0
  go_wp2_with fail
  refine bodyPost_ret (v:=.tuple #[.agg Dev.zero.vals,.bool false]) (by simp[results,Tryz.results57,go_sem,Dev.vals,Dev.zero,z0,z1,z2,z3,z4,z5,z6,z7,z8,z9];rfl) rfl ?_;exact⟨.inl ⟨F.out,rfl⟩,g.out⟩
 ·rw[y];have F:=zh u;have hk:k<ds.length:=(List.getElem?_eq_some_iff.1 A).1;obtain⟨l,hA,I,a2⟩:=(N.el d (List.mem_of_getElem? A)).att;obtain⟨bb,a3,d',rfl,hd,c0,c1,c2,c3,c4,c5,c6,c7,c8,c9⟩:=N.dv.dev hk;obtain rfl:d=d':=by rw[A]at hd;exact Option.some.inj hd
  have J:=zh (zDq d l w1 hA I (by omega));have t0:w1.cell? ⟨w.heap.size,0,none⟩=some (.slice (some ⟨bb,a3,none⟩) ds.length f):=zB p0 0;have a4:=zh I;clear u y A hd I
  go_wp2_with fail
  refine J.out.mono ?_;rintro e w2 ⟨⟨a',c',rfl,O,o⟩,R⟩;have U:=R.heap D id;have V:=z.step R zi;clear p0 D c0 c1 c2 c3 c4 c5 c6 c7 c8 c9 t0;have a7:w.heap.size+1<w2.heap.size:=zC U;obtain⟨z0,z1,z2,z3,z4,z5,z6,z7,z8,z9⟩:=cl10 U;obtain⟨y0,y1,y2,y3,y4,y5,y6,y7,y8,y9⟩:=fl10 U;have q:=zBF U rfl { d with aa:=a',ac:=c' };have g:Hid _:=And.intro (O.fr q.2 (fun ad e _ h=>by have:=o ad e;unfold Is at h;omega)) (V.step q.2 (fun b Y e=>by unfold Is at e;omega));clear q O U V;unfold Dev.vals
  go_wp2_with fail
  refine bodyPost_ret (v:=.tuple #[.agg ({ d with aa:=a',ac:=c' }:Dev).vals,.bool true]) (by simp[results,Tryz.results57,go_sem,Dev.vals,z0,z1,z2,z3,z4,z5,z6,z7,z8,z9]) rfl ?_;exact⟨.inr ⟨d,a',c',l,F.out,rfl,g.out.1,a4.out,a2,fun ad e=>by have:=o ad e;omega⟩,g.out.2⟩
theorem zBG (a:Option Addr)(f:Nat)(ds:List Dev)(y:Nat)(n:Int)(w:World)(hl:Tr w y a f ds):
  Calls Tryz.prog 43 #[.agg #[.slice a ds.length f],.int .i64 n] w fun e w'=>FoundD w w' ds n e/\Fr No w w':=by
 have I:Fr No w (((w.alloc (.cells #[.slice a ds.length f] 48)).alloc (.cells #[.int .i64 n] 3)).alloc (.cells #[.int .i64 0,.int .i64 0,.string ⟨#[]⟩,.string ⟨#[]⟩,.string ⟨#[]⟩,.string ⟨#[]⟩,.string ⟨#[]⟩,.int .i64 0,.int .i64 0,.slice none 0 0] 36)):=(((Fr.refl _ _).alloc _).alloc _).alloc _;have J:Fr No ((w.alloc (.cells #[.slice a ds.length f] 48)).alloc (.cells #[.int .i64 n] 3)) (((w.alloc (.cells #[.slice a ds.length f] 48)).alloc (.cells #[.int .i64 n] 3)).alloc (.cells #[.int .i64 0,.int .i64 0,.string ⟨#[]⟩,.string ⟨#[]⟩,.string ⟨#[]⟩,.string ⟨#[]⟩,.string ⟨#[]⟩,.int .i64 0,.int .i64 0,.slice none 0 0] 36)):=(Fr.refl _ _).alloc _;have R:=J.heap (zI w (.cells #[.slice a ds.length f] 48) (.cells #[.int .i64 n] 3)) id;have U:=J.heap (zL w (.cells #[.slice a ds.length f] 48) (.cells #[.int .i64 n] 3)) id;have F:=zD ((w.alloc (.cells #[.slice a ds.length f] 48)).alloc (.cells #[.int .i64 n] 3)) (.cells #[.int .i64 0,.int .i64 0,.string ⟨#[]⟩,.string ⟨#[]⟩,.string ⟨#[]⟩,.string ⟨#[]⟩,.string ⟨#[]⟩,.int .i64 0,.int .i64 0,.slice none 0 0] 36);rw[World.size_alloc,World.size_alloc]at F;clear J
 go_enter Tryz.func43,Tryz.ntmps43
 go_upto_region 1 with(fail)
 generalize ((w.alloc (.cells #[.slice a ds.length f] 48)).alloc (.cells #[.int .i64 n] 3)).alloc (.cells #[.int .i64 0,.int .i64 0,.string ⟨#[]⟩,.string ⟨#[]⟩,.string ⟨#[]⟩,.string ⟨#[]⟩,.string ⟨#[]⟩,.int .i64 0,.int .i64 0,.slice none 0 0] 36)=W0 at *;have t0:W0.cell? ⟨w.heap.size,0,none⟩=some (.slice a ds.length f):=zB R 0;have V:W0.cell? ⟨w.heap.size+1,0,none⟩=some (.int .i64 n):=zB U 0;have a2:=I.size;have a3:=zC F
 go_wp2_with fail
 refine(zG0 a f ds (w.heap.size+1) y n _ (hl.no I) V).mono ?_;rintro e w2 ⟨hF,A⟩;have z:=A.heap F id;have u:=I.step A zi;have a4:w.heap.size+2<w2.heap.size:=zC z;clear t0 V R U F;obtain⟨X,Y,Z,z3,z4,z5,z6,z7,z8,z9⟩:=cl10 z;obtain⟨y0,y1,y2,y3,y4,y5,y6,y7,y8,y9⟩:=fl10 z;rcases hF with⟨q,rfl⟩ | ⟨d,L,c',l,q,rfl,hA,C,N,D⟩
 ·have o:=zBF z rfl Dev.zero;have g:=zh (And.intro q (u.step o.2 (fun b hb e=>by unfold Is at e;omega)));clear o z u q;unfold Dev.vals Dev.zero
  go_wp2_with fail
  refine bodyPost_ret (v:=.tuple #[.agg Dev.zero.vals,.bool false]) (by simp[results,Tryz.results43,go_sem,Dev.vals,Dev.zero,X,Y,Z,z3,z4,z5,z6,z7,z8,z9]) rfl ?_;exact⟨.inl ⟨g.out.1,rfl⟩,g.out.2⟩
 ·have o:=zBF z rfl { d with aa:=L,ac:=c' };have g:=zh (And.intro q (And.intro C (And.intro (hA.fr o.2 (fun O e _ h=>by have:=D O e;unfold Is at h;omega)) (u.step o.2 (fun b hb e=>by unfold Is at e;omega)))));clear o z u q C hA;unfold Dev.vals
  go_wp2_with fail
  refine bodyPost_ret (v:=.tuple #[.agg ({ d with aa:=L,ac:=c' }:Dev).vals,.bool true]) (by simp[results,Tryz.results43,go_sem,Dev.vals,X,Y,Z,z3,z4,z5,z6,z7,z8,z9]) rfl ?_;exact⟨.inr ⟨d,L,c',l,g.out.1,rfl,g.out.2.2.1,g.out.2.1,N,fun O e=>by have:=D O e;omega⟩,g.out.2.2.2⟩
end Go.Proofs.YtinfjnndbfahhaaGreatDoor
