import Derived.Test.YtinfjnndbfahhaaGreatDoorQ13
namespace Go.Proofs.YtinfjnndbfahhaaGreatDoor
open Go.RowKit Go.Maps
set_option linter.unusedVariables false
set_option maxRecDepth 100000
set_option maxHeartbeats 4000000
structure InsOk (ds:List Dev)(d:Dev)(l:List (ByteArray×ByteArray)):Prop where
 snd:Sound d l
 new:look ds d.index=none
 par:((d.parent==0)||(look ds d.parent).isSome)=true
 len:ds.length<256
 dep:depthB (newO ds d)<=7
 ord:∀ x∈ds,zAE ds (newO ds d) x=false
 cls:ds.any (clP d)=false
def zI9 (w w':World)(ds:List Dev)(d:Dev)(e:Ending):Prop:=
 ∃ a' c' ds',e=.returned (.tuple #[.agg #[.slice a' ds'.length c'],.int .i64 0])/\Devs w' a' c' ds'/\BlkT w' a' 36/\(∀ ad,a'=some ad->w.heap.size<=ad.block)/\Cop w w' w.heap.size (ds++[d]) ds'
structure InsPre (ds:List Dev)(d:Dev)(l:List (ByteArray×ByteArray)):Prop where
 snd:Sound d l
 new:look ds d.index=none
 par:((d.parent==0)||(look ds d.parent).isSome)=true
 len:ds.length<256
 dep:depthB (newO ds d)<=7
def insK (ds:List Dev)(d:Dev):Nat:=if fidx (zAE ds (newO ds d)) ds<0 then ds.length else (fidx (zAE ds (newO ds d)) ds).toNat
def sameO (ds:List Dev)(d:Dev):Bool:=match ds[insK ds d]? with | some x=>(plc ds x.index).toList==(newO ds d).toList | none=>false
def zDV (w w':World)(ds:List Dev)(d:Dev)(e:Ending):Prop:=
 ∃ a' c' ds',e=.returned (.tuple #[.agg #[.slice a' ds'.length c'],.int .i64 0])/\Devs w' a' c' ds'/\BlkT w' a' 36/\(∀ ad,a'=some ad->w.heap.size<=ad.block)/\Cop w w' w.heap.size (insAt ds (insK ds d) d) ds'
def InsTk (w w':World)(ds:List Dev)(d:Dev)(e:Ending):Prop:=(sameO ds d||ds.any (clP d))=true/\e=.returned (.tuple #[.agg #[.slice none 0 0],.int .i64 44])
theorem zE7 (ds:List Dev)(d:Dev):(fidx (zAE ds (newO ds d)) ds=-1/\insK ds d=ds.length)\/(fidx (zAE ds (newO ds d)) ds=(insK ds d:Int)/\insK ds d<ds.length):=by
 unfold insK;rcases zBN (zAE ds (newO ds d)) ds with⟨h,_⟩ | ⟨k,x,h,f,_⟩
 ·left;rw[h];exact⟨rfl,rfl⟩
 ·right;have:=(List.getElem?_eq_some_iff.1 f).1;rw[h,if_neg (by omega)];exact⟨by simp,by simpa using this⟩
theorem zGb (a b:List Dev):flat (a++b)=flat a++flat b:=List.flatMap_append
theorem zDA (k:Nat):∀ l:List Dev,(flat l).take (k*10)=flat (l.take k)/\(flat l).drop (k*10)=flat (l.drop k):=by
 induction k with
 | zero=>intro l;simp[flat]
 | succ k g=>
  intro l;cases l with
  | nil=>simp[flat]
  | cons x t=>
   have e:(k+1)*10=x.vals.toList.length+k*10:=by rw[show x.vals.toList.length=10 from rfl];omega
   have f:flat (x::t)=x.vals.toList++flat t:=rfl;rw[f,e,List.take_length_add_append,List.drop_length_add_append,(g t).1,(g t).2];exact⟨rfl,rfl⟩
theorem zIa (cs:List Dev)(k:Nat)(d:Dev):(flat cs).take (k*10)++(d.vals.toList++(flat cs).drop (k*10))=flat (insAt cs k d):=by
 unfold insAt;rw[zGb,(zDA k cs).1,(zDA k cs).2];rfl
theorem zE8 {ds:List Dev}{k:Nat}(h:k<=ds.length)(d:Dev)(i:Nat):(insAt ds k d)[i]?=if i<k then ds[i]? else if i=k then some d else ds[i-1]?:=by
 unfold insAt;rw[List.getElem?_append,List.length_take,Nat.min_eq_left h];split
 ·rename_i f;rw[List.getElem?_take_of_lt f]
 ·rename_i f;split
  ·rename_i e;subst e;simp
  ·rename_i g;obtain⟨j,rfl⟩:∃ j,i=k+1+j:=⟨i-k-1,by omega⟩
   rw[show k+1+j-k=j+1 by omega,List.getElem?_cons_succ,List.getElem?_drop,show k+1+j-1=k+j by omega]
theorem Cop.ins {w w':World}{f:Nat}{ds q:List Dev}{d v:Dev}(h:Cop w w' f ds q)(z:Cop1 w w' f d v){k:Nat}(A:k<=ds.length):Cop w w' f (insAt ds k d) (insAt q k v):=by
 have C:=h.len;refine⟨by rw[zB0,zB0,C],fun i x y e g=>?_⟩;rw[zE8 A]at e;rw[zE8 (by omega)]at g;split at e
 ·rename_i u;rw[if_pos u]at g;exact h.el i x y e g
 ·rename_i u;rw[if_neg u]at g;split at e
  ·rename_i o;rw[if_pos o]at g;cases e;cases g;exact z
  ·rename_i o;rw[if_neg o]at g;exact h.el (i-1) x y e g
theorem SMap.look {w:World}{o:Nat}{g:Int->Option ByteArray}{N:Nat}(h:SMap w o g N){k:Int}(u:(Lit.int .i64 k).wf=true):(Instr.lookup 113 (.map (some o)) (.int .i64 k) false).run Tryz.prog w=.ok (.string ((g k).getD ⟨#[]⟩)) w:=by
 obtain⟨D,n,_,y,_,z⟩:=h;obtain⟨v,C,f,A⟩:=y.lookup lawI Tryz.underlying113 (zeroS w) (plainElem_string Tryz.underlying9 (by unfold maxLen;show 0<=_;omega)) (keyOf_int_mk Tryz.underlying3 u);obtain⟨s,rfl,q,_⟩:=plainElem_string_inv Tryz.underlying9 A;simp only[Prod.mk.injEq]at q;have e:=(z k).symm.trans q.1;obtain rfl:s=(g k).getD ⟨#[]⟩:=zCf (by simpa using e.symm);exact f
theorem zCx {o:Oper}{a:Act}{S:World->Prop}{K:Act->Prop}{h:Bool}(m x:Operand)(t:TypeId)(g:o.op=Op.lookup t m x h)(q u v:Value)(y:a.eval m=q)(z:a.eval x=u)
  (f:∀ W,S W->(Instr.lookup t q u h).run Tryz.prog W=.ok v W) (A:K (a.put o.dst v)):o.quiet Tryz.prog a S K:=by
 refine⟨v,fun W C=>?_,A⟩;unfold Oper.quietAt;simp[execOp,g,y,z,f W C,Result.andThen,Oper.quietUpon]
theorem Cop1.src {w o w':World}{f base':Nat}{d q:Dev}(h:Cop1 o w' f d q)(v:Fr No w o)(g:∃ l,Atts w d.aa d.ac l/\d.an=l.length)(I:base'<=f):Cop1 w w' base' d q:=by
 obtain⟨l,y,z,A,C⟩:=h.att;obtain⟨D,u,J⟩:=g;have e:D=l:=(u.no v (fun _=>id)).det y (by omega);exact⟨h.eq,⟨l,by rw[<-e];exact u,z,A,C⟩,h.typ,fun F e=>by have:=h.fresh F e;omega⟩
theorem Cop.src {w q w':World}{f base':Nat}{ds g:List Dev}(h:Cop q w' f ds g)(v:Fr No w q)(o:∀ d∈ds,∃ l,Atts w d.aa d.ac l/\d.an=l.length)(y:base'<=f):Cop w w' base' ds g:=
 ⟨h.len,fun i d z u A=>(h.el i d z u A).src v (o d (List.mem_of_getElem? u)) y⟩
theorem zCp (a:Option Addr)(f:Nat)(ds:List Dev)(g8:Nat)(d:Dev)(l:List (ByteArray×ByteArray))(m:Int)(w:World)(hl:Tr w g8 a f ds)(hs:Sized d)(hA:Atts w d.aa d.ac l)(h1:l.length<=1)(d6:d.an=l.length)(hk:d.kind=2)(hd:d.drv=⟨#[]⟩)(j5:(Lit.int .i64 d.parent).wf=true)(j6:(Lit.int .i64 d.index).wf=true)(u:InsPre ds d l)(hm:w.cell? ⟨0,0,none⟩=some (.int .i64 m))(h0:0<w.heap.size):
  Calls Tryz.prog 39 #[.agg #[.slice a ds.length f],.agg d.vals] w fun e w'=>(InsTk w w' ds d e\/(sameO ds d||ds.any (clP d))=false/\zDV w w' ds d e)/\Fr No w w':=by
 have hT:=hl.wf.ok;have hn:=u.len;obtain⟨W0,a9⟩:∃ W0,W0=((w.alloc (.cells #[.slice a ds.length f] 48)).alloc (.cells d.vals 36)).alloc (.cells #[.slice none 0 0] 48):=⟨_,rfl⟩
 have fx:Fr No ((w.alloc (.cells #[.slice a ds.length f] 48)).alloc (.cells d.vals 36)) W0:=by rw[a9];exact(Fr.refl _ _).alloc _
 have I:Fr No w W0:=by rw[a9];exact(((Fr.refl _ _).alloc _).alloc _).alloc _
 have q0:=fx.heap (zI w (.cells #[.slice a ds.length f] 48) (.cells d.vals 36)) id;have q1:=fx.heap (zL w (.cells #[.slice a ds.length f] 48) (.cells d.vals 36)) id;have q2:W0.heap[w.heap.size+1+1]?=some (.cells #[.slice none 0 0] 48):=by
  have:=zD ((w.alloc (.cells #[.slice a ds.length f] 48)).alloc (.cells d.vals 36)) (.cells #[.slice none 0 0] 48);rw[World.size_alloc,World.size_alloc]at this;rw[a9];exact this
 clear fx;have b6:=zBs a f ds W0 (hl.dv.no I (fun _=>id)) hT (by omega);have m0:=zC q2;have V:W0.cell? ⟨w.heap.size,0,none⟩=some (.slice a ds.length f):=zB q0 0
 -- what the callees answer
 have g9:(ogs ds d.parent).getD ⟨#[]⟩=plc ds d.parent:=zCJ hT d.parent;have h4:(ogs ds d.parent).isSome=(look ds d.parent).isSome:=by rw[zEH hT];exact Option.isSome_map
 have j7:(ogs ds d.index).getD ⟨#[]⟩=⟨#[]⟩:=by rw[zEH hT,u.new];rfl
 have j8:(ogs ds d.index).isSome=false:=by rw[zEH hT,u.new];rfl
 have h5:=zGE hT (by omega) d.parent;have l5:=u.snd.oklen;have l6:(newO ds d).size<=33100:=by
  unfold newO;rw[ByteArray.size_append,ByteArray.size_append];show _+1+_<=_
  omega
 have K1:=zh (fun (W:World) (J:Fr No w W)=>zHR d l m W hs (hA.no J (fun _=>id)) h1 d6 hk hd u.snd (J.cell hm id) (Nat.lt_of_lt_of_le h0 J.size));have K2:=zh (fun (W:World) (J:Fr No w W)=>zG1 (newO ds d) m W (by omega) (J.cell hm id));have K3:=zh (fun (W:World) (J:Fr No w W)=>zEi a f ds d m W (hl.dv.no J (fun _=>id)) (fun x I=>by have:=hT.sz x I;omega) (by omega) (J.cell hm id) (Nat.lt_of_lt_of_le h0 J.size));have K4:=zh (fun (W:World) (J:Fr No w W)=>zCq a f ds W (hl.dv.no J (fun _=>id)) (by omega) (fun x I=>by
  obtain⟨l',g1,g2,g3⟩:=(hl.el x I).att;exact⟨l',g1.no J (fun _=>id),g2,g3⟩))
 have K5:=zh (fun (W:World) (J:Fr No w W)=>zBl d l W (hA.no J (fun _=>id)) d6 (by omega));obtain⟨F,hF⟩:∃ F,F=fidx (zAE ds (newO ds d)) ds:=⟨_,rfl⟩
 obtain⟨q,b7⟩:∃ q,q=insK ds d:=⟨_,rfl⟩
 have f5:=zE7 ds d;rw[<-hF,<-b7]at f5;have K6:Hid (∀ (m1 Y bv bs:Nat) (W:World),Fr No w W->W.heap[bv]?=some (.cells #[.slice a ds.length f,.map (some m1),.map (some Y)] 115)->SMap W Y (ogs ds) ds.length->W.cell? ⟨bs,0,none⟩=some (.string (newO ds d))->Calls Tryz.prog 76 #[.slice a ds.length f,.func (.func 77) #[] #[.pointer (some ⟨bv,0,none⟩),.pointer (some ⟨bs,0,none⟩)]] W fun e w'=>e=.returned (.int .i64 F)/\Fr No W w'):=by
  intro m1 Y bv bs W J hv hS hb;have:=zB2 77 #[.pointer (some ⟨bv,0,none⟩),.pointer (some ⟨bs,0,none⟩)] (fun _ _=>rfl) (zAE ds (newO ds d)) a f ds W (hl.dv.no J (fun _=>id)) (fun x I W' d7=>zIT x ds a f m1 Y bv bs (newO ds d) m W' hT (by omega) (by omega) I (d7.heap hv id) (hS.fr d7 id) (d7.cell hb id) ((J.step d7 zi).cell hm id));rw[<-hF]at this;exact this
 have l7:¬ (7:Int)<(depthB (newO ds d):Nat):=by have:=u.dep;omega
 have l8:¬ (256:Int)<=ds.length:=by omega
 obtain⟨SB,b8⟩:∃ SB,SB=sameO ds d:=⟨_,rfl⟩
 obtain⟨CB,d8⟩:∃ CB,CB=ds.any (clP d):=⟨_,rfl⟩
 rw[<-d8]at K3;have h6:Hid ((q=ds.length->SB=false)/\∀ x,ds[q]?=some x->∀ P,P=plc ds x.index->SB=(P.toList==(newO ds d).toList)):=⟨fun e=>by
  rw[b8];unfold sameO;rw[<-b7,e,List.getElem?_eq_none (Nat.le_refl _)],fun x I P e=>by rw[b8];unfold sameO;rw[<-b7,I,e]⟩
 have e7:Hid (∀ w' e,InsTk w w' ds d e\/(SB||CB)=false/\zDV w w' ds d e->InsTk w w' ds d e\/(sameO ds d||ds.any (clP d))=false/\zDV w w' ds d e):=fun w' e h=>by rw[<-b8,<-d8];exact h
 have j9:Hid (∀ w' e,(SB||CB)=true->e=Ending.returned (.tuple #[.agg #[.slice none 0 0],.int .i64 44])->InsTk w w' ds d e):=fun w' e h1 h2=>⟨by rw[<-b8,<-d8];exact h1,h2⟩
 have k0:=zh b7;have h7:q<=ds.length:=by rcases f5 with h | h<;>omega
 clear b8 d8 hF b7;have b9:=u.par;have e8:Hid (newO ds d=plc ds d.parent++⟨#[47]⟩++d.orig):=rfl;have m3:=hl.dv.lenmax;obtain⟨P,hP⟩:∃ P,P=plc ds d.parent:=⟨_,rfl⟩
 obtain⟨bp,f6⟩:∃ bp,bp=(look ds d.parent).isSome:=⟨_,rfl⟩
 rw[<-hP]at g9 e8 h5;rw[<-f6]at h4 b9;generalize newO ds d=og at *;generalize hD:depthB og=D at *;have HT:=zh hT;have HL:=zh hl;have m4:=zh u;have HA:=zh hA;have h8:=zh d6;clear hP f6 hD hl hT u hA hs hk hd hm d6;unfold Dev.vals at a9 K1 K3 K5 ⊢
 go_enter Tryz.func39,Tryz.ntmps39
 go_upto_region 1 with(fail)
 rw[<-a9];clear a9
 go_wp2_with fail
 refine b6.mono ?_;rintro e w1 ⟨⟨m1,Y,rfl,m5,m6,m7,hI,hS⟩,f7⟩;clear b6 hI V;obtain⟨Z,d9⟩:∃ Z,Z=w1.alloc (.cells #[.slice a ds.length f,.map (some m1),.map (some Y)] 115):=⟨_,rfl⟩
 have f9:Fr No w1 Z:=by rw[d9];exact(Fr.refl _ _).alloc _
 have b1:Z.heap[w1.heap.size]?=some (.cells #[.slice a ds.length f,.map (some m1),.map (some Y)] 115):=by rw[d9];exact zD _ _
 have e4:Fr No W0 Z:=f7.step f9 zi;have p0:=e4.heap q0 id;have p1:=e4.heap q1 id;have p2:=e4.heap q2 id;have e5:=hS.fr f9 id;have x1:Fr No w Z:=I.step e4 zi;have m8:=f7.size;clear q0 q1 q2 f7 f9 hS;have V:Z.cell? ⟨w.heap.size,0,none⟩=some (.slice a ds.length f):=zB p0 0;have v2:Z.cell? ⟨w1.heap.size,2,none⟩=some (.map (some Y)):=zB b1 2;obtain⟨c0,c1,L,c3,c4,c5,c6,c7,c8,c9⟩:=DevB.of p1
 go_upto_region 2 with(fail)
 rw[<-d9];clear d9;obtain⟨W2,d0⟩:∃ W2,W2=Z.alloc (.cells #[.string og] 9):=⟨_,rfl⟩
 have z:Fr No Z W2:=by rw[d0];exact(Fr.refl _ _).alloc _
 have b2:W2.heap[Z.heap.size]?=some (.cells #[.string og] 9):=by rw[d0];exact zD _ _
 have x2:Fr No w W2:=x1.step z zi;have k6:=K6.out m1 Y w1.heap.size Z.heap.size W2 x2 (z.heap b1 id) (e5.fr z id) (zB b2 0);have r0:=z.heap p0 id;have r1:=z.heap p1 id;have r2:=z.heap p2 id;rw[e8.out]at d0
 go_upto_region 5 with(first
  | (at_lookup;refine zCj rfl _ _ 113 rfl rfl Y _ _ d.parent j5 rfl e5 rfl P g9 bp h4 ?_)
  | (at_lookup;refine zCj rfl _ _ 113 rfl rfl Y _ _ d.index j6 rfl e5 rfl ⟨#[]⟩ j7 false j8 ?_))
 rw[<-d0];have HV:=zh (And.intro (z.heap b1 id) (e5.fr z id));clear d0 c0 c1 L c3 c4 c5 c6 c7 c8 c9 V v2 p0 p1 p2 z b1;have V:W2.cell? ⟨w.heap.size,0,none⟩=some (.slice a ds.length f):=zB r0 0
 go_wp2_with fail
 refine k6.mono ?_;rintro e w3 ⟨rfl,b0⟩;have x3:Fr No w w3:=x2.step b0 zi;have s0:=b0.heap r0 id;have s1:=b0.heap r1 id;have s2:=b0.heap r2 id;have s4:=b0.heap b2 id;clear V k6 r0 r1 r2 b2;have V:w3.cell? ⟨w.heap.size,0,none⟩=some (.slice a ds.length f):=zB s0 0;obtain⟨c0,c1,L,c3,c4,c5,c6,c7,c8,c9⟩:=DevB.of s1
 go_upto_if 41 with(fail)
 go_cut [12] (fun v wx=>v=.int .i64 (q:Int)/\w3=wx)
 case first=>
  rcases f5 with⟨h1,h2⟩ | ⟨h1,h2⟩
  ·have H2:=zh h2;have k1:F<0:=by omega
   clear h2 h1
   go_wp2_with fail
   go_meet
   exact⟨by rw[H2.out],rfl⟩
  ·have k1:¬ F<0:=by omega
   have H1:=zh h1;clear h1
   go_wp2_with fail
   go_meet
   exact⟨by rw[H1.out],rfl⟩
 case rest=>
  obtain⟨rfl,rfl⟩:=hcut
  go_wp2_with fail
  refine(K1.out _ x3).mono ?_;rintro e w4 ⟨rfl,b3⟩;have x4:Fr No w w4:=x3.step b3 zi;have r0:=b3.heap s0 id;have r1:=b3.heap s1 id;have r2:=b3.heap s2 id;have r4:=b3.heap s4 id;clear c0 c1 L c3 c4 c5 c6 c7 c8 c9 V s0 s1 s2 s4;have V:w4.cell? ⟨w.heap.size,0,none⟩=some (.slice a ds.length f):=zB r0 0;have t4:w4.cell? ⟨Z.heap.size,0,none⟩=some (.string og):=zB r4 0;obtain⟨c0,c1,L,c3,c4,c5,c6,c7,c8,c9⟩:=DevB.of r1
  go_upto_region 12 with(fail)
  go_cut [53] (fun v wx=>v=.bool false/\w4=wx)
  case first=>
   rcases hq:(d.parent==0)with _ | _
   ·rw[hq]at b9;have k2:(d.parent != 0)=true:=by simp[bne,hq]
    have f6:bp=true:=by simpa using b9
    go_wp2_with fail
    go_meet
    exact⟨rfl,rfl⟩
   ·have k2:(d.parent != 0)=false:=by simp[bne,hq]
    go_wp2_with fail
    go_meet
    exact⟨rfl,rfl⟩
  case rest=>
   obtain⟨rfl,rfl⟩:=hcut
   go_wp2_with fail
   refine(K2.out _ x4).mono ?_;rintro e w5 ⟨rfl,b4⟩;have x5:Fr No w w5:=x4.step b4 zi;have s0:=b4.heap r0 id;have s1:=b4.heap r1 id;have s2:=b4.heap r2 id;have s4:=b4.heap r4 id;clear c0 c1 L c3 c4 c5 c6 c7 c8 c9 V t4 r0 r1 r2 r4;have V:w5.cell? ⟨w.heap.size,0,none⟩=some (.slice a ds.length f):=zB s0 0;have fV:Fr No W2 w5:=(b0.step b3 zi).step b4 zi;have h9:=zh (And.intro (fV.heap HV.out.1 id) (HV.out.2.fr fV id))
   go_upto_region 18 with(fail)
   go_cut [73] (fun v wx=>v=.bool SB/\Hid (Fr No w5 wx))
   case first=>
    refine zQ No [(0,false),(1,false),(2,false),(3,false),(4,false),(5,false),(6,false),(7,false),(8,false),(9,false),(10,false),(11,false),(12,false),(13,false),(14,false),(15,false),(16,false),(17,false),(18,false)] (by kernel_rfl) (by kernel_rfl) (fun w6 o=>?_);have e0:=o.heap s0 id;have V:∀ g:Gr No w6,g.W.cell? ⟨w.heap.size,0,none⟩=some (.slice a ds.length f):=fun g=>g.fr.cell (zB e0 0) id
    have i0:=zh o;by_cases k3:q<ds.length
    ·obtain⟨bb,k4,x,k5,I,y0,_⟩:=(HL.out.dv.no (x5.step o zi) (fun _=>id)).dev k3;have i1:=List.mem_of_getElem? I;have i2:=HT.out.iwf i1;obtain⟨Px,g4⟩:∃ Px,Px=plc ds x.index:=⟨_,rfl⟩
     have k7:=zh (h6.out.2 x I Px g4);have i3:=o.heap h9.out.1 id;have i4:=h9.out.2.fr o id;have k8:∀ W,(∃ g:Gr No w6,W=g.W)->(Instr.lookup 113 (.map (some Y)) (.int .i64 x.index) false).run Tryz.prog W=.ok (.string Px) W:=fun W hW=>by
      obtain⟨g,rfl⟩:=hW;rw[(i4.fr g.fr id).look i2,g4,zCJ HT.out]
     have l9:(q:Int)<ds.length:=by omega
     have z0:∀ g:Gr No w6,g.W.cell? ⟨bb,k4+q*10,none⟩=some (.int .i64 x.index):=fun g=>g.fr.cell y0 id
     have z2:∀ g:Gr No w6,g.W.cell? ⟨w1.heap.size,2,none⟩=some (.map (some Y)):=fun g=>g.fr.cell (zB i3 2) id
     have z4:∀ g:Gr No w6,g.W.cell? ⟨Z.heap.size,0,none⟩=some (.string og):=fun g=>g.fr.cell (zB (o.heap s4 id) 0) id
     clear I i1 g4 y0 i4 i3 e0 o;subst k5
     repeat((first|apply zS rfl rfl rfl|apply zW rfl rfl rfl);intro K hK;go_big_quiet_op;go_big_quiet_on)
     apply zS rfl rfl rfl;intro K hK;refine zCx _ _ 113 rfl (.map (some Y)) (.int .i64 x.index) _ rfl rfl k8 ?_
     go_frame
     go_big_quiet_on
     repeat((first|apply zS rfl rfl rfl|apply zW rfl rfl rfl);intro K hK;go_big_quiet_op;go_big_quiet_on)
     refine zY ?_
     go_wp2_with fail
     go_meet
     exact⟨by rw[k7.out],i0.out⟩
    ·have i5:q=ds.length:=by omega
     have k9:=zh (h6.out.1 i5);have m9:¬ (q:Int)<ds.length:=by omega
     clear i5 e0 o
     repeat((first|apply zS rfl rfl rfl|apply zW rfl rfl rfl);intro K hK;go_big_quiet_op;go_big_quiet_on)
     refine zY ?_
     go_wp2_with fail
     go_meet
     exact⟨by rw[k9.out],i0.out⟩
   case rest=>
    obtain⟨rfl,o⟩:=hcut;obtain⟨w6,i6⟩:∃ w6,w6=wc:=⟨_,rfl⟩
    rw[<-i6]at o ⊢;clear i6;have x6:Fr No w w6:=x5.step o.out zi;have r0:=o.out.heap s0 id;have r1:=o.out.heap s1 id;have r2:=o.out.heap s2 id;clear V s0 s1 s2 s4
    go_upto_if 73 with(fail)
    go_cut [73] (fun v wx=>v=.bool (SB||CB)/\Hid (Fr No w6 wx))
    case first=>
     have V:w6.cell? ⟨w.heap.size,0,none⟩=some (.slice a ds.length f):=zB r0 0;obtain⟨c0,c1,L,c3,c4,c5,c6,c7,c8,c9⟩:=DevB.of r1;cases SB with
     | true=>
      go_wp2_with fail
      go_meet
      exact⟨rfl,Fr.refl _ _⟩
     | false=>
      go_wp2_with fail
      refine(K3.out _ x6).mono ?_;rintro e w7 ⟨rfl,A⟩;have H7:=zh A;clear A
      go_wp2_with fail
      go_meet
      exact⟨rfl,H7.out⟩
    case rest=>
     obtain⟨rfl,A⟩:=hcut;obtain⟨w7,i7⟩:∃ w7,w7=wc:=⟨_,rfl⟩
     rw[<-i7]at A ⊢;clear i7;have x7:Fr No w w7:=x6.step A.out zi;have s0:=A.out.heap r0 id;have s1:=A.out.heap r1 id;have s2:=A.out.heap r2 id;clear r0 r1 r2 A;rcases hsc:(SB||CB)with _ | _
     ·skip
      go_wp2_with fail
      refine zQ (fun b=>w7.heap.size<=b\/b=w.heap.size+1+1) [(0,false),(1,false),(3,false),(4,false),(2,true),(5,true),(6,true),(7,true),(8,false),(9,true),(10,false)] (by kernel_rfl) (by kernel_rfl) (fun w8 d1=>?_);have x8:Fr No w w8:=x7.step d1 zi;have u0:=d1.heap s0 id;have u1:=d1.heap s1 id;have u2:=d1.heap s2 id;have n0:=d1.size;have n1:=zC s2;clear s0 s1 s2;have V:∀ g:Gr (fun b=>w7.heap.size<=b\/b=w.heap.size+1+1) w8,g.W.cell? ⟨w.heap.size,0,none⟩=some (.slice a ds.length f):=fun g=>zB (g.fr.heap u0 (fun h=>by omega)) 0
      have cB:∀ g:Gr (fun b=>w7.heap.size<=b\/b=w.heap.size+1+1) w8,DevB g.W (w.heap.size+1) d:=fun g=>DevB.of (g.fr.heap u1 (fun h=>by omega))
      have c0:=fun g=>(cB g).c0
      have c1:=fun g=>(cB g).c1
      have L:=fun g=>(cB g).c2
      have c3:=fun g=>(cB g).c3
      have c4:=fun g=>(cB g).c4
      have c5:=fun g=>(cB g).c5
      have c6:=fun g=>(cB g).c6
      have c7:=fun g=>(cB g).c7
      have c8:=fun g=>(cB g).c8
      have c9:=fun g=>(cB g).c9
      clear cB
      repeat((first|apply zS rfl rfl rfl|apply zW rfl rfl rfl);intro K hK;go_big_quiet_op;go_big_quiet_on)
      clear c0 c1 L c3 c4 c5 c6 c7 c8 c9 V;apply zk;exact rfl
      go_wp2_with fail
      refine(K4.out _ x8).mono ?_;rintro e w9 ⟨⟨v,cs,rfl,a4,d2⟩,d3⟩;have g5:=d2.len;rw[g5]at a4;obtain⟨av,cv,rfl⟩:=zJ a4;have x9:Fr No w w9:=x8.step d3 zi;have l0:=zh g5;have i8:=zh d2;have a5:=zh a4;clear g5 d2 a4
      go_wp2_with fail
      refine zm d3 ?_;apply zk;exact rfl
      go_wp2_with fail
      refine(K5.out _ x9).mono ?_;rintro e b5 ⟨⟨a',c',rfl,i9,j0,e9⟩,N⟩;have g6:=zh (And.intro i9 (And.intro j0 e9));clear i9 j0 e9
      go_wp2_with fail
      refine zm N ?_;apply zk;exact rfl;obtain⟨O,R⟩:∃ O,O=b5.alloc (.cells (Dev.vals { d with aa:=a',ac:=c' }) 36):=⟨_,rfl⟩
      have d4:Fr No b5 O:=by rw[R];exact(Fr.refl _ _).alloc _
      have l1:O.heap[b5.heap.size]?=some (.cells (Dev.vals { d with aa:=a',ac:=c' }) 36):=by rw[R];exact zD _ _
      unfold Dev.vals at R
      go_wp2_with fail
      refine zp ?_;rw[<-R];clear R;have U:Fr No w9 O:=N.step d4 zi;have f1:=zER w8.heap.size b5.heap.size av ds.length cv q (flat cs) { d with aa:=a',ac:=c' } O (zG a5.out U (fun _ _=>id)) (zJs cs) (by omega) h7 l1 (by have h1:=d3.size;have h2:=N.size;have h3:=d4.size;omega) (fun ad e h=>by have h1:=(zAG a5.out (by rw[e];rfl:(Value.slice av ds.length cv).ownBlock=some ad.block)).2;have h2:=N.size;omega);apply zk;exact rfl
      go_wp2_with fail
      refine f1.mono ?_;rintro e d5 ⟨⟨a2,L,rfl,C⟩,a6⟩;rw[zIa]at C;have g7:∀ b,(Value.slice av ds.length cv).ownBlock=some b->w8.heap.size<=b:=fun b hb=>zP a5.out hb
      have a7:=zh C;have y2:=a6.heap (U.heap (d3.heap u2 id) id) (fun h=>by have:=g7 _ h;omega);have f0:=zE y2 0;have g0:d5.cell? ⟨w.heap.size+1+1,0,none⟩=some (.slice none 0 0):=zB y2 0;clear f1 C
      go_wp2_with fail
      refine OnlyN.mk ⟨a6.mono (fun b _ h=>by have:=g7 b h;omega),?_⟩
      repeat((first|apply zS rfl rfl rfl|apply zW rfl rfl rfl);intro K hK;go_big_quiet_op;go_big_quiet_on)
      apply zk;exact rfl
      go_wp2_with fail
      have e6:Fr (Is (w.heap.size+1+1)) d5 (d5.setCell ⟨w.heap.size+1+1,0,none⟩ (.slice a2 (ds.length+1) L)):=Fr.setAt (Fr.refl _ _) _;refine OnlyN.mk ⟨e6.mono (fun b _ h=>by unfold Is at h;omega),?_⟩
      repeat((first|apply zS rfl rfl rfl|apply zW rfl rfl rfl);intro K hK;go_big_quiet_op;go_big_quiet_on)
      refine zY ?_;have y3:=zF y2 0 (.slice a2 (ds.length+1) L);have g3:(d5.setCell ⟨w.heap.size+1+1,0,none⟩ (.slice a2 (ds.length+1) L)).cell? ⟨w.heap.size+1+1,0,none⟩=some (.slice a2 (ds.length+1) L):=zB y3 0;have zz:w8.heap.size<=w9.heap.size/\w9.heap.size<=b5.heap.size/\b5.heap.size<=O.heap.size:=⟨d3.size,N.size,d4.size⟩
      generalize d5.setCell ⟨w.heap.size+1+1,0,none⟩ (.slice a2 (ds.length+1) L)=W13 at *;clear g0 f0 y2 y3
      go_wp2_with fail
      refine bodyPost_ret (v:=.tuple #[.agg #[.slice a2 (ds.length+1) L],.int .i64 0]) (by simp[results,Tryz.results39,go_sem,g3]) rfl ?_;have X:(insAt cs q { d with aa:=a',ac:=c' }).length=ds.length+1:=by rw[zB0,l0.out]
      have a8:W13.ownsRow w8.heap.size 36 10 (.slice a2 (ds.length+1) L) (insAt cs q { d with aa:=a',ac:=c' }).length (flat (insAt cs q { d with aa:=a',ac:=c' })):=by
       rw[X];exact zG a7.out e6 (fun b hb h=>by have:=zP a7.out hb;unfold Is at h;unfold From at this;omega)
      obtain⟨a3,c3,hv,hD,j1⟩:=Devs.of_own a8;have l2:=zAI a8;injection hv with e1 e2 e3
      subst e1;subst e3;have j2:Cop w8 O w8.heap.size (insAt ds q d) (insAt cs q { d with aa:=a',ac:=c' }):=by
       refine(i8.out.fr U (fun _ _ _ _=>id)).ins ⟨rfl,⟨l,HA.out.no x8 (fun _=>id),g6.out.1.no d4 (fun _=>id),h8.out,by omega⟩,g6.out.2.1.fr d4 (fun _ _=>id),fun ad e=>by have:=g6.out.2.2 ad e;omega⟩ h7
      have f3:=j2.own (zG a5.out U (fun _ _=>id)) a6;have f4:Cop w8 W13 w8.heap.size (insAt ds q d) (insAt cs q { d with aa:=a',ac:=c' }):=f3.fr e6 (fun x I ad e h=>by
       obtain⟨y,_,hy⟩:=f3.mem I;have:=hy.fresh ad e;unfold Is at h;omega)
      have l3:=x8.size;have j3:∀ x∈insAt ds q d,∃ l,Atts w x.aa x.ac l/\x.an=l.length:=by
       intro x I;rcases zt.1 I with h | h
       ·subst h;exact⟨l,HA.out,h8.out⟩
       ·obtain⟨l',g1,g2,_⟩:=(HL.out.el x h).att;exact⟨l',g1,g2⟩
      rw[k0.out]at f4 j3 X hD;refine⟨e7.out _ _ (.inr ⟨hsc,⟨a2,L,insAt cs (insK ds d) { d with aa:=a',ac:=c' },by rw[X],hD,l2,fun ad e=>by have:=j1 ad e;omega,f4.src x8 j3 l3⟩⟩),?_⟩;have j4:Fr No w W13:=(((x9.step U zi).step a6 (fun b hb h=>by have:=g7 b h;omega)).step e6 (fun b hb h=>by unfold Is at h;omega))
      exact j4
     ·have l4:=zh hsc;have z2:w7.cell? ⟨w.heap.size+1+1,0,none⟩=some (.slice none 0 0):=zB s2 0;have f2:=zE s2 0;have f8:Fr (Is (w.heap.size+1+1)) w7 (w7.setCell ⟨w.heap.size+1+1,0,none⟩ (.slice none 0 0)):=Fr.setAt (Fr.refl _ _) _;have z3:(w7.setCell ⟨w.heap.size+1+1,0,none⟩ (.slice none 0 0)).cell? ⟨w.heap.size+1+1,0,none⟩=some (.slice none 0 0):=zB (zF s2 0 (.slice none 0 0)) 0;have H8:=zh (x7.step f8 (fun b hb h=>by unfold Is at h;omega));clear f8 hsc
      go_wp2_with fail
      refine bodyPost_ret (v:=.tuple #[.agg #[.slice none 0 0],.int .i64 44]) (by simp[results,Tryz.results39,go_sem,z3]) rfl ?_;exact⟨e7.out _ _ (.inl (j9.out _ _ l4.out rfl)),H8.out⟩
theorem zC6 (ds:List Dev)(d:Dev):insAt ds ds.length d=ds++[d]:=by unfold insAt;rw[List.take_length,List.drop_length]
theorem zGV {ds:List Dev}{d:Dev}(h:∀ x∈ds,zAE ds (newO ds d) x=false):insK ds d=ds.length/\sameO ds d=false:=by
 have f:insK ds d=ds.length:=by unfold insK;rw[zDD _ _ h];rfl
 refine⟨f,?_⟩;unfold sameO;rw[f,List.getElem?_eq_none (Nat.le_refl _)]
theorem zCo (a:Option Addr)(o:Nat)(ds:List Dev)(g:Nat)(d:Dev)(l:List (ByteArray×ByteArray))(m:Int)(w:World)(y:Tr w g a o ds)(z:Sized d)(A:Atts w d.aa d.ac l)(C:l.length<=1)(q:d.an=l.length)(D:d.kind=2)(F:d.drv=⟨#[]⟩)(u:(Lit.int .i64 d.parent).wf=true)(v:(Lit.int .i64 d.index).wf=true)(f:InsOk ds d l)(I:w.cell? ⟨0,0,none⟩=some (.int .i64 m))(J:0<w.heap.size):
  Calls Tryz.prog 39 #[.agg #[.slice a ds.length o],.agg d.vals] w fun e w'=>zI9 w w' ds d e/\Fr No w w':=by
 obtain⟨L,N⟩:=zGV f.ord;refine(zCp a o ds g d l m w y z A C q D F u v ⟨f.snd,f.new,f.par,f.len,f.dep⟩ I J).mono ?_;rintro e w' ⟨h | ⟨_,h⟩,O⟩
 ·have:=h.1;rw[N,f.cls]at this;cases this
 ·unfold zDV at h;rw[L,zC6]at h;exact⟨h,O⟩
end Go.Proofs.YtinfjnndbfahhaaGreatDoor
