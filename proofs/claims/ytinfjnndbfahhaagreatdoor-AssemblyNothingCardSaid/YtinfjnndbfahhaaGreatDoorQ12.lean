import Derived.Test.YtinfjnndbfahhaaGreatDoorQ11
namespace Go.Proofs.YtinfjnndbfahhaaGreatDoor
open Go.RowKit Go.Maps
set_option linter.unusedVariables false
set_option maxRecDepth 100000
set_option maxHeartbeats 2000000
theorem zCW (a:Option Addr)(q:Nat)(l:List (ByteArray×ByteArray))(w:World)(v:Atts w a q l)(I:l.length<=1000000):
  Calls Tryz.prog 25 #[.slice a l.length q] w fun e w'=>(∃ o c',e=.returned (.slice o l.length c')/\Atts w' o c' l/\BlkT w' o 76/\∀ u,o=some u->w.heap.size<=u.block)/\Fr No w w':=by
 obtain⟨J,L,y,z,A⟩:=info_parts infoA;cases a with
 | none=>
  obtain⟨rfl,rfl⟩:=v.isNil rfl;have N:=zEQ
  go_enter Tryz.func25,Tryz.ntmps25
  go_wp2_with fail
  go_ret;exact⟨⟨none,0,rfl,Atts.nil _,BlkT.none _ _,fun _ e=>by cases e⟩,Fr.refl _ _⟩
 | some u=>
  have O:Fr No w (w.alloc (.cells #[] 76)):=(Fr.refl _ _).alloc _;have C:=v.no O (fun _=>id);have N:=zEQ
  go_enter Tryz.func25,Tryz.ntmps25
  have g:(w.alloc (.cells #[] 76)).ownsRow w.heap.size 76 2 (.slice (some ⟨w.heap.size,0,none⟩) 0 0) 0 []:=
   ⟨rfl,.inr ⟨w.heap.size,0,#[],rfl,Nat.le_refl _,zD _ _,Nat.le_refl _,by unfold maxLen;omega,rfl,rfl⟩⟩
  go_wp2_with (at_builtin;refine zy rfl _ _ 34 rfl w.heap.size 76 J (.agg #[.string ByteArray.empty,.string ByteArray.empty]) 2 32 Tryz.underlying34 L y z A rfl (by decide) _ 0 [] rfl g (some u) l.length _ (aflat l) rfl (fun e=>by cases e) (zDT l) (fun D e=>C.src D e) (zFK l) (by unfold maxLen;omega) (by omega) (by simp) ?_;intro X Y f F)
  go_ret;simp only[Nat.zero_add,List.nil_append]at f;obtain⟨o,c',R,U,V⟩:=Atts.of_own f v.wf;subst R;exact⟨⟨o,c',rfl,U,zAI f,V⟩,((Fr.refl No w).alloc _).step (zGG g F) (fun b I h=>by unfold From at h;omega)⟩
theorem zBl (d:Dev)(l:List (ByteArray×ByteArray))(w:World)(hl:Atts w d.aa d.ac l)(O:d.an=l.length)(hb:l.length<=1000000):
  Calls Tryz.prog 84 #[.agg d.vals] w fun e w'=>(∃ o c',e=.returned (.agg ({ d with aa:=o,ac:=c' }:Dev).vals)/\Atts w' o c' l/\BlkT w' o 76/\∀ g,o=some g->w.heap.size<=g.block)/\Fr No w w':=by
 obtain⟨z,A,nm,C,D,F,I,J,L,aa,an,ac⟩:=d;dsimp only at O hl;subst O;have hx:Fr No w ((w.alloc (.cells #[.int .i64 z,.int .i64 A,.string nm,.string C,.string D,.string F,.string I,.int .i64 J,.int .i64 L,.slice aa l.length ac] 36)).alloc (.cells #[.int .i64 0,.int .i64 0,.string ⟨#[]⟩,.string ⟨#[]⟩,.string ⟨#[]⟩,.string ⟨#[]⟩,.string ⟨#[]⟩,.int .i64 0,.int .i64 0,.slice none 0 0] 36)):=((Fr.refl _ _).alloc _).alloc _;have q0:=zI w (.cells #[.int .i64 z,.int .i64 A,.string nm,.string C,.string D,.string F,.string I,.int .i64 J,.int .i64 L,.slice aa l.length ac] 36) (.cells #[.int .i64 0,.int .i64 0,.string ⟨#[]⟩,.string ⟨#[]⟩,.string ⟨#[]⟩,.string ⟨#[]⟩,.string ⟨#[]⟩,.int .i64 0,.int .i64 0,.slice none 0 0] 36);have q1:=zL w (.cells #[.int .i64 z,.int .i64 A,.string nm,.string C,.string D,.string F,.string I,.int .i64 J,.int .i64 L,.slice aa l.length ac] 36) (.cells #[.int .i64 0,.int .i64 0,.string ⟨#[]⟩,.string ⟨#[]⟩,.string ⟨#[]⟩,.string ⟨#[]⟩,.string ⟨#[]⟩,.int .i64 0,.int .i64 0,.slice none 0 0] 36);show Calls Tryz.prog 84 #[.agg #[.int .i64 z,.int .i64 A,.string nm,.string C,.string D,.string F,.string I,.int .i64 J,.int .i64 L,.slice aa l.length ac]] w _
 go_enter Tryz.func84,Tryz.ntmps84
 go_upto_region 1 with(fail)
 have a2:w.heap.size+2<=((w.alloc (.cells #[.int .i64 z,.int .i64 A,.string nm,.string C,.string D,.string F,.string I,.int .i64 J,.int .i64 L,.slice aa l.length ac] 36)).alloc (.cells #[.int .i64 0,.int .i64 0,.string ⟨#[]⟩,.string ⟨#[]⟩,.string ⟨#[]⟩,.string ⟨#[]⟩,.string ⟨#[]⟩,.int .i64 0,.int .i64 0,.slice none 0 0] 36)).heap.size:=by simp
 generalize (w.alloc (.cells #[.int .i64 z,.int .i64 A,.string nm,.string C,.string D,.string F,.string I,.int .i64 J,.int .i64 L,.slice aa l.length ac] 36)).alloc (.cells #[.int .i64 0,.int .i64 0,.string ⟨#[]⟩,.string ⟨#[]⟩,.string ⟨#[]⟩,.string ⟨#[]⟩,.string ⟨#[]⟩,.int .i64 0,.int .i64 0,.slice none 0 0] 36)=W0 at *;have X:W0.cell? ⟨w.heap.size,9,none⟩=some (.slice aa l.length ac):=zB q0 9;have a3:w.heap.size<=W0.heap.size:=hx.size
 go_wp2_with fail
 refine(zCW aa ac l _ (hl.no hx (fun _=>id)) hb).mono ?_;rintro e R ⟨⟨o,c',rfl,hA,hB,f⟩,N⟩;have Y:=N.heap q0 id;have p1:=N.heap q1 id;clear X q0 q1;have X:R.cell? ⟨w.heap.size,9,none⟩=some (.slice aa l.length ac):=zB Y 9;have f9:R.frozen? ⟨w.heap.size,9,none⟩=false:=zE Y 9
 go_upto_region 2 with(fail)
 have q:Fr (Is w.heap.size) R (R.setCell ⟨w.heap.size,9,none⟩ (.slice o l.length c')):=Fr.setAt (Fr.refl _ _) _;have r0:=zF Y 9 (.slice o l.length c');have Z:=q.heap p1 (fun e=>by unfold Is at e;omega);have U:=hA.fr q (fun g e _ h=>by have:=f g e;unfold Is at h;omega);have V:=hB.fr q (fun g e h=>by have:=f g e;unfold Is at h;omega);clear Y p1 X f9;generalize R.setCell ⟨w.heap.size,9,none⟩ (.slice o l.length c')=W1 at *;obtain⟨c0,c1,c2,c3,c4,c5,c6,c7,c8,X⟩:=cl10 r0;obtain⟨z0,z1,z2,z3,z4,z5,z6,z7,z8,z9⟩:=cl10 Z;obtain⟨y0,y1,y2,y3,y4,y5,y6,y7,y8,y9⟩:=fl10 Z;have y:=zBF Z rfl ⟨z,A,nm,C,D,F,I,J,L,o,l.length,c'⟩;have u:Hid _:=And.intro (And.intro (U.fr y.2 (fun g e _ h=>by have:=f g e;unfold Is at h;omega)) (V.fr y.2 (fun g e h=>by have:=f g e;unfold Is at h;omega))) ((((hx.step N zi).step q (fun b hb e=>by unfold Is at e;omega)).step y.2 (fun b hb e=>by unfold Is at e;omega)));clear y U hA hB V r0 Z q
 go_wp2_with fail
 refine bodyPost_ret (v:=.agg #[.int .i64 z,.int .i64 A,.string nm,.string C,.string D,.string F,.string I,.int .i64 J,.int .i64 L,.slice o l.length c']) (by simp[results,Tryz.results84,go_sem,z0,z1,z2,z3,z4,z5,z6,z7,z8,z9]) rfl ?_;exact⟨⟨o,c',rfl,u.out.1.1,u.out.1.2,fun g e=>by have:=f g e;omega⟩,u.out.2⟩
structure Cop1 (w w':World)(base:Nat)(d d':Dev):Prop where
 eq:d'={ d with aa:=d'.aa,ac:=d'.ac }
 att:∃ l,Atts w d.aa d.ac l/\Atts w' d'.aa d'.ac l/\d.an=l.length/\l.length<=24
 typ:BlkT w' d'.aa 76
 fresh:∀ ad,d'.aa=some ad->base<=ad.block
structure Cop (w w':World)(base:Nat)(ds ds':List Dev):Prop where
 len:ds'.length=ds.length
 el:∀ (i:Nat) (d d':Dev),ds[i]?=some d->ds'[i]?=some d'->Cop1 w w' base d d'
theorem Cop1.fr {w w' g:World}{f:Nat}{d q:Dev}{S:Nat->Prop}(h:Cop1 w w' f d q)(u:Fr S w' g)(v:∀ o,q.aa=some o->¬ S o.block):Cop1 w g f d q:=by
 obtain⟨l,y,z,A⟩:=h.att;exact⟨h.eq,⟨l,y,z.fr u (fun o e _=>v o e),A⟩,h.typ.fr u v,h.fresh⟩
theorem Cop.fr {w w' o:World}{f:Nat}{ds g:List Dev}{S:Nat->Prop}(h:Cop w w' f ds g)(y:Fr S w' o)(z:∀ d∈g,∀ q,d.aa=some q->¬ S q.block):Cop w o f ds g:=
 ⟨h.len,fun i d u A v=>(h.el i d u A v).fr y (z u (List.mem_of_getElem? v))⟩
theorem Cop.nil (w w':World)(f:Nat):Cop w w' f [] []:=⟨rfl,fun i d g h=>by simp at h⟩
theorem Cop.snoc {w w':World}{f:Nat}{ds g:List Dev}{d u:Dev}(h:Cop w w' f ds g)(y:Cop1 w w' f d u):Cop w w' f (ds++[d]) (g++[u]):=by
 have v:=h.len;refine⟨by simp[v],fun i x z e o=>?_⟩;by_cases A:i<ds.length
 ·rw[List.getElem?_append_left A]at e;rw[List.getElem?_append_left (by omega)]at o;exact h.el i x z e o
 ·have q:i=ds.length:=by
   have:=(List.getElem?_eq_some_iff.1 e).1;simp at this;omega
  subst q;rw[List.getElem?_append_right (Nat.le_refl _)]at e;rw[List.getElem?_append_right (by omega),v]at o;simp at e o;subst e;subst o;exact y
theorem Cop.mem {w w':World}{f:Nat}{ds g:List Dev}(h:Cop w w' f ds g){o:Dev}(v:o∈g):∃ d∈ds,Cop1 w w' f d o:=by
 obtain⟨i,q⟩:=List.getElem?_of_mem v;have u:i<ds.length:=by have:=(List.getElem?_eq_some_iff.1 q).1;have:=h.len;omega
 exact⟨ds[i],List.getElem_mem u,h.el i _ _ (List.getElem?_eq_getElem u) q⟩
theorem Cop.own {w o q:World}{f base':Nat}{ds g:List Dev}{v:Value}{n:Nat}{u:List Value}(h:Cop w o f ds g)(y:o.ownsRow base' 36 10 v n u)(z:Fr (fun b=>v.ownBlock=some b) o q):Cop w q f ds g:=
 h.fr z (fun d A C e D=>by
  obtain⟨x,_,F⟩:=h.mem A;exact F.typ.ne y (by decide) C e D)
theorem zCq (a:Option Addr)(a4:Nat)(ds:List Dev)(w:World)(hl:Devs w a a4 ds)(hn:ds.length<=1000)(a5:∀ d∈ds,∃ l,Atts w d.aa d.ac l/\d.an=l.length/\l.length<=24):
  Calls Tryz.prog 83 #[.slice a ds.length a4] w fun e w'=>(∃ v L,e=.returned v/\w'.ownsRow w.heap.size 36 10 v L.length (flat L)/\Cop w w' w.heap.size ds L)/\Fr No w w':=by
 obtain⟨i0,b3,b4,b5,b6⟩:=info_parts infoD;have d7:=hl.lenmax;have b7:=zh a5;have Hn:=zh hn;clear a5 hn
 go_enter Tryz.func83,Tryz.ntmps83
 go_wp2_with fail
 go_loopw [3,8] (fun v i wr=>∃ (j:Nat) (O:List Dev) (av:Option Addr) (cv:Nat),j<=ds.length/\O.length<=j/\v=.slice av O.length cv/\i=.int .i64 (j:Int)/\wr.ownsRow w.heap.size 36 10 (.slice av O.length cv) O.length (flat O)/\Cop w wr w.heap.size (ds.take j) O/\Fr (From w.heap.size) w wr) (fun _ i _=>ds.length-(intOf i).toNat)
 case atStart=>exact⟨0,[],none,0,by omega,by simp,rfl,rfl,World.ownsRow_nil _ _ _ _,by simpa using Cop.nil _ _ _,Fr.refl _ _⟩
 case round=>
  obtain⟨j,O,av,cv,hj,d8,rfl,rfl,o,hC,N⟩:=hrel;by_cases b8:j<ds.length
  ·have d5:(j:Int)<ds.length:=by omega
   have b9:∀ F,a=some F->ds≠[]->¬ From w.heap.size F.block:=fun F e R h=>by have:=(hl.cell F e R).2.1;unfold From at h;omega
   obtain⟨bb,d9,d,rfl,hd,c0,c1,c2,c3,c4,c5,c6,c7,c8,c9⟩:=(hl.fr N b9).dev b8;have I:=List.mem_of_getElem? hd;obtain⟨l,C,U,a6⟩:=b7.out d I;have hA:Atts wr d.aa d.ac l:=C.fr N (fun F e R h=>by have:=(C.cell F e R).2.1;unfold From at h;omega);have d0:Hid (ds.take (j+1)=ds.take j++[d]):=by unfold Hid;rw[List.take_add_one,hd];rfl
   have V:=zh (And.intro C (And.intro U a6));clear hd I C;obtain⟨W1,z⟩:∃ W1,W1=wr.alloc (.cells d.vals 36):=⟨_,rfl⟩
   have D:Fr No wr W1:=by rw[z];exact(Fr.refl _ _).alloc _
   have q1:W1.heap[wr.heap.size]?=some (.cells d.vals 36):=by rw[z];exact zD _ _
   have X:=zBl d l W1 (hA.no D (fun _=>id)) U (by omega);obtain⟨z0,z1,z2,z3,z4,z5,z6,z7,z8,z9⟩:=DevB.of q1;have e0:=N.size;have e1:=D.size;have d6:=zC q1;unfold Dev.vals at z;clear U a6 hA;unfold Dev.vals at X
   go_upto_region 5 with(fail)
   rw[<-z];clear z c0 c1 c2 c3 c4 c5 c6 c7 c8 c9
   go_wp2_with fail
   refine X.mono ?_;rintro e w2 ⟨⟨J,c',rfl,a7,a8,q⟩,Y⟩;clear X z0 z1 z2 z3 z4 z5 z6 z7 z8 z9 q1;have u:Fr No wr w2:=D.step Y zi;have f:=zG o u (fun _ _=>id);have a9:=hC.fr u (fun _ _ _ _=>id);have e2:=Y.size;have d1:Hid (Cop1 w w2 w.heap.size d { d with aa:=J,ac:=c' }):=⟨rfl,⟨l,V.out.1,a7,V.out.2.1,V.out.2.2⟩,a8,fun F e=>by have:=q F e;omega⟩
   have e3:O.length<=1000:=by have:=Hn.out;omega
   have Z:=zh f;have d2:=zh a9;have Hf:=zh N;have b0:=zh u;clear hC a9 o N u D Y a7 a8 q
   go_wp2_with (at_builtin;refine wpList_append_own _ rfl _ _ 46 rfl w.heap.size 36 i0 (.agg #[.int .i64 0,.int .i64 0,.string ByteArray.empty,.string ByteArray.empty,.string ByteArray.empty,.string ByteArray.empty,.string ByteArray.empty,.int .i64 0,.int .i64 0,.slice none 0 0]) 10 136 Tryz.underlying46 b3 b4 b5 b6 rfl (by decide) _ _ _ rfl (f.alloc _) ⟨w2.heap.size,0,none⟩ 1 1 (Dev.vals { d with aa:=J,ac:=c' }).toList rfl rfl (ze _ (Dev.vals { d with aa:=J,ac:=c' }) _ rfl) (zAR _) (by unfold maxLen;omega) (by omega) (by first | omega | (simp;done) | (simp;omega)) ?_;intro v' w6 g y _;obtain⟨d3,d4,rfl⟩:=zJ g)
   have a2:Fr No w2 (w2.alloc (.cells (Dev.vals { d with aa:=J,ac:=c' }) 36)):=(Fr.refl _ _).alloc _;have A:=Z.out.alloc (.cells (Dev.vals { d with aa:=J,ac:=c' }) 36);have a3:Fr (fun b=>(Value.slice av O.length cv).ownBlock=some b) (w2.alloc (.cells (Dev.vals { d with aa:=J,ac:=c' }) 36)) w6:=Fr.of_grown y;have b1:Cop w w6 w.heap.size (ds.take (j+1)) (O++[{ d with aa:=J,ac:=c' }]):=by
    rw[d0.out];exact((d2.out.snoc d1.out).fr a2 (fun _ _ _ _=>id)).own A a3
   have b2:Fr (From w.heap.size) w w6:=((Hf.out.step b0.out (fun b _ h=>h.elim)).step a2 zn).step a3 (fun b _ h=>zP A h);have HF:=zh (And.intro g (And.intro b1 b2));clear g b1 b2 y a3 A a2 f
   go_roundw
   case rel=>exact⟨j+1,O++[{ d with aa:=J,ac:=c' }],d3,d4,by omega,by simp;omega,by simp,by go_num,by rw[List.length_append,zB1];exact HF.out.1,HF.out.2.1,HF.out.2.2⟩
   case measure=>simp[intOf];omega
  ·obtain rfl:j=ds.length:=by omega
   rw[List.take_length]at hC;have H:=zh (And.intro o (And.intro hC (N.mono (T:=No) (fun b hb h=>by unfold From at h;omega))));clear o hC N
   go_wp2_with fail
   go_ret;exact⟨⟨_,O,rfl,H.out.1,H.out.2.1⟩,H.out.2.2⟩
def goodF : UInt8->Bool:=fun c=>zAf c||(⟨#[64,35,61,37]⟩:ByteArray).data.toList.contains c
theorem zK5 (w:World):
  Calls Tryz.prog 188 #[] w fun e w'=>e=.returned (.agg (bits goodF))/\Fr No w w':=by
 have o:(Tryz.prog.info? 143).map (·.size)=some 256:=by kernel_rfl
 have D:Tryz.zeroCells143.size=256:=by kernel_rfl
 have q:Fr No w (w.alloc (.cells Tryz.zeroCells143 143)):=(Fr.refl _ _).alloc _;have u:=zD w (.cells Tryz.zeroCells143 143);have y:=zh (And.intro u q);clear u q;have z:=fun W=>zAv zAf ⟨#[64,35,61,37]⟩ W (by decide)
 have F:=zh z;clear z
 go_enter Tryz.func188,Tryz.ntmps188
 go_wp2_with fail
 refine(zC2 _).mono ?_;rintro e L ⟨rfl,f⟩
 go_wp2_with fail
 refine(F.out _).mono ?_;rintro e I ⟨rfl,g⟩;have h:=(y.out.2.step f zi).step g zi;have A:=g.heap (f.heap y.out.1 id) id
 go_wp2_with (refine wpList_store_row rfl 143 _ _ rfl w.heap.size (bits goodF) rfl rfl 143 _ A (by rw[zu];exact o) (by rw[zu];exact D) (zCh _) ?_)
 have J:=setRow_heap I w.heap.size _ (bits goodF) 143 (0,0) A;refine bodyPost_ret (v:=.agg (bits goodF)) (results_cell_row rfl _ _ w.heap.size 143 _ (0,0) _ rfl J Tryz.underlying143 rfl (by rw[zu];exact o)) rfl ?_;exact⟨rfl,h.step (T:=Is w.heap.size) ⟨rfl,rfl,rfl,by simp,fun b _ C=>setRow_other _ _ _ _ (fun e=>C e)⟩ (fun b C e=>by unfold Is at e;omega)⟩
def dotsB (s:ByteArray):Bool:=decide (s.toList=[46])||decide (s.toList=[46,46])
def zBD (s:ByteArray):Bool:=!s.toList.isEmpty&&!dotsB s&&allB goodF s
theorem zIM (u:Nat)(s:ByteArray)(w:World)(z:w.heap[u]?=some (.cells (bits goodF) 143))(C:s.size<=maxLen):
  Calls Tryz.prog 191 #[.string s,.pointer (some ⟨u,0,none⟩)] w fun e w'=>e=.returned (.bool (zBD s))/\Fr No w w':=by
 have D:(Tryz.prog.info? 143).map (·.size)=some 256:=by kernel_rfl
 obtain⟨h,f⟩:∃ h,h=zBD s:=⟨_,rfl⟩
 rw[<-f];have g:Hid (h=(!s.toList.isEmpty&&!dotsB s&&allB goodF s)):=f;have F:=zh z;clear f z;rcases he:s.toList.isEmpty with _ | _
 ·have v:=zE0 s w;have y:Hid ((decide (s.toList=[46])||decide (s.toList=[46,46]))=dotsB s):=rfl;rw[y.out]at v;have I:=zh he
  go_enter Tryz.func191,Tryz.ntmps191
  go_wp2_with fail
  refine v.mono ?_;rintro e N ⟨rfl,rfl⟩;clear v;rcases hq:dotsB s with _ | _
  ·have o:Hid (h=allB goodF s):=by unfold Hid;rw[g.out,I.out,hq];rfl
   clear hq;have A:=zGJ goodF s w C
   go_wp2_with fail
   rename_i J;refine wp_load_row 143 _ rfl u rfl 143 _ (0,0) _ F.out Tryz.underlying143 rfl (by rw[zu];exact D) ?_;refine J _ _ ?_
   go_wp2_with fail
   refine A.mono ?_;rintro e O ⟨rfl,q⟩;have L:=zh q;clear q A
   go_wp2_with fail
   go_ret;exact⟨zK o.out.symm,L.out⟩
  ·have o:Hid (h=false):=by unfold Hid;rw[g.out,hq];simp
   clear hq
   go_wp2_with fail
   go_ret;exact⟨zK o.out.symm,Fr.refl _ _⟩
 ·have o:Hid (h=false):=by unfold Hid;rw[g.out,he];rfl
  go_enter Tryz.func191,Tryz.ntmps191
  go_wp2_with fail
  go_ret;exact⟨zK o.out.symm,Fr.refl _ _⟩
theorem zKA (o f:Nat)(s:ByteArray)(w:World)(v:w.cell? ⟨o,0,none⟩=some (.func (.func 191) #[] #[.pointer (some ⟨f,0,none⟩)]))(q:w.heap[f]?=some (.cells (bits goodF) 143))(u:s.size<=maxLen):
  Calls Tryz.prog 233 #[.string s,.pointer (some ⟨o,0,none⟩)] w fun e w'=>e=.returned (.bool (!zBD s))/\Fr No w w':=by
 have h:=zIM f s w q u;clear q
 go_enter Tryz.func233,Tryz.ntmps233
 go_wp2_with fail
 refine h.mono ?_;rintro e y ⟨rfl,g⟩
 go_wp2_with fail
 go_ret;exact⟨rfl,g⟩
theorem zHa (y z:Nat)(I:Option Addr)(J:Nat)(l:List ByteArray)(w:World)(R:w.cell? ⟨y,0,none⟩=some (.func (.func 191) #[] #[.pointer (some ⟨z,0,none⟩)]))(L:w.heap[z]?=some (.cells (bits goodF) 143))(N:Strs w I J l)(U:∀ x∈l,x.size<=maxLen):
  Calls Tryz.prog 69 #[.slice I l.length J,.func (.func 233) #[] #[.pointer (some ⟨y,0,none⟩)]] w fun e w'=>(∃ r:Int,e=.returned (.int .i64 r)/\decide (0<=r)=!l.all zBD)/\Fr No w w':=by
 have hm:=N.lenmax;have V:=zh L;clear L
 go_enter Tryz.func69,Tryz.ntmps69
 go_wp2_with fail
 go_loopw [8] (fun i wr=>∃ k:Nat,k<=l.length/\i=.int .i64 k/\Hid ((l.take k).all zBD=true)/\Fr No w wr) (fun i _=>l.length-(intOf i).toNat)
 case atStart=>exact⟨0,by omega,rfl,by unfold Hid;simp,Fr.refl _ _⟩
 case round=>
  obtain⟨k,hk,rfl,q,f⟩:=hrel;by_cases A:k<l.length
  ·have O:(k:Int)<l.length:=by omega
   obtain⟨bb,X,x,rfl,v,Y⟩:=(N.no f (fun _=>id)).at A;have C:=U x (List.mem_of_getElem? v);have D:Hid (l.take (k+1)=l.take k++[x]):=by unfold Hid;rw[List.take_add_one,v];rfl
   have u:=zh (List.mem_of_getElem? v);clear v;have o:=zKA y z x wr (f.cell R id) (f.heap V.out id) C
   go_wp2_with fail
   refine o.mono ?_;rintro e w1 ⟨rfl,F⟩;have g:=f.step F zi;clear Y o;cases o:zBD x
   ·have Z:Hid (l.all zBD=false):=by unfold Hid;rw[List.all_eq_false];exact⟨x,u.out,by rw[o];simp⟩
    clear o
    go_wp2_with fail
    go_ret;exact⟨⟨(k:Int),rfl,by rw[Z.out];simp⟩,g⟩
   ·have Hn:Hid ((l.take (k+1)).all zBD=true):=by unfold Hid;rw[D.out,List.all_append,q.out];simp[o]
    clear o
    go_wp2_with fail
    go_roundw
    case rel=>exact⟨k+1,by omega,by go_num,Hn,g⟩
    case measure=>simp[intOf];omega
  ·have h:=q.out;rw[List.take_of_length_le (by omega)]at h;have Hp:=zh h;clear h
   go_wp2_with fail
   go_ret;exact⟨⟨-1,rfl,by rw[Hp.out];rfl⟩,f⟩
theorem zJg (g:Nat)(h:Option Addr)(o:Nat)(l:List ByteArray)(w:World)(v:w.heap[g]?=some (.cells (bits goodF) 143))(z:Strs w h o l)(A:∀ x∈l,x.size<=maxLen):
  Calls Tryz.prog 189 #[.slice h l.length o,.func (.func 191) #[] #[.pointer (some ⟨g,0,none⟩)]] w fun e w'=>e=.returned (.bool (l.all zBD))/\Fr No w w':=by
 have q:Fr No w (w.alloc (.cells #[.func (.func 191) #[] #[.pointer (some ⟨g,0,none⟩)]] 98)):=(Fr.refl _ _).alloc _;have C:=zD w (.cells #[.func (.func 191) #[] #[.pointer (some ⟨g,0,none⟩)]] 98);have u:=z.no q (fun _=>id);have D:=zh (q.heap v id);clear v
 go_enter Tryz.func189,Tryz.ntmps189
 go_wp2_with fail
 generalize w.alloc (.cells #[.func (.func 191) #[] #[.pointer (some ⟨g,0,none⟩)]] 98)=W0 at *;refine(show Calls Tryz.prog 33 _ _ (fun e w'=>e=.returned (.bool (!l.all zBD))/\Fr No W0 w')from ?_).mono ?_
 ·go_enter Tryz.func33,Tryz.ntmps33
  go_wp2_with fail
  refine(zHa w.heap.size g h o l _ (zB C 0) D.out u A).mono ?_;rintro e F ⟨⟨r,rfl,y⟩,f⟩;have I:=zh y;clear y
  go_wp2_with fail
  go_ret;exact⟨zK I.out,f⟩
 ·rintro e F ⟨rfl,f⟩
  go_wp2_with fail
  go_ret;exact⟨zK (by simp),q.step f zi⟩
def lparts (s:ByteArray):List ByteArray:=(spl 47 s.data.toList).map fun x=>⟨x.toArray⟩
def zEN (s:ByteArray):Bool:=decide (s.size<=256)&&(lparts s).all zBD
theorem zFg (s:ByteArray):∀ x∈lparts s,x.size<=s.size:=by
 intro x f;unfold lparts at f;obtain⟨y,g,rfl⟩:=List.mem_map.1 f;have:=zHr 47 s.data.toList y g;have e:s.data.toList.length=s.size:=Array.length_toList;show (y.toArray).size<=_
 rw[List.size_toArray];omega
theorem zLw (s:ByteArray)(m:Int)(w:World)(hs:s.size<=3000000)(hm:w.cell? ⟨0,0,none⟩=some (.int .i64 m))(h0:0<w.heap.size):
  Calls Tryz.prog 135 #[.string s] w fun e w'=>e=.returned (.bool (zEN s))/\Fr No w w':=by
 have hi:(Tryz.prog.info? 143).map (·.size)=some 256:=by kernel_rfl
 have hz:Tryz.zeroCells143.size=256:=by kernel_rfl
 obtain⟨F,z⟩:∃ F,F=zEN s:=⟨_,rfl⟩
 rw[<-z];have I:Hid (F=(decide (s.size<=256)&&(lparts s).all zBD)):=z;clear z;have v:Lib.countB s ⟨#[47]⟩+1=(lparts s).length:=zEq s;have f:Lib.splitB ⟨#[47]⟩ 0 (Lib.countB s ⟨#[47]⟩) s=lparts s:=zBj s;have J:=Lib.countB_le ⟨#[47]⟩ (by decide) s.size s (Nat.le_refl _);have N:(lparts s).length<=maxLen:=by unfold maxLen;omega
 have O:=zFg s;have Y:∀ W:World,W.cell? ⟨0,0,none⟩=some (.int .i64 m)->_:=fun W h=>Tryz.strings_Split s ⟨#[47]⟩ m W (by omega) h (by decide)
 rw[f,v]at Y;have Hp:=zh Y;have Z:=zh N;have a2:=zh O;clear Y N O f v J;generalize lparts s=L at *
 go_enter Tryz.func135,Tryz.ntmps135
 go_wp2_with fail
 refine(zK5 _).mono ?_;rintro e g ⟨rfl,A⟩;have a3:=A.cell hm id;have x1:Fr No w (g.alloc (.cells Tryz.zeroCells143 143)):=A.alloc _;have p1:=zD g (.cells Tryz.zeroCells143 143);have a6:=A.size;have R:(g.alloc (.cells Tryz.zeroCells143 143)).cell? ⟨0,0,none⟩=some (.int .i64 m):=((Fr.refl No g).alloc _).cell a3 id;obtain⟨o,q⟩:∃ o,o=(g.alloc (.cells Tryz.zeroCells143 143)).setRow g.heap.size (bits goodF):=⟨_,rfl⟩
 have hg:o.heap[g.heap.size]?=some (.cells (bits goodF) 143):=by rw[q];exact setRow_heap _ g.heap.size _ (bits goodF) 143 (0,0) p1
 have x2:Fr (Is g.heap.size) (g.alloc (.cells Tryz.zeroCells143 143)) o:=by rw[q];exact⟨rfl,rfl,rfl,by simp,fun b _ hb=>setRow_other _ _ _ _ (fun e=>hb e)⟩
 have U:=zh (x1.step x2 (fun b hb e=>by unfold Is at e;omega));have a4:=x2.cell R (fun e=>by unfold Is at e;dsimp only at e;omega)
 go_upto_region 2 with(refine wpList_store_row rfl 143 _ _ rfl g.heap.size (bits goodF) rfl rfl 143 _ p1 (by rw[zu];exact hi) (by rw[zu];exact hz) (zCh _) ?_)
 rw[<-q];clear q p1 x1 x2 R;by_cases y:s.size<=256
 ·have C:(s.size:Int)<=256:=by omega
  have Hv:Hid (F=L.all zBD):=by unfold Hid;rw[I.out,decide_eq_true y];rfl
  have D:=Hp.out o a4;obtain⟨V,u⟩:∃ V,V=o.alloc (.cells (L.map Value.string).toArray 9):=⟨_,rfl⟩
  have x4:Fr No o V:=by rw[u];exact(Fr.refl _ _).alloc _
  have a5:Strs V (some ⟨o.heap.size,0,none⟩) L.length L:=by rw[u];exact Strs.new o L 9 Z.out
  rw[<-u]at D;have f:=zJg g.heap.size _ _ L V (x4.heap hg id) a5 (fun x hx=>Nat.le_trans (a2.out x hx) (by unfold maxLen;omega));clear u hg
  go_wp2_with fail
  refine D.mono ?_;rintro e w3 ⟨rfl,rfl⟩;clear D
  go_wp2_with fail
  refine f.mono ?_;rintro e w4 ⟨rfl,X⟩;clear f;have Hf:=zh ((U.out.step x4 zi).step X zi);clear X x4
  go_wp2_with fail
  go_ret;exact⟨zK Hv.out.symm,Hf.out⟩
 ·have C:¬ (s.size:Int)<=256:=by omega
  have Hv:Hid (F=false):=by unfold Hid;rw[I.out,decide_eq_false y];rfl
  clear hg
  go_wp2_with fail
  go_ret;exact⟨zK Hv.out.symm,U.out⟩
def attrOk (x:ByteArray×ByteArray):Bool:=isName x.1&&!x.2.toList.isEmpty&&zAr x.2
theorem zJ5 (x y:ByteArray)(w:World)(L:x.size<=maxLen)(N:y.size<=maxLen):
  Calls Tryz.prog 186 #[.agg #[.string x,.string y]] w fun e w'=>e=.returned (.bool (!attrOk (x,y)))/\Fr No w w':=by
 obtain⟨q,f⟩:∃ q,q=w.alloc (.cells #[.string x,.string y] 76):=⟨_,rfl⟩
 have z:Fr No w q:=by rw[f];exact(Fr.refl _ _).alloc _
 have A:q.heap[w.heap.size]?=some (.cells #[.string x,.string y] 76):=by rw[f];exact zD _ _
 obtain⟨D,F⟩:=cl2 A;have I:=zAL x q L;obtain⟨o,g⟩:∃ o,o=attrOk (x,y):=⟨_,rfl⟩
 rw[<-g];have h:Hid (o=(isName x&&!y.toList.isEmpty&&zAr y)):=g;clear g
 go_enter Tryz.func186,Tryz.ntmps186
 go_upto_region 1 with(fail)
 rw[<-f];clear f
 go_wp2_with fail
 refine I.mono ?_;rintro e R ⟨rfl,u⟩;have O:=u.heap A id;have C:=z.step u zi;clear D F A I;obtain⟨D,F⟩:=cl2 O;rcases h1:isName x with _ | _
 ·have v:Hid (o=false):=by unfold Hid;rw[h.out,h1];rfl
  clear h1
  go_wp2_with fail
  go_ret;exact⟨zK (by rw[v.out];rfl),C⟩
 have J:=zh h1;clear h1;rcases h2:y.toList.isEmpty with _ | _
 ·have v:Hid (o=zAr y):=by unfold Hid;rw[h.out,J.out,h2];rfl
  go_wp2_with fail
  refine(zEz y _ N).mono ?_;rintro e U ⟨rfl,rfl⟩
  go_wp2_with fail
  go_ret;exact⟨zK (by rw[v.out]),C⟩
 ·have v:Hid (o=false):=by unfold Hid;rw[h.out,J.out,h2];rfl
  go_wp2_with fail
  go_ret;exact⟨zK (by rw[v.out];rfl),C⟩
theorem zIx (a:Option Addr)(g:Nat)(l:List (ByteArray×ByteArray))(w:World)(N:Atts w a g l):
  Calls Tryz.prog 185 #[.slice a l.length g,.func (.func 186) #[] #[]] w fun e w'=>e=.returned (.bool (!l.all attrOk))/\Fr No w w':=by
 have hm:=N.lenmax;have v:Calls Tryz.prog 231 #[.slice a l.length g,.func (.func 186) #[] #[]] w fun e w'=>(∃ r:Int,e=.returned (.int .i64 r)/\decide (0<=r)=!l.all attrOk)/\Fr No w w':=by
  go_enter Tryz.func231,Tryz.ntmps231
  go_wp2_with fail
  go_loopw [8] (fun i wr=>∃ k:Nat,k<=l.length/\i=.int .i64 k/\Hid ((l.take k).all attrOk=true)/\Fr No w wr) (fun i _=>l.length-(intOf i).toNat)
  case atStart=>exact⟨0,by omega,rfl,by unfold Hid;simp,Fr.refl _ _⟩
  case round=>
   obtain⟨k,hk,rfl,z,o⟩:=hrel;by_cases C:k<l.length
   ·have O:(k:Int)<l.length:=by omega
    obtain⟨bb,U,x,y,rfl,D,F,I,V,X⟩:=(N.no o (fun _=>id)).at C;have J:Hid (l.take (k+1)=l.take k++[(x,y)]):=by unfold Hid;rw[List.take_add_one,D];rfl
    have A:=zh (List.mem_of_getElem? D);clear D;have q:=zJ5 x y wr F I
    go_wp2_with fail
    refine q.mono ?_;rintro e Y ⟨rfl,u⟩;have f:=o.step u zi;clear V X q;cases q:attrOk (x,y)
    ·have L:Hid (l.all attrOk=false):=by unfold Hid;rw[List.all_eq_false];exact⟨_,A.out,by rw[q];simp⟩
     clear q
     go_wp2_with fail
     go_ret;exact⟨⟨(k:Int),rfl,by rw[L.out];simp⟩,f⟩
    ·have Z:Hid ((l.take (k+1)).all attrOk=true):=by unfold Hid;rw[J.out,List.all_append,z.out];simp[q]
     clear q
     go_wp2_with fail
     go_roundw
     case rel=>exact⟨k+1,by omega,by go_num,Z,f⟩
     case measure=>simp[intOf];omega
   ·have h:=z.out;rw[List.take_of_length_le (by omega)]at h;have Hp:=zh h;clear h
    go_wp2_with fail
    go_ret;exact⟨⟨-1,rfl,by rw[Hp.out];rfl⟩,o⟩
 go_enter Tryz.func185,Tryz.ntmps185
 go_wp2_with fail
 refine v.mono ?_;rintro e Y ⟨⟨r,rfl,R⟩,u⟩;have L:=zh R;clear R
 go_wp2_with fail
 go_ret;exact⟨zK L.out,u⟩
theorem zIg (a:Option Addr)(f:Nat)(l:List (ByteArray×ByteArray))(w:World)(h:Atts w a f l)(o:l.length<=1):
  Calls Tryz.prog 184 #[.slice a l.length f] w fun e w'=>e=.returned (.bool true)/\Fr No w w':=by
 have g:¬ (1:Int)<l.length:=by omega
 go_enter Tryz.func184,Tryz.ntmps184
 go_wp2_with fail
 go_loopw [3] (fun i wr=>i=.int .i64 1/\wr=w) (fun i _=>0)
 case atStart=>exact⟨rfl,rfl⟩
 case round=>
  obtain⟨rfl,rfl⟩:=hrel
  go_wp2_with fail
  go_ret;exact⟨rfl,Fr.refl _ _⟩
theorem zET (a:Option Addr)(f:Nat)(l:List (ByteArray×ByteArray))(w:World)(o:Atts w a f l)(u:l.length<=1):
  Calls Tryz.prog 133 #[.slice a l.length f] w fun e w'=>e=.returned (.bool (l.all attrOk))/\Fr No w w':=by
 have q:=zIg a f l w o u
 go_enter Tryz.func133,Tryz.ntmps133
 go_wp2_with fail
 refine q.mono ?_;rintro e v ⟨rfl,g⟩;have y:=zIx a f l v (o.no g (fun _=>id));clear q
 go_wp2_with fail
 refine y.mono ?_;rintro e z ⟨rfl,h⟩
 go_wp2_with fail
 go_ret;exact⟨zK (by simp),g.step h zi⟩
theorem zCj {w:World}{h:Array Oper}{f:List Oper}{o:Oper}{a:Act}{Q:Exit->Act->World->Prop}(y:o.guard=none)(m x:Operand)(t:TypeId)(u:o.op=Op.lookup t m x true)(z:Tryz.prog.underlying t=some (.map 3 9))
  (v:Nat) (g:Int->Option ByteArray) (N:Nat) (k:Int) (A:(Lit.int .i64 k).wf=true) (C:a.eval m=.map (some v)) (q:SMap w v g N) (D:a.eval x=.int .i64 k)
  (s:ByteArray) (F:(g k).getD ⟨#[]⟩=s) (b:Bool) (I:(g k).isSome=b)
  (J:wpList Tryz.prog h Q f (a.put o.dst (.tuple #[.string s,.bool b])) w):wpList Tryz.prog h Q (o::f) a w:=by
 subst F I;exact zDb y m x t u z v g N k A C q D J
theorem zEH {ds:List Dev}(f:TreeOk ds)(n:Int):ogs ds n=(look ds n).map fun _=>pathOf (origin ds n):=by
 have:=zGH f ds.length (Nat.le_refl _) n
 rwa [List.take_of_length_le (Nat.le_refl _)]at this
def newO (ds:List Dev)(d:Dev):ByteArray:=plc ds d.parent++⟨#[47]⟩++d.orig
def zAE (ds:List Dev)(og:ByteArray)(x:Dev):Bool:=decide (0<=(cmpP (plc ds x.index) og).1)
theorem zGE {ds:List Dev}(f:TreeOk ds)(g:ds.length<=1000)(n:Int):(plc ds n).size<=33000:=by
 have h:=zBZ f.sz ds.length n;rw[List.take_of_length_le (Nat.le_refl _),zCJ f]at h;omega
theorem zIT (d:Dev)(ds:List Dev)(a:Option Addr)(q R u D F:Nat)(s:ByteArray)(m:Int)(w:World)(v:TreeOk ds)(U:ds.length<=1000)(V:s.size<=1000000)(X:d∈ds)(I:w.heap[D]?=some (.cells #[.slice a ds.length q,.map (some R),.map (some u)] 115))(J:SMap w u (ogs ds) ds.length)(L:w.cell? ⟨F,0,none⟩=some (.string s))(N:w.cell? ⟨0,0,none⟩=some (.int .i64 m)):
  Calls Tryz.prog 77 #[.agg d.vals,.pointer (some ⟨D,0,none⟩),.pointer (some ⟨F,0,none⟩)] w fun e w'=>e=.returned (.bool (zAE ds s d))/\Fr No w w':=by
 obtain⟨g,f⟩:∃ g,g=w.alloc (.cells d.vals 36):=⟨_,rfl⟩
 have h:Fr No w g:=by rw[f];exact(Fr.refl _ _).alloc _
 have O:g.heap[w.heap.size]?=some (.cells d.vals 36):=by rw[f];exact zD _ _
 have Y:=h.cell L id;have o:=h.heap I id;have v2:=zB o 2;have c0:=(DevB.of O).c0;have y:=J.fr h id;have A:=v.iwf X;have hp:(ogs ds d.index).getD ⟨#[]⟩=plc ds d.index:=zCJ v d.index;have Z:=zGz (plc ds d.index) s m g (by have:=zGE v U d.index;omega) V (h.cell N id);have Hr:Hid (zAE ds s d=decide (0<=(cmpP (plc ds d.index) s).1)):=rfl;generalize zAE ds s d=rb at *;generalize hz:(cmpP (plc ds d.index) s).1=z at *;generalize plc ds d.index=P at *;clear hz;clear L I J o O N;unfold Dev.vals at f ⊢
 go_enter Tryz.func77,Tryz.ntmps77
 go_upto_region 1 with(fail)
 rw[<-f];clear f
 go_wp2_with (at_lookup;refine zFN rfl _ _ 113 rfl rfl u _ _ d.index A rfl y rfl ?_)
 refine Z.mono ?_;rintro e w1 ⟨rfl,C⟩
 go_wp2_with fail
 go_ret;exact⟨zK Hr.out.symm,h.step C zi⟩
theorem zDY (h b:Nat)(a:Option Addr)(n f:Nat)(O:List Value)(d:Dev)(w:World)(o:w.ownsRow h 36 10 (.slice a n f) n O)(hn:n<=100000)(X:w.heap[b]?=some (.cells d.vals 36))(y:h<=w.heap.size):
  Calls Tryz.prog 82 #[.slice a n f,.int .i64 (n:Int),.slice (some ⟨b,0,none⟩) 1 1] w fun e w'=>(∃ R c',e=.returned (.slice R (n+1) c')/\w'.ownsRow h 36 10 (.slice R (n+1) c') (n+1) (O++d.vals.toList))/\Fr (fun b=>(Value.slice a n f).ownBlock=some b) w w':=by
 obtain⟨Y,A,C,D,F⟩:=info_parts infoD;have q:∀ j u,d.vals.toList[j]?=some u->w.cell? ((⟨b,0,none⟩:Addr).add j)=some u:=by
  intro j u Z;rw[Addr.add_lit,zB X]
  simpa using Z
 have U:n<=f:=by
  obtain⟨_,⟨z,h2⟩ | ⟨g,c,I,z,_,_,V,_⟩⟩:=o
  ·cases z;omega
  ·cases z;exact V
 have a2:f<=9223372036854775807:=by
  obtain⟨_,⟨z,h2⟩ | ⟨g,c,I,z,_,_,V,h4,_⟩⟩:=o
  ·cases z;omega
  ·cases z;unfold maxLen at h4;omega
 have J:(n:Int)<=f:=by omega
 go_enter Tryz.func82,Tryz.ntmps82
 go_wp2_with (at_builtin;refine zy rfl _ _ 46 rfl h 36 Y (.agg #[.int .i64 0,.int .i64 0,.string ByteArray.empty,.string ByteArray.empty,.string ByteArray.empty,.string ByteArray.empty,.string ByteArray.empty,.int .i64 0,.int .i64 0,.slice none 0 0]) 10 136 Tryz.underlying46 A C D F rfl (by decide) _ _ _ rfl o (some ⟨b,0,none⟩) 1 1 d.vals.toList rfl (fun e=>by cases e) rfl (fun a3 e=>by cases e;exact q) (zAR _) (by unfold maxLen;omega) (by omega) y ?_;intro v3 w3 v L;have N:w.grownBy w3 (Value.slice a n f).ownBlock:=L;obtain⟨av,cv,rfl⟩:=zJ v)
 all_goals (go_ret;subst_vars;exact⟨⟨av,cv,rfl,v⟩,Fr.of_grown N⟩)
end Go.Proofs.YtinfjnndbfahhaaGreatDoor
