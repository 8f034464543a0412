import Derived.Test.YtinfjnndbfahhaaGreatDoorQ8
import Derived.Test.YtinfjnndbfahhaaGreatDoorQ9
import Derived.TacticsIn
namespace Go.Proofs.YtinfjnndbfahhaaGreatDoor
open Go.RowKit Go.Maps Go.Shelf
set_option linter.unusedVariables false
set_option maxRecDepth 100000
set_option maxHeartbeats 4000000
structure Src where
 at_:Int
 d:Dev
 o:ByteArray
 r:Int
def Src.vals (s:Src):Array Value:=#[.int .i64 s.at_,.int .i64 s.d.index,.int .i64 s.d.parent,.string s.d.name,.string s.d.orig,.string s.d.sub,.string s.d.drv,.string s.d.ali,.int .i64 s.d.kind,.int .i64 s.d.num,.slice s.d.aa s.d.an s.d.ac,.string s.o,.int .i64 s.r]
structure SrcB (W:World)(b o:Nat)(s:Src):Prop where
 c0:W.cell? ⟨b,o,none⟩=some (.int .i64 s.at_)
 c1:W.cell? ⟨b,o+1,none⟩=some (.int .i64 s.d.index)
 c2:W.cell? ⟨b,o+2,none⟩=some (.int .i64 s.d.parent)
 c3:W.cell? ⟨b,o+3,none⟩=some (.string s.d.name)
 c4:W.cell? ⟨b,o+4,none⟩=some (.string s.d.orig)
 c5:W.cell? ⟨b,o+5,none⟩=some (.string s.d.sub)
 c6:W.cell? ⟨b,o+6,none⟩=some (.string s.d.drv)
 c7:W.cell? ⟨b,o+7,none⟩=some (.string s.d.ali)
 c8:W.cell? ⟨b,o+8,none⟩=some (.int .i64 s.d.kind)
 c9:W.cell? ⟨b,o+9,none⟩=some (.int .i64 s.d.num)
 c10:W.cell? ⟨b,o+10,none⟩=some (.slice s.d.aa s.d.an s.d.ac)
 c11:W.cell? ⟨b,o+11,none⟩=some (.string s.o)
 c12:W.cell? ⟨b,o+12,none⟩=some (.int .i64 s.r)
structure SrcB0 (W:World)(b:Nat)(s:Src):Prop where
 c0:W.cell? ⟨b,0,none⟩=some (.int .i64 s.at_)
 c1:W.cell? ⟨b,1,none⟩=some (.int .i64 s.d.index)
 c2:W.cell? ⟨b,2,none⟩=some (.int .i64 s.d.parent)
 c3:W.cell? ⟨b,3,none⟩=some (.string s.d.name)
 c4:W.cell? ⟨b,4,none⟩=some (.string s.d.orig)
 c5:W.cell? ⟨b,5,none⟩=some (.string s.d.sub)
 c6:W.cell? ⟨b,6,none⟩=some (.string s.d.drv)
 c7:W.cell? ⟨b,7,none⟩=some (.string s.d.ali)
 c8:W.cell? ⟨b,8,none⟩=some (.int .i64 s.d.kind)
 c9:W.cell? ⟨b,9,none⟩=some (.int .i64 s.d.num)
 c10:W.cell? ⟨b,10,none⟩=some (.slice s.d.aa s.d.an s.d.ac)
 c11:W.cell? ⟨b,11,none⟩=some (.string s.o)
 c12:W.cell? ⟨b,12,none⟩=some (.int .i64 s.r)
theorem SrcB0.of {W:World}{b:Nat}{s:Src}{T:TypeId}{f:Nat×Nat}(h:W.heap[b]?=some (.cells s.vals T f)):SrcB0 W b s:=
 ⟨zB h 0,zB h 1,zB h 2,zB h 3,zB h 4,zB h 5,zB h 6,zB h 7,zB h 8,zB h 9,zB h 10,zB h 11,zB h 12⟩
structure Srcs (w:World)(a:Option Addr)(cap:Nat)(L:List Src):Prop where
 len:L.length<=cap
 max:cap<=maxLen
 isNil:a=none->L=[]/\cap=0
 cell:∀ ad,a=some ad->L≠[]->ad.spot=none/\ad.block<w.heap.size/\∀ i s,L[i]?=some s->∀ j,j<13->w.cell? ⟨ad.block,ad.off+(i*13+j),none⟩=s.vals[j]?
theorem Srcs.elem {w:World}{a:Option Addr}{q:Nat}{L:List Src}(h:Srcs w a q L){k:Nat}(o:k<L.length):
  ∃ b g s,a=some ⟨b,g,none⟩/\L[k]?=some s/\SrcB w b (g+k*13) s/\b<w.heap.size:=by
 cases a with
 | none=>have:=(h.isNil rfl).1;subst this;simp at o
 | some z=>
  obtain⟨b,g,A⟩:=z;obtain⟨u,v,y⟩:=h.cell _ rfl (by intro e;subst e;simp at o);simp only at u v y;subst u;have f:=y k L[k] (List.getElem?_eq_getElem o);refine⟨b,g,L[k],rfl,List.getElem?_eq_getElem o,⟨?_,?_,?_,?_,?_,?_,?_,?_,?_,?_,?_,?_,?_⟩,v⟩
  ·exact f 0 (by omega)
  ·exact f 1 (by omega)
  ·exact f 2 (by omega)
  ·exact f 3 (by omega)
  ·exact f 4 (by omega)
  ·exact f 5 (by omega)
  ·exact f 6 (by omega)
  ·exact f 7 (by omega)
  ·exact f 8 (by omega)
  ·exact f 9 (by omega)
  ·exact f 10 (by omega)
  ·exact f 11 (by omega)
  ·exact f 12 (by omega)
theorem Srcs.lenmax {w:World}{a:Option Addr}{f:Nat}{L:List Src}(h:Srcs w a f L):L.length<=9223372036854775807:=by
 have o:=h.len;have g:=h.max;unfold maxLen at g;omega
theorem Srcs.fr {S:Nat->Prop}{w w':World}{a:Option Addr}{f:Nat}{L:List Src}(h:Srcs w a f L)(q:Fr S w w')(y:∀ g,a=some g->L≠[]->¬ S g.block):Srcs w' a f L:=
 ⟨h.len,h.max,h.isNil,fun g e o=>by
  obtain⟨z,A,C⟩:=h.cell g e o;refine⟨z,Nat.lt_of_lt_of_le A q.size,fun i s D j u=>?_⟩;have v:=C i s D j u;have F:j<s.vals.size:=u;rw[Array.getElem?_eq_getElem F]at v ⊢;exact q.cell v (y g e o)⟩
theorem Srcs.nil (w:World):Srcs w none 0 []:=⟨by simp,by simp,fun _=>⟨rfl,rfl⟩,fun _ e _=>by cases e⟩
def sflat (L:List Src):List Value:=L.flatMap (fun s=>s.vals.toList)
theorem zCG (L:List Src)(s:Src):sflat (L++[s])=sflat L++s.vals.toList:=by simp[sflat]
theorem zBt (s:Src):∀ u∈s.vals.toList,u.oneCell'=true:=by
 intro u f;simp[Src.vals]at f;rcases f with rfl | rfl | rfl | rfl | rfl | rfl | rfl | rfl | rfl | rfl | rfl | rfl | rfl<;>rfl
theorem zEt (L:List Src):(sflat L).length=L.length*13:=by
 induction L with
 | nil=>rfl
 | cons x t f=>
  have:sflat (x::t)=x.vals.toList++sflat t:=by simp[sflat]
  rw[this,List.length_append,f];simp[Src.vals];omega
theorem zD7 : ∀ (L:List Src) (i:Nat) (s:Src),L[i]?=some s->∀ j,j<13->(sflat L)[i*13+j]?=s.vals[j]?
 | [],i,s,h,j,f=>by simp at h
 | x::t,0,s,h,j,f=>by
  simp at h;subst h;have:sflat (x::t)=x.vals.toList++sflat t:=by simp[sflat]
  rw[this,List.getElem?_append_left (by simp[Src.vals];omega)];simp
 | x::t,i+1,s,h,j,f=>by
  have e:sflat (x::t)=x.vals.toList++sflat t:=by simp[sflat]
  have g:x.vals.toList.length=13:=rfl;rw[e,List.getElem?_append_right (by rw[g];omega),g,show (i+1)*13+j-13=i*13+j from by omega];exact zD7 t i s (by simpa using h) j f
theorem Srcs.of_own {w:World}{o:Nat}{e:TypeId}{v:Value}{L:List Src}(h:w.ownsRow o e 13 v L.length (sflat L)):
  ∃ a f,v=.slice a L.length f/\Srcs w a f L/\∀ q,a=some q->o<=q.block:=by
 obtain⟨_,⟨rfl,u⟩ | ⟨g,f,A,rfl,C,y,D,u,R,F⟩⟩:=h
 ·have:L=[]:=List.eq_nil_of_length_eq_zero u;subst this;exact⟨none,0,rfl,Srcs.nil w,fun _ e=>by cases e⟩
 ·refine⟨some ⟨g,0,none⟩,f,rfl,⟨D,u,(fun e=>by cases e),?_⟩,fun q e=>by cases e;exact C⟩;intro q e I;cases e;refine⟨rfl,zC y,fun i s z j J=>?_⟩;have N:i<L.length:=(List.getElem?_eq_some_iff.1 z).1;have O:=zD7 L i s z j J;rw[zB y];simp only[Nat.zero_add];rw[<-Array.getElem?_toList,<-O,<-F,List.getElem?_take_of_lt (by omega)]
theorem infoSr : (Tryz.prog.info? 123).map (fun i=>(i.zero,i.size,i.bytes))=some (some (.agg #[.int .i64 0,.int .i64 0,.int .i64 0,.string ByteArray.empty,.string ByteArray.empty,.string ByteArray.empty,.string ByteArray.empty,.string ByteArray.empty,.int .i64 0,.int .i64 0,.slice none 0 0,.string ByteArray.empty,.int .i64 0]),13,168):=by kernel_rfl
def cntL (ds:List Dev)(L:List Rec):Nat->List Dev->List Src
 | _,[]=>[]
 | i,d::t=>(if cntB ds L d.index=true then [⟨i,d,plc ds d.index,0⟩]else [])++cntL ds L (i+1) t
theorem zBP (ds:List Dev)(L:List Rec):∀ (l:List Dev) (i:Nat) (d:Dev),cntL ds L i (l++[d])=cntL ds L i l++(if cntB ds L d.index=true then [⟨((i+l.length:Nat):Int),d,plc ds d.index,0⟩]else [])
 | [],i,d=>by simp[cntL]
 | x::t,i,d=>by
  rw[List.cons_append,cntL,cntL,zBP ds L t (i+1) d,List.append_assoc]
  congr 4
  simp;omega
theorem zCe (ds:List Dev)(L:List Rec):∀ (l:List Dev) (i:Nat),(cntL ds L i l).length<=l.length
 | [],i=>by simp[cntL]
 | x::t,i=>by
  have:=zCe ds L t (i+1);rw[cntL,List.length_append,List.length_cons];split<;>simp<;>omega
theorem zEV (ds:List Dev)(L:List Rec):∀ (l:List Dev) (i:Nat) (s:Src),s∈cntL ds L i l->s.d∈l/\s.o=plc ds s.d.index/\s.r=0/\0<=s.at_/\s.at_<((i+l.length:Nat):Int)
 | [],i,s,h=>by simp[cntL]at h
 | x::t,i,s,h=>by
  rw[cntL]at h;rcases List.mem_append.1 h with h | h
  ·split at h
   ·simp at h;subst h;exact⟨by simp,rfl,rfl,by first | (simp;done) | (simp;omega),by first | (simp;done) | (simp;omega)⟩
   ·simp at h
  ·obtain⟨f,g,q,u,v⟩:=zEV ds L t (i+1) s h;exact⟨by simp[f],g,q,u,by simp at v ⊢;omega⟩
def rcs (ka:Option Addr)(kn kc:Nat)(wt:Int)(a:Option Addr)(n cap:Nat)(ca:Option Addr)(cn cc:Nat)(ea:Option Addr)(en ec:Nat)(sa:Option Addr)(sn sc:Nat)(wm sm:Nat)(ma:Option Addr)(mn mc:Nat):Array Value:=
 #[.slice ka kn kc,.int .i64 wt,.slice a n cap,.slice ca cn cc,.slice ea en ec,.slice sa sn sc,.map (some wm),.map (some sm),.slice ma mn mc]
def wantG (M:List Vir):ByteArray×ByteArray->Option Value:=fun p=>(M.find? fun v=>decide ((v.q,v.o)=p)).map fun v=>.agg v.vals
def seenG (G:List (ByteArray×ByteArray)):ByteArray×ByteArray->Option Value:=fun p=>if G.any (fun x=>decide (x=p))=true then some (.bool true)else none
attribute [local go_sem] Oper.semAt_some
theorem FindIs.no {ds:List Dev}{n:Int}{e:Ending}(h:FindIs ds n e)(f:look ds n=none):e=.returned (.tuple #[.agg Dev.zero.vals,.bool false]):=by
 rcases h with⟨_,h⟩ | ⟨d,h,_⟩
 ·exact h
 ·rw[f]at h;cases h
theorem FindIs.yes {ds:List Dev}{n:Int}{e:Ending}{d:Dev}(h:FindIs ds n e)(f:look ds n=some d):e=.returned (.tuple #[.agg d.vals,.bool true]):=by
 rcases h with⟨h,_⟩ | ⟨o,h,g⟩
 ·rw[f]at h;cases h
 ·rw[f]at h;cases h;exact g
structure UpAt (W:World)(a:Option Addr)(cap:Nat)(ds:List Dev)(m1 m2 Bv Bn:Nat):Prop where
 devs:Devs W a cap ds
 maps:VAt W m1 m2 ds
 view:W.heap[Bv]?=some (.cells #[.slice a ds.length cap,.map (some m1),.map (some m2)] 115)
theorem UpAt.fr {S:Nat->Prop}{W v:World}{a:Option Addr}{f:Nat}{ds:List Dev}{g o q y:Nat}(h:UpAt W a f ds g o q y)(u:Fr S W v)(A:∀ z,a=some z->ds≠[]->¬ S z.block)(C:¬ S g)(D:¬ S o)(F:¬ S q):UpAt v a f ds g o q y:=
 ⟨h.devs.fr u A,h.maps.fr u C D,u.heap h.view F⟩
theorem zJA (n:Nat)(hn:3<=n)(a:Option Addr)(v:Nat)(ds:List Dev)(R U D g:Nat)(X:Int)(w:World)(V0:Nat->Prop)(hU:UpAt w a v ds R U D g)(hT:TreeOk ds)
  (hb:w.heap[g]?=some (.cells #[.int .i64 X] 3)) (c6:(Lit.int .i64 X).wf=true)
  (y:g≠D/\g≠R/\g≠U/\∀ q,a=some q->ds≠[]->q.block≠g) (a7:R<w.heap.size/\U<w.heap.size)
  (Y:¬ V0 g/\¬ V0 D/\¬ V0 R/\¬ V0 U/\∀ q,a=some q->ds≠[]->¬ V0 q.block):
  Gives Fence.wide n Tryz.prog 195 #[.pointer (some ⟨D,0,none⟩),.pointer (some ⟨g,0,none⟩)] (fun d:Dev=>#[.agg d.vals]) (Is g) V0 (chain ds X) w:=by
 intro l J W a2 d7 d8 a8 hJ hY h0;have I:g<w.heap.size:=zC hb;have c7:D<w.heap.size:=zC hU.view;have c8:∀ q,a=some q->ds≠[]->q.block<w.heap.size:=fun q e y=>(hU.devs.cell q e y).2.1
 have a9:=hU.fr a2 (fun _ _ _=>id) id id id;have c9:=a2.heap hb id;have d9:=a2.size;have hm:=hU.devs.lenmax;have e0:1<=n:=by omega
 have e2:Fence.wide.fn 196:=trivial;show CallsIn Fence.wide n Tryz.prog 195 #[.func (.yield l) #[] #[],.pointer (some ⟨D,0,none⟩),.pointer (some ⟨g,0,none⟩)] W _
 have cv:W.cell? ⟨D,0,none⟩=some (.slice a ds.length v):=zB a9.view 0;refine callsIn_of_wp Tryz.func195 rfl trivial ?_ rfl;simp only[Tryz.ntmps195,List.size_toArray,List.length_cons,List.length_nil,Nat.reduceAdd,Nat.reduceSub,Array.replicate_succ,Array.replicate_zero,List.push_toArray,List.append_toArray,List.nil_append,List.cons_append]
 gi_wp2
 clear cv
 gi_loopw [9] (fun i wr=>∃ (f:List Dev) (m:Int) (V:Nat->Prop),f.length<=ds.length/\i=.int .i64 (f.length:Int)/\(Lit.int .i64 m).wf=true/\Hid (chain ds X=f++chainK ds (ds.length-f.length) m)/\wr.heap[g]?=some (.cells #[.int .i64 m] 3)/\UpAt wr a v ds R U D g/\J f V wr/\(∀ b,V b->V0 b\/w.heap.size<=b)/\W.heap.size<=wr.heap.size) (fun i _=>ds.length-(intOf i).toNat)
 case atStart=>exact⟨[],X,V0,by simp,rfl,c6,by unfold Hid chain;simp,c9,a9,h0,fun b hb=>.inl hb,Nat.le_refl _⟩
 case round=>
  obtain⟨f,m,V,hk,rfl,b0,HC,a3,o,L,b1,e3⟩:=hrel;have nV:∀ b,b<w.heap.size->¬ V0 b->¬ V b:=fun b Z C h=>(b1 b h).elim C (fun h'=>by omega)
  have c0:wr.cell? ⟨D,0,none⟩=some (.slice a ds.length v):=zB o.view 0;have c1:wr.cell? ⟨D,1,none⟩=some (.map (some R)):=zB o.view 1;have c2:wr.cell? ⟨D,2,none⟩=some (.map (some U)):=zB o.view 2;have d0:wr.cell? ⟨g,0,none⟩=some (.int .i64 m):=zB a3 0;by_cases d4:f.length<ds.length
  ·cases hlk:look ds m with
   | none=>
    have z:=zh hlk;clear hlk
    gi_wp2_with (gi_at_call 196;refine(callsIn_wide.2 (zEg a v ds R U m _ o.devs o.maps b0)).mono ?_;rintro e w1 ⟨hF,A⟩;obtain rfl:=hF.no z.out;unfold Dev.vals Dev.zero)
    have b2:=hJ _ _ _ _ L ((A.mono zn).alloc (.cells Dev.zero.vals 36)) (fun b Z C=>by unfold Is at C;subst C;exact nV _ I Y.1 Z);have HJ:=zh b2;clear b2;refine⟨fun _ h=>(by cases h),?_⟩
    gi_wp2
    refine bodyPost_ret (results_none rfl _ _ _) rfl ?_;have e:chain ds X=f:=by rw[HC.out,zAg z.out,List.append_nil]
    rw[e];exact⟨⟨_,rfl⟩,V,HJ.out⟩
   | some d=>
    have z:=zh hlk;clear hlk;have b5:chain ds X=f++d::chainK ds (ds.length-f.length-1) d.parent:=by
     rw[HC.out,show ds.length-f.length=(ds.length-f.length-1)+1 from by omega,zDK z.out];rfl
    have b6:=zh b5;clear b5
    gi_wp2_with (gi_at_call 196;refine(callsIn_wide.2 (zEg a v ds R U m _ o.devs o.maps b0)).mono ?_;rintro e w1 ⟨hF,A⟩;obtain rfl:=hF.yes z.out;unfold Dev.vals;obtain⟨fn,d5,c5,d6,hy,hR⟩:=hY f V d _ (hJ _ _ _ _ L ((A.mono zn).alloc (.cells d.vals 36)) (fun b Z C=>by unfold Is at C;subst C;exact nV _ I Y.1 Z)) ⟨chainK ds (ds.length-f.length-1) d.parent,by rw[b6.out];simp⟩;have a4:=zD w1 (.cells d.vals 36);have a5:=(A.alloc (.cells d.vals 36));unfold Dev.vals at hy hR a4 a5)
    refine hR.mono ?_;rintro e W3 ⟨rfl,V',a6,d1,N⟩;have e4:=A.size;have b7:=a8 _ _ _ L;have n3:∀ b,b<w.heap.size->¬ V0 b->¬ (V b\/b=l):=fun b Z C h=>h.elim (nV b Z C) (fun e=>by omega)
    have b8:=((o.fr A (fun _ _ _=>id) id id id).fr ((Fr.refl No w1).alloc (.cells #[.int .i64 d.index,.int .i64 d.parent,.string d.name,.string d.orig,.string d.sub,.string d.drv,.string d.ali,.int .i64 d.kind,.int .i64 d.num,.slice d.aa d.an d.ac] 36)) (fun _ _ _=>id) id id id)
    have b9:=b8.fr N (fun q e u=>n3 _ (c8 q e u) (Y.2.2.2.2 q e u)) (n3 _ a7.1 Y.2.2.1) (n3 _ a7.2 Y.2.2.2.1) (n3 _ c7 Y.2.1);have p3:=N.heap a4 (fun h=>h.elim (fun h=>by have:=b7 _ h;omega) (fun h=>by omega));have e1:W3.cell? ⟨w1.heap.size,1,none⟩=some (.int .i64 d.parent):=zB p3 1;have b3:=N.heap (a5.heap a3 id) (n3 _ I Y.1);have g0:W3.cell? ⟨g,0,none⟩=some (.int .i64 m):=zB b3 0;have g1:W3.frozen? ⟨g,0,none⟩=false:=zE b3 0;have F:Fr (Is g) W3 (W3.setCell ⟨g,0,none⟩ (.int .i64 d.parent)):=Fr.setAt (Fr.refl _ _) _;have O:∀ b,b≠g->¬ Is g b:=fun b h e=>h e
    have c3:=b9.fr F (fun q e u=>O _ (y.2.2.2 q e u)) (O _ y.2.1.symm) (O _ y.2.2.1.symm) (O _ y.1.symm);have c4:=hJ _ _ _ _ d1 F (fun b Z C=>by unfold Is at C;subst C;exact(a6 _ Z).elim (nV _ I Y.1) (fun h=>by omega));have b4:=zF b3 0 (.int .i64 d.parent);have d2:=N.size;have HF:=zh (And.intro c3 (And.intro c4 b4));have HV:Hid (∀ b,V' b->V0 b\/w.heap.size<=b):=fun b h=>(a6 b h).elim (b1 b) (fun h=>.inr (by omega))
    have d3:=hT.pwf (zAN z.out).1;clear b8 b9 p3 b3 F c3 c4 b4 a4 a5 a6 o a3 c0 c1 c2 d0
    gi_wp2
    go_roundw
    case rel=>
     refine⟨f++[d],d.parent,V',by simp;omega,by simp,d3,?_,HF.out.2.2,HF.out.1,HF.out.2.1,HV.out,by simp at d2 ⊢;omega⟩;unfold Hid;rw[b6.out,show ds.length-(f++[d]).length=ds.length-f.length-1 from by simp;omega];simp
    case measure=>simp[intOf];omega
  ·gi_wp2
   go_end0
   have e:chain ds X=f:=by rw[HC.out,show ds.length-f.length=0 from by omega];simp[chainK]
   rw[e];exact⟨⟨_,rfl⟩,V,L⟩
def zEI (l:List Oper):Bool:=l.all fun o=>match o.op with | .defer _=>false | _=>true
theorem zK2 {P:Program}{r n:Nat}{o:Oper}{a:Act}{w:World}{K y z:Act->World->Prop}(A:∀ c,o.op≠.defer c)(h:o.wp P a w K (OnlyN z))(g:∀ a w,K a w->y a w):o.wpIn (Fence.wide.inRound r) n P a w y (OnlyN z):=by
 refine⟨fun _ _=>trivial,?_⟩;unfold Oper.wp at h;rw[show (Fence.wide.inRound r).round=some r from rfl,Oper.semAt_some r _ _ A];generalize (execOp a.eval o).run P w=x at *;cases x with
 | ok x w'=>
  cases x with
  | value v=>exact g _ _ h
  | skip=>exact g _ _ h
  | defer d=>exact g _ _ h
  | enter f args=>
   refine⟨(fun e=>by cases e),(show CallsIn (Fence.wide.inRound r) (n-1) P f args w' _ from(callsIn_wide.2 (Calls.mono h (fun e q u=>?_)):CallsIn Fence.wide (n-1) P f args w' _))⟩;cases e with
   | returned v=>exact g _ _ u
   | panicked c=>exact u
   | outgrown=>exact u
  | row row args=>
   refine⟨(fun e=>by cases e),(show RowsIn (Fence.wide.inRound r) (n-1) P row args w' _ from fun c cs _=>?_)⟩;obtain⟨v,q,C,D⟩:=h c cs;exact⟨v,q,g _ _ C,stepsIn_wide.2 D⟩
  | _=>exact h.elim
 | halt x w'=>cases x<;>first | exact h | exact h.elim
theorem zBY {P:Program}{r n:Nat}{g:Array Oper}{y:Act->World->Prop}(q:∀ (i:Nat) (o:Oper),g[i]?=some o->∀ c,o.op≠Op.defer c):∀ (z:List Nat) (a:Act) (w:World),wpOps P g (OnlyN y) z a w->wpOpsIn (Fence.wide.inRound r) n P g (OnlyN y) z a w
 | [],a,w,h=>h
 | i::f,a,w,h=>by
  unfold wpOps at h;unfold wpOpsIn;split
  ·rename_i u;rw[u]at h;exact zBY q f _ _ h
  ·rename_i o u;rw[u]at h;simp only at h;split
   ·rename_i v;rw[if_pos v]at h;rcases h with h | ⟨_,_,_,h⟩
    ·exact zK2 (q i o u) h (fun a w h=>zBY q f a w h)
    ·exact h.elim
   ·rename_i v;rw[if_neg v]at h;exact⟨fun _ _=>trivial,zBY q f _ _ h⟩
theorem zA9 {P:Program}{Q:Exit->Act->World->Prop}{l:List Oper}{a:Act}{w:World}{r n:Nat}{z:Nat}(T:Nat->Prop)(σ:List (Nat×Bool))(g:P.follows .mixedOrders=true)
  (f:(Region.noSelect l.toArray&&(σ.length==l.length)&&schedB l.toArray σ (Array.replicate l.toArray.size false)&&zEI l)=true)
  (h:∀ q,Fr No w q->wpSig P l Q T σ a q):(Code.region z l.toArray true).wpIn (Fence.wide.inRound r) n P Q a w:=by
 simp only[Bool.and_eq_true,beq_iff_eq]at f;have u:=zAi (Q:=Q) f.1.1.1 σ _ a w.drew f.1.2 (h _ ((Fr.refl No w).drew));have A:l.toArray.size=σ.length:=by simp[f.1.1.2]
 rw[<-A]at u;have C:=wpAny_of_held _ _ _ _ u;have D:∀ (i:Nat) (o:Oper),l.toArray[i]?=some o->∀ c,o.op≠Op.defer c:=fun i o v c F=>by
  have g:o∈l:=by rw[List.getElem?_toArray]at v;exact List.mem_of_getElem? v
  have y:=List.all_eq_true.1 f.2 o g;rw[F]at y;cases y
 refine wpIn_mono (Q:=OnlyN (Q .normal)) (wpIn_region_draw fun t=>?_) fun e a w h=>?_
 ·simp only[Region.schedule,g,Bool.true_or,if_true];exact zBY D _ _ _ (wpAny_sound l.toArray.size t _ a _ C)
 ·cases e<;>first | exact h | exact h.elim
theorem zAq {P:Program}{l:List Oper}{a:Act}{w:World}{r n:Nat}{A:Nat}{Q:Exit->Act->World->Prop}(T:Nat->Prop)(σ:Sg)(M:Act->World->Prop)(g:P.follows .mixedOrders=true)
  (f:(Region.noSelect l.toArray&&(σ.size==l.length)&&schedT l.toArray σ (Array.replicate l.toArray.size false)&&zEI l)=true)
  (h:∀ q,Fr No w q->wpSg P l M T σ a q) (C:∀ u w',M u w'->Q .normal u w'):(Code.region A l.toArray true).wpIn (Fence.wide.inRound r) n P Q a w:=by
 simp only[Bool.and_eq_true,beq_iff_eq]at f;have v:=anyT (M:=M) f.1.1.1 σ _ a w.drew f.1.2 (h _ ((Fr.refl No w).drew));have D:l.toArray.size=σ.size:=by simp[f.1.1.2]
 rw[<-D]at v;have F:=wpAny_of_held _ _ _ _ v;have I:∀ (i:Nat) (o:Oper),l.toArray[i]?=some o->∀ c,o.op≠Op.defer c:=fun i o y c J=>by
  have g:o∈l:=by rw[List.getElem?_toArray]at y;exact List.mem_of_getElem? y
  have z:=List.all_eq_true.1 f.2 o g;rw[J]at z;cases z
 refine wpIn_mono (Q:=OnlyN M) (wpIn_region_draw fun t=>?_) fun e a w h=>?_
 ·simp only[Region.schedule,g,Bool.true_or,if_true];exact zBY I _ _ _ (wpAny_sound l.toArray.size t _ a _ F)
 ·cases e<;>first | exact C _ _ h | exact h.elim
attribute [local go_sem] Oper.semAt_some
attribute [local go_sem] Oper.semAt_some
structure PathI (w0:World)(B6:Nat)(pre:List Dev)(V:Nat->Prop)(W:World):Prop where
 txt:∃ s,W.heap[B6]?=some (.cells #[.string s] 9)/\s.size<=1001*pre.length
 foot:∀ b,V b↔b=B6
 fr:Fr (From w0.heap.size) w0 W
theorem zHi (a:Option Addr)(f a6:Nat)(ds:List Dev)(n:Int)(w:World)(hl:Tr w a6 a f ds)(hn:ds.length<=1000)(hx:(Lit.int .i64 n).wf=true)(a2:∀ d∈ds,d.name.size<=1000):
  Calls Tryz.prog 85 #[.agg #[.slice a ds.length f],.int .i64 n] w fun e w'=>(∃ s b,e=.returned (.tuple #[.string s,.bool b]))/\Fr No w w':=by
 have hT:=hl.wf.1;refine(callsIn_wide (n:=12)).1 (callsIn_of_wp_marks Tryz.func85 rfl trivial (wpIn_wide.2 ?_));simp only[Tryz.ntmps85,List.size_toArray,List.length_cons,List.length_nil,Nat.reduceAdd,Nat.reduceSub,Array.replicate_succ,Array.replicate_zero,List.push_toArray,List.append_toArray,List.nil_append,List.cons_append];obtain⟨W0,u⟩:∃ W0,W0=(w.alloc (.cells #[.slice a ds.length f] 48)).alloc (.cells #[.string ⟨#[]⟩] 9):=⟨_,rfl⟩
 have hW:Fr No w W0:=by rw[u];exact((Fr.refl _ _).alloc _).alloc _
 have b2:W0.heap[w.heap.size]?=some (.cells #[.slice a ds.length f] 48):=by rw[u];exact zI _ _ _
 have b6:W0.heap[w.heap.size+1]?=some (.cells #[.string ⟨#[]⟩] 9):=by rw[u];exact zL _ _ _
 have t2:W0.cell? ⟨w.heap.size,0,none⟩=some (.slice a ds.length f):=zB b2 0
 go_upto_region 2 with(fail)
 rw[<-u];clear u;have v:=zBs a f ds W0 (hl.dv.no hW (fun _=>id)) hT hn
 go_wp2_with fail
 refine v.mono ?_;rintro e o ⟨⟨J,L,rfl,c3,c4,b7,hI,hS⟩,y⟩;clear v t2
 go_wp2_with fail
 refine(zKc _ _ _ _ _).mono ?_;rintro e w2 ⟨rfl,rfl⟩;have c5:=y.size;have c7:=zC b6;have z:Fr No o ((o.alloc (.cells #[.slice a ds.length f,.map (some J),.map (some L)] 115)).alloc (.cells #[.int .i64 n] 3)):=((Fr.refl _ _).alloc _).alloc _;have a3:UpAt ((o.alloc (.cells #[.slice a ds.length f,.map (some J),.map (some L)] 115)).alloc (.cells #[.int .i64 n] 3)) a f ds J L o.heap.size (o.heap.size+1):=
  ⟨((hl.dv.no hW (fun _=>id)).no y (fun _=>id)).no z (fun _=>id),VAt.fr ⟨hI,hS⟩ z id id,zI _ _ _⟩
 have a4:=zL o (.cells #[.slice a ds.length f,.map (some J),.map (some L)] 115) (.cells #[.int .i64 n] 3);have a7:((o.alloc (.cells #[.slice a ds.length f,.map (some J),.map (some L)] 115)).alloc (.cells #[.int .i64 n] 3)).heap.size=o.heap.size+2:=by simp
 have d6:=z.heap (y.heap b6 id) id;have C:=(hW.step y zi).step z zi;have b8:J<o.heap.size:=hI.lt;have b9:L<o.heap.size:=hS.lt;have N:∀ U,a=some U->ds≠[]->U.block<w.heap.size:=fun U e D=>(hl.dv.cell U e D).2.1
 have a8:=hW.size;clear hI hS b2 b6 z y hW
 go_wp2_with fail
 generalize (o.alloc (.cells #[.slice a ds.length f,.map (some J),.map (some L)] 115)).alloc (.cells #[.int .i64 n] 3)=W2 at *;refine(wpIn_wide (n:=12)).1 (zAD (α:=Dev) (T:=Is (o.heap.size+1)) (V0:=Is (w.heap.size+1)) rfl (by omega) (gf:=195) (lb:=#[.pointer (some ⟨o.heap.size,0,none⟩),.pointer (some ⟨o.heap.size+1,0,none⟩)]) rfl trivial (enters_of Tryz.func195 (by kernel_rfl) rfl) (encs:=fun d:Dev=>#[.agg d.vals]) (fun _=>rfl) (fun b h=>by unfold Is at h;omega) (fun b h=>by unfold Is at h;omega)
  (zJA 11 (by omega) a f ds J L o.heap.size (o.heap.size+1) n W2 (Is (w.heap.size+1)) a3 hT a4 hx ⟨by omega,by omega,by omega,fun U e D h=>by have:=N U e D;omega⟩ ⟨by omega,by omega⟩ ⟨fun h=>by unfold Is at h;omega,fun h=>by unfold Is at h;omega,fun h=>by unfold Is at h;omega,fun h=>by unfold Is at h;omega,fun U e D h=>by have:=N U e D;unfold Is at h;omega⟩)
  (PathI w (w.heap.size+1)) (fun _ _ _ h b O=>by obtain⟨s,q,_⟩:=h.txt;rw[(h.foot b).1 O];exact zC q) (fun s V A B S h hf hS=>by
   obtain⟨t,q,h2⟩:=h.txt;exact⟨⟨t,hf.heap q (fun O=>(hS _ O).1 ((h.foot _).2 rfl)),h2⟩,h.foot,h.fr.step hf (fun b O hs=>by
    rcases(hS b hs).2 with h' | h'
    ·unfold Is at h';unfold From;omega
    ·unfold From;omega)⟩)
  ⟨⟨⟨#[]⟩,d6,Nat.zero_le _⟩,fun b=>Iff.rfl,C.mono zn⟩
  (fun x V a' W=>∃ X,W2.heap.size+2<=X/\W.heap[X]?=some (.cells x.vals 36)/\¬ V X/\a'={ tmps:=#[.agg #[.slice a ds.length f],.int .i64 n,.pointer (some ⟨w.heap.size,0,none⟩),undef,.string ⟨#[]⟩,.bool false,.pointer (some ⟨w.heap.size+1,0,none⟩),.pointer (some ⟨X,0,none⟩),.agg #[.slice a ds.length f],.agg #[.slice a ds.length f,.map (some J),.map (some L)],.int .i64 n,.func (.func 195) #[] #[.pointer (some ⟨o.heap.size,0,none⟩),.pointer (some ⟨o.heap.size+1,0,none⟩)],.agg x.vals,undef,undef,undef,undef,undef,undef,undef,undef],defers:=[] })
  (fun x V a' A B h hf=>by obtain⟨X,q,h2,h3,h4⟩:=h;exact⟨X,q,hf.heap h2 (fun e=>by unfold Is at e;omega),h3,h4⟩)
  ?assign ?body ?done)
 case assign=>
  intro l R V x W K F Y hK;have b3:∀ b,V b->b<W.heap.size:=fun b O=>by obtain⟨s,q,_⟩:=F.txt;rw[(F.foot b).1 O];exact zC q
  have c8:=fun a' W' (q:Fr No W W') h2=>hK a' W' q h2
  clear a2 N a7 a4 a3 C a8 d6 hl hT;unfold Dev.vals
  gi_wp2
  exact hK _ _ ((Fr.refl _ _).alloc _) ⟨W.heap.size,Y,zD _ _,fun h=>by have:=b3 _ h;omega,rfl⟩
 case body=>
  rintro l R V x a' W F ⟨X,c9,a9,d0,rfl⟩ I Y;obtain⟨s,q,h2⟩:=F.txt;have x2:W.cell? ⟨X,2,none⟩=some (.string x.name):=zB a9 2;have x6:W.cell? ⟨w.heap.size+1,0,none⟩=some (.string s):=zB q 0;have y6:W.frozen? ⟨w.heap.size+1,0,none⟩=false:=zE q 0;have b0:x∈chain ds n:=List.IsPrefix.subset I (by simp);have d1:=a2 x (zFG b0);have d2:R.length<=1000:=by
   have h7:=I.length_le;have h8:=zB3 ds n;simp at h7;omega
  have d3:s.size<=1001000:=by omega
  have h3:Fr V W (W.setCell ⟨w.heap.size+1,0,none⟩ (.string ((⟨#[47]⟩:ByteArray)++x.name++s))):=Fr.setCell (Fr.refl _ _) (fun _=>(F.foot _).2 rfl) _;have h4:=zF q 0 (.string ((⟨#[47]⟩:ByteArray)++x.name++s));have h5:((⟨#[47]⟩:ByteArray)++x.name++s).size<=1001*(R++[x]).length:=by
   rw[ByteArray.size_append,ByteArray.size_append,List.length_append];show 1+x.name.size+s.size<=1001*(R.length+1)
   omega
  have H:=zh (And.intro h3 (And.intro h4 (And.intro h5 F)));clear h3 h4 h5 F I b0 q a9 a2 N a7 a4 a3 C a8 d6 hl hT
  gi_wp2
  refine⟨V,fun b h=>.inl h,⟨⟨_,H.out.2.1,H.out.2.2.1⟩,H.out.2.2.2.foot,H.out.2.2.2.fr.step H.out.1 (fun b O h=>by rw[(H.out.2.2.2.foot b).1 h];unfold From;omega)⟩,H.out.1⟩
 case done=>
  rintro V W F hK d4;obtain⟨s,q,h2⟩:=F.txt;have c2:=C.size;have b4:=zh F.fr;clear F C
  go_wp2_with fail
  refine zQ No [(0,false),(1,false),(2,false),(3,false),(4,false)] (by kernel_rfl) (by kernel_rfl) (fun W3 a5=>?_);have c6:∀ g:Gr No W3,g.W.cell? ⟨w.heap.size+1,0,none⟩=some (.string s):=fun g=>g.fr.cell (zB (a5.heap q id) 0) id
  have Z:Fr (Is W2.heap.size) W3 (W3.putObj W2.heap.size (.deferred none)):=Fr.putObj _ _ _ rfl;have b1:Hid (Fr No w (W3.putObj W2.heap.size (.deferred none))):=((b4.out.step a5 zn).step Z (fun b O e=>by unfold Is at e;omega)).mono (fun b O h=>by unfold From at h;omega);have b5:=a5.heap hK id;clear Z
  repeat((first|apply zS rfl rfl rfl|apply zW rfl rfl rfl);intro K hK;go_big_quiet_op;go_big_quiet_on)
  refine zY ?_
  go_wp2_with fail
  refine⟨by simp,.inl ⟨_,_,rfl,run_takeDeferred b5,?_⟩⟩;refine⟨.tuple #[.string s,.bool (!s.toList.isEmpty)],by simp[results,Tryz.results85,go_sem],⟨_,_,rfl⟩,b1.out⟩
end Go.Proofs.YtinfjnndbfahhaaGreatDoor
