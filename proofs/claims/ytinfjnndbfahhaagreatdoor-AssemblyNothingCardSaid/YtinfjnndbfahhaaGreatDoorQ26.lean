import Derived.Test.YtinfjnndbfahhaaGreatDoorQ25
namespace Go.Proofs.YtinfjnndbfahhaaGreatDoor
open Go.RowKit Go.Maps
set_option linter.unusedVariables false
set_option maxRecDepth 100000
set_option maxHeartbeats 3000000
structure Fit (c:Ct):Prop where
 good:c.good=true
 depth:c.depth<=6
 len:c.text.length<=256
 count:c.count<=10000
theorem Fit.valid {c:Ct}(h:Fit c):c.valid=true:=by unfold Ct.valid;rw[h.good,decide_eq_true h.depth];rfl
theorem Fit.small {c:Ct}(h:Fit c):∀ d∈c.walk,SmallC 100000 d:=fun d g=>by
 have f:=h.good;rw[zC9]at f;have o:=List.all_eq_true.1 f d g;obtain⟨k,i,l,s,t,e,n⟩:=d;obtain⟨q,u⟩:=zDS o;exact⟨Nat.le_trans q (by omega),Nat.le_trans u (by omega)⟩
theorem zBL {s:ByteArray}{c:Ct}(h:parseC s=some c):Fit c/\c.txt=s:=by
 have o:=(zBK s c).1 h;obtain⟨q,u,g⟩:=o;have f:=u;unfold Ct.valid at f;rw[Bool.and_eq_true,decide_eq_true_eq]at f;refine⟨⟨f.2,f.1,by rw[g];exact q,?_⟩,zCV (by rw[zCA,g])⟩;have v:¬ 256<(bl s).length:=by omega
 unfold parseC at h;rw[if_neg v]at h;split at h
 ·rename_i c' y;have z:=(zEE _).1 _ _ _ y;split at h
  ·injection h with h
   subst h;have A:c'.count+([]:List UInt8).length<=(bl s).length+1:=z;rw[List.length_nil]at A;omega
  ·cases h
 ·cases h
theorem Fit.inner {k s t e:Int}{i l:ByteArray}{n:List Ct}(h:Fit (.mk k i l s t e n)){d:Ct}(g:d∈n):Fit d:=by
 have q:=zCN h.good;have u:=zL6 h.good;have y:=zCP (List.mem_map_of_mem (f:=Ct.text) g);have z:(commas (n.map Ct.text)).length<=_:=u;have A:=h.len;have C:=zAw g;have D:=zE2 g;have o:=h.depth;have v:=h.count;rw[Ct.count]at v;rw[Ct.depth]at o;exact⟨List.all_eq_true.1 q.2 d g,by split at o<;>omega,by omega,by omega⟩
theorem zJ2 (k s t e:Int)(i l:ByteArray)(n:List Ct)(a:Option Addr)(f:Nat)(w:World)(X:Nat->Prop)(A:InAt w X a f n)(u:Fit (.mk k i l s t e n)):
  Calls Tryz.prog 203 #[.agg #[.int .i64 k,.string i,.string l,.int .i64 s,.int .i64 t,.int .i64 e,.slice a n.length f]] w fun I w2=>I=.returned (.tuple #[.string (Ct.mk k i l s t e n).txt,.int .i64 0])/\Fr No w w2:=by
 have D:Fr No w (w.alloc (.cells #[.int .i64 k,.string i,.string l,.int .i64 s,.int .i64 t,.int .i64 e,.slice a n.length f] 223)):=(Fr.refl _ _).alloc _;have F:=zD w (.cells #[.int .i64 k,.string i,.string l,.int .i64 s,.int .i64 t,.int .i64 e,.slice a n.length f] 223);obtain⟨J,v⟩:∃ J,J=w.alloc (.cells #[.int .i64 k,.string i,.string l,.int .i64 s,.int .i64 t,.int .i64 e,.slice a n.length f] 223):=⟨_,rfl⟩
 rw[<-v]at D F;have g:=A.fr D (fun _ _=>id);have H0:=zh D;have y:=zIt (.mk k i l s t e n) X _ J (CAt.of_in g k i l s t e) u.count u.small;rw[if_pos u.valid]at y;have L:=u.count;have C:=u.len;have N:(Ct.mk k i l s t e n).txt.size<=256:=C;have HF:=zh u;clear u D A;obtain⟨O,R,U,V,Y,Z,a6⟩:=cl7 F
 go_enter Tryz.func203,Tryz.ntmps203
 go_upto_region 1 with(fail)
 rw[<-v];clear v
 go_wp2_with fail
 refine y.mono ?_;rintro I w1 ⟨rfl,o⟩;have q2:=o.heap F id;have a7:=zh (H0.out.step o zi);have q:=g.fr o (fun _ _=>id);have z:=zJz 10000 (by omega) k s t e i l n a f w1 X (by rw[Ct.count]at L;omega) q HF.out.good (by omega);obtain⟨tx,h⟩:∃ tx,tx=(Ct.mk k i l s t e n).txt:=⟨_,rfl⟩
 rw[<-h]at z N;have a8:=zh h;clear h;clear O R U V Y Z a6 F y g o;obtain⟨O,R,U,V,Y,Z,a6⟩:=cl7 q2
 go_wp2_with fail
 refine z.mono ?_;rintro I w2 ⟨rfl,a9⟩;have b0:=zh (a7.out.step a9 zi);have b1:¬ (256:Int)<(tx.size:Int):=by omega
 clear O R U V Y Z a6 q z
 go_wp2_with fail
 go_ret2
 exact⟨by rw[<-a8.out];rfl,b0.out⟩
def zLd (w:World)(s:ByteArray)(kd:Int)(e:Ending)(w':World):Prop:=
 ((∀ c,parseC s=some c->c.kind≠kd)/\e=.returned (.tuple #[.agg #[.int .i64 0,.string ⟨#[]⟩,.string ⟨#[]⟩,.int .i64 0,.int .i64 0,.int .i64 0,.slice none 0 0],.slice none 0 0,.bool false]))\/
 (∃ (k sl t le:Int) (i l:ByteArray) (n:List Ct) (a a':Option Addr) (cap cap':Nat),parseC s=some (.mk k i l sl t le n)/\k=kd/\e=.returned (.tuple #[.agg #[.int .i64 k,.string i,.string l,.int .i64 sl,.int .i64 t,.int .i64 le,.slice a n.length cap],.slice a' n.length cap',.bool true])/\InAt w' (From w.heap.size) a cap n/\Strs w' a' cap' (n.map Ct.txt)/\∀ ad,a'=some ad->w.heap.size<=ad.block)
theorem zGn (s:ByteArray)(kd:Int)(w:World)(hE:Env w)(hs:s.size<=100000):
  Calls Tryz.prog 156 #[.string s,.int .i64 kd] w fun en w2=>zLd w s kd en w2/\Fr No w w2:=by
 obtain⟨i0,e7,e8,e9,f7⟩:=info_parts infoS;have h0:Fr No w (w.alloc (.cells #[.int .i64 0,.string ⟨#[]⟩,.string ⟨#[]⟩,.int .i64 0,.int .i64 0,.int .i64 0,.slice none 0 0] 223)):=(Fr.refl _ _).alloc _;have q0:=zD w (.cells #[.int .i64 0,.string ⟨#[]⟩,.string ⟨#[]⟩,.int .i64 0,.int .i64 0,.int .i64 0,.slice none 0 0] 223);have f8:w.heap.size<(w.alloc (.cells #[.int .i64 0,.string ⟨#[]⟩,.string ⟨#[]⟩,.int .i64 0,.int .i64 0,.int .i64 0,.slice none 0 0] 223)).heap.size:=by simp
 obtain⟨W0,c5⟩:∃ W0,W0=w.alloc (.cells #[.int .i64 0,.string ⟨#[]⟩,.string ⟨#[]⟩,.int .i64 0,.int .i64 0,.int .i64 0,.slice none 0 0] 223):=⟨_,rfl⟩
 rw[<-c5]at h0 q0 f8;have c8:=zLU s W0 (hE.no h0) hs;have H0:=zh h0;clear h0 hE
 go_enter Tryz.func156,Tryz.ntmps156
 go_upto_region 1 with(fail)
 rw[<-c5];clear c5
 go_wp2_with fail
 refine c8.mono ?_;rintro en w1 ⟨c9,X⟩;have h1:=X.size;have q1:=X.heap q0 id;have d0:=zh (H0.out.step X zi);clear c8 q0 X;rcases c9 with⟨er,d1,h2,rfl⟩ | ⟨vs,c,c6,rfl,d2⟩
 ·have Hn:Hid (∀ c,parseC s=some c->c.kind≠kd):=fun c h=>by rw[d1]at h;cases h
  clear d1;have J:Fr No w1 (w1.alloc (.cells #[.int .i64 0,.string ⟨#[]⟩,.string ⟨#[]⟩,.int .i64 0,.int .i64 0,.int .i64 0,.slice none 0 0] 223)):=(Fr.refl _ _).alloc _;have L:=J.heap q1 id;have qt:=zD w1 (.cells #[.int .i64 0,.string ⟨#[]⟩,.string ⟨#[]⟩,.int .i64 0,.int .i64 0,.int .i64 0,.slice none 0 0] 223);have N:=zh (d0.out.step J zi);clear q1 J
  go_upto_region 2 with(fail)
  generalize w1.alloc (.cells #[.int .i64 0,.string ⟨#[]⟩,.string ⟨#[]⟩,.int .i64 0,.int .i64 0,.int .i64 0,.slice none 0 0] 223)=W2 at *;obtain⟨b0,b1,b2,b3,b4,b5,b6⟩:=cl7 L;obtain⟨f0,f1,f2,f3,f4,f5,f6⟩:=fl7 L;have I:=set7 L rfl (.int .i64 0) (.string ⟨#[]⟩) (.string ⟨#[]⟩) (.int .i64 0) (.int .i64 0) (.int .i64 0) (.slice none 0 0);have o:=zh (N.out.step I.2 (fun b O h=>by unfold Is at h;omega));have f:=zh I.1;clear I
  go_wp2_with fail
  have y0:=zB f.out 0;have y1:=zB f.out 1;have y2:=zB f.out 2;have y3:=zB f.out 3;have y4:=zB f.out 4;have y5:=zB f.out 5;have y6:=zB f.out 6;refine bodyPost_ret (v:=.tuple #[.agg #[.int .i64 0,.string ⟨#[]⟩,.string ⟨#[]⟩,.int .i64 0,.int .i64 0,.int .i64 0,.slice none 0 0],.slice none 0 0,.bool false]) (by simp[results,Tryz.results156,go_sem,y0,y1,y2,y3,y4,y5,y6]) rfl ?_;exact⟨.inl ⟨Hn.out,rfl⟩,o.out⟩
 ·obtain⟨k,i,l,sl,t,le,n⟩:=c;obtain⟨b8,d3⟩:=zBL c6;obtain⟨a,q,rfl,d4⟩:=d2.inAt;have d5:=zh c6;clear c6 d2 d3;have J:Fr No w1 (w1.alloc (.cells #[.int .i64 k,.string i,.string l,.int .i64 sl,.int .i64 t,.int .i64 le,.slice a n.length q] 223)):=(Fr.refl _ _).alloc _;have L:=J.heap q1 id;have qt:=zD w1 (.cells #[.int .i64 k,.string i,.string l,.int .i64 sl,.int .i64 t,.int .i64 le,.slice a n.length q] 223);have N:=zh (d0.out.step J zi);have b9:=zh (d4.fr J (fun _ _=>id));have c2:=zh b8;clear q1 J d4 b8
  go_upto_region 2 with(fail)
  generalize w1.alloc (.cells #[.int .i64 k,.string i,.string l,.int .i64 sl,.int .i64 t,.int .i64 le,.slice a n.length q] 223)=W2 at *;obtain⟨Z,a3,a4,a5,a6,a7,a8⟩:=cl7 qt;by_cases hk:k=kd
  ·have Hk:=zh hk;subst hk;have f9:=c2.out.count;rw[Ct.count]at f9;have h4:=zAP n;have h5:=zC qt
   go_wp2_with fail
   go_loopw [9,31] (fun v x wr=>∃ (j:Nat) (av:Option Addr) (cv:Nat),j<=n.length/\v=.slice av j cv/\x=.int .i64 (j:Int)/\wr.ownsRow W2.heap.size 9 1 (.slice av j cv) j (((n.take j).map Ct.txt).map Value.string)/\Fr (From W2.heap.size) W2 wr) (fun _ x _=>n.length-(intOf x).toNat)
   case atStart=>exact⟨0,none,0,by omega,rfl,rfl,World.ownsRow_nil _ _ _ _,Fr.refl _ _⟩
   case round=>
    obtain⟨j,av,cv,hj,rfl,rfl,u,g⟩:=hrel;by_cases g0:j<n.length
    ·have d6:(j:Int)<n.length:=by omega
     obtain⟨d,hd⟩:∃ d,n[j]?=some d:=⟨_,List.getElem?_eq_getElem g0⟩
     have d7:=List.mem_of_getElem? hd;have d8:=c2.out.inner d7;have d9:Hid (((n.take (j+1)).map Ct.txt).map Value.string=((n.take j).map Ct.txt).map Value.string++[.string d.txt]):=by unfold Hid;rw[List.take_add_one,hd];simp
     obtain⟨k1,i1,l1,s1,t1,e1,n1⟩:=d;have y:InAt wr (fun b=>b<W2.heap.size) a q n:=by
      have h3:=b9.out.mono (Y:=fun b=>b<W2.heap.size) (fun b O _=>O);exact h3.fr g (fun b O h=>by unfold From at h;omega)
     obtain⟨b,h6,a',z,rfl,O,hX,⟨y0,y1,y2,y3,y4,y5,y6⟩,c3⟩:=y.at hd;have h8:=g.size;clear hd y d7 Z a3 a4 a5 a6 a7 a8;have J:Fr No wr (wr.alloc (.cells #[.int .i64 k1,.string i1,.string l1,.int .i64 s1,.int .i64 t1,.int .i64 e1,.slice a' n1.length z] 223)):=(Fr.refl _ _).alloc _;have c7:=zJ2 k1 s1 t1 e1 i1 l1 n1 a' z _ _ (c3.fr J (fun _ _=>id)) d8;obtain⟨tx,c4⟩:∃ tx,tx=(Ct.mk k1 i1 l1 s1 t1 e1 n1).txt:=⟨_,rfl⟩
     rw[<-c4]at c7 d9;clear c4 d8
     go_wp2_with fail
     refine c7.mono ?_;rintro e w2 ⟨rfl,e0⟩;have a9:=J.step e0 zi;have g1:=zh (g.step a9 zn);have A:=zAK u a9 zi;have h9:=a9.size;clear J e0 g y0 y1 y2 y3 y4 y5 y6 c3 u a9 c7
     go_wp2_with (at_builtin;refine wpList_append_own _ rfl _ _ 30 rfl W2.heap.size 9 i0 (.string ByteArray.empty) 1 16 Tryz.underlying30 e7 e8 e9 f7 rfl (by decide) _ _ _ rfl (A.alloc _) ⟨w2.heap.size,0,none⟩ 1 1 [.string tx] rfl rfl (cell_one_new _ _ _) (zCa [tx]) (by unfold maxLen;omega) (by omega) (by first | omega | (simp;done) | (simp;omega)) ?_;intro v' wb C R _;obtain⟨g2,g3,rfl⟩:=zJ C)
     have e2:Fr (From W2.heap.size) w2 wb:=zBc A R;have g4:=zh (g1.out.step e2 zi);have e3:=zh C;clear C R e2 A
     go_roundw
     case rel=>exact⟨j+1,g2,g3,by omega,rfl,by go_num,by rw[d9.out];exact e3.out,g4.out⟩
     case measure=>simp[intOf];omega
    ·have d6:¬ (j:Int)<n.length:=by omega
     obtain rfl:j=n.length:=by omega
     rw[List.take_length]at u;have q3:=g.heap L (fun h=>by unfold From at h;omega);have g5:=g.heap qt (fun h=>by unfold From at h;omega);have g6:=zh (N.out.trans (U:=No) g zi (fun b O h=>by have:=N.out.size;unfold From at h;omega));have y:InAt wr (fun b=>w.heap.size<b) a q n:=by
      have h3:=b9.out.mono (Y:=fun b=>w.heap.size<b/\b<W2.heap.size) (fun b O h=>⟨by unfold From at h;omega,O⟩);exact(h3.fr g (fun b O h=>by unfold From at h;omega)).mono (fun b _ h=>h.1)
     have V:(n.map Ct.txt).length=n.length:=List.length_map _;have b7:∃ a' z,Value.slice av n.length cv=.slice a' (n.map Ct.txt).length z/\Strs wr a' z (n.map Ct.txt)/\∀ ad,a'=some ad->W2.heap.size<=ad.block:=Strs.of_own (by rw[V];exact u);obtain⟨a2,g9,ev,b7,D⟩:=b7;rw[V]at ev;cases ev;have g7:=zh b7;have F:=zh D;have e4:=zh y;clear g L qt u b7 y D V Z a3 a4 a5 a6 a7 a8;obtain⟨Z,a3,a4,a5,a6,a7,a8⟩:=cl7 g5;obtain⟨b0,b1,b2,b3,b4,b5,b6⟩:=cl7 q3;obtain⟨f0,f1,f2,f3,f4,f5,f6⟩:=fl7 q3;have I:=set7 q3 rfl (.int .i64 k) (.string i) (.string l) (.int .i64 sl) (.int .i64 t) (.int .i64 le) (.slice a n.length q);have o:=zh (g6.out.step I.2 (fun b O h=>by unfold Is at h;omega));have e5:=zh (g7.out.fr I.2 (fun ad e i2 h=>by have:=F.out ad e;unfold Is at h;omega));have e6:=zh ((e4.out.fr I.2 (fun b O h=>by unfold Is at h;omega)).mono (Y:=From w.heap.size) (fun b _ h=>by unfold From;omega));have f:=zh I.1;clear I
     go_wp2_with fail
     have y0:=zB f.out 0;have y1:=zB f.out 1;have y2:=zB f.out 2;have y3:=zB f.out 3;have y4:=zB f.out 4;have y5:=zB f.out 5;have y6:=zB f.out 6;refine bodyPost_ret (v:=.tuple #[.agg #[.int .i64 k,.string i,.string l,.int .i64 sl,.int .i64 t,.int .i64 le,.slice a n.length q],.slice av n.length cv,.bool true]) (by simp[results,Tryz.results156,go_sem,y0,y1,y2,y3,y4,y5,y6]) rfl ?_;exact⟨.inr ⟨k,sl,t,le,i,l,n,a,av,q,cv,d5.out,rfl,rfl,e6.out,e5.out,fun ad e=>by have:=F.out ad e;omega⟩,o.out⟩
  ·have g8:=zh L;clear a3 a4 a5 a6 a7 a8 L qt;have Hn:Hid (∀ c,parseC s=some c->c.kind≠kd):=fun c h=>by rw[d5.out]at h;cases h;exact hk
   go_upto_region 3 with(fail)
   have L:=g8.out;clear Z;obtain⟨b0,b1,b2,b3,b4,b5,b6⟩:=cl7 L;obtain⟨f0,f1,f2,f3,f4,f5,f6⟩:=fl7 L;have I:=set7 L rfl (.int .i64 0) (.string ⟨#[]⟩) (.string ⟨#[]⟩) (.int .i64 0) (.int .i64 0) (.int .i64 0) (.slice none 0 0);have o:=zh (N.out.step I.2 (fun b O h=>by unfold Is at h;omega));have f:=zh I.1;clear I
   go_wp2_with fail
   have y0:=zB f.out 0;have y1:=zB f.out 1;have y2:=zB f.out 2;have y3:=zB f.out 3;have y4:=zB f.out 4;have y5:=zB f.out 5;have y6:=zB f.out 6;refine bodyPost_ret (v:=.tuple #[.agg #[.int .i64 0,.string ⟨#[]⟩,.string ⟨#[]⟩,.int .i64 0,.int .i64 0,.int .i64 0,.slice none 0 0],.slice none 0 0,.bool false]) (by simp[results,Tryz.results156,go_sem,y0,y1,y2,y3,y4,y5,y6]) rfl ?_;exact⟨.inl ⟨Hn.out,rfl⟩,o.out⟩
def OfRes2 (w:World)(p s:ByteArray)(rd:Int)(e:Ending)(w':World):Prop:=
 ((∀ c,parseC s=some c->c.kind≠2)/\e=.returned (.tuple #[.agg #[.string ⟨#[]⟩,.string ⟨#[]⟩,.int .i64 0,.int .i64 0,.int .i64 0,.int .i64 0,.slice none 0 0],.bool false]))\/
 (∃ (c:Ct) (a':Option Addr) (cap':Nat),parseC s=some c/\c.kind=2/\e=.returned (.tuple #[.agg #[.string p,.string c.id,.int .i64 rd,.int .i64 c.slot,.int .i64 c.total,.int .i64 c.least,.slice a' c.inner.length cap'],.bool true])/\Strs w' a' cap' (c.inner.map Ct.txt)/\∀ ad,a'=some ad->w.heap.size<=ad.block)
theorem zJ8 (p s:ByteArray)(rd:Int)(w:World)(hE:Env w)(hs:s.size<=100000):
  Calls Tryz.prog 105 #[.string p,.int .i64 rd,.string s] w fun en w2=>OfRes2 w p s rd en w2/\Fr No w w2:=by
 have h0:Fr No w (w.alloc (.cells #[.string ⟨#[]⟩,.string ⟨#[]⟩,.int .i64 0,.int .i64 0,.int .i64 0,.int .i64 0,.slice none 0 0] 231)):=(Fr.refl _ _).alloc _;have q0:=zD w (.cells #[.string ⟨#[]⟩,.string ⟨#[]⟩,.int .i64 0,.int .i64 0,.int .i64 0,.int .i64 0,.slice none 0 0] 231);have a2:w.heap.size<(w.alloc (.cells #[.string ⟨#[]⟩,.string ⟨#[]⟩,.int .i64 0,.int .i64 0,.int .i64 0,.int .i64 0,.slice none 0 0] 231)).heap.size:=by simp
 obtain⟨W0,D⟩:∃ W0,W0=w.alloc (.cells #[.string ⟨#[]⟩,.string ⟨#[]⟩,.int .i64 0,.int .i64 0,.int .i64 0,.int .i64 0,.slice none 0 0] 231):=⟨_,rfl⟩
 rw[<-D]at h0 q0 a2;have O:=zGn s 2 W0 (hE.no h0) hs;have H0:=zh h0;clear h0 hE
 go_enter Tryz.func105,Tryz.ntmps105
 go_upto_region 1 with(fail)
 rw[<-D];clear D
 go_wp2_with fail
 refine O.mono ?_;rintro en F ⟨R,z⟩;have a6:=z.size;have q1:=z.heap q0 id;have U:=zh (H0.out.step z zi);clear O q0 z;rcases R with⟨V,rfl⟩ | ⟨k,I,t,le,i,l,n,a,a',J,u,X,hk,rfl,a3,Y,g⟩
 ·have Hn:Hid (∀ c,parseC s=some c->c.kind≠2):=V;have A:Fr No F (F.alloc (.cells #[.int .i64 0,.string ⟨#[]⟩,.string ⟨#[]⟩,.int .i64 0,.int .i64 0,.int .i64 0,.slice none 0 0] 223)):=(Fr.refl _ _).alloc _;have q:=A.heap q1 id;have L:=zh (U.out.step A zi);have N:=zh q;clear q1 A V q
  go_upto_region 3 with(fail)
  generalize F.alloc (.cells #[.int .i64 0,.string ⟨#[]⟩,.string ⟨#[]⟩,.int .i64 0,.int .i64 0,.int .i64 0,.slice none 0 0] 223)=W2 at *;have q:=N.out;obtain⟨b0,b1,b2,b3,b4,b5,b6⟩:=cl7 q;obtain⟨f0,f1,f2,f3,f4,f5,f6⟩:=fl7 q;have C:=set7 q rfl (.string ⟨#[]⟩) (.string ⟨#[]⟩) (.int .i64 0) (.int .i64 0) (.int .i64 0) (.int .i64 0) (.slice none 0 0);have y:=zh (L.out.step C.2 (fun b hb h=>by unfold Is at h;omega));have f:=zh C.1;clear C q
  go_wp2_with fail
  have y0:=zB f.out 0;have y1:=zB f.out 1;have y2:=zB f.out 2;have y3:=zB f.out 3;have y4:=zB f.out 4;have y5:=zB f.out 5;have y6:=zB f.out 6;refine bodyPost_ret (v:=.tuple #[.agg #[.string ⟨#[]⟩,.string ⟨#[]⟩,.int .i64 0,.int .i64 0,.int .i64 0,.int .i64 0,.slice none 0 0],.bool false]) (by simp[results,Tryz.results105,go_sem,y0,y1,y2,y3,y4,y5,y6]) rfl ?_;exact⟨.inl ⟨Hn.out,rfl⟩,y.out⟩
 ·subst hk;have a4:Hid (parseC s=some (.mk 2 i l I t le n)):=X;have o:=zh g;have A:Fr No F (F.alloc (.cells #[.int .i64 2,.string i,.string l,.int .i64 I,.int .i64 t,.int .i64 le,.slice a n.length J] 223)):=(Fr.refl _ _).alloc _;have N:=zh (A.heap q1 id);have qt:=zD F (.cells #[.int .i64 2,.string i,.string l,.int .i64 I,.int .i64 t,.int .i64 le,.slice a n.length J] 223);have L:=zh (U.out.step A zi);have a5:=zh (Y.no A (fun _=>id));clear q1 A Y X g a3
  go_upto_region 4 with(fail)
  generalize F.alloc (.cells #[.int .i64 2,.string i,.string l,.int .i64 I,.int .i64 t,.int .i64 le,.slice a n.length J] 223)=W2 at *;obtain⟨-,a7,-,a8,a9,b7⟩:=cl6 qt;have q:=N.out;clear qt;obtain⟨b0,b1,b2,b3,b4,b5,b6⟩:=cl7 q;obtain⟨f0,f1,f2,f3,f4,f5,f6⟩:=fl7 q;have C:=set7 q rfl (.string p) (.string i) (.int .i64 rd) (.int .i64 I) (.int .i64 t) (.int .i64 le) (.slice a' n.length u);have y:=zh (L.out.step C.2 (fun b hb h=>by unfold Is at h;omega));have Z:=zh (a5.out.fr C.2 (fun ad e b8 h=>by have:=o.out ad e;unfold Is at h;omega));have f:=zh C.1;clear C q
  go_wp2_with fail
  have y0:=zB f.out 0;have y1:=zB f.out 1;have y2:=zB f.out 2;have y3:=zB f.out 3;have y4:=zB f.out 4;have y5:=zB f.out 5;have y6:=zB f.out 6;refine bodyPost_ret (v:=.tuple #[.agg #[.string p,.string i,.int .i64 rd,.int .i64 I,.int .i64 t,.int .i64 le,.slice a' n.length u],.bool true]) (by simp[results,Tryz.results105,go_sem,y0,y1,y2,y3,y4,y5,y6]) rfl ?_;exact⟨.inr ⟨.mk 2 i l I t le n,a',u,a4.out,rfl,rfl,Z.out,fun ad e=>by have:=o.out ad e;omega⟩,y.out⟩
def OfRes (w:World)(p s:ByteArray)(rd:Int)(e:Ending)(w':World):Prop:=
 ((∀ c,parseC s=some c->c.kind≠3)/\e=.returned (.tuple #[.agg #[.string ⟨#[]⟩,.string ⟨#[]⟩,.int .i64 0,.int .i64 0,.int .i64 0,.int .i64 0,.slice none 0 0],.bool false]))\/
 (∃ (c:Ct) (a':Option Addr) (cap':Nat),parseC s=some c/\c.kind=3/\e=.returned (.tuple #[.agg #[.string p,.string c.id,.int .i64 rd,.int .i64 0,.int .i64 0,.int .i64 0,.slice a' c.inner.length cap'],.bool true])/\Strs w' a' cap' (c.inner.map Ct.txt)/\∀ ad,a'=some ad->w.heap.size<=ad.block)
theorem zJv (p s:ByteArray)(rd:Int)(w:World)(hE:Env w)(hs:s.size<=100000):
  Calls Tryz.prog 111 #[.string p,.int .i64 rd,.string s] w fun en w2=>OfRes w p s rd en w2/\Fr No w w2:=by
 have h0:Fr No w (w.alloc (.cells #[.string ⟨#[]⟩,.string ⟨#[]⟩,.int .i64 0,.int .i64 0,.int .i64 0,.int .i64 0,.slice none 0 0] 231)):=(Fr.refl _ _).alloc _;have q0:=zD w (.cells #[.string ⟨#[]⟩,.string ⟨#[]⟩,.int .i64 0,.int .i64 0,.int .i64 0,.int .i64 0,.slice none 0 0] 231);have a2:w.heap.size<(w.alloc (.cells #[.string ⟨#[]⟩,.string ⟨#[]⟩,.int .i64 0,.int .i64 0,.int .i64 0,.int .i64 0,.slice none 0 0] 231)).heap.size:=by simp
 obtain⟨W0,F⟩:∃ W0,W0=w.alloc (.cells #[.string ⟨#[]⟩,.string ⟨#[]⟩,.int .i64 0,.int .i64 0,.int .i64 0,.int .i64 0,.slice none 0 0] 231):=⟨_,rfl⟩
 rw[<-F]at h0 q0 a2;have N:=zGn s 3 W0 (hE.no h0) hs;have H0:=zh h0;clear h0 hE
 go_enter Tryz.func111,Tryz.ntmps111
 go_upto_region 1 with(fail)
 rw[<-F];clear F
 go_wp2_with fail
 refine N.mono ?_;rintro en A ⟨O,z⟩;have a6:=z.size;have q1:=z.heap q0 id;have R:=zh (H0.out.step z zi);clear N q0 z;rcases O with⟨U,rfl⟩ | ⟨k,V,t,le,i,l,n,a,a',I,u,X,hk,rfl,a3,Y,g⟩
 ·have Hn:Hid (∀ c,parseC s=some c->c.kind≠3):=U;have C:Fr No A (A.alloc (.cells #[.int .i64 0,.string ⟨#[]⟩,.string ⟨#[]⟩,.int .i64 0,.int .i64 0,.int .i64 0,.slice none 0 0] 223)):=(Fr.refl _ _).alloc _;have q:=C.heap q1 id;have J:=zh (R.out.step C zi);have L:=zh q;clear q1 C U q
  go_upto_region 3 with(fail)
  generalize A.alloc (.cells #[.int .i64 0,.string ⟨#[]⟩,.string ⟨#[]⟩,.int .i64 0,.int .i64 0,.int .i64 0,.slice none 0 0] 223)=W2 at *;have q:=L.out;obtain⟨b0,b1,b2,b3,b4,b5,b6⟩:=cl7 q;obtain⟨f0,f1,f2,f3,f4,f5,f6⟩:=fl7 q;have D:=set7 q rfl (.string ⟨#[]⟩) (.string ⟨#[]⟩) (.int .i64 0) (.int .i64 0) (.int .i64 0) (.int .i64 0) (.slice none 0 0);have y:=zh (J.out.step D.2 (fun b hb h=>by unfold Is at h;omega));have f:=zh D.1;clear D q
  go_wp2_with fail
  have y0:=zB f.out 0;have y1:=zB f.out 1;have y2:=zB f.out 2;have y3:=zB f.out 3;have y4:=zB f.out 4;have y5:=zB f.out 5;have y6:=zB f.out 6;refine bodyPost_ret (v:=.tuple #[.agg #[.string ⟨#[]⟩,.string ⟨#[]⟩,.int .i64 0,.int .i64 0,.int .i64 0,.int .i64 0,.slice none 0 0],.bool false]) (by simp[results,Tryz.results111,go_sem,y0,y1,y2,y3,y4,y5,y6]) rfl ?_;exact⟨.inl ⟨Hn.out,rfl⟩,y.out⟩
 ·subst hk;have a4:Hid (parseC s=some (.mk 3 i l V t le n)):=X;have o:=zh g;have C:Fr No A (A.alloc (.cells #[.int .i64 3,.string i,.string l,.int .i64 V,.int .i64 t,.int .i64 le,.slice a n.length I] 223)):=(Fr.refl _ _).alloc _;have L:=zh (C.heap q1 id);have qt:=zD A (.cells #[.int .i64 3,.string i,.string l,.int .i64 V,.int .i64 t,.int .i64 le,.slice a n.length I] 223);have J:=zh (R.out.step C zi);have a5:=zh (Y.no C (fun _=>id));clear q1 C Y X g a3
  go_upto_region 4 with(fail)
  generalize A.alloc (.cells #[.int .i64 3,.string i,.string l,.int .i64 V,.int .i64 t,.int .i64 le,.slice a n.length I] 223)=W2 at *;have a7:W2.cell? ⟨A.heap.size,1,none⟩=some (.string i):=zB qt 1;have q:=L.out;clear qt;obtain⟨b0,b1,b2,b3,b4,b5,b6⟩:=cl7 q;obtain⟨f0,f1,f2,f3,f4,f5,f6⟩:=fl7 q;have D:=set7 q rfl (.string p) (.string i) (.int .i64 rd) (.int .i64 0) (.int .i64 0) (.int .i64 0) (.slice a' n.length u);have y:=zh (J.out.step D.2 (fun b hb h=>by unfold Is at h;omega));have Z:=zh (a5.out.fr D.2 (fun ad e a8 h=>by have:=o.out ad e;unfold Is at h;omega));have f:=zh D.1;clear D q
  go_wp2_with fail
  have y0:=zB f.out 0;have y1:=zB f.out 1;have y2:=zB f.out 2;have y3:=zB f.out 3;have y4:=zB f.out 4;have y5:=zB f.out 5;have y6:=zB f.out 6;refine bodyPost_ret (v:=.tuple #[.agg #[.string p,.string i,.int .i64 rd,.int .i64 0,.int .i64 0,.int .i64 0,.slice a' n.length u],.bool true]) (by simp[results,Tryz.results111,go_sem,y0,y1,y2,y3,y4,y5,y6]) rfl ?_;exact⟨.inr ⟨.mk 3 i l V t le n,a',u,a4.out,rfl,rfl,Z.out,fun ad e=>by have:=o.out ad e;omega⟩,y.out⟩
def OfRes4 (w:World)(p s:ByteArray)(rd:Int)(e:Ending)(w':World):Prop:=
 ((∀ c,parseC s=some c->c.kind≠4)/\e=.returned (.tuple #[.agg #[.string ⟨#[]⟩,.string ⟨#[]⟩,.int .i64 0,.int .i64 0,.int .i64 0,.int .i64 0,.slice none 0 0],.bool false]))\/
 (∃ (c:Ct) (a':Option Addr) (cap':Nat),parseC s=some c/\c.kind=4/\e=.returned (.tuple #[.agg #[.string p,.string c.id,.int .i64 rd,.int .i64 c.slot,.int .i64 c.total,.int .i64 c.total,.slice a' c.inner.length cap'],.bool true])/\Strs w' a' cap' (c.inner.map Ct.txt)/\∀ ad,a'=some ad->w.heap.size<=ad.block)
theorem zHf (p s:ByteArray)(rd:Int)(w:World)(hE:Env w)(hs:s.size<=100000):
  Calls Tryz.prog 113 #[.string p,.int .i64 rd,.string s] w fun en w2=>OfRes4 w p s rd en w2/\Fr No w w2:=by
 have h0:Fr No w (w.alloc (.cells #[.string ⟨#[]⟩,.string ⟨#[]⟩,.int .i64 0,.int .i64 0,.int .i64 0,.int .i64 0,.slice none 0 0] 231)):=(Fr.refl _ _).alloc _;have q0:=zD w (.cells #[.string ⟨#[]⟩,.string ⟨#[]⟩,.int .i64 0,.int .i64 0,.int .i64 0,.int .i64 0,.slice none 0 0] 231);have a2:w.heap.size<(w.alloc (.cells #[.string ⟨#[]⟩,.string ⟨#[]⟩,.int .i64 0,.int .i64 0,.int .i64 0,.int .i64 0,.slice none 0 0] 231)).heap.size:=by simp
 obtain⟨W0,D⟩:∃ W0,W0=w.alloc (.cells #[.string ⟨#[]⟩,.string ⟨#[]⟩,.int .i64 0,.int .i64 0,.int .i64 0,.int .i64 0,.slice none 0 0] 231):=⟨_,rfl⟩
 rw[<-D]at h0 q0 a2;have O:=zGn s 4 W0 (hE.no h0) hs;have H0:=zh h0;clear h0 hE
 go_enter Tryz.func113,Tryz.ntmps113
 go_upto_region 1 with(fail)
 rw[<-D];clear D
 go_wp2_with fail
 refine O.mono ?_;rintro en F ⟨R,z⟩;have a6:=z.size;have q1:=z.heap q0 id;have U:=zh (H0.out.step z zi);clear O q0 z;rcases R with⟨V,rfl⟩ | ⟨k,I,t,le,i,l,n,a,a',J,u,X,hk,rfl,a3,Y,g⟩
 ·have Hn:Hid (∀ c,parseC s=some c->c.kind≠4):=V;have A:Fr No F (F.alloc (.cells #[.int .i64 0,.string ⟨#[]⟩,.string ⟨#[]⟩,.int .i64 0,.int .i64 0,.int .i64 0,.slice none 0 0] 223)):=(Fr.refl _ _).alloc _;have q:=A.heap q1 id;have L:=zh (U.out.step A zi);have N:=zh q;clear q1 A V q
  go_upto_region 3 with(fail)
  generalize F.alloc (.cells #[.int .i64 0,.string ⟨#[]⟩,.string ⟨#[]⟩,.int .i64 0,.int .i64 0,.int .i64 0,.slice none 0 0] 223)=W2 at *;have q:=N.out;obtain⟨b0,b1,b2,b3,b4,b5,b6⟩:=cl7 q;obtain⟨f0,f1,f2,f3,f4,f5,f6⟩:=fl7 q;have C:=set7 q rfl (.string ⟨#[]⟩) (.string ⟨#[]⟩) (.int .i64 0) (.int .i64 0) (.int .i64 0) (.int .i64 0) (.slice none 0 0);have y:=zh (L.out.step C.2 (fun b hb h=>by unfold Is at h;omega));have f:=zh C.1;clear C q
  go_wp2_with fail
  have y0:=zB f.out 0;have y1:=zB f.out 1;have y2:=zB f.out 2;have y3:=zB f.out 3;have y4:=zB f.out 4;have y5:=zB f.out 5;have y6:=zB f.out 6;refine bodyPost_ret (v:=.tuple #[.agg #[.string ⟨#[]⟩,.string ⟨#[]⟩,.int .i64 0,.int .i64 0,.int .i64 0,.int .i64 0,.slice none 0 0],.bool false]) (by simp[results,Tryz.results113,go_sem,y0,y1,y2,y3,y4,y5,y6]) rfl ?_;exact⟨.inl ⟨Hn.out,rfl⟩,y.out⟩
 ·subst hk;have a4:Hid (parseC s=some (.mk 4 i l I t le n)):=X;have o:=zh g;have A:Fr No F (F.alloc (.cells #[.int .i64 4,.string i,.string l,.int .i64 I,.int .i64 t,.int .i64 le,.slice a n.length J] 223)):=(Fr.refl _ _).alloc _;have N:=zh (A.heap q1 id);have qt:=zD F (.cells #[.int .i64 4,.string i,.string l,.int .i64 I,.int .i64 t,.int .i64 le,.slice a n.length J] 223);have L:=zh (U.out.step A zi);have a5:=zh (Y.no A (fun _=>id));clear q1 A Y X g a3
  go_upto_region 4 with(fail)
  generalize F.alloc (.cells #[.int .i64 4,.string i,.string l,.int .i64 I,.int .i64 t,.int .i64 le,.slice a n.length J] 223)=W2 at *;obtain⟨-,a7,-,a8,a9⟩:=cl5 qt;have q:=N.out;clear qt;obtain⟨b0,b1,b2,b3,b4,b5,b6⟩:=cl7 q;obtain⟨f0,f1,f2,f3,f4,f5,f6⟩:=fl7 q;have C:=set7 q rfl (.string p) (.string i) (.int .i64 rd) (.int .i64 I) (.int .i64 t) (.int .i64 t) (.slice a' n.length u);have y:=zh (L.out.step C.2 (fun b hb h=>by unfold Is at h;omega));have Z:=zh (a5.out.fr C.2 (fun ad e b7 h=>by have:=o.out ad e;unfold Is at h;omega));have f:=zh C.1;clear C q
  go_wp2_with fail
  have y0:=zB f.out 0;have y1:=zB f.out 1;have y2:=zB f.out 2;have y3:=zB f.out 3;have y4:=zB f.out 4;have y5:=zB f.out 5;have y6:=zB f.out 6;refine bodyPost_ret (v:=.tuple #[.agg #[.string p,.string i,.int .i64 rd,.int .i64 I,.int .i64 t,.int .i64 t,.slice a' n.length u],.bool true]) (by simp[results,Tryz.results113,go_sem,y0,y1,y2,y3,y4,y5,y6]) rfl ?_;exact⟨.inr ⟨.mk 4 i l I t le n,a',u,a4.out,rfl,rfl,Z.out,fun ad e=>by have:=o.out ad e;omega⟩,y.out⟩
structure Mems (w:World)(a:Option Addr)(cap:Nat)(L:List Mem):Prop where
 len:L.length<=cap
 max:cap<=maxLen
 isNil:a=none->L=[]/\cap=0
 ok:∀ m∈L,Strs w m.a m.c m.l
 cell:∀ ad,a=some ad->L≠[]->ad.spot=none/\ad.block<w.heap.size/\∀ i m,L[i]?=some m->∀ j,j<7->w.cell? ⟨ad.block,ad.off+(i*7+j),none⟩=m.vals[j]?
structure MemAt (w:World)(b o:Nat)(m:Mem):Prop where
 c0:w.cell? ⟨b,o,none⟩=some (.string m.p)
 c1:w.cell? ⟨b,o+1,none⟩=some (.string m.i)
 c2:w.cell? ⟨b,o+2,none⟩=some (.int .i64 m.r)
 c3:w.cell? ⟨b,o+3,none⟩=some (.int .i64 m.s)
 c4:w.cell? ⟨b,o+4,none⟩=some (.int .i64 m.t)
 c5:w.cell? ⟨b,o+5,none⟩=some (.int .i64 m.e)
 c6:w.cell? ⟨b,o+6,none⟩=some (.slice m.a m.l.length m.c)
theorem Mems.elem {w:World}{a:Option Addr}{q:Nat}{L:List Mem}(h:Mems w a q L){k:Nat}(o:k<L.length):
  ∃ b f m,a=some ⟨b,f,none⟩/\L[k]?=some m/\Strs w m.a m.c m.l/\MemAt w b (f+k*7) m/\b<w.heap.size:=by
 cases a with
 | none=>obtain⟨rfl,_⟩:=h.isNil rfl;simp at o
 | some v=>
  obtain⟨b,f,A⟩:=v;obtain⟨u,y,z⟩:=h.cell _ rfl (by intro e;subst e;simp at o);simp at u;subst u;have g:=z k _ (List.getElem?_eq_getElem o);exact⟨b,f,L[k],rfl,List.getElem?_eq_getElem o,h.ok _ (List.getElem_mem o),⟨g 0 (by omega),g 1 (by omega),g 2 (by omega),g 3 (by omega),g 4 (by omega),g 5 (by omega),g 6 (by omega)⟩,y⟩
theorem Mems.lenmax {w:World}{a:Option Addr}{f:Nat}{L:List Mem}(h:Mems w a f L):L.length<=9223372036854775807:=by
 have o:=h.len;have g:=h.max;unfold maxLen at g;omega
theorem Mems.fr {S:Nat->Prop}{w w':World}{a:Option Addr}{g:Nat}{L:List Mem}(h:Mems w a g L)(q:Fr S w w')(y:∀ f,a=some f->L≠[]->¬ S f.block)(z:∀ m∈L,∀ f,m.a=some f->m.l≠[]->¬ S f.block):Mems w' a g L:=
 ⟨h.len,h.max,h.isNil,fun m u=>(h.ok m u).fr q (z m u),fun f e o=>by
  obtain⟨A,v,C⟩:=h.cell f e o;refine⟨A,Nat.lt_of_lt_of_le v q.size,fun i m D j F=>?_⟩;rw[<-C i m D j F];exact World.cell?_of_block (q.block _ v (y f e o))⟩
theorem Mems.no {S:Nat->Prop}{w w':World}{a:Option Addr}{f:Nat}{L:List Mem}(h:Mems w a f L)(o:Fr S w w')(g:∀ k,¬ S k):Mems w' a f L:=h.fr o (fun _ _ _=>g _) (fun _ _ _ _ _=>g _)
theorem Mems.keep {S:Nat->Prop}{w w':World}{a:Option Addr}{g:Nat}{L:List Mem}(h:Mems w a g L)(u:Fr S w w')(q:∀ b,b<w.heap.size->¬ S b):Mems w' a g L:=
 h.fr u (fun o e f=>q _ (h.cell o e f).2.1) (fun m v o e f=>q _ ((h.ok m v).cell o e f).2.1)
theorem Mems.nil (w:World):Mems w none 0 []:=⟨by simp,by simp,fun _=>⟨rfl,rfl⟩,by simp,fun _ e _=>by cases e⟩
theorem infoM : (Tryz.prog.info? 231).map (fun i=>(i.zero,i.size,i.bytes))=some (some (.agg #[.string ByteArray.empty,.string ByteArray.empty,.int .i64 0,.int .i64 0,.int .i64 0,.int .i64 0,.slice none 0 0]),7,88):=by kernel_rfl
def mflat (L:List Mem):List Value:=L.flatMap (fun m=>m.vals.toList)
theorem zBa (L:List Mem)(m:Mem):mflat (L++[m])=mflat L++m.vals.toList:=by simp[mflat]
theorem zBy (m:Mem):∀ u∈m.vals.toList,u.oneCell'=true:=by
 intro u f;simp[Mem.vals]at f;rcases f with rfl | rfl | rfl | rfl | rfl | rfl | rfl<;>rfl
theorem zGM : ∀ (L:List Mem) (i:Nat) (m:Mem),L[i]?=some m->∀ j,j<7->(mflat L)[i*7+j]?=m.vals[j]?
 | [],i,m,h,j,f=>by simp at h
 | x::t,0,m,h,j,f=>by
  simp at h;subst h;have:mflat (x::t)=x.vals.toList++mflat t:=by simp[mflat]
  rw[this,List.getElem?_append_left (by simp[Mem.vals];omega)];simp
 | x::t,i+1,m,h,j,f=>by
  have:mflat (x::t)=x.vals.toList++mflat t:=by simp[mflat]
  rw[this,List.getElem?_append_right (by simp[Mem.vals];omega),show (i+1)*7+j-x.vals.toList.length=i*7+j from by simp[Mem.vals];omega];exact zGM t i m (by simpa using h) j f
theorem Mems.of_own {w:World}{o:Nat}{e:TypeId}{v:Value}{L:List Mem}(h:w.ownsRow o e 7 v L.length (mflat L))(u:∀ m∈L,Strs w m.a m.c m.l):
  ∃ a f,v=.slice a L.length f/\Mems w a f L/\∀ q,a=some q->o<=q.block:=by
 obtain⟨_,⟨rfl,y⟩ | ⟨g,f,z,rfl,F,A,I,y,U,J⟩⟩:=h
 ·have:L=[]:=List.eq_nil_of_length_eq_zero y;subst this;exact⟨none,0,rfl,Mems.nil w,fun _ e=>by cases e⟩
 ·refine⟨some ⟨g,0,none⟩,f,rfl,⟨I,y,(fun e=>by cases e),u,?_⟩,fun q e=>by cases e;exact F⟩;intro q e N;cases e;refine⟨rfl,zC A,fun i m C j O=>?_⟩;rw[zB A];simp only[Nat.zero_add];have R:i<L.length:=(List.getElem?_eq_some_iff.1 C).1;have D:(z.toList.take (L.length*7))[i*7+j]?=(mflat L)[i*7+j]?:=by rw[J]
  rw[List.getElem?_take_of_lt (by omega),zGM L i m C j O]at D;rw[<-Array.getElem?_toList,D]
def MFresh (w:World)(base:Nat)(L:List Mem):Prop:=∀ m∈L,Strs w m.a m.c m.l/\BlkT w m.a 9/\∀ ad,m.a=some ad->base<=ad.block
theorem MFresh.fr {S:Nat->Prop}{w w':World}{f:Nat}{L:List Mem}(h:MFresh w f L)(o:Fr S w w')(y:∀ b,f<=b->b<w.heap.size->¬ S b):MFresh w' f L:=fun m z=>by
 obtain⟨A,q,u⟩:=h m z;have v:∀ g,m.a=some g->¬ S g.block:=fun g e=>by obtain⟨cs,C⟩:=q g e;exact y _ (u g e) (zC C)
 exact⟨A.fr o (fun g e _=>v g e),q.fr o v,u⟩
theorem MFresh.own {w w':World}{f u:Nat}{L:List Mem}{v:Value}{n:Nat}{y:List Value}(h:MFresh w f L)(z:w.ownsRow u 231 7 v n y)(g:Fr (fun b=>v.ownBlock=some b) w w'):MFresh w' f L:=fun m A=>by
 obtain⟨C,o,D⟩:=h m A;have q:=BlkT.ne z o (by decide);exact⟨C.fr g (fun F e _=>q F e),o.fr g q,D⟩
theorem MFresh.snoc {w:World}{f:Nat}{L:List Mem}{m:Mem}(h:MFresh w f L)(q:Strs w m.a m.c m.l)(u:BlkT w m.a 9)(v:∀ o,m.a=some o->f<=o.block):MFresh w f (L++[m]):=fun x g=>by
 rcases List.mem_append.1 g with g | g
 ·exact h x g
 ·obtain rfl:x=m:=by simpa using g
  exact⟨q,u,v⟩
end Go.Proofs.YtinfjnndbfahhaaGreatDoor
