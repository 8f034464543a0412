import Derived.Test.YtinfjnndbfahhaaGreatDoorQ24
namespace Go.Proofs.YtinfjnndbfahhaaGreatDoor
open Go.RowKit Go.Maps
set_option linter.unusedVariables false
set_option maxRecDepth 100000
set_option maxHeartbeats 2000000
theorem zH9 {w:World}{f:Nat}{y:TypeId}{z:Nat}{a:Option Addr}{n c m:Nat}{q:List Value}(h:w.ownsRow f y z (.slice a n c) m q)(I:0<m):∃ g o,a=some ⟨g,o,none⟩/\∀ j u,q[j]?=some u->w.cell? ⟨g,o+j,none⟩=some u:=by
 have A:=zH7 h;obtain⟨_,⟨v,J⟩ | ⟨g,C,D,v,_⟩⟩:=h
 ·omega
 ·cases v;refine⟨g,0,rfl,fun j u F=>?_⟩;have:=A _ rfl j u F
  rwa [Addr.add_lit]at this
theorem zJ3 (k s t e:Int)(i l:ByteArray)(n:List Ct)(a:Option Addr)(f:Nat)(w:World)(v:n.length<=100000)(h:i.size<=100000)(o:l.size<=100000):
  Calls Tryz.prog 278 #[.agg #[.int .i64 k,.string i,.string l,.int .i64 s,.int .i64 t,.int .i64 e,.slice a n.length f]] w fun q y=>q=.returned (.bool (!alike (.mk k i l s t e n)))/\Fr No w y:=by
 have u:Fr No w (w.alloc (.cells #[.int .i64 k,.string i,.string l,.int .i64 s,.int .i64 t,.int .i64 e,.slice a n.length f] 223)):=(Fr.refl _ _).alloc _;have z:=zh u
 go_enter Tryz.func278,Tryz.ntmps278
 clear u
 go_wp2_with fail
 refine(zLY k s t e i l n a f _ v h o).mono ?_;rintro q C ⟨rfl,g⟩;have A:=zh (z.out.step g zi);clear g
 go_wp2_with fail
 go_ret;exact⟨rfl,A.out⟩
theorem zLW (X:Option Addr)(lc:Nat)(cs:List Ct)(Y:List Value)(w:World)(J:ShFlat Y cs)(Z:0<cs.length)(a2:cs.length<=100000)
  (hc:∃ g o,X=some ⟨g,o,none⟩/\∀ j u,Y[j]?=some u->w.cell? ⟨g,o+j,none⟩=some u) (L:∀ d∈cs,SmallC 100000 d/\d.inner.length<=100000):
  Calls Tryz.prog 302 #[.slice X cs.length lc,.func (.func 278) #[] #[]] w fun e w'=>(∃ r:Int,e=.returned (.int .i64 r)/\decide (0<=r)=!cs.all alike)/\Fr No w w':=by
 obtain⟨g,o,rfl,v⟩:=hc;have f:=zh v;clear v
 go_enter Tryz.func302,Tryz.ntmps302
 go_wp2_with fail
 go_loopw [8] (fun x wr=>∃ j:Nat,j<=cs.length/\x=.int .i64 (j:Int)/\Hid ((cs.take j).all alike=true)/\Fr No w wr) (fun x _=>cs.length-(intOf x).toNat)
 case atStart=>exact⟨0,by omega,rfl,by unfold Hid;simp,Fr.refl _ _⟩
 case round=>
  obtain⟨j,hj,rfl,C,q⟩:=hrel;by_cases N:j<cs.length
  ·have a3:(j:Int)<cs.length:=by omega
   obtain⟨d,I⟩:∃ d,cs[j]?=some d:=⟨_,List.getElem?_eq_getElem N⟩
   have y:=zh (List.mem_of_getElem? I);have O:Hid (cs.take (j+1)=cs.take j++[d]):=by unfold Hid;rw[List.take_add_one,I];rfl
   obtain⟨⟨R,U⟩,V⟩:=L d y.out;obtain⟨k,i,l,s,t,e,n⟩:=d;obtain⟨a,D,z⟩:=J.at I;have y0:wr.cell? ⟨g,o+j*7,none⟩=some (.int .i64 k):=q.cell (f.out (j*7+0) _ (z 0 (by omega))) id;have y1:wr.cell? ⟨g,o+j*7+1,none⟩=some (.string i):=q.cell (f.out (j*7+1) _ (z 1 (by omega))) id;have y2:wr.cell? ⟨g,o+j*7+2,none⟩=some (.string l):=q.cell (f.out (j*7+2) _ (z 2 (by omega))) id;have y3:wr.cell? ⟨g,o+j*7+3,none⟩=some (.int .i64 s):=q.cell (f.out (j*7+3) _ (z 3 (by omega))) id;have y4:wr.cell? ⟨g,o+j*7+4,none⟩=some (.int .i64 t):=q.cell (f.out (j*7+4) _ (z 4 (by omega))) id;have y5:wr.cell? ⟨g,o+j*7+5,none⟩=some (.int .i64 e):=q.cell (f.out (j*7+5) _ (z 5 (by omega))) id;have y6:wr.cell? ⟨g,o+j*7+6,none⟩=some (.slice a n.length D):=q.cell (f.out (j*7+6) _ (z 6 (by omega))) id;clear I z
   go_wp2_with fail
   refine(zJ3 k s t e i l n a D _ V R U).mono ?_;rintro en w1 ⟨rfl,F⟩;have A:=q.step F zi;clear y0 y1 y2 y3 y4 y5 y6 F;cases hp:alike (.mk k i l s t e n)
   ·have Hr:Hid (cs.all alike=false):=by unfold Hid;rw[List.all_eq_false];exact⟨_,y.out,by rw[hp];simp⟩
    clear hp
    go_wp2_with fail
    go_ret;exact⟨⟨(j:Int),rfl,by rw[Hr.out];simp⟩,A⟩
   ·have Hn:Hid ((cs.take (j+1)).all alike=true):=by unfold Hid;rw[O.out,List.all_append,C.out];simp[hp]
    clear hp
    go_wp2_with fail
    go_roundw
    case rel=>exact⟨j+1,by omega,by go_num,Hn,A⟩
    case measure=>simp[intOf];omega
  ·have h:=C.out;rw[List.take_of_length_le (by omega)]at h;have Hp:=zh h;clear h
   go_wp2_with fail
   go_ret;exact⟨⟨-1,rfl,by rw[Hp.out];rfl⟩,q⟩
theorem zHV (y:Option Addr)(C:Nat)(cs:List Ct)(z:List Value)(w:World)(o:ShFlat z cs)(f:0<cs.length)(h:cs.length<=100000)
  (D:∃ g q,y=some ⟨g,q,none⟩/\∀ j u,z[j]?=some u->w.cell? ⟨g,q+j,none⟩=some u) (v:∀ d∈cs,SmallC 100000 d/\d.inner.length<=100000):
  Calls Tryz.prog 276 #[.slice y cs.length C,.func (.func 278) #[] #[]] w fun e w'=>e=.returned (.bool (!cs.all alike))/\Fr No w w':=by
 have I:=zh (zLW y C cs z w o f h D v);clear o f h D v
 go_enter Tryz.func276,Tryz.ntmps276
 go_wp2_with fail
 refine I.out.mono ?_;rintro e L ⟨⟨r,rfl,F⟩,A⟩;have J:=zh F;clear F
 go_wp2_with fail
 go_ret;exact⟨zK J.out,A⟩
theorem zIt (c:Ct)(X:Nat->Prop)(vs:Array Value)(w:World)(h:CAt w X vs c)(hc:c.count<=10000)(I:∀ d∈c.walk,SmallC 100000 d):
  Calls Tryz.prog 242 #[.agg vs] w fun en w2=>en=.returned (.int .i64 (if c.valid=true then 0 else 70))/\Fr No w w2:=by
 obtain⟨rv,z⟩:∃ rv:Int,rv=if c.valid=true then 0 else 70:=⟨_,rfl⟩
 rw[<-z];have A:=zh z;clear z;have q:∀ d∈c.walk,SmallC 100000 d/\d.inner.length<=100000:=fun d J=>⟨I d J,by have:=zC7 J;omega⟩
 have a7:=zh q;clear I q;have u:=h;obtain⟨k,i,l,s,t,e,n⟩:=c;obtain⟨a,g,rfl,a8⟩:=h.inAt;have b4:=zDI (.mk k i l s t e n);have Z:Fr No w (w.alloc (.cells #[.int .i64 k,.string i,.string l,.int .i64 s,.int .i64 t,.int .i64 e,.slice a n.length g] 223)):=(Fr.refl _ _).alloc _;have q1:=zD w (.cells #[.int .i64 k,.string i,.string l,.int .i64 s,.int .i64 t,.int .i64 e,.slice a n.length g] 223);obtain⟨W0,C⟩:∃ W0,W0=w.alloc (.cells #[.int .i64 k,.string i,.string l,.int .i64 s,.int .i64 t,.int .i64 e,.slice a n.length g] 223):=⟨_,rfl⟩
 rw[<-C]at Z q1;obtain⟨a0,a1,a2,a3,a4,a5,a6⟩:=cl7 q1;have D:=u.no Z;have H0:=zh Z;clear Z u a8
 go_enter Tryz.func242,Tryz.ntmps242
 go_upto_region 1 with(fail)
 rw[<-C];clear C
 go_wp2_with fail
 refine(zLX D hc).mono ?_;rintro en w1 ⟨rfl,o⟩;have L:=D.no o;have q2:=o.heap q1 id;have N:=zh (H0.out.step o zi);clear a0 a1 a2 a3 a4 a5 a6 q1 o D;obtain⟨a0,a1,a2,a3,a4,a5,a6⟩:=cl7 q2;by_cases J:(Ct.mk k i l s t e n).depth<=6
 ·have a9:¬ (6:Int)<((Ct.mk k i l s t e n).depth:Int):=by omega
  have Hd:=zh J
  go_wp2_with fail
  obtain⟨a',b3,ev,v⟩:=L.inAt;cases ev;refine(zJy 10000 (by omega) k s t e i l n a g _ _ (by rw[Ct.count]at hc;omega) v).mono ?_;rintro en w2 ⟨⟨ar,cr,xs,rfl,O,y⟩,b0⟩;have b1:=zh (N.out.step b0 zi);have R:(Ct.mk k i l s t e n).walk.length=Ct.counts n+1:=by rw[zCY,Ct.count]
  have U:=zH9 y (by omega);have f:=zHV ar cr (Ct.mk k i l s t e n).walk xs w2 O (by omega) (by rw[Ct.count]at hc;omega) U a7.out;rw[R]at f;have V:=zh f;clear a0 a1 a2 a3 a4 a5 a6 f U y O q2 L R v;generalize Ct.counts n+1=cn at *
  go_wp2_with fail
  refine V.out.mono ?_
  ·rintro e w3 ⟨rfl,b2⟩;have Y:=zh (b1.out.step b2 zi);have Hv:Hid ((Ct.mk k i l s t e n).valid=(Ct.mk k i l s t e n).walk.all alike):=by unfold Hid Ct.valid;rw[zC9,decide_eq_true Hd.out,Bool.true_and]
   cases hal:(Ct.mk k i l s t e n).walk.all alike with
   | true=>
    have F:=zh hal;clear hal
    go_wp2_with fail
    go_ret;exact⟨by rw[A.out,Hv.out,F.out];rfl,Y.out⟩
   | false=>
    have F:=zh hal;clear hal
    go_wp2_with fail
    go_ret;exact⟨by rw[A.out,Hv.out,F.out];rfl,Y.out⟩
 ·have a9:(6:Int)<((Ct.mk k i l s t e n).depth:Int):=by omega
  have Hv:Hid ((Ct.mk k i l s t e n).valid=false):=by unfold Hid Ct.valid;rw[decide_eq_false J];rfl
  go_wp2_with fail
  go_ret;exact⟨by rw[A.out,Hv.out];rfl,N.out⟩
def PaRes (w:World)(s:ByteArray)(e:Ending)(w':World):Prop:=
 (∃ er:Int,parseC s=none/\er≠0/\e=.returned (.tuple #[.agg #[.int .i64 0,.string ⟨#[]⟩,.string ⟨#[]⟩,.int .i64 0,.int .i64 0,.int .i64 0,.slice none 0 0],.int .i64 er]))\/
 (∃ vs c,parseC s=some c/\e=.returned (.tuple #[.agg vs,.int .i64 0])/\CAt w' (From w.heap.size) vs c)
theorem zJW {s:ByteArray}(f:s.size<=256):parseC s=match pC (s.size+1) (bl s)with | some (c,[])=>if c.valid=true then some c else none | _=>none:=by
 unfold parseC;rw[if_neg (by show ¬ 256<s.size;omega)];rfl
theorem zLU (s:ByteArray)(w:World)(hE:Env w)(hs:s.size<=100000):
  Calls Tryz.prog 202 #[.string s] w fun en w2=>PaRes w s en w2/\Fr No w w2:=by
 have h0:Fr No w (w.alloc (.cells #[.int .i64 0,.string ⟨#[]⟩,.string ⟨#[]⟩,.int .i64 0,.int .i64 0,.int .i64 0,.slice none 0 0] 223)):=(Fr.refl _ _).alloc _;have q0:=zD w (.cells #[.int .i64 0,.string ⟨#[]⟩,.string ⟨#[]⟩,.int .i64 0,.int .i64 0,.int .i64 0,.slice none 0 0] 223);have b8:=hE.no h0;have h9:=hE.sz;have e3:w.heap.size<(w.alloc (.cells #[.int .i64 0,.string ⟨#[]⟩,.string ⟨#[]⟩,.int .i64 0,.int .i64 0,.int .i64 0,.slice none 0 0] 223)).heap.size:=by simp
 obtain⟨L,b9⟩:∃ L,L=w.alloc (.cells #[.int .i64 0,.string ⟨#[]⟩,.string ⟨#[]⟩,.int .i64 0,.int .i64 0,.int .i64 0,.slice none 0 0] 223):=⟨_,rfl⟩
 rw[<-b9]at h0 q0 b8 e3;have H0:=zh h0;clear h0 hE
 go_enter Tryz.func202,Tryz.ntmps202
 go_upto_region 1 with(fail)
 rw[<-b9];clear b9;by_cases hl:256<s.size
 ·have e4:(256:Int)<(s.size:Int):=by omega
  have Hn:Hid (parseC s=none):=by unfold Hid parseC;rw[if_pos (show 256<(bl s).length from hl)]
  obtain⟨b0,b1,b2,b3,b4,b5,b6⟩:=cl7 q0;obtain⟨f0,f1,f2,f3,f4,f5,f6⟩:=fl7 q0;have o:=set7 q0 rfl (.int .i64 0) (.string ⟨#[]⟩) (.string ⟨#[]⟩) (.int .i64 0) (.int .i64 0) (.int .i64 0) (.slice none 0 0);have g:=zh (H0.out.step o.2 (fun b hb h=>by unfold Is at h;omega));have N:=zh o.2;have f:=zh o.1;clear o
  go_wp2_with fail
  have O:=zB f.out 0;have R:=zB f.out 1;have U:=zB f.out 2;have V:=zB f.out 3;have X:=zB f.out 4;have Z:=zB f.out 5;have y6:=zB f.out 6;refine bodyPost_ret (v:=.tuple #[.agg #[.int .i64 0,.string ⟨#[]⟩,.string ⟨#[]⟩,.int .i64 0,.int .i64 0,.int .i64 0,.slice none 0 0],.int .i64 71]) (by simp[results,Tryz.results202,go_sem,O,R,U,V,X,Z,y6]) rfl ?_;exact⟨.inl ⟨71,Hn.out,by decide,rfl⟩,g.out⟩
 ·have e4:¬ (256:Int)<(s.size:Int):=by omega
  have hx:Fr No L (L.alloc (.cells #[.string s,.int .i64 0,.bool false] 319)):=(Fr.refl _ _).alloc _;have q1:=zD L (.cells #[.string s,.int .i64 0,.bool false] 319);have e9:L.heap.size<(L.alloc (.cells #[.string s,.int .i64 0,.bool false] 319)).heap.size:=by simp
  have c8:=hx.heap q0 id;have c9:=b8.no hx;have Hx:=zh (H0.out.step hx zi);have d0:=zJW (s:=s) (by omega);clear q0 b8 hx
  go_upto_region 4 with(fail)
  generalize L.alloc (.cells #[.string s,.int .i64 0,.bool false] 319)=W1 at *;have b7:Cur W1 L.heap.size s (bl s) false:=⟨0,q1,by omega,by simp[bl]⟩
  have f7:(bl s).length=s.size:=rfl;have c2:=zh d0;clear d0 q1
  go_wp2_with fail
  refine(zIs (s.size+1) L.heap.size s (bl s) _ (by omega) b7 (by omega) c9 (by omega)).mono ?_;rintro en w2 ⟨k,i,l,sl,t,le,a,m,c,r',C,rfl,hr,d1,a7,D⟩;have f8:=a7.size;have d2:=a7.heap c8 (fun h=>by unfold Is at h;omega);have e5:=zh (Hx.out.step a7 (fun b hb h=>by unfold Is at h;omega));have F:Fr No w2 (w2.alloc (.cells #[.int .i64 k,.string i,.string l,.int .i64 sl,.int .i64 t,.int .i64 le,.slice a m c] 223)):=(Fr.refl _ _).alloc _;have q5:=zD w2 (.cells #[.int .i64 k,.string i,.string l,.int .i64 sl,.int .i64 t,.int .i64 le,.slice a m c] 223);have d3:=d1.no F;have q:=F.heap d2 id;have c3:=zh (e5.out.step F zi);have I:Hid ((C=true/\pC (s.size+1) (bl s)=none)\/(C=false/\∃ u,pC (s.size+1) (bl s)=some (u,r')/\CAt (w2.alloc (.cells #[.int .i64 k,.string i,.string l,.int .i64 sl,.int .i64 t,.int .i64 le,.slice a m c] 223)) (fun b=>w.heap.size<b) #[.int .i64 k,.string i,.string l,.int .i64 sl,.int .i64 t,.int .i64 le,.slice a m c] u)):=by
   rcases D with h | ⟨h1,u,h2,h3⟩
   ·exact .inl h
   ·exact .inr ⟨h1,u,h2,(h3.no F).mono (fun b _ h=>by unfold From at *;omega)⟩
  clear D c8 d2 d1 a7 F b7 c9
  go_upto_region 5 with(fail)
  generalize w2.alloc (.cells #[.int .i64 k,.string i,.string l,.int .i64 sl,.int .i64 t,.int .i64 le,.slice a m c] 223)=W3 at *;obtain⟨a8,qp,f9,c4⟩:=d3.blk;obtain⟨-,p1,p2⟩:=cl3 qp;cases C with
  | true=>
   have Hn:Hid (parseC s=none):=by
    unfold Hid;rcases I.out with⟨_,h⟩ | ⟨h,_⟩
    ·rw[c2.out,h]
    ·cases h
   clear q5;obtain⟨b0,b1,b2,b3,b4,b5,b6⟩:=cl7 q;obtain⟨f0,f1,f2,f3,f4,f5,f6⟩:=fl7 q;have o:=set7 q rfl (.int .i64 0) (.string ⟨#[]⟩) (.string ⟨#[]⟩) (.int .i64 0) (.int .i64 0) (.int .i64 0) (.slice none 0 0);have g:=zh (c3.out.step o.2 (fun b hb h=>by unfold Is at h;omega));have N:=zh o.2;have f:=zh o.1;clear o
   go_wp2_with fail
   have O:=zB f.out 0;have R:=zB f.out 1;have U:=zB f.out 2;have V:=zB f.out 3;have X:=zB f.out 4;have Z:=zB f.out 5;have y6:=zB f.out 6;refine bodyPost_ret (v:=.tuple #[.agg #[.int .i64 0,.string ⟨#[]⟩,.string ⟨#[]⟩,.int .i64 0,.int .i64 0,.int .i64 0,.slice none 0 0],.int .i64 70]) (by simp[results,Tryz.results202,go_sem,O,R,U,V,X,Z,y6]) rfl ?_;exact⟨.inl ⟨70,Hn.out,by decide,rfl⟩,g.out⟩
  | false=>
   have d4:Hid (∃ u,pC (s.size+1) (bl s)=some (u,r')/\CAt W3 (fun b=>w.heap.size<b) #[.int .i64 k,.string i,.string l,.int .i64 sl,.int .i64 t,.int .i64 le,.slice a m c] u):=by
    rcases I.out with⟨h,_⟩ | ⟨_,h⟩
    ·cases h
    ·exact h
   by_cases e6:a8=s.size
   ·have d5:(a8:Int)=(s.size:Int):=by omega
    have c5:r'=[]:=by rw[<-c4,e6];exact List.drop_eq_nil_of_le (Nat.le_refl _)
    obtain⟨u,z,a9⟩:=d4.out;rw[c5]at z;have d6:=(zEE _).1 _ _ _ z;have d7:∀ d∈u.walk,SmallC 100000 d:=fun d hd=>((zH5 _).1 _ _ _ z d hd).mono (by omega)
    have Hp:Hid (parseC s=if u.valid=true then some u else none):=by unfold Hid;rw[c2.out,z]
    have c6:=zIt u _ _ W3 a9 (by simp at d6;omega) d7;obtain⟨cv,c7⟩:∃ cv,cv=u.valid:=⟨_,rfl⟩
    rw[<-c7]at c6;have d8:=zh c7;have e7:=zh a9;obtain⟨a0,a1,a2,a3,a4,a5,a6⟩:=cl7 q5;clear z a9 d7 c7 qp c4 d3
    go_wp2_with fail
    refine c6.mono ?_;rintro en w4 ⟨rfl,J⟩;have A:=J.heap q id;have d9:=J.heap q5 id;have e0:=zh (c3.out.step J zi);have e1:=zh (e7.out.no J);clear a0 a1 a2 a3 a4 a5 a6 c6 J p1 p2 q q5;cases cv with
    | true=>
     have e8:Hid (parseC s=some u):=by unfold Hid;rw[Hp.out,if_pos d8.out.symm]
     simp only[if_true]
     go_upto_region 7 with(fail)
     obtain⟨a0,a1,a2,a3,a4,a5,a6⟩:=cl7 d9;obtain⟨b0,b1,b2,b3,b4,b5,b6⟩:=cl7 A;obtain⟨f0,f1,f2,f3,f4,f5,f6⟩:=fl7 A;have o:=set7 A rfl (.int .i64 k) (.string i) (.string l) (.int .i64 sl) (.int .i64 t) (.int .i64 le) (.slice a m c);have g:=zh (e0.out.step o.2 (fun b hb h=>by unfold Is at h;omega));have N:=zh o.2;have e2:=zh (((e1.out.fr o.2 (fun b hb h=>by unfold Is at h;omega)).mono (Y:=From w.heap.size) (fun b _ h=>by unfold From;omega)));have f:=zh o.1;clear o
     go_wp2_with fail
     have O:=zB f.out 0;have R:=zB f.out 1;have U:=zB f.out 2;have V:=zB f.out 3;have X:=zB f.out 4;have Z:=zB f.out 5;have y6:=zB f.out 6;refine bodyPost_ret (v:=.tuple #[.agg #[.int .i64 k,.string i,.string l,.int .i64 sl,.int .i64 t,.int .i64 le,.slice a m c],.int .i64 0]) (by simp[results,Tryz.results202,go_sem,O,R,U,V,X,Z,y6]) rfl ?_;exact⟨.inr ⟨_,u,e8.out,rfl,e2.out⟩,g.out⟩
    | false=>
     have Hn:Hid (parseC s=none):=by unfold Hid;rw[Hp.out,if_neg (by rw[<-d8.out];simp)]
     simp only[Bool.false_eq_true,if_false];clear d9;obtain⟨b0,b1,b2,b3,b4,b5,b6⟩:=cl7 A;obtain⟨f0,f1,f2,f3,f4,f5,f6⟩:=fl7 A;have o:=set7 A rfl (.int .i64 0) (.string ⟨#[]⟩) (.string ⟨#[]⟩) (.int .i64 0) (.int .i64 0) (.int .i64 0) (.slice none 0 0);have g:=zh (e0.out.step o.2 (fun b hb h=>by unfold Is at h;omega));have N:=zh o.2;have f:=zh o.1;clear o
     go_wp2_with fail
     have O:=zB f.out 0;have R:=zB f.out 1;have U:=zB f.out 2;have V:=zB f.out 3;have X:=zB f.out 4;have Z:=zB f.out 5;have y6:=zB f.out 6;refine bodyPost_ret (v:=.tuple #[.agg #[.int .i64 0,.string ⟨#[]⟩,.string ⟨#[]⟩,.int .i64 0,.int .i64 0,.int .i64 0,.slice none 0 0],.int .i64 70]) (by simp[results,Tryz.results202,go_sem,O,R,U,V,X,Z,y6]) rfl ?_;exact⟨.inl ⟨70,Hn.out,by decide,rfl⟩,g.out⟩
   ·have d5:¬ (a8:Int)=(s.size:Int):=by omega
    have Hn:Hid (parseC s=none):=by
     unfold Hid;obtain⟨u,z,a9⟩:=d4.out;rw[c2.out,z];cases c5:r' with
     | cons x y=>rfl
     | nil=>
      have h:(s.data.toList.drop a8).length=0:=by rw[c4,c5];rfl
      have h2:s.data.toList.length=s.size:=rfl;rw[List.length_drop,h2]at h;omega
    clear q5;obtain⟨b0,b1,b2,b3,b4,b5,b6⟩:=cl7 q;obtain⟨f0,f1,f2,f3,f4,f5,f6⟩:=fl7 q;have o:=set7 q rfl (.int .i64 0) (.string ⟨#[]⟩) (.string ⟨#[]⟩) (.int .i64 0) (.int .i64 0) (.int .i64 0) (.slice none 0 0);have g:=zh (c3.out.step o.2 (fun b hb h=>by unfold Is at h;omega));have N:=zh o.2;have f:=zh o.1;clear o
    go_wp2_with fail
    have O:=zB f.out 0;have R:=zB f.out 1;have U:=zB f.out 2;have V:=zB f.out 3;have X:=zB f.out 4;have Z:=zB f.out 5;have y6:=zB f.out 6;refine bodyPost_ret (v:=.tuple #[.agg #[.int .i64 0,.string ⟨#[]⟩,.string ⟨#[]⟩,.int .i64 0,.int .i64 0,.int .i64 0,.slice none 0 0],.int .i64 70]) (by simp[results,Tryz.results202,go_sem,O,R,U,V,X,Z,y6]) rfl ?_;exact⟨.inl ⟨70,Hn.out,by decide,rfl⟩,g.out⟩
theorem zJ1 (u:Option Addr)(q o:Nat)(n:List Ct)(w:World)(f:w.ownsRow o 9 1 (.slice u n.length q) n.length ((n.map Ct.txt).map Value.string))(J:(commas (n.map Ct.text)).length<=1000)(L:n.length<=100000):
  Calls Tryz.prog 121 #[.slice u n.length q,.string ⟨#[44]⟩] w fun e w'=>e=.returned (.string (inTxt n))/\Fr No w w':=by
 cases n with
 | nil=>
  refine(Tryz.strings_Join_none u q ⟨#[44]⟩ w).mono ?_;rintro e y ⟨rfl,rfl⟩;exact⟨rfl,Fr.refl _ _⟩
 | cons c n=>
  have g:((c::n).map Ct.txt).length=(c::n).length:=List.length_map _;rw[<-g]at f ⊢;obtain⟨a,z,A,h,_⟩:=Strs.of_own f;cases A;obtain⟨b,v,x,rfl,_,_⟩:=h.at (k:=0) (by simp);obtain⟨_,C,D⟩:=h.cell _ rfl (by simp);refine(Tryz.strings_Join b v q _ ⟨#[44]⟩ _ (fun j x F=>D j x F) C (by rw[g];omega) h.len (by show (Lib.join _ [44]).length<=_;rw[zL5];omega)).mono ?_;rintro e y ⟨rfl,I⟩;exact⟨by rw[<-zIU],Fr.of_below_size I⟩
theorem zJz (m:Nat):m<=10000->∀ (k s t e:Int) (i l:ByteArray) (n:List Ct) (a:Option Addr) (u:Nat) (w:World) (X:Nat->Prop),Ct.counts n<m->InAt w X a u n->(Ct.mk k i l s t e n).good=true->(Ct.mk k i l s t e n).text.length<=1000->
  Calls Tryz.prog 243 #[.agg #[.int .i64 k,.string i,.string l,.int .i64 s,.int .i64 t,.int .i64 e,.slice a n.length u]] w fun O w2=>O=.returned (.string (Ct.mk k i l s t e n).txt)/\Fr No w w2:=by
 obtain⟨i0,e5,e6,e7,e8⟩:=info_parts infoS
 induction m with
 | zero=>intro _ k s t e i l n a u w X h;omega
 | succ m ih=>
  intro hm k s t e i l n a u w X g7 d1 C d2;have g8:=zAP n;have a8:=zCN C;have R:=zL6 C;have d3:=zDx a8.1;obtain⟨g9,h5⟩:=zDS a8.1;have b5:∀ d∈n,d.good=true:=fun d hd=>List.all_eq_true.1 a8.2 d hd
  have d4:∀ d∈n,d.text.length<=1000:=fun d hd=>by
   have h1:=zCP (List.mem_map_of_mem (f:=Ct.text) hd);have h2:(commas (n.map Ct.text)).length<=_:=R;omega
  have V:(commas (n.map Ct.text)).length<=1000:=Nat.le_trans R d2;have d5:=zh b5;have e9:=zh d4;have f0:=zh d3;have b6:=zh V;have h0:Fr No w (w.alloc (.cells #[.int .i64 k,.string i,.string l,.int .i64 s,.int .i64 t,.int .i64 e,.slice a n.length u] 223)):=(Fr.refl _ _).alloc _;have q1:=zD w (.cells #[.int .i64 k,.string i,.string l,.int .i64 s,.int .i64 t,.int .i64 e,.slice a n.length u] 223);have f1:w.heap.size<(w.alloc (.cells #[.int .i64 k,.string i,.string l,.int .i64 s,.int .i64 t,.int .i64 e,.slice a n.length u] 223)).heap.size:=by simp
  obtain⟨W0,c2⟩:∃ W0,W0=w.alloc (.cells #[.int .i64 k,.string i,.string l,.int .i64 s,.int .i64 t,.int .i64 e,.slice a n.length u] 223):=⟨_,rfl⟩
  rw[<-c2]at h0 q1 f1;have d6:=d1.fr h0 (fun _ _=>id);have c6:W0.cell? ⟨w.heap.size,6,none⟩=some (.slice a n.length u):=zB q1 6;have Ih:=zh (ih (by omega));have H0:=zh h0;clear ih d1 h0 d3 b5 d4 a8 C R d2
  go_enter Tryz.func243,Tryz.ntmps243
  go_upto_region 1 with(fail)
  rw[<-c2];clear c2
  go_wp2_with fail
  go_loopw [3,11] (fun v x wr=>∃ (j:Nat) (av:Option Addr) (cv:Nat),j<=n.length/\v=.slice av j cv/\x=.int .i64 (j:Int)/\wr.ownsRow W0.heap.size 9 1 (.slice av j cv) j (((n.take j).map Ct.txt).map Value.string)/\Fr (From W0.heap.size) W0 wr) (fun _ x _=>n.length-(intOf x).toNat)
  case atStart=>exact⟨0,none,0,by omega,rfl,rfl,World.ownsRow_nil _ _ _ _,Fr.refl _ _⟩
  case round=>
   obtain⟨j,av,cv,hj,rfl,rfl,A,D⟩:=hrel;by_cases f2:j<n.length
   ·have d7:(j:Int)<n.length:=by omega
    obtain⟨d,hd⟩:∃ d,n[j]?=some d:=⟨_,List.getElem?_eq_getElem f2⟩
    have a9:=List.mem_of_getElem? hd;have f3:=zAw a9;have d8:=d5.out d a9;have d9:=e9.out d a9;have f4:Hid (((n.take (j+1)).map Ct.txt).map Value.string=((n.take j).map Ct.txt).map Value.string++[.string d.txt]):=by unfold Hid;rw[List.take_add_one,hd];simp
    obtain⟨k1,i1,l1,s1,t1,e1,n1⟩:=d;rw[Ct.count]at f3;have b7:InAt wr (fun b=>b<W0.heap.size) a u n:=by
     have h3:=d6.mono (Y:=fun b=>b<W0.heap.size) (fun b hb _=>hb);exact h3.fr D (fun b hb h=>by unfold From at h;omega)
    obtain⟨b,h6,a',b8,rfl,hb,hX,⟨y0,y1,y2,y3,y4,y5,y6⟩,b9⟩:=b7.at hd;have h7:=D.size;clear hd b7 a9
    go_wp2_with fail
    have hx:Fr No wr (wr.alloc (.cells #[.int .i64 k1,.string i1,.string l1,.int .i64 s1,.int .i64 t1,.int .i64 e1,.slice a' n1.length b8] 223)):=(Fr.refl _ _).alloc _;refine(Ih.out k1 s1 t1 e1 i1 l1 n1 a' b8 _ _ (by omega) (b9.fr hx (fun _ _=>id)) d8 d9).mono ?_;rintro e w2 ⟨rfl,e0⟩;have b0:=hx.step e0 zi;have c3:=zh (D.step b0 zn);have F:=zAK A b0 zi;have h8:=b0.size;generalize (Ct.mk k1 i1 l1 s1 t1 e1 n1).txt=tx at *;clear hx e0 D y0 y1 y2 y3 y4 y5 y6 b9 A b0 d8 d9
    go_wp2_with (at_builtin;refine wpList_append_own _ rfl _ _ 30 rfl W0.heap.size 9 i0 (.string ByteArray.empty) 1 16 Tryz.underlying30 e5 e6 e7 e8 rfl (by decide) _ _ _ rfl (F.alloc _) ⟨w2.heap.size,0,none⟩ 1 1 [.string tx] rfl rfl (cell_one_new _ _ _) (zCa [tx]) (by unfold maxLen;omega) (by omega) (by first | omega | (simp;done) | (simp;omega)) ?_;intro v' wb J Z _;obtain⟨f5,f6,rfl⟩:=zJ J)
    have e2:Fr (From W0.heap.size) w2 wb:=zBc F Z;have f7:=zh (c3.out.step e2 zi);have e3:=zh J;clear J Z e2 F
    go_roundw
    case rel=>exact⟨j+1,f5,f6,by omega,rfl,by go_num,by rw[f4.out];exact e3.out,f7.out⟩
    case measure=>simp[intOf];omega
   ·have d7:¬ (j:Int)<n.length:=by omega
    obtain rfl:j=n.length:=by omega
    rw[List.take_length]at A;have r1:=D.heap q1 (fun h=>by unfold From at h;omega);have c3:=zh (H0.out.trans (U:=No) D zi (fun b hb h=>by unfold From at h;omega));have e4:=zJ1 av cv _ n wr A b6.out (by omega);clear D q1 c6 A
    go_wp2_with fail
    refine e4.mono ?_;rintro O w5 ⟨rfl,c4⟩;have r5:=c4.heap r1 id;have N:=zh (c3.out.step c4 zi);have Hu:Hid ((⟨#[40]⟩:ByteArray).size=1/\(⟨#[41]⟩:ByteArray).size=1/\(⟨#[58]⟩:ByteArray).size=1/\(⟨#[47]⟩:ByteArray).size=1):=⟨rfl,rfl,rfl,rfl⟩
    have f8:(inTxt n).size<=1000:=b6.out;clear e4 c4 r1;have b1:¬ 9223372036854775807<1+(inTxt n).size:=by omega
    have b2:¬ 9223372036854775807<1+(inTxt n).size+1:=by omega
    have o:(((⟨#[40]⟩:ByteArray)++inTxt n++(⟨#[41]⟩:ByteArray))).size<=1002:=by have hu:=Hu.out;simp only[ByteArray.size_append];omega
    have b3:Hid (((⟨#[40]⟩:ByteArray)++inTxt n++(⟨#[41]⟩:ByteArray))=boxed n):=rfl;have a7:=zh o;clear f8 o
    go_upto_region 8 with(fail)
    generalize ((⟨#[40]⟩:ByteArray)++inTxt n++(⟨#[41]⟩:ByteArray))=bx at *;clear b1 b2;obtain⟨a0,a1,a2,a3,a4,a5,a6⟩:=cl7 r5;rcases f0.out with⟨rfl | rfl,rfl⟩ | ⟨rfl,h2⟩ | rfl | ⟨rfl,h4⟩ | rfl
    ·go_wp2_with fail
     go_ret;exact⟨by rw[txt0];rfl,N.out⟩
    ·have up:(⟨#[102,115,58]⟩:ByteArray).size=3:=rfl;have o:=a7.out;have z1:¬ 9223372036854775807<3+i.size:=by omega
     have z2:¬ 9223372036854775807<3+i.size+1:=by omega
     have z3:¬ 9223372036854775807<3+i.size+1+l.size:=by omega
     clear o up
     go_wp2_with fail
     go_ret;exact⟨by rw[txt1];rfl,N.out⟩
    ·obtain⟨p0,p1,p2,p3,p4,p5⟩:=h2;obtain⟨sn,rfl⟩:=Int.eq_ofNat_of_zero_le (show 0<=s by omega);obtain⟨tn,rfl⟩:=Int.eq_ofNat_of_zero_le (show 0<=t by omega);obtain⟨O,rfl⟩:=Int.eq_ofNat_of_zero_le (show 0<=e by omega);have up:(⟨#[114,97,105,100,58]⟩:ByteArray).size=5:=rfl;have o:=a7.out;obtain⟨L,y⟩:∃ I:ByteArray,I=numBA sn:=⟨_,rfl⟩
     have f9:L.size<=2:=by rw[y];exact zBv (by omega) (by omega)
     have c5:=zh y;have G0:∀ W,Calls Tryz.prog 201 #[.int .i64 (sn:Int)] W fun e w'=>e=.returned (.string L)/\w'=W:=by rw[y];exact fun W=>Tryz.strconv_Itoa_small sn (by omega) W
     have c7:=zh G0;obtain⟨I1,z⟩:∃ I:ByteArray,I=numBA tn:=⟨_,rfl⟩
     have g0:I1.size<=2:=by rw[z];exact zBv (by omega) (by omega)
     have c8:=zh z;have G1:∀ W,Calls Tryz.prog 201 #[.int .i64 (tn:Int)] W fun e w'=>e=.returned (.string I1)/\w'=W:=by rw[z];exact fun W=>Tryz.strconv_Itoa_small tn (by omega) W
     have c9:=zh G1;obtain⟨I2,b4⟩:∃ I:ByteArray,I=numBA O:=⟨_,rfl⟩
     have h9:I2.size<=2:=by rw[b4];exact zBv (by omega) (by omega)
     have g2:=zh b4;have G2:∀ W,Calls Tryz.prog 201 #[.int .i64 (O:Int)] W fun e w'=>e=.returned (.string I2)/\w'=W:=by rw[b4];exact fun W=>Tryz.strconv_Itoa_small O (by omega) W
     have g6:=zh G2;have z1:¬ 9223372036854775807<5+i.size:=by omega
     have z2:¬ 9223372036854775807<5+i.size+1:=by omega
     have z3:¬ 9223372036854775807<5+i.size+1+L.size:=by omega
     have z4:¬ 9223372036854775807<5+i.size+1+L.size+1:=by omega
     have z5:¬ 9223372036854775807<5+i.size+1+L.size+1+I1.size:=by omega
     have z6:¬ 9223372036854775807<5+i.size+1+L.size+1+I1.size+1:=by omega
     have z7:¬ 9223372036854775807<5+i.size+1+L.size+1+I1.size+1+I2.size:=by omega
     have z8:¬ 9223372036854775807<5+i.size+1+L.size+1+I1.size+1+I2.size+bx.size:=by omega
     clear o up y G0 z G1 b4 G2
     go_wp2_with fail
     refine zQ No [(0,false),(1,false),(2,false),(3,false),(4,false),(5,false),(6,false),(10,false),(11,false),(12,false),(16,false),(17,false),(18,false),(21,false),(7,true),(8,false),(9,false),(13,true),(14,false),(15,false),(19,true),(20,false),(22,false),(23,false)] (by kernel_rfl) (by kernel_rfl) (fun w6 q=>?_);have g1:∀ g:Gr No w6,g.W.cell? ⟨w.heap.size,1,none⟩=some (.string i):=fun g=>g.fr.cell (q.cell a1 id) id
     have g3:∀ g:Gr No w6,g.W.cell? ⟨w.heap.size,3,none⟩=some (.int .i64 (sn:Int)):=fun g=>g.fr.cell (q.cell a3 id) id
     have g4:∀ g:Gr No w6,g.W.cell? ⟨w.heap.size,4,none⟩=some (.int .i64 (tn:Int)):=fun g=>g.fr.cell (q.cell a4 id) id
     have g5:∀ g:Gr No w6,g.W.cell? ⟨w.heap.size,5,none⟩=some (.int .i64 (O:Int)):=fun g=>g.fr.cell (q.cell a5 id) id
     have d0:=zh (N.out.step q zi);clear a0 a1 a2 a3 a4 a5 a6 r5 q
     repeat (apply zS rfl rfl rfl;intro K hK;go_big_quiet_op;go_big_quiet_on)
     clear g1 g3 g4 g5;apply zk;exact rfl
     go_wp2_with fail
     refine(c7.out _).mono ?_;rintro O w7 ⟨rfl,rfl⟩
     go_wp2_with fail
     refine zq ?_
     repeat (apply zS rfl rfl rfl;intro K hK;go_big_quiet_op;go_big_quiet_on)
     apply zk;exact rfl
     go_wp2_with fail
     refine(c9.out _).mono ?_;rintro O w7 ⟨rfl,rfl⟩
     go_wp2_with fail
     refine zq ?_
     repeat (apply zS rfl rfl rfl;intro K hK;go_big_quiet_op;go_big_quiet_on)
     apply zk;exact rfl
     go_wp2_with fail
     refine(g6.out _).mono ?_;rintro O w7 ⟨rfl,rfl⟩
     go_wp2_with fail
     refine zq ?_
     repeat (apply zS rfl rfl rfl;intro K hK;go_big_quiet_op;go_big_quiet_on)
     refine zY ?_
     go_wp2_with fail
     go_ret;exact⟨by rw[txt2,<-b3.out,<-c5.out,<-c8.out,<-g2.out];rfl,d0.out⟩
    ·have up:(⟨#[99,114,121,112,116,58]⟩:ByteArray).size=6:=rfl;have o:=a7.out;have z1:¬ 9223372036854775807<6+i.size:=by omega
     have z2:¬ 9223372036854775807<6+i.size+bx.size:=by omega
     clear o up
     go_wp2_with fail
     go_ret;exact⟨by rw[txt3,<-b3.out];rfl,N.out⟩
    ·obtain⟨p0,p1,p2,p3⟩:=h4;obtain⟨sn,rfl⟩:=Int.eq_ofNat_of_zero_le (show 0<=s by omega);obtain⟨tn,rfl⟩:=Int.eq_ofNat_of_zero_le (show 0<=t by omega);have up:(⟨#[112,118,58]⟩:ByteArray).size=3:=rfl;have o:=a7.out;obtain⟨L,y⟩:∃ I:ByteArray,I=numBA sn:=⟨_,rfl⟩
     have f9:L.size<=2:=by rw[y];exact zBv (by omega) (by omega)
     have c5:=zh y;have G0:∀ W,Calls Tryz.prog 201 #[.int .i64 (sn:Int)] W fun e w'=>e=.returned (.string L)/\w'=W:=by rw[y];exact fun W=>Tryz.strconv_Itoa_small sn (by omega) W
     have c7:=zh G0;obtain⟨I1,z⟩:∃ I:ByteArray,I=numBA tn:=⟨_,rfl⟩
     have g0:I1.size<=2:=by rw[z];exact zBv (by omega) (by omega)
     have c8:=zh z;have G1:∀ W,Calls Tryz.prog 201 #[.int .i64 (tn:Int)] W fun e w'=>e=.returned (.string I1)/\w'=W:=by rw[z];exact fun W=>Tryz.strconv_Itoa_small tn (by omega) W
     have c9:=zh G1;have z1:¬ 9223372036854775807<3+i.size:=by omega
     have z2:¬ 9223372036854775807<3+i.size+1:=by omega
     have z3:¬ 9223372036854775807<3+i.size+1+L.size:=by omega
     have z4:¬ 9223372036854775807<3+i.size+1+L.size+1:=by omega
     have z5:¬ 9223372036854775807<3+i.size+1+L.size+1+I1.size:=by omega
     have z6:¬ 9223372036854775807<3+i.size+1+L.size+1+I1.size+bx.size:=by omega
     clear o up y G0 z G1
     go_wp2_with fail
     refine zQ No [(0,false),(1,false),(2,false),(3,false),(4,false),(5,false),(6,false),(10,false),(11,false),(12,false),(15,false),(7,true),(8,false),(9,false),(13,true),(14,false),(16,false),(17,false)] (by kernel_rfl) (by kernel_rfl) (fun w6 q=>?_);have g1:∀ g:Gr No w6,g.W.cell? ⟨w.heap.size,1,none⟩=some (.string i):=fun g=>g.fr.cell (q.cell a1 id) id
     have g3:∀ g:Gr No w6,g.W.cell? ⟨w.heap.size,3,none⟩=some (.int .i64 (sn:Int)):=fun g=>g.fr.cell (q.cell a3 id) id
     have g4:∀ g:Gr No w6,g.W.cell? ⟨w.heap.size,4,none⟩=some (.int .i64 (tn:Int)):=fun g=>g.fr.cell (q.cell a4 id) id
     have d0:=zh (N.out.step q zi);clear a0 a1 a2 a3 a4 a5 a6 r5 q
     repeat (apply zS rfl rfl rfl;intro K hK;go_big_quiet_op;go_big_quiet_on)
     clear g1 g3 g4;apply zk;exact rfl
     go_wp2_with fail
     refine(c7.out _).mono ?_;rintro O w7 ⟨rfl,rfl⟩
     go_wp2_with fail
     refine zq ?_
     repeat (apply zS rfl rfl rfl;intro K hK;go_big_quiet_op;go_big_quiet_on)
     apply zk;exact rfl
     go_wp2_with fail
     refine(c9.out _).mono ?_;rintro O w7 ⟨rfl,rfl⟩
     go_wp2_with fail
     refine zq ?_
     repeat (apply zS rfl rfl rfl;intro K hK;go_big_quiet_op;go_big_quiet_on)
     refine zY ?_
     go_wp2_with fail
     go_ret;exact⟨by rw[txt4,<-b3.out,<-c5.out,<-c8.out];rfl,d0.out⟩
    ·have up:(⟨#[116,97,98,108,101,58]⟩:ByteArray).size=6:=rfl;have o:=a7.out;have z1:¬ 9223372036854775807<6+i.size:=by omega
     have z2:¬ 9223372036854775807<6+i.size+bx.size:=by omega
     clear o up
     go_wp2_with fail
     go_ret;exact⟨by rw[txt5,<-b3.out];rfl,N.out⟩
end Go.Proofs.YtinfjnndbfahhaaGreatDoor
