import Derived.Test.YtinfjnndbfahhaaGreatDoorQ23
namespace Go.Proofs.YtinfjnndbfahhaaGreatDoor
open Go.RowKit Go.Maps
set_option linter.unusedVariables false
set_option maxRecDepth 100000
set_option maxHeartbeats 2000000
theorem zBx (s t e:Int):noNum s t e=(decide (s=0)&&decide (t=0)&&decide (e=0)):=rfl
theorem zBI (l:ByteArray):(l.toList==l.toList)=true:=by simp
theorem zAt (l:ByteArray):(l.toList==(⟨#[]⟩:ByteArray).toList)=(bl l).isEmpty:=by
 rw[ByteArray.toList_eq,ByteArray.toList_eq];show (l.data.toList==[])=l.data.toList.isEmpty
 cases l.data.toList<;>rfl
theorem zEL (n:List Ct):decide (n.length=0)=n.isEmpty:=by cases n<;>simp
theorem zMB (s t e:Int)(i l:ByteArray)(n:List Ct):alike (.mk 0 i l s t e n)=sameB 0 s t e 0 0 0 0 i l ⟨#[]⟩ ⟨#[]⟩ n.length:=by
 simp only[alike,if_pos,sameB,zAt,zEL,zBx,decide_true,Bool.true_and];simp only[Bool.and_assoc]
theorem zDy (s t e:Int)(i l:ByteArray)(n:List Ct):alike (.mk 1 i l s t e n)=(n.isEmpty&&(((bl l).isEmpty||isId l)&&(isId i&&sameB 1 s t e 1 0 0 0 i l i l 0))):=by
 simp only[alike,sameB,zBI,zBx,decide_true,Bool.true_and,Bool.and_true];rw[if_neg (by omega),if_pos trivial];cases n.isEmpty<;>cases isId i<;>cases((bl l).isEmpty||isId l)<;>simp
theorem zFJ (s t e:Int)(i l:ByteArray)(n:List Ct):alike (.mk 2 i l s t e n)=(decide (n.length=1)&&(zAH s t&&((decide (1<=e)&&decide (e<=t))&&(isId i&&sameB 2 s t e 2 s t e i l i ⟨#[]⟩ 0)))):=by
 simp only[alike,sameB,zBI,zAt,decide_true,Bool.true_and,Bool.and_true];rw[if_neg (by omega),if_neg (by omega),if_pos trivial];cases isId i<;>cases(bl l).isEmpty<;>cases decide (n.length=1)<;>cases zAH s t<;>simp
theorem zI5 (s t e:Int)(i l:ByteArray)(n:List Ct):alike (.mk 3 i l s t e n)=(decide (n.length=1)&&(isId i&&sameB 3 s t e 3 0 0 0 i l i ⟨#[]⟩ 0)):=by
 simp only[alike,sameB,zBI,zAt,zBx,decide_true,Bool.true_and,Bool.and_true];rw[if_neg (by omega),if_neg (by omega),if_neg (by omega),if_pos trivial];cases isId i<;>cases(bl l).isEmpty<;>cases decide (n.length=1)<;>simp[Bool.and_assoc]
theorem zGs (s t e:Int)(i l:ByteArray)(n:List Ct):alike (.mk 4 i l s t e n)=((decide (1<=(n.length:Int))&&decide ((n.length:Int)<=16))&&(zAH s t&&(isId i&&sameB 4 s t e 4 s t 0 i l i ⟨#[]⟩ 0))):=by
 have h:(decide (1<=(n.length:Int))&&decide ((n.length:Int)<=16))=someIn n:=by unfold someIn;rw[Bool.eq_iff_iff];simp;omega
 rw[h];simp only[alike,sameB,zBI,zAt,decide_true,Bool.true_and,Bool.and_true];rw[if_neg (by omega),if_neg (by omega),if_neg (by omega),if_neg (by omega),if_pos trivial];cases isId i<;>cases(bl l).isEmpty<;>cases someIn n<;>cases zAH s t<;>simp
theorem zI4 (s t e:Int)(i l:ByteArray)(n:List Ct):alike (.mk 5 i l s t e n)=((decide (1<=(n.length:Int))&&decide ((n.length:Int)<=16))&&(isId i&&sameB 5 s t e 5 0 0 0 i l i ⟨#[]⟩ 0)):=by
 have h:(decide (1<=(n.length:Int))&&decide ((n.length:Int)<=16))=someIn n:=by unfold someIn;rw[Bool.eq_iff_iff];simp;omega
 rw[h];simp only[alike,sameB,zBI,zAt,zBx,decide_true,Bool.true_and,Bool.and_true];rw[if_neg (by omega),if_neg (by omega),if_neg (by omega),if_neg (by omega),if_neg (by omega),if_pos trivial];cases isId i<;>cases(bl l).isEmpty<;>cases someIn n<;>simp[Bool.and_assoc]
theorem zMA {k:Int}(s t e:Int)(i l:ByteArray)(n:List Ct)(f:k≠0)(g:k≠1)(h:k≠2)(o:k≠3)(q:k≠4)(u:k≠5):alike (.mk k i l s t e n)=false:=by
 rw[alike,if_neg f,if_neg g,if_neg h,if_neg o,if_neg q,if_neg u]
theorem zLY (k s t e:Int)(i l:ByteArray)(n:List Ct)(a:Option Addr)(b9:Nat)(w:World)(hn:n.length<=100000)(e0:i.size<=100000)(h9:l.size<=100000):
  Calls Tryz.prog 279 #[.agg #[.int .i64 k,.string i,.string l,.int .i64 s,.int .i64 t,.int .i64 e,.slice a n.length b9]] w fun en w2=>en=.returned (.bool (alike (.mk k i l s t e n)))/\Fr No w w2:=by
 have h0:Fr No w (w.alloc (.cells #[.int .i64 k,.string i,.string l,.int .i64 s,.int .i64 t,.int .i64 e,.slice a n.length b9] 223)):=(Fr.refl _ _).alloc _;have q1:=zD w (.cells #[.int .i64 k,.string i,.string l,.int .i64 s,.int .i64 t,.int .i64 e,.slice a n.length b9] 223);have i0:(w.alloc (.cells #[.int .i64 k,.string i,.string l,.int .i64 s,.int .i64 t,.int .i64 e,.slice a n.length b9] 223)).heap.size=w.heap.size+1:=by simp
 obtain⟨W0,e6⟩:∃ W0,W0=w.alloc (.cells #[.int .i64 k,.string i,.string l,.int .i64 s,.int .i64 t,.int .i64 e,.slice a n.length b9] 223):=⟨_,rfl⟩
 rw[<-e6]at h0 q1 i0;obtain⟨L,N,U,A,C,O,R⟩:=cl7 q1;have H0:=zh h0
 go_enter Tryz.func279,Tryz.ntmps279
 go_upto_region 1 with(fail)
 rw[<-e6];clear e6 h0;by_cases f7:k=0
 ·subst f7
  go_wp2_with fail
  refine(zDL 0 s t e 0 0 0 0 i l ⟨#[]⟩ ⟨#[]⟩ a n.length b9 _ hn).mono ?_;rintro en w1 ⟨rfl,f8⟩;have Hf:=zh (H0.out.step f8 zi);clear f8
  go_wp2_with fail
  go_ret;exact⟨by rw[zMB];rfl,Hf.out⟩
 ·go_wp2_with fail
  refine zQ (From W0.heap.size) [(0,false),(1,false),(2,false),(3,false),(4,false),(5,false),(6,false),(7,false),(8,true),(9,true),(10,false)] (by kernel_rfl) (by kernel_rfl) (fun f d7=>?_);have e7:¬ From W0.heap.size w.heap.size:=fun h=>by unfold From at h;omega
  have g0:∀ g:Gr (From W0.heap.size) f,g.W.cell? ⟨w.heap.size,0,none⟩=some (.int .i64 k):=fun g=>g.fr.cell (d7.cell L id) e7
  have g1:∀ g:Gr (From W0.heap.size) f,g.W.cell? ⟨w.heap.size,1,none⟩=some (.string i):=fun g=>g.fr.cell (d7.cell N id) e7
  have g6:∀ g:Gr (From W0.heap.size) f,g.W.cell? ⟨w.heap.size,6,none⟩=some (.slice a n.length b9):=fun g=>g.fr.cell (d7.cell R id) e7
  have f9:=d7.heap q1 id;have i3:=d7.size;have i1:=zh (H0.out.step d7 zi);clear L N U A C O R q1 d7
  repeat (apply zS rfl rfl rfl;intro K hK;go_big_quiet_op;go_big_quiet_on)
  clear g0 g1 g6;apply zk;exact rfl
  go_wp2_with fail
  have e1:Fr No f (f.alloc (.cells #[.int .i64 0,.string ⟨#[]⟩,.string ⟨#[]⟩,.int .i64 0,.int .i64 0,.int .i64 0,.slice none 0 0] 223)):=(Fr.refl _ _).alloc _;refine zm e1 ?_;have q2:=zD f (.cells #[.int .i64 0,.string ⟨#[]⟩,.string ⟨#[]⟩,.int .i64 0,.int .i64 0,.int .i64 0,.slice none 0 0] 223);have e8:=e1.heap f9 id;obtain⟨W1,g2⟩:∃ W1,W1=f.alloc (.cells #[.int .i64 0,.string ⟨#[]⟩,.string ⟨#[]⟩,.int .i64 0,.int .i64 0,.int .i64 0,.slice none 0 0] 223):=⟨_,rfl⟩
  rw[<-g2]at e1 q2 e8 ⊢;have i2:=zh (i1.out.step e1 zi);have h7:=set7 q2 rfl (.int .i64 k) (.string i) (.string ⟨#[]⟩) (.int .i64 0) (.int .i64 0) (.int .i64 0) (.slice none 0 0);have v:=h7.2.heap e8 (fun h=>by unfold Is at h;omega);have d4:=zh (i2.out.step h7.2 (fun b hb h=>by unfold Is at h;omega));have g7:=zh h7.2;have u:=h7.1;have g8:=v;obtain⟨V,X,Y,y,z,D,Z⟩:=cl7 q2;obtain⟨f0,f1,f2,f3,f4,f5,f6⟩:=fl7 q2;clear h7 e1 f9 e8 q2 g2;apply zk;exact rfl
  go_wp2_with fail
  refine OnlyN.mk ⟨g7.out.mono (fun b hb h=>by unfold Is at h;unfold From;omega),?_⟩;clear g7;have hg:w.heap.size<f.heap.size:=by omega
  generalize (((((((W1.setCell ⟨f.heap.size,0,none⟩ (.int .i64 k)).setCell ⟨f.heap.size,1,none⟩ (.string i)).setCell ⟨f.heap.size,2,none⟩ (.string ⟨#[]⟩)).setCell ⟨f.heap.size,3,none⟩ (.int .i64 0)).setCell ⟨f.heap.size,4,none⟩ (.int .i64 0)).setCell ⟨f.heap.size,5,none⟩ (.int .i64 0)).setCell ⟨f.heap.size,6,none⟩ (.slice none 0 0))=W3 at *;clear V X Y y z D Z f0 f1 f2 f3 f4 f5 f6 g8
  repeat (apply zS rfl rfl rfl;intro K hK;go_big_quiet_op;go_big_quiet_on)
  refine zY ?_;by_cases g9:k=1
  ·subst g9;obtain⟨L,N,U,A,C,O,R⟩:=cl7 v;obtain⟨V,X,Y,y,z,D,Z⟩:=cl7 u;obtain⟨f0,f1,f2,f3,f4,f5,f6⟩:=fl7 u
   go_upto_region 8 with(fail)
   have hz:Fr (Is f.heap.size) W3 (W3.setCell ⟨f.heap.size,2,none⟩ (.string l)):=Fr.setAt (Fr.refl _ _) _;have a7:(W3.setCell ⟨f.heap.size,2,none⟩ (.string l)).heap[f.heap.size]?=some (.cells #[.int .i64 1,.string i,.string l,.int .i64 0,.int .i64 0,.int .i64 0,.slice none 0 0] 223):=zF u 2 (.string l);have c2:=hz.heap v (fun h=>by unfold Is at h;omega);have c7:=zh (d4.out.step hz (fun b hb h=>by unfold Is at h;omega));clear hz v u;clear L N U A C O R V X Y y z D Z f0 f1 f2 f3 f4 f5 f6;generalize W3.setCell ⟨f.heap.size,2,none⟩ (.string l)=W4 at *;obtain⟨L,N,U,A,C,O,R⟩:=cl7 c2;obtain⟨V,X,Y,y,z,D,Z⟩:=cl7 a7;by_cases h1:n.length=0
   case neg=>
    have h2:(0:Int)<(n.length:Int):=by omega
    have Hd:Hid (n.isEmpty=false):=by unfold Hid;rw[<-zEL];exact decide_eq_false h1
    go_wp2_with fail
    go_ret;exact⟨by rw[zDy,Hd.out];simp,c7.out⟩
   have h2:¬ (0:Int)<(n.length:Int):=by omega
   have Hd:Hid (n.isEmpty=true):=by unfold Hid;rw[<-zEL];exact decide_eq_true h1
   have e4:l.toList.isEmpty=(bl l).isEmpty:=by rw[ByteArray.toList_eq]
   cases hll:(bl l).isEmpty with
   | true=>
    rw[hll]at e4;have Hl:Hid (((bl l).isEmpty||isId l)=true):=by unfold Hid;rw[hll];rfl
    clear hll
    go_upto_region 24 with(fail)
    clear L N U A C O R V X Y y z D Z e4;have c6:W4.cell? ⟨w.heap.size,6,none⟩=some (.slice a n.length b9):=zB c2 6;have f6:W4.frozen? ⟨w.heap.size,6,none⟩=false:=zE c2 6
    go_upto_region 25 with(fail)
    have hy:Fr (Is w.heap.size) W4 (W4.setCell ⟨w.heap.size,6,none⟩ (.slice none 0 0)):=Fr.setAt (Fr.refl _ _) _;have p1:=zF c2 6 (.slice none 0 0);have p2:=hy.heap a7 (fun h=>by unfold Is at h;omega);have Hy:=zh (c7.out.step hy (fun b hb h=>by unfold Is at h;omega));clear hy c6 f6 c2 a7;generalize W4.setCell ⟨w.heap.size,6,none⟩ (.slice none 0 0)=W7 at *;have c1:W7.cell? ⟨w.heap.size,1,none⟩=some (.string i):=zB p1 1
    go_wp2_with fail
    refine(zDM i _ e0).mono ?_;rintro en w8 ⟨rfl,o⟩;have r1:=o.heap p1 id;have r2:=o.heap p2 id;have F:=zh (Hy.out.step o zi);clear p1 p2 c1 o;obtain⟨L,N,U,A,C,O,R⟩:=cl7 r1;obtain⟨V,X,Y,y,z,D,Z⟩:=cl7 r2;cases hii:isId i with
    | false=>
     have q:=zh hii;clear hii
     go_wp2_with fail
     go_ret;exact⟨by rw[zDy,q.out];simp,F.out⟩
    | true=>
     have q:=zh hii;clear hii
     go_wp2_with fail
     refine(zDL 1 s t e 1 0 0 0 i l i l none 0 0 _ (by omega)).mono ?_;rintro en w9 ⟨rfl,I⟩;have c4:=zh (F.out.step I zi);clear I L N U A C O R V X Y y z D Z r1 r2
     go_wp2_with fail
     go_ret;exact⟨by rw[zDy,q.out,Hd.out,Hl.out];simp,c4.out⟩
   | false=>
    rw[hll]at e4;have h3:=zh hll;clear hll
    go_wp2_with fail
    refine(zDM l _ h9).mono ?_;rintro en w6 ⟨rfl,a9⟩;have a8:=a9.heap c2 id;have c8:=a9.heap a7 id;have c9:=zh (c7.out.step a9 zi);clear a9 c2 a7 L N U A C O R V X Y y z D Z;cases hd2:isId l with
    | false=>
     have Hl:Hid (((bl l).isEmpty||isId l)=false):=by unfold Hid;rw[h3.out,hd2];rfl
     clear hd2
     go_wp2_with fail
     go_ret;exact⟨by rw[zDy,Hl.out];simp,c9.out⟩
    | true=>
     have Hl:Hid (((bl l).isEmpty||isId l)=true):=by unfold Hid;rw[h3.out,hd2];rfl
     clear hd2
     go_upto_region 24 with(fail)
     clear e4;have c6:w6.cell? ⟨w.heap.size,6,none⟩=some (.slice a n.length b9):=zB a8 6;have f6:w6.frozen? ⟨w.heap.size,6,none⟩=false:=zE a8 6
     go_upto_region 25 with(fail)
     have hy:Fr (Is w.heap.size) w6 (w6.setCell ⟨w.heap.size,6,none⟩ (.slice none 0 0)):=Fr.setAt (Fr.refl _ _) _;have p1:=zF a8 6 (.slice none 0 0);have p2:=hy.heap c8 (fun h=>by unfold Is at h;omega);have Hy:=zh (c9.out.step hy (fun b hb h=>by unfold Is at h;omega));clear hy c6 f6 a8 c8;generalize w6.setCell ⟨w.heap.size,6,none⟩ (.slice none 0 0)=W7 at *;have c1:W7.cell? ⟨w.heap.size,1,none⟩=some (.string i):=zB p1 1
     go_wp2_with fail
     refine(zDM i _ e0).mono ?_;rintro en w8 ⟨rfl,o⟩;have r1:=o.heap p1 id;have r2:=o.heap p2 id;have F:=zh (Hy.out.step o zi);clear p1 p2 c1 o;obtain⟨L,N,U,A,C,O,R⟩:=cl7 r1;obtain⟨V,X,Y,y,z,D,Z⟩:=cl7 r2;cases hii:isId i with
     | false=>
      have q:=zh hii;clear hii
      go_wp2_with fail
      go_ret;exact⟨by rw[zDy,q.out];simp,F.out⟩
     | true=>
      have q:=zh hii;clear hii
      go_wp2_with fail
      refine(zDL 1 s t e 1 0 0 0 i l i l none 0 0 _ (by omega)).mono ?_;rintro en w9 ⟨rfl,I⟩;have c4:=zh (F.out.step I zi);clear I L N U A C O R V X Y y z D Z r1 r2
      go_wp2_with fail
      go_ret;exact⟨by rw[zDy,q.out,Hd.out,Hl.out];simp,c4.out⟩
  by_cases h4:k=2
  ·subst h4;obtain⟨L,N,U,A,C,O,R⟩:=cl7 v;obtain⟨V,X,Y,y,z,D,Z⟩:=cl7 u;obtain⟨f0,f1,f2,f3,f4,f5,f6⟩:=fl7 u
   go_wp2_with fail
   refine zQ (Is f.heap.size) [(0,false),(1,false),(2,false),(3,false),(4,false),(5,false),(6,false),(7,true),(8,false),(9,true),(10,false),(11,true)] (by kernel_rfl) (by kernel_rfl) (fun w4 b7=>?_);have g3:∀ g:Gr (Is f.heap.size) w4,g.W.cell? ⟨w.heap.size,3,none⟩=some (.int .i64 s):=fun g=>g.fr.cell (b7.cell A id) (show ¬ Is f.heap.size w.heap.size from by unfold Is;omega)
   have g4:∀ g:Gr (Is f.heap.size) w4,g.W.cell? ⟨w.heap.size,4,none⟩=some (.int .i64 t):=fun g=>g.fr.cell (b7.cell C id) (show ¬ Is f.heap.size w.heap.size from by unfold Is;omega)
   have g5:∀ g:Gr (Is f.heap.size) w4,g.W.cell? ⟨w.heap.size,5,none⟩=some (.int .i64 e):=fun g=>g.fr.cell (b7.cell O id) (show ¬ Is f.heap.size w.heap.size from by unfold Is;omega)
   have c2:=b7.heap v id;have a7:=b7.heap u id;have c7:=zh (d4.out.step b7 zi);clear v u b7;clear L N U A C O R V X Y y z D Z f0 f1 f2 f3 f4 f5 f6
   repeat (apply zS rfl rfl rfl;intro K hK;go_big_quiet_op;go_big_quiet_on)
   apply zk;exact rfl;have y:w4.cell? ⟨f.heap.size,3,none⟩=some (.int .i64 0):=zB a7 3;have f3:w4.frozen? ⟨f.heap.size,3,none⟩=false:=zE a7 3
   go_wp2_with fail
   have d0:Fr (Is f.heap.size) w4 (w4.setCell ⟨f.heap.size,3,none⟩ (.int .i64 s)):=Fr.setAt (Fr.refl _ _) _;refine zf d0 ?_;have b8:(w4.setCell ⟨f.heap.size,3,none⟩ (.int .i64 s)).heap[f.heap.size]?=some (.cells #[.int .i64 2,.string i,.string ⟨#[]⟩,.int .i64 s,.int .i64 0,.int .i64 0,.slice none 0 0] 223):=zF a7 3 (.int .i64 s);have d5:=d0.heap c2 (fun h=>by unfold Is at h;omega);have d6:=zh (c7.out.step d0 (fun b hb h=>by unfold Is at h;omega));clear d0 y f3 c2 a7 c7;generalize w4.setCell ⟨f.heap.size,3,none⟩ (.int .i64 s)=W40 at *
   repeat (apply zS rfl rfl rfl;intro K hK;go_big_quiet_op;go_big_quiet_on)
   apply zk;exact rfl;have z:W40.cell? ⟨f.heap.size,4,none⟩=some (.int .i64 0):=zB b8 4;have f4:W40.frozen? ⟨f.heap.size,4,none⟩=false:=zE b8 4
   go_wp2_with fail
   have d1:Fr (Is f.heap.size) W40 (W40.setCell ⟨f.heap.size,4,none⟩ (.int .i64 t)):=Fr.setAt (Fr.refl _ _) _;refine zf d1 ?_;have J:(W40.setCell ⟨f.heap.size,4,none⟩ (.int .i64 t)).heap[f.heap.size]?=some (.cells #[.int .i64 2,.string i,.string ⟨#[]⟩,.int .i64 s,.int .i64 t,.int .i64 0,.slice none 0 0] 223):=zF b8 4 (.int .i64 t);have c3:=d1.heap d5 (fun h=>by unfold Is at h;omega);have c5:=zh (d6.out.step d1 (fun b hb h=>by unfold Is at h;omega));clear d1 z f4 d5 b8 d6;generalize W40.setCell ⟨f.heap.size,4,none⟩ (.int .i64 t)=W41 at *
   repeat (apply zS rfl rfl rfl;intro K hK;go_big_quiet_op;go_big_quiet_on)
   apply zk;exact rfl;have D:W41.cell? ⟨f.heap.size,5,none⟩=some (.int .i64 0):=zB J 5;have f5:W41.frozen? ⟨f.heap.size,5,none⟩=false:=zE J 5
   go_wp2_with fail
   have e5:Fr (Is f.heap.size) W41 (W41.setCell ⟨f.heap.size,5,none⟩ (.int .i64 e)):=Fr.setAt (Fr.refl _ _) _;refine zf e5 ?_;have d2:(W41.setCell ⟨f.heap.size,5,none⟩ (.int .i64 e)).heap[f.heap.size]?=some (.cells #[.int .i64 2,.string i,.string ⟨#[]⟩,.int .i64 s,.int .i64 t,.int .i64 e,.slice none 0 0] 223):=zF J 5 (.int .i64 e);have d3:=e5.heap c3 (fun h=>by unfold Is at h;omega);have d9:=zh (c5.out.step e5 (fun b hb h=>by unfold Is at h;omega));clear e5 D f5 c3 J c5;generalize W41.setCell ⟨f.heap.size,5,none⟩ (.int .i64 e)=W42 at *;refine zY ?_;clear g3 g4 g5;obtain⟨L,N,U,A,C,O,R⟩:=cl7 d3;obtain⟨V,X,Y,y,z,D,Z⟩:=cl7 d2;by_cases e2:n.length=1
   case neg=>
    have e3:¬ (n.length:Int)=1:=by omega
    have Hd:=zh (decide_eq_false e2)
    go_wp2_with fail
    go_ret;exact⟨by rw[zFJ,Hd.out];simp,d9.out⟩
   have e3:(n.length:Int)=1:=by omega
   have Hd:=zh (decide_eq_true e2)
   go_wp2_with fail
   refine(zIq 2 s t e i l _ _).mono ?_;rintro en w6 ⟨rfl,a9⟩;have a8:=a9.heap d3 id;have c8:=a9.heap d2 id;have c9:=zh (d9.out.step a9 zi);clear a9 d3 d2 L N U A C O R V X Y y z D Z;cases hd2:zAH s t with
   | false=>
    have d8:=zh hd2;clear hd2
    go_wp2_with fail
    go_ret;exact⟨by rw[zFJ,d8.out];simp,c9.out⟩
   | true=>
    have d8:=zh hd2;clear hd2;obtain⟨L,N,U,A,C,O,R⟩:=cl7 a8;obtain⟨V,X,Y,y,z,D,Z⟩:=cl7 c8
    go_wp2_with fail
    refine(zB4 e t _).mono ?_;rintro en w7 ⟨rfl,rfl⟩;cases hd3:(decide (1<=e)&&decide (e<=t))with
    | false=>
     have e9:=zh hd3;clear hd3
     go_wp2_with fail
     go_ret;exact⟨by rw[zFJ,e9.out];simp,c9.out⟩
    | true=>
     have e9:=zh hd3;clear hd3
     go_upto_region 24 with(fail)
     clear L N U A C O R V X Y y z D Z;have c6:w6.cell? ⟨w.heap.size,6,none⟩=some (.slice a n.length b9):=zB a8 6;have f6:w6.frozen? ⟨w.heap.size,6,none⟩=false:=zE a8 6
     go_upto_region 25 with(fail)
     have hy:Fr (Is w.heap.size) w6 (w6.setCell ⟨w.heap.size,6,none⟩ (.slice none 0 0)):=Fr.setAt (Fr.refl _ _) _;have p1:=zF a8 6 (.slice none 0 0);have p2:=hy.heap c8 (fun h=>by unfold Is at h;omega);have Hy:=zh (c9.out.step hy (fun b hb h=>by unfold Is at h;omega));clear hy c6 f6 a8 c8;generalize w6.setCell ⟨w.heap.size,6,none⟩ (.slice none 0 0)=W7 at *;have c1:W7.cell? ⟨w.heap.size,1,none⟩=some (.string i):=zB p1 1
     go_wp2_with fail
     refine(zDM i _ e0).mono ?_;rintro en w8 ⟨rfl,o⟩;have r1:=o.heap p1 id;have r2:=o.heap p2 id;have F:=zh (Hy.out.step o zi);clear p1 p2 c1 o;obtain⟨L,N,U,A,C,O,R⟩:=cl7 r1;obtain⟨V,X,Y,y,z,D,Z⟩:=cl7 r2;cases hii:isId i with
     | false=>
      have q:=zh hii;clear hii
      go_wp2_with fail
      go_ret;exact⟨by rw[zFJ,q.out];simp,F.out⟩
     | true=>
      have q:=zh hii;clear hii
      go_wp2_with fail
      refine(zDL 2 s t e 2 s t e i l i ⟨#[]⟩ none 0 0 _ (by omega)).mono ?_;rintro en w9 ⟨rfl,I⟩;have c4:=zh (F.out.step I zi);clear I L N U A C O R V X Y y z D Z r1 r2
      go_wp2_with fail
      go_ret;exact⟨by rw[zFJ,q.out,Hd.out,d8.out,e9.out];simp,c4.out⟩
  by_cases h5:k=3
  ·subst h5;obtain⟨L,N,U,A,C,O,R⟩:=cl7 v;obtain⟨V,X,Y,y,z,D,Z⟩:=cl7 u;obtain⟨f0,f1,f2,f3,f4,f5,f6⟩:=fl7 u;by_cases e2:n.length=1
   case neg=>
    have e3:¬ (n.length:Int)=1:=by omega
    have Hd:=zh (decide_eq_false e2)
    go_wp2_with fail
    go_ret;exact⟨by rw[zI5,Hd.out];simp,d4.out⟩
   have e3:(n.length:Int)=1:=by omega
   have Hd:=zh (decide_eq_true e2)
   go_upto_region 24 with(fail)
   clear L N U A C O R V X Y y z D Z f0 f1 f2 f3 f4 f5 f6;have c6:W3.cell? ⟨w.heap.size,6,none⟩=some (.slice a n.length b9):=zB v 6;have f6:W3.frozen? ⟨w.heap.size,6,none⟩=false:=zE v 6
   go_upto_region 25 with(fail)
   have hy:Fr (Is w.heap.size) W3 (W3.setCell ⟨w.heap.size,6,none⟩ (.slice none 0 0)):=Fr.setAt (Fr.refl _ _) _;have p1:=zF v 6 (.slice none 0 0);have p2:=hy.heap u (fun h=>by unfold Is at h;omega);have Hy:=zh (d4.out.step hy (fun b hb h=>by unfold Is at h;omega));clear hy c6 f6 v u;generalize W3.setCell ⟨w.heap.size,6,none⟩ (.slice none 0 0)=W7 at *;have c1:W7.cell? ⟨w.heap.size,1,none⟩=some (.string i):=zB p1 1
   go_wp2_with fail
   refine(zDM i _ e0).mono ?_;rintro en w8 ⟨rfl,o⟩;have r1:=o.heap p1 id;have r2:=o.heap p2 id;have F:=zh (Hy.out.step o zi);clear p1 p2 c1 o;obtain⟨L,N,U,A,C,O,R⟩:=cl7 r1;obtain⟨V,X,Y,y,z,D,Z⟩:=cl7 r2;cases hii:isId i with
   | false=>
    have q:=zh hii;clear hii
    go_wp2_with fail
    go_ret;exact⟨by rw[zI5,q.out];simp,F.out⟩
   | true=>
    have q:=zh hii;clear hii
    go_wp2_with fail
    refine(zDL 3 s t e 3 0 0 0 i l i ⟨#[]⟩ none 0 0 _ (by omega)).mono ?_;rintro en w9 ⟨rfl,I⟩;have c4:=zh (F.out.step I zi);clear I L N U A C O R V X Y y z D Z r1 r2
    go_wp2_with fail
    go_ret;exact⟨by rw[zI5,q.out,Hd.out];simp,c4.out⟩
  by_cases h6:k=4
  ·subst h6;obtain⟨L,N,U,A,C,O,R⟩:=cl7 v;obtain⟨V,X,Y,y,z,D,Z⟩:=cl7 u;obtain⟨f0,f1,f2,f3,f4,f5,f6⟩:=fl7 u
   go_wp2_with fail
   refine zQ (Is f.heap.size) [(0,false),(1,false),(2,false),(3,false),(4,false),(5,true),(6,false),(7,true)] (by kernel_rfl) (by kernel_rfl) (fun w4 b7=>?_);have g3:∀ g:Gr (Is f.heap.size) w4,g.W.cell? ⟨w.heap.size,3,none⟩=some (.int .i64 s):=fun g=>g.fr.cell (b7.cell A id) (show ¬ Is f.heap.size w.heap.size from by unfold Is;omega)
   have g4:∀ g:Gr (Is f.heap.size) w4,g.W.cell? ⟨w.heap.size,4,none⟩=some (.int .i64 t):=fun g=>g.fr.cell (b7.cell C id) (show ¬ Is f.heap.size w.heap.size from by unfold Is;omega)
   have c2:=b7.heap v id;have a7:=b7.heap u id;have c7:=zh (d4.out.step b7 zi);clear v u b7;clear L N U A C O R V X Y y z D Z f0 f1 f2 f3 f4 f5 f6
   repeat (apply zS rfl rfl rfl;intro K hK;go_big_quiet_op;go_big_quiet_on)
   apply zk;exact rfl;have y:w4.cell? ⟨f.heap.size,3,none⟩=some (.int .i64 0):=zB a7 3;have f3:w4.frozen? ⟨f.heap.size,3,none⟩=false:=zE a7 3
   go_wp2_with fail
   have d0:Fr (Is f.heap.size) w4 (w4.setCell ⟨f.heap.size,3,none⟩ (.int .i64 s)):=Fr.setAt (Fr.refl _ _) _;refine zf d0 ?_;have b8:(w4.setCell ⟨f.heap.size,3,none⟩ (.int .i64 s)).heap[f.heap.size]?=some (.cells #[.int .i64 4,.string i,.string ⟨#[]⟩,.int .i64 s,.int .i64 0,.int .i64 0,.slice none 0 0] 223):=zF a7 3 (.int .i64 s);have d5:=d0.heap c2 (fun h=>by unfold Is at h;omega);have d6:=zh (c7.out.step d0 (fun b hb h=>by unfold Is at h;omega));clear d0 y f3 c2 a7 c7;generalize w4.setCell ⟨f.heap.size,3,none⟩ (.int .i64 s)=W40 at *
   repeat (apply zS rfl rfl rfl;intro K hK;go_big_quiet_op;go_big_quiet_on)
   apply zk;exact rfl;have z:W40.cell? ⟨f.heap.size,4,none⟩=some (.int .i64 0):=zB b8 4;have f4:W40.frozen? ⟨f.heap.size,4,none⟩=false:=zE b8 4
   go_wp2_with fail
   have d1:Fr (Is f.heap.size) W40 (W40.setCell ⟨f.heap.size,4,none⟩ (.int .i64 t)):=Fr.setAt (Fr.refl _ _) _;refine zf d1 ?_;have J:(W40.setCell ⟨f.heap.size,4,none⟩ (.int .i64 t)).heap[f.heap.size]?=some (.cells #[.int .i64 4,.string i,.string ⟨#[]⟩,.int .i64 s,.int .i64 t,.int .i64 0,.slice none 0 0] 223):=zF b8 4 (.int .i64 t);have c3:=d1.heap d5 (fun h=>by unfold Is at h;omega);have c5:=zh (d6.out.step d1 (fun b hb h=>by unfold Is at h;omega));clear d1 z f4 d5 b8 d6;generalize W40.setCell ⟨f.heap.size,4,none⟩ (.int .i64 t)=W41 at *;refine zY ?_;clear g3 g4;obtain⟨L,N,U,A,C,O,R⟩:=cl7 c3;obtain⟨V,X,Y,y,z,D,Z⟩:=cl7 J
   go_wp2_with fail
   refine(zB4 (n.length:Int) 16 _).mono ?_;rintro en w5 ⟨rfl,rfl⟩;cases hd:(decide (1<=(n.length:Int))&&decide ((n.length:Int)<=16))with
   | false=>
    have Hd:=zh hd;clear hd
    go_wp2_with fail
    go_ret;exact⟨by rw[zGs,Hd.out];simp,c5.out⟩
   | true=>
    have Hd:=zh hd;clear hd
    go_wp2_with fail
    refine(zIq 4 s t e i l _ _).mono ?_;rintro en w6 ⟨rfl,a9⟩;have a8:=a9.heap c3 id;have c8:=a9.heap J id;have c9:=zh (c5.out.step a9 zi);clear a9 c3 J L N U A C O R V X Y y z D Z;cases hd2:zAH s t with
    | false=>
     have d8:=zh hd2;clear hd2
     go_wp2_with fail
     go_ret;exact⟨by rw[zGs,d8.out];simp,c9.out⟩
    | true=>
     have d8:=zh hd2;clear hd2
     go_upto_region 24 with(fail)
     have c6:w6.cell? ⟨w.heap.size,6,none⟩=some (.slice a n.length b9):=zB a8 6;have f6:w6.frozen? ⟨w.heap.size,6,none⟩=false:=zE a8 6
     go_upto_region 25 with(fail)
     have hy:Fr (Is w.heap.size) w6 (w6.setCell ⟨w.heap.size,6,none⟩ (.slice none 0 0)):=Fr.setAt (Fr.refl _ _) _;have p1:=zF a8 6 (.slice none 0 0);have p2:=hy.heap c8 (fun h=>by unfold Is at h;omega);have Hy:=zh (c9.out.step hy (fun b hb h=>by unfold Is at h;omega));clear hy c6 f6 a8 c8;generalize w6.setCell ⟨w.heap.size,6,none⟩ (.slice none 0 0)=W7 at *;have c1:W7.cell? ⟨w.heap.size,1,none⟩=some (.string i):=zB p1 1
     go_wp2_with fail
     refine(zDM i _ e0).mono ?_;rintro en w8 ⟨rfl,o⟩;have r1:=o.heap p1 id;have r2:=o.heap p2 id;have F:=zh (Hy.out.step o zi);clear p1 p2 c1 o;obtain⟨L,N,U,A,C,O,R⟩:=cl7 r1;obtain⟨V,X,Y,y,z,D,Z⟩:=cl7 r2;cases hii:isId i with
     | false=>
      have q:=zh hii;clear hii
      go_wp2_with fail
      go_ret;exact⟨by rw[zGs,q.out];simp,F.out⟩
     | true=>
      have q:=zh hii;clear hii
      go_wp2_with fail
      refine(zDL 4 s t e 4 s t 0 i l i ⟨#[]⟩ none 0 0 _ (by omega)).mono ?_;rintro en w9 ⟨rfl,I⟩;have c4:=zh (F.out.step I zi);clear I L N U A C O R V X Y y z D Z r1 r2
      go_wp2_with fail
      go_ret;exact⟨by rw[zGs,q.out,Hd.out,d8.out];simp,c4.out⟩
  by_cases h8:k=5
  ·subst h8;obtain⟨L,N,U,A,C,O,R⟩:=cl7 v;obtain⟨V,X,Y,y,z,D,Z⟩:=cl7 u;obtain⟨f0,f1,f2,f3,f4,f5,f6⟩:=fl7 u
   go_wp2_with fail
   refine(zB4 (n.length:Int) 16 _).mono ?_;rintro en w4 ⟨rfl,rfl⟩;cases hd:(decide (1<=(n.length:Int))&&decide ((n.length:Int)<=16))with
   | false=>
    have Hd:=zh hd;clear hd
    go_wp2_with fail
    go_ret;exact⟨by rw[zI4,Hd.out];simp,d4.out⟩
   | true=>
    have Hd:=zh hd;clear hd
    go_upto_region 24 with(fail)
    clear L N U A C O R V X Y y z D Z f0 f1 f2 f3 f4 f5 f6;have c6:W3.cell? ⟨w.heap.size,6,none⟩=some (.slice a n.length b9):=zB v 6;have f6:W3.frozen? ⟨w.heap.size,6,none⟩=false:=zE v 6
    go_upto_region 25 with(fail)
    have hy:Fr (Is w.heap.size) W3 (W3.setCell ⟨w.heap.size,6,none⟩ (.slice none 0 0)):=Fr.setAt (Fr.refl _ _) _;have p1:=zF v 6 (.slice none 0 0);have p2:=hy.heap u (fun h=>by unfold Is at h;omega);have Hy:=zh (d4.out.step hy (fun b hb h=>by unfold Is at h;omega));clear hy c6 f6 v u;generalize W3.setCell ⟨w.heap.size,6,none⟩ (.slice none 0 0)=W7 at *;have c1:W7.cell? ⟨w.heap.size,1,none⟩=some (.string i):=zB p1 1
    go_wp2_with fail
    refine(zDM i _ e0).mono ?_;rintro en w8 ⟨rfl,o⟩;have r1:=o.heap p1 id;have r2:=o.heap p2 id;have F:=zh (Hy.out.step o zi);clear p1 p2 c1 o;obtain⟨L,N,U,A,C,O,R⟩:=cl7 r1;obtain⟨V,X,Y,y,z,D,Z⟩:=cl7 r2;cases hii:isId i with
    | false=>
     have q:=zh hii;clear hii
     go_wp2_with fail
     go_ret;exact⟨by rw[zI4,q.out];simp,F.out⟩
    | true=>
     have q:=zh hii;clear hii
     go_wp2_with fail
     refine(zDL 5 s t e 5 0 0 0 i l i ⟨#[]⟩ none 0 0 _ (by omega)).mono ?_;rintro en w9 ⟨rfl,I⟩;have c4:=zh (F.out.step I zi);clear I L N U A C O R V X Y y z D Z r1 r2
     go_wp2_with fail
     go_ret;exact⟨by rw[zI4,q.out,Hd.out];simp,c4.out⟩
  obtain⟨L,N,U,A,C,O,R⟩:=cl7 v;obtain⟨V,X,Y,y,z,D,Z⟩:=cl7 u;obtain⟨f0,f1,f2,f3,f4,f5,f6⟩:=fl7 u
  go_wp2_with fail
  go_ret;exact⟨by rw[zMA s t e i l n f7 g9 h4 h5 h6 h8];rfl,d4.out⟩
end Go.Proofs.YtinfjnndbfahhaaGreatDoor
