import Derived.Test.YtmajgldaplkpiaaGreatDoorQ26
namespace Go.Proofs.YtmajgldaplkpiaaGreatDoor
open Go.RowKit Go.Maps
set_option linter.unusedVariables false
set_option maxRecDepth 100000
set_option maxHeartbeats 2000000
theorem zBs (s t e:Int):noNum s t e=(decide (s=0)&&decide (t=0)&&decide (e=0)):=rfl
theorem zBB (l:ByteArray):(l.toList==l.toList)=true:=by simp
theorem zAl (l:ByteArray):(l.toList==(⟨#[]⟩:ByteArray).toList)=(bl l).isEmpty:=by
 rw[ByteArray.toList_eq,ByteArray.toList_eq];show (l.data.toList==[])=l.data.toList.isEmpty
 cases l.data.toList<;>rfl
theorem zDy (n:List Ct):decide (n.length=0)=n.isEmpty:=by cases n<;>simp
theorem zK4 (s t e:Int)(i l:ByteArray)(n:List Ct):alike (.mk 0 i l s t e n)=sameB 0 s t e 0 0 0 0 i l ⟨#[]⟩ ⟨#[]⟩ n.length:=by
 simp only[alike,if_pos,sameB,zAl,zDy,zBs,decide_true,Bool.true_and];simp only[Bool.and_assoc]
theorem zDk (s t e:Int)(i l:ByteArray)(n:List Ct):alike (.mk 1 i l s t e n)=(n.isEmpty&&(((bl l).isEmpty||isId l)&&(isId i&&sameB 1 s t e 1 0 0 0 i l i l 0))):=by
 simp only[alike,sameB,zBB,zBs,decide_true,Bool.true_and,Bool.and_true];rw[if_neg (by omega),if_pos trivial];cases n.isEmpty<;>cases isId i<;>cases((bl l).isEmpty||isId l)<;>simp
theorem zEm (s t e:Int)(i l:ByteArray)(n:List Ct):alike (.mk 2 i l s t e n)=(decide (n.length=1)&&(zAC s t&&((decide (1<=e)&&decide (e<=t))&&(isId i&&sameB 2 s t e 2 s t e i l i ⟨#[]⟩ 0)))):=by
 simp only[alike,sameB,zBB,zAl,decide_true,Bool.true_and,Bool.and_true];rw[if_neg (by omega),if_neg (by omega),if_pos trivial];cases isId i<;>cases(bl l).isEmpty<;>cases decide (n.length=1)<;>cases zAC s t<;>simp
theorem zID (s t e:Int)(i l:ByteArray)(n:List Ct):alike (.mk 3 i l s t e n)=(decide (n.length=1)&&(isId i&&sameB 3 s t e 3 0 0 0 i l i ⟨#[]⟩ 0)):=by
 simp only[alike,sameB,zBB,zAl,zBs,decide_true,Bool.true_and,Bool.and_true];rw[if_neg (by omega),if_neg (by omega),if_neg (by omega),if_pos trivial];cases isId i<;>cases(bl l).isEmpty<;>cases decide (n.length=1)<;>simp[Bool.and_assoc]
theorem zGB (s t e:Int)(i l:ByteArray)(n:List Ct):alike (.mk 4 i l s t e n)=((decide (1<=(n.length:Int))&&decide ((n.length:Int)<=16))&&(zAC s t&&(isId i&&sameB 4 s t e 4 s t 0 i l i ⟨#[]⟩ 0))):=by
 have h:(decide (1<=(n.length:Int))&&decide ((n.length:Int)<=16))=someIn n:=by unfold someIn;rw[Bool.eq_iff_iff];simp;omega
 rw[h];simp only[alike,sameB,zBB,zAl,decide_true,Bool.true_and,Bool.and_true];rw[if_neg (by omega),if_neg (by omega),if_neg (by omega),if_neg (by omega),if_pos trivial];cases isId i<;>cases(bl l).isEmpty<;>cases someIn n<;>cases zAC s t<;>simp
theorem zIC (s t e:Int)(i l:ByteArray)(n:List Ct):alike (.mk 5 i l s t e n)=((decide (1<=(n.length:Int))&&decide ((n.length:Int)<=16))&&(isId i&&sameB 5 s t e 5 0 0 0 i l i ⟨#[]⟩ 0)):=by
 have h:(decide (1<=(n.length:Int))&&decide ((n.length:Int)<=16))=someIn n:=by unfold someIn;rw[Bool.eq_iff_iff];simp;omega
 rw[h];simp only[alike,sameB,zBB,zAl,zBs,decide_true,Bool.true_and,Bool.and_true];rw[if_neg (by omega),if_neg (by omega),if_neg (by omega),if_neg (by omega),if_neg (by omega),if_pos trivial];cases isId i<;>cases(bl l).isEmpty<;>cases someIn n<;>simp[Bool.and_assoc]
theorem zK3 {k:Int}(s t e:Int)(i l:ByteArray)(n:List Ct)(h0:k≠0)(h1:k≠1)(h2:k≠2)(h3:k≠3)(h4:k≠4)(h5:k≠5):alike (.mk k i l s t e n)=false:=by
 rw[alike,if_neg h0,if_neg h1,if_neg h2,if_neg h3,if_neg h4,if_neg h5]
theorem zKS (k s t e:Int)(i l:ByteArray)(n:List Ct)(a:Option Addr)(cap:Nat)(w:World)(hn:n.length<=100000)(his:i.size<=100000)(hls:l.size<=100000):
  Calls Tryz.prog 323 #[.agg #[.int .i64 k,.string i,.string l,.int .i64 s,.int .i64 t,.int .i64 e,.slice a n.length cap]] w fun en w2=>en=.returned (.bool (alike (.mk k i l s t e n)))/\Fr No w w2:=by
 have h0:Fr No w (w.alloc (.cells #[.int .i64 k,.string i,.string l,.int .i64 s,.int .i64 t,.int .i64 e,.slice a n.length cap] 256)):=(Fr.refl _ _).alloc _;have q1:=zD w (.cells #[.int .i64 k,.string i,.string l,.int .i64 s,.int .i64 t,.int .i64 e,.slice a n.length cap] 256);have hsz:(w.alloc (.cells #[.int .i64 k,.string i,.string l,.int .i64 s,.int .i64 t,.int .i64 e,.slice a n.length cap] 256)).heap.size=w.heap.size+1:=by simp
 obtain⟨W0,hW0⟩:∃ W0,W0=w.alloc (.cells #[.int .i64 k,.string i,.string l,.int .i64 s,.int .i64 t,.int .i64 e,.slice a n.length cap] 256):=⟨_,rfl⟩
 rw[<-hW0]at h0 q1 hsz;obtain⟨a0,a1,a2,a3,a4,a5,a6⟩:=cl7 q1;have H0:=Lib.hid h0
 go_enter Tryz.func323,Tryz.ntmps323
 go_upto_region 1 with(fail)
 rw[<-hW0];clear hW0 h0;by_cases hk0:k=0
 ·subst hk0
  go_wp2_with fail
  refine(zDA 0 s t e 0 0 0 0 i l ⟨#[]⟩ ⟨#[]⟩ a n.length cap _ hn).mono ?_;rintro en w1 ⟨rfl,hf1⟩;have Hf:=Lib.hid (H0.out.step hf1 (fun _ _ h=>h));clear hf1
  go_wp2_with fail
  go_ret;exact⟨by rw[zK4];rfl,Hf.out⟩
 ·go_wp2_with fail
  refine zR (From W0.heap.size) [(0,false),(1,false),(2,false),(3,false),(4,false),(5,false),(6,false),(7,false),(8,true),(9,true),(10,false)] (by kernel_rfl) (by kernel_rfl) (fun w0 hf0=>?_);have hno:¬ From W0.heap.size w.heap.size:=fun h=>by unfold From at h;omega
  have g0:∀ g:Gr (From W0.heap.size) w0,g.W.cell? ⟨w.heap.size,0,none⟩=some (.int .i64 k):=fun g=>g.fr.cell (hf0.cell a0 id) hno
  have g1:∀ g:Gr (From W0.heap.size) w0,g.W.cell? ⟨w.heap.size,1,none⟩=some (.string i):=fun g=>g.fr.cell (hf0.cell a1 id) hno
  have g6:∀ g:Gr (From W0.heap.size) w0,g.W.cell? ⟨w.heap.size,6,none⟩=some (.slice a n.length cap):=fun g=>g.fr.cell (hf0.cell a6 id) hno
  have q10:=hf0.heap q1 id;have hs0:=hf0.size;have Hf0:=Lib.hid (H0.out.step hf0 (fun _ _ h=>h));clear a0 a1 a2 a3 a4 a5 a6 q1 hf0
  repeat (apply zT;exact rfl;exact rfl;exact rfl;intro K hK;go_big_quiet_op;go_big_quiet_on)
  clear g0 g1 g6;apply zi;exact rfl
  go_wp2_with fail
  have hal:Fr No w0 (w0.alloc (.cells #[.int .i64 0,.string ⟨#[]⟩,.string ⟨#[]⟩,.int .i64 0,.int .i64 0,.int .i64 0,.slice none 0 0] 256)):=(Fr.refl _ _).alloc _;refine OnlyN.mk ⟨hal.mono (fun _ _ h=>h.elim),?_⟩;have q2:=zD w0 (.cells #[.int .i64 0,.string ⟨#[]⟩,.string ⟨#[]⟩,.int .i64 0,.int .i64 0,.int .i64 0,.slice none 0 0] 256);have q11:=hal.heap q10 id;obtain⟨W1,hW1⟩:∃ W1,W1=w0.alloc (.cells #[.int .i64 0,.string ⟨#[]⟩,.string ⟨#[]⟩,.int .i64 0,.int .i64 0,.int .i64 0,.slice none 0 0] 256):=⟨_,rfl⟩
  rw[<-hW1]at hal q2 q11 ⊢;have Hf1:=Lib.hid (Hf0.out.step hal (fun _ _ h=>h));have h7:=set7 q2 rfl (.int .i64 k) (.string i) (.string ⟨#[]⟩) (.int .i64 0) (.int .i64 0) (.int .i64 0) (.slice none 0 0);have q12:=h7.2.heap q11 (fun h=>by unfold Is at h;omega);have Hf2:=Lib.hid (Hf1.out.step h7.2 (fun b hb h=>by unfold Is at h;omega));have H72:=Lib.hid h7.2;have q22:=h7.1;have q12':=q12;obtain⟨b0,b1,b2,b3,b4,b5,b6⟩:=cl7 q2;obtain⟨f0,f1,f2,f3,f4,f5,f6⟩:=fl7 q2;clear h7 hal q10 q11 q2 hW1;apply zi;exact rfl
  go_wp2_with fail
  refine OnlyN.mk ⟨H72.out.mono (fun b hb h=>by unfold Is at h;unfold From;omega),?_⟩;clear H72;have hg:w.heap.size<w0.heap.size:=by omega
  generalize (((((((W1.setCell ⟨w0.heap.size,0,none⟩ (.int .i64 k)).setCell ⟨w0.heap.size,1,none⟩ (.string i)).setCell ⟨w0.heap.size,2,none⟩ (.string ⟨#[]⟩)).setCell ⟨w0.heap.size,3,none⟩ (.int .i64 0)).setCell ⟨w0.heap.size,4,none⟩ (.int .i64 0)).setCell ⟨w0.heap.size,5,none⟩ (.int .i64 0)).setCell ⟨w0.heap.size,6,none⟩ (.slice none 0 0))=W3 at *;clear b0 b1 b2 b3 b4 b5 b6 f0 f1 f2 f3 f4 f5 f6 q12'
  repeat (apply zT;exact rfl;exact rfl;exact rfl;intro K hK;go_big_quiet_op;go_big_quiet_on)
  refine zb ?_;by_cases hk1:k=1
  ·subst hk1;obtain⟨a0,a1,a2,a3,a4,a5,a6⟩:=cl7 q12;obtain⟨b0,b1,b2,b3,b4,b5,b6⟩:=cl7 q22;obtain⟨f0,f1,f2,f3,f4,f5,f6⟩:=fl7 q22
   go_upto_region 8 with(fail)
   have hz:Fr (Is w0.heap.size) W3 (W3.setCell ⟨w0.heap.size,2,none⟩ (.string l)):=Fr.setAt (Fr.refl _ _) _;have q24:(W3.setCell ⟨w0.heap.size,2,none⟩ (.string l)).heap[w0.heap.size]?=some (.cells #[.int .i64 1,.string i,.string l,.int .i64 0,.int .i64 0,.int .i64 0,.slice none 0 0] 256):=zF q22 2 (.string l);have q14:=hz.heap q12 (fun h=>by unfold Is at h;omega);have Hf4:=Lib.hid (Hf2.out.step hz (fun b hb h=>by unfold Is at h;omega));clear hz q12 q22;clear a0 a1 a2 a3 a4 a5 a6 b0 b1 b2 b3 b4 b5 b6 f0 f1 f2 f3 f4 f5 f6;generalize W3.setCell ⟨w0.heap.size,2,none⟩ (.string l)=W4 at *;obtain⟨a0,a1,a2,a3,a4,a5,a6⟩:=cl7 q14;obtain⟨b0,b1,b2,b3,b4,b5,b6⟩:=cl7 q24;by_cases hn0:n.length=0
   case neg=>
    have hn0':(0:Int)<(n.length:Int):=by omega
    have Hd:Hid (n.isEmpty=false):=by unfold Hid;rw[<-zDy];exact decide_eq_false hn0
    go_wp2_with fail
    go_ret;exact⟨by rw[zDk,Hd.out];simp,Hf4.out⟩
   have hn0':¬ (0:Int)<(n.length:Int):=by omega
   have Hd:Hid (n.isEmpty=true):=by unfold Hid;rw[<-zDy];exact decide_eq_true hn0
   have hel:l.toList.isEmpty=(bl l).isEmpty:=by rw[ByteArray.toList_eq]
   cases hll:(bl l).isEmpty with
   | true=>
    rw[hll]at hel;have Hl:Hid (((bl l).isEmpty||isId l)=true):=by unfold Hid;rw[hll];rfl
    clear hll
    go_upto_region 24 with(fail)
    clear a0 a1 a2 a3 a4 a5 a6 b0 b1 b2 b3 b4 b5 b6 hel;have c6:W4.cell? ⟨w.heap.size,6,none⟩=some (.slice a n.length cap):=zB q14 6;have f6:W4.frozen? ⟨w.heap.size,6,none⟩=false:=zC q14 6
    go_upto_region 25 with(fail)
    have hy:Fr (Is w.heap.size) W4 (W4.setCell ⟨w.heap.size,6,none⟩ (.slice none 0 0)):=Fr.setAt (Fr.refl _ _) _;have p1:=zF q14 6 (.slice none 0 0);have p2:=hy.heap q24 (fun h=>by unfold Is at h;omega);have Hy:=Lib.hid (Hf4.out.step hy (fun b hb h=>by unfold Is at h;omega));clear hy c6 f6 q14 q24;generalize W4.setCell ⟨w.heap.size,6,none⟩ (.slice none 0 0)=W7 at *;have c1:W7.cell? ⟨w.heap.size,1,none⟩=some (.string i):=zB p1 1
    go_wp2_with fail
    refine(zDB i _ his).mono ?_;rintro en w8 ⟨rfl,hf8⟩;have r1:=hf8.heap p1 id;have r2:=hf8.heap p2 id;have Hf8:=Lib.hid (Hy.out.step hf8 (fun _ _ h=>h));clear p1 p2 c1 hf8;obtain⟨a0,a1,a2,a3,a4,a5,a6⟩:=cl7 r1;obtain⟨b0,b1,b2,b3,b4,b5,b6⟩:=cl7 r2;cases hii:isId i with
    | false=>
     have Hii:=Lib.hid hii;clear hii
     go_wp2_with fail
     go_ret;exact⟨by rw[zDk,Hii.out];simp,Hf8.out⟩
    | true=>
     have Hii:=Lib.hid hii;clear hii
     go_wp2_with fail
     refine(zDA 1 s t e 1 0 0 0 i l i l none 0 0 _ (by omega)).mono ?_;rintro en w9 ⟨rfl,hf9⟩;have Hf9:=Lib.hid (Hf8.out.step hf9 (fun _ _ h=>h));clear hf9 a0 a1 a2 a3 a4 a5 a6 b0 b1 b2 b3 b4 b5 b6 r1 r2
     go_wp2_with fail
     go_ret;exact⟨by rw[zDk,Hii.out,Hd.out,Hl.out];simp,Hf9.out⟩
   | false=>
    rw[hll]at hel;have Hll:=Lib.hid hll;clear hll
    go_wp2_with fail
    refine(zDB l _ hls).mono ?_;rintro en w6 ⟨rfl,hf6⟩;have q16:=hf6.heap q14 id;have q26:=hf6.heap q24 id;have Hf6:=Lib.hid (Hf4.out.step hf6 (fun _ _ h=>h));clear hf6 q14 q24 a0 a1 a2 a3 a4 a5 a6 b0 b1 b2 b3 b4 b5 b6;cases hd2:isId l with
    | false=>
     have Hl:Hid (((bl l).isEmpty||isId l)=false):=by unfold Hid;rw[Hll.out,hd2];rfl
     clear hd2
     go_wp2_with fail
     go_ret;exact⟨by rw[zDk,Hl.out];simp,Hf6.out⟩
    | true=>
     have Hl:Hid (((bl l).isEmpty||isId l)=true):=by unfold Hid;rw[Hll.out,hd2];rfl
     clear hd2
     go_upto_region 24 with(fail)
     clear hel;have c6:w6.cell? ⟨w.heap.size,6,none⟩=some (.slice a n.length cap):=zB q16 6;have f6:w6.frozen? ⟨w.heap.size,6,none⟩=false:=zC q16 6
     go_upto_region 25 with(fail)
     have hy:Fr (Is w.heap.size) w6 (w6.setCell ⟨w.heap.size,6,none⟩ (.slice none 0 0)):=Fr.setAt (Fr.refl _ _) _;have p1:=zF q16 6 (.slice none 0 0);have p2:=hy.heap q26 (fun h=>by unfold Is at h;omega);have Hy:=Lib.hid (Hf6.out.step hy (fun b hb h=>by unfold Is at h;omega));clear hy c6 f6 q16 q26;generalize w6.setCell ⟨w.heap.size,6,none⟩ (.slice none 0 0)=W7 at *;have c1:W7.cell? ⟨w.heap.size,1,none⟩=some (.string i):=zB p1 1
     go_wp2_with fail
     refine(zDB i _ his).mono ?_;rintro en w8 ⟨rfl,hf8⟩;have r1:=hf8.heap p1 id;have r2:=hf8.heap p2 id;have Hf8:=Lib.hid (Hy.out.step hf8 (fun _ _ h=>h));clear p1 p2 c1 hf8;obtain⟨a0,a1,a2,a3,a4,a5,a6⟩:=cl7 r1;obtain⟨b0,b1,b2,b3,b4,b5,b6⟩:=cl7 r2;cases hii:isId i with
     | false=>
      have Hii:=Lib.hid hii;clear hii
      go_wp2_with fail
      go_ret;exact⟨by rw[zDk,Hii.out];simp,Hf8.out⟩
     | true=>
      have Hii:=Lib.hid hii;clear hii
      go_wp2_with fail
      refine(zDA 1 s t e 1 0 0 0 i l i l none 0 0 _ (by omega)).mono ?_;rintro en w9 ⟨rfl,hf9⟩;have Hf9:=Lib.hid (Hf8.out.step hf9 (fun _ _ h=>h));clear hf9 a0 a1 a2 a3 a4 a5 a6 b0 b1 b2 b3 b4 b5 b6 r1 r2
      go_wp2_with fail
      go_ret;exact⟨by rw[zDk,Hii.out,Hd.out,Hl.out];simp,Hf9.out⟩
  by_cases hk2:k=2
  ·subst hk2;obtain⟨a0,a1,a2,a3,a4,a5,a6⟩:=cl7 q12;obtain⟨b0,b1,b2,b3,b4,b5,b6⟩:=cl7 q22;obtain⟨f0,f1,f2,f3,f4,f5,f6⟩:=fl7 q22
   go_wp2_with fail
   refine zR (Is w0.heap.size) [(0,false),(1,false),(2,false),(3,false),(4,false),(5,false),(6,false),(7,true),(8,false),(9,true),(10,false),(11,true)] (by kernel_rfl) (by kernel_rfl) (fun w4 hf4=>?_);have g3:∀ g:Gr (Is w0.heap.size) w4,g.W.cell? ⟨w.heap.size,3,none⟩=some (.int .i64 s):=fun g=>g.fr.cell (hf4.cell a3 id) (show ¬ Is w0.heap.size w.heap.size from by unfold Is;omega)
   have g4:∀ g:Gr (Is w0.heap.size) w4,g.W.cell? ⟨w.heap.size,4,none⟩=some (.int .i64 t):=fun g=>g.fr.cell (hf4.cell a4 id) (show ¬ Is w0.heap.size w.heap.size from by unfold Is;omega)
   have g5:∀ g:Gr (Is w0.heap.size) w4,g.W.cell? ⟨w.heap.size,5,none⟩=some (.int .i64 e):=fun g=>g.fr.cell (hf4.cell a5 id) (show ¬ Is w0.heap.size w.heap.size from by unfold Is;omega)
   have q14:=hf4.heap q12 id;have q24:=hf4.heap q22 id;have Hf4:=Lib.hid (Hf2.out.step hf4 (fun _ _ h=>h));clear q12 q22 hf4;clear a0 a1 a2 a3 a4 a5 a6 b0 b1 b2 b3 b4 b5 b6 f0 f1 f2 f3 f4 f5 f6
   repeat (apply zT;exact rfl;exact rfl;exact rfl;intro K hK;go_big_quiet_op;go_big_quiet_on)
   apply zi;exact rfl;have b3:w4.cell? ⟨w0.heap.size,3,none⟩=some (.int .i64 0):=zB q24 3;have f3:w4.frozen? ⟨w0.heap.size,3,none⟩=false:=zC q24 3
   go_wp2_with fail
   have hz0:Fr (Is w0.heap.size) w4 (w4.setCell ⟨w0.heap.size,3,none⟩ (.int .i64 s)):=Fr.setAt (Fr.refl _ _) _;refine OnlyN.mk ⟨hz0,?_⟩;have q24a:(w4.setCell ⟨w0.heap.size,3,none⟩ (.int .i64 s)).heap[w0.heap.size]?=some (.cells #[.int .i64 2,.string i,.string ⟨#[]⟩,.int .i64 s,.int .i64 0,.int .i64 0,.slice none 0 0] 256):=zF q24 3 (.int .i64 s);have q14a:=hz0.heap q14 (fun h=>by unfold Is at h;omega);have Hf4a:=Lib.hid (Hf4.out.step hz0 (fun b hb h=>by unfold Is at h;omega));clear hz0 b3 f3 q14 q24 Hf4;generalize w4.setCell ⟨w0.heap.size,3,none⟩ (.int .i64 s)=W40 at *
   repeat (apply zT;exact rfl;exact rfl;exact rfl;intro K hK;go_big_quiet_op;go_big_quiet_on)
   apply zi;exact rfl;have b4:W40.cell? ⟨w0.heap.size,4,none⟩=some (.int .i64 0):=zB q24a 4;have f4:W40.frozen? ⟨w0.heap.size,4,none⟩=false:=zC q24a 4
   go_wp2_with fail
   have hz1:Fr (Is w0.heap.size) W40 (W40.setCell ⟨w0.heap.size,4,none⟩ (.int .i64 t)):=Fr.setAt (Fr.refl _ _) _;refine OnlyN.mk ⟨hz1,?_⟩;have q24aa:(W40.setCell ⟨w0.heap.size,4,none⟩ (.int .i64 t)).heap[w0.heap.size]?=some (.cells #[.int .i64 2,.string i,.string ⟨#[]⟩,.int .i64 s,.int .i64 t,.int .i64 0,.slice none 0 0] 256):=zF q24a 4 (.int .i64 t);have q14aa:=hz1.heap q14a (fun h=>by unfold Is at h;omega);have Hf4aa:=Lib.hid (Hf4a.out.step hz1 (fun b hb h=>by unfold Is at h;omega));clear hz1 b4 f4 q14a q24a Hf4a;generalize W40.setCell ⟨w0.heap.size,4,none⟩ (.int .i64 t)=W41 at *
   repeat (apply zT;exact rfl;exact rfl;exact rfl;intro K hK;go_big_quiet_op;go_big_quiet_on)
   apply zi;exact rfl;have b5:W41.cell? ⟨w0.heap.size,5,none⟩=some (.int .i64 0):=zB q24aa 5;have f5:W41.frozen? ⟨w0.heap.size,5,none⟩=false:=zC q24aa 5
   go_wp2_with fail
   have hz2:Fr (Is w0.heap.size) W41 (W41.setCell ⟨w0.heap.size,5,none⟩ (.int .i64 e)):=Fr.setAt (Fr.refl _ _) _;refine OnlyN.mk ⟨hz2,?_⟩;have q24aaa:(W41.setCell ⟨w0.heap.size,5,none⟩ (.int .i64 e)).heap[w0.heap.size]?=some (.cells #[.int .i64 2,.string i,.string ⟨#[]⟩,.int .i64 s,.int .i64 t,.int .i64 e,.slice none 0 0] 256):=zF q24aa 5 (.int .i64 e);have q14aaa:=hz2.heap q14aa (fun h=>by unfold Is at h;omega);have Hf4aaa:=Lib.hid (Hf4aa.out.step hz2 (fun b hb h=>by unfold Is at h;omega));clear hz2 b5 f5 q14aa q24aa Hf4aa;generalize W41.setCell ⟨w0.heap.size,5,none⟩ (.int .i64 e)=W42 at *;refine zb ?_;clear g3 g4 g5;obtain⟨a0,a1,a2,a3,a4,a5,a6⟩:=cl7 q14aaa;obtain⟨b0,b1,b2,b3,b4,b5,b6⟩:=cl7 q24aaa;by_cases hn1:n.length=1
   case neg=>
    have hn1':¬ (n.length:Int)=1:=by omega
    have Hd:=Lib.hid (decide_eq_false hn1)
    go_wp2_with fail
    go_ret;exact⟨by rw[zEm,Hd.out];simp,Hf4aaa.out⟩
   have hn1':(n.length:Int)=1:=by omega
   have Hd:=Lib.hid (decide_eq_true hn1)
   go_wp2_with fail
   refine(zHz 2 s t e i l _ _).mono ?_;rintro en w6 ⟨rfl,hf6⟩;have q16:=hf6.heap q14aaa id;have q26:=hf6.heap q24aaa id;have Hf6:=Lib.hid (Hf4aaa.out.step hf6 (fun _ _ h=>h));clear hf6 q14aaa q24aaa a0 a1 a2 a3 a4 a5 a6 b0 b1 b2 b3 b4 b5 b6;cases hd2:zAC s t with
   | false=>
    have Hd2:=Lib.hid hd2;clear hd2
    go_wp2_with fail
    go_ret;exact⟨by rw[zEm,Hd2.out];simp,Hf6.out⟩
   | true=>
    have Hd2:=Lib.hid hd2;clear hd2;obtain⟨a0,a1,a2,a3,a4,a5,a6⟩:=cl7 q16;obtain⟨b0,b1,b2,b3,b4,b5,b6⟩:=cl7 q26
    go_wp2_with fail
    refine(zBx e t _).mono ?_;rintro en w7 ⟨rfl,rfl⟩;cases hd3:(decide (1<=e)&&decide (e<=t))with
    | false=>
     have Hd3:=Lib.hid hd3;clear hd3
     go_wp2_with fail
     go_ret;exact⟨by rw[zEm,Hd3.out];simp,Hf6.out⟩
    | true=>
     have Hd3:=Lib.hid hd3;clear hd3
     go_upto_region 24 with(fail)
     clear a0 a1 a2 a3 a4 a5 a6 b0 b1 b2 b3 b4 b5 b6;have c6:w6.cell? ⟨w.heap.size,6,none⟩=some (.slice a n.length cap):=zB q16 6;have f6:w6.frozen? ⟨w.heap.size,6,none⟩=false:=zC q16 6
     go_upto_region 25 with(fail)
     have hy:Fr (Is w.heap.size) w6 (w6.setCell ⟨w.heap.size,6,none⟩ (.slice none 0 0)):=Fr.setAt (Fr.refl _ _) _;have p1:=zF q16 6 (.slice none 0 0);have p2:=hy.heap q26 (fun h=>by unfold Is at h;omega);have Hy:=Lib.hid (Hf6.out.step hy (fun b hb h=>by unfold Is at h;omega));clear hy c6 f6 q16 q26;generalize w6.setCell ⟨w.heap.size,6,none⟩ (.slice none 0 0)=W7 at *;have c1:W7.cell? ⟨w.heap.size,1,none⟩=some (.string i):=zB p1 1
     go_wp2_with fail
     refine(zDB i _ his).mono ?_;rintro en w8 ⟨rfl,hf8⟩;have r1:=hf8.heap p1 id;have r2:=hf8.heap p2 id;have Hf8:=Lib.hid (Hy.out.step hf8 (fun _ _ h=>h));clear p1 p2 c1 hf8;obtain⟨a0,a1,a2,a3,a4,a5,a6⟩:=cl7 r1;obtain⟨b0,b1,b2,b3,b4,b5,b6⟩:=cl7 r2;cases hii:isId i with
     | false=>
      have Hii:=Lib.hid hii;clear hii
      go_wp2_with fail
      go_ret;exact⟨by rw[zEm,Hii.out];simp,Hf8.out⟩
     | true=>
      have Hii:=Lib.hid hii;clear hii
      go_wp2_with fail
      refine(zDA 2 s t e 2 s t e i l i ⟨#[]⟩ none 0 0 _ (by omega)).mono ?_;rintro en w9 ⟨rfl,hf9⟩;have Hf9:=Lib.hid (Hf8.out.step hf9 (fun _ _ h=>h));clear hf9 a0 a1 a2 a3 a4 a5 a6 b0 b1 b2 b3 b4 b5 b6 r1 r2
      go_wp2_with fail
      go_ret;exact⟨by rw[zEm,Hii.out,Hd.out,Hd2.out,Hd3.out];simp,Hf9.out⟩
  by_cases hk3:k=3
  ·subst hk3;obtain⟨a0,a1,a2,a3,a4,a5,a6⟩:=cl7 q12;obtain⟨b0,b1,b2,b3,b4,b5,b6⟩:=cl7 q22;obtain⟨f0,f1,f2,f3,f4,f5,f6⟩:=fl7 q22;by_cases hn1:n.length=1
   case neg=>
    have hn1':¬ (n.length:Int)=1:=by omega
    have Hd:=Lib.hid (decide_eq_false hn1)
    go_wp2_with fail
    go_ret;exact⟨by rw[zID,Hd.out];simp,Hf2.out⟩
   have hn1':(n.length:Int)=1:=by omega
   have Hd:=Lib.hid (decide_eq_true hn1)
   go_upto_region 24 with(fail)
   clear a0 a1 a2 a3 a4 a5 a6 b0 b1 b2 b3 b4 b5 b6 f0 f1 f2 f3 f4 f5 f6;have c6:W3.cell? ⟨w.heap.size,6,none⟩=some (.slice a n.length cap):=zB q12 6;have f6:W3.frozen? ⟨w.heap.size,6,none⟩=false:=zC q12 6
   go_upto_region 25 with(fail)
   have hy:Fr (Is w.heap.size) W3 (W3.setCell ⟨w.heap.size,6,none⟩ (.slice none 0 0)):=Fr.setAt (Fr.refl _ _) _;have p1:=zF q12 6 (.slice none 0 0);have p2:=hy.heap q22 (fun h=>by unfold Is at h;omega);have Hy:=Lib.hid (Hf2.out.step hy (fun b hb h=>by unfold Is at h;omega));clear hy c6 f6 q12 q22;generalize W3.setCell ⟨w.heap.size,6,none⟩ (.slice none 0 0)=W7 at *;have c1:W7.cell? ⟨w.heap.size,1,none⟩=some (.string i):=zB p1 1
   go_wp2_with fail
   refine(zDB i _ his).mono ?_;rintro en w8 ⟨rfl,hf8⟩;have r1:=hf8.heap p1 id;have r2:=hf8.heap p2 id;have Hf8:=Lib.hid (Hy.out.step hf8 (fun _ _ h=>h));clear p1 p2 c1 hf8;obtain⟨a0,a1,a2,a3,a4,a5,a6⟩:=cl7 r1;obtain⟨b0,b1,b2,b3,b4,b5,b6⟩:=cl7 r2;cases hii:isId i with
   | false=>
    have Hii:=Lib.hid hii;clear hii
    go_wp2_with fail
    go_ret;exact⟨by rw[zID,Hii.out];simp,Hf8.out⟩
   | true=>
    have Hii:=Lib.hid hii;clear hii
    go_wp2_with fail
    refine(zDA 3 s t e 3 0 0 0 i l i ⟨#[]⟩ none 0 0 _ (by omega)).mono ?_;rintro en w9 ⟨rfl,hf9⟩;have Hf9:=Lib.hid (Hf8.out.step hf9 (fun _ _ h=>h));clear hf9 a0 a1 a2 a3 a4 a5 a6 b0 b1 b2 b3 b4 b5 b6 r1 r2
    go_wp2_with fail
    go_ret;exact⟨by rw[zID,Hii.out,Hd.out];simp,Hf9.out⟩
  by_cases hk4:k=4
  ·subst hk4;obtain⟨a0,a1,a2,a3,a4,a5,a6⟩:=cl7 q12;obtain⟨b0,b1,b2,b3,b4,b5,b6⟩:=cl7 q22;obtain⟨f0,f1,f2,f3,f4,f5,f6⟩:=fl7 q22
   go_wp2_with fail
   refine zR (Is w0.heap.size) [(0,false),(1,false),(2,false),(3,false),(4,false),(5,true),(6,false),(7,true)] (by kernel_rfl) (by kernel_rfl) (fun w4 hf4=>?_);have g3:∀ g:Gr (Is w0.heap.size) w4,g.W.cell? ⟨w.heap.size,3,none⟩=some (.int .i64 s):=fun g=>g.fr.cell (hf4.cell a3 id) (show ¬ Is w0.heap.size w.heap.size from by unfold Is;omega)
   have g4:∀ g:Gr (Is w0.heap.size) w4,g.W.cell? ⟨w.heap.size,4,none⟩=some (.int .i64 t):=fun g=>g.fr.cell (hf4.cell a4 id) (show ¬ Is w0.heap.size w.heap.size from by unfold Is;omega)
   have q14:=hf4.heap q12 id;have q24:=hf4.heap q22 id;have Hf4:=Lib.hid (Hf2.out.step hf4 (fun _ _ h=>h));clear q12 q22 hf4;clear a0 a1 a2 a3 a4 a5 a6 b0 b1 b2 b3 b4 b5 b6 f0 f1 f2 f3 f4 f5 f6
   repeat (apply zT;exact rfl;exact rfl;exact rfl;intro K hK;go_big_quiet_op;go_big_quiet_on)
   apply zi;exact rfl;have b3:w4.cell? ⟨w0.heap.size,3,none⟩=some (.int .i64 0):=zB q24 3;have f3:w4.frozen? ⟨w0.heap.size,3,none⟩=false:=zC q24 3
   go_wp2_with fail
   have hz0:Fr (Is w0.heap.size) w4 (w4.setCell ⟨w0.heap.size,3,none⟩ (.int .i64 s)):=Fr.setAt (Fr.refl _ _) _;refine OnlyN.mk ⟨hz0,?_⟩;have q24a:(w4.setCell ⟨w0.heap.size,3,none⟩ (.int .i64 s)).heap[w0.heap.size]?=some (.cells #[.int .i64 4,.string i,.string ⟨#[]⟩,.int .i64 s,.int .i64 0,.int .i64 0,.slice none 0 0] 256):=zF q24 3 (.int .i64 s);have q14a:=hz0.heap q14 (fun h=>by unfold Is at h;omega);have Hf4a:=Lib.hid (Hf4.out.step hz0 (fun b hb h=>by unfold Is at h;omega));clear hz0 b3 f3 q14 q24 Hf4;generalize w4.setCell ⟨w0.heap.size,3,none⟩ (.int .i64 s)=W40 at *
   repeat (apply zT;exact rfl;exact rfl;exact rfl;intro K hK;go_big_quiet_op;go_big_quiet_on)
   apply zi;exact rfl;have b4:W40.cell? ⟨w0.heap.size,4,none⟩=some (.int .i64 0):=zB q24a 4;have f4:W40.frozen? ⟨w0.heap.size,4,none⟩=false:=zC q24a 4
   go_wp2_with fail
   have hz1:Fr (Is w0.heap.size) W40 (W40.setCell ⟨w0.heap.size,4,none⟩ (.int .i64 t)):=Fr.setAt (Fr.refl _ _) _;refine OnlyN.mk ⟨hz1,?_⟩;have q24aa:(W40.setCell ⟨w0.heap.size,4,none⟩ (.int .i64 t)).heap[w0.heap.size]?=some (.cells #[.int .i64 4,.string i,.string ⟨#[]⟩,.int .i64 s,.int .i64 t,.int .i64 0,.slice none 0 0] 256):=zF q24a 4 (.int .i64 t);have q14aa:=hz1.heap q14a (fun h=>by unfold Is at h;omega);have Hf4aa:=Lib.hid (Hf4a.out.step hz1 (fun b hb h=>by unfold Is at h;omega));clear hz1 b4 f4 q14a q24a Hf4a;generalize W40.setCell ⟨w0.heap.size,4,none⟩ (.int .i64 t)=W41 at *;refine zb ?_;clear g3 g4;obtain⟨a0,a1,a2,a3,a4,a5,a6⟩:=cl7 q14aa;obtain⟨b0,b1,b2,b3,b4,b5,b6⟩:=cl7 q24aa
   go_wp2_with fail
   refine(zBx (n.length:Int) 16 _).mono ?_;rintro en w5 ⟨rfl,rfl⟩;cases hd:(decide (1<=(n.length:Int))&&decide ((n.length:Int)<=16))with
   | false=>
    have Hd:=Lib.hid hd;clear hd
    go_wp2_with fail
    go_ret;exact⟨by rw[zGB,Hd.out];simp,Hf4aa.out⟩
   | true=>
    have Hd:=Lib.hid hd;clear hd
    go_wp2_with fail
    refine(zHz 4 s t e i l _ _).mono ?_;rintro en w6 ⟨rfl,hf6⟩;have q16:=hf6.heap q14aa id;have q26:=hf6.heap q24aa id;have Hf6:=Lib.hid (Hf4aa.out.step hf6 (fun _ _ h=>h));clear hf6 q14aa q24aa a0 a1 a2 a3 a4 a5 a6 b0 b1 b2 b3 b4 b5 b6;cases hd2:zAC s t with
    | false=>
     have Hd2:=Lib.hid hd2;clear hd2
     go_wp2_with fail
     go_ret;exact⟨by rw[zGB,Hd2.out];simp,Hf6.out⟩
    | true=>
     have Hd2:=Lib.hid hd2;clear hd2
     go_upto_region 24 with(fail)
     have c6:w6.cell? ⟨w.heap.size,6,none⟩=some (.slice a n.length cap):=zB q16 6;have f6:w6.frozen? ⟨w.heap.size,6,none⟩=false:=zC q16 6
     go_upto_region 25 with(fail)
     have hy:Fr (Is w.heap.size) w6 (w6.setCell ⟨w.heap.size,6,none⟩ (.slice none 0 0)):=Fr.setAt (Fr.refl _ _) _;have p1:=zF q16 6 (.slice none 0 0);have p2:=hy.heap q26 (fun h=>by unfold Is at h;omega);have Hy:=Lib.hid (Hf6.out.step hy (fun b hb h=>by unfold Is at h;omega));clear hy c6 f6 q16 q26;generalize w6.setCell ⟨w.heap.size,6,none⟩ (.slice none 0 0)=W7 at *;have c1:W7.cell? ⟨w.heap.size,1,none⟩=some (.string i):=zB p1 1
     go_wp2_with fail
     refine(zDB i _ his).mono ?_;rintro en w8 ⟨rfl,hf8⟩;have r1:=hf8.heap p1 id;have r2:=hf8.heap p2 id;have Hf8:=Lib.hid (Hy.out.step hf8 (fun _ _ h=>h));clear p1 p2 c1 hf8;obtain⟨a0,a1,a2,a3,a4,a5,a6⟩:=cl7 r1;obtain⟨b0,b1,b2,b3,b4,b5,b6⟩:=cl7 r2;cases hii:isId i with
     | false=>
      have Hii:=Lib.hid hii;clear hii
      go_wp2_with fail
      go_ret;exact⟨by rw[zGB,Hii.out];simp,Hf8.out⟩
     | true=>
      have Hii:=Lib.hid hii;clear hii
      go_wp2_with fail
      refine(zDA 4 s t e 4 s t 0 i l i ⟨#[]⟩ none 0 0 _ (by omega)).mono ?_;rintro en w9 ⟨rfl,hf9⟩;have Hf9:=Lib.hid (Hf8.out.step hf9 (fun _ _ h=>h));clear hf9 a0 a1 a2 a3 a4 a5 a6 b0 b1 b2 b3 b4 b5 b6 r1 r2
      go_wp2_with fail
      go_ret;exact⟨by rw[zGB,Hii.out,Hd.out,Hd2.out];simp,Hf9.out⟩
  by_cases hk5:k=5
  ·subst hk5;obtain⟨a0,a1,a2,a3,a4,a5,a6⟩:=cl7 q12;obtain⟨b0,b1,b2,b3,b4,b5,b6⟩:=cl7 q22;obtain⟨f0,f1,f2,f3,f4,f5,f6⟩:=fl7 q22
   go_wp2_with fail
   refine(zBx (n.length:Int) 16 _).mono ?_;rintro en w4 ⟨rfl,rfl⟩;cases hd:(decide (1<=(n.length:Int))&&decide ((n.length:Int)<=16))with
   | false=>
    have Hd:=Lib.hid hd;clear hd
    go_wp2_with fail
    go_ret;exact⟨by rw[zIC,Hd.out];simp,Hf2.out⟩
   | true=>
    have Hd:=Lib.hid hd;clear hd
    go_upto_region 24 with(fail)
    clear a0 a1 a2 a3 a4 a5 a6 b0 b1 b2 b3 b4 b5 b6 f0 f1 f2 f3 f4 f5 f6;have c6:W3.cell? ⟨w.heap.size,6,none⟩=some (.slice a n.length cap):=zB q12 6;have f6:W3.frozen? ⟨w.heap.size,6,none⟩=false:=zC q12 6
    go_upto_region 25 with(fail)
    have hy:Fr (Is w.heap.size) W3 (W3.setCell ⟨w.heap.size,6,none⟩ (.slice none 0 0)):=Fr.setAt (Fr.refl _ _) _;have p1:=zF q12 6 (.slice none 0 0);have p2:=hy.heap q22 (fun h=>by unfold Is at h;omega);have Hy:=Lib.hid (Hf2.out.step hy (fun b hb h=>by unfold Is at h;omega));clear hy c6 f6 q12 q22;generalize W3.setCell ⟨w.heap.size,6,none⟩ (.slice none 0 0)=W7 at *;have c1:W7.cell? ⟨w.heap.size,1,none⟩=some (.string i):=zB p1 1
    go_wp2_with fail
    refine(zDB i _ his).mono ?_;rintro en w8 ⟨rfl,hf8⟩;have r1:=hf8.heap p1 id;have r2:=hf8.heap p2 id;have Hf8:=Lib.hid (Hy.out.step hf8 (fun _ _ h=>h));clear p1 p2 c1 hf8;obtain⟨a0,a1,a2,a3,a4,a5,a6⟩:=cl7 r1;obtain⟨b0,b1,b2,b3,b4,b5,b6⟩:=cl7 r2;cases hii:isId i with
    | false=>
     have Hii:=Lib.hid hii;clear hii
     go_wp2_with fail
     go_ret;exact⟨by rw[zIC,Hii.out];simp,Hf8.out⟩
    | true=>
     have Hii:=Lib.hid hii;clear hii
     go_wp2_with fail
     refine(zDA 5 s t e 5 0 0 0 i l i ⟨#[]⟩ none 0 0 _ (by omega)).mono ?_;rintro en w9 ⟨rfl,hf9⟩;have Hf9:=Lib.hid (Hf8.out.step hf9 (fun _ _ h=>h));clear hf9 a0 a1 a2 a3 a4 a5 a6 b0 b1 b2 b3 b4 b5 b6 r1 r2
     go_wp2_with fail
     go_ret;exact⟨by rw[zIC,Hii.out,Hd.out];simp,Hf9.out⟩
  obtain⟨a0,a1,a2,a3,a4,a5,a6⟩:=cl7 q12;obtain⟨b0,b1,b2,b3,b4,b5,b6⟩:=cl7 q22;obtain⟨f0,f1,f2,f3,f4,f5,f6⟩:=fl7 q22
  go_wp2_with fail
  go_ret;exact⟨by rw[zK3 s t e i l n hk0 hk1 hk2 hk3 hk4 hk5];rfl,Hf2.out⟩
end Go.Proofs.YtmajgldaplkpiaaGreatDoor
