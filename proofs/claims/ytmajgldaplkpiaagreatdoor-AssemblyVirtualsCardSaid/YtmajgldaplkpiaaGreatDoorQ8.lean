import Derived.Test.YtmajgldaplkpiaaGreatDoorQ7
namespace Go.Proofs.YtmajgldaplkpiaaGreatDoor
open Go.RowKit Go.Maps
set_option linter.unusedVariables false
set_option maxRecDepth 100000
set_option maxHeartbeats 4000000
structure ElOk (W:World)(base:Nat)(d:Dev):Prop where
 sz:Sized d
 drv:d.drv=⟨#[]⟩
 att:∃ l,Atts W d.aa d.ac l/\d.an=l.length/\l.length<=24
 fresh:∀ ad,d.aa=some ad->base<=ad.block
structure Tr (W:World)(base:Nat)(a:Option Addr)(cap:Nat)(ds:List Dev):Prop where
 dv:Devs W a cap ds
 wf:TreeWf ds
 fresh:∀ ad,a=some ad->base<=ad.block
 el:∀ d∈ds,ElOk W base d
theorem ElOk.fr {S:Nat->Prop}{W W':World}{base:Nat}{d:Dev}(h:ElOk W base d)(hf:Fr S W W')(hS:∀ b,base<=b->¬ S b):ElOk W' base d:=by
 obtain⟨l,h1,h2⟩:=h.att;exact⟨h.sz,h.drv,⟨l,h1.fr hf (fun ad e _=>hS _ (h.fresh ad e)),h2⟩,h.fresh⟩
theorem Tr.fr {S:Nat->Prop}{W W':World}{base:Nat}{a:Option Addr}{cap:Nat}{ds:List Dev}(h:Tr W base a cap ds)(hf:Fr S W W')(hS:∀ b,base<=b->¬ S b):Tr W' base a cap ds:=
 ⟨h.dv.fr hf (fun ad e _=>hS _ (h.fresh ad e)),h.wf,h.fresh,fun d hd=>(h.el d hd).fr hf hS⟩
theorem Tr.no {W W':World}{base:Nat}{a:Option Addr}{cap:Nat}{ds:List Dev}(h:Tr W base a cap ds)(hf:Fr No W W'):Tr W' base a cap ds:=h.fr hf (fun _ _=>id)
theorem Tr.nil (W:World)(base:Nat):Tr W base none 0 []:=⟨Devs.nil W,TreeWf.nil,(fun _ e=>by cases e),(fun d h=>by simp at h)⟩
theorem zKx {W W':World}{base:Nat}{a:Option Addr}{cap:Nat}{ds:List Dev}{d:Dev}{a':Option Addr}{n' c' q:Nat}(h:Tr W base a cap ds)(hd:ElOk W base d)(hi:InsTo W W' ds d a' n' c' q)(hf:Fr No W W')(hb:base<=W.heap.size):
  n'=(insAt ds q d).length/\Tr W' base a' c' (insAt ds q d):=by
 have hn:=hi.len;subst hn;obtain⟨_,_,e,h1,h2⟩:=Devs.of_own hi.own;cases e;have hw:=h.wf.insert hi.hk hi.new ⟨hi.ok.lo,hi.ok.hi⟩ hi.ok.orig hi.ok.ne hi.par hi.org hi.dep;refine⟨rfl,h1,hw.1,fun ad e=>Nat.le_trans hb (h2 ad e),fun x hx=>?_⟩;rcases zx.1 hx with rfl | hx
 ·exact hd.fr hf (fun _ _=>id)
 ·exact(h.el x hx).fr hf (fun _ _=>id)
structure TrS (w W:World)(B tb:Nat)(k:Nat)(a:Option Addr)(cap:Nat)(ds:List Dev):Prop where
 fr:Fr (Is tb) w W
 p4:W.heap[w.heap.size]?=some (.cells #[.slice none 0 0] 28)
 p5:W.heap[w.heap.size+1]?=some (.cells #[.slice a ds.length cap] 28)
 tr:Tr W (w.heap.size+2) a cap ds
 tape:Tape W B tb k
 tl:tb<w.heap.size
 B0:0<B
section
variable {w W W':World}{B tb k:Nat}{a:Option Addr}{cap:Nat}{ds:List Dev}
theorem TrS.step (h:TrS w W B tb k a cap ds){k':Nat}(ht:Tape W' B tb k')(hf:Fr (Is tb) W W'):TrS w W' B tb k' a cap ds:=by
 have h2:=h.tl;exact⟨h.fr.step hf (fun _ _ e=>e),hf.heap h.p4 (fun e=>by unfold Is at e;omega),hf.heap h.p5 (fun e=>by unfold Is at e;omega),h.tr.fr hf (fun b hb e=>by unfold Is at e;omega),ht,h2,h.B0⟩
theorem TrS.no (h:TrS w W B tb k a cap ds)(hf:Fr No W W'):TrS w W' B tb k a cap ds:=
 h.step (h.tape.fr hf (fun _ _=>id) id) (hf.mono (fun _ _ e=>e.elim))
theorem Tr.store (h:Tr W (w.heap.size+2) a cap ds){b:Nat}{x:Option Addr}{y z:Nat}{T:TypeId}(hb:W.heap[b]?=some (.cells #[.slice x y z] T))(v:Value):Tr (W.setCell ⟨b,0,none⟩ v) (w.heap.size+2) a cap ds:=by
 have hf:Fr (Is b) W (W.setCell ⟨b,0,none⟩ v):=Fr.setAt (Fr.refl _ _) _;have hc:∀ (o:Nat) (u:Value),W.cell? ⟨b,o,none⟩=some u->u=.slice x y z:=fun o u hu=>by
  rw[zB hb]at hu
  match o,hu with
  | 0,hu=>simpa using hu.symm
 refine⟨h.dv.fr hf (fun ad e hne hS=>?_),h.wf,h.fresh,fun d hd=>?_⟩
 ·obtain⟨h1,_,h3⟩:=h.dv.cell ad e hne;cases ds with
  | nil=>exact hne rfl
  | cons d t=>
   have h4:=h3 0 d rfl 0 (by omega);unfold Is at hS;rw[hS]at h4;have:=hc _ _ h4;cases this
 ·have he:=h.el d hd;obtain⟨l,h1,h2⟩:=he.att;refine⟨he.sz,he.drv,⟨l,h1.fr hf (fun ad e hne hS=>?_),h2⟩,he.fresh⟩;obtain⟨_,_,h3⟩:=h1.cell ad e hne;cases l with
  | nil=>exact hne rfl
  | cons q t=>
   have h4:=(h3 0 q rfl).1;unfold Is at hS;rw[hS]at h4;have:=hc _ _ h4;cases this
theorem TrS.store (h:TrS w W B tb k a cap ds){b:Nat}{x:Option Addr}{y z:Nat}{T:TypeId}(hb:W.heap[b]?=some (.cells #[.slice x y z] T))(h1:w.heap.size+2<=b)(v:Value):TrS w (W.setCell ⟨b,0,none⟩ v) B tb k a cap ds:=by
 have hf:Fr (Is b) W (W.setCell ⟨b,0,none⟩ v):=Fr.setAt (Fr.refl _ _) _;have h2:=h.tl;have h3:=h.tape.le;exact⟨h.fr.step hf (fun x hx e=>by unfold Is at e;omega),hf.heap h.p4 (fun e=>by unfold Is at e;omega),hf.heap h.p5 (fun e=>by unfold Is at e;omega),h.tr.store hb v,h.tape.fr hf (fun x hx e=>by unfold Is at e;omega) (fun e=>by unfold Is at e;omega),h2,h.B0⟩
theorem TrS.t5 (h:TrS w W B tb k a cap ds):W.cell? ⟨w.heap.size+1,0,none⟩=some (.slice a ds.length cap):=zB h.p5 0
theorem TrS.lt (h:TrS w W B tb k a cap ds):w.heap.size+2<=W.heap.size:=by have:=zE h.p5;omega
theorem TrS.zero (h:TrS w W B tb k a cap ds){m:Int}(hm:w.cell? ⟨0,0,none⟩=some (.int .i64 m)):W.cell? ⟨0,0,none⟩=some (.int .i64 m):=
 h.fr.cell hm (fun e=>by have:=h.B0;have:=h.tape.le;unfold Is at e;simp at e;omega)
end
theorem DevTo.el {w w':World}{B tb k':Nat}{i:Int}{d:Dev}{l:List (ByteArray×ByteArray)}(h:DevTo w w' B tb k' i d l){base:Nat}(hb:base<=w.heap.size):ElOk w' base d:=
 ⟨h.sz,h.drv,⟨l,h.att,h.an,by have:=h.lb;omega⟩,fun ad e=>Nat.le_trans hb (h.afr ad e)⟩
theorem zCD (a:Option Addr)(cap:Nat)(ds:List Dev)(d:Dev)(m:Int)(W:World)(base:Nat)(h:Tr W base a cap ds)(hd:ElOk W base d)(hl:ds.length<=1000)(hm:W.cell? ⟨0,0,none⟩=some (.int .i64 m))(h0:0<W.heap.size):
  Calls Tryz.prog 11 #[.agg #[.slice a ds.length cap],.agg d.vals] W fun e w'=>InsRes W w' ds d e/\Fr No W w':=by
 obtain⟨l,h1,h2,_⟩:=hd.att;exact zGR a cap ds d l m W h.dv hl h.wf.ok hd.sz h1 h2 hd.drv hm h0
def Ins5 (w wx:World)(B tb K:Nat)(a:Option Addr)(cap:Nat)(ds:List Dev)(v7 v8:Value):Prop:=
 ∃ b7 er a' n' c' k',v7=.pointer (some ⟨b7,0,none⟩)/\v8=.int .i64 er/\k'<=K/\wx.heap[b7]?=some (.cells #[.slice a' n' c'] 28)/\w.heap.size+2<=b7/\TrS w wx B tb k' a cap ds/\
  (er=0->∃ ds',n'=ds'.length/\ds'.length<=ds.length+1/\Tr wx (w.heap.size+2) a' c' ds')
theorem zFB {w W W':World}{a:Option Addr}{cap:Nat}{ds:List Dev}{d:Dev}{a':Option Addr}{n' c':Nat}(h:Tr W (w.heap.size+2) a cap ds)(hd:ElOk W (w.heap.size+2) d)(hi:∃ q,InsTo W W' ds d a' n' c' q)(hf:Fr No W W')(hb:w.heap.size+2<=W.heap.size):
  ∃ ds',n'=ds'.length/\ds'.length<=ds.length+1/\Tr W' (w.heap.size+2) a' c' ds':=by
 obtain⟨q,hq⟩:=hi;obtain⟨h1,h2⟩:=zKx h hd hq hf hb;exact⟨_,h1,by rw[zEb];omega,h2⟩
def zKX (w w':World)(B tb K N:Nat)(e:Ending):Prop:=∃ a cap ds k',k'<=K/\ds.length<=N/\e=.returned (.agg #[.slice a ds.length cap])/\Tr w' (w.heap.size+2) a cap ds/\Tape w' B tb k'/\Fr (Is tb) w w'
theorem zHb (B tb k n:Nat)(m:Int)(w:World)(ht:Tape w B tb k)(hB:0<B)(hk:k<=1000000)(hn:n<=1000)(hm:w.cell? ⟨0,0,none⟩=some (.int .i64 m)):
  Calls Tryz.prog 4 #[.pointer (some ⟨tb,0,none⟩),.int .i64 (n:Int)] w fun e w'=>zKX w w' B tb (k+12*n) n e:=by
 have hx:Fr No w ((w.alloc (.cells #[.slice none 0 0] 28)).alloc (.cells #[.slice none 0 0] 28)):=((Fr.refl _ _).alloc _).alloc _;have q0:=zL w (.cells #[.slice none 0 0] 28) (.cells #[.slice none 0 0] 28);have q1:=zP w (.cells #[.slice none 0 0] 28) (.cells #[.slice none 0 0] 28);have hS0:TrS w _ B tb k none 0 []:=⟨hx.mono (fun _ _ e=>e.elim),q0,q1,Tr.nil _ _,ht.fr hx (fun _ _=>id) id,ht.lt,hB⟩
 clear hx q0 q1
 go_enter Tryz.func4,Tryz.ntmps4
 go_wp2_with fail
 generalize (w.alloc (.cells #[.slice none 0 0] 28)).alloc (.cells #[.slice none 0 0] 28)=W0 at *
 go_loopw [6] (fun iv wr=>∃ (j k':Nat) (a:Option Addr) (cap:Nat) (ds:List Dev),iv=.int .i64 (j:Int)/\1<=j/\j<=n+1/\ds.length+1<=j/\k'+12<=k+12*j/\TrS w wr B tb k' a cap ds) (fun iv _=>n+1-(intOf iv).toNat)
 case atStart=>exact⟨1,k,none,0,[],rfl,by omega,by omega,by simp,by omega,hS0⟩
 case round=>
  clear hS0;obtain⟨j,k1,a,cap,ds,rfl,hj1,hj2,hdl,hk1,hS⟩:=hrel;by_cases hlt:j<=n
  ·have hlt':(j:Int)<=n:=by omega
   go_upto_region 5 with(fail)
   have hdl':ds.length<=1000:=by omega
   go_cut [7,8] (fun v7 v8 wx=>Ins5 w wx B tb (k1+12) a cap ds v7 v8)
   case first=>
    refine zY (TB tb wr.heap.size) (.q 0 (.q 1 (.q 2 (.q 3 (.m2 4 (.m2 5 (.q 6 (.q 7 (.q 8 (.m1 9 (.m1 10 (.q 11 .fin)))))) 9 (.m1 5 (.q 6 (.q 7 (.q 8 (.m1 10 (.q 11 .fin))))))) 9 (.m1 4 (.m1 5 (.q 6 (.q 7 (.q 8 (.m1 10 (.q 11 .fin)))))))))))) _ (by kernel_rfl) (by kernel_rfl) (fun w0 hf0=>?_) (fun _ _ h=>h);have hS0:=hS.no hf0;have h0z:=hf0.size;have hSl:=hS.lt;have g0:∀ g:Gr (TB tb wr.heap.size) w0,g.W.cell? ⟨w.heap.size+1,0,none⟩=some (.slice a ds.length cap):=fun g=>g.fr.cell hS0.t5 (by unfold TB;have:=hS.tl;simp;omega)
    repeat (apply zM;exact rfl;exact rfl;exact rfl;intro K hK;go_big_quiet_op;go_big_quiet_on)
    clear g0;refine zh rfl rfl ?_ ?_
    ·go_wp2_with fail
     refine(zCw B tb k1 a cap ds (j:Int) _ hS0.tape (by omega) hS0.tr.dv (by omega) hS0.tr.wf.ok.sz (fun ad e=>by have:=hS0.tr.fresh ad e;have:=hS0.tl;omega) (WalkArith.wf_i64 (by omega))).mono ?_;rintro e w2 ⟨k2,d,l,hk2,rfl,hD⟩;have hS2:=hS0.step hD.tape hD.fr;have hEl:=hD.el hS0.lt
     go_wp2_with fail
     refine OnlyN.mk ⟨hD.fr.mono (fun _ _ h=>.inl h),?_⟩;have h2z:=hD.fr.size;refine zh rfl rfl ?_ ?_
     ·go_wp2_with fail
      refine(zCD a cap ds d m _ _ hS2.tr hEl (by omega) (hS2.zero hm) (by have:=hS2.lt;omega)).mono ?_;rintro e w3 ⟨⟨a',n',c',er,rfl,hok⟩,hf3⟩;have hS3:=hS2.no hf3;have HN:=Lib.hid (fun h=>zFB hS2.tr hEl (hok h) hf3 hS2.lt);clear hok
      go_wp2_with fail
      refine OnlyN.mk ⟨hf3.mono (fun _ _ h=>h.elim),?_⟩
      repeat (apply zM;exact rfl;exact rfl;exact rfl;intro K hK;go_big_quiet_op;go_big_quiet_on)
      have h3z:=hf3.size;refine zH rfl ?_
      go_wp2_with fail
      refine OnlyN.mk ⟨(Fr.refl _ _).alloc _,?_⟩;refine zH rfl ?_
      go_wp2_with fail
      refine OnlyN.mk ⟨Fr.swap _ _ _ (.inr (by omega)),?_⟩
      repeat (apply zM;exact rfl;exact rfl;exact rfl;intro K hK;go_big_quiet_op;go_big_quiet_on)
      refine zS ?_
      go_wp2_with fail
      go_meet
      have hX:Fr No w3 (w3.alloc (.cells #[.slice a' n' c'] 28)):=(Fr.refl _ _).alloc _;refine⟨w3.heap.size,er,a',n',c',k2,rfl,rfl,by omega,zD _ _,by omega,hS3.no hX,fun h=>?_⟩;obtain⟨ds',g1,g2,g3⟩:=HN.out h;exact⟨ds',g1,g2,g3.no hX⟩
     ·go_wp2_with fail
      refine OnlyN.mk ⟨(Fr.refl _ _).alloc _,?_⟩;have hX:Fr No w2 (w2.alloc (.cells #[.slice none 0 0] 28)):=(Fr.refl _ _).alloc _;have hXb:=zD w2 (.cells #[.slice none 0 0] 28);have hXs:w2.heap.size<(w2.alloc (.cells #[.slice none 0 0] 28)).heap.size:=by simp
      generalize w2.alloc (.cells #[.slice none 0 0] 28)=X at *;have hSX:=hS2.no hX;have hElX:=hEl.fr hX (fun _ _=>id);refine zH rfl ?_
      go_wp2_with fail
      refine(zCD a cap ds d m _ _ hSX.tr hElX (by omega) (hSX.zero hm) (by have:=hSX.lt;omega)).mono ?_;rintro e w3 ⟨⟨a',n',c',er,rfl,hok⟩,hf3⟩;have hS3:=hSX.no hf3;have HN:=Lib.hid (fun h=>zFB hSX.tr hElX (hok h) hf3 hSX.lt);clear hok
      go_wp2_with fail
      refine OnlyN.mk ⟨hf3.mono (fun _ _ h=>h.elim),?_⟩
      repeat (apply zM;exact rfl;exact rfl;exact rfl;intro K hK;go_big_quiet_op;go_big_quiet_on)
      have hb3:=hf3.heap hXb id;refine zH rfl ?_;have x7:w3.cell? ⟨w2.heap.size,0,none⟩=some (.slice none 0 0):=zB hb3 0;have z7:w3.frozen? ⟨w2.heap.size,0,none⟩=false:=zC hb3 0;have hS4:=hS3.store hb3 (by have:=h2z;omega) (.slice a' n' c');have HN4:Hid (er=0->∃ ds',n'=ds'.length/\ds'.length<=ds.length+1/\Tr (w3.setCell ⟨w2.heap.size,0,none⟩ (.slice a' n' c')) (w.heap.size+2) a' c' ds'):=fun h=>by
       obtain⟨ds',g1,g2,g3⟩:=HN.out h;exact⟨ds',g1,g2,g3.store hb3 _⟩
      clear HN
      go_wp2_with fail
      refine OnlyN.mk ⟨(Fr.refl _ _).setCell (p:=⟨w2.heap.size,0,none⟩) (fun _=>.inr (by show wr.heap.size<=w2.heap.size;omega)) _,?_⟩
      repeat (apply zM;exact rfl;exact rfl;exact rfl;intro K hK;go_big_quiet_op;go_big_quiet_on)
      refine zS ?_
      go_wp2_with fail
      go_meet
      exact⟨w2.heap.size,er,a',n',c',k2,rfl,rfl,by omega,zF hb3 0 _,by have:=h2z;omega,hS4,HN4.out⟩
    ·go_wp2_with fail
     refine OnlyN.mk ⟨(Fr.refl _ _).alloc _,?_⟩;have hX:Fr No w0 (w0.alloc (.cells #[.slice none 0 0] 28)):=(Fr.refl _ _).alloc _;have hXb:=zD w0 (.cells #[.slice none 0 0] 28);have hXs:w0.heap.size<(w0.alloc (.cells #[.slice none 0 0] 28)).heap.size:=by simp
     generalize w0.alloc (.cells #[.slice none 0 0] 28)=X at *;have hSX:=hS0.no hX;refine zH rfl ?_
     go_wp2_with fail
     refine(zCw B tb k1 a cap ds (j:Int) _ hSX.tape (by omega) hSX.tr.dv (by omega) hSX.tr.wf.ok.sz (fun ad e=>by have:=hSX.tr.fresh ad e;have:=hSX.tl;omega) (WalkArith.wf_i64 (by omega))).mono ?_;rintro e w2 ⟨k2,d,l,hk2,rfl,hD⟩;have hS2:=hSX.step hD.tape hD.fr;have hEl:=hD.el hSX.lt
     go_wp2_with fail
     refine OnlyN.mk ⟨hD.fr.mono (fun _ _ h=>.inl h),?_⟩;have hb2:=hD.fr.heap hXb (fun e=>by have:=hS.tl;unfold Is at e;omega);refine zH rfl ?_
     go_wp2_with fail
     refine(zCD a cap ds d m _ _ hS2.tr hEl (by omega) (hS2.zero hm) (by have:=hS2.lt;omega)).mono ?_;rintro e w3 ⟨⟨a',n',c',er,rfl,hok⟩,hf3⟩;have hS3:=hS2.no hf3;have HN:=Lib.hid (fun h=>zFB hS2.tr hEl (hok h) hf3 hS2.lt);clear hok
     go_wp2_with fail
     refine OnlyN.mk ⟨hf3.mono (fun _ _ h=>h.elim),?_⟩
     repeat (apply zM;exact rfl;exact rfl;exact rfl;intro K hK;go_big_quiet_op;go_big_quiet_on)
     have hb3:=hf3.heap hb2 id;refine zH rfl ?_;have x7:w3.cell? ⟨w0.heap.size,0,none⟩=some (.slice none 0 0):=zB hb3 0;have z7:w3.frozen? ⟨w0.heap.size,0,none⟩=false:=zC hb3 0;have hS4:=hS3.store hb3 (by have:=h0z;omega) (.slice a' n' c');have HN4:Hid (er=0->∃ ds',n'=ds'.length/\ds'.length<=ds.length+1/\Tr (w3.setCell ⟨w0.heap.size,0,none⟩ (.slice a' n' c')) (w.heap.size+2) a' c' ds'):=fun h=>by
      obtain⟨ds',g1,g2,g3⟩:=HN.out h;exact⟨ds',g1,g2,g3.store hb3 _⟩
     clear HN
     go_wp2_with fail
     refine OnlyN.mk ⟨(Fr.refl _ _).setCell (p:=⟨w0.heap.size,0,none⟩) (fun _=>.inr (by have:=h0z;omega)) _,?_⟩
     repeat (apply zM;exact rfl;exact rfl;exact rfl;intro K hK;go_big_quiet_op;go_big_quiet_on)
     refine zS ?_
     go_wp2_with fail
     go_meet
     exact⟨w0.heap.size,er,a',n',c',k2,rfl,rfl,by omega,zF hb3 0 _,by have:=h0z;omega,hS4,HN4.out⟩
   case rest=>
    clear hS;obtain⟨b7,er,a',n',c',k2,rfl,rfl,hk2,hb7,hlo7,hS,hnew⟩:=hcut;by_cases her:er=0
    ·obtain⟨ds',rfl,hl',hT'⟩:=hnew her;have heb:(er==0)=true:=by simp[her]
     have x7:wc.cell? ⟨b7,0,none⟩=some (.slice a' ds'.length c'):=zB hb7 0;have x5:=hS.t5;have z5:wc.frozen? ⟨w.heap.size+1,0,none⟩=false:=zC hS.p5 0;clear her;have hx:Fr (Is (w.heap.size+1)) wc (wc.setCell ⟨w.heap.size+1,0,none⟩ (.slice a' ds'.length c')):=Fr.setAt (Fr.refl _ _) _;have hSn:TrS w (wc.setCell ⟨w.heap.size+1,0,none⟩ (.slice a' ds'.length c')) B tb k2 a' c' ds':=by
      have h2:=hS.tl;have h3:=hS.tape.le;exact⟨hS.fr.step hx (fun x hx e=>by unfold Is at e;omega),hx.heap hS.p4 (fun e=>by unfold Is at e;omega),zF hS.p5 0 _,hT'.fr hx (fun b hb e=>by unfold Is at e;omega),hS.tape.fr hx (fun x hx e=>by unfold Is at e;omega) (fun e=>by unfold Is at e;omega),h2,hS.B0⟩
     go_wp2_with fail
     go_roundw
     case rel=>exact⟨j+1,k2,a',c',ds',by congr 1,by omega,by omega,by omega,by omega,hSn⟩
     case measure=>simp[intOf];omega
    ·have heb:(er==0)=false:=by simpa using her
     clear her
     go_wp2_with fail
     go_roundw
     case rel=>exact⟨j+1,k2,a,cap,ds,by congr 1,by omega,by omega,by omega,by omega,hS⟩
     case measure=>simp[intOf];omega
  ·have hlt':¬ (j:Int)<=n:=by omega
   have t5:=hS.t5;have r0:wr.cell? ⟨w.heap.size,0,none⟩=some (.slice none 0 0):=zB hS.p4 0;have rf:wr.frozen? ⟨w.heap.size,0,none⟩=false:=zC hS.p4 0
   go_wp2_with fail
   refine bodyPost_ret (v:=.agg #[.slice a ds.length cap]) (by simp[results,Tryz.results4,go_sem,r0]) rfl ?_;have hf:Fr (Is w.heap.size) wr (wr.setCell ⟨w.heap.size,0,none⟩ (.slice a ds.length cap)):=Fr.setAt (Fr.refl _ _) _;refine⟨a,cap,ds,k1,by omega,by omega,rfl,hS.tr.fr hf (fun b hb e=>by unfold Is at e;omega),hS.tape.fr hf (fun b hb e=>by have:=hS.tape.le;have:=hS.tl;unfold Is at e;omega) (fun e=>by have:=hS.tl;unfold Is at e;omega),hS.fr.step hf (fun b hb e=>by unfold Is at e;omega)⟩
theorem Tr.keep {X W:World}{base:Nat}{a:Option Addr}{cap:Nat}{ds:List Dev}{S:Nat->Prop}(h:Tr X base a cap ds)(hf:Fr S X W)(hS:∀ b,b<X.heap.size->base<=b->¬ S b):Tr W base a cap ds:=by
 refine⟨h.dv.fr hf (fun ad e hne=>hS _ (h.dv.cell ad e hne).2.1 (h.fresh ad e)),h.wf,h.fresh,fun d hd=>?_⟩;have he:=h.el d hd;obtain⟨l,h1,h2⟩:=he.att;exact⟨he.sz,he.drv,⟨l,h1.fr hf (fun ad e hne=>hS _ (h1.cell ad e hne).2.1 (he.fresh ad e)),h2⟩,he.fresh⟩
theorem Tape.make {w:World}{a:Option Addr}{cap:Nat}{l:List Int}(h:Ints w a cap l)(T:TypeId):
  Tape (w.alloc (.cells #[.slice a l.length cap,.int .i64 0] T)) w.heap.size w.heap.size 0:=
 ⟨a,cap,l,T,h.fr ((Fr.refl No _).alloc _) (fun _ _ _ h=>h),fun ad e hne=>(h.cell ad e hne).2.1,Nat.le_refl _,zD _ _⟩
def stepO (g:Int->Option ByteArray)(d:Dev):Int->Option ByteArray:=updO g d.index ((g d.parent).getD ⟨#[]⟩++⟨#[47]⟩++d.orig)
def ogs (l:List Dev):Int->Option ByteArray:=l.foldl stepO (fun _=>none)
def pathOf (l:List ByteArray):ByteArray:=l.foldl (fun s x=>s++⟨#[47]⟩++x) ⟨#[]⟩
def plcs (ds:List Dev)(k:Nat):Int->Option Int:=fun n=>(look (ds.take k) n).map fun _=>place ds n
theorem zDv (l:List Dev)(d:Dev):ogs (l++[d])=stepO (ogs l) d:=by unfold ogs;rw[List.foldl_append];rfl
theorem zBS {ds:List Dev}(h:∀ d∈ds,d.orig.size<=32):∀ (k:Nat) (n:Int),((ogs (ds.take k) n).getD ⟨#[]⟩).size<=33*k
 | 0,n=>by show (ByteArray.mk #[]).size<=_;exact Nat.zero_le _
 | k+1,n=>by
  by_cases hk:k<ds.length
  ·have e:ds.take (k+1)=ds.take k++[ds[k]]:=by rw[List.take_add_one,List.getElem?_eq_getElem hk];rfl
   have h1:=zBS h k ds[k].parent;have h2:=zBS h k n;have h3:=h ds[k] (List.getElem_mem hk);rw[e,zDv];unfold stepO updO;split
   ·simp only[Option.getD_some,ByteArray.size_append];have:(⟨#[47]⟩:ByteArray).size=1:=rfl;omega
   ·omega
  ·have h2:=zBS h k n;rw[List.take_of_length_le (by omega)]at h2 ⊢;omega
theorem zEX {ds:List Dev}(hnd:(ds.map Dev.index).Nodup){k:Nat}{d:Dev}(hd:ds[k]?=some d)(n:Int):look (ds.take (k+1)) n=if n=d.index then some d else look (ds.take k) n:=by
 have e:ds.take (k+1)=ds.take k++[d]:=by rw[List.take_add_one,hd];rfl
 have hnd':((ds.take k++[d]).map Dev.index).Nodup:=by rw[<-e];exact(List.Sublist.map _ (List.take_sublist _ _)).nodup hnd
 rw[e];unfold look;rw[List.find?_append];by_cases hn:n=d.index
 ·rw[if_pos hn];have:(ds.take k).find? (fun x=>decide (x.index=n))=none:=by
   rw[List.find?_eq_none];intro x hx hxn;simp only[decide_eq_true_eq]at hxn;rw[List.map_append,List.nodup_append]at hnd';exact hnd'.2.2 x.index (List.mem_map_of_mem hx) d.index (by simp) (by rw[hxn,hn])
  rw[this];simp[hn]
 ·rw[if_neg hn];have:([d].find? (fun x=>decide (x.index=n)))=none:=by simp;exact fun h=>hn h.symm
  rw[this];simp
theorem zHK {ds:List Dev}(hT:TreeOk ds){k:Nat}{d:Dev}(hd:ds[k]?=some d):plcs ds (k+1)=updO (plcs ds k) d.index (k:Int):=by
 funext n
 unfold plcs updO;rw[zEX hT.nd hd];split
 ·rename_i e;subst e;rcases zAV ds d.index with⟨h1,h2⟩ | ⟨j,x,h1,h2,h3⟩
  ·rw[hT.lk (List.mem_of_getElem? hd)]at h1;cases h1
  ·rw[hT.lk (List.mem_of_getElem? hd)]at h1;cases h1;rw[h2];have hj:j<ds.length:=(List.getElem?_eq_some_iff.1 h3).1;have hk:k<ds.length:=(List.getElem?_eq_some_iff.1 hd).1;have hp:=List.pairwise_iff_getElem.1 hT.nd;have e1:ds[j].index=ds[k].index:=by
    rw[List.getElem?_eq_getElem hj]at h3;rw[List.getElem?_eq_getElem hk]at hd;rw[Option.some.inj h3,Option.some.inj hd]
   rcases Nat.lt_trichotomy j k with h | rfl | h
   ·have hq:=hp j k (by simpa using hj) (by simpa using hk) h;rw[List.getElem_map,List.getElem_map]at hq;exact absurd e1 hq
   ·rfl
   ·have hq:=hp k j (by simpa using hk) (by simpa using hj) h;rw[List.getElem_map,List.getElem_map]at hq;exact absurd e1.symm hq
 ·rfl
theorem zFc {ds:List Dev}(hT:TreeOk ds):∀ (k:Nat),k<=ds.length->∀ n,ogs (ds.take k) n=(look (ds.take k) n).map fun _=>pathOf (origin ds n)
 | 0,_,n=>by simp[ogs,look]
 | k+1,hk,n=>by
  have hlt:k<ds.length:=by omega
  have hd:ds[k]?=some ds[k]:=List.getElem?_eq_getElem hlt;have e:ds.take (k+1)=ds.take k++[ds[k]]:=by rw[List.take_add_one,hd];rfl
  have ih:=zFc hT k (by omega);rw[zEX hT.nd hd,e,zDv];unfold stepO updO;split
  ·rename_i hn;have ho:pathOf (origin ds n)=pathOf (origin ds ds[k].parent)++⟨#[47]⟩++ds[k].orig:=by
    rw[hn,hT.origin_cons (hT.lk (List.getElem_mem hlt))];unfold pathOf;rw[List.foldl_append];rfl
   have hp:(ogs (ds.take k) ds[k].parent).getD ⟨#[]⟩=pathOf (origin ds ds[k].parent):=by
    rw[ih];rcases hT.pa k _ hd with h0 | ⟨j,f,hj,hf,hfi⟩
    ·have hz:look (ds.take k) ds[k].parent=none:=by
      rw[h0,zAb];intro x hx e;have:=(hT.ix x (List.mem_of_mem_take hx)).1;omega
     rw[hz,h0,TreeOk.origin_none hT.zero];rfl
    ·have hm:f∈ds.take k:=by
      have:(ds.take k)[j]?=some f:=by rw[List.getElem?_take_of_lt hj];exact hf
      exact List.mem_of_getElem? this
     have hnd:((ds.take k).map Dev.index).Nodup:=(List.Sublist.map _ (List.take_sublist _ _)).nodup hT.nd;have:=zAK hnd hm;rw[hfi]at this;rw[this];rfl
   rw[hp,ho];rfl
  ·exact ih n
theorem TreeOk.pwf {ds:List Dev}(h:TreeOk ds){d:Dev}(hd:d∈ds):(Lit.int .i64 d.parent).wf=true:=by
 obtain⟨k,hk⟩:=List.getElem?_of_mem hd;rcases h.pa k d hk with h0 | ⟨j,e,_,he,hi⟩
 ·rw[h0];decide
 ·rw[<-hi];have:=h.ix e (List.mem_of_getElem? he);exact WalkArith.wf_i64 (by omega)
theorem TreeOk.iwf {ds:List Dev}(h:TreeOk ds){d:Dev}(hd:d∈ds):(Lit.int .i64 d.index).wf=true:=by
 have:=h.ix d hd;exact WalkArith.wf_i64 (by omega)
def ViewAt (w w':World)(a:Option Addr)(cap:Nat)(ds:List Dev)(e:Ending):Prop:=
 ∃ m1 m2,e=.returned (.agg #[.slice a ds.length cap,.map (some m1),.map (some m2)])/\w.heap.size<=m1/\w.heap.size<=m2/\m1≠m2/\IMap w' m1 (plcs ds ds.length) ds.length/\SMap w' m2 (ogs ds) ds.length
def Two2 (x y:Nat):Nat->Prop:=fun b=>b=x\/b=y
theorem zBi (a:Option Addr)(cap:Nat)(ds:List Dev)(w:World)(hl:Devs w a cap ds)(hT:TreeOk ds)(hn:ds.length<=1000):
  Calls Tryz.prog 48 #[.agg #[.slice a ds.length cap]] w fun e w'=>ViewAt w w' a cap ds e/\Fr No w w':=by
 have hmm:=@run_makeMap Tryz.prog;have hm:=hl.lenmax
 go_enter Tryz.func48,Tryz.ntmps48
 go_wp2_with fail
 have Hok:=Lib.hid hT;have Hn:=Lib.hid hn;clear hT hn
 go_loopw [15] (fun i wr=>∃ k:Nat,k<=ds.length/\i=.int .i64 k/\IMap wr (w.heap.size+1+1) (plcs ds k) k/\SMap wr (w.heap.size+1+1+1) (ogs (ds.take k)) k/\
  wr.heap[w.heap.size+1+1+1+1]?=some (.cells #[.slice a ds.length cap,.map (some (w.heap.size+1+1)),.map (some (w.heap.size+1+1+1))] 97)/\
  wr.heap[w.heap.size+1]?=some (.cells #[.slice none 0 0,.map none,.map none] 97)/\Fr No w wr) (fun i _=>ds.length-(intOf i).toNat)
 case atStart=>
  have s1:(w.alloc (.cells #[.slice a ds.length cap] 28)).heap.size=w.heap.size+1:=by simp
  have s2:((w.alloc (.cells #[.slice a ds.length cap] 28)).alloc (.cells #[.slice none 0 0,.map none,.map none] 97)).heap.size=w.heap.size+1+1:=by simp
  have s3:(((w.alloc (.cells #[.slice a ds.length cap] 28)).alloc (.cells #[.slice none 0 0,.map none,.map none] 97)).alloc (.map #[] 0)).heap.size=w.heap.size+1+1+1:=by simp
  have s4:((((w.alloc (.cells #[.slice a ds.length cap] 28)).alloc (.cells #[.slice none 0 0,.map none,.map none] 97)).alloc (.map #[] 0)).alloc (.map #[] 0)).heap.size=w.heap.size+1+1+1+1:=by simp
  refine⟨0,by omega,rfl,?_,?_,?_,?_,?_⟩
  ·have h:=IMap.made ((w.alloc (.cells #[.slice a ds.length cap] 28)).alloc (.cells #[.slice none 0 0,.map none,.map none] 97));rw[s2]at h;exact(h.fr ((Fr.refl No _).alloc (.map #[] 0)) id).fr ((Fr.refl No _).alloc (.cells #[.slice a ds.length cap,.map (some (w.heap.size+1+1)),.map (some (w.heap.size+1+1+1))] 97)) id
  ·have h:=SMap.made (((w.alloc (.cells #[.slice a ds.length cap] 28)).alloc (.cells #[.slice none 0 0,.map none,.map none] 97)).alloc (.map #[] 0));rw[s3]at h;exact h.fr ((Fr.refl No _).alloc (.cells #[.slice a ds.length cap,.map (some (w.heap.size+1+1)),.map (some (w.heap.size+1+1+1))] 97)) id
  ·have h:=zD ((((w.alloc (.cells #[.slice a ds.length cap] 28)).alloc (.cells #[.slice none 0 0,.map none,.map none] 97)).alloc (.map #[] 0)).alloc (.map #[] 0)) (.cells #[.slice a ds.length cap,.map (some (w.heap.size+1+1)),.map (some (w.heap.size+1+1+1))] 97);rw[s4]at h;exact h
  ·have h:=zD (w.alloc (.cells #[.slice a ds.length cap] 28)) (.cells #[.slice none 0 0,.map none,.map none] 97);rw[s1]at h;exact((((Fr.refl No _).alloc (.map #[] 0)).alloc (.map #[] 0)).alloc (.cells #[.slice a ds.length cap,.map (some (w.heap.size+1+1)),.map (some (w.heap.size+1+1+1))] 97)).heap h id
  ·repeat (first | exact Fr.refl _ _ | refine Fr.alloc ?_ _)
 case round=>
  obtain⟨k,hk,rfl,hI,hS,h3,h2,hfr⟩:=hrel;have v0:wr.cell? ⟨w.heap.size+1+1+1+1,0,none⟩=some (.slice a ds.length cap):=by simp[World.cell?,h3]
  have v1:wr.cell? ⟨w.heap.size+1+1+1+1,1,none⟩=some (.map (some (w.heap.size+1+1))):=by simp[World.cell?,h3]
  have v2:wr.cell? ⟨w.heap.size+1+1+1+1,2,none⟩=some (.map (some (w.heap.size+1+1+1))):=by simp[World.cell?,h3]
  have r0:wr.cell? ⟨w.heap.size+1,0,none⟩=some (.slice none 0 0):=by simp[World.cell?,h2]
  have r1:wr.cell? ⟨w.heap.size+1,1,none⟩=some (.map none):=by simp[World.cell?,h2]
  have r2:wr.cell? ⟨w.heap.size+1,2,none⟩=some (.map none):=by simp[World.cell?,h2]
  obtain⟨q0,q1,q2⟩:=fl3 h2;by_cases hlt:k<ds.length
  ·have hlt':(k:Int)<ds.length:=by omega
   obtain⟨bb,off,d,rfl,hd,c0,c1,c2,c3,c4,c5,c6,c7,c8,c9⟩:=(hl.no hfr (fun _=>id)).dev hlt;have Hd:=Lib.hid hd;have hpw:=Hok.out.pwf (List.mem_of_getElem? hd);have hiw:=Hok.out.iwf (List.mem_of_getElem? hd);have hs1:=zBS Hok.out.sz k d.parent;have hs2:=Hok.out.sz d (List.mem_of_getElem? hd);have hn':=Hn.out;clear hd;have hSa:=hS.fr ((Fr.refl No _).alloc (.cells #[.int .i64 d.index,.int .i64 d.parent,.string d.name,.string d.orig,.string d.sub,.string d.drv,.string d.ali,.int .i64 d.kind,.int .i64 d.num,.slice d.aa d.an d.ac] 34)) id;have hA:Fr No wr (wr.alloc (.cells #[.int .i64 d.index,.int .i64 d.parent,.string d.name,.string d.orig,.string d.sub,.string d.drv,.string d.ali,.int .i64 d.kind,.int .i64 d.num,.slice d.aa d.an d.ac] 34)):=(Fr.refl No _).alloc _;have v1a:=hA.cell v1 id;have v2a:=hA.cell v2 id;have hfa:=Lib.hid (hfr.step hA (fun _ _ h=>h));have h3a:=Lib.hid (hA.heap h3 id);have h2a:=Lib.hid (hA.heap h2 id);have hIa:=hI.fr hA id;have hnb:(Tryz.prog.info? 34).isSome=true:=by kernel_rfl
   clear hA hnb
   go_wp2_with (at_lookup;refine zEp rfl _ _ 95 rfl rfl (w.heap.size+1+1+1) _ k d.parent hpw rfl hSa rfl ?_)
   refine zR (Two2 (w.heap.size+1+1) (w.heap.size+1+1+1)) [(0,false),(1,false),(2,false),(3,false),(4,false),(5,false),(6,false),(7,false),(8,false),(9,false),(10,true),(11,true)] (by kernel_rfl) (by kernel_rfl) (fun w0 hf0=>?_);have hI0:=hIa.fr hf0 id;have hS0:=hSa.fr hf0 id;have hfr0:=hfa.out.step hf0 (fun _ _ h=>h);have hsz0:w.heap.size+1+1+1+1<wr.heap.size:=zE h3;have d1:∀ g:Gr (Two2 (w.heap.size+1+1) (w.heap.size+1+1+1)) w0,g.W.cell? ⟨w.heap.size+1+1+1+1,1,none⟩=some (.map (some (w.heap.size+1+1))):=fun g=>g.fr.cell (hf0.cell v1a id) (fun h=>by unfold Two2 at h;dsimp only at h;omega)
   have d2:∀ g:Gr (Two2 (w.heap.size+1+1) (w.heap.size+1+1+1)) w0,g.W.cell? ⟨w.heap.size+1+1+1+1,2,none⟩=some (.map (some (w.heap.size+1+1+1))):=fun g=>g.fr.cell (hf0.cell v2a id) (fun h=>by unfold Two2 at h;dsimp only at h;omega)
   have d5:∀ g:Gr (Two2 (w.heap.size+1+1) (w.heap.size+1+1+1)) w0,g.W.cell? ⟨wr.heap.size,0,none⟩=some (.int .i64 d.index):=fun g=>g.fr.cell (hf0.cell (by rw[zB (zD _ _)];rfl) id) (fun h=>by unfold Two2 at h;dsimp only at h;omega)
   have h3b:=Lib.hid (hf0.heap h3a.out id);have h2b:=Lib.hid (hf0.heap h2a.out id);obtain⟨DI,nI,hnI,hoI,hI1,hI2⟩:=hI0;obtain⟨DS,nS,hnS,hoS,hS1,hS2⟩:=hS0;have HI1:=Lib.hid hI1;have HI2:=Lib.hid hI2;have HS1:=Lib.hid hS1;have HS2:=Lib.hid hS2;have hkey:=keyOf_int_mk Tryz.underlying3 hiw;have Hfr0:=Lib.hid hfr0;clear hI1 hI2 hS1 hS2 v0 v1 v2 r0 r1 r2 q0 q1 q2 h3 h2 v1a v2a hIa hSa hI hS hfr hfr0 c0 c1 c2 c3 c4 c5 c6 c7 c8 c9
   repeat (apply zT;exact rfl;exact rfl;exact rfl;intro K hK;go_big_quiet_op;go_big_quiet_on)
   apply zi;exact rfl
   go_wp2_with (at_mapUpdate;refine wpList_mapUpdate_own _ rfl _ _ _ 94 rfl 3 3 lawI Tryz.underlying94 _ (w.heap.size+1+1) nI DI rfl hoI (by unfold maxLen;omega) _ _ _ rfl rfl hkey _ [] (plainElem_int Tryz.underlying3 (WalkArith.wf_i64 (by omega))) ?_;intro w1 ho1 hg1)
   refine OnlyN.mk ⟨(Fr.of_grown_some hg1).mono (fun _ _ h=>.inl h),?_⟩;apply zi;exact rfl
   go_wp2_with (at_mapUpdate;refine wpList_mapUpdate_own _ rfl _ _ _ 95 rfl 3 9 lawI Tryz.underlying95 _ (w.heap.size+1+1+1) nS DS rfl (hoS.kept hg1 (fun e=>by have:=Option.some.inj e;omega)) (by unfold maxLen;omega) _ _ _ rfl rfl hkey _ [] (plainElem_string Tryz.underlying9 (by simp only[ByteArray.size_append];unfold maxLen;have:(⟨#[47]⟩:ByteArray).size=1:=rfl;omega)) ?_;intro w2 ho2 hg2)
   refine OnlyN.mk ⟨(Fr.of_grown_some hg2).mono (fun _ _ h=>.inr h),?_⟩;refine zb ?_;have hIn:=(IMap.put hnI hoI HI1.out HI2.out d.index k ho1).fr (Fr.of_grown_some hg2) (fun h=>by unfold Is at h;omega);have hSn:=SMap.put hnS hoS HS1.out HS2.out d.index _ ho2;have hF1:=Lib.hid (Fr.of_grown_some hg1);have hF2:=Lib.hid (Fr.of_grown_some hg2)
   go_wp2_with fail
   go_roundw
   case rel=>
    refine⟨k+1,by omega,by go_num,?_,?_,hF2.out.heap (hF1.out.heap h3b.out (by unfold Is;omega)) (by unfold Is;omega),hF2.out.heap (hF1.out.heap h2b.out (by unfold Is;omega)) (by unfold Is;omega),
     (Hfr0.out.step hF1.out (fun b hb h=>by unfold Is at h;omega)).step hF2.out (fun b hb h=>by unfold Is at h;omega)⟩
    ·rw[zHK Hok.out Hd.out];exact hIn
    ·have e:ds.take (k+1)=ds.take k++[d]:=by rw[List.take_add_one,Hd.out];rfl
     rw[e,zDv];exact hSn
   case measure=>simp[intOf];omega
  ·obtain rfl:k=ds.length:=by omega
   clear hlt;rw[List.take_of_length_le (Nat.le_refl _)]at hS;have HI:=Lib.hid hI;have HS:=Lib.hid hS;clear hI hS
   go_wp2_with fail
   refine bodyPost_ret (v:=.agg #[.slice a ds.length cap,.map (some (w.heap.size+1+1)),.map (some (w.heap.size+1+1+1))]) (by simp[results,Tryz.results48,go_sem,r0,r1,r2]) rfl ?_;have hF:Fr (Is (w.heap.size+1)) wr (((wr.setCell ⟨w.heap.size+1,0,none⟩ (.slice a ds.length cap)).setCell ⟨w.heap.size+1,1,none⟩ (.map (some (w.heap.size+1+1)))).setCell ⟨w.heap.size+1,2,none⟩ (.map (some (w.heap.size+1+1+1)))):=(((Fr.refl _ _).setAt _).setAt _).setAt _;exact⟨⟨_,_,rfl,by omega,by omega,by omega,HI.out.fr hF (by unfold Is;omega),HS.out.fr hF (by unfold Is;omega)⟩,hfr.step hF (fun b hb h=>by unfold Is at h;omega)⟩
end Go.Proofs.YtmajgldaplkpiaaGreatDoor
