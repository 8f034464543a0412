import Derived.Test.YtmajgldaplkpiaaGreatDoorQ20
import Derived.Test.YtmajgldaplkpiaaGreatDoorShelf4
namespace Go.Proofs.YtmajgldaplkpiaaGreatDoor
open Go.RowKit Go.Maps Go.Sort Go.Shelf
set_option linter.unusedVariables false
set_option maxRecDepth 100000
set_option maxHeartbeats 8000000
theorem zGy (M:List Vir)(p:ByteArray×ByteArray):∃ v:Vir,(wantG M p).getD zB6=.agg #[.string v.q,.string v.o,.string v.c,.int .i64 v.r]:=by
 unfold wantG;cases hq:M.find? (fun v=>decide ((v.q,v.o)=p))with
 | none=>exact⟨⟨⟨#[]⟩,⟨#[]⟩,⟨#[]⟩,0⟩,rfl⟩
 | some v=>exact⟨v,rfl⟩
theorem zAv (c:RC)(sa:Option Addr)(sc:Nat)(ma:Option Addr)(mc:Nat)(S:List Src)(M:List Vir)(G:List (ByteArray×ByteArray))(va:Option Addr)(vc:Nat)(V:List Vir)(w:World)(h:RS c w sa sc ma mc S M G)(hv:Virs w va vc V)
  (hne:∀ ad,va=some ad->V≠[]->ad.block≠c.xb/\ad.block≠c.wm/\¬ (Value.slice ma M.length mc).ownBlock=some ad.block) (hsz:∀ v∈V,v.q.size<=maxLen/\v.o.size<=maxLen) (hM:M.length+V.length<=100000):
  Calls Tryz.prog 148 #[.pointer (some ⟨c.xb,0,none⟩),.slice va V.length vc] w fun e w'=>e=.returned (.tuple #[])/\
   (∃ ma' mc',RS c w' sa sc ma' mc' S (zj M V) G/\(∀ b,(Value.slice ma' (zj M V).length mc').ownBlock=some b->(Value.slice ma M.length mc).ownBlock=some b\/w.heap.size<=b))/\Fr (fun b=>b=c.xb\/b=c.wm\/(Value.slice ma M.length mc).ownBlock=some b) w w':=by
 obtain⟨i0,hi0,hz0,hz1,hz2⟩:=info_parts infoV;have hvm:=hv.lenmax;have hvn:V.length<=100000:=by omega
 have Hh:=Lib.hid h;have Hsz:=Lib.hid hsz;have hxl:=zE h.k;have HXL:=Lib.hid hxl;clear h hsz hxl
 go_enter Tryz.func148,Tryz.ntmps148
 go_wp2_with fail
 go_loopw [11] (fun x wr=>∃ (j:Nat) (Mj:List Vir) (ma':Option Addr) (mc':Nat),j<=V.length/\x=.int .i64 (j:Int)/\Hid (Mj=zj M (V.take j))/\RS c wr sa sc ma' mc' S Mj G/\(∀ b,(Value.slice ma' Mj.length mc').ownBlock=some b->(Value.slice ma M.length mc).ownBlock=some b\/w.heap.size<=b)/\Fr (fun b=>b=c.xb\/b=c.wm\/(Value.slice ma M.length mc).ownBlock=some b) w wr) (fun x _=>V.length-(intOf x).toNat)
 case atStart=>exact⟨0,M,ma,mc,by omega,rfl,rfl,Hh.out,fun b h=>.inl h,Fr.refl _ _⟩
 case round=>
  obtain⟨j,Mj,ma',mc',hj,rfl,HMj,hR,hown,hf⟩:=hrel;by_cases hlt:j<V.length
  ·have hlt':(j:Int)<V.length:=by omega
   obtain⟨vb,voff,m,rfl,hm,⟨c0,c1,c2,c3⟩,hvb⟩:=(hv.fr hf (fun ad e hn hs=>by
    obtain⟨h1,h2,h3⟩:=hne ad e hn;rcases hs with hs | hs | hs
    ·exact h1 hs
    ·exact h2 hs
    ·exact h3 hs)).elem hlt
   have hsm:=Hsz.out m (List.mem_of_getElem? hm);have HN:Hid (zn Mj m=zj M (V.take (j+1))):=by
    unfold Hid;rw[List.take_add_one,hm,HMj.out];exact(zEF _ _ _).symm
   have hMl:Mj.length<=100000:=by
    have h1:=zAY (V.take j) M;rw[<-HMj.out,List.length_take]at h1;omega
   obtain⟨W1,hW1⟩:∃ W1,W1=(wr.alloc (.cells m.vals 79)).alloc (.cells #[.string m.q,.string m.o] 132):=⟨_,rfl⟩
   have hx1:Fr No wr W1:=by rw[hW1];exact((Fr.refl _ _).alloc _).alloc _
   have d1:W1.heap[wr.heap.size]?=some (.cells m.vals 79):=by rw[hW1];exact((Fr.refl No _).alloc _).heap (zD _ _) id
   have p1:W1.heap[wr.heap.size+1]?=some (.cells #[.string m.q,.string m.o] 132):=by
    rw[hW1];have:=zD (wr.alloc (.cells m.vals 79)) (.cells #[.string m.q,.string m.o] 132)
    rwa [World.size_alloc]at this
   have s1:W1.heap.size=wr.heap.size+2:=by rw[hW1];simp
   have hR1:=hR.no hx1;have HR1:=Lib.hid hR1;have Hown:=Lib.hid hown;have Hf:=Lib.hid (hf.step hx1 (fun _ _ h=>h.elim));have hxb:=zE hR.k;have hwm:=hR.wmo.lt;have hnm:∀ b,(Value.slice ma' Mj.length mc').ownBlock=some b->b<wr.heap.size:=fun b hb=>zU hR.mo hb
   unfold Vir.vals at hW1;clear hm hR hown hf
   go_upto_region 4 with(fail)
   rw[<-hW1];clear hW1 c0 c1 c2 c3;obtain⟨y,hy⟩:=zGy Mj (m.q,m.o);have his:=zGG Mj m.q m.o;refine zR (From W1.heap.size) [(0,false),(1,false),(2,false),(3,false),(4,false),(5,false),(6,false),(7,false),(8,false),(9,true),(10,true),(11,false)] (by kernel_rfl) (by kernel_rfl) (fun w0 hf0=>?_);have k0:=hf0.heap hR1.k id;have q0:=hR1.wmo.fr hf0 id;have dd0:=hf0.heap d1 id;have pp0:=hf0.heap p1 id;have d6:∀ g:Gr (From W1.heap.size) w0,g.W.cell? ⟨c.xb,6,none⟩=some (.map (some c.wm)):=fun g=>zB (g.fr.heap k0 (by unfold From;omega)) 6
   have g0:∀ g:Gr (From W1.heap.size) w0,g.W.cell? ⟨wr.heap.size+1,0,none⟩=some (.string m.q):=fun g=>zB (g.fr.heap pp0 (by unfold From;omega)) 0
   have g1:∀ g:Gr (From W1.heap.size) w0,g.W.cell? ⟨wr.heap.size+1,1,none⟩=some (.string m.o):=fun g=>zB (g.fr.heap pp0 (by unfold From;omega)) 1
   have hlk:∀ W,(∃ g:Gr (From W1.heap.size) w0,W=g.W)->(Instr.lookup 120 (.map (some c.wm)) (.agg #[.string m.q,.string m.o]) true).run Tryz.prog W=.ok (.tuple #[.agg #[.string y.q,.string y.o,.string y.c,.int .i64 y.r],.bool (inW Mj m.q m.o)]) W:=fun W hW=>by
    obtain⟨g,rfl⟩:=hW;have:=(q0.fr g.fr (by unfold From;omega)).lookok (zCX g.W) Tryz.underlying120 hsm.1 hsm.2;rw[this,hy,his]
   clear hy his;have hs0:=hf0.size;clear k0 q0 dd0 pp0;apply zT;exact rfl;exact rfl;exact rfl;intro K hK;go_big_quiet_op;go_big_quiet_on;apply zT;exact rfl;exact rfl;exact rfl;intro K hK;go_big_quiet_op;go_big_quiet_on;apply zT;exact rfl;exact rfl;exact rfl;intro K hK;go_big_quiet_op;go_big_quiet_on;apply zT;exact rfl;exact rfl;exact rfl;intro K hK;go_big_quiet_op;go_big_quiet_on;apply zT;exact rfl;exact rfl;exact rfl;intro K hK;go_big_quiet_op;go_big_quiet_on;apply zT;exact rfl;exact rfl;exact rfl;intro K hK;refine zAP rfl _ _ 120 rfl (.map (some c.wm)) (.agg #[.string m.q,.string m.o]) _ rfl rfl hlk ?_
   go_frame
   go_big_quiet_on;clear hlk;apply zT;exact rfl;exact rfl;exact rfl;intro K hK;go_big_quiet_op;go_big_quiet_on;apply zT;exact rfl;exact rfl;exact rfl;intro K hK;go_big_quiet_op;go_big_quiet_on;apply zT;exact rfl;exact rfl;exact rfl;intro K hK;go_big_quiet_op;go_big_quiet_on;apply zi;exact rfl;obtain⟨W3,hW3⟩:∃ W3,W3=w0.alloc (.cells #[.string ⟨#[]⟩,.string ⟨#[]⟩,.string ⟨#[]⟩,.int .i64 0] 79):=⟨_,rfl⟩
   have hx3:Fr No w0 W3:=by rw[hW3];exact(Fr.refl _ _).alloc _
   have q3:W3.heap[w0.heap.size]?=some (.cells #[.string ⟨#[]⟩,.string ⟨#[]⟩,.string ⟨#[]⟩,.int .i64 0] 79):=by rw[hW3];exact zD _ _
   clear d6 g0 g1
   go_wp2_with fail
   refine OnlyN.mk ⟨((Fr.refl No _).alloc _).mono (fun _ _ h=>h.elim),?_⟩;rw[<-hW3];clear hW3;apply zi;exact rfl;obtain⟨z0,z1,z2,z3⟩:=cl4 q3;obtain⟨f0,f1,f2,f3⟩:=fl4 q3;have h4:=Lib.hid (set4 q3 rfl (.string y.q) (.string y.o) (.string y.c) (.int .i64 y.r));clear q3
   go_wp2_with fail
   refine OnlyN.mk ⟨h4.out.2.mono (fun b _ h=>by unfold Is at h;unfold From;omega),?_⟩;apply zT;exact rfl;exact rfl;exact rfl;intro K hK;go_big_quiet_op;go_big_quiet_on;refine zb ?_;have HX4:=Lib.hid ((hf0.step hx3 (fun _ _ h=>h)).step h4.out.2 (T:=Is w0.heap.size) (fun b hb h=>by unfold Is at h;omega));clear hx3 h4 hf0 z0 z1 z2 z3 f0 f1 f2 f3;generalize ((((W3.setCell ⟨w0.heap.size,0,none⟩ (.string y.q)).setCell ⟨w0.heap.size,1,none⟩ (.string y.o)).setCell ⟨w0.heap.size,2,none⟩ (.string y.c)).setCell ⟨w0.heap.size,3,none⟩ (.int .i64 y.r))=w5 at *;have R5:=Lib.hid (HR1.out.no HX4.out);have d5:=HX4.out.heap d1 id;have p5:=HX4.out.heap p1 id;have Hf5:=Lib.hid (Hf.out.step HX4.out (fun _ _ h=>h.elim));have s5:=HX4.out.size;clear d1 p1 hR1 HR1 HX4 hs0;rcases hin:inW Mj m.q m.o with _ | _
   ·have HNN:Hid (Mj++[m]=zj M (V.take (j+1))):=by unfold Hid;rw[<-HN.out];unfold zn;rw[if_neg (by rw[hin];decide)]
    have Hin:=Lib.hid hin;clear hin;have hR5:=R5.out
    go_upto_region 6 with(fail)
    refine zR (Is c.wm) [(0,false),(1,false),(2,false),(3,false),(4,false),(5,false),(6,true)] (by kernel_rfl) (by kernel_rfl) (fun w6 hf6=>?_);have hR6:=hR5.no hf6;have d6:=hf6.heap d5 id;have p6:=hf6.heap p5 id;have Hf6:=Lib.hid (Hf5.out.step hf6 (fun _ _ h=>h.elim));have s6:=hf6.size;have m6:∀ g:Gr (Is c.wm) w6,g.W.cell? ⟨c.xb,6,none⟩=some (.map (some c.wm)):=fun g=>zB (g.fr.heap hR6.k (fun h=>hR6.wmo.ne_cells hR6.k h)) 6
    have g0:∀ g:Gr (Is c.wm) w6,g.W.cell? ⟨wr.heap.size+1,0,none⟩=some (.string m.q):=fun g=>zB (g.fr.heap p6 (fun h=>hR6.wmo.ne_cells p6 h)) 0
    have g1:∀ g:Gr (Is c.wm) w6,g.W.cell? ⟨wr.heap.size+1,1,none⟩=some (.string m.o):=fun g=>zB (g.fr.heap p6 (fun h=>hR6.wmo.ne_cells p6 h)) 1
    have e0:∀ g:Gr (Is c.wm) w6,g.W.cell? ⟨wr.heap.size,0,none⟩=some (.string m.q):=fun g=>zB (g.fr.heap d6 (fun h=>hR6.wmo.ne_cells d6 h)) 0
    have e1:∀ g:Gr (Is c.wm) w6,g.W.cell? ⟨wr.heap.size,1,none⟩=some (.string m.o):=fun g=>zB (g.fr.heap d6 (fun h=>hR6.wmo.ne_cells d6 h)) 1
    have e2:∀ g:Gr (Is c.wm) w6,g.W.cell? ⟨wr.heap.size,2,none⟩=some (.string m.c):=fun g=>zB (g.fr.heap d6 (fun h=>hR6.wmo.ne_cells d6 h)) 2
    have e3:∀ g:Gr (Is c.wm) w6,g.W.cell? ⟨wr.heap.size,3,none⟩=some (.int .i64 m.r):=fun g=>zB (g.fr.heap d6 (fun h=>hR6.wmo.ne_cells d6 h)) 3
    apply zT;exact rfl;exact rfl;exact rfl;intro K hK;go_big_quiet_op;go_big_quiet_on;apply zT;exact rfl;exact rfl;exact rfl;intro K hK;go_big_quiet_op;go_big_quiet_on;apply zT;exact rfl;exact rfl;exact rfl;intro K hK;go_big_quiet_op;go_big_quiet_on;apply zT;exact rfl;exact rfl;exact rfl;intro K hK;go_big_quiet_op;go_big_quiet_on;apply zT;exact rfl;exact rfl;exact rfl;intro K hK;go_big_quiet_op;go_big_quiet_on;apply zT;exact rfl;exact rfl;exact rfl;intro K hK;go_big_quiet_op;go_big_quiet_on;clear m6 g0 g1 e0 e1 e2 e3;apply zi;exact rfl
    go_wp2_with (at_mapUpdate;refine zCZ rfl _ _ _ 120 79 rfl Tryz.underlying120 c.wm _ Mj.length (by unfold maxLen;omega) m.q m.o hsm.1 hsm.2 (.agg #[.string m.q,.string m.o,.string m.c,.int .i64 m.r]) rfl hR6.wmo rfl rfl ?_;intro w7 hQ7 hF7)
    refine OnlyN.mk ⟨hF7,?_⟩;refine zb ?_;have k7:=hF7.heap hR6.k (fun h=>hR6.wmo.ne_cells hR6.k h);have own7:=zJ hR6.mo hF7 (fun b hb h=>by unfold Is at h;subst h;exact hR6.wmo.ne_own hR6.mo hb);have d8:=hF7.heap d6 (fun h=>hR6.wmo.ne_cells d6 h);have s7:=hF7.size;have hnd:¬ (Value.slice ma' Mj.length mc').ownBlock=some wr.heap.size:=fun h=>by have:=hnm _ h;omega
    have hb07:c.b0<=w7.heap.size:=by have:=hR6.lo.1;omega
    have HRest:Hid (∀ W3:World,Fr (fun b=>b=c.xb\/(Value.slice ma' Mj.length mc').ownBlock=some b) w7 W3->∀ (X:World) (av:Option Addr) (cv:Nat),X.heap[c.xb]?=some (.cells (rcs c.ka c.kn c.kc c.wt c.a c.n c.cap c.ca c.C.length c.cc c.ea c.en c.ec sa S.length sc c.wm c.sm av (Mj.length+1) cv) 123)->
      X.ownsRow c.b0 79 4 (.slice av (Mj.length+1) cv) (Mj.length+1) (vflat Mj++(Vir.vals m).toList)->((Value.slice av (Mj.length+1) cv).ownBlock=(Value.slice ma' Mj.length mc').ownBlock\/(Value.slice av (Mj.length+1) cv).ownBlock=some (W3.alloc (.cells (Vir.vals m) 79)).heap.size)->
      Fr (fun b=>b=c.xb\/(Value.slice ma' Mj.length mc').ownBlock=some b) W3 X->RS c X sa sc av cv S (Mj++[m]) G/\(∀ b,(Value.slice av (Mj++[m]).length cv).ownBlock=some b->(Value.slice ma M.length mc).ownBlock=some b\/w.heap.size<=b)/\Fr (fun b=>b=c.xb\/b=c.wm\/(Value.slice ma M.length mc).ownBlock=some b) w X):=by
     unfold Hid;intro W3 h3 X av cv hk hx hat hfx;have h7:=h3.step hfx (fun _ _ h=>h);refine⟨hR6.grow hF7 hQ7 Hin.out h7 hk hx,fun b hb=>?_,?_⟩
     ·rw[zIh av _ (Mj.length+1) cv cv]at hb;rcases hat with hat | hat
      ·rw[hat]at hb;exact Hown.out b hb
      ·rw[hat]at hb;injection hb with hb
       have h1:=h3.size;have h2:=Hf6.out.size;rw[World.size_alloc]at hb;exact .inr (by omega)
     ·exact(Hf6.out.step hF7 (fun b hb h=>.inr (.inl h))).step h7 (fun b hb h=>by
       rcases h with h | h
       ·exact .inl h
       ·rcases Hown.out b h with h | h
        ·exact .inr (.inr h)
        ·omega)
    clear hQ7 hF7 hR6 hR5 hf6 d6 p6 d5 p5
    go_upto_region 7 with(fail)
    refine zY (fun b=>b=c.xb\/(Value.slice ma' Mj.length mc').ownBlock=some b\/w7.heap.size<=b) (.q 0 (.q 1 (.q 2 (.q 3 (.q 5 (.m2 4 (.m1 6 (.m1 7 (.q 8 (.q 9 (.m1 10 .fin))))) 6 (.m1 4 (.m1 7 (.q 8 (.q 9 (.m1 10 .fin))))))))))) _ (by kernel_rfl) (by kernel_rfl) (fun W3 hf3=>?_) (fun _ _ h=>h);have hk3:=hf3.heap k7 id;have hown3:=zJ own7 hf3 (fun _ _=>id);have hnk3:=zf hown3 hk3 (by decide);have d3:=hf3.heap d8 id;have s3:=hf3.size;have cB:∀ g:Gr (fun b=>b=c.xb\/(Value.slice ma' Mj.length mc').ownBlock=some b\/w7.heap.size<=b) W3,g.W.heap[wr.heap.size]?=some (.cells (Vir.vals m) 79):=fun g=>g.fr.heap d3 (fun h=>by
     rcases h with h | h | h
     ·omega
     ·exact hnd h
     ·omega)
    have e0:∀ g:Gr (fun b=>b=c.xb\/(Value.slice ma' Mj.length mc').ownBlock=some b\/w7.heap.size<=b) W3,g.W.cell? ⟨wr.heap.size,0,none⟩=some (.string m.q):=fun g=>zB (cB g) 0
    have e1:∀ g:Gr (fun b=>b=c.xb\/(Value.slice ma' Mj.length mc').ownBlock=some b\/w7.heap.size<=b) W3,g.W.cell? ⟨wr.heap.size,1,none⟩=some (.string m.o):=fun g=>zB (cB g) 1
    have e2:∀ g:Gr (fun b=>b=c.xb\/(Value.slice ma' Mj.length mc').ownBlock=some b\/w7.heap.size<=b) W3,g.W.cell? ⟨wr.heap.size,2,none⟩=some (.string m.c):=fun g=>zB (cB g) 2
    have e3:∀ g:Gr (fun b=>b=c.xb\/(Value.slice ma' Mj.length mc').ownBlock=some b\/w7.heap.size<=b) W3,g.W.cell? ⟨wr.heap.size,3,none⟩=some (.int .i64 m.r):=fun g=>zB (cB g) 3
    clear cB d3
    repeat (first | (apply zM;exact rfl;exact rfl;exact rfl;intro K hK;go_big_quiet_op;go_big_quiet_on) | (apply zO;exact rfl;exact rfl;exact rfl;intro K hK;go_big_quiet_op;go_big_quiet_on))
    clear e0 e1 e2 e3;have c3:W3.cell? ⟨c.xb,8,none⟩=some (.slice ma' Mj.length mc'):=zB hk3 8;refine zh rfl rfl ?_ ?_
    focus
     go_wp2_with fail
     refine OnlyN.mk ⟨Fr.refl _ _,?_⟩;apply zH;exact rfl
     go_wp2_with fail
     refine OnlyN.mk ⟨((Fr.refl No _).alloc _).mono (fun _ _ h=>h.elim),?_⟩;clear c3
    rotate_left 1
    focus
     go_wp2_with fail
     refine OnlyN.mk ⟨((Fr.refl No _).alloc _).mono (fun _ _ h=>h.elim),?_⟩;apply zH;exact rfl;have c7:∀ o,(W3.alloc o).cell? ⟨c.xb,8,none⟩=some (.slice ma' Mj.length mc'):=fun o=>((Fr.refl No W3).alloc o).cell c3 id
     clear c3
     go_wp2_with fail
     refine OnlyN.mk ⟨Fr.refl _ _,?_⟩;clear c7
    all_goals (
     apply zH;exact rfl
     go_wp2_with (at_builtin;refine wpList_append_own_at _ rfl _ _ 71 rfl c.b0 79 i0 (.agg #[.string ByteArray.empty,.string ByteArray.empty,.string ByteArray.empty,.int .i64 0]) 4 56 Tryz.underlying71 hi0 hz0 hz1 hz2 rfl (by decide) _ _ _ rfl (hown3.alloc _) ⟨W3.heap.size,0,none⟩ 1 1 (Vir.vals m).toList rfl rfl (zX _ (Vir.vals m) _ rfl) (zBg _) (by unfold maxLen;omega) (by omega) (by first | omega | (simp;done) | (simp;omega)) ?_;intro v' w4 hown4 hgrow4 _ hat4;obtain⟨av',cv',rfl⟩:=zG hown4)
     have hal:Fr No W3 (W3.alloc (.cells (Vir.vals m) 79)):=(Fr.refl _ _).alloc _;have hg4:Fr (fun b=>(Value.slice ma' Mj.length mc').ownBlock=some b) (W3.alloc (.cells (Vir.vals m) 79)) w4:=Fr.of_grown hgrow4;have k4:=hg4.heap (hal.heap hk3 id) (fun e=>hnk3 e);have c3:w4.cell? ⟨c.xb,8,none⟩=some (.slice ma' Mj.length mc'):=zB k4 8;have f3:w4.frozen? ⟨c.xb,8,none⟩=false:=zC k4 8;have hnk4:=zf hown4 k4 (by decide);refine OnlyN.mk ⟨hg4.mono (fun b _ h=>.inr (.inl h)),?_⟩
     repeat (first | (apply zM;exact rfl;exact rfl;exact rfl;intro K hK;go_big_quiet_op;go_big_quiet_on) | (apply zO;exact rfl;exact rfl;exact rfl;intro K hK;go_big_quiet_op;go_big_quiet_on))
     apply zH;exact rfl;have f5:Fr (Is (c.xb)) w4 (w4.setCell ⟨c.xb,8,none⟩ (.slice av' (Mj.length+1) cv')):=Fr.setAt (Fr.refl _ _) _;have k5:((w4.setCell ⟨c.xb,8,none⟩ (.slice av' (Mj.length+1) cv'))).heap[c.xb]?=some (.cells (rcs c.ka c.kn c.kc c.wt c.a c.n c.cap c.ca c.C.length c.cc c.ea c.en c.ec sa S.length sc c.wm c.sm av' (Mj.length+1) cv') 123):=zF k4 8 _;have hown5:=zJ hown4 f5 (fun b hb h=>by unfold Is at h;subst h;exact hnk4 hb);have hff:Fr (fun b=>b=c.xb\/(Value.slice ma' Mj.length mc').ownBlock=some b) W3 (w4.setCell ⟨c.xb,8,none⟩ (.slice av' (Mj.length+1) cv')):=((hal.mono (fun _ _ h=>h.elim)).step hg4 (fun b _ h=>.inr h)).step f5 (fun b _ h=>.inl h);have HR:=Lib.hid (And.intro k5 (And.intro hown5 hff));have HAT:=Lib.hid hat4;clear hown4 hgrow4 hg4 k4 f5 k5 hown5 hff hnk4 hal hat4
     go_wp2_with fail
     refine OnlyN.mk ⟨Fr.setCell (Fr.refl _ _) (fun _=>.inl rfl) _,?_⟩;refine zS ?_;clear hown3 hk3 hnk3;have hR2:=HRest.out _ (hf3.mono (fun _ _ h=>h.elim)) _ _ _ HR.out.1 HR.out.2.1 HAT.out HR.out.2.2;have HR2:=Lib.hid hR2;clear hR2 HRest
     go_wp2_with fail
     go_roundw
     case rel=>exact⟨j+1,Mj++[m],av',cv',by omega,by go_num,HNN,HR2.out.1,HR2.out.2.1,HR2.out.2.2⟩
     case measure=>simp[intOf];omega
     )
   ·have HN2:Hid (Mj=zj M (V.take (j+1))):=by unfold Hid;rw[<-HN.out];unfold zn;rw[if_pos hin]
    clear hin
    go_wp2_with fail
    go_roundw
    case rel=>exact⟨j+1,Mj,ma',mc',by omega,by go_num,HN2,R5.out,Hown.out,Hf5.out⟩
    case measure=>simp[intOf];omega
  ·obtain rfl:j=V.length:=by omega
   have hlt':¬ (V.length:Int)<V.length:=by omega
   have HE:Hid (Mj=zj M V):=by unfold Hid;rw[HMj.out,List.take_length]
   have hr:=HE.out;have H:=Lib.hid (And.intro hR (And.intro hown hf));clear hR hown hf
   go_wp2_with fail
   go_end0
   rw[<-HE.out];exact⟨rfl,⟨ma',mc',H.out.1,H.out.2.1⟩,H.out.2.2⟩
theorem zGQ (G:List (ByteArray×ByteArray))(p:ByteArray×ByteArray):updQ (seenG G) p (.bool true)=seenG (G++[p]):=by
 funext x
 unfold updQ seenG;rw[List.any_append];by_cases h:x=p
 ·subst h;simp
 ·rw[if_neg h];have:[p].any (fun y=>decide (y=x))=false:=by simp;exact fun e=>h (Eq.symm e)
  rw[this,Bool.or_false]
theorem RS.seen {c:RC}{w w':World}{sa:Option Addr}{sc:Nat}{ma:Option Addr}{mc:Nat}{S:List Src}{M:List Vir}{G:List (ByteArray×ByteArray)}(h:RS c w sa sc ma mc S M G)(f:Fr (Is c.sm) w w'){p:ByteArray×ByteArray}
  (hQ:QMap w' c.sm (updQ (seenG G) p (.bool true)) (G.length+1)):RS c w' sa sc ma mc S M (G++[p]):=by
 have hca:∀ ad,c.ca=some ad->¬ Is c.sm ad.block:=fun ad e hs=>by
  obtain⟨cs,hc⟩:=(h.cb ad e).2.2 ad e;exact h.smo.ne_cells hc hs
 refine⟨f.heap h.k (fun e=>h.smo.ne_cells h.k e),zJ h.so f (fun b hb e=>by unfold Is at e;subst e;exact h.smo.ne_own h.so hb),zJ h.mo f (fun b hb e=>by unfold Is at e;subst e;exact h.smo.ne_own h.mo hb),h.cs.fr f (fun ad e _=>hca ad e),fun ad e=>⟨(h.cb ad e).1,(h.cb ad e).2.1,(h.cb ad e).2.2.fr f hca⟩,h.wmo.fr f (fun e=>h.ne e),?_,h.ne,h.lo,Nat.le_trans h.b2l f.size⟩;rw[<-zGQ,List.length_append];exact hQ
theorem zJT (c:RC)(sa:Option Addr)(sc:Nat)(ma:Option Addr)(mc:Nat)(S:List Src)(M:List Vir)(G:List (ByteArray×ByteArray))(kd gi:ByteArray)(w:World)(h:RS c w sa sc ma mc S M G)(hk:kd.size<=maxLen)(hi:gi.size<=maxLen)(hG:G.length<=100000):
  Calls Tryz.prog 155 #[.pointer (some ⟨c.xb,0,none⟩),.string kd,.string gi] w fun e w'=>e=.returned (.bool (!(G.any fun x=>decide (x=(kd,gi)))))/\RS c w' sa sc ma mc S M (G++[(kd,gi)])/\Fr (Is c.sm) w w':=by
 obtain⟨W1,hW1⟩:∃ W1,W1=w.alloc (.cells #[.string kd,.string gi] 132):=⟨_,rfl⟩
 have hx1:Fr No w W1:=by rw[hW1];exact(Fr.refl _ _).alloc _
 have p1:W1.heap[w.heap.size]?=some (.cells #[.string kd,.string gi] 132):=by rw[hW1];exact zD _ _
 have hR1:=h.no hx1;have Hx1:=Lib.hid hx1;obtain⟨was,hwas⟩:∃ was,was=G.any fun x=>decide (x=(kd,gi)):=⟨_,rfl⟩
 have Hwas:Hid ((seenG G (kd,gi)).getD (.bool false)=.bool was):=by
  unfold Hid seenG;rw[hwas];cases hq:G.any fun x=>decide (x=(kd,gi))<;>simp
 rw[<-hwas];clear h hx1 hwas
 go_enter Tryz.func155,Tryz.ntmps155
 go_upto_region 2 with(fail)
 rw[<-hW1];clear hW1;refine zR No [(0,false),(1,false),(2,false),(3,false),(4,false),(5,false),(6,false)] (by kernel_rfl) (by kernel_rfl) (fun w0 hf0=>?_);have hR0:=hR1.no hf0;have p0:=hf0.heap p1 id;have d6:∀ g:Gr No w0,g.W.cell? ⟨c.xb,7,none⟩=some (.map (some c.sm)):=fun g=>zB (g.fr.heap hR0.k id) 7
 have g0:∀ g:Gr No w0,g.W.cell? ⟨w.heap.size,0,none⟩=some (.string kd):=fun g=>zB (g.fr.heap p0 id) 0
 have g1:∀ g:Gr No w0,g.W.cell? ⟨w.heap.size,1,none⟩=some (.string gi):=fun g=>zB (g.fr.heap p0 id) 1
 have hlk:∀ W,(∃ g:Gr No w0,W=g.W)->(Instr.lookup 121 (.map (some c.sm)) (.agg #[.string kd,.string gi]) false).run Tryz.prog W=.ok (.bool was) W:=fun W hW=>by
  obtain⟨g,rfl⟩:=hW;have:=(hR0.smo.fr g.fr id).look (zKa g.W) Tryz.underlying121 hk hi;rw[this,Hwas.out]
 apply zT;exact rfl;exact rfl;exact rfl;intro K hK;go_big_quiet_op;go_big_quiet_on;apply zT;exact rfl;exact rfl;exact rfl;intro K hK;go_big_quiet_op;go_big_quiet_on;apply zT;exact rfl;exact rfl;exact rfl;intro K hK;go_big_quiet_op;go_big_quiet_on;apply zT;exact rfl;exact rfl;exact rfl;intro K hK;go_big_quiet_op;go_big_quiet_on;apply zT;exact rfl;exact rfl;exact rfl;intro K hK;go_big_quiet_op;go_big_quiet_on;apply zT;exact rfl;exact rfl;exact rfl;intro K hK;refine zBQ rfl _ _ 121 rfl (.map (some c.sm)) (.agg #[.string kd,.string gi]) _ rfl rfl hlk ?_
 go_frame
 go_big_quiet_on;apply zT;exact rfl;exact rfl;exact rfl;intro K hK;go_big_quiet_op;go_big_quiet_on;refine zb ?_;have Hf0:=Lib.hid (Hx1.out.step hf0 (fun _ _ h=>h));clear hlk d6 g0 g1 p1 hR1 hf0
 go_upto_region 3 with(fail)
 refine zR (Is c.sm) [(0,false),(1,false),(2,false),(3,false),(4,false),(5,true)] (by kernel_rfl) (by kernel_rfl) (fun w6 hf6=>?_);have hR6:=hR0.no hf6;have p6:=hf6.heap p0 id;have m6:∀ g:Gr (Is c.sm) w6,g.W.cell? ⟨c.xb,7,none⟩=some (.map (some c.sm)):=fun g=>zB (g.fr.heap hR6.k (fun h=>hR6.smo.ne_cells hR6.k h)) 7
 have g0:∀ g:Gr (Is c.sm) w6,g.W.cell? ⟨w.heap.size,0,none⟩=some (.string kd):=fun g=>zB (g.fr.heap p6 (fun h=>hR6.smo.ne_cells p6 h)) 0
 have g1:∀ g:Gr (Is c.sm) w6,g.W.cell? ⟨w.heap.size,1,none⟩=some (.string gi):=fun g=>zB (g.fr.heap p6 (fun h=>hR6.smo.ne_cells p6 h)) 1
 apply zT;exact rfl;exact rfl;exact rfl;intro K hK;go_big_quiet_op;go_big_quiet_on;apply zT;exact rfl;exact rfl;exact rfl;intro K hK;go_big_quiet_op;go_big_quiet_on;apply zT;exact rfl;exact rfl;exact rfl;intro K hK;go_big_quiet_op;go_big_quiet_on;apply zT;exact rfl;exact rfl;exact rfl;intro K hK;go_big_quiet_op;go_big_quiet_on;apply zT;exact rfl;exact rfl;exact rfl;intro K hK;go_big_quiet_op;go_big_quiet_on;clear m6 g0 g1;apply zi;exact rfl
 go_wp2_with (at_mapUpdate;refine zCZ rfl _ _ _ 121 4 rfl Tryz.underlying121 c.sm _ G.length (by unfold maxLen;omega) kd gi hk hi (.bool true) rfl hR6.smo rfl rfl ?_;intro w7 hQ7 hF7)
 refine OnlyN.mk ⟨hF7,?_⟩;refine zb ?_;have HR:=Lib.hid (And.intro (hR6.seen hF7 hQ7) (((Hf0.out.step hf6 (fun _ _ h=>h)).mono (fun _ _ h=>h.elim)).step hF7 (fun _ _ h=>h)));clear hQ7 hF7 hR6 hR0 hf6 p0 p6
 go_wp2_with fail
 go_ret;exact⟨rfl,HR.out.1,HR.out.2⟩
def mdP : ByteArray:=⟨#[47,109,100,45]⟩
def exB (ds:List Dev)(gi:ByteArray):Bool:=(ds.find? (atP ds (mdP++gi))).isSome
theorem zJB (c:RC)(sa:Option Addr)(sc:Nat)(ma:Option Addr)(mc:Nat)(S:List Src)(M:List Vir)(G:List (ByteArray×ByteArray))(gi:ByteArray)(ds:List Dev)(base:Nat)(w:World)(h:RS c w sa sc ma mc S M G)(hi:gi.size<=1000000)(hl:Tr w base c.a c.cap ds)(hcn:c.n=ds.length)(hn:ds.length<=1000):
  Calls Tryz.prog 154 #[.pointer (some ⟨c.xb,0,none⟩),.string gi] w fun e w'=>e=.returned (.bool (exB ds gi))/\Fr No w w':=by
 have t2:w.cell? ⟨c.xb,2,none⟩=some (.slice c.a c.n c.cap):=zB h.k 2;rw[hcn]at t2;have hat:=zEu c.a c.cap ds base (mdP++gi) w hl hn;have hsz:((⟨#[47,109,100,45]⟩:ByteArray)++gi).size<=9223372036854775807:=by rw[ByteArray.size_append];show 4+gi.size<=_;omega
 have hz4:¬ 9223372036854775807<4+gi.size:=by omega
 have hz5:4+gi.size<=9223372036854775807:=by omega
 have Hx:Hid (exB ds gi=(ds.find? (atP ds (mdP++gi))).isSome):=rfl;generalize exB ds gi=ex at *;unfold mdP at hat;clear h hl
 go_enter Tryz.func154,Tryz.ntmps154
 go_wp2_with fail
 refine hat.mono ?_;rintro e w1 ⟨hF,hf1⟩;clear hat t2;rcases hF with⟨hlk,rfl⟩ | ⟨d,aa',ac',la,hlk,rfl,-⟩
 ·have hv:ex=false:=by rw[Hx.out];show (ds.find? (atP ds ((⟨#[47,109,100,45]⟩:ByteArray)++gi))).isSome=false;rw[hlk];rfl
  subst hv;have hxx:Fr No w (w1.alloc (.cells (Dev.vals Dev.zero) 34)):=hf1.alloc _;have Hx:=Lib.hid hxx;clear hxx hlk hf1;unfold Dev.vals Dev.zero at *
  go_wp2_with fail
  go_ret;exact⟨rfl,Hx.out⟩
 ·have hv:ex=true:=by rw[Hx.out];show (ds.find? (atP ds ((⟨#[47,109,100,45]⟩:ByteArray)++gi))).isSome=true;rw[hlk];rfl
  subst hv;have hxx:Fr No w (w1.alloc (.cells (Dev.vals { d with aa:=aa',ac:=ac' }) 34)):=hf1.alloc _;have Hx:=Lib.hid hxx;clear hxx hlk hf1;unfold Dev.vals at *
  go_wp2_with fail
  go_ret;exact⟨rfl,Hx.out⟩
theorem zLI (x y:Src)(w:World):Calls Tryz.prog 163 #[.agg x.vals,.agg y.vals] w fun e w'=>e=.returned (.int .i64 (cmpI x.at_ y.at_))/\∃ q os',w'=Go.Sort.grow (w.drewN q) os':=by
 obtain⟨W0,hW0⟩:∃ W0,W0=(w.alloc (.cells x.vals 163)).alloc (.cells y.vals 163):=⟨_,rfl⟩
 have d1:W0.heap[w.heap.size]?=some (.cells x.vals 163):=by rw[hW0];exact((Fr.refl No _).alloc _).heap (zD _ _) id
 have d2:W0.heap[w.heap.size+1]?=some (.cells y.vals 163):=by
  rw[hW0];have:=zD (w.alloc (.cells x.vals 163)) (.cells y.vals 163)
  rwa [World.size_alloc]at this
 have c1:=(SrcB0.of d1).c0;have c2:=(SrcB0.of d2).c0;have HG:Hid (∃ q os',W0=Go.Sort.grow (w.drewN q) os'):=⟨0,_,by rw[hW0,alloc_eq_grow,alloc_eq_grow,grow_grow];rfl⟩
 clear d1 d2;unfold Src.vals at hW0 ⊢
 go_enter Tryz.func163,Tryz.ntmps163
 go_upto_region 1 with(fail)
 rw[<-hW0];clear hW0
 go_wp2_with fail
 refine(zHw x.at_ y.at_ W0).mono ?_;rintro e w1 ⟨rfl,rfl⟩
 go_wp2_with fail
 go_ret;exact⟨rfl,HG.out⟩
instance : Inhabited Src:=⟨⟨0,Dev.zero,⟨#[]⟩,0⟩⟩
def encS (s:Src):List Value:=s.vals.toList
theorem ltS (x y:Src):ltOf (fun x y:Src=>cmpI x.at_ y.at_) x y=decide (x.at_<y.at_):=by
 unfold ltOf cmpI;by_cases h1:x.at_<y.at_
 ·simp[h1]
 ·by_cases h2:y.at_<x.at_<;>simp[h1,h2]
theorem swoS : SWO (ltOf fun x y:Src=>cmpI x.at_ y.at_) where
 irrefl x:=by rw[ltS];simp
 trans x y z h1 h2:=by rw[ltS]at *;simp at *;omega
 ntrans x y z h1 h2:=by rw[ltS]at *;simp at *;omega
theorem layS (blk off size:Nat)(w:World):CmpLays Tryz.prog 163 #[] encS 13 (fun x y:Src=>cmpI x.at_ y.at_) blk off size w:=
 fun _ _ _ _ x y=>zLI x y _
theorem isAggS (w:World):(isAgg 163).run Tryz.prog w=.ok true w:=by kernel_rfl
theorem sizeS (w:World):(Go.sizeOf 163).run Tryz.prog w=.ok 13 w:=by kernel_rfl
theorem egS (args:Array Value)(w:World):(callFunc 163 args).run Tryz.prog w=.ok (.enter 163 args) w:=enters_of Tryz.func163 (by kernel_rfl) rfl _ _
theorem zJq (g cap:Nat)(d:Array Src)(w:World)(hH:HoldsK encS 13 w g 0 d)(hg:g<w.heap.size)(hn:d.size<4611686018427387904):
  Calls Tryz.prog 162 #[.slice (some ⟨g,0,none⟩) d.size cap,.func (.func 163) #[] #[]] w fun e w'=>e=.returned (.tuple #[])/\∃ d' n os,PermIn 0 d.size d d'/\SortedIn (ltOf fun x y:Src=>cmpI x.at_ y.at_) 0 d.size d'/\w'=sortWorldK encS 13 w g 0 n d' os:=
 AnyQ.slices_SortFunc Tryz.sortQ 13 isAggS sizeS encS (fun _=>rfl) (fun x v hv=>zBj x v hv) (fun x y:Src=>cmpI x.at_ y.at_) swoS 163 #[] g 0 cap d w egS (layS g 0 d.size w) hH hg hn
theorem flatS (L:List Src):(flatK encS 13 L.toArray).toList=sflat L:=by
 apply List.ext_getElem?;intro t;by_cases ht:t<L.length*13
 ·have h1:t / 13<L.length:=by omega
  have h2:=zDn L (t / 13) L[t / 13] (List.getElem?_eq_getElem h1) (t % 13) (by omega);rw[show t / 13*13+t % 13=t from by omega]at h2;rw[h2,Array.getElem?_toList,Array.getElem?_eq_getElem (by simpa using ht),<-getElem!_pos _ t (by simpa using ht),get_flatK encS 13 L.toArray t (by simpa using ht)];have e1:L.toArray[t / 13]! = L[t / 13]:=by rw[getElem!_pos _ _ (by simpa using h1)];simp
  rw[e1];have h3:t % 13<(L[t / 13]).vals.size:=by show t % 13<13;omega
  rw[Array.getElem?_eq_getElem h3,getElem!_pos _ _ (by show t % 13<13;omega)];rfl
 ·rw[List.getElem?_eq_none (by simpa using Nat.le_of_not_lt ht),List.getElem?_eq_none (by rw[zEP];omega)]
theorem zIQ (a:Option Addr)(c base:Nat)(S:List Src)(w:World)(hown:w.ownsRow base 163 13 (.slice a S.length c) S.length (sflat S))(hne:S≠[])(hS:S.length<=1000):
  Calls Tryz.prog 162 #[.slice a S.length c,.func (.func 163) #[] #[]] w fun e w'=>e=.returned (.tuple #[])/\
   (∃ S':List Src,S'.Perm S/\S'.Pairwise (fun x y=>x.at_<=y.at_)/\w'.ownsRow base 163 13 (.slice a S'.length c) S'.length (sflat S'))/\Fr (fun b=>(Value.slice a S.length c).ownBlock=some b) w w':=by
 obtain⟨h0,⟨hv,h2⟩ | ⟨g,cap,cur,hv,hg,hb,h1,h2,h3,h4⟩⟩:=hown
 ·exact absurd (List.eq_nil_of_length_eq_zero h2) hne
 ·injection hv with e1 e2 e3
  subst e1;subst e3;have hcur:∀ j u,(sflat S)[j]?=some u->cur[j]?=some u:=fun j u hu=>by
   rw[<-h4]at hu;rw[<-Array.getElem?_toList];have hj:j<S.length*13:=by
    have:=(List.getElem?_eq_some_iff.1 hu).1;rw[List.length_take]at this;omega
   rwa [List.getElem?_take_of_lt hj]at hu
  have hH:HoldsK encS 13 w g 0 S.toArray:=by
   unfold HoldsK Holds;intro j hj;refine⟨?_,zC hb _⟩;rw[zB hb,Nat.zero_add];refine hcur j _ ?_;rw[<-flatS,Array.getElem?_toList,Array.getElem?_eq_getElem hj,getElem!_pos (flatK encS 13 S.toArray) j hj];rfl
  have hsz:S.toArray.size=S.length:=by simp
  have hs:=zJq g c S.toArray w hH (zE hb) (by rw[hsz];omega);rw[hsz]at hs;refine hs.mono ?_;rintro e w' ⟨rfl,d',n,os,hp,hso,rfl⟩;obtain⟨hp1,-,hp3⟩:=hp;rw[hsz]at hp1;have ex:∀ d:Array Src,d.size=S.length->(d.extract 0 S.length)=d:=fun d hd=>by rw[<-hd];simp
  rw[ex d' hp1,ex S.toArray hsz]at hp3;have hdl:d'.toList.length=S.length:=by simpa using hp1
  have hblk:(sortWorldK encS 13 w g 0 n d' os).heap[g]?=some (.cells (putCells id 0 (flatK encS 13 d') cur) 163 (0,0)):=by
   unfold sortWorldK;have hgs:g<(putRowK encS 13 (Go.Sort.ahead w n) g 0 d').heap.size:=by
    have:=zE hb
    simpa [putRowK,Go.Sort.putRow,Go.Sort.mapBlock,Go.Sort.ahead]using this
   rw[Go.Sort.heap_grow_old _ _ hgs];unfold putRowK Go.Sort.putRow Go.Sort.mapBlock;rw[Array.getElem?_modify,if_pos rfl];show (w.heap[g]?).map _=_
   rw[hb];rfl
  have hfs:(flatK encS 13 d').size=S.length*13:=by rw[size_flatK,hp1]
  refine⟨rfl,⟨d'.toList,by simpa using hp3,?_,?_⟩,?_⟩
  ·rw[List.pairwise_iff_getElem];intro i j hi hj hij;have:=hso i j (Nat.zero_le _) hij (by rw[hdl]at hj;omega);rw[ltS]at this;have hi':i<d'.size:=by simpa using hi
   have hj':j<d'.size:=by simpa using hj
   rw[getElem!_pos d' i hi',getElem!_pos d' j hj']at this;simp at this ⊢;exact this
  ·rw[hdl];refine⟨by rw[zEP,hdl],.inr ⟨g,c,_,rfl,hg,hblk,h1,h2,by simp[putCells,h3],?_⟩⟩;have ed:d'=d'.toList.toArray:=by simp
   rw[<-flatS,<-ed];apply List.ext_getElem?;intro t;by_cases ht:t<S.length*13
   ·rw[List.getElem?_take_of_lt ht,Array.getElem?_toList,Array.getElem?_toList];have hc:t<cur.size:=by rw[h3];exact Nat.lt_of_lt_of_le ht (Nat.mul_le_mul_right _ h1)
    unfold putCells;rw[Array.getElem?_mapIdx,Array.getElem?_eq_getElem hc,Array.getElem?_eq_getElem (by omega)];simp only[Option.map_some];rw[if_pos ⟨Nat.zero_le _,by omega⟩,Nat.sub_zero,getElem!_pos (flatK encS 13 d') t (by omega)];rfl
   ·rw[List.getElem?_eq_none (by rw[List.length_take];omega),List.getElem?_eq_none (by simp only[Array.length_toList];omega)]
  ·have f1:Fr (Is g) w (putRowK encS 13 (Go.Sort.ahead w n) g 0 d'):=⟨rfl,rfl,rfl,by simp[putRowK,Go.Sort.putRow,Go.Sort.mapBlock,Go.Sort.ahead],fun k _ hk=>by
    unfold putRowK Go.Sort.putRow Go.Sort.mapBlock;simp only[Array.getElem?_modify];rw[if_neg (fun e=>hk e.symm)];rfl⟩
   have f2:Fr (Is g) w (sortWorldK encS 13 w g 0 n d' os):=f1.step (T:=No) ⟨rfl,rfl,rfl,by simp[sortWorldK,Go.Sort.grow],fun k hk _=>Go.Sort.heap_grow_old _ os hk⟩ (fun _ _ h=>h.elim);exact f2.mono (fun b _ h=>by unfold Is at h;subst h;rfl)
end Go.Proofs.YtmajgldaplkpiaaGreatDoor
