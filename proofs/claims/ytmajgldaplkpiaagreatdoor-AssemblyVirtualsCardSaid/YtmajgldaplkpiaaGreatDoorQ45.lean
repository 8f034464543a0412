import Derived.Test.YtmajgldaplkpiaaGreatDoorQ44
import Derived.Test.YtmajgldaplkpiaaGreatDoorQ43
namespace Go.Proofs.YtmajgldaplkpiaaGreatDoor
open Go.RowKit Go.Maps
set_option linter.unusedVariables false
set_option maxRecDepth 100000
set_option maxHeartbeats 8000000
def recA (p:ByteArray)(i:Int)(pa:Option Addr)(ps:List (ByteArray×ByteArray)):Rec:=⟨p,i,ps,[],pa,ps.length,none,0,none,0,0,none,0,0,none,0,0,⟨#[]⟩,0,⟨#[]⟩,⟨#[]⟩,0⟩
structure RcT (w:World)(base tb:Nat)(r:Rec):Prop where
 ok:RecOk w r
 bk:BlkT w r.pa 50
 fr:∀ ad,r.pa=some ad->base<=ad.block/\ad.block≠tb
 tg:r.ta=none
theorem RcT.all {S:Nat->Prop}{w w':World}{base tb:Nat}{R:List Rec}(h:∀ r∈R,RcT w base tb r)(hf:Fr S w w')(hS:∀ b,(∃ cs,w.heap[b]?=some (.cells cs 50))->¬ S b):∀ r∈R,RcT w' base tb r:=fun r hr=>by
 have g:=h r hr;exact⟨⟨g.ok.props.fr hf (fun ad e _=>hS _ (g.bk ad e)),g.ok.tags.fr hf (fun ad e=>by rw[g.tg]at e;cases e)⟩,g.bk.fr hf (fun ad e=>hS _ (g.bk ad e)),g.fr,g.tg⟩
theorem zA0 {w w1:World}{base:Nat}{e:TypeId}{size:Nat}{v:Value}{n:Nat}{xs:List Value}(h:w.ownsRow base e size v n xs){S:Nat->Prop}(hf:Fr S w w1)(hS:∀ b,v.ownBlock=some b->¬ S b):w1.ownsRow base e size v n xs:=
 zJ h hf hS
theorem zD0 (B tb k0:Nat)(a:Option Addr)(cap:Nat)(ds:List Dev)(w:World)(ht:Tape w B tb k0)(hk:k0<=1000000)(hl:Devs w a cap ds)(hT:TreeOk ds)(hn:ds.length<=1000)(hat:∀ ad,a=some ad->ds≠[]->ad.block≠tb):
  Calls Tryz.prog 5 #[.pointer (some ⟨tb,0,none⟩),.agg #[.slice a ds.length cap],.bool false] w fun e w'=>(∃ ra rc R,e=.returned (.slice ra (List.length R) rc)/\Recs w' ra rc R)/\Fr (Is tb) w w':=by
 obtain⟨i0,hi0,hz0,hz1,hz2⟩:=info_parts infoR;have hm:=hl.lenmax;have ltb:=ht.lt;have leB:=ht.le;have h0:Fr No w (w.alloc (.cells #[.slice a ds.length cap] 28)):=(Fr.refl _ _).alloc _;have q3:=zD w (.cells #[.slice a ds.length cap] 28);have hs0:(w.alloc (.cells #[.slice a ds.length cap] 28)).heap.size=w.heap.size+1:=by simp
 have hl1:=hl.no h0 (fun _=>id);have ht1:=ht.fr h0 (fun _ _=>id) id;have Hfx:=Lib.hid h0
 go_enter Tryz.func5,Tryz.ntmps5
 go_wp2_with fail
 generalize w.alloc (.cells #[.slice a ds.length cap] 28)=w1 at *;clear hl h0 ht
 go_loopw [7,8] (fun v i wr=>∃ (k:Nat) (R:List Rec) (av:Option Addr) (cv:Nat) (kk:Nat),k<=ds.length/\v=.slice av R.length cv/\i=.int .i64 (k:Int)/\kk<=k0+2*k/\Hid (∀ r∈R,RcT wr w.heap.size tb r)/\R.length<=k/\Tape wr B tb kk/\wr.ownsRow w1.heap.size 46 12 (.slice av R.length cv) R.length (rflat R)/\Fr (TB tb w1.heap.size) w1 wr) (fun _ i _=>ds.length-(intOf i).toNat)
 case atStart=>exact⟨0,[],none,0,k0,by omega,rfl,rfl,by omega,(fun r hr=>by simp at hr),by simp,ht1,World.ownsRow_nil _ _ _ _,Fr.refl _ _⟩
 case round=>
  obtain⟨k,R,av,cv,kk,hk1,rfl,rfl,hkk,HR,hRl,htr,hown,hfr⟩:=hrel;obtain⟨W2,rfl⟩:∃ W2,W2=wr:=⟨_,rfl⟩
  have hnl:∀ b,b<w1.heap.size->b≠tb->¬ TB tb w1.heap.size b:=fun b h1 h2 h3=>by unfold TB at h3;omega
  have q4r:=hfr.heap q3 (hnl _ (by omega) (by omega));have c4:W2.cell? ⟨w.heap.size,0,none⟩=some (.slice a ds.length cap):=zB q4r 0;have hsr:=hfr.size;by_cases hlt:k<ds.length
  ·have hlt':(k:Int)<ds.length:=by omega
   have hlr:Devs W2 a cap ds:=hl1.fr hfr (fun ad e hne=>hnl _ (hl1.cell ad e hne).2.1 (hat ad e hne));obtain⟨bb,off,x,hax,hxk,y0,_,_,_,_,_,_,_,_,_⟩:=hlr.dev hlt;have hbl:=(hlr.cell _ hax (by intro e;rw[e]at hlt;simp at hlt)).2.1;have hlr':=hlr;rw[hax]at hlr;have hix:=hT.ix x (List.mem_of_getElem? hxk);have Hax:=Lib.hid hax;have Hfr:=Lib.hid hfr;rw[hax]at c4 q4r;clear hxk hfr hax;simp only at hbl
   go_upto_region 5 with(fail)
   go_cut [9] (fun v wc=>∃ b7,v=.pointer (some ⟨b7,0,none⟩)/\wc.heap[b7]?=some (.cells (recA (pathOf (origin ds x.index)) x.index none []).vals 46)/\W2.heap.size<=b7/\Fr No W2 wc)
   case first=>
    refine zY (From W2.heap.size) (.q 0 (.q 1 (.q 2 (.q 3 (.q 4 (.q 5 (.q 6 (.q 8 (.q 9 (.q 10 (.q 11 (.q 12 (.q 13 (.m2 7 (.q 14 (.m1 15 (.m1 16 .fin))) 15 (.m1 7 (.q 14 (.m1 16 .fin))))))))))))))))) _ (by kernel_rfl) (by kernel_rfl) (fun w0 hf0=>?_) (fun _ _ h=>h);have hs9:=hf0.size;have lt4:=zE q4r;have g3:∀ g:Gr (From W2.heap.size) w0,g.W.cell? ⟨w.heap.size,0,none⟩=some (.slice (some ⟨bb,off,none⟩) ds.length cap):=fun g=>g.fr.cell (zB (hf0.heap q4r id) 0) (by unfold From;simp only;omega)
    have g0:∀ g:Gr (From W2.heap.size) w0,g.W.cell? ⟨bb,off+k*10,none⟩=some (.int .i64 x.index):=fun g=>g.fr.cell (hf0.cell y0 id) (by unfold From;simp only;omega)
    have hl3:=hlr.no hf0 (fun _=>id);have Hf0:=Lib.hid hf0;obtain⟨rx,hrx⟩:∃ rx,rx=recA (pathOf (origin ds x.index)) x.index none []:=⟨_,rfl⟩
    have Hrx:=Lib.hid hrx;clear y0 q4r hlr hlr' hown hf0 hrx c4
    repeat (apply zM;exact rfl;exact rfl;exact rfl;intro K hK;go_big_quiet_op;go_big_quiet_on)
    clear g3 g0;refine zh rfl rfl ?_ ?_
    ·go_wp2_with fail
     refine(zCl _ cap ds x.index _ hl3 hT (by omega)).mono ?_;rintro e w5 ⟨rfl,hf5⟩;generalize hpp:pathOf (origin ds x.index)=pp at *
     go_wp2_with fail
     refine OnlyN.mk ⟨hf5.mono (fun _ _ h=>h.elim),?_⟩
     repeat (apply zM;exact rfl;exact rfl;exact rfl;intro K hK;go_big_quiet_op;go_big_quiet_on)
     refine zH rfl ?_
     go_wp2_with fail
     refine OnlyN.mk ⟨(Fr.refl _ _).alloc _,?_⟩;refine zH rfl ?_
     go_wp2_with fail
     refine OnlyN.mk ⟨Fr.swap _ _ _ (by have:=hf5.size;unfold From;omega),?_⟩;refine zS ?_
     go_wp2_with fail
     go_meet
     exact⟨w5.heap.size,rfl,zD _ _,by have:=hf5.size;omega,(Hf0.out.step hf5 (fun _ _ h=>h)).alloc _⟩
    ·go_wp2_with fail
     refine OnlyN.mk ⟨(Fr.refl _ _).alloc _,?_⟩;generalize hX:w0.alloc (.cells #[.string ⟨#[]⟩,.int .i64 0,.slice none 0 0,.slice none 0 0,.slice none 0 0,.slice none 0 0,.slice none 0 0,.string ⟨#[]⟩,.int .i64 0,.string ⟨#[]⟩,.string ⟨#[]⟩,.int .i64 0] 46)=X;have hXb:X.heap[w0.heap.size]?=some (.cells #[.string ⟨#[]⟩,.int .i64 0,.slice none 0 0,.slice none 0 0,.slice none 0 0,.slice none 0 0,.slice none 0 0,.string ⟨#[]⟩,.int .i64 0,.string ⟨#[]⟩,.string ⟨#[]⟩,.int .i64 0] 46):=by rw[<-hX];exact zD _ _
     have hXf:Fr No w0 X:=by rw[<-hX];exact(Fr.refl _ _).alloc _
     clear hX;refine zH rfl ?_
     go_wp2_with fail
     refine(zCl _ cap ds x.index _ (hl3.no hXf (fun _=>id)) hT (by omega)).mono ?_;rintro e w5 ⟨rfl,hf5⟩;generalize hpp:pathOf (origin ds x.index)=pp at *
     go_wp2_with fail
     refine OnlyN.mk ⟨hf5.mono (fun _ _ h=>h.elim),?_⟩
     repeat (apply zM;exact rfl;exact rfl;exact rfl;intro K hK;go_big_quiet_op;go_big_quiet_on)
     refine zH rfl ?_;have hX5:=hf5.heap hXb id;obtain⟨z0,z1,z2,z3,z4,z5,z6,z7,z8,z9,z10,z11⟩:=cl12 hX5;obtain⟨y0,y1,y2,y3,y4,y5,y6,y7,y8,y9,y10,y11⟩:=fl12 hX5
     go_wp2_with fail
     have h12:=zJr hX5 rfl (recA pp x.index none []);unfold recA at h12;refine OnlyN.mk ⟨h12.2.mono (fun _ _ h=>by unfold Is at h;unfold From;omega),?_⟩;refine zS ?_
     go_wp2_with fail
     go_meet
     exact⟨w0.heap.size,rfl,h12.1,by omega,((Hf0.out.step hXf (fun _ _ h=>h)).step hf5 (fun _ _ h=>h)).step h12.2 (fun b hb e=>by unfold Is at e;omega)⟩
   case rest=>
    obtain⟨b7,rfl,q7,hb7,hfc⟩:=hcut;obtain⟨W3,rfl⟩:∃ W3,W3=wc:=⟨_,rfl⟩
    have lt7:=zE q7;have ht3:=htr.fr hfc (fun _ _=>id) id;have hown3:=zu hown hfc (fun _ _=>id);have hrowl:∀ b,(Value.slice av R.length cv).ownBlock=some b->b<W2.heap.size:=fun b hb=>zU hown hb
    have hrow1:∀ b,(Value.slice av R.length cv).ownBlock=some b->b≠tb:=fun b hb e=>by have:=zN hown hb;have:=ht1.lt;unfold From at *;omega
    have ltb3:=htr.lt;have Hfc:=Lib.hid (Hfr.out.step hfc (fun _ _ h=>h.elim));have HR3:=Lib.hid (RcT.all HR.out hfc (fun _ _=>id));have hsc:=hfc.size;generalize pathOf (origin ds x.index)=pp at *;clear y0 q4r hlr hlr' hown htr c4
    go_wp2_with fail
    refine(zAH B tb kk 10 _ ht3 (by omega) (by omega) (by omega)).mono ?_;rintro e w4 ⟨r,rfl,hr1,hr2,ht4,hf4⟩;have q74:=hf4.heap q7 (fun h=>by unfold Is at h;omega);have hown4:=zA0 hown3 hf4 (fun b hb h=>hrow1 b hb h);have hb7n:∀ b,(Value.slice av R.length cv).ownBlock=some b->b≠b7:=fun b hb e=>by have:=hrowl b hb;omega
    have Hfc4:=Lib.hid (Hfc.out.step hf4 (fun b hb h=>by unfold Is at h;exact .inl h));have HR4:Hid (∀ r∈R,RcT w4 w.heap.size tb r):=fun r hr=>by
     have g:=HR3.out r hr;exact⟨⟨g.ok.props.fr hf4 (fun ad e _ h=>(g.fr ad e).2 h),g.ok.tags.fr hf4 (fun ad e=>by rw[g.tg]at e;cases e)⟩,g.bk.fr hf4 (fun ad e h=>(g.fr ad e).2 h),g.fr,g.tg⟩
    have hs4:=hf4.size;have hleW:w1.heap.size<=w4.heap.size:=by omega
    clear hown3 ht3 q7 hfc;unfold Rec.vals recA at q74;simp only[List.length_nil]at q74;have hb7a:∀ b,(∃ cs,w4.heap[b]?=some (.cells cs 50))->¬ Is b7 b:=fun b hb h=>by
     obtain⟨cs,hc⟩:=hb;unfold Is at h;rw[h,q74]at hc;injection hc with hc
     injection hc with _ e2
     exact absurd e2 (by decide)
    clear hf4;by_cases hr0:r=0
    ·subst hr0;have Hown:=Lib.hid hown4;clear hown4 hb7a
     go_wp2_with fail
     go_roundw
     case rel=>exact⟨k+1,R,av,cv,kk+1,by omega,rfl,by go_num,by omega,HR4,by omega,ht4,Hown.out,Hfc4.out⟩
     case measure=>simp[intOf];omega
    have e0:(r==0)=false:=by simpa using hr0
    by_cases hr1':r=1
    ·subst hr1';have hone:=zCr B tb (kk+1) 4 [⟨#[49]⟩,⟨#[49]⟩,⟨#[48]⟩,⟨#[]⟩] w4 ht4 (by omega) #[.string ⟨#[49]⟩,.string ⟨#[49]⟩,.string ⟨#[48]⟩,.string ⟨#[]⟩] rfl rfl (by simp) (by simp)
     go_wp2_with fail
     refine hone.mono ?_;rintro e w6 ⟨hof,ht6,hf6⟩;obtain⟨v,rfl,hv⟩:=hof.short (N:=1) (by kernel_rfl);have hvm:v.size<=maxLen:=by unfold maxLen;omega
     have q6:=hf6.heap q74 (fun h=>by unfold Is at h;omega);have hown6:=zA0 hown4 hf6 (fun b hb h=>hrow1 b hb h);have HF6:=Lib.hid (Hfc4.out.step hf6 (fun b hb h=>by unfold Is at h;exact .inl h));have HR6:Hid (∀ r∈R,RcT w6 w.heap.size tb r):=fun r hr=>by
      have g:=HR4.out r hr;exact⟨⟨g.ok.props.fr hf6 (fun ad e _ h=>(g.fr ad e).2 h),g.ok.tags.fr hf6 (fun ad e=>by rw[g.tg]at e;cases e)⟩,g.bk.fr hf6 (fun ad e h=>(g.fr ad e).2 h),g.fr,g.tg⟩
     have hs6:=hf6.size;clear hone hof ht4 hown4 hf6;have y9:(w6.alloc (.cells #[.string ⟨#[83,84,79,82,65,71,69,95,73,71,78,79,82,69]⟩,.string v] 50)).frozen? ⟨b7,2,none⟩=false:=zC (((Fr.refl No w6).alloc _).heap q6 id) 2;have z9:(w6.alloc (.cells #[.string ⟨#[83,84,79,82,65,71,69,95,73,71,78,79,82,69]⟩,.string v] 50)).cell? ⟨b7,2,none⟩=some (.slice none 0 0):=zB (((Fr.refl No w6).alloc _).heap q6 id) 2;obtain⟨W8,hW8⟩:∃ W8,W8=w6.alloc (.cells #[.string ignB,.string v] 50):=⟨_,rfl⟩
     have f8:Fr No w6 W8:=by rw[hW8];exact(Fr.refl _ _).alloc _
     have e8:W8.heap[w6.heap.size]?=some (.cells #[.string ignB,.string v] 50):=by rw[hW8];exact zD _ _
     have q8:=f8.heap q6 id;obtain⟨W5,hW5⟩:∃ W5,W5=W8.setCell ⟨b7,2,none⟩ (.slice (some ⟨w6.heap.size,0,none⟩) 1 1):=⟨_,rfl⟩
     have f5:Fr (Is b7) W8 W5:=by rw[hW5];exact Fr.setAt (Fr.refl _ _) _
     have q5:W5.heap[b7]?=some (.cells #[.string pp,.int .i64 x.index,.slice (some ⟨w6.heap.size,0,none⟩) 1 1,.slice none 0 0,.slice none 0 0,.slice none 0 0,.slice none 0 0,.string ⟨#[]⟩,.int .i64 0,.string ⟨#[]⟩,.string ⟨#[]⟩,.int .i64 0] 46):=by rw[hW5];exact(zF q8 2 _).trans rfl
     have lq6:=zE q6;have e5:=f5.heap e8 (fun h=>by unfold Is at h;omega);have Lq6:=Lib.hid lq6;clear lq6;have hf5:Fr (Is b7) w6 W5:=(f8.mono (fun _ _ h=>h.elim)).step f5 (fun _ _ h=>h);unfold ignB at hW8
     go_upto_region 13 with(fail)
     rw[<-hW8,<-hW5];clear hW5 hW8 y9 z9 f8 f5 q8 e8;have lq6:=Lq6.out;have hown5:=zA0 hown6 hf5 (fun b hb h=>hb7n b hb h);have hs5:w6.heap.size<=W5.heap.size:=hf5.size;have HF5:=Lib.hid (HF6.out.step hf5 (fun b hb h=>by unfold Is at h;unfold TB;omega));have HR5:=Lib.hid (RcT.all HR6.out hf5 (fun b hb h=>by unfold Is at h;obtain⟨cs,hc⟩:=hb;rw[h,q6]at hc;injection hc with hc;injection hc with _ e2;exact absurd e2 (by decide)));have ht5:=ht6.fr hf5 (fun b hb h=>by unfold Is at h;omega) (fun h=>by unfold Is at h;omega);have hB5:BlkT W5 (some ⟨w6.heap.size,0,none⟩) 50:=fun ad e=>by cases e;exact⟨_,e5⟩
     have hA5:Atts W5 (some ⟨w6.heap.size,0,none⟩) 1 [(ignB,v)]:=⟨by simp,by unfold maxLen;omega,(fun e=>by cases e),(fun x hx=>by simp at hx;subst hx;exact⟨(by decide:ignB.size<=maxLen),hvm⟩),fun ad e _=>by
      cases e;refine⟨rfl,zE e5,fun i x hi=>?_⟩;rcases i with _ | i
      ·simp at hi;subst hi;exact⟨zB e5 0,zB e5 1⟩
      ·simp at hi⟩
     clear hf5 ht6 hown6 q6 e5;obtain⟨z0,z1,z2,z3,z4,z5,z6,z7,z8,z9,z10,z11⟩:=cl12 q5
     go_wp2_with (at_builtin;refine wpList_append_own _ rfl _ _ 30 rfl w1.heap.size 46 i0 (.agg #[.string ByteArray.empty,.int .i64 0,.slice none 0 0,.slice none 0 0,.slice none 0 0,.slice none 0 0,.slice none 0 0,.string ByteArray.empty,.int .i64 0,.string ByteArray.empty,.string ByteArray.empty,.int .i64 0]) 12 208 Tryz.underlying30 hi0 hz0 hz1 hz2 rfl (by decide) _ _ _ rfl (hown5.alloc _) ⟨W5.heap.size,0,none⟩ 1 1 [.string pp,.int .i64 x.index,.slice (some ⟨w6.heap.size,0,none⟩) 1 1,.slice none 0 0,.slice none 0 0,.slice none 0 0,.slice none 0 0,.string ⟨#[]⟩,.int .i64 0,.string ⟨#[]⟩,.string ⟨#[]⟩,.int .i64 0] rfl rfl (zX _ _ _ rfl) (zBk (recA pp x.index (some ⟨w6.heap.size,0,none⟩) [(ignB,v)])) (by unfold maxLen;omega) (by omega) (by first | omega | (simp;omega)) ?_;intro v' w7 hown7 hgrow7 _;obtain⟨av',cv',rfl⟩:=zG hown7)
     have hg7:Fr (From w1.heap.size) W5 w7:=zAi hown5 hgrow7;have hg57:Fr (fun b=>(Value.slice av R.length cv).ownBlock=some b) W5 w7:=(((Fr.refl No _).alloc _).mono (fun _ _ h=>h.elim)).step (Fr.of_grown hgrow7) (fun b _ h=>h);have Hg7:=Lib.hid (HF5.out.step hg7 (fun b hb h=>by unfold From at h;unfold TB;omega));have Hown7:Hid (w7.ownsRow w1.heap.size 46 12 (.slice av' (R++[recA pp x.index (some ⟨w6.heap.size,0,none⟩) [(ignB,v)]]).length cv') (R++[recA pp x.index (some ⟨w6.heap.size,0,none⟩) [(ignB,v)]]).length (rflat (R++[recA pp x.index (some ⟨w6.heap.size,0,none⟩) [(ignB,v)]]))):=by
      unfold Hid;rw[zB8,List.length_append];exact hown7
     have hll:R.length+1=(R++[recA pp x.index (some ⟨w6.heap.size,0,none⟩) [(ignB,v)]]).length:=by simp
     have Ht7:Hid (Tape w7 B tb (kk+1+1)):=ht5.fr hg7 (fun b hb h=>by unfold From at h;omega) (fun h=>by unfold From at h;omega);have HR7:Hid (∀ r∈R++[recA pp x.index (some ⟨w6.heap.size,0,none⟩) [(ignB,v)]],RcT w7 w.heap.size tb r):=by
      intro r' hr';have hat5:∀ b,(∃ cs,W5.heap[b]?=some (.cells cs 50))->¬ (Value.slice av R.length cv).ownBlock=some b:=fun b hb h=>by
       obtain⟨cs,hc⟩:=hb;exact zf hown5 hc (by decide) h
      rcases List.mem_append.1 hr' with hr' | hr'
      ·exact RcT.all HR5.out hg57 hat5 r' hr'
      ·obtain rfl:r'=recA pp x.index (some ⟨w6.heap.size,0,none⟩) [(ignB,v)]:=by simpa using hr'
       exact⟨⟨hA5.fr hg57 (fun ad e _=>hat5 _ (hB5 ad e)),Strs.nil w7⟩,hB5.fr hg57 (fun ad e=>hat5 _ (hB5 ad e)),(fun ad e=>by cases e;exact⟨by show w.heap.size<=w6.heap.size;omega,by show w6.heap.size≠tb;omega⟩),rfl⟩
     clear hg7 hg57 hown7 hgrow7 hown5 q5 ht5 z0 z1 z2 z3 z4 z5 z6 z7 z8 z9 z10 z11
     go_roundw
     case rel=>exact⟨k+1,R++[recA pp x.index (some ⟨w6.heap.size,0,none⟩) [(ignB,v)]],av',cv',(kk+1+1),by omega,by rw[<-hll],by go_num,by omega,HR7,by rw[<-hll];omega,Ht7.out,Hown7.out,Hg7.out⟩
     case measure=>simp[intOf];omega
    have e1:(r==1)=false:=by simpa using hr1'
    by_cases hr2':r=2
    ·subst hr2';have y1:w4.cell? ⟨b7,1,none⟩=some (.int .i64 x.index):=zB q74 1;have f1:w4.frozen? ⟨b7,1,none⟩=false:=zC q74 1;have q5:(w4.setCell ⟨b7,1,none⟩ (.int .i64 (x.index+1))).heap[b7]?=some (.cells #[.string pp,.int .i64 (x.index+1),.slice none 0 0,.slice none 0 0,.slice none 0 0,.slice none 0 0,.slice none 0 0,.string ⟨#[]⟩,.int .i64 0,.string ⟨#[]⟩,.string ⟨#[]⟩,.int .i64 0] 46):=(zF q74 1 _).trans rfl;have hf5:Fr (Is b7) w4 (w4.setCell ⟨b7,1,none⟩ (.int .i64 (x.index+1))):=Fr.setAt (Fr.refl _ _) _
     go_upto_region 13 with(fail)
     generalize w4.setCell ⟨b7,1,none⟩ (.int .i64 (x.index+1))=W5 at *;have hown5:=zA0 hown4 hf5 (fun b hb h=>hb7n b hb h);have hs5:=hf5.size;have HF5:=Lib.hid (Hfc4.out.step hf5 (fun b hb h=>by unfold Is at h;unfold TB;omega));have HR5:=Lib.hid (RcT.all HR4.out hf5 (fun b hb h=>hb7a b hb h));have ht5:=ht4.fr hf5 (fun b hb h=>by unfold Is at h;omega) (fun h=>by unfold Is at h;omega);clear hf5 ht4 hown4 y1 f1;obtain⟨z0,z1,z2,z3,z4,z5,z6,z7,z8,z9,z10,z11⟩:=cl12 q5
     go_wp2_with (at_builtin;refine wpList_append_own _ rfl _ _ 30 rfl w1.heap.size 46 i0 (.agg #[.string ByteArray.empty,.int .i64 0,.slice none 0 0,.slice none 0 0,.slice none 0 0,.slice none 0 0,.slice none 0 0,.string ByteArray.empty,.int .i64 0,.string ByteArray.empty,.string ByteArray.empty,.int .i64 0]) 12 208 Tryz.underlying30 hi0 hz0 hz1 hz2 rfl (by decide) _ _ _ rfl (hown5.alloc _) ⟨W5.heap.size,0,none⟩ 1 1 [.string pp,.int .i64 (x.index+1),.slice none 0 0,.slice none 0 0,.slice none 0 0,.slice none 0 0,.slice none 0 0,.string ⟨#[]⟩,.int .i64 0,.string ⟨#[]⟩,.string ⟨#[]⟩,.int .i64 0] rfl rfl (zX _ _ _ rfl) (zBk (recA pp (x.index+1) none [])) (by unfold maxLen;omega) (by omega) (by first | omega | (simp;omega)) ?_;intro v' w7 hown7 hgrow7 _;obtain⟨av',cv',rfl⟩:=zG hown7)
     have hg7:Fr (From w1.heap.size) W5 w7:=zAi hown5 hgrow7;have hg57:Fr (fun b=>(Value.slice av R.length cv).ownBlock=some b) W5 w7:=(((Fr.refl No _).alloc _).mono (fun _ _ h=>h.elim)).step (Fr.of_grown hgrow7) (fun b _ h=>h);have Hg7:=Lib.hid (HF5.out.step hg7 (fun b hb h=>by unfold From at h;unfold TB;omega));have Hown7:Hid (w7.ownsRow w1.heap.size 46 12 (.slice av' (R++[recA pp (x.index+1) none []]).length cv') (R++[recA pp (x.index+1) none []]).length (rflat (R++[recA pp (x.index+1) none []]))):=by
      unfold Hid;rw[zB8,List.length_append];exact hown7
     have hll:R.length+1=(R++[recA pp (x.index+1) none []]).length:=by simp
     have Ht7:Hid (Tape w7 B tb (kk+1)):=ht5.fr hg7 (fun b hb h=>by unfold From at h;omega) (fun h=>by unfold From at h;omega);have HR7:Hid (∀ r∈R++[recA pp (x.index+1) none []],RcT w7 w.heap.size tb r):=by
      intro r' hr';have hat5:∀ b,(∃ cs,W5.heap[b]?=some (.cells cs 50))->¬ (Value.slice av R.length cv).ownBlock=some b:=fun b hb h=>by
       obtain⟨cs,hc⟩:=hb;exact zf hown5 hc (by decide) h
      rcases List.mem_append.1 hr' with hr' | hr'
      ·exact RcT.all HR5.out hg57 hat5 r' hr'
      ·obtain rfl:r'=recA pp (x.index+1) none []:=by simpa using hr'
       exact⟨⟨Atts.nil w7,Strs.nil w7⟩,BlkT.none _ _,(fun ad e=>by cases e),rfl⟩
     clear hg7 hg57 hown7 hgrow7 hown5 q5 ht5 z0 z1 z2 z3 z4 z5 z6 z7 z8 z9 z10 z11
     go_roundw
     case rel=>exact⟨k+1,R++[recA pp (x.index+1) none []],av',cv',(kk+1),by omega,by rw[<-hll],by go_num,by omega,HR7,by rw[<-hll];omega,Ht7.out,Hown7.out,Hg7.out⟩
     case measure=>simp[intOf];omega
    have e2:(r==2)=false:=by simpa using hr2'
    have q5:w4.heap[b7]?=some (.cells #[.string pp,.int .i64 x.index,.slice none 0 0,.slice none 0 0,.slice none 0 0,.slice none 0 0,.slice none 0 0,.string ⟨#[]⟩,.int .i64 0,.string ⟨#[]⟩,.string ⟨#[]⟩,.int .i64 0] 46):=q74
    go_upto_region 13 with(fail)
    obtain⟨W5,rfl⟩:∃ W5,W5=w4:=⟨_,rfl⟩
    have hown5:=hown4;have HF5:=Hfc4;have HR5:=HR4;have ht5:=ht4;have hs5:W5.heap.size<=W5.heap.size:=Nat.le_refl _;clear ht4 hown4;obtain⟨z0,z1,z2,z3,z4,z5,z6,z7,z8,z9,z10,z11⟩:=cl12 q5
    go_wp2_with (at_builtin;refine wpList_append_own _ rfl _ _ 30 rfl w1.heap.size 46 i0 (.agg #[.string ByteArray.empty,.int .i64 0,.slice none 0 0,.slice none 0 0,.slice none 0 0,.slice none 0 0,.slice none 0 0,.string ByteArray.empty,.int .i64 0,.string ByteArray.empty,.string ByteArray.empty,.int .i64 0]) 12 208 Tryz.underlying30 hi0 hz0 hz1 hz2 rfl (by decide) _ _ _ rfl (hown5.alloc _) ⟨W5.heap.size,0,none⟩ 1 1 [.string pp,.int .i64 x.index,.slice none 0 0,.slice none 0 0,.slice none 0 0,.slice none 0 0,.slice none 0 0,.string ⟨#[]⟩,.int .i64 0,.string ⟨#[]⟩,.string ⟨#[]⟩,.int .i64 0] rfl rfl (zX _ _ _ rfl) (zBk (recA pp x.index none [])) (by unfold maxLen;omega) (by omega) (by first | omega | (simp;omega)) ?_;intro v' w7 hown7 hgrow7 _;obtain⟨av',cv',rfl⟩:=zG hown7)
    have hg7:Fr (From w1.heap.size) W5 w7:=zAi hown5 hgrow7;have hg57:Fr (fun b=>(Value.slice av R.length cv).ownBlock=some b) W5 w7:=(((Fr.refl No _).alloc _).mono (fun _ _ h=>h.elim)).step (Fr.of_grown hgrow7) (fun b _ h=>h);have Hg7:=Lib.hid (HF5.out.step hg7 (fun b hb h=>by unfold From at h;unfold TB;omega));have Hown7:Hid (w7.ownsRow w1.heap.size 46 12 (.slice av' (R++[recA pp x.index none []]).length cv') (R++[recA pp x.index none []]).length (rflat (R++[recA pp x.index none []]))):=by
     unfold Hid;rw[zB8,List.length_append];exact hown7
    have hll:R.length+1=(R++[recA pp x.index none []]).length:=by simp
    have Ht7:Hid (Tape w7 B tb (kk+1)):=ht5.fr hg7 (fun b hb h=>by unfold From at h;omega) (fun h=>by unfold From at h;omega);have HR7:Hid (∀ r∈R++[recA pp x.index none []],RcT w7 w.heap.size tb r):=by
     intro r' hr';have hat5:∀ b,(∃ cs,W5.heap[b]?=some (.cells cs 50))->¬ (Value.slice av R.length cv).ownBlock=some b:=fun b hb h=>by
      obtain⟨cs,hc⟩:=hb;exact zf hown5 hc (by decide) h
     rcases List.mem_append.1 hr' with hr' | hr'
     ·exact RcT.all HR5.out hg57 hat5 r' hr'
     ·obtain rfl:r'=recA pp x.index none []:=by simpa using hr'
      exact⟨⟨Atts.nil w7,Strs.nil w7⟩,BlkT.none _ _,(fun ad e=>by cases e),rfl⟩
    clear hg7 hg57 hown7 hgrow7 hown5 q5 ht5 z0 z1 z2 z3 z4 z5 z6 z7 z8 z9 z10 z11
    go_roundw
    case rel=>exact⟨k+1,R++[recA pp x.index none []],av',cv',(kk+1),by omega,by rw[<-hll],by go_num,by omega,HR7,by rw[<-hll];omega,Ht7.out,Hown7.out,Hg7.out⟩
    case measure=>simp[intOf];omega
  ·obtain rfl:k=ds.length:=by omega
   obtain⟨a',c',hv',hI',hfresh⟩:=Recs.of_own hown (fun r hr=>(HR.out r hr).ok);cases hv';have H:=Lib.hid (And.intro hI' ((Hfx.out.mono (T:=Is tb) (fun _ _ h=>h.elim)).step hfr (fun b hb h=>by unfold TB at h;unfold Is;omega)));clear hown hfr hI' hfresh
   go_wp2_with fail
   go_ret;exact⟨⟨_,_,R,rfl,H.out.1⟩,H.out.2⟩
theorem virtuals_walk (la:Option Addr)(lc:Nat)(l:List Int)(n:Int)(w:World)(hl:Ints w la lc l)(hn:(Lit.int .i64 n).wf=true)(hE:Env w):
  Calls Tryz.prog 3 #[.slice la l.length lc,.int .i64 n] w fun e w'=>e=.returned (.bool true)/\Fr No w w':=by
 obtain⟨m,hm⟩:=hE.len;have h9:=hE.sz;obtain⟨W1,hW1⟩:∃ W1,W1=w.alloc (.cells #[.slice la l.length lc,.int .i64 0] 25):=⟨_,rfl⟩
 have f1:Fr No w W1:=by rw[hW1];exact(Fr.refl _ _).alloc _
 have ht1:Tape W1 w.heap.size w.heap.size 0:=by rw[hW1];exact Tape.make hl 25
 have hs1:W1.heap.size=w.heap.size+1:=by rw[hW1];simp
 have HE1:=Lib.hid (hE.no f1);have HF1:=Lib.hid f1;have hm1:=f1.cell hm id;clear hl hE f1 hm
 go_enter Tryz.func3,Tryz.ntmps3
 go_upto_region 2 with(fail)
 rw[<-hW1];clear hW1
 go_wp2_with fail
 refine(zHb w.heap.size w.heap.size 0 12 m W1 ht1 (by omega) (by omega) (by omega) hm1).mono ?_;rintro e w2 ⟨ta,tc,ds,k2,hk2,hdl,rfl,hT2,ht2,hf2⟩;have HE2:Hid (Env w2):=HE1.out.fr hf2 (fun b hb h=>by unfold Is at h;omega);obtain⟨W3,hW3⟩:∃ W3,W3=w2.alloc (.cells #[.slice ta ds.length tc] 28):=⟨_,rfl⟩
 have f3:Fr No w2 W3:=by rw[hW3];exact(Fr.refl _ _).alloc _
 have b3:W3.heap[w2.heap.size]?=some (.cells #[.slice ta ds.length tc] 28):=by rw[hW3];exact zD _ _
 have hs2:=hf2.size;have hs3:=f3.size;have HT3:=Lib.hid (hT2.no f3);have ht3:=ht2.fr f3 (fun _ _=>id) id;have HF3:Hid (Fr No w W3):=(HF1.out.step hf2 (fun b hb h=>by unfold Is at h;omega)).step f3 (fun _ _ h=>h);have HE3:=Lib.hid (HE2.out.no f3);have hwf:TreeOk ds:=hT2.wf.ok;have HWF:=Lib.hid hwf;have t3:W3.cell? ⟨w2.heap.size,0,none⟩=some (.slice ta ds.length tc):=zB b3 0;have hrec:=zD0 w.heap.size w.heap.size k2 ta tc ds W3 ht3 (by omega) HT3.out.dv hwf (by omega) (fun ad e hne h=>by have:=HT3.out.fresh ad e;omega);clear ht1 hm1 hT2 ht2 hf2 f3 hwf ht3
 go_upto_region 3 with(fail)
 rw[<-hW3];clear hW3
 go_wp2_with fail
 refine hrec.mono ?_;rintro e w4 ⟨⟨ra,rc,R,rfl,hR4⟩,hf4⟩;have HR4:=Lib.hid hR4;have HT4:Hid (Tr w4 (W1.heap.size+2) ta tc ds):=HT3.out.fr hf4 (fun b hb h=>by unfold Is at h;omega);have HE4:Hid (Env w4):=HE3.out.fr hf4 (fun b hb h=>by unfold Is at h;omega);have HF4:Hid (Fr No w w4):=HF3.out.step hf4 (fun b hb h=>by unfold Is at h;omega);have B4:=Lib.hid (hf4.heap b3 (fun h=>by unfold Is at h;omega));have hlm:=HT4.out.dv.lenmax;clear hrec hR4 hf4 b3 t3
 go_wp2_with fail
 go_loopw [8] (fun x wr=>∃ k:Nat,k<=ds.length+1/\x=.int .i64 (k:Int)/\Fr No w4 wr) (fun x _=>ds.length+1-(intOf x).toNat)
 case atStart=>exact⟨0,by omega,rfl,Fr.refl _ _⟩
 case round=>
  obtain⟨k,hk,rfl,hf⟩:=hrel;have b4:=hf.heap B4.out id;have t4:wr.cell? ⟨w2.heap.size,0,none⟩=some (.slice ta ds.length tc):=zB b4 0;have HRD:Hid (∀ (q:Int),(Lit.int .i64 q).wf=true->∀ W,Fr No wr W->(Calls Tryz.prog 6 #[.agg #[.slice ta ds.length tc],.int .i64 q] W fun e w'=>e=.returned (.bool (virB ds q))/\Fr No W w')/\(Calls Tryz.prog 7 #[.agg #[.slice ta ds.length tc],.int .i64 q] W fun e w'=>e=.returned (.bool (virB ds q))/\Fr No W w')/\(Calls Tryz.prog 8 #[.agg #[.slice ta ds.length tc],.slice ra R.length rc,.int .i64 q] W fun e w'=>e=.returned (.bool (cntB ds R q))/\Fr No W w')/\(Calls Tryz.prog 9 #[.agg #[.slice ta ds.length tc],.slice ra R.length rc,.int .i64 q] W fun e w'=>e=.returned (.bool (cntB ds R q))/\Fr No W w')):=fun q hq W hW=>by
   have h4W:=hf.step hW (fun _ _ h=>h);have hTW:=HT4.out.no h4W;exact⟨zB5 ta tc ds _ q W hTW (HE4.out.no h4W).err,zE0 ta tc ds q W hTW.dv HWF.out,zGD ta ra tc rc ds R _ q W hTW (by omega) hq (HR4.out.no h4W (fun _=>id)),zGT ta ra tc rc ds R q W hTW.dv HWF.out (by omega) (HR4.out.no h4W (fun _=>id))⟩
  by_cases hle:k<=ds.length
  ·have hle':(k:Int)<=ds.length:=by omega
   have HROUND:Hid (∀ q:Int,(Lit.int .i64 q).wf=true->True):=fun _ _=>trivial
   go_upto_if 30 with(fail)
   go_cut [9] (fun v wx=>∃ q:Int,v=.int .i64 q/\(Lit.int .i64 q).wf=true/\wx=wr)
   case first=>
    by_cases hlt:k<ds.length
    ·have hlt':(k:Int)<ds.length:=by omega
     obtain⟨bb,off,d,rfl,hd,c0,c1,c2,c3,c4,c5,c6,c7,c8,c9⟩:=(HT4.out.no hf).dv.dev hlt;have hiw:=HWF.out.iwf (List.mem_of_getElem? hd);clear c1 c2 c3 c4 c5 c6 c7 c8 c9 hd
     go_wp2_with fail
     go_meet
     exact⟨_,rfl,hiw,rfl⟩
    ·have hlt':¬ (k:Int)<ds.length:=by omega
     go_wp2_with fail
     go_meet
     exact⟨_,rfl,hn,rfl⟩
   case rest=>
    obtain⟨q,rfl,hq,rfl⟩:=hcut;have HQ:=Lib.hid (HRD.out q hq);have HF:=Lib.hid hf;clear HRD hq hf;have t4':=t4;generalize virB ds q=vb at *;generalize cntB ds R q=cb at *;clear t4 HROUND;rcases vb with _ | _<;>rcases cb with _ | _
    all_goals (
     go_wp2_with fail
     refine zR No [(0,false),(1,false),(3,false),(4,false),(2,true),(5,true),(6,false),(7,false),(8,false),(9,false),(10,false),(12,false),(13,false),(14,false),(11,true),(15,true),(16,false),(17,false)] (by kernel_rfl) (by kernel_rfl) (fun wx hfx=>?_);have t4:∀ g:Gr No wx,g.W.cell? ⟨w2.heap.size,0,none⟩=some (.slice ta ds.length tc):=fun g=>g.fr.cell (hfx.cell t4' id) id
     have Hfx:=Lib.hid hfx;clear hfx
     repeat (first | (apply zT;exact rfl;exact rfl;exact rfl;intro K hK;go_big_quiet_op;go_big_quiet_on) | (apply zW;exact rfl;exact rfl;exact rfl;intro K hK;go_big_quiet_op;go_big_quiet_on))
     clear t4;apply zi;exact rfl
     go_wp2_with fail
     refine((HQ.out wx Hfx.out).1).mono ?_;rintro e wy ⟨rfl,hfy⟩;have Hfy:=Lib.hid (Hfx.out.step hfy (fun _ _ h=>h))
     go_wp2_with fail
     refine OnlyN.mk ⟨hfy.mono (fun _ _ h=>h.elim),?_⟩;clear hfy;apply zi;exact rfl
     go_wp2_with fail
     refine((HQ.out wy Hfy.out).2.1).mono ?_;rintro e wz ⟨rfl,hfz⟩;have Hfz:=Lib.hid (Hfy.out.step hfz (fun _ _ h=>h))
     go_wp2_with fail
     refine OnlyN.mk ⟨hfz.mono (fun _ _ h=>h.elim),?_⟩;clear hfz;have t4:∀ g:Gr No wz,g.W.cell? ⟨w2.heap.size,0,none⟩=some (.slice ta ds.length tc):=fun g=>g.fr.cell (Hfz.out.cell t4' id) id
     repeat (first | (apply zT;exact rfl;exact rfl;exact rfl;intro K hK;go_big_quiet_op;go_big_quiet_on) | (apply zW;exact rfl;exact rfl;exact rfl;intro K hK;go_big_quiet_op;go_big_quiet_on))
     clear t4;apply zi;exact rfl
     go_wp2_with fail
     refine((HQ.out wz Hfz.out).2.2.1).mono ?_;rintro e wu ⟨rfl,hfu⟩;have Hfu:=Lib.hid (Hfz.out.step hfu (fun _ _ h=>h))
     go_wp2_with fail
     refine OnlyN.mk ⟨hfu.mono (fun _ _ h=>h.elim),?_⟩;clear hfu;apply zi;exact rfl
     go_wp2_with fail
     refine((HQ.out wu Hfu.out).2.2.2).mono ?_;rintro e wv ⟨rfl,hfv⟩;have Hfv:=Lib.hid (HF.out.step (Hfu.out.step hfv (fun _ _ h=>h)) (fun _ _ h=>h))
     go_wp2_with fail
     refine OnlyN.mk ⟨hfv.mono (fun _ _ h=>h.elim),?_⟩;clear hfv
     repeat (first | (apply zT;exact rfl;exact rfl;exact rfl;intro K hK;go_big_quiet_op;go_big_quiet_on) | (apply zW;exact rfl;exact rfl;exact rfl;intro K hK;go_big_quiet_op;go_big_quiet_on))
     refine zb ?_
     go_wp2_with fail
     go_roundw
     case rel=>exact⟨k+1,by omega,by go_num,Hfv.out⟩
     case measure=>simp[intOf];omega
     )
  ·have hle':¬ (k:Int)<=ds.length:=by omega
   have hkn:=zJ6 wr (HE4.out.no hf);have HF:=Lib.hid (HF4.out.step hf (fun _ _ h=>h))
   go_wp2_with fail
   refine hkn.mono ?_;rintro e w9 ⟨rfl,hf9⟩;have HF9:=Lib.hid (HF.out.step hf9 (fun _ _ h=>h));clear hkn hf9
   go_wp2_with fail
   go_ret;exact⟨rfl,HF9.out⟩
end Go.Proofs.YtmajgldaplkpiaaGreatDoor
