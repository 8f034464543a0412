import Derived.Test.YtmajgldaplkpiaaGreatDoorQ36
namespace Go.Proofs.YtmajgldaplkpiaaGreatDoor
open Go.RowKit Go.Maps
set_option linter.unusedVariables false
set_option maxRecDepth 100000
set_option maxHeartbeats 4000000
theorem zLJ (w:World):
  Calls Tryz.prog 27 #[.slice none 0 0] w fun e w'=>e=.returned (.tuple #[.pointer (some ⟨w.heap.size,0,none⟩),.int .i64 0])/\w'=w.alloc (.cells (kcs none 0 0 none 0 0 0) 105):=by
 obtain⟨W0,hW0⟩:∃ W0,W0=w.alloc (.cells (kcs none 0 0 none 0 0 0) 105):=⟨_,rfl⟩
 rw[<-hW0];unfold kcs at hW0
 go_enter Tryz.func27,Tryz.ntmps27
 go_wp2_with fail
 rw[<-hW0];clear hW0
 go_loopw [16] (fun v wr=>v=.int .i64 0/\wr=W0) (fun _ _=>0)
 case atStart=>exact⟨rfl,rfl⟩
 case round=>
  obtain⟨rfl,rfl⟩:=hrel
  go_wp2_with fail
  go_ret2
  exact⟨rfl,rfl⟩
theorem k_do (kb:Nat)(path nm vl:ByteArray)(x:Dev)(i er:Int)(w:World)(R:World->Prop)
  (h:∀ W,W=w.alloc (.cells (ocs 1 path x nm vl) 69)->Calls Tryz.prog 55 #[.pointer (some ⟨kb,0,none⟩),.agg (ocs 1 path x nm vl)] W fun e w'=>e=.returned (.tuple #[.int .i64 i,.int .i64 er])/\R w'):
  Calls Tryz.prog 28 #[.pointer (some ⟨kb,0,none⟩),.agg (ocs 1 path x nm vl)] w fun e w'=>e=.returned (.tuple #[.int .i64 i,.int .i64 er])/\R w':=by
 obtain⟨W0,hW0⟩:∃ W0,W0=w.alloc (.cells (ocs 1 path x nm vl) 69):=⟨_,rfl⟩
 have b0:W0.heap[w.heap.size]?=some (.cells (ocs 1 path x nm vl) 69):=by rw[hW0];exact zD _ _
 have hc:=h W0 hW0;obtain⟨o0,o1,o2,o3,o4,o5,o6,o7,o8,o9,o10,o11,o12,o13⟩:=OpB.of b0;clear h b0;unfold ocs at hW0 hc ⊢
 go_enter Tryz.func28,Tryz.ntmps28
 go_upto_region 1 with(fail)
 rw[<-hW0];clear hW0
 go_wp2_with fail
 refine hc.mono ?_;rintro e w1 ⟨rfl,hR⟩;clear hc o0 o1 o2 o3 o4 o5 o6 o7 o8 o9 o10 o11 o12 o13;have HR:=Lib.hid hR;clear hR
 go_wp2_with fail
 go_ret2
 exact⟨rfl,HR.out⟩
theorem zHg (kb:Nat)(a:Option Addr)(cap:Nat)(ds:List Dev)(ev:Option Addr)(en ec:Nat)(ix:Int)(w:World)(hk:w.heap[kb]?=some (.cells (kcs a ds.length cap ev en ec ix) 105))(hl:Devs w a cap ds)(hn:ds.length<=1000)(hat:∀ d∈ds,∃ l,Atts w d.aa d.ac l/\d.an=l.length/\l.length<=24):
  Calls Tryz.prog 31 #[.pointer (some ⟨kb,0,none⟩)] w fun e w'=>(∃ a' c' ds',e=.returned (.agg #[.slice a' (List.length ds') c'])/\Devs w' a' c' ds'/\BlkT w' a' 34/\(∀ ad,a'=some ad->w.heap.size<=ad.block)/\Cop w w' w.heap.size ds ds')/\Fr No w w':=by
 obtain⟨i0,hi0,hz0,hz1,hz2⟩:=info_parts infoD;have hlm:=hl.lenmax;have Hat:=Lib.hid hat;have Hn:=Lib.hid hn;clear hat hn;obtain⟨W0,hW0⟩:∃ W0,W0=(w.alloc (.cells #[.slice none 0 0] 28)).alloc (.cells #[.slice none 0 0] 28):=⟨_,rfl⟩
 have x0:Fr No w W0:=by rw[hW0];exact((Fr.refl _ _).alloc _).alloc _
 have b2:W0.heap[w.heap.size]?=some (.cells #[.slice none 0 0] 28):=by rw[hW0];exact zL _ _ _
 have b3:W0.heap[w.heap.size+1]?=some (.cells #[.slice none 0 0] 28):=by rw[hW0];exact zP _ _ _
 have k0:W0.cell? ⟨kb,0,none⟩=some (.slice a ds.length cap):=zB (x0.heap hk id) 0;have s0:=zE b3
 go_enter Tryz.func31,Tryz.ntmps31
 go_upto_region 2 with(fail)
 rw[<-hW0];clear hW0
 go_wp2_with fail
 clear k0
 go_loopw [12] (fun i wr=>∃ (j:Nat) (O:List Dev) (av:Option Addr) (cv:Nat),j<=ds.length/\O.length<=j/\i=.int .i64 (j:Int)/\wr.heap[w.heap.size+1]?=some (.cells #[.slice av O.length cv] 28)/\wr.heap[w.heap.size]?=some (.cells #[.slice none 0 0] 28)/\wr.ownsRow (w.heap.size+2) 34 10 (.slice av O.length cv) O.length (flat O)/\Cop w wr (w.heap.size+2) (ds.take j) O/\Fr (From w.heap.size) w wr) (fun i _=>ds.length-(intOf i).toNat)
 case atStart=>exact⟨0,[],none,0,by omega,by simp,rfl,b3,b2,World.ownsRow_nil _ _ _ _,by simpa using Cop.nil _ _ _,x0.mono (fun _ _ h=>h.elim)⟩
 case round=>
  obtain⟨j,O,av,cv,hj,hOj,rfl,g3,g2,hown,hC,hf⟩:=hrel;by_cases hlt:j<ds.length
  ·have hlt':(j:Int)<ds.length:=by omega
   have hbl:∀ ad,a=some ad->ds≠[]->¬ From w.heap.size ad.block:=fun ad e hne h=>by have:=(hl.cell ad e hne).2.1;unfold From at h;omega
   obtain⟨bb,off,d,rfl,hd,c0,c1,c2,c3,c4,c5,c6,c7,c8,c9⟩:=(hl.fr hf hbl).dev hlt;have hmem:=List.mem_of_getElem? hd;obtain⟨l,hA0,han,hlb⟩:=Hat.out d hmem;have hA:Atts wr d.aa d.ac l:=hA0.fr hf (fun ad e hne h=>by have:=(hA0.cell ad e hne).2.1;unfold From at h;omega);have Htk:Hid (ds.take (j+1)=ds.take j++[d]):=by unfold Hid;rw[List.take_add_one,hd];rfl
   have HA0:=Lib.hid (And.intro hA0 (And.intro han hlb));clear hd hmem hA0;obtain⟨W1,hW1⟩:∃ W1,W1=wr.alloc (.cells d.vals 34):=⟨_,rfl⟩
   have hx1:Fr No wr W1:=by rw[hW1];exact(Fr.refl _ _).alloc _
   have q1:W1.heap[wr.heap.size]?=some (.cells d.vals 34):=by rw[hW1];exact zD _ _
   have hcp:=zCN d.aa d.ac l W1 (hA.no hx1 (fun _=>id)) (by omega);have z9:=(DevB.of q1).c9;rw[<-HA0.out.2.1]at hcp;have hsr:=hf.size;have hs1:=hx1.size;have hlb1:=zE q1;have HAN:=Lib.hid han;unfold Dev.vals at hW1;clear han hlb hA
   go_upto_region 5 with(fail)
   rw[<-hW1];clear hW1 c0 c1 c2 c3 c4 c5 c6 c7 c8 c9
   go_wp2_with fail
   refine hcp.mono ?_;rintro e w2 ⟨⟨a',c',rfl,hA',hB',hfresh⟩,hf2⟩;have q2:=hf2.heap q1 id;have z9:w2.cell? ⟨wr.heap.size,9,none⟩=some (.slice d.aa d.an d.ac):=(DevB.of q2).c9;have y9:=zC q2 9;have q3:(w2.setCell ⟨wr.heap.size,9,none⟩ (.slice a' d.an c')).heap[wr.heap.size]?=some (.cells (Dev.vals { d with aa:=a',ac:=c' }) 34):=zF q2 9 _;have f3:Fr (Is wr.heap.size) w2 (w2.setCell ⟨wr.heap.size,9,none⟩ (.slice a' d.an c')):=Fr.setAt (Fr.refl _ _) _;obtain⟨W3,hW3⟩:∃ W3,W3=w2.setCell ⟨wr.heap.size,9,none⟩ (.slice a' d.an c'):=⟨_,rfl⟩
   rw[<-hW3]at q3 f3;have s2:=hf2.size;have s3:=f3.size;have hf13:Fr (fun b=>wr.heap.size<=b) wr W3:=((hx1.step hf2 (fun _ _ h=>h)).mono (fun _ _ h=>h.elim)).step f3 (fun b _ h=>by unfold Is at h;omega);have g3':=hf13.heap g3 (fun h=>by have:=zE g3;omega);have g2':=hf13.heap g2 (fun h=>by have:=zE g2;omega);have hown3:=zJ hown hf13 (fun b hb h=>by have:=zU hown hb;omega);have hC3:Cop w W3 (w.heap.size+2) (ds.take j) O:=(hC.fr (hx1.step hf2 (fun _ _ h=>h)) (fun _ _ _ _=>id)).fr f3 (fun x hx ad e h=>by
    obtain⟨y,_,hy⟩:=hC.mem hx;obtain⟨cs,hc⟩:=hy.typ ad e;have:=zE hc;unfold Is at h;omega)
   have hA3:=hA'.fr f3 (fun ad e _ h=>by have:=hfresh ad e;unfold Is at h;omega);have hB3:=hB'.fr f3 (fun ad e h=>by have:=hfresh ad e;unfold Is at h;omega);have hwr0:w.heap.size+2<=wr.heap.size:=zE g3;have HC1:Hid (Cop1 w W3 (w.heap.size+2) d { d with aa:=a',ac:=c' }):=⟨rfl,⟨l,HA0.out.1,hA3,HA0.out.2.1,HA0.out.2.2⟩,hB3,fun ad e=>by have:=hfresh ad e;omega⟩
   have hOl:O.length<=1000:=by have:=Hn.out;omega
   have HC3:=Lib.hid hC3;have Hown3:=Lib.hid hown3;have Hf:=Lib.hid (hf.step hf13 (fun b _ h=>by unfold From;omega));have hnk:=fun b (h:(Value.slice av O.length cv).ownBlock=some b)=>zN hown3 h
   have Hnk:Hid (∀ b,(Value.slice av O.length cv).ownBlock=some b->w.heap.size+2<=b):=hnk;clear hC3 hC hown hf hf13 hA3 hB3 hA' hB' hfresh f3 hf2 hx1 q1 q2 g3 g2 hcp
   go_upto_region 6 with(fail)
   rw[<-hW3];clear hW3 z9 y9 hnk;have c3:W3.cell? ⟨w.heap.size+1,0,none⟩=some (.slice av O.length cv):=zB g3' 0;obtain⟨z0,z1,z2,z3,z4,z5,z6,z7,z8,z9⟩:=DevB.of q3;have G3:=Lib.hid g3';clear g3' q3
   go_wp2_with (at_builtin;refine wpList_append_own _ rfl _ _ 26 rfl (w.heap.size+2) 34 i0 (.agg #[.int .i64 0,.int .i64 0,.string ByteArray.empty,.string ByteArray.empty,.string ByteArray.empty,.string ByteArray.empty,.string ByteArray.empty,.int .i64 0,.int .i64 0,.slice none 0 0]) 10 136 Tryz.underlying26 hi0 hz0 hz1 hz2 rfl (by decide) _ _ _ rfl (hown3.alloc _) ⟨W3.heap.size,0,none⟩ 1 1 (Dev.vals { d with aa:=a',ac:=c' }).toList rfl rfl (zX _ (Dev.vals { d with aa:=a',ac:=c' }) _ rfl) (zv _) (by unfold maxLen;omega) (by omega) (by first | omega | (simp;done) | (simp;omega)) ?_;intro v' w6 hown6 hgrow6 _;obtain⟨av',cv',rfl⟩:=zG hown6;have k6:=(Fr.of_grown hgrow6).heap (((Fr.refl No W3).alloc _).heap G3.out id) (fun h=>by have:=Hnk.out _ h;omega);have c6:w6.cell? ⟨w.heap.size+1,0,none⟩=some (.slice av O.length cv):=zB k6 0;have f6:w6.frozen? ⟨w.heap.size+1,0,none⟩=false:=zC k6 0)
   have hal:Fr No W3 (W3.alloc (.cells (Dev.vals { d with aa:=a',ac:=c' }) 34)):=(Fr.refl _ _).alloc _;have howa:=Hown3.out.alloc (.cells (Dev.vals { d with aa:=a',ac:=c' }) 34);have hgf:Fr (fun b=>(Value.slice av O.length cv).ownBlock=some b) (W3.alloc (.cells (Dev.vals { d with aa:=a',ac:=c' }) 34)) w6:=Fr.of_grown hgrow6;have hC6:Cop w w6 (w.heap.size+2) (ds.take (j+1)) (O++[{ d with aa:=a',ac:=c' }]):=by
    rw[Htk.out];exact((HC3.out.snoc HC1.out).fr hal (fun _ _ _ _=>id)).own howa hgf
   have f7:Fr (Is (w.heap.size+1)) w6 (w6.setCell ⟨w.heap.size+1,0,none⟩ (.slice av' (O.length+1) cv')):=Fr.setAt (Fr.refl _ _) _;have k7:=zF k6 0 (.slice av' (O.length+1) cv');have hC7:Cop w (w6.setCell ⟨w.heap.size+1,0,none⟩ (.slice av' (O.length+1) cv')) (w.heap.size+2) (ds.take (j+1)) (O++[{ d with aa:=a',ac:=c' }]):=hC6.fr f7 (fun x hx ad e h=>by
    obtain⟨y,_,hy⟩:=hC6.mem hx;have:=hy.fresh ad e;unfold Is at h;omega)
   have hown7:=zJ hown6 f7 (fun b hb h=>by have:=zN hown6 hb;unfold Is at h;unfold From at this;omega);have g7:=f7.heap (hgf.heap (((Fr.refl No W3).alloc _).heap g2' id) (fun h=>by have:=Hnk.out _ h;omega)) (fun h=>by unfold Is at h;omega);have hf7:Fr (From w.heap.size) w (w6.setCell ⟨w.heap.size+1,0,none⟩ (.slice av' (O.length+1) cv')):=((Hf.out.step hal (fun _ _ h=>h.elim)).step hgf (fun b _ h=>by have:=Hnk.out _ h;unfold From;omega)).step f7 (fun b _ h=>by unfold Is at h;unfold From;omega);have HF:=Lib.hid (And.intro hown7 (And.intro hC7 (And.intro hf7 (And.intro k7 g7))));clear hown6 hC6 hgrow6 hgf howa hal hown3 f7 k7 hC7 hown7 g7 hf7 k6 c6 f6 z0 z1 z2 z3 z4 z5 z6 z7 z8 z9
   go_roundw
   case rel=>exact⟨j+1,O++[{ d with aa:=a',ac:=c' }],av',cv',by omega,by simp;omega,by go_num,by rw[List.length_append];exact HF.out.2.2.2.1,HF.out.2.2.2.2,by rw[List.length_append,zBw];exact HF.out.1,HF.out.2.1,HF.out.2.2.1⟩
   case measure=>simp[intOf];omega
  ·obtain rfl:j=ds.length:=by omega
   rw[List.take_length]at hC;obtain⟨a3,c3,hv,hD,hfr3⟩:=Devs.of_own hown;have hBT:=zAj hown;injection hv with e1 e2 e3
   subst e1;subst e3;have k3:wr.cell? ⟨w.heap.size+1,0,none⟩=some (.slice av O.length cv):=zB g3 0;have k2:wr.cell? ⟨w.heap.size,0,none⟩=some (.slice none 0 0):=zB g2 0;have f2:=zC g2 0;have fz:Fr (Is w.heap.size) wr (wr.setCell ⟨w.heap.size,0,none⟩ (.slice av O.length cv)):=Fr.setAt (Fr.refl _ _) _;have kz:=zF g2 0 (.slice av O.length cv);have kzz:(wr.setCell ⟨w.heap.size,0,none⟩ (.slice av O.length cv)).cell? ⟨w.heap.size,0,none⟩=some (.slice av O.length cv):=zB kz 0;have H:=Lib.hid (And.intro (hD.fr fz (fun ad e _ h=>by have:=hfr3 ad e;unfold Is at h;omega)) (And.intro (hBT.fr fz (fun ad e h=>by have:=hfr3 ad e;unfold Is at h;omega)) (And.intro hfr3 (And.intro (hC.fr fz (fun x hx ad e h=>by
    obtain⟨y,_,hy⟩:=hC.mem hx;have:=hy.fresh ad e;unfold Is at h;omega)) ((hf.step fz (fun b _ h=>by unfold Is at h;unfold From;omega)).mono (T:=No) (fun b hb h=>by unfold From at h;omega))))))
   clear hown hC hf hD hBT kz fz g3 g2
   go_wp2_with fail
   refine bodyPost_ret (v:=.agg #[.slice av O.length cv]) (by simp[results,Tryz.results31,go_sem,kzz]) rfl ?_;exact⟨⟨av,cv,O,rfl,H.out.1,H.out.2.1,fun ad e=>by have:=H.out.2.2.1 ad e;omega,⟨H.out.2.2.2.1.len,fun i d d' h1 h2=>by
    obtain⟨q1,q2,q3,q4⟩:=H.out.2.2.2.1.el i d d' h1 h2;exact⟨q1,q2,q3,fun ad e=>by have:=q4 ad e;omega⟩⟩⟩,H.out.2.2.2.2⟩
def zZ : ByteArray:=⟨#[98,108,111,99,107]⟩
def zQ : ByteArray:=⟨#[99,111,110,116,101,110,116]⟩
theorem zKu (nm c:ByteArray)(num:Int)(w:World)(hc:c.toList.isEmpty=false)(hcs:c.size<=maxLen):
  Calls Tryz.prog 29 #[.string nm,.int .i64 num,.string c] w fun e w'=>(∃ b,e=.returned (.agg (ocs 1 ⟨#[]⟩ ⟨0,0,⟨#[]⟩,nm,zZ,⟨#[]⟩,⟨#[]⟩,2,num,some ⟨b,0,none⟩,1,1⟩ ⟨#[]⟩ ⟨#[]⟩))/\Atts w' (some ⟨b,0,none⟩) 1 [(zQ,c)]/\BlkT w' (some ⟨b,0,none⟩) 50/\w.heap.size<=b)/\Fr No w w':=by
 obtain⟨W0,hW0⟩:∃ W0,W0=w.alloc (.cells (ocs 0 ⟨#[]⟩ ⟨0,0,⟨#[]⟩,⟨#[]⟩,⟨#[]⟩,⟨#[]⟩,⟨#[]⟩,0,0,none,0,0⟩ ⟨#[]⟩ ⟨#[]⟩) 69):=⟨_,rfl⟩
 obtain⟨W1,hW1⟩:∃ W1,W1=W0.alloc (.cells (Dev.vals ⟨0,0,⟨#[]⟩,nm,zZ,⟨#[]⟩,⟨#[]⟩,2,num,none,0,0⟩) 34):=⟨_,rfl⟩
 obtain⟨W2,hW2⟩:∃ W2,W2=W1.alloc (.cells #[.string zQ,.string c] 50):=⟨_,rfl⟩
 obtain⟨W3,hW3⟩:∃ W3,W3=W2.setCell ⟨w.heap.size+1,9,none⟩ (.slice (some ⟨w.heap.size+2,0,none⟩) 1 1):=⟨_,rfl⟩
 have s0:W0.heap.size=w.heap.size+1:=by rw[hW0];simp
 have s1:W1.heap.size=w.heap.size+2:=by rw[hW1,World.size_alloc,s0]
 have f0:Fr No w W0:=by rw[hW0];exact(Fr.refl _ _).alloc _
 have f1:Fr No W0 W1:=by rw[hW1];exact(Fr.refl _ _).alloc _
 have f2:Fr No W1 W2:=by rw[hW2];exact(Fr.refl _ _).alloc _
 have f3:Fr (Is (w.heap.size+1)) W2 W3:=by rw[hW3];exact Fr.setAt (Fr.refl _ _) _
 have a0:W0.heap[w.heap.size]?=some (.cells (ocs 0 ⟨#[]⟩ ⟨0,0,⟨#[]⟩,⟨#[]⟩,⟨#[]⟩,⟨#[]⟩,⟨#[]⟩,0,0,none,0,0⟩ ⟨#[]⟩ ⟨#[]⟩) 69):=by rw[hW0];exact zD _ _
 have d1:W1.heap[w.heap.size+1]?=some (.cells (Dev.vals ⟨0,0,⟨#[]⟩,nm,zZ,⟨#[]⟩,⟨#[]⟩,2,num,none,0,0⟩) 34):=by rw[hW1,<-s0];exact zD _ _
 have e2:W2.heap[w.heap.size+2]?=some (.cells #[.string zQ,.string c] 50):=by rw[hW2,<-s1];exact zD _ _
 have d2:=f2.heap d1 id;have d3:W3.heap[w.heap.size+1]?=some (.cells (Dev.vals ⟨0,0,⟨#[]⟩,nm,zZ,⟨#[]⟩,⟨#[]⟩,2,num,some ⟨w.heap.size+2,0,none⟩,1,1⟩) 34):=by rw[hW3];exact zF d2 9 _
 have e3:=f3.heap e2 (fun h=>by unfold Is at h;omega);have a3:=f3.heap (f2.heap (f1.heap a0 id) id) (fun h=>by unfold Is at h;omega);have z9:W2.cell? ⟨w.heap.size+1,9,none⟩=some (.slice none 0 0):=(DevB.of d2).c9;have y9:=zC d2 9;have HF:Hid (∀ W',Fr (Is w.heap.size) W3 W'->(∃ b,Value.agg (ocs 1 ⟨#[]⟩ ⟨0,0,⟨#[]⟩,nm,zZ,⟨#[]⟩,⟨#[]⟩,2,num,some ⟨w.heap.size+2,0,none⟩,1,1⟩ ⟨#[]⟩ ⟨#[]⟩)=Value.agg (ocs 1 ⟨#[]⟩ ⟨0,0,⟨#[]⟩,nm,zZ,⟨#[]⟩,⟨#[]⟩,2,num,some ⟨b,0,none⟩,1,1⟩ ⟨#[]⟩ ⟨#[]⟩)/\Atts W' (some ⟨b,0,none⟩) 1 [(zQ,c)]/\BlkT W' (some ⟨b,0,none⟩) 50/\w.heap.size<=b)/\Fr No w W'):=by
  intro W' hf;have e4:=hf.heap e3 (fun h=>by unfold Is at h;omega);refine⟨⟨w.heap.size+2,rfl,⟨Nat.le_refl _,by unfold maxLen;omega,(fun e=>by cases e),(fun x hx=>by simp at hx;subst hx;exact⟨(by decide:zQ.size<=maxLen),hcs⟩),fun ad e _=>by
   cases e;refine⟨rfl,zE e4,fun i x hi=>?_⟩;rcases i with _ | i
   ·simp at hi;subst hi;exact⟨zB e4 0,zB e4 1⟩
   ·simp at hi⟩,fun ad e=>by cases e;exact⟨_,e4⟩,by omega⟩,?_⟩
  exact((f0.step f1 (fun _ _ h=>h)).step ((f2.mono (T:=Is (w.heap.size+1)) (fun _ _ h=>h.elim)).step f3 (fun _ _ h=>h)) (fun b hb h=>by unfold Is at h;omega)).step hf (fun b hb h=>by unfold Is at h;omega)
 have H:=Lib.hid (And.intro d3 a3);have H0:=Lib.hid s0;have S1:=Lib.hid s1;have HX:=Lib.hid (And.intro d3 (And.intro e3 (And.intro a3 ((f0.step f1 (fun _ _ h=>h)).step ((f2.mono (T:=Is (w.heap.size+1)) (fun _ _ h=>h.elim)).step f3 (fun _ _ h=>h)) (fun b hb h=>by unfold Is at h;omega)))));unfold Dev.vals at hW1;unfold ocs at hW0;rw[<-s0]at hW3 z9 y9;unfold zZ at hW1;unfold zQ at hW2;rw[<-s1]at hW3;rw[hW2]at hW3 z9 y9;dsimp only at hW0 hW1;clear a0 d1 e2 d2 d3 e3 a3 f0 f1 f2 f3 s0 s1
 go_enter Tryz.func29,Tryz.ntmps29
 go_upto_region 1 with(fail)
 rw[<-hW0];clear hW0
 go_upto_region 2 with(fail)
 rw[<-hW1];clear hW1
 go_upto_region 4 with(fail)
 rw[<-hW3];clear hW3 hW2 z9 y9 HX;have D3:=H.out.1;rw[<-H0.out]at D3;obtain⟨c0,c1,c2,c3,c4,c5,c6,c7,c8,c9⟩:=DevB.of D3;have a3:=H.out.2;clear D3;have hi:(Tryz.prog.info? 69).map (·.size)=some 14:=by kernel_rfl
 have hu:=Tryz.underlying69;have A3:=Lib.hid a3;clear a3;have hg:=setRow_heap W3 w.heap.size _ #[.int .i64 1,.string ⟨#[]⟩,.int .i64 0,.int .i64 0,.string ⟨#[]⟩,.string nm,.string zZ,.string ⟨#[]⟩,.string ⟨#[]⟩,.int .i64 2,.int .i64 num,.slice (some ⟨w.heap.size+2,0,none⟩) 1 1,.string ⟨#[]⟩,.string ⟨#[]⟩] 69 (0,0) A3.out;have HG:=Lib.hid hg;clear hg;have hone:Array.all (#[.int .i64 1,.string ⟨#[]⟩,.int .i64 0,.int .i64 0,.string ⟨#[]⟩,.string nm,.string zZ,.string ⟨#[]⟩,.string ⟨#[]⟩,.int .i64 2,.int .i64 num,.slice (some ⟨w.heap.size+2,0,none⟩) 1 1,.string ⟨#[]⟩,.string ⟨#[]⟩]:Array Value) (·.oneCell')=true:=by simp[Value.oneCell']
 go_wp2_with (refine wpList_store_row rfl 69 _ _ rfl w.heap.size #[.int .i64 1,.string ⟨#[]⟩,.int .i64 0,.int .i64 0,.string ⟨#[]⟩,.string nm,.string zZ,.string ⟨#[]⟩,.string ⟨#[]⟩,.int .i64 2,.int .i64 num,.slice (some ⟨w.heap.size+2,0,none⟩) 1 1,.string ⟨#[]⟩,.string ⟨#[]⟩] rfl rfl 69 _ A3.out hi rfl hone ?_)
 refine bodyPost_ret (v:=.agg #[.int .i64 1,.string ⟨#[]⟩,.int .i64 0,.int .i64 0,.string ⟨#[]⟩,.string nm,.string zZ,.string ⟨#[]⟩,.string ⟨#[]⟩,.int .i64 2,.int .i64 num,.slice (some ⟨w.heap.size+2,0,none⟩) 1 1,.string ⟨#[]⟩,.string ⟨#[]⟩]) (results_cell_row rfl _ _ w.heap.size 69 _ (0,0) _ rfl HG.out hu rfl hi) rfl ?_;obtain⟨⟨b,hb⟩,h2⟩:=HF.out (W3.setRow w.heap.size #[.int .i64 1,.string ⟨#[]⟩,.int .i64 0,.int .i64 0,.string ⟨#[]⟩,.string nm,.string zZ,.string ⟨#[]⟩,.string ⟨#[]⟩,.int .i64 2,.int .i64 num,.slice (some ⟨w.heap.size+2,0,none⟩) 1 1,.string ⟨#[]⟩,.string ⟨#[]⟩]) ⟨rfl,rfl,rfl,by simp,fun b _ hb=>setRow_other _ _ _ _ (fun e=>hb e)⟩;exact⟨⟨b,by rw[<-hb.1];rfl,hb.2⟩,h2⟩
end Go.Proofs.YtmajgldaplkpiaaGreatDoor
