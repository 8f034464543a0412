import Derived.Test.YtinfjnndbfahhaaGreatDoorQ33
namespace Go.Proofs.YtinfjnndbfahhaaGreatDoor
open Go.RowKit Go.Maps
set_option linter.unusedVariables false
set_option maxRecDepth 100000
set_option maxHeartbeats 4000000
theorem zL0 (w:World):
  Calls Tryz.prog 4 #[.slice none 0 0] w fun e w'=>e=.returned (.tuple #[.pointer (some ⟨w.heap.size,0,none⟩),.int .i64 0])/\w'=w.alloc (.cells (kcs none 0 0 none 0 0 0) 60):=by
 obtain⟨g,f⟩:∃ g,g=w.alloc (.cells (kcs none 0 0 none 0 0 0) 60):=⟨_,rfl⟩
 rw[<-f];unfold kcs at f
 go_enter Tryz.func4,Tryz.ntmps4
 go_wp2_with fail
 rw[<-f];clear f
 go_loopw [16] (fun v wr=>v=.int .i64 0/\wr=g) (fun _ _=>0)
 case atStart=>exact⟨rfl,rfl⟩
 case round=>
  obtain⟨rfl,rfl⟩:=hrel
  go_wp2_with fail
  go_ret2
  exact⟨rfl,rfl⟩
theorem zL2 (D:Nat)(f nm q:ByteArray)(x:Dev)(w:World)(R:Int->Int->World->Prop)
  (h:∀ W,W=w.alloc (.cells (ocs 1 f x nm q) 38)->Calls Tryz.prog 19 #[.pointer (some ⟨D,0,none⟩),.agg (ocs 1 f x nm q)] W fun e w'=>∃ i o,e=.returned (.tuple #[.int .i64 i,.int .i64 o])/\R i o w'):
  Calls Tryz.prog 6 #[.pointer (some ⟨D,0,none⟩),.agg (ocs 1 f x nm q)] w fun e w'=>∃ i o,e=.returned (.tuple #[.int .i64 i,.int .i64 o])/\R i o w':=by
 obtain⟨u,g⟩:∃ u,u=w.alloc (.cells (ocs 1 f x nm q) 38):=⟨_,rfl⟩
 have F:u.heap[w.heap.size]?=some (.cells (ocs 1 f x nm q) 38):=by rw[g];exact zD _ _
 have v:=h u g;obtain⟨I,J,L,N,O,U,V,X,Y,Z,y,z,A,C⟩:=OpB.of F;clear h F;unfold ocs at g v ⊢
 go_enter Tryz.func6,Tryz.ntmps6
 go_upto_region 1 with(fail)
 rw[<-g];clear g
 go_wp2_with fail
 refine v.mono ?_;rintro e w1 ⟨i,o,rfl,hR⟩;clear v I J L N O U V X Y Z y z A C;have HR:=zh hR;clear hR
 go_wp2_with fail
 go_ret2
 exact⟨_,_,rfl,HR.out⟩
theorem k_do (q:Nat)(f nm g:ByteArray)(x:Dev)(i o:Int)(w:World)(R:World->Prop)
  (h:∀ W,W=w.alloc (.cells (ocs 1 f x nm g) 38)->Calls Tryz.prog 19 #[.pointer (some ⟨q,0,none⟩),.agg (ocs 1 f x nm g)] W fun e w'=>e=.returned (.tuple #[.int .i64 i,.int .i64 o])/\R w'):
  Calls Tryz.prog 6 #[.pointer (some ⟨q,0,none⟩),.agg (ocs 1 f x nm g)] w fun e w'=>e=.returned (.tuple #[.int .i64 i,.int .i64 o])/\R w':=
 (zL2 q f nm g x w (fun v u w'=>v=i/\u=o/\R w') (fun W y=>(h W y).mono fun _ _ h=>⟨i,o,h.1,rfl,rfl,h.2⟩)).mono fun _ _ ⟨_,_,z,A,C,D⟩=>⟨by rw[z,A,C],D⟩
theorem zGU (kb:Nat)(a:Option Addr)(a7:Nat)(ds:List Dev)(ev:Option Addr)(en ec:Nat)(ix:Int)(w:World)(hk:w.heap[kb]?=some (.cells (kcs a ds.length a7 ev en ec ix) 60))(hl:Devs w a a7 ds)(hn:ds.length<=1000)(d0:∀ d∈ds,∃ l,Atts w d.aa d.ac l/\d.an=l.length/\l.length<=24):
  Calls Tryz.prog 11 #[.pointer (some ⟨kb,0,none⟩)] w fun e w'=>(∃ A c' a8,e=.returned (.agg #[.slice A (List.length a8) c'])/\Devs w' A c' a8/\BlkT w' A 36/\(∀ f,A=some f->w.heap.size<=f.block)/\Cop w w' w.heap.size ds a8)/\Fr No w w':=by
 obtain⟨i0,e4,e5,e6,e7⟩:=info_parts infoD;have g5:=hl.lenmax;have e8:=zh d0;have Hn:=zh hn;clear d0 hn;obtain⟨W0,J⟩:∃ W0,W0=(w.alloc (.cells #[.slice none 0 0] 48)).alloc (.cells #[.slice none 0 0] 48):=⟨_,rfl⟩
 have x0:Fr No w W0:=by rw[J];exact((Fr.refl _ _).alloc _).alloc _
 have b2:W0.heap[w.heap.size]?=some (.cells #[.slice none 0 0] 48):=by rw[J];exact zI _ _ _
 have b3:W0.heap[w.heap.size+1]?=some (.cells #[.slice none 0 0] 48):=by rw[J];exact zL _ _ _
 have k0:W0.cell? ⟨kb,0,none⟩=some (.slice a ds.length a7):=zB (x0.heap hk id) 0;have s0:=zC b3
 go_enter Tryz.func11,Tryz.ntmps11
 go_upto_region 2 with(fail)
 rw[<-J];clear J
 go_wp2_with fail
 clear k0
 go_loopw [12] (fun i wr=>∃ (j:Nat) (O:List Dev) (D:Option Addr) (F:Nat),j<=ds.length/\O.length<=j/\i=.int .i64 (j:Int)/\wr.heap[w.heap.size+1]?=some (.cells #[.slice D O.length F] 48)/\wr.heap[w.heap.size]?=some (.cells #[.slice none 0 0] 48)/\wr.ownsRow (w.heap.size+2) 36 10 (.slice D O.length F) O.length (flat O)/\Cop w wr (w.heap.size+2) (ds.take j) O/\Fr (From w.heap.size) w wr) (fun i _=>ds.length-(intOf i).toNat)
 case atStart=>exact⟨0,[],none,0,by omega,by simp,rfl,b3,b2,World.ownsRow_nil _ _ _ _,by simpa using Cop.nil _ _ _,x0.mono zn⟩
 case round=>
  obtain⟨j,O,D,F,hj,g6,rfl,g3,g2,o,hC,hf⟩:=hrel;by_cases e9:j<ds.length
  ·have g0:(j:Int)<ds.length:=by omega
   have f0:∀ f,a=some f->ds≠[]->¬ From w.heap.size f.block:=fun f e a9 h=>by have:=(hl.cell f e a9).2.1;unfold From at h;omega
   obtain⟨bb,g8,d,rfl,hd,c0,c1,c2,c3,c4,c5,c6,c7,c8,c9⟩:=(hl.fr hf f0).dev e9;have a5:=List.mem_of_getElem? hd;obtain⟨l,Z,b0,d1⟩:=e8.out d a5;have hA:Atts wr d.aa d.ac l:=Z.fr hf (fun f e a9 h=>by have:=(Z.cell f e a9).2.1;unfold From at h;omega);have f1:Hid (ds.take (j+1)=ds.take j++[d]):=by unfold Hid;rw[List.take_add_one,hd];rfl
   have a2:=zh (And.intro Z (And.intro b0 d1));clear hd a5 Z;obtain⟨W1,L⟩:∃ W1,W1=wr.alloc (.cells d.vals 36):=⟨_,rfl⟩
   have N:Fr No wr W1:=by rw[L];exact(Fr.refl _ _).alloc _
   have q1:W1.heap[wr.heap.size]?=some (.cells d.vals 36):=by rw[L];exact zD _ _
   have b1:=zCW d.aa d.ac l W1 (hA.no N (fun _=>id)) (by omega);have z9:=(DevB.of q1).c9;rw[<-a2.out.2.1]at b1;have g9:=hf.size;have h0:=N.size;have g1:=zC q1;have h3:=zh b0;unfold Dev.vals at L;clear b0 d1 hA
   go_upto_region 5 with(fail)
   rw[<-L];clear L c0 c1 c2 c3 c4 c5 c6 c7 c8 c9
   go_wp2_with fail
   refine b1.mono ?_;rintro e w2 ⟨⟨A,c',rfl,d2,d3,g⟩,R⟩;have q2:=R.heap q1 id;have z9:w2.cell? ⟨wr.heap.size,9,none⟩=some (.slice d.aa d.an d.ac):=(DevB.of q2).c9;have y9:=zE q2 9;have q3:(w2.setCell ⟨wr.heap.size,9,none⟩ (.slice A d.an c')).heap[wr.heap.size]?=some (.cells (Dev.vals { d with aa:=A,ac:=c' }) 36):=zF q2 9 _;have f3:Fr (Is wr.heap.size) w2 (w2.setCell ⟨wr.heap.size,9,none⟩ (.slice A d.an c')):=Fr.setAt (Fr.refl _ _) _;obtain⟨I,b4⟩:∃ I,I=w2.setCell ⟨wr.heap.size,9,none⟩ (.slice A d.an c'):=⟨_,rfl⟩
   rw[<-b4]at q3 f3;have s2:=R.size;have s3:=f3.size;have C:Fr (fun b=>wr.heap.size<=b) wr I:=((N.step R zi).mono zn).step f3 (fun b _ h=>by unfold Is at h;omega);have b5:=C.heap g3 (fun h=>by have:=zC g3;omega);have f4:=C.heap g2 (fun h=>by have:=zC g2;omega);have q:=zG o C (fun b hb h=>by have:=zV o hb;omega);have d4:Cop w I (w.heap.size+2) (ds.take j) O:=(hC.fr (N.step R zi) (fun _ _ _ _=>id)).fr f3 (fun x hx f e h=>by
    obtain⟨y,_,hy⟩:=hC.mem hx;obtain⟨cs,hc⟩:=hy.typ f e;have:=zC hc;unfold Is at h;omega)
   have d5:=d2.fr f3 (fun f e _ h=>by have:=g f e;unfold Is at h;omega);have d6:=d3.fr f3 (fun f e h=>by have:=g f e;unfold Is at h;omega);have g4:w.heap.size+2<=wr.heap.size:=zC g3;have f5:Hid (Cop1 w I (w.heap.size+2) d { d with aa:=A,ac:=c' }):=⟨rfl,⟨l,a2.out.1,d5,a2.out.2.1,a2.out.2.2⟩,d6,fun f e=>by have:=g f e;omega⟩
   have h4:O.length<=1000:=by have:=Hn.out;omega
   have f8:=zh d4;have b6:=zh q;have Hf:=zh (hf.step C (fun b _ h=>by unfold From;omega));have d7:=fun b (h:(Value.slice D O.length F).ownBlock=some b)=>zP q h
   have b7:Hid (∀ b,(Value.slice D O.length F).ownBlock=some b->w.heap.size+2<=b):=d7;clear d4 hC o hf C d5 d6 d2 d3 g f3 R N q1 q2 g3 g2 b1
   go_upto_region 6 with(fail)
   rw[<-b4];clear b4 z9 y9 d7;have c3:I.cell? ⟨w.heap.size+1,0,none⟩=some (.slice D O.length F):=zB b5 0;obtain⟨z0,z1,z2,z3,z4,z5,z6,z7,z8,z9⟩:=DevB.of q3;have G3:=zh b5;clear b5 q3
   go_wp2_with (at_builtin;refine wpList_append_own _ rfl _ _ 46 rfl (w.heap.size+2) 36 i0 (.agg #[.int .i64 0,.int .i64 0,.string ByteArray.empty,.string ByteArray.empty,.string ByteArray.empty,.string ByteArray.empty,.string ByteArray.empty,.int .i64 0,.int .i64 0,.slice none 0 0]) 10 136 Tryz.underlying46 e4 e5 e6 e7 rfl (by decide) _ _ _ rfl (q.alloc _) ⟨I.heap.size,0,none⟩ 1 1 (Dev.vals { d with aa:=A,ac:=c' }).toList rfl rfl (ze _ (Dev.vals { d with aa:=A,ac:=c' }) _ rfl) (zAR _) (by unfold maxLen;omega) (by omega) (by first | omega | (simp;done) | (simp;omega)) ?_;intro v' w6 u z _;obtain⟨U,V,rfl⟩:=zJ u;have k6:=(Fr.of_grown z).heap (((Fr.refl No I).alloc _).heap G3.out id) (fun h=>by have:=b7.out _ h;omega);have c6:w6.cell? ⟨w.heap.size+1,0,none⟩=some (.slice D O.length F):=zB k6 0;have f6:w6.frozen? ⟨w.heap.size+1,0,none⟩=false:=zE k6 0)
   have b8:Fr No I (I.alloc (.cells (Dev.vals { d with aa:=A,ac:=c' }) 36)):=(Fr.refl _ _).alloc _;have a6:=b6.out.alloc (.cells (Dev.vals { d with aa:=A,ac:=c' }) 36);have a4:Fr (fun b=>(Value.slice D O.length F).ownBlock=some b) (I.alloc (.cells (Dev.vals { d with aa:=A,ac:=c' }) 36)) w6:=Fr.of_grown z;have b9:Cop w w6 (w.heap.size+2) (ds.take (j+1)) (O++[{ d with aa:=A,ac:=c' }]):=by
    rw[f1.out];exact((f8.out.snoc f5.out).fr b8 (fun _ _ _ _=>id)).own a6 a4
   have f7:Fr (Is (w.heap.size+1)) w6 (w6.setCell ⟨w.heap.size+1,0,none⟩ (.slice U (O.length+1) V)):=Fr.setAt (Fr.refl _ _) _;have k7:=zF k6 0 (.slice U (O.length+1) V);have d8:Cop w (w6.setCell ⟨w.heap.size+1,0,none⟩ (.slice U (O.length+1) V)) (w.heap.size+2) (ds.take (j+1)) (O++[{ d with aa:=A,ac:=c' }]):=b9.fr f7 (fun x hx f e h=>by
    obtain⟨y,_,hy⟩:=b9.mem hx;have:=hy.fresh f e;unfold Is at h;omega)
   have X:=zG u f7 (fun b hb h=>by have:=zP u hb;unfold Is at h;unfold From at this;omega);have g7:=f7.heap (a4.heap (((Fr.refl No I).alloc _).heap f4 id) (fun h=>by have:=b7.out _ h;omega)) (fun h=>by unfold Is at h;omega);have d9:Fr (From w.heap.size) w (w6.setCell ⟨w.heap.size+1,0,none⟩ (.slice U (O.length+1) V)):=((Hf.out.step b8 zn).step a4 (fun b _ h=>by have:=b7.out _ h;unfold From;omega)).step f7 (fun b _ h=>by unfold Is at h;unfold From;omega);have HF:=zh (And.intro X (And.intro d8 (And.intro d9 (And.intro k7 g7))));clear u b9 z a4 a6 b8 q f7 k7 d8 X g7 d9 k6 c6 f6 z0 z1 z2 z3 z4 z5 z6 z7 z8 z9
   go_roundw
   case rel=>exact⟨j+1,O++[{ d with aa:=A,ac:=c' }],U,V,by omega,by simp;omega,by go_num,by rw[List.length_append];exact HF.out.2.2.2.1,HF.out.2.2.2.2,by rw[List.length_append,zB1];exact HF.out.1,HF.out.2.1,HF.out.2.2.1⟩
   case measure=>simp[intOf];omega
  ·obtain rfl:j=ds.length:=by omega
   rw[List.take_length]at hC;obtain⟨a3,c3,hv,hD,Y⟩:=Devs.of_own o;have e0:=zAI o;injection hv with e1 e2 e3
   subst e1;subst e3;have k3:wr.cell? ⟨w.heap.size+1,0,none⟩=some (.slice D O.length F):=zB g3 0;have k2:wr.cell? ⟨w.heap.size,0,none⟩=some (.slice none 0 0):=zB g2 0;have f2:=zE g2 0;have fz:Fr (Is w.heap.size) wr (wr.setCell ⟨w.heap.size,0,none⟩ (.slice D O.length F)):=Fr.setAt (Fr.refl _ _) _;have kz:=zF g2 0 (.slice D O.length F);have f9:(wr.setCell ⟨w.heap.size,0,none⟩ (.slice D O.length F)).cell? ⟨w.heap.size,0,none⟩=some (.slice D O.length F):=zB kz 0;have H:=zh (And.intro (hD.fr fz (fun f e _ h=>by have:=Y f e;unfold Is at h;omega)) (And.intro (e0.fr fz (fun f e h=>by have:=Y f e;unfold Is at h;omega)) (And.intro Y (And.intro (hC.fr fz (fun x hx f e h=>by
    obtain⟨y,_,hy⟩:=hC.mem hx;have:=hy.fresh f e;unfold Is at h;omega)) ((hf.step fz (fun b _ h=>by unfold Is at h;unfold From;omega)).mono (T:=No) (fun b hb h=>by unfold From at h;omega))))))
   clear o hC hf hD e0 kz fz g3 g2
   go_wp2_with fail
   refine bodyPost_ret (v:=.agg #[.slice D O.length F]) (by simp[results,Tryz.results11,go_sem,f9]) rfl ?_;exact⟨⟨D,F,O,rfl,H.out.1,H.out.2.1,fun f e=>by have:=H.out.2.2.1 f e;omega,⟨H.out.2.2.2.1.len,fun i d d' h1 h2=>by
    obtain⟨q1,q2,q3,q4⟩:=H.out.2.2.2.1.el i d d' h1 h2;exact⟨q1,q2,q3,fun f e=>by have:=q4 f e;omega⟩⟩⟩,H.out.2.2.2.2⟩
theorem KSt.no {w w':World}{q f:Nat}{a:Option Addr}{g:Nat}{ds:List Dev}{u:Option Addr}{v y:Nat}{z:Int}(h:KSt w q f a g ds u v y z)(o:Fr No w w'):KSt w' q f a g ds u v y z:=
 ⟨o.heap h.blk id,h.tr.no o,h.ta.fr o (fun _ _=>id),fun d A=>(h.te d A).fr o (fun _ _=>id),h.own.elim fun C D=>⟨C,zG D o (fun _ _=>id)⟩,h.nm⟩
theorem KSt.new (w:World)(f:Nat):KSt (w.alloc (.cells (kcs none 0 0 none 0 0 0) 60)) w.heap.size f none 0 [] none 0 0 0:=
 ⟨zD _ _,Tr.nil _ _,BlkT.none _ _,fun d g=>by simp at g,⟨[],World.ownsRow_nil _ _ _ _⟩,fun d g=>by simp at g⟩
theorem zDz {w w':World}{z g:Nat}{a:Option Addr}{o:Nat}{ds:List Dev}{A:Option Addr}{C D:Nat}{F:Int}(h:KSt w z g a o ds A C D F){q:Option Addr}{c':Nat}{f:List Dev}
  (I:Devs w' q c' f) (J:∀ v,q=some v->w.heap.size<=v.block) (L:Cop w w' w.heap.size ds f) (u:TreeWf f):Tr w' w.heap.size q c' f:=
 L.tr (fun d y=>⟨(h.tr.el d y).sz,(h.tr.el d y).drv⟩) I u J (Nat.le_refl _)
def zT : ByteArray:=⟨#[98,108,111,99,107]⟩
def zN : ByteArray:=⟨#[99,111,110,116,101,110,116]⟩
theorem zKN (nm c:ByteArray)(f:Int)(w:World)(hc:c.toList.isEmpty=false)(Z:c.size<=maxLen):
  Calls Tryz.prog 7 #[.string nm,.int .i64 f,.string c] w fun e w'=>(∃ b,e=.returned (.agg (ocs 1 ⟨#[]⟩ ⟨0,0,⟨#[]⟩,nm,zT,⟨#[]⟩,⟨#[]⟩,2,f,some ⟨b,0,none⟩,1,1⟩ ⟨#[]⟩ ⟨#[]⟩))/\Atts w' (some ⟨b,0,none⟩) 1 [(zN,c)]/\BlkT w' (some ⟨b,0,none⟩) 76/\w.heap.size<=b)/\Fr No w w':=by
 obtain⟨y,o⟩:∃ y,y=w.alloc (.cells (ocs 0 ⟨#[]⟩ ⟨0,0,⟨#[]⟩,⟨#[]⟩,⟨#[]⟩,⟨#[]⟩,⟨#[]⟩,0,0,none,0,0⟩ ⟨#[]⟩ ⟨#[]⟩) 38):=⟨_,rfl⟩
 obtain⟨z,g⟩:∃ z,z=y.alloc (.cells (Dev.vals ⟨0,0,⟨#[]⟩,nm,zT,⟨#[]⟩,⟨#[]⟩,2,f,none,0,0⟩) 36):=⟨_,rfl⟩
 obtain⟨A,u⟩:∃ A,A=z.alloc (.cells #[.string zN,.string c] 76):=⟨_,rfl⟩
 obtain⟨C,q⟩:∃ C,C=A.setCell ⟨w.heap.size+1,9,none⟩ (.slice (some ⟨w.heap.size+2,0,none⟩) 1 1):=⟨_,rfl⟩
 have J:y.heap.size=w.heap.size+1:=by rw[o];simp
 have U:z.heap.size=w.heap.size+2:=by rw[g,World.size_alloc,J]
 have f0:Fr No w y:=by rw[o];exact(Fr.refl _ _).alloc _
 have V:Fr No y z:=by rw[g];exact(Fr.refl _ _).alloc _
 have L:Fr No z A:=by rw[u];exact(Fr.refl _ _).alloc _
 have N:Fr (Is (w.heap.size+1)) A C:=by rw[q];exact Fr.setAt (Fr.refl _ _) _
 have a0:y.heap[w.heap.size]?=some (.cells (ocs 0 ⟨#[]⟩ ⟨0,0,⟨#[]⟩,⟨#[]⟩,⟨#[]⟩,⟨#[]⟩,⟨#[]⟩,0,0,none,0,0⟩ ⟨#[]⟩ ⟨#[]⟩) 38):=by rw[o];exact zD _ _
 have d1:z.heap[w.heap.size+1]?=some (.cells (Dev.vals ⟨0,0,⟨#[]⟩,nm,zT,⟨#[]⟩,⟨#[]⟩,2,f,none,0,0⟩) 36):=by rw[g,<-J];exact zD _ _
 have e2:A.heap[w.heap.size+2]?=some (.cells #[.string zN,.string c] 76):=by rw[u,<-U];exact zD _ _
 have X:=L.heap d1 id;have d3:C.heap[w.heap.size+1]?=some (.cells (Dev.vals ⟨0,0,⟨#[]⟩,nm,zT,⟨#[]⟩,⟨#[]⟩,2,f,some ⟨w.heap.size+2,0,none⟩,1,1⟩) 36):=by rw[q];exact zF X 9 _
 have e3:=N.heap e2 (fun h=>by unfold Is at h;omega);have F:=N.heap (L.heap (V.heap a0 id) id) (fun h=>by unfold Is at h;omega);have z9:A.cell? ⟨w.heap.size+1,9,none⟩=some (.slice none 0 0):=(DevB.of X).c9;have y9:=zE X 9;have HF:Hid (∀ O,Fr (Is w.heap.size) C O->(∃ b,Value.agg (ocs 1 ⟨#[]⟩ ⟨0,0,⟨#[]⟩,nm,zT,⟨#[]⟩,⟨#[]⟩,2,f,some ⟨w.heap.size+2,0,none⟩,1,1⟩ ⟨#[]⟩ ⟨#[]⟩)=Value.agg (ocs 1 ⟨#[]⟩ ⟨0,0,⟨#[]⟩,nm,zT,⟨#[]⟩,⟨#[]⟩,2,f,some ⟨b,0,none⟩,1,1⟩ ⟨#[]⟩ ⟨#[]⟩)/\Atts O (some ⟨b,0,none⟩) 1 [(zN,c)]/\BlkT O (some ⟨b,0,none⟩) 76/\w.heap.size<=b)/\Fr No w O):=by
  intro O hf;have Y:=hf.heap e3 (fun h=>by unfold Is at h;omega);refine⟨⟨w.heap.size+2,rfl,⟨Nat.le_refl _,by unfold maxLen;omega,(fun e=>by cases e),(fun x hx=>by simp at hx;subst hx;exact⟨(by decide:zN.size<=maxLen),Z⟩),fun ad e _=>by
   cases e;refine⟨rfl,zC Y,fun i x I=>?_⟩;rcases i with _ | i
   ·simp at I;subst I;exact⟨zB Y 0,zB Y 1⟩
   ·simp at I⟩,fun ad e=>by cases e;exact⟨_,Y⟩,by omega⟩,?_⟩
  exact((f0.step V zi).step ((L.mono (T:=Is (w.heap.size+1)) zn).step N zi) (fun b D h=>by unfold Is at h;omega)).step hf (fun b D h=>by unfold Is at h;omega)
 have H:=zh (And.intro d3 F);have H0:=zh J;have S1:=zh U;have HX:=zh (And.intro d3 (And.intro e3 (And.intro F ((f0.step V zi).step ((L.mono (T:=Is (w.heap.size+1)) zn).step N zi) (fun b D h=>by unfold Is at h;omega)))));unfold Dev.vals at g;unfold ocs at o;rw[<-J]at q z9 y9;unfold zT at g;unfold zN at u;rw[<-U]at q;rw[u]at q z9 y9;dsimp only at o g;clear a0 d1 e2 X d3 e3 F f0 V L N J U
 go_enter Tryz.func7,Tryz.ntmps7
 go_upto_region 1 with(fail)
 rw[<-o];clear o
 go_upto_region 2 with(fail)
 rw[<-g];clear g
 go_upto_region 4 with(fail)
 rw[<-q];clear q u z9 y9 HX;have D3:=H.out.1;rw[<-H0.out]at D3;obtain⟨c0,c1,c2,c3,c4,c5,c6,c7,c8,c9⟩:=DevB.of D3;have F:=H.out.2;clear D3;have I:(Tryz.prog.info? 38).map (·.size)=some 14:=by kernel_rfl
 have hu:=Tryz.underlying38;have A3:=zh F;clear F;have hg:=setRow_heap C w.heap.size _ #[.int .i64 1,.string ⟨#[]⟩,.int .i64 0,.int .i64 0,.string ⟨#[]⟩,.string nm,.string zT,.string ⟨#[]⟩,.string ⟨#[]⟩,.int .i64 2,.int .i64 f,.slice (some ⟨w.heap.size+2,0,none⟩) 1 1,.string ⟨#[]⟩,.string ⟨#[]⟩] 38 (0,0) A3.out;have HG:=zh hg;clear hg;have R:Array.all (#[.int .i64 1,.string ⟨#[]⟩,.int .i64 0,.int .i64 0,.string ⟨#[]⟩,.string nm,.string zT,.string ⟨#[]⟩,.string ⟨#[]⟩,.int .i64 2,.int .i64 f,.slice (some ⟨w.heap.size+2,0,none⟩) 1 1,.string ⟨#[]⟩,.string ⟨#[]⟩]:Array Value) (·.oneCell')=true:=by simp[Value.oneCell']
 go_wp2_with (refine wpList_store_row rfl 38 _ _ rfl w.heap.size #[.int .i64 1,.string ⟨#[]⟩,.int .i64 0,.int .i64 0,.string ⟨#[]⟩,.string nm,.string zT,.string ⟨#[]⟩,.string ⟨#[]⟩,.int .i64 2,.int .i64 f,.slice (some ⟨w.heap.size+2,0,none⟩) 1 1,.string ⟨#[]⟩,.string ⟨#[]⟩] rfl rfl 38 _ A3.out I rfl R ?_)
 refine bodyPost_ret (v:=.agg #[.int .i64 1,.string ⟨#[]⟩,.int .i64 0,.int .i64 0,.string ⟨#[]⟩,.string nm,.string zT,.string ⟨#[]⟩,.string ⟨#[]⟩,.int .i64 2,.int .i64 f,.slice (some ⟨w.heap.size+2,0,none⟩) 1 1,.string ⟨#[]⟩,.string ⟨#[]⟩]) (results_cell_row rfl _ _ w.heap.size 38 _ (0,0) _ rfl HG.out hu rfl I) rfl ?_;obtain⟨⟨b,D⟩,h2⟩:=HF.out (C.setRow w.heap.size #[.int .i64 1,.string ⟨#[]⟩,.int .i64 0,.int .i64 0,.string ⟨#[]⟩,.string nm,.string zT,.string ⟨#[]⟩,.string ⟨#[]⟩,.int .i64 2,.int .i64 f,.slice (some ⟨w.heap.size+2,0,none⟩) 1 1,.string ⟨#[]⟩,.string ⟨#[]⟩]) ⟨rfl,rfl,rfl,by simp,fun b _ D=>setRow_other _ _ _ _ (fun e=>D e)⟩;exact⟨⟨b,by rw[<-D.1];rfl,D.2⟩,h2⟩
end Go.Proofs.YtinfjnndbfahhaaGreatDoor
