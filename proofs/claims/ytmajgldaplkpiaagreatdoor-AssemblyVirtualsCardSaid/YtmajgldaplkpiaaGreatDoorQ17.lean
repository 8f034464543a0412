import Derived.Test.YtmajgldaplkpiaaGreatDoorQ16
namespace Go.Proofs.YtmajgldaplkpiaaGreatDoor
open Go.RowKit Go.Maps
set_option linter.unusedVariables false
set_option maxRecDepth 100000
set_option maxHeartbeats 4000000
structure InsOk (ds:List Dev)(d:Dev)(l:List (ByteArray×ByteArray)):Prop where
 snd:Sound d l
 new:look ds d.index=none
 par:((d.parent==0)||(look ds d.parent).isSome)=true
 len:ds.length<256
 dep:depthB (newO ds d)<=7
 ord:∀ x∈ds,zA1 ds (newO ds d) x=false
 cls:ds.any (clP d)=false
def zFQ (w w':World)(ds:List Dev)(d:Dev)(e:Ending):Prop:=
 ∃ a' c' ds',e=.returned (.tuple #[.agg #[.slice a' ds'.length c'],.int .i64 0])/\Devs w' a' c' ds'/\BlkT w' a' 34/\(∀ ad,a'=some ad->w.heap.size<=ad.block)/\Cop w w' w.heap.size (ds++[d]) ds'
theorem Cop1.src {w w8 w':World}{base base':Nat}{d d':Dev}(h:Cop1 w8 w' base d d')(hf:Fr No w w8)(hat:∃ l,Atts w d.aa d.ac l/\d.an=l.length)(hb:base'<=base):Cop1 w w' base' d d':=by
 obtain⟨l,h1,h2,h3,h4⟩:=h.att;obtain⟨l0,g1,g2⟩:=hat;have e:l0=l:=(g1.no hf (fun _=>id)).det h1 (by omega);exact⟨h.eq,⟨l,by rw[<-e];exact g1,h2,h3,h4⟩,h.typ,fun ad e=>by have:=h.fresh ad e;omega⟩
theorem Cop.src {w w8 w':World}{base base':Nat}{ds ds':List Dev}(h:Cop w8 w' base ds ds')(hf:Fr No w w8)(hat:∀ d∈ds,∃ l,Atts w d.aa d.ac l/\d.an=l.length)(hb:base'<=base):Cop w w' base' ds ds':=
 ⟨h.len,fun i d d' h1 h2=>(h.el i d d' h1 h2).src hf (hat d (List.mem_of_getElem? h1)) hb⟩
theorem zA8 (a:Option Addr)(cap:Nat)(ds:List Dev)(base:Nat)(d:Dev)(l:List (ByteArray×ByteArray))(m:Int)(w:World)(hl:Tr w base a cap ds)(hs:Sized d)(hA:Atts w d.aa d.ac l)(h1:l.length<=1)(han:d.an=l.length)(hk:d.kind=2)(hd:d.drv=⟨#[]⟩)(hpw:(Lit.int .i64 d.parent).wf=true)(hiw:(Lit.int .i64 d.index).wf=true)(hok:InsOk ds d l)(hm:w.cell? ⟨0,0,none⟩=some (.int .i64 m))(h0:0<w.heap.size):
  Calls Tryz.prog 89 #[.agg #[.slice a ds.length cap],.agg d.vals] w fun e w'=>zFQ w w' ds d e/\Fr No w w':=by
 have hT:=hl.wf.ok;have hn:=hok.len;obtain⟨W0,hW0⟩:∃ W0,W0=((w.alloc (.cells #[.slice a ds.length cap] 28)).alloc (.cells d.vals 34)).alloc (.cells #[.slice none 0 0] 28):=⟨_,rfl⟩
 have fx:Fr No ((w.alloc (.cells #[.slice a ds.length cap] 28)).alloc (.cells d.vals 34)) W0:=by rw[hW0];exact(Fr.refl _ _).alloc _
 have hx:Fr No w W0:=by rw[hW0];exact(((Fr.refl _ _).alloc _).alloc _).alloc _
 have q0:=fx.heap (zL w (.cells #[.slice a ds.length cap] 28) (.cells d.vals 34)) id;have q1:=fx.heap (zP w (.cells #[.slice a ds.length cap] 28) (.cells d.vals 34)) id;have q2:W0.heap[w.heap.size+1+1]?=some (.cells #[.slice none 0 0] 28):=by
  have:=zD ((w.alloc (.cells #[.slice a ds.length cap] 28)).alloc (.cells d.vals 34)) (.cells #[.slice none 0 0] 28);rw[World.size_alloc,World.size_alloc]at this;rw[hW0];exact this
 clear fx;have hlook:=zBi a cap ds W0 (hl.dv.no hx (fun _=>id)) hT (by omega);have hs0:=zE q2;have t0:W0.cell? ⟨w.heap.size,0,none⟩=some (.slice a ds.length cap):=zB q0 0
 -- what the callees answer
 have hpa:(ogs ds d.parent).getD ⟨#[]⟩=plc ds d.parent:=zCs hT d.parent;have hpb:(ogs ds d.parent).isSome=(look ds d.parent).isSome:=by rw[zDw hT];exact Option.isSome_map
 have hia:(ogs ds d.index).getD ⟨#[]⟩=⟨#[]⟩:=by rw[zDw hT,hok.new];rfl
 have hib:(ogs ds d.index).isSome=false:=by rw[zDw hT,hok.new];rfl
 have hops:=zFa hT (by omega) d.parent;have hods:=hok.snd.oklen;have hogs:(newO ds d).size<=33100:=by
  unfold newO;rw[ByteArray.size_append,ByteArray.size_append];show _+1+_<=_
  omega
 have K1:=Lib.hid (fun (W:World) (hf:Fr No w W)=>zGj d l m W hs (hA.no hf (fun _=>id)) h1 han hk hd hok.snd (hf.cell hm id) (Nat.lt_of_lt_of_le h0 hf.size));have K2:=Lib.hid (fun (W:World) (hf:Fr No w W)=>zGL (newO ds d) m W (by omega) (hf.cell hm id));have K3:=Lib.hid (fun (W:World) (hf:Fr No w W)=>zEI a cap ds d m W (hl.dv.no hf (fun _=>id)) (fun x hx=>by have:=hT.sz x hx;omega) (by omega) (hf.cell hm id) (Nat.lt_of_lt_of_le h0 hf.size));rw[hok.cls]at K3;have K4:=Lib.hid (fun (W:World) (hf:Fr No w W)=>zEt a cap ds W (hl.dv.no hf (fun _=>id)) (by omega) (fun x hx=>by
  obtain⟨l',g1,g2,g3⟩:=(hl.el x hx).att;exact⟨l',g1.no hf (fun _=>id),g2,g3⟩))
 have K5:=Lib.hid (fun (W:World) (hf:Fr No w W)=>zC5 d l W (hA.no hf (fun _=>id)) han (by omega));have hfi:fidx (zA1 ds (newO ds d)) ds=-1:=zC3 _ _ hok.ord;have K6:Hid (∀ (m1 m2 bv bs:Nat) (W:World),Fr No w W->W.heap[bv]?=some (.cells #[.slice a ds.length cap,.map (some m1),.map (some m2)] 97)->SMap W m2 (ogs ds) ds.length->W.cell? ⟨bs,0,none⟩=some (.string (newO ds d))->Calls Tryz.prog 78 #[.slice a ds.length cap,.func (.func 134) #[] #[.pointer (some ⟨bv,0,none⟩),.pointer (some ⟨bs,0,none⟩)]] W fun e w'=>e=.returned (.int .i64 (-1))/\Fr No W w'):=by
  intro m1 m2 bv bs W hf hv hS hb;have:=zC4 134 #[.pointer (some ⟨bv,0,none⟩),.pointer (some ⟨bs,0,none⟩)] (fun _ _=>rfl) (zA1 ds (newO ds d)) a cap ds W (hl.dv.no hf (fun _=>id)) (fun x hx W' hf'=>zHh x ds a cap m1 m2 bv bs (newO ds d) m W' hT (by omega) (by omega) hx (hf'.heap hv id) (hS.fr hf' id) (hf'.cell hb id) ((hf.step hf' (fun _ _ h=>h)).cell hm id));rw[hfi]at this;exact this
 have hdep:¬ (7:Int)<(depthB (newO ds d):Nat):=by have:=hok.dep;omega
 have hlen:¬ (256:Int)<=ds.length:=by omega
 have hnn:¬ (ds.length:Int)<ds.length:=by omega
 have hpar:=hok.par;have Hnew:Hid (newO ds d=plc ds d.parent++⟨#[47]⟩++d.orig):=rfl;have hlm:=hl.dv.lenmax;obtain⟨P,hP⟩:∃ P,P=plc ds d.parent:=⟨_,rfl⟩
 obtain⟨bp,hbp⟩:∃ bp,bp=(look ds d.parent).isSome:=⟨_,rfl⟩
 rw[<-hP]at hpa Hnew hops;rw[<-hbp]at hpb hpar;generalize newO ds d=og at *;generalize hD:depthB og=D at *;have HT:=Lib.hid hT;have HL:=Lib.hid hl;have Hok:=Lib.hid hok;have HA:=Lib.hid hA;have HAN:=Lib.hid han;clear hP hbp hD hl hT hok hA hs hk hd hm han;unfold Dev.vals at hW0 K1 K3 K5 ⊢
 go_enter Tryz.func89,Tryz.ntmps89
 go_upto_region 1 with(fail)
 rw[<-hW0];clear hW0
 go_wp2_with fail
 refine hlook.mono ?_;rintro e w1 ⟨⟨m1,m2,rfl,hm1,hm2,hne,hI,hS⟩,hf1⟩;clear hlook hI t0;obtain⟨W1,hW1⟩:∃ W1,W1=w1.alloc (.cells #[.slice a ds.length cap,.map (some m1),.map (some m2)] 97):=⟨_,rfl⟩
 have fx1:Fr No w1 W1:=by rw[hW1];exact(Fr.refl _ _).alloc _
 have b1:W1.heap[w1.heap.size]?=some (.cells #[.slice a ds.length cap,.map (some m1),.map (some m2)] 97):=by rw[hW1];exact zD _ _
 have f01:Fr No W0 W1:=hf1.step fx1 (fun _ _ h=>h);have p0:=f01.heap q0 id;have p1:=f01.heap q1 id;have p2:=f01.heap q2 id;have hS1:=hS.fr fx1 id;have x1:Fr No w W1:=hx.step f01 (fun _ _ h=>h);have hsz:=hf1.size;clear q0 q1 q2 hf1 fx1 hS;have t0:W1.cell? ⟨w.heap.size,0,none⟩=some (.slice a ds.length cap):=zB p0 0;have v2:W1.cell? ⟨w1.heap.size,2,none⟩=some (.map (some m2)):=zB b1 2;obtain⟨c0,c1,c2,c3,c4,c5,c6,c7,c8,c9⟩:=DevB.of p1
 go_upto_region 2 with(fail)
 rw[<-hW1];clear hW1;obtain⟨W2,hW2⟩:∃ W2,W2=W1.alloc (.cells #[.string og] 9):=⟨_,rfl⟩
 have fx2:Fr No W1 W2:=by rw[hW2];exact(Fr.refl _ _).alloc _
 have b2:W2.heap[W1.heap.size]?=some (.cells #[.string og] 9):=by rw[hW2];exact zD _ _
 have x2:Fr No w W2:=x1.step fx2 (fun _ _ h=>h);have k6:=K6.out m1 m2 w1.heap.size W1.heap.size W2 x2 (fx2.heap b1 id) (hS1.fr fx2 id) (zB b2 0);have r0:=fx2.heap p0 id;have r1:=fx2.heap p1 id;have r2:=fx2.heap p2 id;rw[Hnew.out]at hW2
 go_upto_region 5 with(first
  | (at_lookup;refine zCY rfl _ _ 95 rfl rfl m2 _ _ d.parent hpw rfl hS1 rfl P hpa bp hpb ?_)
  | (at_lookup;refine zCY rfl _ _ 95 rfl rfl m2 _ _ d.index hiw rfl hS1 rfl ⟨#[]⟩ hia false hib ?_))
 rw[<-hW2];clear hW2 c0 c1 c2 c3 c4 c5 c6 c7 c8 c9 t0 v2 p0 p1 p2 fx2 b1;have t0:W2.cell? ⟨w.heap.size,0,none⟩=some (.slice a ds.length cap):=zB r0 0
 go_wp2_with fail
 refine k6.mono ?_;rintro e w3 ⟨rfl,hf3⟩;have x3:Fr No w w3:=x2.step hf3 (fun _ _ h=>h);have s0:=hf3.heap r0 id;have s1:=hf3.heap r1 id;have s2:=hf3.heap r2 id;have s4:=hf3.heap b2 id;clear t0 k6 r0 r1 r2 b2;have t0:w3.cell? ⟨w.heap.size,0,none⟩=some (.slice a ds.length cap):=zB s0 0;obtain⟨c0,c1,c2,c3,c4,c5,c6,c7,c8,c9⟩:=DevB.of s1
 go_wp2_with fail
 refine(K1.out _ x3).mono ?_;rintro e w4 ⟨rfl,hf4⟩;have x4:Fr No w w4:=x3.step hf4 (fun _ _ h=>h);have r0:=hf4.heap s0 id;have r1:=hf4.heap s1 id;have r2:=hf4.heap s2 id;have r4:=hf4.heap s4 id;clear c0 c1 c2 c3 c4 c5 c6 c7 c8 c9 t0 s0 s1 s2 s4;have t0:w4.cell? ⟨w.heap.size,0,none⟩=some (.slice a ds.length cap):=zB r0 0;have t4:w4.cell? ⟨W1.heap.size,0,none⟩=some (.string og):=zB r4 0;obtain⟨c0,c1,c2,c3,c4,c5,c6,c7,c8,c9⟩:=DevB.of r1
 go_upto_region 12 with(fail)
 go_cut [53] (fun v wx=>v=.bool false/\w4=wx)
 case first=>
  rcases hq:(d.parent==0)with _ | _
  ·rw[hq]at hpar;have hq':(d.parent != 0)=true:=by simp[bne,hq]
   have hbp:bp=true:=by simpa using hpar
   go_wp2_with fail
   go_meet
   exact⟨rfl,rfl⟩
  ·have hq':(d.parent != 0)=false:=by simp[bne,hq]
   go_wp2_with fail
   go_meet
   exact⟨rfl,rfl⟩
 case rest=>
  obtain⟨rfl,rfl⟩:=hcut
  go_wp2_with fail
  refine(K2.out _ x4).mono ?_;rintro e w5 ⟨rfl,hf5⟩;have x5:Fr No w w5:=x4.step hf5 (fun _ _ h=>h);have s0:=hf5.heap r0 id;have s1:=hf5.heap r1 id;have s2:=hf5.heap r2 id;have s4:=hf5.heap r4 id;clear c0 c1 c2 c3 c4 c5 c6 c7 c8 c9 t0 t4 r0 r1 r2 r4;have t0:w5.cell? ⟨w.heap.size,0,none⟩=some (.slice a ds.length cap):=zB s0 0
  go_wp2_with fail
  refine zR No [(0,false),(1,false),(2,false),(3,false),(4,false),(5,false),(6,false),(7,false),(8,false),(9,false),(10,false),(11,false),(12,false),(13,false),(14,false),(15,false),(16,false),(17,false),(18,false)] (by kernel_rfl) (by kernel_rfl) (fun w6 hf6=>?_);have x6:Fr No w w6:=x5.step hf6 (fun _ _ h=>h);have r0:=hf6.heap s0 id;have r1:=hf6.heap s1 id;have r2:=hf6.heap s2 id;clear t0 s0 s1 s2 s4;have t0:∀ g:Gr No w6,g.W.cell? ⟨w.heap.size,0,none⟩=some (.slice a ds.length cap):=fun g=>g.fr.cell (zB r0 0) id
  repeat (first | (apply zT;exact rfl;exact rfl;exact rfl;intro K hK;go_big_quiet_op;go_big_quiet_on) | (apply zW;exact rfl;exact rfl;exact rfl;intro K hK;go_big_quiet_op;go_big_quiet_on))
  refine zb ?_;clear t0;have t0:w6.cell? ⟨w.heap.size,0,none⟩=some (.slice a ds.length cap):=zB r0 0;obtain⟨c0,c1,c2,c3,c4,c5,c6,c7,c8,c9⟩:=DevB.of r1
  go_wp2_with fail
  refine(K3.out _ x6).mono ?_;rintro e w7 ⟨rfl,hf7⟩;have x7:Fr No w w7:=x6.step hf7 (fun _ _ h=>h);have s0:=hf7.heap r0 id;have s1:=hf7.heap r1 id;have s2:=hf7.heap r2 id;clear c0 c1 c2 c3 c4 c5 c6 c7 c8 c9 t0 r0 r1 r2
  go_wp2_with fail
  refine zR (fun b=>w7.heap.size<=b\/b=w.heap.size+1+1) [(0,false),(1,false),(3,false),(4,false),(2,true),(5,true),(6,true),(7,true),(8,false),(9,true),(10,false)] (by kernel_rfl) (by kernel_rfl) (fun w8 hf8=>?_);have x8:Fr No w w8:=x7.step hf8 (fun _ _ h=>h);have u0:=hf8.heap s0 id;have u1:=hf8.heap s1 id;have u2:=hf8.heap s2 id;have z78:=hf8.size;have z07:=zE s2;clear s0 s1 s2;have t0:∀ g:Gr (fun b=>w7.heap.size<=b\/b=w.heap.size+1+1) w8,g.W.cell? ⟨w.heap.size,0,none⟩=some (.slice a ds.length cap):=fun g=>zB (g.fr.heap u0 (fun h=>by omega)) 0
  have cB:∀ g:Gr (fun b=>w7.heap.size<=b\/b=w.heap.size+1+1) w8,DevB g.W (w.heap.size+1) d:=fun g=>DevB.of (g.fr.heap u1 (fun h=>by omega))
  have c0:=fun g=>(cB g).c0
  have c1:=fun g=>(cB g).c1
  have c2:=fun g=>(cB g).c2
  have c3:=fun g=>(cB g).c3
  have c4:=fun g=>(cB g).c4
  have c5:=fun g=>(cB g).c5
  have c6:=fun g=>(cB g).c6
  have c7:=fun g=>(cB g).c7
  have c8:=fun g=>(cB g).c8
  have c9:=fun g=>(cB g).c9
  clear cB
  repeat (first | (apply zT;exact rfl;exact rfl;exact rfl;intro K hK;go_big_quiet_op;go_big_quiet_on) | (apply zW;exact rfl;exact rfl;exact rfl;intro K hK;go_big_quiet_op;go_big_quiet_on))
  clear c0 c1 c2 c3 c4 c5 c6 c7 c8 c9 t0;apply zi;exact rfl
  go_wp2_with fail
  refine(K4.out _ x8).mono ?_;rintro e w9 ⟨⟨v,cs,rfl,hown,hcop⟩,hf9⟩;have hcl:=hcop.len;rw[hcl]at hown;obtain⟨av,cv,rfl⟩:=zG hown;have x9:Fr No w w9:=x8.step hf9 (fun _ _ h=>h);have Hcl:=Lib.hid hcl;have Hcop:=Lib.hid hcop;have Hown:=Lib.hid hown;clear hcl hcop hown
  go_wp2_with fail
  refine OnlyN.mk ⟨hf9.mono (fun _ _ h=>h.elim),?_⟩;apply zi;exact rfl
  go_wp2_with fail
  refine(K5.out _ x9).mono ?_;rintro e w10 ⟨⟨a',c',rfl,hA',hB',hfr'⟩,hf10⟩;have HA':=Lib.hid (And.intro hA' (And.intro hB' hfr'));clear hA' hB' hfr'
  go_wp2_with fail
  refine OnlyN.mk ⟨hf10.mono (fun _ _ h=>h.elim),?_⟩;apply zi;exact rfl;obtain⟨W11,hW11⟩:∃ W11,W11=w10.alloc (.cells (Dev.vals { d with aa:=a',ac:=c' }) 34):=⟨_,rfl⟩
  have f11:Fr No w10 W11:=by rw[hW11];exact(Fr.refl _ _).alloc _
  have b11:W11.heap[w10.heap.size]?=some (.cells (Dev.vals { d with aa:=a',ac:=c' }) 34):=by rw[hW11];exact zD _ _
  unfold Dev.vals at hW11
  go_wp2_with fail
  refine OnlyN.mk ⟨((Fr.refl No _).alloc _).mono (fun _ _ h=>h.elim),?_⟩;rw[<-hW11];clear hW11;have f911:Fr No w9 W11:=hf10.step f11 (fun _ _ h=>h);have hins:=zDL w8.heap.size w10.heap.size av ds.length cv (flat cs) { d with aa:=a',ac:=c' } W11 (zJ Hown.out f911 (fun _ _=>id)) (by omega) b11 (by have h1:=hf9.size;have h2:=hf10.size;have h3:=f11.size;omega);apply zi;exact rfl
  go_wp2_with fail
  refine hins.mono ?_;rintro e w12 ⟨⟨a2,c2,rfl,hown12⟩,hf12⟩;have hbk:∀ b,(Value.slice av ds.length cv).ownBlock=some b->w8.heap.size<=b:=fun b hb=>zN Hown.out hb
  have Hown12:=Lib.hid hown12;have y2:=hf12.heap (f911.heap (hf9.heap u2 id) id) (fun h=>by have:=hbk _ h;omega);have f0:=zC y2 0;have g0:w12.cell? ⟨w.heap.size+1+1,0,none⟩=some (.slice none 0 0):=zB y2 0;clear hins hown12
  go_wp2_with fail
  refine OnlyN.mk ⟨hf12.mono (fun b _ h=>by have:=hbk b h;omega),?_⟩
  repeat (first | (apply zT;exact rfl;exact rfl;exact rfl;intro K hK;go_big_quiet_op;go_big_quiet_on) | (apply zW;exact rfl;exact rfl;exact rfl;intro K hK;go_big_quiet_op;go_big_quiet_on))
  apply zi;exact rfl
  go_wp2_with fail
  have f13:Fr (Is (w.heap.size+1+1)) w12 (w12.setCell ⟨w.heap.size+1+1,0,none⟩ (.slice a2 (ds.length+1) c2)):=Fr.setAt (Fr.refl _ _) _;refine OnlyN.mk ⟨f13.mono (fun b _ h=>by unfold Is at h;omega),?_⟩
  repeat (first | (apply zT;exact rfl;exact rfl;exact rfl;intro K hK;go_big_quiet_op;go_big_quiet_on) | (apply zW;exact rfl;exact rfl;exact rfl;intro K hK;go_big_quiet_op;go_big_quiet_on))
  refine zb ?_;have y3:=zF y2 0 (.slice a2 (ds.length+1) c2);have g3:(w12.setCell ⟨w.heap.size+1+1,0,none⟩ (.slice a2 (ds.length+1) c2)).cell? ⟨w.heap.size+1+1,0,none⟩=some (.slice a2 (ds.length+1) c2):=zB y3 0;have zz:w8.heap.size<=w9.heap.size/\w9.heap.size<=w10.heap.size/\w10.heap.size<=W11.heap.size:=⟨hf9.size,hf10.size,f11.size⟩
  generalize w12.setCell ⟨w.heap.size+1+1,0,none⟩ (.slice a2 (ds.length+1) c2)=W13 at *;clear g0 f0 y2 y3
  go_wp2_with fail
  refine bodyPost_ret (v:=.tuple #[.agg #[.slice a2 (ds.length+1) c2],.int .i64 0]) (by simp[results,Tryz.results89,go_sem,g3]) rfl ?_;have hlen2:(cs++[({ d with aa:=a',ac:=c' }:Dev)]).length=ds.length+1:=by simp[Hcl.out]
  have hown13:W13.ownsRow w8.heap.size 34 10 (.slice a2 (ds.length+1) c2) (cs++[({ d with aa:=a',ac:=c' }:Dev)]).length (flat (cs++[({ d with aa:=a',ac:=c' }:Dev)])):=by
   rw[hlen2,zBw];exact zJ Hown12.out f13 (fun b hb h=>by have:=zN Hown12.out hb;unfold Is at h;unfold From at this;omega)
  obtain⟨a3,c3,hv,hD,hfr3⟩:=Devs.of_own hown13;have hBT:=zAj hown13;injection hv with e1 e2 e3
  subst e1;subst e3;have hC11:Cop w8 W11 w8.heap.size (ds++[d]) (cs++[({ d with aa:=a',ac:=c' }:Dev)]):=by
   refine(Hcop.out.fr f911 (fun _ _ _ _=>id)).snoc ⟨rfl,⟨l,HA.out.no x8 (fun _=>id),HA'.out.1.no f11 (fun _=>id),HAN.out,by omega⟩,HA'.out.2.1.fr f11 (fun _ _=>id),fun ad e=>by have:=HA'.out.2.2 ad e;omega⟩
  have hC12:=hC11.own (zJ Hown.out f911 (fun _ _=>id)) hf12;have hC13:Cop w8 W13 w8.heap.size (ds++[d]) (cs++[({ d with aa:=a',ac:=c' }:Dev)]):=hC12.fr f13 (fun x hx ad e h=>by
   obtain⟨y,_,hy⟩:=hC12.mem hx;have:=hy.fresh ad e;unfold Is at h;omega)
  have hwz:=x8.size;have hat:∀ x∈ds++[d],∃ l,Atts w x.aa x.ac l/\x.an=l.length:=by
   intro x hx;rcases List.mem_append.1 hx with h | h
   ·obtain⟨l',g1,g2,_⟩:=(HL.out.el x h).att;exact⟨l',g1,g2⟩
   ·simp at h;subst h;exact⟨l,HA.out,HAN.out⟩
  refine⟨⟨a2,c2,cs++[({ d with aa:=a',ac:=c' }:Dev)],by rw[hlen2],hD,hBT,fun ad e=>by have:=hfr3 ad e;omega,hC13.src x8 hat hwz⟩,?_⟩;have hfin:Fr No w W13:=(((x9.step f911 (fun _ _ h=>h)).step hf12 (fun b hb h=>by have:=hbk b h;omega)).step f13 (fun b hb h=>by unfold Is at h;omega))
  exact hfin
theorem zf {w:World}{base:Nat}{e T:TypeId}{size:Nat}{v:Value}{n:Nat}{xs:List Value}(ho:w.ownsRow base e size v n xs){b:Nat}{cs:Array Value}(hb:w.heap[b]?=some (.cells cs T))(hne:T≠e):¬ v.ownBlock=some b:=by
 intro h;obtain⟨_,⟨rfl,_⟩ | ⟨g,cap,cur,rfl,hg,hbl,_⟩⟩:=ho
 ·cases h
 ·cases h;rw[hb]at hbl;cases hbl;exact hne rfl
def kcs (a:Option Addr)(n cap:Nat)(ev:Option Addr)(en ec:Nat)(ix:Int):Array Value:=#[.slice a n cap,.slice none 0 0,.slice none 0 0,.slice ev en ec,.int .i64 ix]
theorem zJ8 (kb:Nat)(a:Option Addr)(cap base:Nat)(ds:List Dev)(ev:Option Addr)(en ec:Nat)(ix act n:Int)(w:World)(hk:w.heap[kb]?=some (.cells (kcs a ds.length cap ev en ec ix) 105))(hl:Tr w base a cap ds)(hn:ds.length<=1000)(hx:(Lit.int .i64 n).wf=true)(hnm:∀ d∈ds,d.name.size<=1000):
  Calls Tryz.prog 91 #[.pointer (some ⟨kb,0,none⟩),.int .i64 act,.int .i64 n] w fun e w'=>(∃ s,e=.returned (.agg #[.int .i64 0,.int .i64 act,.int .i64 n,.string s,.string ⟨#[]⟩]))/\Fr No w w':=by
 obtain⟨W0,hW0⟩:∃ W0,W0=w.alloc (.cells #[.int .i64 0,.int .i64 0,.int .i64 0,.string ⟨#[]⟩,.string ⟨#[]⟩] 154):=⟨_,rfl⟩
 have x0:Fr No w W0:=by rw[hW0];exact(Fr.refl _ _).alloc _
 have b0:W0.heap[w.heap.size]?=some (.cells #[.int .i64 0,.int .i64 0,.int .i64 0,.string ⟨#[]⟩,.string ⟨#[]⟩] 154):=by rw[hW0];exact zD _ _
 have k0:W0.cell? ⟨kb,0,none⟩=some (.slice a ds.length cap):=zB (x0.heap hk id) 0;have hp:=zG3 a cap base ds n W0 (hl.no x0) hn hx hnm;clear hnm hl hk hx
 go_enter Tryz.func91,Tryz.ntmps91
 go_upto_region 1 with(fail)
 rw[<-hW0];clear hW0
 go_wp2_with fail
 refine hp.mono ?_;rintro e w1 ⟨⟨s,b,rfl⟩,hf1⟩;have b1:=hf1.heap b0 id;obtain⟨z0,z1,z2,z3,z4⟩:=cl5 b1;obtain⟨y0,y1,y2,y3,y4⟩:=fl5 b1;have hf:∀ v0 v1 v2 v3 v4,Fr No w (((((w1.setCell ⟨w.heap.size,0,none⟩ v0).setCell ⟨w.heap.size,1,none⟩ v1).setCell ⟨w.heap.size,2,none⟩ v2).setCell ⟨w.heap.size,3,none⟩ v3).setCell ⟨w.heap.size,4,none⟩ v4):=fun v0 v1 v2 v3 v4=>
  (x0.step hf1 (fun _ _ h=>h)).step (T:=Is w.heap.size) (((((Fr.refl _ _).setAt v0).setAt v1).setAt v2).setAt v3 |>.setAt v4) (fun b hb e=>by unfold Is at e;omega)
 have Hf:=Lib.hid hf;clear hf hp b0 b1 k0
 go_wp2_with fail
 refine bodyPost_ret (v:=.agg #[.int .i64 0,.int .i64 act,.int .i64 n,.string s,.string ⟨#[]⟩]) (by simp[results,Tryz.results91,go_sem,z0,z1,z2,z3,z4]) rfl ?_;exact⟨⟨s,rfl⟩,Hf.out _ _ _ _ _⟩
theorem infoE : (Tryz.prog.info? 154).map (fun i=>(i.zero,i.size,i.bytes))=some (some (.agg #[.int .i64 0,.int .i64 0,.int .i64 0,.string ByteArray.empty,.string ByteArray.empty]),5,56):=by kernel_rfl
theorem zKv (kb eb base:Nat)(a:Option Addr)(n cap:Nat)(ev:Option Addr)(en ec:Nat)(ix act i:Int)(s:ByteArray)(xs:List Value)(w:World)(hk:w.heap[kb]?=some (.cells (kcs a n cap ev en ec ix) 105))(hown:w.ownsRow base 154 5 (.slice ev en ec) en xs)(hen:en<=100000)(hb:w.heap[eb]?=some (.cells #[.int .i64 0,.int .i64 act,.int .i64 i,.string s,.string ⟨#[]⟩] 154))(hbase:base<=w.heap.size):
  Calls Tryz.prog 90 #[.pointer (some ⟨kb,0,none⟩),.slice (some ⟨eb,0,none⟩) 1 1] w fun e w'=>e=.returned (.tuple #[])/\
   (∃ ev' ec' xs',w'.heap[kb]?=some (.cells (kcs a n cap ev' (en+1) ec' ix) 105)/\w'.ownsRow base 154 5 (.slice ev' (en+1) ec') (en+1) xs')/\Fr (fun b=>b=kb\/(Value.slice ev en ec).ownBlock=some b) w w':=by
 obtain⟨i0,hi0,hz0,hz1,hz2⟩:=info_parts infoE;have hnk:=zf hown hk (by decide)
 go_enter Tryz.func90,Tryz.ntmps90
 go_wp2_with fail
 go_loopw [8] (fun v wr=>(v=.int .i64 0/\wr=w)\/(v=.int .i64 1/\(∃ ev' ec' xs',wr.heap[kb]?=some (.cells (kcs a n cap ev' (en+1) ec' ix) 105)/\wr.ownsRow base 154 5 (.slice ev' (en+1) ec') (en+1) xs')/\Fr (fun b=>b=kb\/(Value.slice ev en ec).ownBlock=some b) w wr)) (fun v _=>1-(intOf v).toNat)
 case atStart=>exact .inl ⟨rfl,rfl⟩
 case round=>
  rcases hrel with⟨rfl,rfl⟩ | ⟨rfl,hres,hf⟩
  ·have e0:wr.cell? ⟨eb,0,none⟩=some (.int .i64 0):=zB hb 0;obtain⟨-,e1,e2,e3,e4⟩:=cl5 hb;have k3:wr.cell? ⟨kb,3,none⟩=some (.slice ev en ec):=zB hk 3;obtain⟨W1,hW1⟩:∃ W1,W1=wr.alloc (.cells #[.int .i64 0,.int .i64 act,.int .i64 i,.string s,.string ⟨#[]⟩] 154):=⟨_,rfl⟩
   have x1:Fr No wr W1:=by rw[hW1];exact(Fr.refl _ _).alloc _
   have b1:W1.heap[wr.heap.size]?=some (.cells #[.int .i64 0,.int .i64 act,.int .i64 i,.string s,.string ⟨#[]⟩] 154):=by rw[hW1];exact zD _ _
   go_upto_region 3 with(fail)
   rw[<-hW1];clear hW1 e0 e1 e2 e3 e4;have k3:W1.cell? ⟨kb,3,none⟩=some (.slice ev en ec):=zB (x1.heap hk id) 3;have e0:W1.cell? ⟨wr.heap.size,0,none⟩=some (.int .i64 0):=zB b1 0;have f0:W1.frozen? ⟨wr.heap.size,0,none⟩=false:=zC b1 0;obtain⟨W2,hW2⟩:∃ W2,W2=W1.setCell ⟨wr.heap.size,0,none⟩ (.int .i64 ((en:Int)+1)):=⟨_,rfl⟩
   have x2:Fr (Is wr.heap.size) W1 W2:=by rw[hW2];exact Fr.setAt (Fr.refl _ _) _
   have b2:W2.heap[wr.heap.size]?=some (.cells #[.int .i64 ((en:Int)+1),.int .i64 act,.int .i64 i,.string s,.string ⟨#[]⟩] 154):=by rw[hW2];exact zF b1 0 _
   go_upto_region 4 with(fail)
   rw[<-hW2];have k2:=x2.heap (x1.heap hk id) (fun e=>by have:=zE hk;unfold Is at e;omega);have HX2:Hid (Fr No wr W2):=x1.step x2 (fun b hb e=>by unfold Is at e;omega);have hown2:=zJ hown HX2.out (fun _ _=>id);have hob:=fun b (h:(Value.slice ev en ec).ownBlock=some b)=>zU hown h
   have hkl:=zE hk;have hsz2:=x1.size;have hsz3:=x2.size;have hbl:=zE b2;clear k3 e0 f0 b1 x1 x2;refine zY (fun b=>b=kb\/(Value.slice ev en ec).ownBlock=some b\/W2.heap.size<=b) (.q 0 (.q 1 (.q 2 (.q 3 (.q 5 (.m2 4 (.m1 6 (.m1 7 (.q 8 (.q 9 (.m1 10 .fin))))) 6 (.m1 4 (.m1 7 (.q 8 (.q 9 (.m1 10 .fin))))))))))) _ (by kernel_rfl) (by kernel_rfl) (fun W3 hf3=>?_) (fun _ _ h=>h);have hk3:=hf3.heap k2 id;have b3:=hf3.heap b2 id;have hown3:=zJ hown2 hf3 (fun _ _=>id);have HX3:Hid (Fr No wr W3):=HX2.out.step hf3 (fun _ _ h=>h);have hsz4:=hf3.size;have bB:∀ g:Gr (fun b=>b=kb\/(Value.slice ev en ec).ownBlock=some b\/W2.heap.size<=b) W3,g.W.heap[wr.heap.size]?=some (.cells #[.int .i64 ((en:Int)+1),.int .i64 act,.int .i64 i,.string s,.string ⟨#[]⟩] 154):=fun g=>g.fr.heap b3 (fun h=>by
    rcases h with h | h | h
    ·omega
    ·have:=hob _ h;omega
    ·omega)
   have e0:=fun g=>zB (bB g) 0
   have e1:=fun g=>zB (bB g) 1
   have e2:=fun g=>zB (bB g) 2
   have e3:=fun g=>zB (bB g) 3
   have e4:=fun g=>zB (bB g) 4
   simp only[List.getElem?_toArray,List.getElem?_cons_zero,List.getElem?_cons_succ]at e0 e1 e2 e3 e4;clear bB
   repeat (first | (apply zM;exact rfl;exact rfl;exact rfl;intro K hK;go_big_quiet_op;go_big_quiet_on) | (apply zO;exact rfl;exact rfl;exact rfl;intro K hK;go_big_quiet_op;go_big_quiet_on))
   clear e0 e1 e2 e3 e4;have c3:W3.cell? ⟨kb,3,none⟩=some (.slice ev en ec):=zB hk3 3;refine zh rfl rfl ?_ ?_
   focus
    go_wp2_with fail
    refine OnlyN.mk ⟨Fr.refl _ _,?_⟩;apply zH;exact rfl
    go_wp2_with fail
    refine OnlyN.mk ⟨((Fr.refl No _).alloc _).mono (fun _ _ h=>h.elim),?_⟩;clear c3
   rotate_left 1
   focus
    go_wp2_with fail
    refine OnlyN.mk ⟨((Fr.refl No _).alloc _).mono (fun _ _ h=>h.elim),?_⟩;apply zH;exact rfl;have c7:∀ o,(W3.alloc o).cell? ⟨kb,3,none⟩=some (.slice ev en ec):=fun o=>((Fr.refl No W3).alloc o).cell c3 id
    clear c3
    go_wp2_with fail
    refine OnlyN.mk ⟨Fr.refl _ _,?_⟩;clear c7
   all_goals (
    apply zH;exact rfl
    go_wp2_with (at_builtin;refine wpList_append_own _ rfl _ _ 103 rfl base 154 i0 (.agg #[.int .i64 0,.int .i64 0,.int .i64 0,.string ByteArray.empty,.string ByteArray.empty]) 5 56 Tryz.underlying103 hi0 hz0 hz1 hz2 rfl (by decide) _ _ _ rfl (hown3.alloc _) ⟨W3.heap.size,0,none⟩ 1 1 [.int .i64 ((en:Int)+1),.int .i64 act,.int .i64 i,.string s,.string ⟨#[]⟩] rfl rfl (zX _ #[.int .i64 ((en:Int)+1),.int .i64 act,.int .i64 i,.string s,.string ⟨#[]⟩] _ rfl) (fun u hu=>by simp at hu;rcases hu with rfl | rfl | rfl | rfl | rfl<;>rfl) (by unfold maxLen;omega) (by omega) (by first | omega | (simp;done) | (simp;omega)) ?_;intro v' w4 hown4 hgrow4 _;obtain⟨av',cv',rfl⟩:=zG hown4)
    have hg4:Fr (fun b=>(Value.slice ev en ec).ownBlock=some b) _ w4:=Fr.of_grown hgrow4;have k4:=hg4.heap (((Fr.refl No W3).alloc (.cells #[.int .i64 ((en:Int)+1),.int .i64 act,.int .i64 i,.string s,.string ⟨#[]⟩] 154)).heap hk3 id) (fun e=>hnk e);have c3:w4.cell? ⟨kb,3,none⟩=some (.slice ev en ec):=zB k4 3;have f3:w4.frozen? ⟨kb,3,none⟩=false:=zC k4 3;have hnk4:=zf hown4 k4 (by decide);refine OnlyN.mk ⟨hg4.mono (fun b _ h=>.inr (.inl h)),?_⟩
    repeat (first | (apply zM;exact rfl;exact rfl;exact rfl;intro K hK;go_big_quiet_op;go_big_quiet_on) | (apply zO;exact rfl;exact rfl;exact rfl;intro K hK;go_big_quiet_op;go_big_quiet_on))
    apply zH;exact rfl;have f5:Fr (Is kb) w4 (w4.setCell ⟨kb,3,none⟩ (.slice av' (en+1) cv')):=Fr.setAt (Fr.refl _ _) _;have k5:(w4.setCell ⟨kb,3,none⟩ (.slice av' (en+1) cv')).heap[kb]?=some (.cells (kcs a n cap av' (en+1) cv' ix) 105):=zF k4 3 _;have hown5:=zJ hown4 f5 (fun b hb h=>by unfold Is at h;subst h;exact hnk4 hb);have hff:Fr (fun b=>b=kb\/(Value.slice ev en ec).ownBlock=some b) wr (w4.setCell ⟨kb,3,none⟩ (.slice av' (en+1) cv')):=(((HX3.out.alloc _).mono (fun _ _ h=>h.elim)).step hg4 (fun b _ h=>.inr h)).step f5 (fun b _ h=>.inl h);have HR:=Lib.hid (And.intro k5 (And.intro hown5 hff));clear hown4 hgrow4 hg4 k4 f5 k5 hown5 hff hnk4
    go_wp2_with fail
    refine OnlyN.mk ⟨Fr.setCell (Fr.refl _ _) (fun _=>.inl rfl) _,?_⟩;refine zS ?_;clear hown3
    go_wp2_with fail
    go_roundw
    case rel=>exact .inr ⟨rfl,⟨_,_,_,HR.out.1,HR.out.2.1⟩,HR.out.2.2⟩
    case measure=>simp[intOf]
    )
  ·go_wp2_with fail
   go_end0
   exact⟨rfl,hres,hf⟩
end Go.Proofs.YtmajgldaplkpiaaGreatDoor
