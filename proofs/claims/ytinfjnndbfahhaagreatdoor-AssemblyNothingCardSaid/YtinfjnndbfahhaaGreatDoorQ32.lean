import Derived.Test.YtinfjnndbfahhaaGreatDoorQ31
namespace Go.Proofs.YtinfjnndbfahhaaGreatDoor
open Go.RowKit Go.Maps Go.Shelf
set_option linter.unusedVariables false
set_option maxRecDepth 100000
set_option maxHeartbeats 4000000
attribute [local go_sem] Oper.semAt_some
theorem zLo (pb mb a9:Nat)(a:Option Addr)(v:Nat)(ds:List Dev)(ao:Option Addr)(no co:Nat)(g0:ByteArray×ByteArray->Option Value)(N:Nat)(w:World)(hl:Tr w a9 a v ds)(hn:ds.length<=250)(hE:Env w)
  (b0:w.heap[pb]?=some (.cells #[.slice a ds.length v,.slice ao no co] 135)) (hQ:QMap w mb g0 N) (hg:∀ p,∃ y:Vir,(g0 p).getD zBf=.agg #[.string y.q,.string y.o,.string y.c,.int .i64 y.r]) (hv:∀ d∈ds,virB ds d.index=false):
  Calls Tryz.prog 67 #[.pointer (some ⟨pb,0,none⟩),.map (some mb)] w fun e w'=>e=.returned (.tuple #[])/\Fr No w w':=by
 have t0:w.cell? ⟨pb,0,none⟩=some (.slice a ds.length v):=zB b0 0;have f9:=hl.dv.lenmax;have HV:=zh hv;have HN:=zh hn;have d8:=zh hg;have HA:=zh (And.intro hl (And.intro hE (And.intro b0 hQ)));clear hl hn hE b0 hQ hg hv
 go_enter Tryz.func67,Tryz.ntmps67
 go_wp2_with fail
 clear t0
 go_loopw [17] (fun x wr=>∃ (j:Nat),j<=ds.length/\x=.int .i64 (j:Int)/\Fr No w wr) (fun x _=>ds.length-(intOf x).toNat)
 case atStart=>exact⟨0,by omega,rfl,Fr.refl _ _⟩
 case round=>
  obtain⟨j,hj,rfl,hf⟩:=hrel;by_cases d9:j<ds.length
  ·have b8:(j:Int)<ds.length:=by omega
   obtain⟨bb,b1,d,rfl,hd,c0,c1,c2,c3,c4,c5,c6,c7,c8,c9⟩:=((HA.out.1).no hf).dv.dev d9;have I:=List.mem_of_getElem? hd;obtain⟨a,b2⟩:∃ a:Option Addr,a=some ⟨bb,b1,none⟩:=⟨_,rfl⟩
   obtain⟨u,U⟩:∃ u,u=wr.alloc (.cells d.vals 36):=⟨_,rfl⟩
   have b9:Fr No wr u:=by rw[U];exact(Fr.refl _ _).alloc _
   have d1:u.heap[wr.heap.size]?=some (.cells d.vals 36):=by rw[U];exact zD _ _
   have J:=hf.step b9 zi;have D1:=zh d1;have f4:Hid (wr.heap.size<u.heap.size):=zC d1;have f5:=zh J;have a2:=J.heap HA.out.2.2.1 id;have L:=HA.out.1.no J;have d0:=HA.out.2.1.no J;have b3:=HA.out.2.2.2.fr J id;rw[<-b2]at a2 L;unfold Dev.vals at U;clear hd d1 hf b9 J;have b4:Hid (mb<u.heap.size/\pb<u.heap.size):=⟨b3.lt,zC a2⟩
   have d2:Hid (∀ W,Fr No u W->QMap W mb g0 N):=fun W hW=>b3.fr hW id
   obtain⟨P,hP⟩:∃ P,P=plc ds d.parent:=⟨_,rfl⟩
   obtain⟨xo,b5⟩:∃ xo,xo=d.orig:=⟨_,rfl⟩
   have a3:Hid (∀ W,Fr No u W->Calls Tryz.prog 115 #[.agg #[.slice a ds.length v],.agg d.vals] W fun e w'=>e=.returned (.agg #[.string P,.string xo])/\Fr No W w'):=fun W hW=>by
    rw[hP,b5];have hT:=L.no hW;exact zEb a v ds d W hT.dv hT.wf.ok (by have:=HN.out;omega) (hT.wf.ok.pwf I)
   have a4:Hid (P.size<=maxLen/\xo.size<=maxLen):=by
    rw[hP,b5];have h1:=zBJ L.wf.ok HN.out d.parent;have h2:=L.wf.ok.sz d I;refine⟨?_,?_⟩<;>unfold maxLen<;>omega
   have d4:Hid (∀ W,Fr No u W->Calls Tryz.prog 61 #[.agg #[.slice a ds.length v],.int .i64 d.index] W fun e w'=>e=.returned (.bool false)/\Fr No W w'):=fun W hW=>by
    have:=zCE a v ds a9 d.index W (L.no hW) (d0.no hW).err;rw[HV.out d I]at this;exact this
   obtain⟨y,hy⟩:=d8.out (P,xo);obtain⟨bk,d5⟩:∃ bk,bk=(g0 (P,xo)).isSome:=⟨_,rfl⟩
   have HY:=zh hy;have g1:=zh d5.symm;have b6:=zh a2;unfold Dev.vals at a3;clear hP b5 hy d5 b3 L d0 I a2;rw[b2]at b6 a3 d4;clear b2 a
   go_upto_region 3 with(fail)
   rw[<-U];clear U c0 c1 c2 c3 c4 c5 c6 c7 c8 c9;refine zb (From u.heap.size) (.q 0 (.q 1 (.q 2 (.q 3 (.q 4 (.q 5 (.m2 6 (.q 7 (.m1 8 (.m1 9 .fin))) 8 (.m1 6 (.q 7 (.m1 9 .fin)))))))))) _ (by kernel_rfl) (by kernel_rfl) (fun W3 a5=>?_) zj;have d3:=a5.heap D1.out id;have x3:=a5.heap b6.out id;have f:∀ g:Gr (From u.heap.size) W3,DevB g.W wr.heap.size d:=fun g=>DevB.of (g.fr.heap d3 (by unfold From;have:=f4.out;omega))
   have e0:=fun g=>(f g).c0
   have e1:=fun g=>(f g).c1
   have e2:=fun g=>(f g).c2
   have e3:=fun g=>(f g).c3
   have e4:=fun g=>(f g).c4
   have e5:=fun g=>(f g).c5
   have e6:=fun g=>(f g).c6
   have e7:=fun g=>(f g).c7
   have e8:=fun g=>(f g).c8
   have e9:=fun g=>(f g).c9
   have x0:∀ g:Gr (From u.heap.size) W3,g.W.cell? ⟨pb,0,none⟩=some (.slice (some ⟨bb,b1,none⟩) ds.length v):=fun g=>zB (g.fr.heap x3 (by unfold From;have:=b4.out;omega)) 0
   have a6:=zh a5;clear f d3 x3 a5
   repeat((first|apply zM rfl rfl rfl|apply zO rfl rfl rfl);intro K hK;go_big_quiet_op;go_big_quiet_on)
   clear e0 e1 e2 e3 e4 e5 e6 e7 e8 e9 x0;refine zv rfl rfl ?_ ?_
   focus
    go_wp2_with fail
    refine(a3.out W3 a6.out).mono ?_;rintro e Wc ⟨rfl,D⟩
    go_wp2_with fail
    refine zm D ?_;have O:=zh (a6.out.step D zi);have V:∀ W,(∃ g:Gr (From u.heap.size) Wc,W=g.W)->(Instr.lookup 80 (.map (some mb)) (.agg #[.string P,.string xo]) false).run Tryz.prog W=.ok (.agg #[.string y.q,.string y.o,.string y.c,.int .i64 y.r]) W:=fun W hW=>by
     obtain⟨g,rfl⟩:=hW;have:=((d2.out _ O.out).fr g.fr (by unfold From;have:=b4.out;omega)).look (zBo g.W) Tryz.underlying80 a4.out.1 a4.out.2;rw[this,HY.out]
    apply zM rfl rfl rfl;intro K hK;refine zBV rfl _ _ 80 rfl (.map (some mb)) (.agg #[.string P,.string xo]) _ rfl rfl V ?_
    go_frame
    go_big_quiet_on;clear V;clear D;apply zH;exact rfl;obtain⟨R,z⟩:∃ R,R=Wc.alloc (.cells #[.string ⟨#[]⟩,.string ⟨#[]⟩,.string ⟨#[]⟩,.int .i64 0] 94):=⟨_,rfl⟩
    have X:Fr No Wc R:=by rw[z];exact(Fr.refl _ _).alloc _
    have qa:R.heap[Wc.heap.size]?=some (.cells #[.string ⟨#[]⟩,.string ⟨#[]⟩,.string ⟨#[]⟩,.int .i64 0] 94):=by rw[z];exact zD _ _
    go_wp2_with fail
    refine zp ?_;rw[<-z];clear z;have Y:Hid (Fr No u R):=O.out.step X zi;have A:Hid (u.heap.size<=Wc.heap.size):=O.out.size;have Z:=qa;clear X qa;obtain⟨B,hB⟩:∃ B,B=Wc.heap.size:=⟨_,rfl⟩
    rw[<-hB]at Z A ⊢;clear hB;obtain⟨z0,z1,z2,z3⟩:=cl4 Z;obtain⟨f0,f1,f2,f3⟩:=fl4 Z;have h4:=zh (set4 Z rfl (.string y.q) (.string y.o) (.string y.c) (.int .i64 y.r));clear Z;apply zH;exact rfl
    go_wp2_with fail
    refine OnlyN.mk ⟨h4.out.2.mono (fun b _ h=>by unfold Is at h;unfold From;have:=A.out;omega),?_⟩;refine zX ?_;obtain⟨w5,F⟩:∃ w5,w5=((((R.setCell ⟨B,0,none⟩ (.string y.q)).setCell ⟨B,1,none⟩ (.string y.o)).setCell ⟨B,2,none⟩ (.string y.c)).setCell ⟨B,3,none⟩ (.int .i64 y.r)):=⟨_,rfl⟩
    rw[<-F];have C:=h4.out;rw[<-F]at C;have a7:Hid (Fr No u w5):=Y.out.step C.2 (fun b hb h=>by unfold Is at h;have:=A.out;omega);have f6:=zh C.1;clear F h4 C z0 z1 z2 z3 f0 f1 f2 f3 Y A
   rotate_left 1
   focus
    obtain⟨R,z⟩:∃ R,R=W3.alloc (.cells #[.string ⟨#[]⟩,.string ⟨#[]⟩,.string ⟨#[]⟩,.int .i64 0] 94):=⟨_,rfl⟩
    have X:Fr No W3 R:=by rw[z];exact(Fr.refl _ _).alloc _
    have qa:R.heap[W3.heap.size]?=some (.cells #[.string ⟨#[]⟩,.string ⟨#[]⟩,.string ⟨#[]⟩,.int .i64 0] 94):=by rw[z];exact zD _ _
    go_wp2_with fail
    refine zp ?_;rw[<-z];clear z;have d6:=zh (a6.out.step X zi);clear X;apply zH;exact rfl
    go_wp2_with fail
    refine(a3.out R d6.out).mono ?_;rintro e Wc ⟨rfl,D⟩
    go_wp2_with fail
    refine zm D ?_;have qb:=D.heap qa id;clear qa;have O:=zh (d6.out.step D zi);have V:∀ W,(∃ g:Gr (From u.heap.size) Wc,W=g.W)->(Instr.lookup 80 (.map (some mb)) (.agg #[.string P,.string xo]) false).run Tryz.prog W=.ok (.agg #[.string y.q,.string y.o,.string y.c,.int .i64 y.r]) W:=fun W hW=>by
     obtain⟨g,rfl⟩:=hW;have:=((d2.out _ O.out).fr g.fr (by unfold From;have:=b4.out;omega)).look (zBo g.W) Tryz.underlying80 a4.out.1 a4.out.2;rw[this,HY.out]
    apply zM rfl rfl rfl;intro K hK;refine zBV rfl _ _ 80 rfl (.map (some mb)) (.agg #[.string P,.string xo]) _ rfl rfl V ?_
    go_frame
    go_big_quiet_on;clear V;clear D;have Y:Hid (Fr No u Wc):=O.out;have A:Hid (u.heap.size<=W3.heap.size):=a6.out.size;have Z:=qb;clear qb;obtain⟨B,hB⟩:∃ B,B=W3.heap.size:=⟨_,rfl⟩
    rw[<-hB]at Z A ⊢;clear hB;obtain⟨z0,z1,z2,z3⟩:=cl4 Z;obtain⟨f0,f1,f2,f3⟩:=fl4 Z;have h4:=zh (set4 Z rfl (.string y.q) (.string y.o) (.string y.c) (.int .i64 y.r));clear Z;apply zH;exact rfl
    go_wp2_with fail
    refine OnlyN.mk ⟨h4.out.2.mono (fun b _ h=>by unfold Is at h;unfold From;have:=A.out;omega),?_⟩;refine zX ?_;obtain⟨w5,F⟩:∃ w5,w5=((((Wc.setCell ⟨B,0,none⟩ (.string y.q)).setCell ⟨B,1,none⟩ (.string y.o)).setCell ⟨B,2,none⟩ (.string y.c)).setCell ⟨B,3,none⟩ (.int .i64 y.r)):=⟨_,rfl⟩
    rw[<-F];have C:=h4.out;rw[<-F]at C;have a7:Hid (Fr No u w5):=Y.out.step C.2 (fun b hb h=>by unfold Is at h;have:=A.out;omega);have f6:=zh C.1;clear F h4 C z0 z1 z2 z3 f0 f1 f2 f3 Y A
   all_goals (
    go_wp2_with fail
    refine zQ No [(0,false),(1,false),(2,false),(3,false),(4,false),(5,false),(6,true),(7,false),(8,false),(9,false),(11,false),(12,false),(10,true),(13,false),(14,false)] (by kernel_rfl) (by kernel_rfl) (fun w6 a8=>?_);have d3:=a8.heap (a7.out.heap D1.out id) id;have x3:=a8.heap (a7.out.heap b6.out id) id;have f:∀ g:Gr (No) w6,DevB g.W wr.heap.size d:=fun g=>DevB.of (g.fr.heap d3 (id))
    have e0:=fun g=>(f g).c0
    have e1:=fun g=>(f g).c1
    have e2:=fun g=>(f g).c2
    have e3:=fun g=>(f g).c3
    have e4:=fun g=>(f g).c4
    have e5:=fun g=>(f g).c5
    have e6:=fun g=>(f g).c6
    have e7:=fun g=>(f g).c7
    have e8:=fun g=>(f g).c8
    have e9:=fun g=>(f g).c9
    have x0:∀ g:Gr No w6,g.W.cell? ⟨pb,0,none⟩=some (.slice (some ⟨bb,b1,none⟩) ds.length v):=fun g=>zB (g.fr.heap x3 id) 0
    have d7:=zh (a7.out.step a8 zi);clear f d3 x3 a8
    repeat((first|apply zS rfl rfl rfl|apply zW rfl rfl rfl);intro K hK;go_big_quiet_op;go_big_quiet_on)
    clear e0 e1 e2 e3 e4 e5 e6 e7 e8 e9 x0;apply zk;exact rfl
    go_wp2_with fail
    refine(d4.out w6 d7.out).mono ?_;rintro e w7 ⟨rfl,b7⟩;have f7:=zh (d7.out.step b7 zi)
    go_wp2_with fail
    refine zm b7 ?_;clear b7
    repeat((first|apply zS rfl rfl rfl|apply zW rfl rfl rfl);intro K hK;go_big_quiet_op;go_big_quiet_on)
    apply zk;exact rfl
    go_wp2_with fail
    refine zq ?_
    repeat((first|apply zS rfl rfl rfl|apply zW rfl rfl rfl);intro K hK;go_big_quiet_op;go_big_quiet_on)
    refine zY ?_;have f8:=zh (f5.out.step f7.out zi)
    go_wp2_with fail
    go_roundw
    case rel=>exact⟨j+1,by omega,by go_num,f8.out⟩
    case measure=>simp[intOf];omega
    )
  ·obtain rfl:j=ds.length:=by omega
   have b8:¬ (ds.length:Int)<ds.length:=by omega
   have Hf:=zh hf;clear hf
   go_wp2_with fail
   go_end0
   exact⟨rfl,Hf.out⟩
theorem zJX (R Z a7:Nat)(a:Option Addr)(f:Nat)(ds:List Dev)(ao:Option Addr)(no co:Nat)(g0:ByteArray×ByteArray->Option Value)(N:Nat)(w:World)(hl:Tr w a7 a f ds)(hn:ds.length<=250)(hE:Env w)
  (b5:w.heap[R]?=some (.cells #[.slice a ds.length f,.slice ao no co] 135)) (hQ:QMap w Z g0 N) (hg:∀ p,∃ y:Vir,(g0 p).getD zBf=.agg #[.string y.q,.string y.o,.string y.c,.int .i64 y.r]) (hv:∀ d∈ds,virB ds d.index=false):
  Calls Tryz.prog 66 #[.pointer (some ⟨R,0,none⟩),.map (some Z)] w fun e w'=>e=.returned (.tuple #[])/\Fr No w w':=by
 refine(callsIn_wide (n:=12)).1 (callsIn_of_wp_marks Tryz.func66 rfl trivial (wpIn_wide.2 ?_));simp only[Tryz.ntmps66,List.size_toArray,List.length_cons,List.length_nil,Nat.reduceAdd,Nat.reduceSub,Array.replicate_succ,Array.replicate_zero,List.push_toArray,List.append_toArray,List.nil_append,List.cons_append];have HV:=zh hv;have HN:=zh hn;have g8:=zh hg;obtain⟨W0,a2⟩:∃ W0,W0=(w.alloc (.cells #[.pointer (some ⟨R,0,none⟩)] 133)).alloc (.cells #[.map (some Z)] 80):=⟨_,rfl⟩
 have X:Fr No w W0:=by rw[a2];exact((Fr.refl _ _).alloc _).alloc _
 have b2:W0.heap[w.heap.size]?=some (.cells #[.pointer (some ⟨R,0,none⟩)] 133):=by rw[a2];exact zI _ _ _
 have b3:W0.heap[w.heap.size+1]?=some (.cells #[.map (some Z)] 80):=by rw[a2];exact zL _ _ _
 have f5:W0.heap.size=w.heap.size+2:=by rw[a2];simp
 have t2:W0.cell? ⟨w.heap.size,0,none⟩=some (.pointer (some ⟨R,0,none⟩)):=zB b2 0;have t0:W0.cell? ⟨R,0,none⟩=some (.slice a ds.length f):=zB (X.heap b5 id) 0;have f6:=zh f5;have h7:=hl.dv.lenmax;clear f5
 go_upto_region 1 with(fail)
 rw[<-a2];clear a2
 go_wp2_with fail
 refine(zEZ _ _ _ _).mono ?_;rintro e w1 ⟨rfl,rfl⟩;have hx:Fr No W0 (W0.alloc (.cells #[.slice a ds.length f] 46)):=(Fr.refl _ _).alloc _;have db:=zD W0 (.cells #[.slice a ds.length f] 46);have I:=X.step hx zi;have d2:=hx.heap b2 id;have d3:=hx.heap b3 id;rw[f6.out]at db;clear t0 t2 b2 b3 hx X
 go_wp2_with fail
 rw[f6.out];generalize W0.alloc (.cells #[.slice a ds.length f] 46)=W2 at *;have HA:=zh (And.intro (hl.no I) (And.intro (hE.no I) (And.intro (I.heap b5 id) (hQ.fr I id))));have HD:=zh (And.intro d2 d3);refine(wpIn_wide (n:=12)).1 (zAD (α:=Int×Dev) (T:=fun _=>False) (V0:=fun _=>False) rfl (by omega) (gf:=144) (lb:=#[.pointer (some ⟨w.heap.size+2,0,none⟩)]) rfl trivial (enters_of Tryz.func144 (by kernel_rfl) rfl) (encs:=fun x:Int×Dev=>#[.int .i64 x.1,.agg x.2.vals]) (fun _=>rfl) (fun b h=>h.elim) (fun b h=>h.elim)
  (zAs 11 (by omega) (w.heap.size+2) a f ds W2 (fun _=>False) db HA.out.1.dv (by omega) ⟨id,fun _ _ _=>id⟩)
  (fun f7 V W=>(∀ b,¬ V b)/\Fr (From W2.heap.size) W2 W) (fun s V A h b hb=>(h.1 b hb).elim) (fun s V A B S h hf hS=>⟨h.1,h.2.step hf (fun b hb hs=>by
   rcases(hS b hs).2 with h' | h'
   ·exact h'.elim
   ·unfold From;omega)⟩)
  ⟨fun b=>id,Fr.refl _ _⟩
  (fun x V a' W=>∃ Bx,W2.heap.size+2<=Bx/\W.heap[Bx]?=some (.cells x.2.vals 36)/\a'={ tmps:=#[.pointer (some ⟨R,0,none⟩),.map (some Z),.pointer (some ⟨w.heap.size,0,none⟩),.pointer (some ⟨w.heap.size+1,0,none⟩),undef,.pointer (some ⟨Bx,0,none⟩),undef,undef,undef,undef,.pointer (some ⟨R,0,none⟩),.pointer (some ⟨R,0,none⟩),.pointer (some ⟨R,0,none⟩),.pointer (some ⟨R,0,none⟩),.slice a ds.length f,.func (.func 144) #[] #[.pointer (some ⟨w.heap.size+2,0,none⟩)],.int .i64 x.1,.agg x.2.vals,undef,undef,undef,undef,undef,undef,undef,undef,undef,undef,undef,undef,undef,undef,undef,undef,undef,undef,undef,undef,undef,undef,undef,undef,undef,undef,undef,undef,undef,undef,undef,undef,undef,undef,undef,undef,undef,undef,undef,undef,undef,undef,undef,undef,undef,undef,undef,undef,undef,undef,undef,undef,undef,undef,undef,undef,undef,undef,undef,undef,undef],defers:=[] })
  (fun x V a' A B h hf=>by obtain⟨Bx,h1,h2,h3⟩:=h;exact⟨Bx,h1,hf.heap h2 (fun e=>by unfold Is at e;omega),h3⟩)
  ?assign ?body ?done)
 case assign=>
  intro l f7 V x W K hi d0 J;have h8:=fun a' W' (h1:Fr No W W') h2=>J a' W' h1 h2
  clear hl hE b5 hQ hg hv hn I d2 d3 db;unfold Dev.vals
  gi_wp2
  exact J _ _ ((Fr.refl _ _).alloc _) ⟨W.heap.size,d0,zD _ _,rfl⟩
 case done=>
  rintro V W hi J h9;have d1:Fr (Is W2.heap.size) W (W.putObj W2.heap.size (.deferred none)):=Fr.putObj _ _ _ rfl;have f8:Hid (Fr No w (W.putObj W2.heap.size (.deferred none))):=(I.step ((hi.2.step d1 (fun b hb e=>by unfold Is at e;unfold From;omega)).mono (T:=No) (fun b hb h=>by unfold From at h;omega)) zi)
  clear hi d1 I
  go_wp2_with fail
  refine⟨by simp,.inl ⟨_,_,rfl,run_takeDeferred J,?_⟩⟩;exact⟨.tuple #[],by simp[results,Tryz.results66,go_sem],rfl,f8.out⟩
 case body=>
  rintro l f7 V ⟨xi,d⟩ a' u hi ⟨Bx,i0,d5,rfl⟩ d4 d0;obtain⟨hV,L⟩:=hi;have Y:d∈ds:=by
   have h1:((xi,d):Int×Dev)∈revR ds:=d4.subset (by simp);unfold revR at h1;obtain⟨p,h2,h3⟩:=List.mem_map.1 h1;rw[List.mem_reverse]at h2;have h4:=List.mem_zipIdx h2;injection h3 with _ h5
   rw[<-h5,h4.2.2];exact List.getElem_mem _
  have v:∀ b,b<W2.heap.size->¬ From W2.heap.size b:=fun b h h'=>by unfold From at h';omega
  have D1:=zh d5;have b6:Hid (Bx<u.heap.size/\w.heap.size<u.heap.size/\w.heap.size+1<u.heap.size):=⟨zC d5,by have:=zC HD.out.1;omega,by have:=zC HD.out.2;omega⟩
  have b7:=zh (And.intro (L.heap HD.out.1 (v _ (zC HD.out.1))) (L.heap HD.out.2 (v _ (zC HD.out.2))));have d6:=L.heap HA.out.2.2.1 (v _ (zC HA.out.2.2.1));have a8:Tr u a7 a f ds:=HA.out.1.keep L (fun b hb _=>v b hb);have f9:Env u:=HA.out.2.1.fr L (fun b hb=>v b (by have:=HA.out.2.1.sz;omega));have d7:=HA.out.2.2.2.fr L (v _ HA.out.2.2.2.lt);have HI:=zh (And.intro hV L);clear hl hE b5 hQ hg hv hn I d2 d3 db hV L d4 v d5;have a9:Hid (Z<u.heap.size/\R<u.heap.size):=⟨d7.lt,zC d6⟩
  have g1:Hid (∀ W,Fr No u W->QMap W Z g0 N):=fun W X=>d7.fr X id
  obtain⟨P,hP⟩:∃ P,P=plc ds d.parent:=⟨_,rfl⟩
  obtain⟨xo,d8⟩:∃ xo,xo=d.orig:=⟨_,rfl⟩
  have d9:Hid (∀ W,Fr No u W->Calls Tryz.prog 115 #[.agg #[.slice a ds.length f],.agg d.vals] W fun e w'=>e=.returned (.agg #[.string P,.string xo])/\Fr No W w'):=fun W X=>by
   rw[hP,d8];have hT:=a8.no X;exact zEb a f ds d W hT.dv hT.wf.ok (by have:=HN.out;omega) (hT.wf.ok.pwf Y)
  have b8:Hid (P.size<=maxLen/\xo.size<=maxLen):=by
   rw[hP,d8];have h1:=zBJ a8.wf.ok HN.out d.parent;have h2:=a8.wf.ok.sz d Y;refine⟨?_,?_⟩<;>unfold maxLen<;>omega
  have g9:Hid (∀ W,Fr No u W->Calls Tryz.prog 61 #[.agg #[.slice a ds.length f],.int .i64 d.index] W fun e w'=>e=.returned (.bool false)/\Fr No W w'):=fun W X=>by
   have:=zCE a f ds a7 d.index W (a8.no X) (f9.no X).err;rw[HV.out d Y]at this;exact this
  obtain⟨y,hy⟩:=g8.out (P,xo);obtain⟨bk,g2⟩:∃ bk,bk=(g0 (P,xo)).isSome:=⟨_,rfl⟩
  have HY:=zh hy;have g3:=zh g2.symm;have g4:=zh d6;unfold Dev.vals at d9;clear hP d8 hy g2 d7 a8 f9 Y d6;dsimp only;unfold Dev.vals
  gi_wp2
  refine zAq (From u.heap.size) (.q 0 (.q 1 (.q 2 (.q 3 (.q 4 (.q 5 (.m2 6 (.q 7 (.q 8 (.q 9 (.q 10 (.m1 11 (.m1 12 (.q 13 .fin))))))) 11 (.m1 6 (.q 7 (.q 8 (.q 9 (.q 10 (.m1 12 (.q 13 .fin)))))))))))))) _ (by kernel_rfl) (by kernel_rfl) (fun W3 a3=>?_) zj;have d3:=a3.heap D1.out id;have yp:=a3.heap g4.out id;have y2:=a3.heap b7.out.1 id;have y3:=a3.heap b7.out.2 id;have z:∀ g:Gr (From u.heap.size) W3,DevB g.W Bx d:=fun g=>DevB.of (g.fr.heap d3 (by unfold From;have:=b6.out;omega))
  have e0:=fun g=>(z g).c0
  have e1:=fun g=>(z g).c1
  have e2:=fun g=>(z g).c2
  have e3:=fun g=>(z g).c3
  have e4:=fun g=>(z g).c4
  have e5:=fun g=>(z g).c5
  have e6:=fun g=>(z g).c6
  have e7:=fun g=>(z g).c7
  have e8:=fun g=>(z g).c8
  have e9:=fun g=>(z g).c9
  have x2:∀ g:Gr (From u.heap.size) W3,g.W.cell? ⟨w.heap.size,0,none⟩=some (.pointer (some ⟨R,0,none⟩)):=fun g=>zB (g.fr.heap y2 (by unfold From;have:=b6.out;have:=a9.out;omega)) 0
  have x3:∀ g:Gr (From u.heap.size) W3,g.W.cell? ⟨w.heap.size+1,0,none⟩=some (.map (some Z)):=fun g=>zB (g.fr.heap y3 (by unfold From;have:=b6.out;have:=a9.out;omega)) 0
  have x0:∀ g:Gr (From u.heap.size) W3,g.W.cell? ⟨R,0,none⟩=some (.slice a ds.length f):=fun g=>zB (g.fr.heap yp (by unfold From;have:=b6.out;have:=a9.out;omega)) 0
  have b9:=zh a3;clear z d3 yp y2 y3 a3
  repeat((first|apply zM rfl rfl rfl|apply zO rfl rfl rfl);intro K J;go_big_quiet_op;go_big_quiet_on)
  clear e0 e1 e2 e3 e4 e5 e6 e7 e8 e9 x0 x2 x3;refine zv rfl rfl ?_ ?_
  focus
   go_wp2_with fail
   refine(d9.out W3 b9.out).mono ?_;rintro e Wc ⟨rfl,O⟩
   go_wp2_with fail
   refine zm O ?_;have a4:=zh (b9.out.step O zi);have b0:∀ W,(∃ g:Gr (From u.heap.size) Wc,W=g.W)->(Instr.lookup 80 (.map (some Z)) (.agg #[.string P,.string xo]) true).run Tryz.prog W=.ok (.tuple #[.agg #[.string y.q,.string y.o,.string y.c,.int .i64 y.r],.bool bk]) W:=fun W X=>by
    obtain⟨g,rfl⟩:=X;have:=((g1.out _ a4.out).fr g.fr (by unfold From;have:=a9.out;omega)).lookok (zBo g.W) Tryz.underlying80 b8.out.1 b8.out.2;rw[this,HY.out,g3.out]
   apply zM rfl rfl rfl;intro K J;refine zAC rfl _ _ 80 rfl (.map (some Z)) (.agg #[.string P,.string xo]) _ rfl rfl b0 ?_
   go_frame
   go_big_quiet_on;clear b0;apply zM rfl rfl rfl;intro K J;go_big_quiet_op;go_big_quiet_on;apply zM rfl rfl rfl;intro K J;go_big_quiet_op;go_big_quiet_on;apply zM rfl rfl rfl;intro K J;go_big_quiet_op;go_big_quiet_on;clear O;apply zH;exact rfl;obtain⟨Wa,C⟩:∃ Wa,Wa=Wc.alloc (.cells #[.string ⟨#[]⟩,.string ⟨#[]⟩,.string ⟨#[]⟩,.int .i64 0] 94):=⟨_,rfl⟩
   have b1:Fr No Wc Wa:=by rw[C];exact(Fr.refl _ _).alloc _
   have qa:Wa.heap[Wc.heap.size]?=some (.cells #[.string ⟨#[]⟩,.string ⟨#[]⟩,.string ⟨#[]⟩,.int .i64 0] 94):=by rw[C];exact zD _ _
   go_wp2_with fail
   refine zp ?_;rw[<-C];clear C;have b4:Hid (Fr No u Wa):=a4.out.step b1 zi;have D:Hid (u.heap.size<=Wc.heap.size):=a4.out.size;have qz:=qa;clear b1 qa;obtain⟨B,hB⟩:∃ B,B=Wc.heap.size:=⟨_,rfl⟩
   rw[<-hB]at qz D ⊢;clear hB;obtain⟨z0,z1,z2,z3⟩:=cl4 qz;obtain⟨f0,f1,f2,f3⟩:=fl4 qz;have h4:=zh (set4 qz rfl (.string y.q) (.string y.o) (.string y.c) (.int .i64 y.r));clear qz;apply zH;exact rfl
   go_wp2_with fail
   refine OnlyN.mk ⟨h4.out.2.mono (fun b _ h=>by unfold Is at h;unfold From;have:=D.out;omega),?_⟩;apply zM rfl rfl rfl;intro K J;go_big_quiet_op;go_big_quiet_on;refine zX ?_;obtain⟨w5,U⟩:∃ w5,w5=((((Wa.setCell ⟨B,0,none⟩ (.string y.q)).setCell ⟨B,1,none⟩ (.string y.o)).setCell ⟨B,2,none⟩ (.string y.c)).setCell ⟨B,3,none⟩ (.int .i64 y.r)):=⟨_,rfl⟩
   rw[<-U];have F:=h4.out;rw[<-U]at F;have a5:Hid (Fr No u w5):=b4.out.step F.2 (fun b hb h=>by unfold Is at h;have:=D.out;omega);have h0:=zh F.1;clear U h4 F z0 z1 z2 z3 f0 f1 f2 f3 b4 D
  rotate_left 1
  focus
   obtain⟨Wa,C⟩:∃ Wa,Wa=W3.alloc (.cells #[.string ⟨#[]⟩,.string ⟨#[]⟩,.string ⟨#[]⟩,.int .i64 0] 94):=⟨_,rfl⟩
   have b1:Fr No W3 Wa:=by rw[C];exact(Fr.refl _ _).alloc _
   have qa:Wa.heap[W3.heap.size]?=some (.cells #[.string ⟨#[]⟩,.string ⟨#[]⟩,.string ⟨#[]⟩,.int .i64 0] 94):=by rw[C];exact zD _ _
   go_wp2_with fail
   refine zp ?_;rw[<-C];clear C;have g5:=zh (b9.out.step b1 zi);clear b1;apply zH;exact rfl
   go_wp2_with fail
   refine(d9.out Wa g5.out).mono ?_;rintro e Wc ⟨rfl,O⟩
   go_wp2_with fail
   refine zm O ?_;have qb:=O.heap qa id;clear qa;have a4:=zh (g5.out.step O zi);have b0:∀ W,(∃ g:Gr (From u.heap.size) Wc,W=g.W)->(Instr.lookup 80 (.map (some Z)) (.agg #[.string P,.string xo]) true).run Tryz.prog W=.ok (.tuple #[.agg #[.string y.q,.string y.o,.string y.c,.int .i64 y.r],.bool bk]) W:=fun W X=>by
    obtain⟨g,rfl⟩:=X;have:=((g1.out _ a4.out).fr g.fr (by unfold From;have:=a9.out;omega)).lookok (zBo g.W) Tryz.underlying80 b8.out.1 b8.out.2;rw[this,HY.out,g3.out]
   apply zM rfl rfl rfl;intro K J;refine zAC rfl _ _ 80 rfl (.map (some Z)) (.agg #[.string P,.string xo]) _ rfl rfl b0 ?_
   go_frame
   go_big_quiet_on;clear b0;apply zM rfl rfl rfl;intro K J;go_big_quiet_op;go_big_quiet_on;apply zM rfl rfl rfl;intro K J;go_big_quiet_op;go_big_quiet_on;apply zM rfl rfl rfl;intro K J;go_big_quiet_op;go_big_quiet_on;clear O;have b4:Hid (Fr No u Wc):=a4.out;have D:Hid (u.heap.size<=W3.heap.size):=b9.out.size;have qz:=qb;clear qb;obtain⟨B,hB⟩:∃ B,B=W3.heap.size:=⟨_,rfl⟩
   rw[<-hB]at qz D ⊢;clear hB;obtain⟨z0,z1,z2,z3⟩:=cl4 qz;obtain⟨f0,f1,f2,f3⟩:=fl4 qz;have h4:=zh (set4 qz rfl (.string y.q) (.string y.o) (.string y.c) (.int .i64 y.r));clear qz;apply zH;exact rfl
   go_wp2_with fail
   refine OnlyN.mk ⟨h4.out.2.mono (fun b _ h=>by unfold Is at h;unfold From;have:=D.out;omega),?_⟩;apply zM rfl rfl rfl;intro K J;go_big_quiet_op;go_big_quiet_on;refine zX ?_;obtain⟨w5,U⟩:∃ w5,w5=((((Wc.setCell ⟨B,0,none⟩ (.string y.q)).setCell ⟨B,1,none⟩ (.string y.o)).setCell ⟨B,2,none⟩ (.string y.c)).setCell ⟨B,3,none⟩ (.int .i64 y.r)):=⟨_,rfl⟩
   rw[<-U];have F:=h4.out;rw[<-U]at F;have a5:Hid (Fr No u w5):=b4.out.step F.2 (fun b hb h=>by unfold Is at h;have:=D.out;omega);have h0:=zh F.1;clear U h4 F z0 z1 z2 z3 f0 f1 f2 f3 b4 D
  all_goals (
   gi_wp2
   refine zA9 No [(0,false),(1,false),(2,false),(3,false),(4,false),(5,false),(6,true),(7,false),(8,false),(9,false),(10,false),(11,false),(12,false),(13,false),(14,false),(15,false)] (by kernel_rfl) (by kernel_rfl) (fun w6 a6=>?_);have d3:=a6.heap (a5.out.heap D1.out id) id;have yp:=a6.heap (a5.out.heap g4.out id) id;have y2:=a6.heap (a5.out.heap b7.out.1 id) id;have y3:=a6.heap (a5.out.heap b7.out.2 id) id;have z:∀ g:Gr (No) w6,DevB g.W Bx d:=fun g=>DevB.of (g.fr.heap d3 (id))
   have e0:=fun g=>(z g).c0
   have e1:=fun g=>(z g).c1
   have e2:=fun g=>(z g).c2
   have e3:=fun g=>(z g).c3
   have e4:=fun g=>(z g).c4
   have e5:=fun g=>(z g).c5
   have e6:=fun g=>(z g).c6
   have e7:=fun g=>(z g).c7
   have e8:=fun g=>(z g).c8
   have e9:=fun g=>(z g).c9
   have x2:∀ g:Gr (No) w6,g.W.cell? ⟨w.heap.size,0,none⟩=some (.pointer (some ⟨R,0,none⟩)):=fun g=>zB (g.fr.heap y2 (id)) 0
   have x3:∀ g:Gr (No) w6,g.W.cell? ⟨w.heap.size+1,0,none⟩=some (.map (some Z)):=fun g=>zB (g.fr.heap y3 (id)) 0
   have x0:∀ g:Gr (No) w6,g.W.cell? ⟨R,0,none⟩=some (.slice a ds.length f):=fun g=>zB (g.fr.heap yp (id)) 0
   have g6:=zh (a5.out.step a6 zi);clear z d3 yp y2 y3 a6
   repeat((first|apply zS rfl rfl rfl|apply zW rfl rfl rfl);intro K J;go_big_quiet_op;go_big_quiet_on)
   clear e0 e1 e2 e3 e4 e5 e6 e7 e8 e9 x0 x2 x3;apply zk;exact rfl
   go_wp2_with fail
   refine(g9.out w6 g6.out).mono ?_;rintro e w7 ⟨rfl,f4⟩;have h6:=zh (g6.out.step f4 zi)
   go_wp2_with fail
   refine zm f4 ?_;clear f4
   repeat((first|apply zS rfl rfl rfl|apply zW rfl rfl rfl);intro K J;go_big_quiet_op;go_big_quiet_on)
   refine zY ?_
   gi_wp2
   have g7:=zh h6.out;refine⟨V,fun b h=>.inl h,⟨HI.out.1,HI.out.2.step g7.out zn⟩,g7.out.mono zn⟩
   )
theorem zAm {H:Type}{P:Program}{e:TypeId}(f:P.underlying e=some .bool){v:Value}{z:DataW H×List MemPlace}(h:plainElem P e v=some z):∃ b,v=.bool b/\z=(.lit (.bool b),[]):=by
 unfold plainElem at h;rw[f]at h;cases v<;>simp at h;exact⟨_,rfl,h.symm⟩
theorem zBE {H:Type}{P:Program}(w:World){g:Array Oper}{f:List Oper}{o:Oper}{a:Act}{Q:Exit->Act->World->Prop}
  (N:o.guard=none) (m x:Operand) (t:TypeId) (z:o.op=Op.lookup t m x false)
  (k e:TypeId) (K:Keyed P k) (O:P.underlying t=some (.map k e)) (I:P.underlying e=some .bool) (R:(zeroValue e).run P w=.ok (.bool false) w) (b n:Nat) (D:DataW H)
  (U:a.eval m=.map (some b)) (h:w.ownsMap P k (plainElem P e) b n D) (q:Value) (J:Lit) (V:a.eval x=q) (u:keyOf P k q=some J)
  (A:Bool) (C:D.atKey J (.lit (.bool false))=.lit (.bool A))
  (X:wpList P g Q f (a.put o.dst (.bool A)) w):
  wpList P g Q (o::f) a w:=by
 refine wpList_plain N fun Z F=>?_
 obtain⟨v,ps,y,Y⟩:=h.lookup K O R (plainElem_bool I false) u;obtain⟨c,rfl,L⟩:=zAm I Y;simp only[Prod.mk.injEq]at L;obtain rfl:c=A:=by
  have:=L.1.symm.trans C
  simpa using this
 unfold Oper.wp;simp[execOp,z,U,V,y,Result.andThen];exact F _ _ X
def BMap (w:World)(mb:Nat)(g:Int->Bool)(N:Nat):Prop:=
 ∃ (D:DataW Unit) (n:Nat),n<=N/\w.ownsMap Tryz.prog 3 (plainElem Tryz.prog 4) mb n D/\∀ x,D.atKey (.int .i64 x) (.lit (.bool false))=.lit (.bool (g x))
theorem BMap.lt {w:World}{g:Nat}{f:Int->Bool}{N:Nat}(h:BMap w g f N):g<w.heap.size:=by
 obtain⟨D,n,_,o,_⟩:=h;exact o.lt
theorem BMap.fr {S:Nat->Prop}{w w':World}{g:Nat}{f:Int->Bool}{N:Nat}(h:BMap w g f N)(o:Fr S w w')(q:¬ S g):BMap w' g f N:=by
 obtain⟨D,n,u,v,r⟩:=h;exact⟨D,n,u,o.ownsMap v q,r⟩
theorem zeroB (w:World):(zeroValue 4).run Tryz.prog w=.ok (.bool false) w:=by kernel_rfl
theorem zDN (w:World):BMap (w.alloc (.map #[] 0)) w.heap.size (fun _=>false) 0:=
 ⟨.map [],0,Nat.le_refl _,World.ownsMap_made _ _ _ _,fun _=>rfl⟩
theorem BMap.put {w q:World}{f:Nat}{D:DataW Unit}{n N:Nat}{g:Int->Bool}(z:n<=N)(u:w.ownsMap Tryz.prog 3 (plainElem Tryz.prog 4) f n D)(h:∀ x,D.atKey (.int .i64 x) (.lit (.bool false))=.lit (.bool (g x)))
  (x:Int) (b:Bool) (o:q.ownsMap Tryz.prog 3 (plainElem Tryz.prog 4) f (n+1) (D.put (.int .i64 x) (.lit (.bool b)))):BMap q f (upd g x b) (N+1):=by
 refine⟨_,n+1,by omega,o,fun y=>?_⟩;unfold upd;split
 ·rename_i e;subst e;exact atKey_put_same u.isMap (zBz _) _ _
 ·rename_i e;rw[atKey_put_other (by intro v;exact e (by simpa using v))];exact h y
end Go.Proofs.YtinfjnndbfahhaaGreatDoor
