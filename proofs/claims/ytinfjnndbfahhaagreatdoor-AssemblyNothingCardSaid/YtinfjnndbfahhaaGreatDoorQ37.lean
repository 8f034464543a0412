import Derived.Test.YtinfjnndbfahhaaGreatDoorQ36
namespace Go.Proofs.YtinfjnndbfahhaaGreatDoor
open Go.RowKit Go.Maps Go.Shelf
set_option linter.unusedVariables false
set_option maxRecDepth 100000
set_option maxHeartbeats 4000000
attribute [local go_sem] Oper.semAt_some
def fpD (B:Nat)(O:List Dev)(v:Value)(b:Nat):Prop:=b=B\/v.ownBlock=some b\/∃ d∈O,∃ ad,d.aa=some ad/\ad.block=b
structure SubI (w0:World)(B5:Nat)(pre:List Dev)(V:Nat->Prop)(W:World):Prop where
 st:∃ (O:List Dev) (av:Option Addr) (cv:Nat),W.heap[B5]?=some (.cells #[.slice av O.length cv] 46)/\W.ownsRow w0.heap.size 36 10 (.slice av O.length cv) O.length (flat O)/\Cop w0 W w0.heap.size pre O/\V=fpD B5 O (.slice av O.length cv)
 fr:Fr (From w0.heap.size) w0 W
theorem Cop.attr_lt {w W:World}{f:Nat}{o O:List Dev}(h:Cop w W f o O){d:Dev}(u:d∈O){g:Addr}(e:d.aa=some g):f<=g.block/\g.block<W.heap.size:=by
 obtain⟨x,_,q⟩:=h.mem u;obtain⟨cs,v⟩:=q.typ g e;exact⟨q.fresh g e,zC v⟩
theorem SubI.lt {f:World}{q:Nat}{g:List Dev}{V:Nat->Prop}{W:World}(h:SubI f q g V W)(u:f.heap.size<=q){b:Nat}(o:V b):f.heap.size<=b/\b<W.heap.size:=by
 obtain⟨O,C,D,v,y,z,rfl⟩:=h.st;rcases o with rfl | o | ⟨d,A,F,e,rfl⟩
 ·exact⟨u,zC v⟩
 ·exact zAG y o
 ·exact z.attr_lt A e
theorem SubI.mv {v:World}{y:Nat}{f:List Dev}{V S:Nat->Prop}{A B:World}(h:SubI v y f V A)(o:Fr S A B)(q:∀ b,S b->¬ V b/\v.heap.size<=b):SubI v y f V B:=by
 obtain⟨O,z,C,D,F,I,J⟩:=h.st;subst J;exact⟨⟨O,z,C,o.heap D (fun u=>(q _ u).1 (.inl rfl)),zG F o (fun b u g=>(q _ g).1 (.inr (.inl u))),I.fr o (fun d L N e g=>(q _ g).1 (.inr (.inr ⟨d,L,N,e,rfl⟩))),rfl⟩,h.fr.step o (fun b u g=>(q b g).2)⟩
theorem zD3 {n:Int}{ds:List Dev}:∀ {R:Int->Bool} {d:Dev},d∈subL n ds R->d∈ds:=by
 induction ds with
 | nil=>intro R d h;simp[subL]at h
 | cons x t f=>
  intro R d h;rcases hb:(x.index==n||R x.parent)with _ | _
  ·rw[zD2 hb]at h;exact List.mem_cons_of_mem _ (f h)
  ·rw[zD1 hb]at h;rcases List.mem_cons.1 h with h | h
   ·subst h;simp
   ·exact List.mem_cons_of_mem _ (f h)
theorem zCZ (n:Int)(ds:List Dev):∀ (R:Int->Bool),(subL n ds R).length<=ds.length:=by
 induction ds with
 | nil=>intro R;simp[subL]
 | cons x t f=>
  intro R;rcases hb:(x.index==n||R x.parent)with _ | _
  ·rw[zD2 hb];have:=f R;simp only[List.length_cons];omega
  ·rw[zD1 hb];have:=f (upd R x.index true);simp only[List.length_cons];omega
theorem zHn (a:Option Addr)(f d1:Nat)(ds:List Dev)(n:Int)(w:World)(hl:Tr w d1 a f ds)(hn:ds.length<=256):
  Calls Tryz.prog 92 #[.agg #[.slice a ds.length f],.int .i64 n] w fun e w'=>(∃ v c' b3,e=.returned (.slice v b3.length c')/\Devs w' v c' b3/\BlkT w' v 36/\(∀ o,v=some o->w.heap.size<=o.block)/\Cop w w' w.heap.size (subL n ds (fun _=>false)) b3)/\Fr No w w':=by
 have hT:=hl.wf.1;obtain⟨i0,f1,f2,f3,f4⟩:=info_parts infoD;refine(callsIn_wide (n:=12)).1 (callsIn_of_wp_marks Tryz.func92 rfl trivial (wpIn_wide.2 ?_));simp only[Tryz.ntmps92,List.size_toArray,List.length_cons,List.length_nil,Nat.reduceAdd,Nat.reduceSub,Array.replicate_succ,Array.replicate_zero,List.push_toArray,List.append_toArray,List.nil_append,List.cons_append];obtain⟨u,U⟩:∃ u,u=(w.alloc (.cells #[.slice a ds.length f] 48)).alloc (.cells #[.slice none 0 0] 46):=⟨_,rfl⟩
 have hW:Fr No w u:=by rw[U];exact((Fr.refl _ _).alloc _).alloc _
 have b2:u.heap[w.heap.size]?=some (.cells #[.slice a ds.length f] 48):=by rw[U];exact zI _ _ _
 have b6:u.heap[w.heap.size+1]?=some (.cells #[.slice none 0 0] 46):=by rw[U];exact zL _ _ _
 have t2:u.cell? ⟨w.heap.size,0,none⟩=some (.slice a ds.length f):=zB b2 0;have g4:=zC b6
 go_upto_region 2 with(fail)
 rw[<-U];clear U
 go_wp2_with fail
 refine(zEk _ _ _).mono ?_;rintro e w2 ⟨rfl,rfl⟩;have b4:Fr No u ((u.alloc (.cells #[.slice a ds.length f] 48)).alloc (.cells #[.int .i64 n] 3)):=((Fr.refl _ _).alloc _).alloc _;have I:=hW.step b4 zi;have hU:SubAt ((u.alloc (.cells #[.slice a ds.length f] 48)).alloc (.cells #[.int .i64 n] 3)) a f ds n u.heap.size (u.heap.size+1):=⟨hl.dv.no I (fun _=>id),zI _ _ _,zL _ _ _⟩
 have d6:=b4.heap b6 id;have d2:((u.alloc (.cells #[.slice a ds.length f] 48)).alloc (.cells #[.int .i64 n] 3)).heap.size=u.heap.size+2:=by simp
 clear t2 b2 b6 b4
 go_wp2_with fail
 generalize (u.alloc (.cells #[.slice a ds.length f] 48)).alloc (.cells #[.int .i64 n] 3)=W2 at *;have b5:∀ o,a=some o->ds≠[]->o.block<w.heap.size:=fun o e R=>(hl.dv.cell o e R).2.1
 refine(wpIn_wide (n:=12)).1 (zCQ (α:=Dev) (T:=fun _=>False) (V0:=Is (w.heap.size+1)) rfl (by omega) (gf:=197) (lb:=#[.pointer (some ⟨u.heap.size,0,none⟩),.pointer (some ⟨u.heap.size+1,0,none⟩)]) rfl trivial (enters_of Tryz.func197 (by kernel_rfl) rfl) (encs:=fun d:Dev=>#[.agg d.vals]) (fun _=>rfl) (fun b h=>h.elim) (fun b h=>by unfold Is at h;omega)
  (zEn 11 (by omega) a f ds n u.heap.size (u.heap.size+1) (Is (w.heap.size+1)) W2 hT hU (by omega) ⟨fun h=>by unfold Is at h;omega,fun h=>by unfold Is at h;omega,fun o e R h=>by have:=b5 o e R;unfold Is at h;omega⟩)
  (SubI w (w.heap.size+1)) (fun _ _ _ h b F=>(h.lt (by omega) F).2) (fun s V A B S h hf hS=>h.mv hf (fun b F=>⟨(hS b F).1,by have:=(hS b F).2.resolve_left id;have:=I.size;omega⟩))
  ⟨⟨[],none,0,d6,World.ownsRow_nil _ _ _ _,by simpa using Cop.nil _ _ _,by funext b;unfold Is fpD;simp[Value.ownBlock]⟩,I.mono zn⟩
  (fun x V v W=>∃ Bx,W2.heap.size+2<=Bx/\W.heap[Bx]?=some (.cells x.vals 36)/\¬ V Bx/\v={ tmps:=#[.agg #[.slice a ds.length f],.int .i64 n,.pointer (some ⟨w.heap.size,0,none⟩),undef,.slice none 0 0,.pointer (some ⟨w.heap.size+1,0,none⟩),.pointer (some ⟨Bx,0,none⟩),.agg #[.slice a ds.length f],.int .i64 n,.func (.func 197) #[] #[.pointer (some ⟨u.heap.size,0,none⟩),.pointer (some ⟨u.heap.size+1,0,none⟩)],.agg x.vals,undef,undef,undef,undef,undef,undef],defers:=[] })
  (fun x V v A B h hf=>by obtain⟨Bx,h1,h2,h3,h4⟩:=h;exact⟨Bx,h1,hf.heap h2 (fun e=>by unfold Is at e;omega),h3,h4⟩)
  ?assign ?body ?done)
 case assign=>
  intro l d3 V x W K X a8 hK;have f5:=fun b (F:V b)=>(X.lt (by omega) F).2
  have g5:=fun v W' (h1:Fr No W W') h2=>hK v W' h1 h2
  clear b5 d2 hU I d6 hl hT;unfold Dev.vals
  gi_wp2
  exact hK _ _ ((Fr.refl _ _).alloc _) ⟨W.heap.size,a8,zD _ _,fun h=>by have:=f5 _ h;omega,rfl⟩
 case body=>
  rintro l d3 V x v W X ⟨Bx,g6,d4,f6,rfl⟩ Y a8;have f8:x∈ds:=zD3 (List.IsPrefix.subset Y (by simp));have g7:d3.length<=256:=by
   have h7:=Y.length_le;have h8:=zCZ n ds (fun _=>false);simp at h7;omega
  obtain⟨l0,a4,b7,d5⟩:=(hl.el x f8).att;have hA:Atts W x.aa x.ac l0:=a4.fr X.fr (fun o e R h=>by have:=(a4.cell o e R).2.1;unfold From at h;omega);have f9:=zh (fun b (F:V b)=>X.lt (by omega) F);obtain⟨O,Z,cv,h1,h2,h3,rfl⟩:=X.st;have g8:O.length<=256:=by have:=h3.len;omega
  have HI:=zh X.fr;have b8:=zh (And.intro a4 (And.intro b7 d5));clear Y X b5 d2 hU I d6 hl hT a4
  gi_upto_region 4 with(fail)
  refine zBk 5 (fun b=>(Value.slice Z O.length cv).ownBlock=some b) (.q 0 (.q 1 (.m1 2 (.m1 3 (.m1 4 (.m1 5 .fin)))))) _ (by kernel_rfl) (by kernel_rfl) (fun W3 C=>?_) zj;have g9:=C.size;have k5:=C.heap h1 id;have kx:=C.heap d4 id;have a2:=zG h2 C (fun _ _=>id);have n5:=zR a2 k5 (by decide);have cx:∀ g:Gr (fun b=>(Value.slice Z O.length cv).ownBlock=some b) W3,DevB g.W Bx x:=fun g=>DevB.of (g.fr.heap kx (fun h=>f6 (.inr (.inl h))))
  have e0:=fun g=>(cx g).c0
  have e1:=fun g=>(cx g).c1
  have e2:=fun g=>(cx g).c2
  have e3:=fun g=>(cx g).c3
  have e4:=fun g=>(cx g).c4
  have e5:=fun g=>(cx g).c5
  have e6:=fun g=>(cx g).c6
  have e7:=fun g=>(cx g).c7
  have e8:=fun g=>(cx g).c8
  have e9:=fun g=>(cx g).c9
  have x5:∀ g:Gr (fun b=>(Value.slice Z O.length cv).ownBlock=some b) W3,g.W.cell? ⟨w.heap.size+1,0,none⟩=some (.slice Z O.length cv):=fun g=>zB (g.fr.heap k5 n5) 0
  have b9:=zBl x l0 W3 (hA.no C (fun _=>id)) b7 (by omega);have HC:=zh (h3.fr C (fun _ _ _ _=>id));have g0:=zh C;clear cx d4 hA b7 d5 h1 h2 h3 C;unfold Dev.vals at b9
  repeat (apply tx_q rfl rfl rfl;intro K hK;go_big_quiet_op;go_big_quiet_on)
  clear e0 e1 e2 e3 e4 e5 e6 e7 e8 e9 x5;apply zBd;exact rfl
  go_wp2_with fail
  refine b9.mono ?_;rintro e W4 ⟨⟨v,c',rfl,d7,d8,z⟩,J⟩;clear b9;have h0:=J.size;have a9:=zG a2 J (fun _ _=>id);have g1:=zh ((HC.out.fr J (fun _ _ _ _=>id)).snoc (⟨rfl,⟨l0,b8.out.1,d7,b8.out.2.1,b8.out.2.2⟩,d8,fun o e=>by have:=z o e;have:=HI.out.size;omega⟩:Cop1 w W4 w.heap.size x { x with aa:=v,ac:=c' }));have al:=(Fr.refl No W4).alloc (.cells (Dev.vals { x with aa:=v,ac:=c' }) 36);have L:=zG a9 al (fun _ _=>id);have k6:=al.heap (J.heap k5 id) id;have n6:=zR L k6 (by decide);have g2:=zh (g0.out.step J zi);have d0:=zh (And.intro (g1.out.fr al (fun _ _ _ _=>id)) al);have g3:Hid (∀ o,v=some o->W.heap.size<=o.block):=fun o e=>by have:=z o e;omega
  clear a2 k5 n5 kx d7 d8 al z
  go_wp2_with fail
  refine OnlyN.mk ⟨fun _=>J.mono zn,?_⟩;clear J;apply zBd;exact rfl
  go_wp2_with fail
  refine OnlyN.mk ⟨fun _=>d0.out.2.mono zn,?_⟩;apply zBd;exact rfl
  go_wp2_with (at_builtin;refine wpList_append_own_at _ rfl _ _ 46 rfl w.heap.size 36 i0 (.agg #[.int .i64 0,.int .i64 0,.string ByteArray.empty,.string ByteArray.empty,.string ByteArray.empty,.string ByteArray.empty,.string ByteArray.empty,.int .i64 0,.int .i64 0,.slice none 0 0]) 10 136 Tryz.underlying46 f1 f2 f3 f4 rfl (by decide) _ _ _ rfl L ⟨W4.heap.size,0,none⟩ 1 1 (Dev.vals { x with aa:=v,ac:=c' }).toList rfl rfl (ze _ (Dev.vals { x with aa:=v,ac:=c' }) _ rfl) (zAR _) (by unfold maxLen;omega) (by omega) (by have:=HI.out.size;rw[World.size_alloc];omega) ?_;intro v' w6 N d9 _ f0;obtain⟨a5,a6,rfl⟩:=zJ N)
  have gf:Fr (fun b=>(Value.slice Z O.length cv).ownBlock=some b) (W4.alloc (.cells (Dev.vals { x with aa:=v,ac:=c' }) 36)) w6:=Fr.of_grown d9;refine zf gf ?_;have k7:=gf.heap k6 n6;have n7:=zR N k7 (by decide);have t7:w6.cell? ⟨w.heap.size+1,0,none⟩=some (.slice Z O.length cv):=zB k7 0;have f7:w6.frozen? ⟨w.heap.size+1,0,none⟩=false:=zE k7 0;have x8:Fr (Is (w.heap.size+1)) w6 (w6.setCell ⟨w.heap.size+1,0,none⟩ (.slice a5 (O.length+1) a6)):=Fr.setAt (Fr.refl _ _) _;have k8:=zF k7 0 (.slice a5 (O.length+1) a6);have C6:=d0.out.1.own L gf;have C8:=C6.fr x8 (fun d hd=>by
   obtain⟨y,_,h1⟩:=C6.mem hd;exact BlkT.ne_blk h1.typ k7 (by decide))
  have b0:=zG N x8 (fun b F h=>n7 (by unfold Is at h;rw[<-h];exact F));have H8:=zh (And.intro k8 (And.intro b0 (And.intro C8 (And.intro f0 ((((g2.out.step d0.out.2 zi).mono (T:=fpD (w.heap.size+1) O (.slice Z O.length cv)) zn).step gf (fun b _ h=>.inr (.inl h))).step x8 (fun b _ h=>.inl h))))));clear k8 b0 C8 C6 x8 gf d9 f0 N L a9 k6 n7 k7 n6;apply zBd;exact rfl
  go_wp2_with fail
  refine OnlyN.mk ⟨fun h=>(h rfl).elim,?_⟩;refine zF5 ?_;refine⟨fpD (w.heap.size+1) (O++[{ x with aa:=v,ac:=c' }]) (.slice a5 (O++[{ x with aa:=v,ac:=c' }]).length a6),?_,⟨⟨_,a5,a6,by rw[List.length_append];exact H8.out.1,by rw[List.length_append,zB1];exact H8.out.2.1,H8.out.2.2.1,rfl⟩,?_⟩,H8.out.2.2.2.2⟩
  ·rintro b (rfl | F | ⟨d,hd,o,e,rfl⟩)
   ·exact .inl (.inl rfl)
   ·rw[List.length_append]at F;rcases H8.out.2.2.2.1 with h | h
    ·exact .inl (.inr (.inl (h.symm.trans F)))
    ·right;have:=F.symm.trans h;simp only[Option.some.injEq,World.size_alloc]at this;omega
   ·rcases List.mem_append.1 hd with h | h
    ·exact .inl (.inr (.inr ⟨d,h,o,e,rfl⟩))
    ·obtain rfl:d=_:=by simpa using h
     exact .inr (g3.out o e)
  ·exact HI.out.step H8.out.2.2.2.2 (fun b _ h=>(f9.out b h).1)
 case done=>
  rintro V W X hK a7;obtain⟨O,Z,cv,h1,h2,h3,hV⟩:=X.st;have t5:W.cell? ⟨w.heap.size+1,0,none⟩=some (.slice Z O.length cv):=zB h1 0;have D:Fr (Is W2.heap.size) W (W.putObj W2.heap.size (.deferred none)):=Fr.putObj _ _ _ rfl;obtain⟨a3,c3,hv,hD,b1⟩:=Devs.of_own h2;cases hv;have h5:=I.size;rw[hV]at a7;have HE:=zh (And.intro (hD.fr D (fun o e R h=>a7 (.inr (.inl (by unfold Is at h;subst e;rw[<-h];rfl))))) (And.intro ((zAI h2).fr D (fun o e h=>a7 (.inr (.inl (by unfold Is at h;subst e;rw[<-h];rfl))))) (And.intro b1 (And.intro (h3.fr D (fun d hd o e h=>a7 (.inr (.inr ⟨d,hd,o,e,h⟩)))) ((X.fr.step D (fun b F e=>by unfold Is at e;unfold From;omega)).mono (T:=No) (fun b F h=>by unfold From at h;omega))))));clear X D I hD h2 h3 b1
  go_wp2_with fail
  refine⟨by simp,.inl ⟨_,_,rfl,run_takeDeferred hK,?_⟩⟩;refine⟨.slice Z O.length cv,by simp[results,Tryz.results92,go_sem],⟨Z,cv,O,rfl,HE.out.1,HE.out.2.1,HE.out.2.2.1,HE.out.2.2.2.1⟩,HE.out.2.2.2.2⟩
theorem zCm {P:Program}{A:Array Oper}{z:List Oper}{o:Oper}{a:Act}{w:World}{Q:Exit->Act->World->Prop}(J:o.guard=none)(I:TypeId)(x y:Operand)(N:o.op=.store I x y)
  (g q:Nat) (f:Array Value) (O:a.eval x=.pointer (some ⟨g,q,none⟩)) (R:a.eval y=.agg f) (t:TypeId) (u:Array Value) (U:w.heap[g]?=some (.cells u t (0,0))) (L:(P.info? I).map (·.size)=some f.size)
  (C:q+f.size<=u.size) (V:∀ v∈f.toList,v.oneCell'=true)
  (h:wpList P A Q z (a.put o.dst undef) (w.setRow g (splice u.toList q f.toList).toArray)):wpList P A Q (o::z) a w:=by
 refine wpList_plain J fun K X=>?_
 have D:=run_storeCells_at P g q t f.toList 0 u w U (by simpa using C) V;have F:(storeVar I ⟨g,q,none⟩ (.agg f)).run P w=.ok () (w.setRow g (splice u.toList q f.toList).toArray):=by
  cases hq:P.info? I with
  | none=>simp[hq]at L
  | some i=>
   have Y:f.size=i.size:=by simp[hq]at L;omega
   simp only[Nat.add_zero,Array.length_toList]at D;simp[storeVar,sizeOf,typeInfo,hq,Value.cells,Y,D,splice]
 unfold Oper.wp execOp;simp only[N,O,R,Instr.storeAt,Instr.sureAddr,Sem.run_bind,Sem.run_pure,Result.andThen_ok,F];exact X _ _ h
theorem zJr {m:List Dev}{i:Nat}{x:Dev}(h:i<m.length):splice (flat m) (i*10) x.vals.toList=flat (m.set i x):=by
 have e:(i*10+x.vals.toList.length)=(i+1)*10:=by rw[show x.vals.toList.length=10 from rfl];omega
 unfold splice;rw[e,(zDA i m).1,(zDA (i+1) m).2,List.set_eq_take_append_cons_drop,if_pos h,zGb];rfl
structure DRow (w:World)(g c n:Nat)(m:List Dev):Prop where
 blk:∃ cur,w.heap[g]?=some (.cells cur 36)/\cur.size=c*10/\cur.toList.take (n*10)=flat m
 len:m.length=n
 nc:n<=c
 cm:c<=maxLen
theorem DRow.fr {S:Nat->Prop}{w w':World}{g c n:Nat}{m:List Dev}(h:DRow w g c n m)(o:Fr S w w')(q:¬ S g):DRow w' g c n m:=by
 obtain⟨f,u,v,y⟩:=h.blk;exact⟨⟨f,o.heap u q,v,y⟩,h.len,h.nc,h.cm⟩
theorem DRow.dev {w:World}{g c n:Nat}{m:List Dev}(h:DRow w g c n m){j:Nat}{x:Dev}(o:m[j]?=some x):DevAt w g (j*10) x:=by
 obtain⟨u,v,A,y⟩:=h.blk;have C:=(List.getElem?_eq_some_iff.1 o).1;have f:∀ q,q<10->w.cell? ⟨g,j*10+q,none⟩=some (x.cell q):=fun q z=>by
  have e:=zFl m j x o q z;rw[<-y,List.getElem?_take_of_lt (by have:=h.len;omega),Array.getElem?_toList]at e;rw[zB v];exact e
 exact⟨f 0 (by omega),f 1 (by omega),f 2 (by omega),f 3 (by omega),f 4 (by omega),f 5 (by omega),f 6 (by omega),f 7 (by omega),f 8 (by omega),f 9 (by omega)⟩
theorem zFS {α:Type}{L cs:List α}{o k:Nat}(h:o+cs.length<=k)(y:k<=L.length):(splice L o cs).take k=splice (L.take k) o cs:=by
 have f:(L.take o).length=o:=by rw[List.length_take];omega
 have g:(L.take o).take k=L.take o:=List.take_of_length_le (by omega);have q:cs.take (k-o)=cs:=List.take_of_length_le (by omega);have u:(L.take k).take o=L.take o:=by rw[List.take_take,Nat.min_eq_left (by omega)]
 have v:(L.take k).drop (o+cs.length)=(L.drop (o+cs.length)).take (k-o-cs.length):=by rw[List.drop_take,Nat.sub_sub]
 unfold splice;rw[List.take_append,f,g,List.take_append,q,u,v]
theorem DRow.set {w:World}{g c n:Nat}{m:List Dev}(h:DRow w g c n m){i:Nat}(y:i<n)(x:Dev){f:Array Value}(q:w.heap[g]?=some (.cells f 36)):DRow (w.setRow g (splice f.toList (i*10) x.vals.toList).toArray) g c n (m.set i x):=by
 obtain⟨u,v,z,A⟩:=h.blk;rw[q]at v;cases v;have o:x.vals.toList.length=10:=rfl;refine⟨⟨_,setRow_heap w g f _ _ _ q,?_,?_⟩,by rw[List.length_set,h.len],h.nc,h.cm⟩
 ·have:=h.nc;rw[List.size_toArray,length_splice _ _ _ (by rw[o,Array.length_toList];omega),Array.length_toList];exact z
 ·rw[List.toList_toArray,<-zJr (by rw[h.len];exact y),<-A];exact zFS (by rw[o];omega) (by rw[Array.length_toList];have:=h.nc;omega)
theorem DRow.of {w:World}{f:Nat}{a:Option Addr}{c:Nat}{cs:List Dev}(h:w.ownsRow f 36 10 (.slice a cs.length c) cs.length (flat cs))(F:0<cs.length):∃ g,a=some ⟨g,0,none⟩/\f<=g/\DRow w g c cs.length cs:=by
 obtain⟨_,⟨q,I⟩ | ⟨g,u,o,q,v,y,z,A,C,D⟩⟩:=h
 ·omega
 ·cases q;exact⟨g,rfl,v,⟨⟨o,y,C,D⟩,rfl,z,A⟩⟩
structure DelI {α:Type}(p:α->Bool)(l m:List α)(i j:Nat):Prop where
 len:m.length=l.length
 lo:m.take i=(l.take j).filter fun x=>!p x
 hi:m.drop j=l.drop j
 il:i=((l.take j).filter fun x=>!p x).length
section
variable {α:Type}{p:α->Bool}{l m:List α}{i j:Nat}{x:α}
theorem zFR (f:l[j]?=some x):(l.take (j+1)).filter (fun x=>!p x)=(l.take j).filter (fun x=>!p x)++(if p x then []else [x]):=by
 rw[List.take_add_one,f,List.filter_append];cases hp:p x<;>simp[hp]
theorem DelI.start (f:l[j]?=some x)(h:p x=true)(o:∀ y∈l.take j,p y=false):DelI p l l j (j+1):=by
 have q:(l.take j).filter (fun x=>!p x)=l.take j:=List.filter_eq_self.2 fun y u=>by rw[o y u];rfl
 have g:(l.take (j+1)).filter (fun x=>!p x)=l.take j:=by rw[zFR f,q,h];simp
 have v:j<l.length:=(List.getElem?_eq_some_iff.1 f).1;exact⟨rfl,g.symm,rfl,by rw[g];simp;omega⟩
theorem DelI.next (h:DelI p l m i j):m.drop (j+1)=l.drop (j+1):=by
 have:=congrArg (List.drop 1) h.hi
 simpa [List.drop_drop]using this
theorem DelI.at (h:DelI p l m i j)(f:l[j]?=some x):m[j]?=some x:=by
 have e:(m.drop j)[0]?=(l.drop j)[0]?:=by rw[h.hi]
 simpa [f]using e
theorem DelI.skip (h:DelI p l m i j)(g:l[j]?=some x)(o:p x=true):DelI p l m i (j+1):=by
 have f:(l.take (j+1)).filter (fun x=>!p x)=(l.take j).filter (fun x=>!p x):=by rw[zFR g,o];simp
 exact⟨h.len,by rw[f];exact h.lo,h.next,by rw[f];exact h.il⟩
theorem DelI.put (h:DelI p l m i j)(f:l[j]?=some x)(o:p x=false)(q:i<j):DelI p l (m.set i x) (i+1) (j+1):=by
 have v:j<l.length:=(List.getElem?_eq_some_iff.1 f).1;have g:(l.take (j+1)).filter (fun x=>!p x)=(l.take j).filter (fun x=>!p x)++[x]:=by rw[zFR f,o];simp
 have u:=h.len;refine⟨by simp[u],?_,?_,by rw[g,List.length_append,<-h.il];rfl⟩
 ·rw[g,<-h.lo,List.take_add_one,List.getElem?_set_self (by omega),List.take_set_of_le (Nat.le_refl i)];rfl
 ·rw[List.drop_set,if_pos (by omega)];exact h.next
end
theorem zFA (k:Nat):(Builtin.zeroCells (Value.agg Dev.zero.vals).cells k).toList.length=k*10:=by simp[Builtin.zeroCells,Value.cells,Dev.vals]
theorem zIe (k:Nat):∀ u∈(Builtin.zeroCells (Value.agg Dev.zero.vals).cells k).toList,u.oneCell'=true:=by
 intro u f;simp only[Builtin.zeroCells,Value.cells,Array.toList_map,List.mem_map]at f;obtain⟨q,_,rfl⟩:=f;have h:Dev.zero.vals.size=10:=rfl;have g:q % Dev.zero.vals.size<Dev.zero.vals.size:=Nat.mod_lt _ (by rw[h];omega);rw[getElem!_pos Dev.zero.vals _ g];exact zAR Dev.zero _ (by rw[<-Array.getElem_toList g];exact List.getElem_mem _)
theorem zD8 (w:World)(q:TypeId)(g c n i u:Nat)(m:List Dev)(f:Array Value)(h:w.heap[g]?=some (.cells f 36))(z:n*10<=f.size)(A:i<n):
  (Builtin.clear_ #[46] q #[.slice (some ⟨g,i*10,none⟩) (n-i) u]).run Tryz.prog w=.ok (.tuple #[]) (w.setRow g (splice f.toList (i*10) (Builtin.zeroCells (Value.agg Dev.zero.vals).cells (n-i)).toList).toArray):=by
 have o:=run_storeCells_at Tryz.prog g (i*10) 36 (Builtin.zeroCells (Value.agg Dev.zero.vals).cells (n-i)).toList 0 f w h (by rw[zFA];omega) (zIe _);obtain⟨k,v⟩:∃ k,n-i=k+1:=⟨n-i-1,by omega⟩
 have y:Value.agg Dev.zero.vals=.agg #[.int .i64 0,.int .i64 0,.string ⟨#[]⟩,.string ⟨#[]⟩,.string ⟨#[]⟩,.string ⟨#[]⟩,.string ⟨#[]⟩,.int .i64 0,.int .i64 0,.slice none 0 0]:=rfl;rw[v,y]at o ⊢;simp[Builtin.clear_,run_underlying Tryz.underlying46,o,splice]
theorem zGf {α:Type}(p:α->Bool):∀ (l:List α) (k:Nat),fidx p l=k->∀ y∈l.take k,p y=false
 | [],k,h,y,f=>by simp at f
 | x::t,0,h,y,f=>by simp at f
 | x::t,k+1,h,y,f=>by
  unfold fidx at h;cases hp:p x with
  | true=>rw[hp]at h;simp at h;omega
  | false=>
   rw[hp]at h;simp only[Bool.false_eq_true,if_false]at h;split at h
   ·omega
   ·rw[List.take_succ_cons]at f;rcases List.mem_cons.1 f with rfl | f
    ·exact hp
    ·exact zGf p t k (by omega) y f
theorem zHO (gf:Nat)(cb:Array Value)(eg:∀ args w,(callFunc gf args).run Tryz.prog w=.ok (.enter gf args) w)(p:Dev->Bool)(F:Nat)(av:Option Addr)(v:Nat)(cs:List Dev)(w:World)(q:w.ownsRow F 36 10 (.slice av cs.length v) cs.length (flat cs))(hn:cs.length<=1000)
  (z:∀ x∈cs,∀ W,Fr (fun b=>(Value.slice av cs.length v).ownBlock=some b) w W->Calls Tryz.prog gf (#[.agg x.vals]++cb) W fun e w'=>e=.returned (.bool (p x))/\Fr No W w'):
  Calls Tryz.prog 146 #[.slice av cs.length v,.func (.func gf) #[] cb] w fun e w'=>(∃ a' c' k,e=.returned (.slice a' k c')/\k=(cs.filter fun x=>!p x).length/\w'.ownsRow F 36 10 (.slice a' k c') k (flat (cs.filter fun x=>!p x)))/\Fr (fun b=>(Value.slice av cs.length v).ownBlock=some b) w w':=by
 obtain⟨a0,d8,hv,hD,_⟩:=Devs.of_own q;injection hv with e1 e2 e3
 subst e1 e3;have a2:=zB2 gf cb eg p av v cs w hD (fun d hd W hf=>z d hd W (hf.mono zn));have d9:=hD.lenmax;have a3:=zh z;clear z
 go_enter Tryz.func146,Tryz.ntmps146
 go_wp2_with fail
 refine a2.mono ?_;rintro e w1 ⟨rfl,C⟩;rcases zBN p cs with⟨D,_,R⟩ | ⟨k,x0,D,a4,_,a9,_⟩
 ·rw[D];have d0:Hid ((cs.filter fun x=>!p x)=cs):=List.filter_eq_self.2 fun y hy=>by
   have:=List.any_eq_false.1 R y hy
   simpa using this
  have U:=zh (And.intro (zG q C (fun _ _=>id)) C);clear D R a2 C q
  go_wp2_with fail
  go_ret;rw[d0.out];exact⟨⟨av,v,_,rfl,rfl,U.out.1⟩,U.out.2.mono zn⟩
 ·rw[D];have e0:k<cs.length:=(List.getElem?_eq_some_iff.1 a4).1;have b0:=zh (DelI.start a4 a9 (zGf p cs k D));obtain⟨g,rfl,hg,hR⟩:=DRow.of q (by omega);have b1:=zh (hR.fr C (S:=No) id);have V:Fr (Is g) w w1:=C.mono zn;have d1:((k:Int)==-1)=false:=by simp
  obtain⟨b4,e4,e5⟩:cs.length<=v/\(cs.length:Int)<=v/\v<=9223372036854775807:=⟨hR.nc,by have:=hR.nc;omega,by have:=hR.cm;unfold maxLen at this;omega⟩
  clear D a4 a9 q a2 C hR hD
  go_wp2_with fail
  go_loopw [5,6] (fun iv jv wr=>∃ (i j:Nat) (m:List Dev),iv=.int .i64 i/\jv=.int .i64 j/\i<j/\j<=cs.length/\Hid (DelI p cs m i j)/\Hid (DRow wr g v cs.length m)/\Fr (Is g) w wr) (fun _ jv _=>cs.length-(intOf jv).toNat)
  case atStart=>exact⟨k,k+1,cs,rfl,by congr 1,by omega,by omega,b0.out,b1.out,V⟩
  case round=>
   clear b1 b0 d1 V;obtain⟨i,j,m,rfl,rfl,b5,e6,HD,HR,a5⟩:=hrel;by_cases d2:j<cs.length
   ·have d6:(j:Int)<cs.length:=by omega
    obtain⟨x,hx⟩:∃ x,cs[j]?=some x:=⟨cs[j],List.getElem?_eq_getElem d2⟩
    obtain⟨c0,c1,c2,c3,c4,c5,c6,c7,c8,c9⟩:=HR.out.dev (HD.out.at hx);obtain⟨W2,I⟩:∃ W2,W2=wr.alloc (.cells x.vals 36):=⟨_,rfl⟩
    have f2:Fr No wr W2:=by rw[I];exact(Fr.refl _ _).alloc _
    have b2:W2.heap[wr.heap.size]?=some (.cells x.vals 36):=by rw[I];exact zD _ _
    have N:=HR.out.fr f2 (S:=No) id;obtain⟨z0,z1,z2,z3,z4,z5,z6,z7,z8,z9⟩:=DevB.of b2;have J:=a5.step f2 zn;have o:=a3.out x (List.mem_of_getElem? hx) W2 (J.mono (fun b _ h=>by unfold Is at h;rw[h];rfl));have Hx:=zh hx;have e7:g<wr.heap.size:=by obtain⟨f,h1,_⟩:=HR.out.blk;exact zC h1
    have e8:i<m.length:=by rw[HD.out.len];omega
    unfold Dev.vals at I o
    go_upto_region 8 with(fail)
    rw[<-I];clear I hx c0 c1 c2 c3 c4 c5 c6 c7 c8 c9;cases hp:p x
    ·rw[hp]at o;have a6:=zh (HD.out.put Hx.out hp b5);clear hp
     go_upto_region 9 with(go_at_fn gf;refine o.mono ?_;rintro e w3 ⟨rfl,u⟩)
     have a7:=N.fr u id;obtain⟨f,k1,k2,k3⟩:=a7.blk;have X:=a7.set (i:=i) (by omega) x k1;have Y:=Fr.setRow (S:=Is g) w3 g (splice f.toList (i*10) x.vals.toList).toArray rfl;have HF:=zh (And.intro X ((J.step u zn).step Y zi));have b3:=u.heap b2 id;have d3:(i:Int)<cs.length:=by omega
     have b6:i*10+x.vals.size<=f.size:=by rw[k2,show x.vals.size=10 from rfl];omega
     clear z0 z1 z2 z3 z4 z5 z6 z7 z8 z9 N a7 J u f2 b2 X Y k2 k3;obtain⟨z0,z1,z2,z3,z4,z5,z6,z7,z8,z9⟩:=DevB.of b3
     go_wp2_with (refine zCm rfl 36 _ _ rfl g (i*10) x.vals rfl rfl 36 f k1 zDE b6 (zAR x) ?_)
     go_roundw
     case rel=>exact⟨i+1,j+1,_,by congr 1,by congr 1,by omega,by omega,a6.out,HF.out.1,HF.out.2⟩
     case measure=>simp[intOf];omega
    ·rw[hp]at o;have a6:=zh (HD.out.skip Hx.out hp);clear hp
     go_wp2_with (go_at_fn gf;refine o.mono ?_;rintro e w3 ⟨rfl,u⟩)
     have HF:=zh (And.intro (N.fr u id) (J.step u zn));clear N J u z0 z1 z2 z3 z4 z5 z6 z7 z8 z9 f2 b2
     go_roundw
     case rel=>exact⟨i,j+1,m,rfl,by congr 1,by omega,by omega,a6.out,HF.out.1,HF.out.2⟩
     case measure=>simp[intOf];omega
   ·obtain rfl:j=cs.length:=by omega
    obtain⟨f,k1,k2,k3⟩:=HR.out.blk;have b7:i<cs.length:=b5;have Z:∀ ty dl dc,dl=cs.length-i->(Builtin.clear_ #[46] ty #[.slice (some ⟨g,i*10,none⟩) dl dc]).run Tryz.prog wr=.ok (.tuple #[]) (wr.setRow g (splice f.toList (i*10) (Builtin.zeroCells (Value.agg Dev.zero.vals).cells (cs.length-i)).toList).toArray):=fun ty dl dc e=>by
     subst e;exact zD8 wr ty g v cs.length i dc m f k1 (by omega) b7
    have b8:cs.take cs.length=cs:=List.take_of_length_le (Nat.le_refl _);have a8:=HD.out.lo;have O:=HD.out.il;rw[b8]at a8 O;obtain⟨row,A⟩:∃ row,row=splice f.toList (i*10) (Builtin.zeroCells (Value.agg Dev.zero.vals).cells (cs.length-i)).toList:=⟨_,rfl⟩
    rw[<-A]at Z;have L:Hid ((wr.setRow g row.toArray).ownsRow F 36 10 (.slice (some ⟨g,0,none⟩) i v) i (flat (cs.filter fun x=>!p x))/\i=(cs.filter fun x=>!p x).length/\Fr (Is g) w (wr.setRow g row.toArray)):=by
     have d4:=zFA (cs.length-i);have b9:f.toList.length=f.size:=Array.length_toList;have b4:row.length=f.size:=by rw[A,length_splice _ _ _ (by rw[d4];omega),b9]
     have d5:row.take (i*10)=(flat m).take (i*10):=by
      rw[A,<-k3,List.take_take,Nat.min_eq_left (by omega)];unfold splice;exact List.take_left' (by rw[List.length_take];omega)
     refine⟨⟨by rw[zJt,<-O],.inr ⟨g,v,row.toArray,rfl,hg,setRow_heap wr g f _ _ _ k1,by omega,by unfold maxLen;omega,by rw[List.size_toArray,b4,k2],?_⟩⟩,O,a5.step (Fr.setRow (S:=Is g) wr g row.toArray rfl) zi⟩;rw[List.toList_toArray,d5,(zDA i m).1,a8]
    have e9:¬ v=i:=by omega
    have d3:i<=v:=by omega
    have d7:(i:Int)<=cs.length:=by omega
    clear A b8 a8 O k1 k2 k3 a5
    go_wp2_with (simp only[Z _ _ _ rfl])
    go_ret;exact⟨⟨some ⟨g,0,none⟩,v,i,rfl,L.out.2.1,L.out.1⟩,L.out.2.2.mono (fun b _ h=>by unfold Is at h;rw[h];rfl)⟩
end Go.Proofs.YtinfjnndbfahhaaGreatDoor
