import Derived.Test.YtinfjnndbfahhaaGreatDoorQ39
namespace Go.Proofs.YtinfjnndbfahhaaGreatDoor
open Go.RowKit Go.Maps Go.Shelf
set_option linter.unusedVariables false
set_option maxRecDepth 100000
set_option maxHeartbeats 4000000
attribute [local go_sem] Oper.semAt_some
theorem zJL {α:Type}{L:List α}{f:List (Int×α)}{x:Int×α}(h:f++[x] <+: revR L):f.length<L.length/\L.take (L.length-f.length)=L.take (L.length-(f++[x]).length)++[x.2]:=by
 have q:=h.length_le;rw[zAl,List.length_append]at q;simp only[List.length_cons,List.length_nil]at q;have o:f.length<L.length:=by omega
 have y:(revR L)[f.length]?=some x:=by
  obtain⟨t,A⟩:=h;rw[<-A];simp
 refine⟨o,?_⟩;obtain⟨j,I⟩:∃ j,j=L.length-1-f.length:=⟨_,rfl⟩
 have g:j<L.length:=by omega
 obtain⟨z,u⟩:∃ z,L[j]?=some z:=⟨_,List.getElem?_eq_getElem g⟩
 have v:=zFW g u;have e:L.length-1-j=f.length:=by omega
 rw[e,y]at v;have C:x.2=z:=by rw[Option.some.inj v]
 have D:L.length-f.length=j+1:=by omega
 have F:L.length-(f++[x]).length=j:=by rw[List.length_append];simp only[List.length_cons,List.length_nil];omega
 rw[D,F,C,List.take_add_one,u];rfl
def ZD : Dev:=⟨0,0,⟨#[]⟩,⟨#[]⟩,⟨#[]⟩,⟨#[]⟩,⟨#[]⟩,0,0,none,0,0⟩
def rmOps (pre:List (Int×Dev)):List Value:=pre.flatMap fun p=>(ocs 2 (pathOf [p.2.orig]) ZD ⟨#[]⟩ ⟨#[]⟩).toList
theorem zG8 (f:List (Int×Dev))(x:Int×Dev):rmOps (f++[x])=rmOps f++(ocs 2 (pathOf [x.2.orig]) ZD ⟨#[]⟩ ⟨#[]⟩).toList:=by unfold rmOps;rw[List.flatMap_append];simp
def TrF (a:Option Addr)(cs:List Dev)(b:Nat):Prop:=(∃ ad,a=some ad/\ad.block=b)\/∃ d∈cs,∃ ad,d.aa=some ad/\ad.block=b
def TrT (W:World)(a:Option Addr)(cs:List Dev):Prop:=∀ b,TrF a cs b->∃ x T,W.heap[b]?=some (.cells x T (0,0))/\(T=36\/T=76)
theorem TrT.fr {S:Nat->Prop}{W f:World}{a:Option Addr}{cs:List Dev}(h:TrT W a cs)(o:Fr S W f)(q:∀ b,TrF a cs b->¬ S b):TrT f a cs:=fun b g=>by
 obtain⟨x,T,u,v⟩:=h b g;exact⟨x,T,o.heap u (q b g),v⟩
theorem TrT.lt {W:World}{a:Option Addr}{cs:List Dev}(h:TrT W a cs){b:Nat}(f:TrF a cs b):b<W.heap.size:=by
 obtain⟨x,T,g,_⟩:=h b f;exact zC g
theorem TrT.ne {W:World}{a:Option Addr}{cs:List Dev}(h:TrT W a cs){b k:Nat}(g:TrF a cs b){x:Array Value}{T:TypeId}(o:W.heap[k]?=some (.cells x T))(q:T≠36)(u:T≠76):b≠k:=by
 rintro rfl;obtain⟨y,z,f,v⟩:=h b g;rw[o]at f;cases f;exact v.elim q u
theorem TrT.ne_own {W:World}{a:Option Addr}{cs:List Dev}(h:TrT W a cs){b f n:Nat}(g:TrF a cs b){v:Value}{o:List Value}(q:W.ownsRow f 38 14 v n o):¬ v.ownBlock=some b:=by
 obtain⟨y,A,u,z⟩:=h b g;refine zR q u ?_;rcases z with rfl | rfl<;>decide
theorem Tr.foot {S:Nat->Prop}{W u:World}{f:Nat}{a:Option Addr}{g:Nat}{ds:List Dev}(h:Tr W f a g ds)(v:Fr S W u)(y:∀ b,TrF a ds b->¬ S b):Tr u f a g ds:=
 ⟨h.dv.fr v (fun q e _=>y _ (.inl ⟨q,e,rfl⟩)),h.wf,h.fresh,fun d o=>by
  obtain⟨l,z,A⟩:=(h.el d o).att;exact⟨(h.el d o).sz,(h.el d o).drv,⟨l,z.fr v (fun q e _=>y _ (.inr ⟨d,o,q,e,rfl⟩)),A⟩,(h.el d o).fresh⟩⟩
structure RmI (pb rb base:Nat)(w0:World)(ds:List Dev)(pre:List (Int×Dev))(V:Nat->Prop)(W:World):Prop where
 st:∃ (a1:Option Addr) (c1:Nat) (cs:List Dev) (ao:Option Addr) (co:Nat),W.heap[pb]?=some (.cells #[.slice a1 cs.length c1,.slice ao pre.length co] 135)/\Tr W base a1 c1 cs/\cs.map strip=(ds.take (ds.length-pre.length)).map strip/\W.ownsRow rb 38 14 (.slice ao pre.length co) pre.length (rmOps pre)/\TrT W a1 cs/\V=fun b=>b=pb\/(Value.slice ao pre.length co).ownBlock=some b\/(w0.heap.size<=b/\TrF a1 cs b)
 fr:Fr (fun b=>b=pb\/w0.heap.size<=b) w0 W
theorem RmI.lt {q u f:Nat}{v:World}{ds:List Dev}{o:List (Int×Dev)}{V:Nat->Prop}{W:World}(h:RmI q u f v ds o V W){b:Nat}(g:V b):b<W.heap.size:=by
 obtain⟨C,D,cs,F,I,y,J,L,z,A,rfl⟩:=h.st;rcases g with rfl | g | g
 ·exact zC y
 ·exact(zAG z g).2
 ·exact A.lt g.2
theorem RmI.mv {z C g:Nat}{y:World}{ds:List Dev}{u:List (Int×Dev)}{V S:Nat->Prop}{A B:World}(h:RmI z C g y ds u V A)(v:Fr S A B)(q:∀ b,S b->¬ V b/\y.heap.size<=b):RmI z C g y ds u V B:=by
 obtain⟨D,F,cs,I,J,L,N,O,R,U,X⟩:=h.st;subst X;exact⟨⟨D,F,cs,I,J,v.heap L (fun o=>(q _ o).1 (.inl rfl)),N.foot v (fun b o f=>(q b f).1 (.inr (.inr ⟨(q b f).2,o⟩))),O,zG R v (fun b o f=>(q b f).1 (.inr (.inl o))),U.fr v (fun b o f=>(q b f).1 (.inr (.inr ⟨(q b f).2,o⟩))),rfl⟩,h.fr.step v (fun b o f=>.inr (q b f).2)⟩
theorem zH6 (f mb v:Nat)(a:Option Addr)(a3:Nat)(ds:List Dev)(g0:ByteArray×ByteArray->Option Value)(N:Nat)(w:World)(hl:Tr w v a a3 ds)(hn:ds.length<=250)(hE:Env w)(hF:FlatW ds)(d9:TrT w a ds)
  (b9:w.heap[f]?=some (.cells #[.slice a ds.length a3,.slice none 0 0] 135)) (hQ:QMap w mb g0 N) (hg:∀ p,g0 p=none) (hv:∀ d∈ds,preB d.orig=true) (q3:f≠mb) (q4:v<=f) (q5:8<f):
  Calls Tryz.prog 66 #[.pointer (some ⟨f,0,none⟩),.map (some mb)] w fun e w'=>e=.returned (.tuple #[])/\(∃ (ao:Option Addr) (co Y:Nat) (Z:Option Addr),w'.heap[f]?=some (.cells #[.slice Z 0 Y,.slice ao ds.length co] 135)/\Tr w' v Z Y []/\w'.ownsRow w.heap.size 38 14 (.slice ao ds.length co) ds.length (rmOps (revR ds)))/\Fr (Is f) w w':=by
 obtain⟨i0,n4,n5,n8,o0⟩:=info_parts infoOp;refine(callsIn_wide (n:=12)).1 (callsIn_of_wp_marks Tryz.func66 rfl trivial (wpIn_wide.2 ?_));simp only[Tryz.ntmps66,List.size_toArray,List.length_cons,List.length_nil,Nat.reduceAdd,Nat.reduceSub,Array.replicate_succ,Array.replicate_zero,List.push_toArray,List.append_toArray,List.nil_append,List.cons_append];have HV:=zh hv;have HF:=zh hF;have HN:=zh hn;have l0:=zh hg;obtain⟨W0,f4⟩:∃ W0,W0=(w.alloc (.cells #[.pointer (some ⟨f,0,none⟩)] 133)).alloc (.cells #[.map (some mb)] 80):=⟨_,rfl⟩
 have hW:Fr No w W0:=by rw[f4];exact((Fr.refl _ _).alloc _).alloc _
 have b2:W0.heap[w.heap.size]?=some (.cells #[.pointer (some ⟨f,0,none⟩)] 133):=by rw[f4];exact zI _ _ _
 have b3:W0.heap[w.heap.size+1]?=some (.cells #[.map (some mb)] 80):=by rw[f4];exact zL _ _ _
 have l1:W0.heap.size=w.heap.size+2:=by rw[f4];simp
 have t2:W0.cell? ⟨w.heap.size,0,none⟩=some (.pointer (some ⟨f,0,none⟩)):=zB b2 0;have t0:W0.cell? ⟨f,0,none⟩=some (.slice a ds.length a3):=zB (hW.heap b9 id) 0;have l2:=zh l1;have q6:=hl.dv.lenmax;clear l1
 go_upto_region 1 with(fail)
 rw[<-f4];clear f4
 go_wp2_with fail
 refine(zEZ _ _ _ _).mono ?_;rintro e w1 ⟨rfl,rfl⟩;have hx:Fr No W0 (W0.alloc (.cells #[.slice a ds.length a3] 46)):=(Fr.refl _ _).alloc _;have db:=zD W0 (.cells #[.slice a ds.length a3] 46);have F:=hW.step hx zi;have d2:=hx.heap b2 id;have d3:=hx.heap b3 id;rw[l2.out]at db;clear t0 t2 b2 b3 hx hW
 go_wp2_with fail
 rw[l2.out];generalize W0.alloc (.cells #[.slice a ds.length a3] 46)=W2 at *;obtain⟨rb,o1⟩:∃ rb,rb=W2.heap.size+2:=⟨_,rfl⟩
 have q1:f<W2.heap.size:=by have:=zC b9;have:=F.size;omega
 have q2:f<w.heap.size:=zC b9;have HA:=zh (And.intro (hl.no F) (And.intro (hE.no F) (And.intro (F.heap b9 id) (hQ.fr F id))));have HD:=zh (And.intro d2 d3);refine(wpIn_wide (n:=12)).1 (zAD (α:=Int×Dev) (T:=fun _=>False) (V0:=Is f) rfl (by omega) (gf:=144) (lb:=#[.pointer (some ⟨w.heap.size+2,0,none⟩)]) rfl trivial (enters_of Tryz.func144 (by kernel_rfl) rfl) (encs:=fun x:Int×Dev=>#[.int .i64 x.1,.agg x.2.vals]) (fun _=>rfl) (fun b h=>h.elim) (fun b h=>by unfold Is at h;omega)
  (zAs 11 (by omega) (w.heap.size+2) a a3 ds W2 (Is f) db HA.out.1.dv (by omega) ⟨fun h=>by unfold Is at h;omega,fun ad e _ h=>d9.ne (.inl ⟨ad,e,rfl⟩) b9 (by decide) (by decide) h⟩)
  (RmI f rb v W2 ds) (fun s V A h b D=>h.lt D) (fun s V A B S h hf hS=>h.mv hf (fun b D=>⟨(hS b D).1,(hS b D).2.resolve_left id⟩))
  ⟨⟨a,a3,ds,none,0,HA.out.2.2.1,HA.out.1,by simp,World.ownsRow_nil _ _ _ _,d9.fr F (fun _ _=>id),by
   funext b
   apply propext;constructor
   ·intro h;exact .inl h
   ·rintro (h | h | ⟨h1,h2⟩)
    ·exact h
    ·cases h
    ·have:=d9.lt h2;have:=F.size;omega⟩,Fr.refl _ _⟩
  (fun x V a' W=>∃ Bx,W2.heap.size+2<=Bx/\W.heap[Bx]?=some (.cells x.2.vals 36)/\¬ V Bx/\a'={ tmps:=#[.pointer (some ⟨f,0,none⟩),.map (some mb),.pointer (some ⟨w.heap.size,0,none⟩),.pointer (some ⟨w.heap.size+1,0,none⟩),undef,.pointer (some ⟨Bx,0,none⟩),undef,undef,undef,undef,.pointer (some ⟨f,0,none⟩),.pointer (some ⟨f,0,none⟩),.pointer (some ⟨f,0,none⟩),.pointer (some ⟨f,0,none⟩),.slice a ds.length a3,.func (.func 144) #[] #[.pointer (some ⟨w.heap.size+2,0,none⟩)],.int .i64 x.1,.agg x.2.vals,undef,undef,undef,undef,undef,undef,undef,undef,undef,undef,undef,undef,undef,undef,undef,undef,undef,undef,undef,undef,undef,undef,undef,undef,undef,undef,undef,undef,undef,undef,undef,undef,undef,undef,undef,undef,undef,undef,undef,undef,undef,undef,undef,undef,undef,undef,undef,undef,undef,undef,undef,undef,undef,undef,undef,undef,undef,undef,undef,undef,undef],defers:=[] })
  (fun x V a' A B h hf=>by obtain⟨Bx,h1,h2,h3,h4⟩:=h;exact⟨Bx,h1,hf.heap h2 (fun e=>by unfold Is at e;omega),h3,h4⟩)
  ?assign ?body ?done)
 case assign=>
  intro l u V x W K hi i7 R;have o2:∀ b,V b->b<W.heap.size:=fun b D=>hi.lt D
  have q7:=fun a' W' (h1:Fr No W W') h2=>R a' W' h1 h2
  clear hl hE b9 hQ hg hv hn F d2 d3 db;unfold Dev.vals
  gi_wp2
  exact R _ _ ((Fr.refl _ _).alloc _) ⟨W.heap.size,i7,zD _ _,fun h=>by have:=o2 _ h;omega,rfl⟩
 case done=>
  rintro V W hi R q8;obtain⟨Z,Y,cs,ao,co,d0,C,a4,U,o3,o4⟩:=hi.st;have d4:Fr (Is W2.heap.size) W (W.putObj W2.heap.size (.deferred none)):=Fr.putObj _ _ _ rfl;have o5:(revR ds).length=ds.length:=zAl ds;rw[o5]at d0 a4 U;rw[Nat.sub_self,List.take_zero,List.map_nil]at a4;have o6:cs=[]:=by rw[List.map_eq_nil_iff]at a4;exact a4
  subst o6;have x1:=d4.heap d0 (fun h=>by unfold Is at h;omega);have x2:=zEF (zG U d4 (fun b D h=>by have:=(zAG U D).1;unfold Is at h;omega)) (base':=w.heap.size) (by have:=F.size;omega);have x3:Fr (Is f) w (W.putObj W2.heap.size (.deferred none)):=((F.mono zn).step hi.fr (fun b D h=>h)).step d4 (fun b D e=>by unfold Is at e;omega) |>.mono (fun b D h=>by
   rcases h with h | h
   ·exact h
   ·have:=F.size;omega)
  have x4:Tr (W.putObj W2.heap.size (.deferred none)) v Z Y []:=⟨⟨C.dv.len,C.dv.max,C.dv.isNil,fun ad e o7=>absurd rfl o7⟩,C.wf,C.fresh,fun d hd=>by simp at hd⟩
  have d5:=zh (And.intro x1 (And.intro x4 (And.intro x2 x3)));clear hi d4 F d0 C U o3 x1 x2 x3 x4 o4
  go_wp2_with fail
  refine⟨by simp,.inl ⟨_,_,rfl,run_takeDeferred R,?_⟩⟩;exact⟨.tuple #[],by simp[results,Tryz.results66,go_sem],rfl,⟨ao,co,Y,Z,d5.out.1,d5.out.2.1,d5.out.2.2.1⟩,d5.out.2.2.2⟩
 case body=>
  rintro l u V ⟨xi,d⟩ a' J hi ⟨Bx,q9,j2,l3,rfl⟩ i8 i7;obtain⟨Z,Y,cs,ao,co,d0,C,a4,U,d9,rfl⟩:=hi.st;obtain⟨r0,f5⟩:=zJL i8;obtain⟨L,hL⟩:∃ L,L=ds.take (ds.length-(u++[(xi,d)]).length):=⟨_,rfl⟩
  rw[<-hL]at f5;have j3:FlatW (L++[d]):=by rw[<-f5];exact HF.out.sub (List.take_sublist _ _)
  rw[f5]at a4;obtain⟨o8,⟨dn,j4⟩,l4,l5,j5⟩:=j3.step a4;have b1:d∈ds:=(List.take_sublist (ds.length-u.length) ds).subset (by rw[f5];simp);rw[HV.out d b1]at j5;have o9:cs.length<=250:=by
   have h:=congrArg List.length a4;rw[List.length_map,List.length_map,<-f5,List.length_take]at h;have:=HN.out;omega
  have r1:u.length<=250:=by have:=HN.out;omega
  have g4:=zh (And.intro l4 (And.intro j3 hL));have b4:∀ b,b<W2.heap.size->b≠f->¬ (b=f\/W2.heap.size<=b):=fun b h h1 h'=>by rcases h' with h' | h'<;>omega
  have D1:=zh j2;have i3:Hid (Bx<J.heap.size/\w.heap.size<J.heap.size/\w.heap.size+1<J.heap.size):=⟨zC j2,by have:=zC HD.out.1;omega,by have:=zC HD.out.2;omega⟩
  have f6:=hi.fr;have b5:=zh (And.intro (f6.heap HD.out.1 (b4 _ (zC HD.out.1) (by omega))) (f6.heap HD.out.2 (b4 _ (zC HD.out.2) (by omega))));have l6:Env J:=HA.out.2.1.fr f6 (fun b D=>b4 b (by have:=HA.out.2.1.sz;omega) (by omega));have j6:=HA.out.2.2.2.fr f6 (b4 _ HA.out.2.2.2.lt (by omega));have HI:=zh f6;have d6:=zh U;have l7:=zh d9;have p0:=zh l3;have p1:Hid (rb<=J.heap.size):=by have:=o1;unfold Hid;omega
  clear hl hE b9 hQ hg hv hn F d2 d3 db f6 i8 b4 j2 hi U d9 a4 f5 j3 o8 l4 l3;have g5:Hid (mb<J.heap.size/\f<J.heap.size):=⟨j6.lt,zC d0⟩
  have l8:Hid (∀ W,Fr No J W->QMap W mb g0 N):=fun W hW=>j6.fr hW id
  obtain⟨P,hP⟩:∃ P,P=plc cs d.parent:=⟨_,rfl⟩
  obtain⟨xo,j7⟩:∃ xo,xo=d.orig:=⟨_,rfl⟩
  have l9:(Lit.int .i64 d.parent).wf=true:=by rw[HF.out.pa d b1];decide
  have p2:Hid ((Lit.int .i64 d.index).wf=true):=HF.out.ok.ok.iwf b1;have j8:Hid (∀ W,Fr No J W->Calls Tryz.prog 115 #[.agg #[.slice Z cs.length Y],.agg d.vals] W fun e w'=>e=.returned (.agg #[.string P,.string xo])/\Fr No W w'):=fun W hW=>by
   rw[hP,j7];have hT:=C.no hW;exact zEb Z Y cs d W hT.dv hT.wf.ok (by omega) l9
  have i4:Hid (P.size<=maxLen/\xo.size<=maxLen):=by
   rw[hP,j7];have h1:=zBJ C.wf.ok o9 d.parent;have h2:=HF.out.ok.ok.sz d b1;refine⟨?_,?_⟩<;>unfold maxLen<;>omega
  have p3:Hid (∀ W,Fr No J W->Calls Tryz.prog 61 #[.agg #[.slice Z cs.length Y],.int .i64 d.index] W fun e w'=>e=.returned (.bool true)/\Fr No W w'):=fun W hW=>by
   have:=zCE Z Y cs v d.index W (C.no hW) (l6.no hW).err;rw[j5]at this;exact this
  have p4:Hid (∀ W,Fr No J W->Calls Tryz.prog 59 #[.agg #[.slice Z cs.length Y],.int .i64 d.index] W fun e w'=>e=.returned (.tuple #[.string (pathOf [d.orig]),.bool true])/\Fr No W w'):=fun W hW=>by
   have:=zA5 Z Y cs d.index W (C.no hW).dv C.wf.ok (by omega) p2.out;have e1:(((look cs d.index).map fun _=>pathOf (origin cs d.index)).getD ⟨#[]⟩)=pathOf [d.orig]:=l5;rw[e1,j4]at this;exact this
  have p5:Hid (∀ W,Tr W v Z Y cs->Calls Tryz.prog 93 #[.agg #[.slice Z cs.length Y],.int .i64 d.index] W fun e w'=>RemRes W w' cs d.index e/\Fr No W w'):=fun W hW=>zF6 Z Y v cs d.index dn W hW (by omega) j4
  obtain⟨y,hy⟩:∃ y:Vir,(g0 (P,xo)).getD zBf=.agg #[.string y.q,.string y.o,.string y.c,.int .i64 y.r]:=⟨⟨⟨#[]⟩,⟨#[]⟩,⟨#[]⟩,0⟩,by rw[l0.out];rfl⟩
  obtain⟨bk,j9⟩:∃ bk,bk=(g0 (P,xo)).isSome:=⟨_,rfl⟩
  have p6:Hid (bk=false):=by rw[j9,l0.out];rfl
  have HY:=zh hy;have m0:=zh j9.symm;have g6:=zh d0;have k0:=zh C;unfold Dev.vals at j8;clear hP j7 hy j9 j6 C l6 b1 d0 l9 j5 l5 j4;dsimp only;unfold Dev.vals
  gi_wp2
  refine zAq (From J.heap.size) (.q 0 (.q 1 (.q 2 (.q 3 (.q 4 (.q 5 (.m2 6 (.q 7 (.q 8 (.q 9 (.q 10 (.m1 11 (.m1 12 (.q 13 .fin))))))) 11 (.m1 6 (.q 7 (.q 8 (.q 9 (.q 10 (.m1 12 (.q 13 .fin)))))))))))))) _ (by kernel_rfl) (by kernel_rfl) (fun W3 a5=>?_) zj;have d3:=a5.heap D1.out id;have yp:=a5.heap g6.out id;have y2:=a5.heap b5.out.1 id;have y3:=a5.heap b5.out.2 id;have X:∀ g:Gr (From J.heap.size) W3,DevB g.W Bx d:=fun g=>DevB.of (g.fr.heap d3 (by unfold From;have:=i3.out;omega))
  have e0:=fun g=>(X g).c0
  have e1:=fun g=>(X g).c1
  have e2:=fun g=>(X g).c2
  have e3:=fun g=>(X g).c3
  have e4:=fun g=>(X g).c4
  have e5:=fun g=>(X g).c5
  have e6:=fun g=>(X g).c6
  have e7:=fun g=>(X g).c7
  have e8:=fun g=>(X g).c8
  have e9:=fun g=>(X g).c9
  have x2:∀ g:Gr (From J.heap.size) W3,g.W.cell? ⟨w.heap.size,0,none⟩=some (.pointer (some ⟨f,0,none⟩)):=fun g=>zB (g.fr.heap y2 (by unfold From;have:=i3.out;have:=g5.out;omega)) 0
  have x3:∀ g:Gr (From J.heap.size) W3,g.W.cell? ⟨w.heap.size+1,0,none⟩=some (.map (some mb)):=fun g=>zB (g.fr.heap y3 (by unfold From;have:=i3.out;have:=g5.out;omega)) 0
  have x0:∀ g:Gr (From J.heap.size) W3,g.W.cell? ⟨f,0,none⟩=some (.slice Z cs.length Y):=fun g=>zB (g.fr.heap yp (by unfold From;have:=i3.out;have:=g5.out;omega)) 0
  have i5:=zh a5;clear X d3 yp y2 y3 a5
  repeat((first|apply zM rfl rfl rfl|apply zO rfl rfl rfl);intro K R;go_big_quiet_op;go_big_quiet_on)
  clear e0 e1 e2 e3 e4 e5 e6 e7 e8 e9 x0 x2 x3;refine zv rfl rfl ?_ ?_
  focus
   go_wp2_with fail
   refine(j8.out W3 i5.out).mono ?_;rintro e Wc ⟨rfl,b6⟩
   go_wp2_with fail
   refine zm b6 ?_;have f8:=zh (i5.out.step b6 zi);have g7:∀ W,(∃ g:Gr (From J.heap.size) Wc,W=g.W)->(Instr.lookup 80 (.map (some mb)) (.agg #[.string P,.string xo]) true).run Tryz.prog W=.ok (.tuple #[.agg #[.string y.q,.string y.o,.string y.c,.int .i64 y.r],.bool bk]) W:=fun W hW=>by
    obtain⟨g,rfl⟩:=hW;have:=((l8.out _ f8.out).fr g.fr (by unfold From;have:=g5.out;omega)).lookok (zBo g.W) Tryz.underlying80 i4.out.1 i4.out.2;rw[this,HY.out,m0.out]
   apply zM rfl rfl rfl;intro K R;refine zAC rfl _ _ 80 rfl (.map (some mb)) (.agg #[.string P,.string xo]) _ rfl rfl g7 ?_
   go_frame
   go_big_quiet_on;clear g7;apply zM rfl rfl rfl;intro K R;go_big_quiet_op;go_big_quiet_on;apply zM rfl rfl rfl;intro K R;go_big_quiet_op;go_big_quiet_on;apply zM rfl rfl rfl;intro K R;go_big_quiet_op;go_big_quiet_on;clear b6;apply zH;exact rfl;obtain⟨Wa,a6⟩:∃ Wa,Wa=Wc.alloc (.cells #[.string ⟨#[]⟩,.string ⟨#[]⟩,.string ⟨#[]⟩,.int .i64 0] 94):=⟨_,rfl⟩
   have g8:Fr No Wc Wa:=by rw[a6];exact(Fr.refl _ _).alloc _
   have qa:Wa.heap[Wc.heap.size]?=some (.cells #[.string ⟨#[]⟩,.string ⟨#[]⟩,.string ⟨#[]⟩,.int .i64 0] 94):=by rw[a6];exact zD _ _
   go_wp2_with fail
   refine zp ?_;rw[<-a6];clear a6;have g9:Hid (Fr No J Wa):=f8.out.step g8 zi;have a7:Hid (J.heap.size<=Wc.heap.size):=f8.out.size;have qz:=qa;clear g8 qa;obtain⟨B,hB⟩:∃ B,B=Wc.heap.size:=⟨_,rfl⟩
   rw[<-hB]at qz a7 ⊢;clear hB;obtain⟨z0,z1,z2,z3⟩:=cl4 qz;obtain⟨f0,f1,f2,f3⟩:=fl4 qz;have h4:=zh (set4 qz rfl (.string y.q) (.string y.o) (.string y.c) (.int .i64 y.r));clear qz;apply zH;exact rfl
   go_wp2_with fail
   refine OnlyN.mk ⟨h4.out.2.mono (fun b _ h=>by unfold Is at h;unfold From;have:=a7.out;omega),?_⟩;apply zM rfl rfl rfl;intro K R;go_big_quiet_op;go_big_quiet_on;refine zX ?_;obtain⟨w5,d1⟩:∃ w5,w5=((((Wa.setCell ⟨B,0,none⟩ (.string y.q)).setCell ⟨B,1,none⟩ (.string y.o)).setCell ⟨B,2,none⟩ (.string y.c)).setCell ⟨B,3,none⟩ (.int .i64 y.r)):=⟨_,rfl⟩
   rw[<-d1];have a8:=h4.out;rw[<-d1]at a8;have g1:Hid (Fr No J w5):=g9.out.step a8.2 (fun b D h=>by unfold Is at h;have:=a7.out;omega);have p7:=zh a8.1;clear d1 h4 a8 z0 z1 z2 z3 f0 f1 f2 f3 g9 a7
  rotate_left 1
  focus
   obtain⟨Wa,a6⟩:∃ Wa,Wa=W3.alloc (.cells #[.string ⟨#[]⟩,.string ⟨#[]⟩,.string ⟨#[]⟩,.int .i64 0] 94):=⟨_,rfl⟩
   have g8:Fr No W3 Wa:=by rw[a6];exact(Fr.refl _ _).alloc _
   have qa:Wa.heap[W3.heap.size]?=some (.cells #[.string ⟨#[]⟩,.string ⟨#[]⟩,.string ⟨#[]⟩,.int .i64 0] 94):=by rw[a6];exact zD _ _
   go_wp2_with fail
   refine zp ?_;rw[<-a6];clear a6;have m3:=zh (i5.out.step g8 zi);clear g8;apply zH;exact rfl
   go_wp2_with fail
   refine(j8.out Wa m3.out).mono ?_;rintro e Wc ⟨rfl,b6⟩
   go_wp2_with fail
   refine zm b6 ?_;have qb:=b6.heap qa id;clear qa;have f8:=zh (m3.out.step b6 zi);have g7:∀ W,(∃ g:Gr (From J.heap.size) Wc,W=g.W)->(Instr.lookup 80 (.map (some mb)) (.agg #[.string P,.string xo]) true).run Tryz.prog W=.ok (.tuple #[.agg #[.string y.q,.string y.o,.string y.c,.int .i64 y.r],.bool bk]) W:=fun W hW=>by
    obtain⟨g,rfl⟩:=hW;have:=((l8.out _ f8.out).fr g.fr (by unfold From;have:=g5.out;omega)).lookok (zBo g.W) Tryz.underlying80 i4.out.1 i4.out.2;rw[this,HY.out,m0.out]
   apply zM rfl rfl rfl;intro K R;refine zAC rfl _ _ 80 rfl (.map (some mb)) (.agg #[.string P,.string xo]) _ rfl rfl g7 ?_
   go_frame
   go_big_quiet_on;clear g7;apply zM rfl rfl rfl;intro K R;go_big_quiet_op;go_big_quiet_on;apply zM rfl rfl rfl;intro K R;go_big_quiet_op;go_big_quiet_on;apply zM rfl rfl rfl;intro K R;go_big_quiet_op;go_big_quiet_on;clear b6;have g9:Hid (Fr No J Wc):=f8.out;have a7:Hid (J.heap.size<=W3.heap.size):=i5.out.size;have qz:=qb;clear qb;obtain⟨B,hB⟩:∃ B,B=W3.heap.size:=⟨_,rfl⟩
   rw[<-hB]at qz a7 ⊢;clear hB;obtain⟨z0,z1,z2,z3⟩:=cl4 qz;obtain⟨f0,f1,f2,f3⟩:=fl4 qz;have h4:=zh (set4 qz rfl (.string y.q) (.string y.o) (.string y.c) (.int .i64 y.r));clear qz;apply zH;exact rfl
   go_wp2_with fail
   refine OnlyN.mk ⟨h4.out.2.mono (fun b _ h=>by unfold Is at h;unfold From;have:=a7.out;omega),?_⟩;apply zM rfl rfl rfl;intro K R;go_big_quiet_op;go_big_quiet_on;refine zX ?_;obtain⟨w5,d1⟩:∃ w5,w5=((((Wc.setCell ⟨B,0,none⟩ (.string y.q)).setCell ⟨B,1,none⟩ (.string y.o)).setCell ⟨B,2,none⟩ (.string y.c)).setCell ⟨B,3,none⟩ (.int .i64 y.r)):=⟨_,rfl⟩
   rw[<-d1];have a8:=h4.out;rw[<-d1]at a8;have g1:Hid (Fr No J w5):=g9.out.step a8.2 (fun b D h=>by unfold Is at h;have:=a7.out;omega);have p7:=zh a8.1;clear d1 h4 a8 z0 z1 z2 z3 f0 f1 f2 f3 g9 a7
  all_goals (
   obtain rfl:bk=false:=p6.out
   gi_wp2
   refine zA9 No [(0,false),(1,false),(2,false),(3,false),(4,false),(5,false),(6,true),(7,false),(8,false),(9,false),(10,false),(11,false),(12,false),(13,false),(14,false),(15,false)] (by kernel_rfl) (by kernel_rfl) (fun w6 g2=>?_);have d3:=g2.heap (g1.out.heap D1.out id) id;have yp:=g2.heap (g1.out.heap g6.out id) id;have y2:=g2.heap (g1.out.heap b5.out.1 id) id;have y3:=g2.heap (g1.out.heap b5.out.2 id) id;have X:∀ g:Gr (No) w6,DevB g.W Bx d:=fun g=>DevB.of (g.fr.heap d3 (id))
   have e0:=fun g=>(X g).c0
   have e1:=fun g=>(X g).c1
   have e2:=fun g=>(X g).c2
   have e3:=fun g=>(X g).c3
   have e4:=fun g=>(X g).c4
   have e5:=fun g=>(X g).c5
   have e6:=fun g=>(X g).c6
   have e7:=fun g=>(X g).c7
   have e8:=fun g=>(X g).c8
   have e9:=fun g=>(X g).c9
   have x2:∀ g:Gr (No) w6,g.W.cell? ⟨w.heap.size,0,none⟩=some (.pointer (some ⟨f,0,none⟩)):=fun g=>zB (g.fr.heap y2 (id)) 0
   have x3:∀ g:Gr (No) w6,g.W.cell? ⟨w.heap.size+1,0,none⟩=some (.map (some mb)):=fun g=>zB (g.fr.heap y3 (id)) 0
   have x0:∀ g:Gr (No) w6,g.W.cell? ⟨f,0,none⟩=some (.slice Z cs.length Y):=fun g=>zB (g.fr.heap yp (id)) 0
   have m4:=zh (g1.out.step g2 zi);clear X d3 yp y2 y3 g2
   repeat((first|apply zS rfl rfl rfl|apply zW rfl rfl rfl);intro K R;go_big_quiet_op;go_big_quiet_on)
   clear e0 e1 e2 e3 e4 e5 e6 e7 e8 e9 x0 x2 x3;apply zk;exact rfl
   go_wp2_with fail
   refine(p3.out w6 m4.out).mono ?_;rintro e w7 ⟨rfl,k1⟩;have i6:=zh (m4.out.step k1 zi)
   go_wp2_with fail
   refine zm k1 ?_;clear k1
   repeat((first|apply zS rfl rfl rfl|apply zW rfl rfl rfl);intro K R;go_big_quiet_op;go_big_quiet_on)
   refine zY ?_
   gi_upto_region 5 with(fail)
   refine zA9 No [(0,false),(1,false),(2,false),(3,false),(4,false),(5,false),(6,true),(7,false),(8,false),(9,false),(10,false),(11,false)] (by kernel_rfl) (by kernel_rfl) (fun w8 I=>?_);have d3:=I.heap (i6.out.heap D1.out id) id;have yp:=I.heap (i6.out.heap g6.out id) id;have y2:=I.heap (i6.out.heap b5.out.1 id) id;have x0:∀ g:Gr No w8,g.W.cell? ⟨f,0,none⟩=some (.slice Z cs.length Y):=fun g=>zB (g.fr.heap yp id) 0
   have x2:∀ g:Gr No w8,g.W.cell? ⟨w.heap.size,0,none⟩=some (.pointer (some ⟨f,0,none⟩)):=fun g=>zB (g.fr.heap y2 id) 0
   have e0:∀ g:Gr No w8,g.W.cell? ⟨Bx,0,none⟩=some (.int .i64 d.index):=fun g=>zB (g.fr.heap d3 id) 0
   have m5:=zh (i6.out.step I zi);clear d3 yp y2 I
   repeat((first|apply zS rfl rfl rfl|apply zW rfl rfl rfl);intro K R;go_big_quiet_op;go_big_quiet_on)
   clear e0 x0 x2;apply zk;exact rfl
   go_wp2_with fail
   refine(p4.out w8 m5.out).mono ?_;rintro e w9 ⟨rfl,b7⟩;have p8:=zh (m5.out.step b7 zi)
   go_wp2_with fail
   refine zm b7 ?_;clear b7
   repeat((first|apply zS rfl rfl rfl|apply zW rfl rfl rfl);intro K R;go_big_quiet_op;go_big_quiet_on)
   refine zY ?_
   gi_upto_region 6 with(fail)
   refine zBk 11 (fun b=>(Value.slice ao u.length co).ownBlock=some b) (.q 0 (.q 1 (.q 2 (.q 3 (.q 4 (.q 5 (.q 6 (.m1 7 (.m1 8 (.m1 9 (.q 10 (.m1 11 .fin)))))))))))) _ (by kernel_rfl) (by kernel_rfl) (fun W3 a5=>?_) zj;have h0:=zh (p8.out.step a5 zi);clear a5;have k7:=h0.out.heap g6.out id;have d7:=zG d6.out h0.out (fun _ _=>id);have n7:=zR d7 k7 (by decide);have g3:=h0.out.heap b5.out.1 id;have n3:=zR d7 g3 (by decide);have t7:∀ g:Gr (fun b=>(Value.slice ao u.length co).ownBlock=some b) W3,g.W.cell? ⟨f,1,none⟩=some (.slice ao u.length co):=fun g=>zB (g.fr.heap k7 n7) 1
   have t3:∀ g:Gr (fun b=>(Value.slice ao u.length co).ownBlock=some b) W3,g.W.cell? ⟨w.heap.size,0,none⟩=some (.pointer (some ⟨f,0,none⟩)):=fun g=>zB (g.fr.heap g3 n3) 0
   have s3:=h0.out.size;clear g3 n3
   repeat (apply tx_q rfl rfl rfl;intro K R;go_big_quiet_op;go_big_quiet_on)
   clear t7 t3;have al:=(Fr.refl No W3).alloc (.cells (ocs 2 (pathOf [d.orig]) ZD ⟨#[]⟩ ⟨#[]⟩) 38);have i9:=zG d7 al (fun _ _=>id);have k5:=al.heap k7 id;have m6:=zh al;clear d7 k7 al;apply zBd;exact rfl
   go_wp2_with fail
   refine OnlyN.mk ⟨fun _=>m6.out.mono zn,?_⟩;apply zBd;exact rfl
   go_wp2_with (at_builtin;refine wpList_append_own_at _ rfl _ _ 91 rfl rb 38 i0 (.agg #[.int .i64 0,.string ByteArray.empty,.int .i64 0,.int .i64 0,.string ByteArray.empty,.string ByteArray.empty,.string ByteArray.empty,.string ByteArray.empty,.string ByteArray.empty,.int .i64 0,.int .i64 0,.slice none 0 0,.string ByteArray.empty,.string ByteArray.empty]) 14 192 Tryz.underlying91 n4 n5 n8 o0 rfl (by decide) _ _ _ rfl i9 ⟨W3.heap.size,0,none⟩ 1 1 (ocs 2 (pathOf [d.orig]) ZD ⟨#[]⟩ ⟨#[]⟩).toList rfl rfl (ze _ (ocs 2 (pathOf [d.orig]) ZD ⟨#[]⟩ ⟨#[]⟩) _ rfl) (zDi _ _ _ _ _) (by unfold maxLen;omega) (by omega) (by have:=p1.out;rw[World.size_alloc];omega) ?_;intro v' w6 d8 m7 _ p9;obtain⟨a9,b0,rfl⟩:=zJ d8)
   have gf:Fr (fun b=>(Value.slice ao u.length co).ownBlock=some b) (W3.alloc (.cells (ocs 2 (pathOf [d.orig]) ZD ⟨#[]⟩ ⟨#[]⟩) 38)) w6:=Fr.of_grown m7;refine zf gf ?_;have k6:=gf.heap k5 n7;have n6:=zR d8 k6 (by decide);have t7:w6.cell? ⟨f,1,none⟩=some (.slice ao u.length co):=zB k6 1;have f7:w6.frozen? ⟨f,1,none⟩=false:=zE k6 1;have x8:Fr (Is f) w6 (w6.setCell ⟨f,1,none⟩ (.slice a9 (u.length+1) b0)):=Fr.setAt (Fr.refl _ _) _;have k8:(w6.setCell ⟨f,1,none⟩ (.slice a9 (u.length+1) b0)).heap[f]?=some (.cells #[.slice Z cs.length Y,.slice a9 (u.length+1) b0] 135):=zF k6 1 (.slice a9 (u.length+1) b0);have j0:=zG d8 x8 (fun b D h=>n6 (by unfold Is at h;rw[<-h];exact D));have ff:Fr (fun b=>b=f\/(Value.slice ao u.length co).ownBlock=some b) J (w6.setCell ⟨f,1,none⟩ (.slice a9 (u.length+1) b0)):=(((h0.out.step m6.out zi).mono zn).step gf (fun b _ h=>.inr h)).step x8 (fun b _ h=>.inl h);have HR:=zh (And.intro k8 (And.intro j0 ff));obtain⟨WZ,k2⟩:∃ WZ,WZ=w6.setCell ⟨f,1,none⟩ (.slice a9 (u.length+1) b0):=⟨_,rfl⟩
   rw[<-k2]at HR;clear i9 d8 m7 gf k5 k6 k8 x8 ff n6 n7 p9 j0;apply zBd;exact rfl
   go_wp2_with fail
   refine OnlyN.mk ⟨fun _=>Fr.refl _ _,?_⟩
   repeat (apply tx_q rfl rfl rfl;intro K R;go_big_quiet_op;go_big_quiet_on)
   apply zBd;exact rfl
   go_wp2_with fail
   refine OnlyN.mk ⟨fun h=>(h rfl).elim,?_⟩;refine zF5 ?_;rw[<-k2];clear k2 t7 f7
   gi_upto_region 7 with(fail)
   have q0:Hid (Tr WZ v Z Y cs):=k0.out.foot HR.out.2.2 (fun b D h=>h.elim (l7.out.ne D g6.out (by decide) (by decide)) (l7.out.ne_own D d6.out));have k3:¬ (Bx=f\/(Value.slice ao u.length co).ownBlock=some Bx):=fun h=>p0.out (h.elim .inl (fun h=>.inr (.inl h)))
   have m8:¬ (w.heap.size=f\/(Value.slice ao u.length co).ownBlock=some w.heap.size):=fun h=>h.elim (fun h=>by omega) (zR d6.out b5.out.1 (by decide))
   refine zAq (Is f) (.q 0 (.q 1 (.q 2 (.q 3 (.q 5 (.q 6 (.m1 4 (.m1 7 (.q 8 (.q 9 (.q 10 (.q 11 (.q 12 (.m1 13 .fin)))))))))))))) _ (by kernel_rfl) (by kernel_rfl) (fun w8 I=>?_) zj;have d3:=I.heap (HR.out.2.2.heap D1.out k3) id;have yp:=I.heap HR.out.1 id;have y2:=I.heap (HR.out.2.2.heap b5.out.1 m8) id;have x0:w8.cell? ⟨f,0,none⟩=some (.slice Z cs.length Y):=zB yp 0;have x2:∀ g:Gr (Is f) w8,g.W.cell? ⟨w.heap.size,0,none⟩=some (.pointer (some ⟨f,0,none⟩)):=fun g=>zB (g.fr.heap y2 (fun h=>by unfold Is at h;omega)) 0
   have e0:∀ g:Gr (Is f) w8,g.W.cell? ⟨Bx,0,none⟩=some (.int .i64 d.index):=fun g=>zB (g.fr.heap d3 (fun h=>k3 (.inl h))) 0
   have m9:=p5.out w8 (q0.out.no I);have H8:=zh (And.intro I yp);have r2:f<w8.heap.size:=zC yp;have r3:J.heap.size<=w8.heap.size:=by have:=HR.out.2.2.size;have:=I.size;omega
   clear d3 y2 I yp m8
   repeat (apply zM rfl rfl rfl;intro K R;go_big_quiet_op;go_big_quiet_on)
   clear e0 x2 k3;apply zH;exact rfl
   go_wp2_with fail
   refine zq ?_;clear x0;apply zH;exact rfl
   go_wp2_with fail
   refine m9.mono ?_;rintro e w9 ⟨⟨a',c',a2,rfl,hD,n0,h5,b8⟩,b7⟩;have k9:=b7.heap H8.out.2 id;have t9:w9.cell? ⟨f,0,none⟩=some (.slice Z cs.length Y):=zB k9 0;have f9:w9.frozen? ⟨f,0,none⟩=false:=zE k9 0;have x9:Fr (Is f) w9 (w9.setCell ⟨f,0,none⟩ (.slice a' a2.length c')):=Fr.setAt (Fr.refl _ _) _;have kE:(w9.setCell ⟨f,0,none⟩ (.slice a' a2.length c')).heap[f]?=some (.cells #[.slice a' a2.length c',.slice a9 (u.length+1) b0] 135):=zF k9 0 _;have F9:Fr No WZ w9:=H8.out.1.step b7 zi;have h6:=zG HR.out.2.1 F9 (fun _ _=>id);have n9:=zR h6 k9 (by decide);have h7:=zG h6 x9 (fun b D h=>n9 (by unfold Is at h;rw[<-h];exact D));have h8:a2.map strip=L.map strip:=b8.strip.trans g4.out.1;have j1:TreeWf a2:=((g4.out.2.1.sub (List.sublist_append_left L [d])).map h8).ok;have h9:∀ b,TrF a' a2 b->w8.heap.size<=b:=fun b D=>by
    rcases D with⟨ad,e,rfl⟩ | ⟨x,hx,ad,e,rfl⟩
    ·exact h5 ad e
    ·obtain⟨z,_,hz⟩:=b8.mem hx;exact hz.fresh ad e
   have n1:TrT w9 a' a2:=fun b D=>by
    rcases D with⟨ad,e,rfl⟩ | ⟨x,hx,ad,e,rfl⟩
    ·obtain⟨x,hx⟩:=n0 ad e;exact⟨x,_,hx,.inl rfl⟩
    ·obtain⟨z,_,hz⟩:=b8.mem hx;obtain⟨x,hx⟩:=hz.typ ad e;exact⟨x,_,hx,.inr rfl⟩
   have k4:∀ b,TrF a' a2 b->¬ Is f b:=fun b D h=>by have:=h9 b D;unfold Is at h;omega
   have n2:Tr w9 v a' c' a2:=b8.tr (fun x hx=>by have h:=(List.mem_filter.1 hx).1;exact⟨(k0.out.el x h).sz,(k0.out.el x h).drv⟩) hD j1 h5 (by omega);have O:=zh (And.intro kE (And.intro (n2.foot x9 k4) (And.intro h8 (And.intro h7 (And.intro (n1.fr x9 k4) (And.intro h9 ((HR.out.2.2.step F9 zn).step x9 (fun b _ h=>.inl h))))))));have i1:∀ b,(Value.slice a9 (u.length+1) b0).ownBlock=some b->rb<=b:=fun b h=>(zAG h7 h).1
   have i2:∀ b,(Value.slice ao u.length co).ownBlock=some b->rb<=b:=fun b h=>(zAG d6.out h).1
   have HO:=zh (And.intro i1 i2);clear hD n0 h5 b8 k9 kE F9 h6 n9 h7 h8 j1 h9 n1 k4 n2 i1 i2 m9
   go_wp2_with fail
   refine zm b7 ?_;clear b7
   repeat (apply zM rfl rfl rfl;intro K R;go_big_quiet_op;go_big_quiet_on)
   apply zH;exact rfl;have X9:=zh x9;clear x9
   go_wp2_with fail
   refine zf X9.out ?_;refine zX ?_
   gi_wp2
   refine⟨_,?_,⟨⟨a',c',a2,a9,b0,by rw[List.length_append];exact O.out.1,O.out.2.1,by rw[O.out.2.2.1,g4.out.2.2],by rw[List.length_append,zG8];exact O.out.2.2.2.1,O.out.2.2.2.2.1,rfl⟩,HI.out.step O.out.2.2.2.2.2.2 (fun b D h=>?_)⟩,O.out.2.2.2.2.2.2.mono (fun b _ h=>h.elim .inl (fun h=>.inr (.inl h)))⟩
   ·rintro b (h | h | h)
    ·exact .inl (.inl h)
    ·rw[List.length_append]at h;exact .inr (by have:=HO.out.1 b h;omega)
    ·exact .inr (by have:=O.out.2.2.2.2.2.1 b h.2;omega)
   ·rcases h with h | h
    ·exact .inl h
    ·exact .inr (by have:=HO.out.2 b h;omega)
   )
end Go.Proofs.YtinfjnndbfahhaaGreatDoor
