import Derived.Test.YtinfjnndbfahhaaGreatDoorQ26
namespace Go.Proofs.YtinfjnndbfahhaaGreatDoor
open Go.RowKit Go.Maps
set_option linter.unusedVariables false
set_option maxRecDepth 100000
set_option maxHeartbeats 8000000
def OfR (f:ByteArray->Int->ByteArray->Option Mem)(w:World)(p:ByteArray)(rd:Int)(s:ByteArray)(e:Ending)(w':World):Prop:=
 ∃ (m:Mem) (b:Bool),e=.returned (.tuple #[.agg #[.string m.p,.string m.i,.int .i64 m.r,.int .i64 m.s,.int .i64 m.t,.int .i64 m.e,.slice m.a m.l.length m.c],.bool b])/\((b=false/\f p rd s=none)\/(b=true/\f p rd s=some m.k))/\(b=true->Strs w' m.a m.c m.l)/\(b=true->∀ ad,m.a=some ad->w.heap.size<=ad.block)
def ofK (k:Int)(mk:ByteArray->Int->Ct->Mem)(p:ByteArray)(rd:Int)(s:ByteArray):Option Mem:=match parseC s with
 | some c=>if c.kind=k then some (mk p rd c)else none
 | none=>none
def mk2 (p:ByteArray)(rd:Int)(c:Ct):Mem:=⟨p,c.id,rd,c.slot,c.total,c.least,none,c.inner.map Ct.txt,0⟩
def mk3 (p:ByteArray)(rd:Int)(c:Ct):Mem:=⟨p,c.id,rd,0,0,0,none,c.inner.map Ct.txt,0⟩
def mk4 (p:ByteArray)(rd:Int)(c:Ct):Mem:=⟨p,c.id,rd,c.slot,c.total,c.total,none,c.inner.map Ct.txt,0⟩
theorem zGI {k:Int}{f:ByteArray->Int->Ct->Mem}{p:ByteArray}{rd:Int}{s:ByteArray}(h:∀ c,parseC s=some c->c.kind≠k):ofK k f p rd s=none:=by
 unfold ofK;cases hc:parseC s with
 | none=>rfl
 | some c=>exact if_neg (h c hc)
theorem zFd {k:Int}{f:ByteArray->Int->Ct->Mem}{p:ByteArray}{rd:Int}{s:ByteArray}{c:Ct}(h:parseC s=some c)(g:c.kind=k):ofK k f p rd s=some (f p rd c):=by
 unfold ofK;rw[h];exact if_pos g
theorem OfRes2.of {w:World}{p s:ByteArray}{rd:Int}{e:Ending}{w':World}(h:OfRes2 w p s rd e w'):OfR (ofK 2 mk2) w p rd s e w':=by
 rcases h with⟨f,g⟩ | ⟨c,o,c',f,g,q,u,v⟩
 ·exact⟨⟨⟨#[]⟩,⟨#[]⟩,0,0,0,0,none,[],0⟩,false,g,.inl ⟨rfl,zGI f⟩,(fun h=>by cases h),(fun h=>by cases h)⟩
 ·exact⟨⟨p,c.id,rd,c.slot,c.total,c.least,o,c.inner.map Ct.txt,c'⟩,true,by rw[q];simp,.inr ⟨rfl,zFd f g⟩,fun _=>u,fun _=>v⟩
theorem OfRes.of {w:World}{p s:ByteArray}{rd:Int}{e:Ending}{w':World}(h:OfRes w p s rd e w'):OfR (ofK 3 mk3) w p rd s e w':=by
 rcases h with⟨f,g⟩ | ⟨c,o,c',f,g,q,u,v⟩
 ·exact⟨⟨⟨#[]⟩,⟨#[]⟩,0,0,0,0,none,[],0⟩,false,g,.inl ⟨rfl,zGI f⟩,(fun h=>by cases h),(fun h=>by cases h)⟩
 ·exact⟨⟨p,c.id,rd,0,0,0,o,c.inner.map Ct.txt,c'⟩,true,by rw[q];simp,.inr ⟨rfl,zFd f g⟩,fun _=>u,fun _=>v⟩
theorem OfRes4.of {w:World}{p s:ByteArray}{rd:Int}{e:Ending}{w':World}(h:OfRes4 w p s rd e w'):OfR (ofK 4 mk4) w p rd s e w':=by
 rcases h with⟨f,g⟩ | ⟨c,o,c',f,g,q,u,v⟩
 ·exact⟨⟨⟨#[]⟩,⟨#[]⟩,0,0,0,0,none,[],0⟩,false,g,.inl ⟨rfl,zGI f⟩,(fun h=>by cases h),(fun h=>by cases h)⟩
 ·exact⟨⟨p,c.id,rd,c.slot,c.total,c.total,o,c.inner.map Ct.txt,c'⟩,true,by rw[q];simp,.inr ⟨rfl,zFd f g⟩,fun _=>u,fun _=>v⟩
def TxS (w:World)(b0:Nat)(tx:Dev->ByteArray)(L:List Dev):Prop:=∀ d∈L,∃ l,Atts w d.aa d.ac l/\d.an=l.length/\getP l zr=tx d/\(tx d).size<=100000/\∀ ad,d.aa=some ad->l≠[]->ad.block<b0
theorem TxS.fr {T:Nat->Prop}{w w':World}{f:Nat}{tx:Dev->ByteArray}{L:List Dev}(h:TxS w f tx L)(o:Fr T w w')(q:∀ b,b<f->¬ T b):TxS w' f tx L:=fun d u=>by
 obtain⟨l,v,y,z,A,g⟩:=h d u;exact⟨l,v.fr o (fun C e D=>q _ (g C e D)),y,z,A,g⟩
def MOk (w:World)(v:Value)(L:List Mem):Prop:=∀ m∈L,Strs w m.a m.c m.l/\∀ ad,m.a=some ad->m.l≠[]->¬ v.ownBlock=some ad.block
theorem MOk.no {w w':World}{v:Value}{L:List Mem}(h:MOk w v L)(g:Fr No w w'):MOk w' v L:=fun m f=>⟨(h m f).1.no g (fun _=>id),(h m f).2⟩
theorem MOk.push {w w':World}{v y:Value}{L:List Mem}{m:Mem}(h:MOk w v L)(C:Strs w m.a m.c m.l)(D:∀ f,m.a=some f->m.l≠[]->¬ v.ownBlock=some f.block)(F:Fr (fun b=>v.ownBlock=some b) w w')
  (g:y.ownBlock=v.ownBlock\/∃ n,y.ownBlock=some n/\w.heap.size<=n):MOk w' y (L++[m]):=by
 have q:∀ x:Mem,Strs w x.a x.c x.l->(∀ f,x.a=some f->x.l≠[]->¬ v.ownBlock=some f.block)->Strs w' x.a x.c x.l/\∀ f,x.a=some f->x.l≠[]->¬ y.ownBlock=some f.block:=fun x o A=>by
  refine⟨o.fr F (fun f e z=>A f e z),fun f e z u=>?_⟩;rcases g with g | ⟨n,g,I⟩
  ·rw[g]at u;exact A f e z u
  ·rw[g]at u;injection u with u
   have:=(o.cell f e z).2.1;omega
 intro x o;rcases List.mem_append.1 o with o | o
 ·exact q x (h x o).1 (h x o).2
 ·simp at o;subst o;exact q x C D
theorem zDU (F:Nat)(eg:∀ args w,(callFunc F args).run Tryz.prog w=.ok (.enter F args) w)(f:ByteArray->Int->ByteArray->Option Mem)(hF:∀ (p:ByteArray) (rd:Int) (s:ByteArray) (W:World),Env W->s.size<=100000->Calls Tryz.prog F #[.string p,.int .i64 rd,.string s] W fun e w'=>OfR f W p rd s e w'/\Fr No W w')
  (tx:Dev->ByteArray) (b0:Nat) (c:RC) (sa:Option Addr) (sc:Nat) (ma:Option Addr) (mc:Nat) (S:List Src) (M:List Vir) (G:List (ByteArray×ByteArray)) (w:World) (h:RS c w sa sc ma mc S M G) (hE:Env w) (hx:TxS w b0 tx (S.map Src.d)) (l0:b0<=w.heap.size) (hS:S.length<=1000):
  Calls Tryz.prog 104 #[.pointer (some ⟨c.xb,0,none⟩),.func (.func F) #[] #[]] w fun e w'=>(∃ (L:List Mem) (a:Option Addr) (i5:Nat),L.map Mem.k=S.filterMap (fun s=>f s.o s.r (tx s.d))/\e=.returned (.slice a L.length i5)/\Mems w' a i5 L/\(∀ D,a=some D->w.heap.size<=D.block))/\Fr No w w':=by
 obtain⟨i0,h8,h9,i1,i2⟩:=info_parts infoM;have t5:w.cell? ⟨c.xb,5,none⟩=some (.slice sa S.length sc):=zB h.k 5;obtain⟨a9,c9,j4,g4,i6⟩:=Srcs.of_own h.so;cases j4;have l1:=g4.lenmax;have HE:Hid (∀ W,Fr (From w.heap.size) w W->Env W):=fun W hf=>hE.fr hf (fun b C=>by unfold From;have:=hE.sz;omega)
 have i7:Hid (∀ W,Fr (From w.heap.size) w W->TxS W b0 tx (S.map Src.d)):=fun W hf=>hx.fr hf (fun b C h=>by unfold From at h;omega)
 have HF:=zh hF;have j5:∀ D,sa=some D->S≠[]->D.block<w.heap.size:=fun D e hn=>(g4.cell D e hn).2.1
 clear h hE hx hF i6
 go_enter Tryz.func104,Tryz.ntmps104
 go_wp2_with fail
 clear t5
 go_loopw [5,15] (fun v i wr=>∃ (j:Nat) (L:List Mem) (av:Option Addr) (cv:Nat),j<=S.length/\L.length<=j/\v=.slice av L.length cv/\i=.int .i64 (j:Int)/\wr.ownsRow w.heap.size 231 7 (.slice av L.length cv) L.length (mflat L)/\Hid (L.map Mem.k=(S.take j).filterMap fun s=>f s.o s.r (tx s.d))/\MOk wr (.slice av L.length cv) L/\Fr (From w.heap.size) w wr) (fun _ i _=>S.length-(intOf i).toNat)
 case atStart=>exact⟨0,[],none,0,by omega,by simp,rfl,rfl,World.ownsRow_nil _ _ _ _,by unfold Hid;simp,(fun m hm=>by cases hm),Fr.refl _ _⟩
 case round=>
  obtain⟨j,L,av,cv,hj,l2,rfl,rfl,b8,HL,g5,hf⟩:=hrel;have k3:L.length<=1000:=by omega
  have i3:=fun b (h:(Value.slice av L.length cv).ownBlock=some b)=>zV b8 h
  have k4:=hf.size;by_cases j6:j<S.length
  ·have i8:(j:Int)<S.length:=by omega
   obtain⟨cb,k5,s,rfl,hs,⟨c0,c1,c2,c3,c4,c5,c6,c7,c8,c9,j7,j8,j9⟩,k6⟩:=(g4.fr hf (fun D e hn h=>by have:=j5 D e hn;unfold From at h;omega)).elem j6;have d7:Hid (S.take (j+1)=S.take j++[s]):=by unfold Hid;rw[List.take_add_one,hs];rfl
   have d9:s.d∈S.map Src.d:=List.mem_map_of_mem (List.mem_of_getElem? hs);obtain⟨W1,f7⟩:∃ W1,W1=wr.alloc (.cells s.vals 123):=⟨_,rfl⟩
   have g6:Fr No wr W1:=by rw[f7];exact(Fr.refl _ _).alloc _
   have d1:W1.heap[wr.heap.size]?=some (.cells s.vals 123):=by rw[f7];exact zD _ _
   have f8:=zh (hf.step g6 zn);have i9:Hid (∀ W,Fr (From w.heap.size) w W->Calls Tryz.prog 116 #[.agg #[.int .i64 s.d.index,.int .i64 s.d.parent,.string s.d.name,.string s.d.orig,.string s.d.sub,.string s.d.drv,.string s.d.ali,.int .i64 s.d.kind,.int .i64 s.d.num,.slice s.d.aa s.d.an s.d.ac]] W fun e w'=>e=.returned (.string (tx s.d))/\Fr No W w'):=fun W g7=>by
    obtain⟨l,h1,h2,h3,h4,h5⟩:=i7.out W g7 _ d9;have:=zKU s.d l W h1 h2;rw[h3]at this;exact this
   have i4:Hid (∀ W,Fr (From w.heap.size) w W->Calls Tryz.prog F #[.string s.o,.int .i64 s.r,.string (tx s.d)] W fun e w'=>OfR f W s.o s.r (tx s.d) e w'/\Fr No W w'):=fun W g7=>by
    obtain⟨l,h1,h2,h3,h4,h5⟩:=i7.out W g7 _ d9;exact HF.out _ _ _ _ (HE.out W g7) h4
   have b6:=zh b8;have d8:=zh g5;have Hf:=zh hf;unfold Src.vals at f7;clear hs d9 b8 g5 hf
   go_upto_region 5 with(fail)
   rw[<-f7];clear f7 c0 c1 c2 c3 c4 c5 c6 c7 c8 c9 j7 j8 j9;refine zb (From W1.heap.size) (.q 0 (.q 1 (.q 2 (.q 3 (.q 4 (.q 5 (.q 6 (.m2 7 (.m2 8 (.q 9 (.q 10 (.q 11 (.m1 12 (.m1 13 (.q 14 .fin)))))) 12 (.m1 8 (.q 9 (.q 10 (.q 11 (.m1 13 (.q 14 .fin))))))) 12 (.m1 7 (.m1 8 (.q 9 (.q 10 (.q 11 (.m1 13 (.q 14 .fin))))))))))))))) _ (by kernel_rfl) (by kernel_rfl) (fun W3 f9=>?_) zj;have d3:=f9.heap d1 id;have k7:=f9.size;have k8:wr.heap.size<W1.heap.size:=zC d1;have cB:∀ g:Gr (From W1.heap.size) W3,SrcB0 g.W wr.heap.size s:=fun g=>SrcB0.of (g.fr.heap d3 (by unfold From;omega))
   have e0:=fun g=>(cB g).c0
   have e1:=fun g=>(cB g).c1
   have e2:=fun g=>(cB g).c2
   have e3:=fun g=>(cB g).c3
   have e4:=fun g=>(cB g).c4
   have e5:=fun g=>(cB g).c5
   have e6:=fun g=>(cB g).c6
   have e7:=fun g=>(cB g).c7
   have e8:=fun g=>(cB g).c8
   have e9:=fun g=>(cB g).c9
   have k0:=fun g=>(cB g).c10
   have k1:=fun g=>(cB g).c11
   have k2:=fun g=>(cB g).c12
   have g8:=zh f9;have k9:=zh (f9.mono (T:=From W1.heap.size) zn);clear cB d3 d1
   repeat((first|apply zM rfl rfl rfl|apply zO rfl rfl rfl);intro K hK;go_big_quiet_op;go_big_quiet_on)
   clear e0 e1 e2 e3 e4 e5 e6 e7 e8 e9 k0 k1 k2 f9;refine zv rfl rfl ?_ ?_
   ·skip
    go_wp2_with fail
    refine(i9.out W3 (f8.out.step g8.out (fun b C h=>h.elim))).mono ?_;rintro e V ⟨rfl,J⟩;have a7:=zh (g8.out.step J zi);have j0:=J.size
    go_wp2_with fail
    refine zm J ?_;clear J;refine zv rfl rfl ?_ ?_
    ·skip;have b9:=i4.out V (f8.out.step a7.out (fun b C h=>h.elim))
     go_wp2_with (go_at_fn F;refine b9.mono ?_;rintro e O ⟨⟨m,bb,rfl,hv,a8,Z⟩,u⟩)
     have b7:=zh (a7.out.step u zi);have g9:=u.size;have Hv:=zh hv;have a3:bb=true->∀ D,m.a=some D->m.l≠[]->D.block<O.heap.size:=fun C D e hn=>((a8 C).cell D e hn).2.1
     have b1:=zh (And.intro a8 (And.intro Z a3));clear hv b9 a8 Z a3;refine zm u ?_;clear u
     repeat((first|apply zM rfl rfl rfl|apply zO rfl rfl rfl);intro K hK;go_big_quiet_op;go_big_quiet_on)
     apply zH;exact rfl;obtain⟨N,y⟩:∃ N,N=O.alloc (.cells #[.string ⟨#[]⟩,.string ⟨#[]⟩,.int .i64 0,.int .i64 0,.int .i64 0,.int .i64 0,.slice none 0 0] 231):=⟨_,rfl⟩
     have R:Fr No O N:=by rw[y];exact(Fr.refl _ _).alloc _
     have qb:N.heap[O.heap.size]?=some (.cells #[.string ⟨#[]⟩,.string ⟨#[]⟩,.int .i64 0,.int .i64 0,.int .i64 0,.int .i64 0,.slice none 0 0] 231):=by rw[y];exact zD _ _
     have b2:=zh (b7.out.step R zn);have j1:W1.heap.size<=O.heap.size:=b7.out.size;have j2:O.heap.size<N.heap.size:=zC qb;have h0:=R.size
     go_wp2_with fail
     refine zp ?_;rw[<-y];clear y;apply zH;exact rfl;obtain⟨f0,f1,f2,f3,f4,f5,f6⟩:=fl7 qb;obtain⟨z0,z1,z2,z3,z4,z5,z6⟩:=cl7 qb;have h7:=zh (set7 qb rfl (.string m.p) (.string m.i) (.int .i64 m.r) (.int .i64 m.s) (.int .i64 m.t) (.int .i64 m.e) (.slice m.a m.l.length m.c));clear qb
     go_wp2_with fail
     refine OnlyN.mk ⟨h7.out.2.mono (fun b _ h=>by unfold Is at h;unfold From;omega),?_⟩
     repeat((first|apply zM rfl rfl rfl|apply zO rfl rfl rfl);intro K hK;go_big_quiet_op;go_big_quiet_on)
     obtain⟨X,b3⟩:∃ X,X=(((((((N.setCell ⟨O.heap.size,0,none⟩ (.string m.p)).setCell ⟨O.heap.size,1,none⟩ (.string m.i)).setCell ⟨O.heap.size,2,none⟩ (.int .i64 m.r)).setCell ⟨O.heap.size,3,none⟩ (.int .i64 m.s)).setCell ⟨O.heap.size,4,none⟩ (.int .i64 m.t)).setCell ⟨O.heap.size,5,none⟩ (.int .i64 m.e)).setCell ⟨O.heap.size,6,none⟩ (.slice m.a m.l.length m.c)):=⟨_,rfl⟩
     have U:=h7.out;rw[<-b3]at U;rw[<-b3];clear b3 h7;have hT:=(b2.out.mono (T:=From W1.heap.size) zn).step U.2 (fun b C h=>by unfold Is at h;unfold From;omega);have HN:Hid (Fr No wr X):=g6.step hT (fun b C h=>by unfold From at h;omega);have q9:=U.1;have d0:bb=true->Strs X m.a m.c m.l:=fun C=>((b1.out.1 C).no R (fun _=>id)).fr U.2 (fun D e hn hs=>by unfold Is at hs;have:=b1.out.2.2 C D e hn;omega)
     have a4:bb=true->∀ D,m.a=some D->m.l≠[]->¬ (Value.slice av L.length cv).ownBlock=some D.block:=fun C D e hn h=>by have:=i3 _ h;have:=b1.out.2.1 C D e;omega
     have d2:=zh (And.intro d0 a4);clear d0 a4;clear hT U f0 f1 f2 f3 f4 f5 f6 z0 z1 z2 z3 z4 z5 z6;refine zX ?_;rcases Hv.out with⟨C,d4⟩ | ⟨C,hm⟩
     ·subst C;have g0:=zh d4;clear d4;clear q9;have HR:=zh (And.intro (zG b6.out HN.out (fun _ _=>id)) (And.intro (MOk.no d8.out HN.out) (Hf.out.step HN.out zn)));have Y:Hid (L.map Mem.k=(S.take (j+1)).filterMap fun s=>f s.o s.r (tx s.d)):=by unfold Hid;rw[d7.out,List.filterMap_append,HL.out];simp[g0.out]
      go_wp2_with fail
      go_roundw
      case rel=>exact⟨j+1,L,av,cv,by omega,by omega,rfl,by go_num,HR.out.1,Y,HR.out.2.1,HR.out.2.2⟩
      case measure=>simp[intOf];omega
     ·subst C;have g1:=zh hm;clear hm;obtain⟨x0,x1,x2,x3,x4,x5,x6⟩:=cl7 q9;have z:=zG b6.out HN.out (fun _ _=>id);have j3:=HN.out.size;have b4:=zh z;clear q9;have Y:Hid ((L++[m]).map Mem.k=(S.take (j+1)).filterMap fun s=>f s.o s.r (tx s.d)):=by unfold Hid;rw[d7.out,List.filterMap_append,List.map_append,HL.out];simp[g1.out]
      go_wp2_with (at_builtin;refine wpList_append_own_at _ rfl _ _ 172 rfl w.heap.size 231 i0 (.agg #[.string ByteArray.empty,.string ByteArray.empty,.int .i64 0,.int .i64 0,.int .i64 0,.int .i64 0,.slice none 0 0]) 7 88 Tryz.underlying172 h8 h9 i1 i2 rfl (by decide) _ _ _ rfl (z.alloc _) ⟨X.heap.size,0,none⟩ 1 1 (Mem.vals m).toList rfl rfl (ze _ (Mem.vals m) _ rfl) (zBy _) (by unfold maxLen;omega) (by omega) (by first | omega | (simp;done) | (simp;omega)) ?_;intro v' w9 A I _ a5;obtain⟨g2,g3,rfl⟩:=zJ A)
      have d5:Fr (fun b=>(Value.slice av L.length cv).ownBlock=some b) (X.alloc (.cells (Mem.vals m) 231)) w9:=Fr.of_grown I;have d6:Fr No X (X.alloc (.cells (Mem.vals m) 231)):=(Fr.refl _ _).alloc _;have b5:Fr (fun b=>(Value.slice av L.length cv).ownBlock=some b) X w9:=(d6.mono zn).step d5 (fun b _ h=>h);have a6:=((MOk.no d8.out HN.out)).push (d2.out.1 rfl) (d2.out.2 rfl) b5 (a5.imp id (fun e=>⟨_,e,by simp⟩));have HF:=zh (And.intro A (And.intro a6 ((Hf.out.step HN.out zn).step b5 (fun b _ h=>zP b4.out h))));clear A d5 d6 b5 a6 a5 I z
      go_roundw
      case rel=>exact⟨j+1,L++[m],g2,g3,by omega,by simp;omega,by simp,by go_num,by rw[List.length_append,zBa];exact HF.out.1,Y,(by rw[List.length_append];exact HF.out.2.1),HF.out.2.2⟩
      case measure=>simp[intOf];omega
    ·skip;obtain⟨N,y⟩:∃ N,N=V.alloc (.cells #[.string ⟨#[]⟩,.string ⟨#[]⟩,.int .i64 0,.int .i64 0,.int .i64 0,.int .i64 0,.slice none 0 0] 231):=⟨_,rfl⟩
     have R:Fr No V N:=by rw[y];exact(Fr.refl _ _).alloc _
     have qb:N.heap[V.heap.size]?=some (.cells #[.string ⟨#[]⟩,.string ⟨#[]⟩,.int .i64 0,.int .i64 0,.int .i64 0,.int .i64 0,.slice none 0 0] 231):=by rw[y];exact zD _ _
     have b2:=zh (a7.out.step R zn);have j1:W1.heap.size<=V.heap.size:=a7.out.size;have j2:V.heap.size<N.heap.size:=zC qb;have h0:=R.size
     go_wp2_with fail
     refine zp ?_;rw[<-y];clear y;apply zH;exact rfl;have b9:=i4.out N (f8.out.step b2.out (fun b C h=>h.elim))
     go_wp2_with (go_at_fn F;refine b9.mono ?_;rintro e O ⟨⟨m,bb,rfl,hv,a8,Z⟩,u⟩)
     have b7:=zh (b2.out.step u zi);have g9:=u.size;have Hv:=zh hv;have a3:bb=true->∀ D,m.a=some D->m.l≠[]->D.block<O.heap.size:=fun C D e hn=>((a8 C).cell D e hn).2.1
     have b1:=zh (And.intro a8 (And.intro Z a3));clear hv b9 a8 Z a3;have qb:=u.heap qb id;refine zm u ?_;clear u
     repeat((first|apply zM rfl rfl rfl|apply zO rfl rfl rfl);intro K hK;go_big_quiet_op;go_big_quiet_on)
     apply zH;exact rfl;obtain⟨f0,f1,f2,f3,f4,f5,f6⟩:=fl7 qb;obtain⟨z0,z1,z2,z3,z4,z5,z6⟩:=cl7 qb;have h7:=zh (set7 qb rfl (.string m.p) (.string m.i) (.int .i64 m.r) (.int .i64 m.s) (.int .i64 m.t) (.int .i64 m.e) (.slice m.a m.l.length m.c));clear qb
     go_wp2_with fail
     refine OnlyN.mk ⟨h7.out.2.mono (fun b _ h=>by unfold Is at h;unfold From;omega),?_⟩
     repeat((first|apply zM rfl rfl rfl|apply zO rfl rfl rfl);intro K hK;go_big_quiet_op;go_big_quiet_on)
     obtain⟨X,b3⟩:∃ X,X=(((((((O.setCell ⟨V.heap.size,0,none⟩ (.string m.p)).setCell ⟨V.heap.size,1,none⟩ (.string m.i)).setCell ⟨V.heap.size,2,none⟩ (.int .i64 m.r)).setCell ⟨V.heap.size,3,none⟩ (.int .i64 m.s)).setCell ⟨V.heap.size,4,none⟩ (.int .i64 m.t)).setCell ⟨V.heap.size,5,none⟩ (.int .i64 m.e)).setCell ⟨V.heap.size,6,none⟩ (.slice m.a m.l.length m.c)):=⟨_,rfl⟩
     have U:=h7.out;rw[<-b3]at U;rw[<-b3];clear b3 h7;have hT:=(b7.out.mono (T:=From W1.heap.size) zn).step U.2 (fun b C h=>by unfold Is at h;unfold From;omega);have HN:Hid (Fr No wr X):=g6.step hT (fun b C h=>by unfold From at h;omega);have q9:=U.1;have d0:bb=true->Strs X m.a m.c m.l:=fun C=>(b1.out.1 C).fr U.2 (fun D e hn hs=>by unfold Is at hs;have:=b1.out.2.1 C D e;omega)
     have a4:bb=true->∀ D,m.a=some D->m.l≠[]->¬ (Value.slice av L.length cv).ownBlock=some D.block:=fun C D e hn h=>by have:=i3 _ h;have:=b1.out.2.1 C D e;omega
     have d2:=zh (And.intro d0 a4);clear d0 a4;clear hT U f0 f1 f2 f3 f4 f5 f6 z0 z1 z2 z3 z4 z5 z6;refine zX ?_;rcases Hv.out with⟨C,d4⟩ | ⟨C,hm⟩
     ·subst C;have g0:=zh d4;clear d4;clear q9;have HR:=zh (And.intro (zG b6.out HN.out (fun _ _=>id)) (And.intro (MOk.no d8.out HN.out) (Hf.out.step HN.out zn)));have Y:Hid (L.map Mem.k=(S.take (j+1)).filterMap fun s=>f s.o s.r (tx s.d)):=by unfold Hid;rw[d7.out,List.filterMap_append,HL.out];simp[g0.out]
      go_wp2_with fail
      go_roundw
      case rel=>exact⟨j+1,L,av,cv,by omega,by omega,rfl,by go_num,HR.out.1,Y,HR.out.2.1,HR.out.2.2⟩
      case measure=>simp[intOf];omega
     ·subst C;have g1:=zh hm;clear hm;obtain⟨x0,x1,x2,x3,x4,x5,x6⟩:=cl7 q9;have z:=zG b6.out HN.out (fun _ _=>id);have j3:=HN.out.size;have b4:=zh z;clear q9;have Y:Hid ((L++[m]).map Mem.k=(S.take (j+1)).filterMap fun s=>f s.o s.r (tx s.d)):=by unfold Hid;rw[d7.out,List.filterMap_append,List.map_append,HL.out];simp[g1.out]
      go_wp2_with (at_builtin;refine wpList_append_own_at _ rfl _ _ 172 rfl w.heap.size 231 i0 (.agg #[.string ByteArray.empty,.string ByteArray.empty,.int .i64 0,.int .i64 0,.int .i64 0,.int .i64 0,.slice none 0 0]) 7 88 Tryz.underlying172 h8 h9 i1 i2 rfl (by decide) _ _ _ rfl (z.alloc _) ⟨X.heap.size,0,none⟩ 1 1 (Mem.vals m).toList rfl rfl (ze _ (Mem.vals m) _ rfl) (zBy _) (by unfold maxLen;omega) (by omega) (by first | omega | (simp;done) | (simp;omega)) ?_;intro v' w9 A I _ a5;obtain⟨g2,g3,rfl⟩:=zJ A)
      have d5:Fr (fun b=>(Value.slice av L.length cv).ownBlock=some b) (X.alloc (.cells (Mem.vals m) 231)) w9:=Fr.of_grown I;have d6:Fr No X (X.alloc (.cells (Mem.vals m) 231)):=(Fr.refl _ _).alloc _;have b5:Fr (fun b=>(Value.slice av L.length cv).ownBlock=some b) X w9:=(d6.mono zn).step d5 (fun b _ h=>h);have a6:=((MOk.no d8.out HN.out)).push (d2.out.1 rfl) (d2.out.2 rfl) b5 (a5.imp id (fun e=>⟨_,e,by simp⟩));have HF:=zh (And.intro A (And.intro a6 ((Hf.out.step HN.out zn).step b5 (fun b _ h=>zP b4.out h))));clear A d5 d6 b5 a6 a5 I z
      go_roundw
      case rel=>exact⟨j+1,L++[m],g2,g3,by omega,by simp;omega,by simp,by go_num,by rw[List.length_append,zBa];exact HF.out.1,Y,(by rw[List.length_append];exact HF.out.2.1),HF.out.2.2⟩
      case measure=>simp[intOf];omega
   ·skip;obtain⟨N,y⟩:∃ N,N=W3.alloc (.cells #[.string ⟨#[]⟩,.string ⟨#[]⟩,.int .i64 0,.int .i64 0,.int .i64 0,.int .i64 0,.slice none 0 0] 231):=⟨_,rfl⟩
    have R:Fr No W3 N:=by rw[y];exact(Fr.refl _ _).alloc _
    have qb:N.heap[W3.heap.size]?=some (.cells #[.string ⟨#[]⟩,.string ⟨#[]⟩,.int .i64 0,.int .i64 0,.int .i64 0,.int .i64 0,.slice none 0 0] 231):=by rw[y];exact zD _ _
    have b2:=zh (g8.out.step R zn);have j1:W1.heap.size<=W3.heap.size:=g8.out.size;have j2:W3.heap.size<N.heap.size:=zC qb;have h0:=R.size
    go_wp2_with fail
    refine zp ?_;rw[<-y];clear y;apply zH;exact rfl
    go_wp2_with fail
    refine(i9.out N (f8.out.step b2.out (fun b C h=>h.elim))).mono ?_;rintro e V ⟨rfl,J⟩;have a7:=zh (b2.out.step J zi);have j0:=J.size
    go_wp2_with fail
    have qb:=J.heap qb id;refine zm J ?_;clear J;apply zH;exact rfl;have b9:=i4.out V (f8.out.step a7.out (fun b C h=>h.elim))
    go_wp2_with (go_at_fn F;refine b9.mono ?_;rintro e O ⟨⟨m,bb,rfl,hv,a8,Z⟩,u⟩)
    have b7:=zh (a7.out.step u zi);have g9:=u.size;have Hv:=zh hv;have a3:bb=true->∀ D,m.a=some D->m.l≠[]->D.block<O.heap.size:=fun C D e hn=>((a8 C).cell D e hn).2.1
    have b1:=zh (And.intro a8 (And.intro Z a3));clear hv b9 a8 Z a3;have qb:=u.heap qb id;refine zm u ?_;clear u
    repeat((first|apply zM rfl rfl rfl|apply zO rfl rfl rfl);intro K hK;go_big_quiet_op;go_big_quiet_on)
    apply zH;exact rfl;obtain⟨f0,f1,f2,f3,f4,f5,f6⟩:=fl7 qb;obtain⟨z0,z1,z2,z3,z4,z5,z6⟩:=cl7 qb;have h7:=zh (set7 qb rfl (.string m.p) (.string m.i) (.int .i64 m.r) (.int .i64 m.s) (.int .i64 m.t) (.int .i64 m.e) (.slice m.a m.l.length m.c));clear qb
    go_wp2_with fail
    refine OnlyN.mk ⟨h7.out.2.mono (fun b _ h=>by unfold Is at h;unfold From;omega),?_⟩
    repeat((first|apply zM rfl rfl rfl|apply zO rfl rfl rfl);intro K hK;go_big_quiet_op;go_big_quiet_on)
    obtain⟨X,b3⟩:∃ X,X=(((((((O.setCell ⟨W3.heap.size,0,none⟩ (.string m.p)).setCell ⟨W3.heap.size,1,none⟩ (.string m.i)).setCell ⟨W3.heap.size,2,none⟩ (.int .i64 m.r)).setCell ⟨W3.heap.size,3,none⟩ (.int .i64 m.s)).setCell ⟨W3.heap.size,4,none⟩ (.int .i64 m.t)).setCell ⟨W3.heap.size,5,none⟩ (.int .i64 m.e)).setCell ⟨W3.heap.size,6,none⟩ (.slice m.a m.l.length m.c)):=⟨_,rfl⟩
    have U:=h7.out;rw[<-b3]at U;rw[<-b3];clear b3 h7;have hT:=(b7.out.mono (T:=From W1.heap.size) zn).step U.2 (fun b C h=>by unfold Is at h;unfold From;omega);have HN:Hid (Fr No wr X):=g6.step hT (fun b C h=>by unfold From at h;omega);have q9:=U.1;have d0:bb=true->Strs X m.a m.c m.l:=fun C=>(b1.out.1 C).fr U.2 (fun D e hn hs=>by unfold Is at hs;have:=b1.out.2.1 C D e;omega)
    have a4:bb=true->∀ D,m.a=some D->m.l≠[]->¬ (Value.slice av L.length cv).ownBlock=some D.block:=fun C D e hn h=>by have:=i3 _ h;have:=b1.out.2.1 C D e;omega
    have d2:=zh (And.intro d0 a4);clear d0 a4;clear hT U f0 f1 f2 f3 f4 f5 f6 z0 z1 z2 z3 z4 z5 z6;refine zX ?_;rcases Hv.out with⟨C,d4⟩ | ⟨C,hm⟩
    ·subst C;have g0:=zh d4;clear d4;clear q9;have HR:=zh (And.intro (zG b6.out HN.out (fun _ _=>id)) (And.intro (MOk.no d8.out HN.out) (Hf.out.step HN.out zn)));have Y:Hid (L.map Mem.k=(S.take (j+1)).filterMap fun s=>f s.o s.r (tx s.d)):=by unfold Hid;rw[d7.out,List.filterMap_append,HL.out];simp[g0.out]
     go_wp2_with fail
     go_roundw
     case rel=>exact⟨j+1,L,av,cv,by omega,by omega,rfl,by go_num,HR.out.1,Y,HR.out.2.1,HR.out.2.2⟩
     case measure=>simp[intOf];omega
    ·subst C;have g1:=zh hm;clear hm;obtain⟨x0,x1,x2,x3,x4,x5,x6⟩:=cl7 q9;have z:=zG b6.out HN.out (fun _ _=>id);have j3:=HN.out.size;have b4:=zh z;clear q9;have Y:Hid ((L++[m]).map Mem.k=(S.take (j+1)).filterMap fun s=>f s.o s.r (tx s.d)):=by unfold Hid;rw[d7.out,List.filterMap_append,List.map_append,HL.out];simp[g1.out]
     go_wp2_with (at_builtin;refine wpList_append_own_at _ rfl _ _ 172 rfl w.heap.size 231 i0 (.agg #[.string ByteArray.empty,.string ByteArray.empty,.int .i64 0,.int .i64 0,.int .i64 0,.int .i64 0,.slice none 0 0]) 7 88 Tryz.underlying172 h8 h9 i1 i2 rfl (by decide) _ _ _ rfl (z.alloc _) ⟨X.heap.size,0,none⟩ 1 1 (Mem.vals m).toList rfl rfl (ze _ (Mem.vals m) _ rfl) (zBy _) (by unfold maxLen;omega) (by omega) (by first | omega | (simp;done) | (simp;omega)) ?_;intro v' w9 A I _ a5;obtain⟨g2,g3,rfl⟩:=zJ A)
     have d5:Fr (fun b=>(Value.slice av L.length cv).ownBlock=some b) (X.alloc (.cells (Mem.vals m) 231)) w9:=Fr.of_grown I;have d6:Fr No X (X.alloc (.cells (Mem.vals m) 231)):=(Fr.refl _ _).alloc _;have b5:Fr (fun b=>(Value.slice av L.length cv).ownBlock=some b) X w9:=(d6.mono zn).step d5 (fun b _ h=>h);have a6:=((MOk.no d8.out HN.out)).push (d2.out.1 rfl) (d2.out.2 rfl) b5 (a5.imp id (fun e=>⟨_,e,by simp⟩));have HF:=zh (And.intro A (And.intro a6 ((Hf.out.step HN.out zn).step b5 (fun b _ h=>zP b4.out h))));clear A d5 d6 b5 a6 a5 I z
     go_roundw
     case rel=>exact⟨j+1,L++[m],g2,g3,by omega,by simp;omega,by simp,by go_num,by rw[List.length_append,zBa];exact HF.out.1,Y,(by rw[List.length_append];exact HF.out.2.1),HF.out.2.2⟩
     case measure=>simp[intOf];omega
  ·obtain rfl:j=S.length:=by omega
   have i8:¬ (S.length:Int)<S.length:=by omega
   obtain⟨a2,c2,hv,hR,h6⟩:=Mems.of_own b8 (fun m hm=>(g5 m hm).1);cases hv;have Y:Hid (L.map Mem.k=S.filterMap fun s=>f s.o s.r (tx s.d)):=by unfold Hid;rw[HL.out,List.take_length]
   have H:=zh (And.intro hR (And.intro h6 (hf.mono (T:=No) (fun b C h=>by unfold From at h;omega))));clear b8 hf hR h6 g5 g4
   go_wp2_with fail
   go_ret;exact⟨⟨L,Y.out,av,cv,rfl,H.out.1,H.out.2.1⟩,H.out.2.2⟩
end Go.Proofs.YtinfjnndbfahhaaGreatDoor
