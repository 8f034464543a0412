import Derived.Maps.StringElems
import Derived.Test.YtinfjnndbfahhaaGreatDoorQ4
import Derived.Laws.AppendOwnNone
namespace Go.Proofs.YtinfjnndbfahhaaGreatDoor
open Go.RowKit Go.Maps
set_option linter.unusedVariables false
set_option maxRecDepth 100000
set_option maxHeartbeats 2000000
def SMap (w:World)(mb:Nat)(g:Int->Option ByteArray)(N:Nat):Prop:=
 ∃ (D:DataW Unit) (n:Nat),n<=N/\w.ownsMap Tryz.prog 3 (plainElem Tryz.prog 9) mb n D/\(∀ x,has D (.int .i64 x)=(g x).isSome)/\∀ x,D.atKey (.int .i64 x) (.lit (.string []))=.lit (.string ((g x).getD ⟨#[]⟩).data.toList)
def IMap (w:World)(mb:Nat)(g:Int->Option Int)(N:Nat):Prop:=
 ∃ (D:DataW Unit) (n:Nat),n<=N/\w.ownsMap Tryz.prog 3 (plainElem Tryz.prog 3) mb n D/\(∀ x,has D (.int .i64 x)=(g x).isSome)/\∀ x,D.atKey (.int .i64 x) (.lit (.int .i64 0))=.lit (.int .i64 ((g x).getD 0))
theorem SMap.lt {w:World}{f:Nat}{g:Int->Option ByteArray}{N:Nat}(h:SMap w f g N):f<w.heap.size:=by obtain⟨D,n,_,o,_⟩:=h;exact o.lt
theorem IMap.lt {w:World}{f:Nat}{g:Int->Option Int}{N:Nat}(h:IMap w f g N):f<w.heap.size:=by obtain⟨D,n,_,o,_⟩:=h;exact o.lt
theorem SMap.fr {S:Nat->Prop}{w w':World}{f:Nat}{g:Int->Option ByteArray}{N:Nat}(h:SMap w f g N)(o:Fr S w w')(q:¬ S f):SMap w' f g N:=by
 obtain⟨D,n,u,v,r⟩:=h;exact⟨D,n,u,o.ownsMap v q,r⟩
theorem IMap.fr {S:Nat->Prop}{w w':World}{f:Nat}{g:Int->Option Int}{N:Nat}(h:IMap w f g N)(o:Fr S w w')(q:¬ S f):IMap w' f g N:=by
 obtain⟨D,n,u,v,r⟩:=h;exact⟨D,n,u,o.ownsMap v q,r⟩
theorem SMap.made (w:World):SMap (w.alloc (.map #[] 0)) w.heap.size (fun _=>none) 0:=⟨.map [],0,Nat.le_refl _,World.ownsMap_made _ _ _ _,fun _=>rfl,fun _=>rfl⟩
theorem IMap.made (w:World):IMap (w.alloc (.map #[] 0)) w.heap.size (fun _=>none) 0:=⟨.map [],0,Nat.le_refl _,World.ownsMap_made _ _ _ _,fun _=>rfl,fun _=>rfl⟩
theorem zeroS (w:World):(zeroValue 9).run Tryz.prog w=.ok (.string ⟨#[]⟩) w:=by kernel_rfl
theorem zeroI (w:World):(zeroValue 3).run Tryz.prog w=.ok (.int .i64 0) w:=by kernel_rfl
theorem zCf {s t:ByteArray}(h:s.data.toList=t.data.toList):s=t:=by
 cases s;cases t;simp only at h
 congr 1
 exact Array.toList_inj.1 h
theorem zFN {w:World}{h:Array Oper}{f:List Oper}{o:Oper}{a:Act}{Q:Exit->Act->World->Prop}(F:o.guard=none)(m x:Operand)(t:TypeId)(y:o.op=Op.lookup t m x false)(I:Tryz.prog.underlying t=some (.map 3 9))
  (A:Nat) (g:Int->Option ByteArray) (N:Nat) (k:Int) (J:(Lit.int .i64 k).wf=true) (L:a.eval m=.map (some A)) (q:SMap w A g N) (O:a.eval x=.int .i64 k)
  (R:wpList Tryz.prog h Q f (a.put o.dst (.string ((g k).getD ⟨#[]⟩))) w):wpList Tryz.prog h Q (o::f) a w:=by
 obtain⟨D,n,_,U,_,V⟩:=q;refine wpList_plain F fun Y z=>?_
 obtain⟨v,Z,u,X⟩:=U.lookup lawI I (zeroS w) (plainElem_string Tryz.underlying9 (by unfold maxLen;show 0<=_;omega)) (keyOf_int_mk Tryz.underlying3 J);obtain⟨s,rfl,C,_⟩:=plainElem_string_inv Tryz.underlying9 X;simp only[Prod.mk.injEq]at C;have e:=(V k).symm.trans C.1;obtain rfl:s=(g k).getD ⟨#[]⟩:=zCf (by simpa using e.symm);unfold Oper.wp;simp[execOp,y,L,O,u,Result.andThen];exact z _ _ R
theorem zDb {w:World}{h:Array Oper}{f:List Oper}{o:Oper}{a:Act}{Q:Exit->Act->World->Prop}(A:o.guard=none)(m x:Operand)(t:TypeId)(u:o.op=Op.lookup t m x true)(C:Tryz.prog.underlying t=some (.map 3 9))
  (y:Nat) (g:Int->Option ByteArray) (N:Nat) (k:Int) (F:(Lit.int .i64 k).wf=true) (I:a.eval m=.map (some y)) (q:SMap w y g N) (J:a.eval x=.int .i64 k)
  (L:wpList Tryz.prog h Q f (a.put o.dst (.tuple #[.string ((g k).getD ⟨#[]⟩),.bool (g k).isSome])) w):wpList Tryz.prog h Q (o::f) a w:=by
 obtain⟨D,n,_,O,R,U⟩:=q;refine wpList_lookup_own_ok w A m x t u 3 9 lawI C _ (zeroS w) (.lit (.string [])) [] (plainElem_string Tryz.underlying9 (by unfold maxLen;show 0<=_;omega)) y n D I O _ _ J (keyOf_int_mk Tryz.underlying3 F) (fun v X V=>?_);obtain⟨s,rfl,z,_⟩:=plainElem_string_inv Tryz.underlying9 V;simp only[Prod.mk.injEq]at z;have e:=(U k).symm.trans z.1;obtain rfl:s=(g k).getD ⟨#[]⟩:=zCf (by simpa using e.symm);rw[R];exact L
theorem zDd {w:World}{h:Array Oper}{f:List Oper}{o:Oper}{a:Act}{Q:Exit->Act->World->Prop}(y:o.guard=none)(m x:Operand)(t:TypeId)(u:o.op=Op.lookup t m x true)(z:Tryz.prog.underlying t=some (.map 3 3))
  (v:Nat) (g:Int->Option Int) (N:Nat) (k:Int) (A:(Lit.int .i64 k).wf=true) (C:a.eval m=.map (some v)) (q:IMap w v g N) (F:a.eval x=.int .i64 k)
  (I:wpList Tryz.prog h Q f (a.put o.dst (.tuple #[.int .i64 ((g k).getD 0),.bool (g k).isSome])) w):wpList Tryz.prog h Q (o::f) a w:=by
 obtain⟨D,n,_,J,L,O⟩:=q;refine wpList_lookup_own_ok_int w y m x t u 3 3 .i64 lawI z Tryz.underlying3 (zeroI w) v n D C J _ _ F (keyOf_int_mk Tryz.underlying3 A) (fun c R _=>?_);have e:=(O k).symm.trans R;obtain rfl:c=(g k).getD 0:=by simpa using e.symm
 rw[L];exact I
def updO {α:Type}(g:Int->Option α)(x:Int)(v:α):Int->Option α:=fun y=>if y=x then some v else g y
theorem SMap.put {w q:World}{f:Nat}{D:DataW Unit}{n N:Nat}{g:Int->Option ByteArray}(A:n<=N)(u:w.ownsMap Tryz.prog 3 (plainElem Tryz.prog 9) f n D)(v:∀ x,has D (.int .i64 x)=(g x).isSome)(z:∀ x,D.atKey (.int .i64 x) (.lit (.string []))=.lit (.string ((g x).getD ⟨#[]⟩).data.toList))
  (x:Int) (s:ByteArray) (h:q.ownsMap Tryz.prog 3 (plainElem Tryz.prog 9) f (n+1) (D.put (.int .i64 x) (.lit (.string s.data.toList)))):SMap q f (updO g x s) (N+1):=by
 refine⟨_,n+1,by omega,h,fun y=>?_,fun y=>?_⟩
 ·unfold updO;split
  ·rename_i e;subst e;rw[has_put_same u.isMap (zBz _) _];rfl
  ·rename_i e;rw[has_put_other (by intro o;exact e (by simpa using o))];exact v y
 ·unfold updO;split
  ·rename_i e;subst e;rw[atKey_put_same u.isMap (zBz _) _ _];rfl
  ·rename_i e;rw[atKey_put_other (by intro o;exact e (by simpa using o))];exact z y
theorem IMap.put {w q:World}{f:Nat}{D:DataW Unit}{n N:Nat}{g:Int->Option Int}(C:n<=N)(u:w.ownsMap Tryz.prog 3 (plainElem Tryz.prog 3) f n D)(z:∀ x,has D (.int .i64 x)=(g x).isSome)(A:∀ x,D.atKey (.int .i64 x) (.lit (.int .i64 0))=.lit (.int .i64 ((g x).getD 0)))
  (x v:Int) (h:q.ownsMap Tryz.prog 3 (plainElem Tryz.prog 3) f (n+1) (D.put (.int .i64 x) (.lit (.int .i64 v)))):IMap q f (updO g x v) (N+1):=by
 refine⟨_,n+1,by omega,h,fun y=>?_,fun y=>?_⟩
 ·unfold updO;split
  ·rename_i e;subst e;rw[has_put_same u.isMap (zBz _) _];rfl
  ·rename_i e;rw[has_put_other (by intro o;exact e (by simpa using o))];exact z y
 ·unfold updO;split
  ·rename_i e;subst e;rw[atKey_put_same u.isMap (zBz _) _ _];rfl
  ·rename_i e;rw[atKey_put_other (by intro o;exact e (by simpa using o))];exact A y

theorem zy {P:Program}{w:World}{N:Array Oper}{F:List Oper}{o:Oper}{a:Act}{Q:Exit->Act->World->Prop}(O:o.guard=none)(s x:Operand)(t:TypeId)
  (ho:o.op=.call { callee:=.builtin .append,args:=#[s,x],argTypes:=#[t,t] })
  (q:Nat) (e:TypeId) (i:TypeInfo) (z:Value) (f y:Nat) (ht:P.underlying t=some (.slice e)) (hi:P.info? e=some i) (hz:i.zero=some z)
  (I:i.size=f) (X:i.bytes=y) (Y:z.cells.size=f) (Z:0<f)
  (v:Value) (n:Nat) (U:List Value) (hs:a.eval s=v) (C:w.ownsRow q e f v n U)
  (A:Option Addr) (m c:Nat) (g:List Value) (hx:a.eval x=.slice A m c) (hA:A=none->m=0/\c=0) (hl:g.length=m*f)
  (J:∀ R,A=some R->∀ j u,g[j]?=some u->w.cell? (R.add j)=some u) (h1:∀ u∈g,u.oneCell'=true)
  (a2:n+m<=maxLen) (D:(n+m)*y<=140737488355328) (L:q<=w.heap.size)
  (h:∀ V w',w'.ownsRow q e f V (n+m) (U++g)->w.grownBy w' v.ownBlock->wpList P N Q F (a.put o.dst V) w'):wpList P N Q (o::F) a w:=by
 cases A with
 | none=>
  obtain⟨rfl,rfl⟩:=hA rfl;have hn:g=[]:=List.eq_nil_of_length_eq_zero (by simpa using hl);subst hn;exact wpList_append_own_none O s x t ho q e i f ht hi v n U hs C hx (h v w (by simpa using C) (World.grownBy.refl w _))
 | some R=>
  exact wpList_append_own w O s x t ho q e i z f y ht hi hz I X Y Z v n U hs C R m c g hx hl (J R rfl) h1 a2 D L (fun V w' h2 h3 _=>h V w' h2 h3)
theorem zGG {W o:World}{f:Nat}{e:TypeId}{g:Nat}{v:Value}{n:Nat}{q:List Value}(h:W.ownsRow f e g v n q)(u:W.grownBy o v.ownBlock):Fr (From f) W o:=
 (Fr.of_grown u).mono (fun b _ e=>zP h e)
section
variable {w W W':World}{a:Option Addr}{n cap:Nat}{d:Dev}
end
def OneOf (l:List ByteArray)(e:Ending):Prop:=∃ s,e=.returned (.string s)/\s∈l
theorem zJD (B f k:Nat)(a:Option Addr)(g:Nat)(l:List ByteArray)(w:World)(D:Tape w B f k)(F:k<=1000000000000)(I:Strs w a g l)(J:1<=l.length)(U:l.length<=4294967296)(u:∀ q,a=some q->q.block≠f):
  Calls Tryz.prog 8 #[.pointer (some ⟨f,0,none⟩),.slice a l.length g] w fun e w'=>OneOf l e/\Tape w' B f (k+1)/\Fr (Is f) w w':=by
 have L:((l.length:Int)==0)=false:=by simp;intro h;subst h;simp at J
 go_enter Tryz.func8,Tryz.ntmps8
 go_wp2_with fail
 refine(zEj B f k l.length _ D F (by omega) (by omega)).mono ?_;rintro e V ⟨r,rfl,v,N,y,o⟩;obtain⟨r,rfl⟩:=Int.eq_ofNat_of_zero_le v;have z:r<l.length:=by omega
 have A:=I.fr o (fun q e _ h=>u q e h);obtain⟨b,O,x,rfl,C,X⟩:=A.at z;have R:=zh C;clear C
 go_wp2_with fail
 go_ret;exact⟨⟨x,rfl,List.mem_of_getElem? R.out⟩,y,o⟩
def zAB : List ByteArray:=[
 ⟨#[]⟩,
 ⟨#[102,115,58,102,58]⟩,
 ⟨#[102,115,58,103,58,76]⟩,
 ⟨#[114,97,105,100,58,114,58,49,47,50,47,49,40,102,115,58,102,58,41]⟩,
 ⟨#[114,97,105,100,58,114,58,50,47,50,47,49,40,102,115,58,102,58,41]⟩,
 ⟨#[99,114,121,112,116,58,99,40,102,115,58,103,58,41]⟩,
 ⟨#[112,118,58,118,58,49,47,49,40,102,115,58,102,58,44,99,114,121,112,116,58,99,40,102,115,58,104,58,41,41]⟩,
 ⟨#[116,97,98,108,101,58,116,40,102,115,58,102,58,44,99,114,121,112,116,58,99,40,114,97,105,100,58,114,58,49,47,50,47,49,40,102,115,58,120,58,41,41,41]⟩,
 ⟨#[116,97,98,108,101,58,116,40,114,97,105,100,58,114,58,49,47,50,47,49,40,116,97,98,108,101,58,117,40,102,115,58,102,58,41,41,44,114,97,105,100,58,114,58,50,47,50,47,49,40,116,97,98,108,101,58,117,40,102,115,58,102,58,41,41,41]⟩,
 ⟨#[114,97,105,100,58,114,58,49,47,49,47,49,40,114,97,105,100,58,114,58,49,47,49,47,49,40,102,115,58,102,58,41,41]⟩,
 ⟨#[112,118,58,118,58,49,47,50,40,102,115,58,102,58,41]⟩,
 ⟨#[112,118,58,118,58,50,47,50,40,102,115,58,102,58,41]⟩,
 ⟨#[99,114,121,112,116,58,100,40,112,118,58,118,58,49,47,49,40,114,97,105,100,58,115,58,49,47,51,47,50,40,102,115,58,121,58,41,41,41]⟩,
 ⟨#[114,97,105,100,58,115,58,50,47,51,47,50,40,102,115,58,121,58,41]⟩,
 ⟨#[114,97,105,100,58,115,58,51,47,51,47,50,40,102,115,58,121,58,41]⟩,
 ⟨#[110,111,110,115,101,110,115,101]⟩]
theorem zEU : ∀ s∈zAB,s.size<=256:=by decide
theorem zBO : zAB.length=16:=rfl
theorem Strs.of_block {w:World}{b:Nat}{l:List ByteArray}{T:TypeId}{f:Nat×Nat}(h:w.heap[b]?=some (.cells (l.map Value.string).toArray T f))(g:l.length<=maxLen):Strs w (some ⟨b,0,none⟩) l.length l:=by
 refine⟨Nat.le_refl _,g,(fun e=>by cases e),fun u e o=>?_⟩;cases e;refine⟨rfl,zC h,fun i x q=>?_⟩;rw[zB h];simp[q]
theorem zEJ (w:World):
  Calls Tryz.prog 5 #[] w fun e w'=>e=.returned (.slice (some ⟨w.heap.size,0,none⟩) 16 16)/\Strs w' (some ⟨w.heap.size,0,none⟩) 16 zAB/\Fr No w w':=by
 have g:=zD w (.cells (zAB.map Value.string).toArray 9);have f:=Strs.of_block g (by rw[zBO];unfold maxLen;omega);rw[zBO]at f;have h:Fr No w (w.alloc (.cells (zAB.map Value.string).toArray 9)):=(Fr.refl _ _).alloc _;have H:=zh (And.intro f h);clear g f h
 go_enter Tryz.func5,Tryz.ntmps5
 go_wp2_with fail
 go_ret;exact⟨rfl,H.out⟩
section
variable {w W W':World}{B tb:Nat}{a:Option Addr}{n cap Bd:Nat}{i:Int}{k:Nat}{d:Dev}{l:List (ByteArray×ByteArray)}
end
theorem Fr.swap {T:Nat->Prop}(w:World)(o g:Obj)(h:T w.heap.size):Fr T (w.alloc o) (w.alloc g):=by
 have q:Fr No w (w.alloc o):=(Fr.refl _ _).alloc _;have u:Fr No w (w.alloc g):=(Fr.refl _ _).alloc _;refine⟨rfl,rfl,rfl,by simp,fun k v y=>?_⟩;have f:k<w.heap.size:=by
  rw[World.size_alloc]at v;by_cases e:k=w.heap.size
  ·subst e;exact absurd h y
  ·omega
 exact(u.block k f id).trans (q.block k f id).symm
theorem zK3 (B f k n:Nat)(l:List ByteArray)(W:World)(o:Tape W B f k)(v:k<=1000000000000)(q:Array Value)(y:q=(l.map Value.string).toArray)(z:n=l.length)(g:1<=l.length)(h:l.length<=4294967296):
  Calls Tryz.prog 8 #[.pointer (some ⟨f,0,none⟩),.slice (some ⟨W.heap.size,0,none⟩) n n] (W.alloc (.cells q 9)) fun e w'=>OneOf l e/\Tape w' B f (k+1)/\Fr (Is f) W w':=by
 subst y z;have u:Fr No W (W.alloc (.cells (l.map Value.string).toArray 9)):=(Fr.refl _ _).alloc _;have A:=Strs.of_block (zD W (.cells (l.map Value.string).toArray 9)) (by unfold maxLen;omega);have C:=o.lt;exact(zJD B f k _ _ l _ (o.fr u (fun _ _=>id) id) v A g h (fun F e=>by cases e;simp;omega)).mono fun e w' ⟨g,h,D⟩=>⟨g,h,(u.mono (T:=Is f) zn).step D zi⟩
structure ElOk (W:World)(base:Nat)(d:Dev):Prop where
 sz:Sized d
 drv:d.drv=⟨#[]⟩
 att:∃ l,Atts W d.aa d.ac l/\d.an=l.length/\l.length<=24
 fresh:∀ ad,d.aa=some ad->base<=ad.block
structure Tr (W:World)(base:Nat)(a:Option Addr)(cap:Nat)(ds:List Dev):Prop where
 dv:Devs W a cap ds
 wf:TreeWf ds
 fresh:∀ ad,a=some ad->base<=ad.block
 el:∀ d∈ds,ElOk W base d
theorem ElOk.fr {S:Nat->Prop}{W g:World}{f:Nat}{d:Dev}(h:ElOk W f d)(o:Fr S W g)(q:∀ b,f<=b->¬ S b):ElOk g f d:=by
 obtain⟨l,u,v⟩:=h.att;exact⟨h.sz,h.drv,⟨l,u.fr o (fun y e _=>q _ (h.fresh y e)),v⟩,h.fresh⟩
theorem Tr.fr {S:Nat->Prop}{W o:World}{f:Nat}{a:Option Addr}{g:Nat}{ds:List Dev}(h:Tr W f a g ds)(q:Fr S W o)(u:∀ b,f<=b->¬ S b):Tr o f a g ds:=
 ⟨h.dv.fr q (fun v e _=>u _ (h.fresh v e)),h.wf,h.fresh,fun d y=>(h.el d y).fr q u⟩
theorem Tr.no {W o:World}{f:Nat}{a:Option Addr}{g:Nat}{ds:List Dev}(h:Tr W f a g ds)(q:Fr No W o):Tr o f a g ds:=h.fr q (fun _ _=>id)
theorem Tr.nil (W:World)(f:Nat):Tr W f none 0 []:=⟨Devs.nil W,TreeWf.nil,(fun _ e=>by cases e),(fun d h=>by simp at h)⟩
section
variable {w W W':World}{B tb k:Nat}{a:Option Addr}{cap:Nat}{ds:List Dev}
end
theorem Tr.keep {X W:World}{f:Nat}{a:Option Addr}{o:Nat}{ds:List Dev}{S:Nat->Prop}(h:Tr X f a o ds)(v:Fr S X W)(y:∀ b,b<X.heap.size->f<=b->¬ S b):Tr W f a o ds:=by
 refine⟨h.dv.fr v (fun q e g=>y _ (h.dv.cell q e g).2.1 (h.fresh q e)),h.wf,h.fresh,fun d A=>?_⟩;have u:=h.el d A;obtain⟨l,z,C⟩:=u.att;exact⟨u.sz,u.drv,⟨l,z.fr v (fun q e g=>y _ (z.cell q e g).2.1 (u.fresh q e)),C⟩,u.fresh⟩
theorem Tape.make {w:World}{a:Option Addr}{f:Nat}{l:List Int}(h:Ints w a f l)(T:TypeId):
  Tape (w.alloc (.cells #[.slice a l.length f,.int .i64 0] T)) w.heap.size w.heap.size 0:=
 ⟨a,f,l,T,h.fr ((Fr.refl No _).alloc _) (fun _ _ _ h=>h),fun o e g=>(h.cell o e g).2.1,Nat.le_refl _,zD _ _⟩
theorem cl2 {W:World}{b:Nat}{f g:Value}{t:List Value}{T:TypeId}{o:Nat×Nat}(h:W.heap[b]?=some (.cells (List.toArray (f::g::t)) T o)):W.cell? ⟨b,0,none⟩=some f/\W.cell? ⟨b,1,none⟩=some g:=⟨zB h 0,zB h 1⟩
theorem fl2 {W:World}{b:Nat}{cs:Array Value}{T:TypeId}(h:W.heap[b]?=some (.cells cs T)):W.frozen? ⟨b,0,none⟩=false/\W.frozen? ⟨b,1,none⟩=false:=⟨zE h 0,zE h 1⟩
theorem cl3 {W:World}{b:Nat}{f g o:Value}{t:List Value}{T:TypeId}{q:Nat×Nat}(h:W.heap[b]?=some (.cells (List.toArray (f::g::o::t)) T q)):W.cell? ⟨b,0,none⟩=some f/\W.cell? ⟨b,1,none⟩=some g/\W.cell? ⟨b,2,none⟩=some o:=⟨zB h 0,zB h 1,zB h 2⟩
theorem fl3 {W:World}{b:Nat}{cs:Array Value}{T:TypeId}(h:W.heap[b]?=some (.cells cs T)):W.frozen? ⟨b,0,none⟩=false/\W.frozen? ⟨b,1,none⟩=false/\W.frozen? ⟨b,2,none⟩=false:=⟨zE h 0,zE h 1,zE h 2⟩
theorem cl4 {W:World}{b:Nat}{f g o q:Value}{t:List Value}{T:TypeId}{u:Nat×Nat}(h:W.heap[b]?=some (.cells (List.toArray (f::g::o::q::t)) T u)):W.cell? ⟨b,0,none⟩=some f/\W.cell? ⟨b,1,none⟩=some g/\W.cell? ⟨b,2,none⟩=some o/\W.cell? ⟨b,3,none⟩=some q:=⟨zB h 0,zB h 1,zB h 2,zB h 3⟩
theorem fl4 {W:World}{b:Nat}{cs:Array Value}{T:TypeId}(h:W.heap[b]?=some (.cells cs T)):W.frozen? ⟨b,0,none⟩=false/\W.frozen? ⟨b,1,none⟩=false/\W.frozen? ⟨b,2,none⟩=false/\W.frozen? ⟨b,3,none⟩=false:=⟨zE h 0,zE h 1,zE h 2,zE h 3⟩
theorem cl5 {W:World}{b:Nat}{f g o q u:Value}{t:List Value}{T:TypeId}{v:Nat×Nat}(h:W.heap[b]?=some (.cells (List.toArray (f::g::o::q::u::t)) T v)):W.cell? ⟨b,0,none⟩=some f/\W.cell? ⟨b,1,none⟩=some g/\W.cell? ⟨b,2,none⟩=some o/\W.cell? ⟨b,3,none⟩=some q/\W.cell? ⟨b,4,none⟩=some u:=⟨zB h 0,zB h 1,zB h 2,zB h 3,zB h 4⟩
theorem fl5 {W:World}{b:Nat}{cs:Array Value}{T:TypeId}(h:W.heap[b]?=some (.cells cs T)):W.frozen? ⟨b,0,none⟩=false/\W.frozen? ⟨b,1,none⟩=false/\W.frozen? ⟨b,2,none⟩=false/\W.frozen? ⟨b,3,none⟩=false/\W.frozen? ⟨b,4,none⟩=false:=⟨zE h 0,zE h 1,zE h 2,zE h 3,zE h 4⟩
theorem cl6 {W:World}{b:Nat}{f g o q u v:Value}{t:List Value}{T:TypeId}{y:Nat×Nat}(h:W.heap[b]?=some (.cells (List.toArray (f::g::o::q::u::v::t)) T y)):W.cell? ⟨b,0,none⟩=some f/\W.cell? ⟨b,1,none⟩=some g/\W.cell? ⟨b,2,none⟩=some o/\W.cell? ⟨b,3,none⟩=some q/\W.cell? ⟨b,4,none⟩=some u/\W.cell? ⟨b,5,none⟩=some v:=⟨zB h 0,zB h 1,zB h 2,zB h 3,zB h 4,zB h 5⟩
theorem fl6 {W:World}{b:Nat}{cs:Array Value}{T:TypeId}(h:W.heap[b]?=some (.cells cs T)):W.frozen? ⟨b,0,none⟩=false/\W.frozen? ⟨b,1,none⟩=false/\W.frozen? ⟨b,2,none⟩=false/\W.frozen? ⟨b,3,none⟩=false/\W.frozen? ⟨b,4,none⟩=false/\W.frozen? ⟨b,5,none⟩=false:=⟨zE h 0,zE h 1,zE h 2,zE h 3,zE h 4,zE h 5⟩
theorem cl7 {W:World}{b:Nat}{f g o q u v y:Value}{t:List Value}{T:TypeId}{z:Nat×Nat}(h:W.heap[b]?=some (.cells (List.toArray (f::g::o::q::u::v::y::t)) T z)):W.cell? ⟨b,0,none⟩=some f/\W.cell? ⟨b,1,none⟩=some g/\W.cell? ⟨b,2,none⟩=some o/\W.cell? ⟨b,3,none⟩=some q/\W.cell? ⟨b,4,none⟩=some u/\W.cell? ⟨b,5,none⟩=some v/\W.cell? ⟨b,6,none⟩=some y:=⟨zB h 0,zB h 1,zB h 2,zB h 3,zB h 4,zB h 5,zB h 6⟩
theorem fl7 {W:World}{b:Nat}{cs:Array Value}{T:TypeId}(h:W.heap[b]?=some (.cells cs T)):W.frozen? ⟨b,0,none⟩=false/\W.frozen? ⟨b,1,none⟩=false/\W.frozen? ⟨b,2,none⟩=false/\W.frozen? ⟨b,3,none⟩=false/\W.frozen? ⟨b,4,none⟩=false/\W.frozen? ⟨b,5,none⟩=false/\W.frozen? ⟨b,6,none⟩=false:=⟨zE h 0,zE h 1,zE h 2,zE h 3,zE h 4,zE h 5,zE h 6⟩
theorem cl10 {W:World}{b:Nat}{f g o q u v y z A C:Value}{t:List Value}{T:TypeId}{D:Nat×Nat}(h:W.heap[b]?=some (.cells (List.toArray (f::g::o::q::u::v::y::z::A::C::t)) T D)):W.cell? ⟨b,0,none⟩=some f/\W.cell? ⟨b,1,none⟩=some g/\W.cell? ⟨b,2,none⟩=some o/\W.cell? ⟨b,3,none⟩=some q/\W.cell? ⟨b,4,none⟩=some u/\W.cell? ⟨b,5,none⟩=some v/\W.cell? ⟨b,6,none⟩=some y/\W.cell? ⟨b,7,none⟩=some z/\W.cell? ⟨b,8,none⟩=some A/\W.cell? ⟨b,9,none⟩=some C:=⟨zB h 0,zB h 1,zB h 2,zB h 3,zB h 4,zB h 5,zB h 6,zB h 7,zB h 8,zB h 9⟩
theorem fl10 {W:World}{b:Nat}{cs:Array Value}{T:TypeId}(h:W.heap[b]?=some (.cells cs T)):W.frozen? ⟨b,0,none⟩=false/\W.frozen? ⟨b,1,none⟩=false/\W.frozen? ⟨b,2,none⟩=false/\W.frozen? ⟨b,3,none⟩=false/\W.frozen? ⟨b,4,none⟩=false/\W.frozen? ⟨b,5,none⟩=false/\W.frozen? ⟨b,6,none⟩=false/\W.frozen? ⟨b,7,none⟩=false/\W.frozen? ⟨b,8,none⟩=false/\W.frozen? ⟨b,9,none⟩=false:=⟨zE h 0,zE h 1,zE h 2,zE h 3,zE h 4,zE h 5,zE h 6,zE h 7,zE h 8,zE h 9⟩
theorem cl12 {W:World}{b:Nat}{o q u v y z A C D F f g:Value}{t:List Value}{T:TypeId}{I:Nat×Nat}(h:W.heap[b]?=some (.cells (List.toArray (o::q::u::v::y::z::A::C::D::F::f::g::t)) T I)):W.cell? ⟨b,0,none⟩=some o/\W.cell? ⟨b,1,none⟩=some q/\W.cell? ⟨b,2,none⟩=some u/\W.cell? ⟨b,3,none⟩=some v/\W.cell? ⟨b,4,none⟩=some y/\W.cell? ⟨b,5,none⟩=some z/\W.cell? ⟨b,6,none⟩=some A/\W.cell? ⟨b,7,none⟩=some C/\W.cell? ⟨b,8,none⟩=some D/\W.cell? ⟨b,9,none⟩=some F/\W.cell? ⟨b,10,none⟩=some f/\W.cell? ⟨b,11,none⟩=some g:=⟨zB h 0,zB h 1,zB h 2,zB h 3,zB h 4,zB h 5,zB h 6,zB h 7,zB h 8,zB h 9,zB h 10,zB h 11⟩
theorem fl12 {W:World}{b:Nat}{cs:Array Value}{T:TypeId}(h:W.heap[b]?=some (.cells cs T)):W.frozen? ⟨b,0,none⟩=false/\W.frozen? ⟨b,1,none⟩=false/\W.frozen? ⟨b,2,none⟩=false/\W.frozen? ⟨b,3,none⟩=false/\W.frozen? ⟨b,4,none⟩=false/\W.frozen? ⟨b,5,none⟩=false/\W.frozen? ⟨b,6,none⟩=false/\W.frozen? ⟨b,7,none⟩=false/\W.frozen? ⟨b,8,none⟩=false/\W.frozen? ⟨b,9,none⟩=false/\W.frozen? ⟨b,10,none⟩=false/\W.frozen? ⟨b,11,none⟩=false:=⟨zE h 0,zE h 1,zE h 2,zE h 3,zE h 4,zE h 5,zE h 6,zE h 7,zE h 8,zE h 9,zE h 10,zE h 11⟩
def stepO (g:Int->Option ByteArray)(d:Dev):Int->Option ByteArray:=updO g d.index ((g d.parent).getD ⟨#[]⟩++⟨#[47]⟩++d.orig)
def ogs (l:List Dev):Int->Option ByteArray:=l.foldl stepO (fun _=>none)
def pathOf (l:List ByteArray):ByteArray:=l.foldl (fun s x=>s++⟨#[47]⟩++x) ⟨#[]⟩
def plcs (ds:List Dev)(k:Nat):Int->Option Int:=fun n=>(look (ds.take k) n).map fun _=>place ds n
theorem zEG (l:List Dev)(d:Dev):ogs (l++[d])=stepO (ogs l) d:=by unfold ogs;rw[List.foldl_append];rfl
theorem zBZ {ds:List Dev}(h:∀ d∈ds,d.orig.size<=32):∀ (k:Nat) (n:Int),((ogs (ds.take k) n).getD ⟨#[]⟩).size<=33*k
 | 0,n=>by show (ByteArray.mk #[]).size<=_;exact Nat.zero_le _
 | k+1,n=>by
  by_cases f:k<ds.length
  ·have e:ds.take (k+1)=ds.take k++[ds[k]]:=by rw[List.take_add_one,List.getElem?_eq_getElem f];rfl
   have o:=zBZ h k ds[k].parent;have g:=zBZ h k n;have q:=h ds[k] (List.getElem_mem f);rw[e,zEG];unfold stepO updO;split
   ·simp only[Option.getD_some,ByteArray.size_append];have:(⟨#[47]⟩:ByteArray).size=1:=rfl;omega
   ·omega
  ·have g:=zBZ h k n;rw[List.take_of_length_le (by omega)]at g ⊢;omega
theorem zE3 {ds:List Dev}(q:(ds.map Dev.index).Nodup){k:Nat}{d:Dev}(u:ds[k]?=some d)(n:Int):look (ds.take (k+1)) n=if n=d.index then some d else look (ds.take k) n:=by
 have e:ds.take (k+1)=ds.take k++[d]:=by rw[List.take_add_one,u];rfl
 have f:((ds.take k++[d]).map Dev.index).Nodup:=by rw[<-e];exact(List.Sublist.map _ (List.take_sublist _ _)).nodup q
 rw[e];unfold look;rw[List.find?_append];by_cases g:n=d.index
 ·rw[if_pos g];have:(ds.take k).find? (fun x=>decide (x.index=n))=none:=by
   rw[List.find?_eq_none];intro x v o;simp only[decide_eq_true_eq]at o;rw[List.map_append,List.nodup_append]at f;exact f.2.2 x.index (List.mem_map_of_mem v) d.index (by simp) (by rw[o,g])
  rw[this];simp[g]
 ·rw[if_neg g];have:([d].find? (fun x=>decide (x.index=n)))=none:=by simp;exact fun h=>g h.symm
  rw[this];simp
theorem zHz {ds:List Dev}(q:TreeOk ds){k:Nat}{d:Dev}(f:ds[k]?=some d):plcs ds (k+1)=updO (plcs ds k) d.index (k:Int):=by
 funext n
 unfold plcs updO;rw[zE3 q.nd f];split
 ·rename_i e;subst e;rcases zAa ds d.index with⟨g,z⟩ | ⟨j,x,g,z,u⟩
  ·rw[q.lk (List.mem_of_getElem? f)]at g;cases g
  ·rw[q.lk (List.mem_of_getElem? f)]at g;cases g;rw[z];have v:j<ds.length:=(List.getElem?_eq_some_iff.1 u).1;have y:k<ds.length:=(List.getElem?_eq_some_iff.1 f).1;have A:=List.pairwise_iff_getElem.1 q.nd;have C:ds[j].index=ds[k].index:=by
    rw[List.getElem?_eq_getElem v]at u;rw[List.getElem?_eq_getElem y]at f;rw[Option.some.inj u,Option.some.inj f]
   rcases Nat.lt_trichotomy j k with h | rfl | h
   ·have o:=A j k (by simpa using v) (by simpa using y) h;rw[List.getElem_map,List.getElem_map]at o;exact absurd C o
   ·rfl
   ·have o:=A k j (by simpa using y) (by simpa using v) h;rw[List.getElem_map,List.getElem_map]at o;exact absurd C.symm o
 ·rfl
theorem zGH {ds:List Dev}(g:TreeOk ds):∀ (k:Nat),k<=ds.length->∀ n,ogs (ds.take k) n=(look (ds.take k) n).map fun _=>pathOf (origin ds n)
 | 0,_,n=>by simp[ogs,look]
 | k+1,N,n=>by
  have h:k<ds.length:=by omega
  have o:ds[k]?=some ds[k]:=List.getElem?_eq_getElem h;have e:ds.take (k+1)=ds.take k++[ds[k]]:=by rw[List.take_add_one,o];rfl
  have v:=zGH g k (by omega);rw[zE3 g.nd o,e,zEG];unfold stepO updO;split
  ·rename_i z;have A:pathOf (origin ds n)=pathOf (origin ds ds[k].parent)++⟨#[47]⟩++ds[k].orig:=by
    rw[z,g.origin_cons (g.lk (List.getElem_mem h))];unfold pathOf;rw[List.foldl_append];rfl
   have C:(ogs (ds.take k) ds[k].parent).getD ⟨#[]⟩=pathOf (origin ds ds[k].parent):=by
    rw[v];rcases g.pa k _ o with y | ⟨j,f,D,F,q⟩
    ·have I:look (ds.take k) ds[k].parent=none:=by
      rw[y,zAU];intro x J e;have:=(g.ix x (List.mem_of_mem_take J)).1;omega
     rw[I,y,TreeOk.origin_none g.zero];rfl
    ·have L:f∈ds.take k:=by
      have:(ds.take k)[j]?=some f:=by rw[List.getElem?_take_of_lt D];exact F
      exact List.mem_of_getElem? this
     have u:((ds.take k).map Dev.index).Nodup:=(List.Sublist.map _ (List.take_sublist _ _)).nodup g.nd;have:=zAF u L;rw[q]at this;rw[this];rfl
   rw[C,A];rfl
  ·exact v n
theorem TreeOk.pwf {ds:List Dev}(h:TreeOk ds){d:Dev}(f:d∈ds):(Lit.int .i64 d.parent).wf=true:=by
 obtain⟨k,g⟩:=List.getElem?_of_mem f;rcases h.pa k d g with o | ⟨j,e,_,q,u⟩
 ·rw[o];decide
 ·rw[<-u];have:=h.ix e (List.mem_of_getElem? q);exact WalkArith.wf_i64 (by omega)
theorem TreeOk.iwf {ds:List Dev}(h:TreeOk ds){d:Dev}(f:d∈ds):(Lit.int .i64 d.index).wf=true:=by
 have:=h.ix d f;exact WalkArith.wf_i64 (by omega)
def ViewAt (w w':World)(a:Option Addr)(cap:Nat)(ds:List Dev)(e:Ending):Prop:=
 ∃ m1 m2,e=.returned (.agg #[.slice a ds.length cap,.map (some m1),.map (some m2)])/\w.heap.size<=m1/\w.heap.size<=m2/\m1≠m2/\IMap w' m1 (plcs ds ds.length) ds.length/\SMap w' m2 (ogs ds) ds.length
def Two2 (x y:Nat):Nat->Prop:=fun b=>b=x\/b=y
theorem zBs (a:Option Addr)(f:Nat)(ds:List Dev)(w:World)(hl:Devs w a f ds)(hT:TreeOk ds)(hn:ds.length<=1000):
  Calls Tryz.prog 56 #[.agg #[.slice a ds.length f]] w fun e w'=>ViewAt w w' a f ds e/\Fr No w w':=by
 have e3:=@run_makeMap Tryz.prog;have hm:=hl.lenmax
 go_enter Tryz.func56,Tryz.ntmps56
 go_wp2_with fail
 have q:=zh hT;have Hn:=zh hn;clear hT hn
 go_loopw [15] (fun i wr=>∃ k:Nat,k<=ds.length/\i=.int .i64 k/\IMap wr (w.heap.size+1+1) (plcs ds k) k/\SMap wr (w.heap.size+1+1+1) (ogs (ds.take k)) k/\
  wr.heap[w.heap.size+1+1+1+1]?=some (.cells #[.slice a ds.length f,.map (some (w.heap.size+1+1)),.map (some (w.heap.size+1+1+1))] 115)/\
  wr.heap[w.heap.size+1]?=some (.cells #[.slice none 0 0,.map none,.map none] 115)/\Fr No w wr) (fun i _=>ds.length-(intOf i).toNat)
 case atStart=>
  have s1:(w.alloc (.cells #[.slice a ds.length f] 48)).heap.size=w.heap.size+1:=by simp
  have s2:((w.alloc (.cells #[.slice a ds.length f] 48)).alloc (.cells #[.slice none 0 0,.map none,.map none] 115)).heap.size=w.heap.size+1+1:=by simp
  have s3:(((w.alloc (.cells #[.slice a ds.length f] 48)).alloc (.cells #[.slice none 0 0,.map none,.map none] 115)).alloc (.map #[] 0)).heap.size=w.heap.size+1+1+1:=by simp
  have s4:((((w.alloc (.cells #[.slice a ds.length f] 48)).alloc (.cells #[.slice none 0 0,.map none,.map none] 115)).alloc (.map #[] 0)).alloc (.map #[] 0)).heap.size=w.heap.size+1+1+1+1:=by simp
  refine⟨0,by omega,rfl,?_,?_,?_,?_,?_⟩
  ·have h:=IMap.made ((w.alloc (.cells #[.slice a ds.length f] 48)).alloc (.cells #[.slice none 0 0,.map none,.map none] 115));rw[s2]at h;exact(h.fr ((Fr.refl No _).alloc (.map #[] 0)) id).fr ((Fr.refl No _).alloc (.cells #[.slice a ds.length f,.map (some (w.heap.size+1+1)),.map (some (w.heap.size+1+1+1))] 115)) id
  ·have h:=SMap.made (((w.alloc (.cells #[.slice a ds.length f] 48)).alloc (.cells #[.slice none 0 0,.map none,.map none] 115)).alloc (.map #[] 0));rw[s3]at h;exact h.fr ((Fr.refl No _).alloc (.cells #[.slice a ds.length f,.map (some (w.heap.size+1+1)),.map (some (w.heap.size+1+1+1))] 115)) id
  ·have h:=zD ((((w.alloc (.cells #[.slice a ds.length f] 48)).alloc (.cells #[.slice none 0 0,.map none,.map none] 115)).alloc (.map #[] 0)).alloc (.map #[] 0)) (.cells #[.slice a ds.length f,.map (some (w.heap.size+1+1)),.map (some (w.heap.size+1+1+1))] 115);rw[s4]at h;exact h
  ·have h:=zD (w.alloc (.cells #[.slice a ds.length f] 48)) (.cells #[.slice none 0 0,.map none,.map none] 115);rw[s1]at h;exact((((Fr.refl No _).alloc (.map #[] 0)).alloc (.map #[] 0)).alloc (.cells #[.slice a ds.length f,.map (some (w.heap.size+1+1)),.map (some (w.heap.size+1+1+1))] 115)).heap h id
  ·repeat (first | exact Fr.refl _ _ | refine Fr.alloc ?_ _)
 case round=>
  obtain⟨k,hk,rfl,hI,O,L,N,u⟩:=hrel;have v0:wr.cell? ⟨w.heap.size+1+1+1+1,0,none⟩=some (.slice a ds.length f):=by simp[World.cell?,L]
  have v1:wr.cell? ⟨w.heap.size+1+1+1+1,1,none⟩=some (.map (some (w.heap.size+1+1))):=by simp[World.cell?,L]
  have v2:wr.cell? ⟨w.heap.size+1+1+1+1,2,none⟩=some (.map (some (w.heap.size+1+1+1))):=by simp[World.cell?,L]
  have r0:wr.cell? ⟨w.heap.size+1,0,none⟩=some (.slice none 0 0):=by simp[World.cell?,N]
  have r1:wr.cell? ⟨w.heap.size+1,1,none⟩=some (.map none):=by simp[World.cell?,N]
  have r2:wr.cell? ⟨w.heap.size+1,2,none⟩=some (.map none):=by simp[World.cell?,N]
  obtain⟨q0,q1,q2⟩:=fl3 N;by_cases R:k<ds.length
  ·have e1:(k:Int)<ds.length:=by omega
   obtain⟨bb,e4,d,rfl,U,c0,c1,c2,c3,c4,c5,c6,c7,c8,c9⟩:=(hl.no u (fun _=>id)).dev R;have Hd:=zh U;have a8:=q.out.pwf (List.mem_of_getElem? U);have a9:=q.out.iwf (List.mem_of_getElem? U);have e5:=zBZ q.out.sz k d.parent;have e6:=q.out.sz d (List.mem_of_getElem? U);have e7:=Hn.out;clear U;have A:=O.fr ((Fr.refl No _).alloc (.cells #[.int .i64 d.index,.int .i64 d.parent,.string d.name,.string d.orig,.string d.sub,.string d.drv,.string d.ali,.int .i64 d.kind,.int .i64 d.num,.slice d.aa d.an d.ac] 36)) id;have C:Fr No wr (wr.alloc (.cells #[.int .i64 d.index,.int .i64 d.parent,.string d.name,.string d.orig,.string d.sub,.string d.drv,.string d.ali,.int .i64 d.kind,.int .i64 d.num,.slice d.aa d.an d.ac] 36)):=(Fr.refl No _).alloc _;have V:=C.cell v1 id;have X:=C.cell v2 id;have b0:=zh (u.step C zi);have b1:=zh (C.heap L id);have b2:=zh (C.heap N id);have Y:=hI.fr C id;have b3:(Tryz.prog.info? 36).isSome=true:=by kernel_rfl
   clear C b3
   go_wp2_with (at_lookup;refine zFN rfl _ _ 113 rfl rfl (w.heap.size+1+1+1) _ k d.parent a8 rfl A rfl ?_)
   refine zQ (Two2 (w.heap.size+1+1) (w.heap.size+1+1+1)) [(0,false),(1,false),(2,false),(3,false),(4,false),(5,false),(6,false),(7,false),(8,false),(9,false),(10,true),(11,true)] (by kernel_rfl) (by kernel_rfl) (fun w0 o=>?_);have b4:=Y.fr o id;have b5:=A.fr o id;have y:=b0.out.step o zi;have e2:w.heap.size+1+1+1+1<wr.heap.size:=zC L;have d1:∀ g:Gr (Two2 (w.heap.size+1+1) (w.heap.size+1+1+1)) w0,g.W.cell? ⟨w.heap.size+1+1+1+1,1,none⟩=some (.map (some (w.heap.size+1+1))):=fun g=>g.fr.cell (o.cell V id) (fun h=>by unfold Two2 at h;dsimp only at h;omega)
   have d2:∀ g:Gr (Two2 (w.heap.size+1+1) (w.heap.size+1+1+1)) w0,g.W.cell? ⟨w.heap.size+1+1+1+1,2,none⟩=some (.map (some (w.heap.size+1+1+1))):=fun g=>g.fr.cell (o.cell X id) (fun h=>by unfold Two2 at h;dsimp only at h;omega)
   have d5:∀ g:Gr (Two2 (w.heap.size+1+1) (w.heap.size+1+1+1)) w0,g.W.cell? ⟨wr.heap.size,0,none⟩=some (.int .i64 d.index):=fun g=>g.fr.cell (o.cell (by rw[zB (zD _ _)];rfl) id) (fun h=>by unfold Two2 at h;dsimp only at h;omega)
   have b6:=zh (o.heap b1.out id);have b7:=zh (o.heap b2.out id);obtain⟨DI,nI,b8,Z,a2,a3⟩:=b4;obtain⟨DS,nS,b9,a4,a5,a6⟩:=b5;have d0:=zh a2;have d3:=zh a3;have d4:=zh a5;have d6:=zh a6;have z:=keyOf_int_mk Tryz.underlying3 a9;have a7:=zh y;clear a2 a3 a5 a6 v0 v1 v2 r0 r1 r2 q0 q1 q2 L N V X Y A hI O u y c0 c1 c2 c3 c4 c5 c6 c7 c8 c9
   repeat (apply zS rfl rfl rfl;intro K hK;go_big_quiet_op;go_big_quiet_on)
   apply zk;exact rfl
   go_wp2_with (at_mapUpdate;refine wpList_mapUpdate_own _ rfl _ _ _ 112 rfl 3 3 lawI Tryz.underlying112 _ (w.heap.size+1+1) nI DI rfl Z (by unfold maxLen;omega) _ _ _ rfl rfl z _ [] (plainElem_int Tryz.underlying3 (WalkArith.wf_i64 (by omega))) ?_;intro w1 d7 D)
   refine OnlyN.mk ⟨(Fr.of_grown_some D).mono (fun _ _ h=>.inl h),?_⟩;apply zk;exact rfl
   go_wp2_with (at_mapUpdate;refine wpList_mapUpdate_own _ rfl _ _ _ 113 rfl 3 9 lawI Tryz.underlying113 _ (w.heap.size+1+1+1) nS DS rfl (a4.kept D (fun e=>by have:=Option.some.inj e;omega)) (by unfold maxLen;omega) _ _ _ rfl rfl z _ [] (plainElem_string Tryz.underlying9 (by simp only[ByteArray.size_append];unfold maxLen;have:(⟨#[47]⟩:ByteArray).size=1:=rfl;omega)) ?_;intro w2 d8 F)
   refine OnlyN.mk ⟨(Fr.of_grown_some F).mono (fun _ _ h=>.inr h),?_⟩;refine zY ?_;have d9:=(IMap.put b8 Z d0.out d3.out d.index k d7).fr (Fr.of_grown_some F) (fun h=>by unfold Is at h;omega);have e0:=SMap.put b9 a4 d4.out d6.out d.index _ d8;have I:=zh (Fr.of_grown_some D);have J:=zh (Fr.of_grown_some F)
   go_wp2_with fail
   go_roundw
   case rel=>
    refine⟨k+1,by omega,by go_num,?_,?_,J.out.heap (I.out.heap b6.out (by unfold Is;omega)) (by unfold Is;omega),J.out.heap (I.out.heap b7.out (by unfold Is;omega)) (by unfold Is;omega),
     (a7.out.step I.out (fun b hb h=>by unfold Is at h;omega)).step J.out (fun b hb h=>by unfold Is at h;omega)⟩
    ·rw[zHz q.out Hd.out];exact d9
    ·have e:ds.take (k+1)=ds.take k++[d]:=by rw[List.take_add_one,Hd.out];rfl
     rw[e,zEG];exact e0
   case measure=>simp[intOf];omega
  ·obtain rfl:k=ds.length:=by omega
   clear R;rw[List.take_of_length_le (Nat.le_refl _)]at O;have HI:=zh hI;have HS:=zh O;clear hI O
   go_wp2_with fail
   refine bodyPost_ret (v:=.agg #[.slice a ds.length f,.map (some (w.heap.size+1+1)),.map (some (w.heap.size+1+1+1))]) (by simp[results,Tryz.results56,go_sem,r0,r1,r2]) rfl ?_;have hF:Fr (Is (w.heap.size+1)) wr (((wr.setCell ⟨w.heap.size+1,0,none⟩ (.slice a ds.length f)).setCell ⟨w.heap.size+1,1,none⟩ (.map (some (w.heap.size+1+1)))).setCell ⟨w.heap.size+1,2,none⟩ (.map (some (w.heap.size+1+1+1)))):=(((Fr.refl _ _).setAt _).setAt _).setAt _;exact⟨⟨_,_,rfl,by omega,by omega,by omega,HI.out.fr hF (by unfold Is;omega),HS.out.fr hF (by unfold Is;omega)⟩,u.step hF (fun b hb h=>by unfold Is at h;omega)⟩
end Go.Proofs.YtinfjnndbfahhaaGreatDoor
