import Derived.Test.YtinfjnndbfahhaaGreatDoorQ17
namespace Go.Proofs.YtinfjnndbfahhaaGreatDoor
open Go.RowKit Go.Maps
set_option linter.unusedVariables false
set_option maxRecDepth 100000
set_option maxHeartbeats 8000000
theorem QMap.blk {w:World}{q:Nat}{g:ByteArray×ByteArray->Option Value}{N:Nat}(h:QMap w q g N):∃ o f,w.heap[q]?=some (.map o f):=by
 obtain⟨D,n,_,⟨o,f,h,_⟩,_⟩:=h;exact⟨o,f,h⟩
theorem QMap.ne_cells {w:World}{o:Nat}{g:ByteArray×ByteArray->Option Value}{N:Nat}(h:QMap w o g N){b:Nat}{cs:Array Value}{T:TypeId}{u:Nat×Nat}(v:w.heap[b]?=some (.cells cs T u)):b≠o:=by
 obtain⟨y,f,q⟩:=h.blk;intro e;subst e;rw[v]at q;cases q
theorem QMap.ne_own {w:World}{u:Nat}{g:ByteArray×ByteArray->Option Value}{N:Nat}(h:QMap w u g N){f:Nat}{e:TypeId}{o:Nat}{v:Value}{n:Nat}{z:List Value}(A:w.ownsRow f e o v n z):¬ v.ownBlock=some u:=by
 intro y;obtain⟨_,⟨rfl,_⟩ | ⟨F,C,D,rfl,I,q,_⟩⟩:=A
 ·cases y
 ·cases y;exact h.ne_cells q rfl
theorem QMap.lookok {w:World}{o:Nat}{g:ByteArray×ByteArray->Option Value}{N:Nat}(h:QMap w o g N){t e:TypeId}{z:Value}(A:(zeroValue e).run Tryz.prog w=.ok z w)(C:Tryz.prog.underlying t=some (.map 132 e))
  {s:ByteArray} {n:ByteArray} (q:s.size<=maxLen) (u:n.size<=maxLen):(Instr.lookup t (.map (some o)) (.agg #[.string s,.string n]) true).run Tryz.prog w=.ok (.tuple #[(g (s,n)).getD z,.bool (g (s,n)).isSome]) w:=by
 obtain⟨D,m,_,F,I⟩:=h;obtain⟨y,J⟩:=I (s,n) q u;obtain⟨v,O,f,L⟩:=F.look_ok lawQ C A (zd:=.held z) (zp:=[]) rfl (keyQ q u);rw[f,y,zEP y J L]
theorem zAC {o:Oper}{a:Act}{S:World->Prop}{K:Act->Prop}(C:o.guard=none)(m x:Operand)(t:TypeId)(g:o.op=Op.lookup t m x true)(h q v:Value)(u:a.eval m=h)(y:a.eval x=q)
  (f:∀ W,S W->(Instr.lookup t h q true).run Tryz.prog W=.ok v W) (z:K (a.put o.dst v)):o.quiet Tryz.prog a S K:=by
 refine⟨v,fun W A=>?_,z⟩;unfold Oper.quietAt;simp[execOp,g,u,y,f W A,Result.andThen,Oper.quietUpon]
def zBf : Value:=.agg #[.string ⟨#[]⟩,.string ⟨#[]⟩,.string ⟨#[]⟩,.int .i64 0]
theorem zBo (w:World):(zeroValue 94).run Tryz.prog w=.ok zBf w:=by kernel_rfl
theorem zLf (w:World):(zeroValue 4).run Tryz.prog w=.ok (.bool false) w:=by kernel_rfl
structure RS (c:RC)(w:World)(sa:Option Addr)(sc:Nat)(ma:Option Addr)(mc:Nat)(S:List Src)(M:List Vir)(G:List (ByteArray×ByteArray)):Prop where
 k:w.heap[c.xb]?=some (.cells (rcs c.ka c.kn c.kc c.wt c.a c.n c.cap c.ca c.C.length c.cc c.ea c.en c.ec sa S.length sc c.wm c.sm ma M.length mc) 83)
 so:w.ownsRow c.b2 123 13 (.slice sa S.length sc) S.length (sflat S)
 mo:w.ownsRow c.b0 94 4 (.slice ma M.length mc) M.length (vflat M)
 cs:Srcs w c.ca c.cc c.C
 cb:∀ ad,c.ca=some ad->c.b0<=ad.block/\ad.block<c.b2/\BlkT w c.ca 123
 wmo:QMap w c.wm (wantG M) M.length
 smo:QMap w c.sm (seenG G) G.length
 ne:c.wm≠c.sm
 lo:c.b0<=c.xb/\c.b0<=c.wm/\c.b0<=c.sm/\c.b0<=c.b2/\c.xb<c.b2/\c.wm<c.b2/\c.sm<c.b2
 b2l:c.b2<=w.heap.size
theorem RSt.rs {c:RC}{w:World}{S:List Src}{M:List Vir}{G:List (ByteArray×ByteArray)}(h:RSt c w S M G)(y:c.b2<=w.heap.size):∃ f g o q,RS c w f g o q S M G:=by
 obtain⟨⟨f,g,o,q,k,z,A⟩,cs,C,u,v,D,F⟩:=h;exact⟨f,g,o,q,k,z,A,cs,C,u,v,D,F,y⟩
theorem RS.fr {T:Nat->Prop}{c:RC}{w w':World}{q:Option Addr}{u:Nat}{v:Option Addr}{y:Nat}{S:List Src}{M:List Vir}{G:List (ByteArray×ByteArray)}(h:RS c w q u v y S M G)(f:Fr T w w')
  (C:¬ T c.xb) (D:¬ T c.wm) (F:¬ T c.sm) (z:∀ b,(Value.slice q S.length u).ownBlock=some b->¬ T b) (A:∀ b,(Value.slice v M.length y).ownBlock=some b->¬ T b) (o:∀ g,c.ca=some g->¬ T g.block):RS c w' q u v y S M G:=
 ⟨f.heap h.k C,zG h.so f z,zG h.mo f A,h.cs.fr f (fun g e _=>o g e),fun g e=>⟨(h.cb g e).1,(h.cb g e).2.1,(h.cb g e).2.2.fr f o⟩,h.wmo.fr f D,h.smo.fr f F,h.ne,h.lo,Nat.le_trans h.b2l f.size⟩
theorem RS.no {c:RC}{w w':World}{f:Option Addr}{g:Nat}{o:Option Addr}{q:Nat}{S:List Src}{M:List Vir}{G:List (ByteArray×ByteArray)}(h:RS c w f g o q S M G)(u:Fr No w w'):RS c w' f g o q S M G:=
 h.fr u id id id (fun _ _=>id) (fun _ _=>id) (fun _ _=>id)
def inW (M:List Vir)(q o:ByteArray):Bool:=M.any fun v=>decide ((v.q,v.o)=(q,o))
def zw (M:List Vir)(v:Vir):List Vir:=if inW M v.q v.o=true then M else M++[v]
def zl (M V:List Vir):List Vir:=V.foldl zw M
theorem zEe (M V:List Vir)(v:Vir):zl M (V++[v])=zw (zl M V) v:=by unfold zl;rw[List.foldl_append];rfl
theorem zCn (M:List Vir)(v:Vir):(zw M v).length<=M.length+1:=by unfold zw;split<;>simp
theorem zAd : ∀ (V M:List Vir),(zl M V).length<=M.length+V.length
 | [],M=>by simp[zl]
 | v::t,M=>by
  have f:=zAd t (zw M v);have g:=zCn M v;unfold zl at f ⊢;rw[List.foldl_cons,List.length_cons];omega
theorem zGw (M:List Vir)(q o:ByteArray):(wantG M (q,o)).isSome=inW M q o:=by
 unfold wantG inW;rw[Option.isSome_map,Bool.eq_iff_iff,List.find?_isSome,List.any_eq_true]
theorem zGx {M:List Vir}{v:Vir}(h:inW M v.q v.o=false):wantG (M++[v])=updQ (wantG M) (v.q,v.o) (.agg v.vals):=by
 funext p
 unfold updQ wantG;rw[List.find?_append];by_cases f:p=(v.q,v.o)
 ·subst f;rw[if_pos rfl];have:M.find? (fun u=>decide ((u.q,u.o)=(v.q,v.o)))=none:=by
   rw[List.find?_eq_none];intro u g;unfold inW at h;have:=(List.any_eq_false.1 h) u g
   simpa using this
  rw[this];simp
 ·rw[if_neg f];have:[v].find? (fun u=>decide ((u.q,u.o)=p))=none:=by simp;exact fun e=>f (Eq.symm e)
  rw[this];simp
theorem zAn {a:Option Addr}{n c b:Nat}(h:(Value.slice a n c).ownBlock=some b):∃ f,a=some f/\f.block=b:=by
 cases a with
 | none=>cases h
 | some f=>exact⟨f,rfl,by injection h⟩
theorem zJb (a:Option Addr)(n m c d:Nat):(Value.slice a n c).ownBlock=(Value.slice a m d).ownBlock:=by cases a<;>rfl
theorem RS.grow {c:RC}{R X:World}{w6:World}{U:Option Addr}{V:Nat}{Y:Option Addr}{Z:Nat}{S:List Src}{M:List Vir}{G:List (ByteArray×ByteArray)}(h:RS c w6 U V Y Z S M G)(I:Fr (Is c.wm) w6 R){v:Vir}
  (hQ:QMap R c.wm (updQ (wantG M) (v.q,v.o) (.agg v.vals)) (M.length+1)) (a2:inW M v.q v.o=false) {av:Option Addr} {cv:Nat} (J:Fr (fun b=>b=c.xb\/(Value.slice Y M.length Z).ownBlock=some b) R X)
  (k5:X.heap[c.xb]?=some (.cells (rcs c.ka c.kn c.kc c.wt c.a c.n c.cap c.ca c.C.length c.cc c.ea c.en c.ec U S.length V c.wm c.sm av (M.length+1) cv) 83))
  (h5:X.ownsRow c.b0 94 4 (.slice av (M.length+1) cv) (M.length+1) (vflat M++v.vals.toList)):RS c X U V av cv S (M++[v]) G:=by
 have el:(M++[v]).length=M.length+1:=by simp
 have a3:∀ b,(Value.slice U S.length V).ownBlock=some b->¬ Is c.wm b:=fun b L e=>by unfold Is at e;subst e;exact h.wmo.ne_own h.so L
 have y:=zG h.so I a3;have u:=zG h.mo I (fun b L e=>by unfold Is at e;subst e;exact h.wmo.ne_own h.mo L);have D:=I.heap h.k (fun e=>h.wmo.ne_cells h.k e);have O:∀ f,c.ca=some f->¬ Is c.wm f.block:=fun f e g=>by
  obtain⟨cs,N⟩:=(h.cb f e).2.2 f e;exact h.wmo.ne_cells N g
 have z:∀ f,c.ca=some f->BlkT R c.ca 123:=fun f e=>(h.cb f e).2.2.fr I O
 have F:∀ f,c.ca=some f->¬ (f.block=c.xb\/(Value.slice Y M.length Z).ownBlock=some f.block):=fun f e g=>by
  rcases g with g | g
  ·obtain⟨cs,N⟩:=z f e f e;rw[g,D]at N;injection N with N
   injection N with _ e2
   exact absurd e2 (by decide)
  ·exact BlkT.ne u (z f e) (by decide) f e g
 have A:=h.smo.fr I (fun e=>h.ne (Eq.symm e));refine⟨by rw[el];exact k5,zG y J (fun b L g=>?_),by rw[el,zBU];exact h5,(h.cs.fr I (fun f e _=>O f e)).fr J (fun f e _=>F f e),fun f e=>⟨(h.cb f e).1,(h.cb f e).2.1,(z f e).fr J F⟩,?_,A.fr J (fun g=>?_),h.ne,h.lo,Nat.le_trans h.b2l (Nat.le_trans I.size J.size)⟩
 ·rcases g with g | g
  ·subst g;exact zR y D (by decide) L
  ·obtain⟨f,rfl,rfl⟩:=zAn L;exact BlkT.ne u (zAI y) (by decide) f rfl g
 ·rw[el,zGx a2];exact hQ.fr J (fun g=>by
   rcases g with g | g
   ·exact hQ.ne_cells D (Eq.symm g)
   ·exact hQ.ne_own u g)
 ·rcases g with g | g
  ·exact A.ne_cells D (Eq.symm g)
  ·exact A.ne_own u g
def mustB (t e n:Int)(ex xp:Bool):Bool:=decide (n=t)||(decide (e<=n)&&(ex||xp))
def mdT : ByteArray:=⟨#[109,100,45]⟩
def mdOf (gi:ByteArray)(ins:List ByteArray)(r:Int):Vir:=⟨⟨#[]⟩,mdT++gi,ins.headD ⟨#[]⟩,r⟩
theorem set4 {W:World}{b:Nat}{cs:Array Value}{T:TypeId}(h:W.heap[b]?=some (.cells cs T))(y:cs.size=4)(f g o q:Value):
  ((((W.setCell ⟨b,0,none⟩ f).setCell ⟨b,1,none⟩ g).setCell ⟨b,2,none⟩ o).setCell ⟨b,3,none⟩ q).heap[b]?=some (.cells #[f,g,o,q] T)/\Fr (Is b) W ((((W.setCell ⟨b,0,none⟩ f).setCell ⟨b,1,none⟩ g).setCell ⟨b,2,none⟩ o).setCell ⟨b,3,none⟩ q):=by
 have u:∀ {a w:World} (h:Fr (Is b) a w) (i:Nat) (v:Value),Fr (Is b) a (w.setCell ⟨b,i,none⟩ v):=fun h i v=>h.setCell (p:=⟨b,i,none⟩) (fun _=>rfl) v
 refine⟨?_,u (u (u (u (Fr.refl _ _) _ _) _ _) _ _) _ _⟩;obtain⟨l⟩:=cs
 match l,y with
 | [_,_,_,_],_=>
  have z:=zF h 0 f;have A:=zF z 1 g;have C:=zF A 2 o;exact zF C 3 q
theorem zLa (o:ByteArray)(t e n:Int)(q:Option Addr)(u v:Nat)(y:Option Addr)(z:Nat)(f:List ByteArray)(w:World):
  Calls Tryz.prog 162 #[.agg #[.string o,.slice q u v,.int .i64 t,.int .i64 e,.int .i64 n,.slice y f.length z]] w fun J w'=>J=.returned (.bool (decide (n=t)))/\Fr No w w':=by
 have A:Fr No w (w.alloc (.cells #[.string o,.slice q u v,.int .i64 t,.int .i64 e,.int .i64 n,.slice y f.length z] 176)):=(Fr.refl _ _).alloc _;have C:=zD w (.cells #[.string o,.slice q u v,.int .i64 t,.int .i64 e,.int .i64 n,.slice y f.length z] 176);obtain⟨F,g⟩:∃ F,F=w.alloc (.cells #[.string o,.slice q u v,.int .i64 t,.int .i64 e,.int .i64 n,.slice y f.length z] 176):=⟨_,rfl⟩
 rw[<-g]at A C;obtain⟨N,O,R,U,V,X⟩:=cl6 C;have I:=zh A;clear A C
 go_enter Tryz.func162,Tryz.ntmps162
 go_upto_region 1 with(fail)
 rw[<-g];clear g;by_cases h:n=t
 ·have L:(n==t)=true:=by simpa using h
  have D:Hid (decide (n=t)=true):=decide_eq_true h;clear h
  go_wp2_with fail
  go_ret;exact⟨by rw[D.out];rfl,I.out⟩
 ·have L:(n==t)=false:=by simpa using h
  have D:Hid (decide (n=t)=false):=decide_eq_false h;clear h
  go_wp2_with fail
  go_ret;exact⟨by rw[D.out];rfl,I.out⟩
theorem zKC (o:ByteArray)(t e n:Int)(q:Option Addr)(u v:Nat)(y:Option Addr)(z:Nat)(f:List ByteArray)(w:World):
  Calls Tryz.prog 163 #[.agg #[.string o,.slice q u v,.int .i64 t,.int .i64 e,.int .i64 n,.slice y f.length z]] w fun J w'=>J=.returned (.bool (decide (e<=n)))/\Fr No w w':=by
 have A:Fr No w (w.alloc (.cells #[.string o,.slice q u v,.int .i64 t,.int .i64 e,.int .i64 n,.slice y f.length z] 176)):=(Fr.refl _ _).alloc _;have C:=zD w (.cells #[.string o,.slice q u v,.int .i64 t,.int .i64 e,.int .i64 n,.slice y f.length z] 176);obtain⟨F,g⟩:∃ F,F=w.alloc (.cells #[.string o,.slice q u v,.int .i64 t,.int .i64 e,.int .i64 n,.slice y f.length z] 176):=⟨_,rfl⟩
 rw[<-g]at A C;obtain⟨L,N,O,R,U,V⟩:=cl6 C;have I:=zh A;clear A C
 go_enter Tryz.func163,Tryz.ntmps163
 go_upto_region 1 with(fail)
 rw[<-g];clear g;by_cases h:e<=n
 ·have D:Hid (decide (e<=n)=true):=decide_eq_true h
  go_wp2_with fail
  go_ret;exact⟨by rw[D.out];rfl,I.out⟩
 ·have D:Hid (decide (e<=n)=false):=decide_eq_false h
  go_wp2_with fail
  go_ret;exact⟨by rw[D.out];rfl,I.out⟩
theorem zKW (g:ByteArray)(t e n:Int)(h:Option Addr)(o q:Nat)(u:Option Addr)(v:Nat)(f:List ByteArray)(D F:Bool)(w:World):
  Calls Tryz.prog 106 #[.agg #[.string g,.slice h o q,.int .i64 t,.int .i64 e,.int .i64 n,.slice u f.length v],.bool D,.bool F] w fun Y w'=>Y=.returned (.bool (mustB t e n D F))/\Fr No w w':=by
 have Z:Fr No w (w.alloc (.cells #[.string g,.slice h o q,.int .i64 t,.int .i64 e,.int .i64 n,.slice u f.length v] 176)):=(Fr.refl _ _).alloc _;have V:=zD w (.cells #[.string g,.slice h o q,.int .i64 t,.int .i64 e,.int .i64 n,.slice u f.length v] 176);obtain⟨X,y⟩:∃ X,X=w.alloc (.cells #[.string g,.slice h o q,.int .i64 t,.int .i64 e,.int .i64 n,.slice u f.length v] 176):=⟨_,rfl⟩
 rw[<-y]at Z V;obtain⟨y0,y1,y2,y3,y4,y5⟩:=cl6 V;have hw:=zLa g t e n h o q u v f X;have J:∀ W:World,Fr No X W->W.heap[w.heap.size]?=some (.cells #[.string g,.slice h o q,.int .i64 t,.int .i64 e,.int .i64 n,.slice u f.length v] 176):=fun W hf=>hf.heap V id
 have a2:=zh J;have Hx:=zh Z;obtain⟨I,z⟩:∃ I,I=mustB t e n D F:=⟨_,rfl⟩
 rw[<-z];have L:=zh z;clear Z V J z
 go_enter Tryz.func106,Tryz.ntmps106
 go_upto_region 1 with(fail)
 rw[<-y];clear y
 go_wp2_with fail
 refine hw.mono ?_;rintro Y w1 ⟨rfl,A⟩;clear y0 y1 y2 y3 y4 y5;have C:=a2.out w1 A;have y0:=zB C 0;have y1:=zB C 1;have y2:=zB C 2;have y3:=zB C 3;have y4:=zB C 4;have y5:=zB C 5;have N:=zh (Hx.out.step A zi);have he:=zKC g t e n h o q u v f w1;clear hw A C;cases h1:decide (n=t)with
 | true=>
  have O:Hid (I=true):=by unfold Hid;rw[L.out,mustB,h1];rfl
  clear h1 he
  go_wp2_with fail
  go_ret;exact⟨by rw[O.out];rfl,N.out⟩
 | false=>
  have Hm:Hid (I=(decide (e<=n)&&(D||F))):=by unfold Hid;rw[L.out,mustB,h1];rfl
  clear h1
  go_wp2_with fail
  refine he.mono ?_;rintro Y w2 ⟨rfl,R⟩;have U:=zh (N.out.step R zi);clear he R y0 y1 y2 y3 y4 y5;cases h2:decide (e<=n)with
  | false=>
   have O:Hid (I=false):=by unfold Hid;rw[Hm.out,h2];rfl
   clear h2
   go_wp2_with fail
   go_ret;exact⟨by rw[O.out];rfl,U.out⟩
  | true=>
   have O:Hid (I=(D||F)):=by unfold Hid;rw[Hm.out,h2];rfl
   clear h2;cases D<;>cases F <;>
    (go_wp2_with fail
     go_ret;exact⟨by rw[O.out];rfl,U.out⟩)
theorem zMC (g:ByteArray)(t e n rd:Int)(U:Option Addr)(V X:Nat)(z:Option Addr)(A:Nat)(f:List ByteArray)(w:World)(b4:g.size<=1000000)(hS:Strs w z A f):
  Calls Tryz.prog 109 #[.agg #[.string g,.slice U V X,.int .i64 t,.int .i64 e,.int .i64 n,.slice z f.length A],.int .i64 rd] w fun en w'=>en=.returned (.agg (mdOf g f rd).vals)/\Fr No w w':=by
 have C:Fr No w ((w.alloc (.cells #[.string g,.slice U V X,.int .i64 t,.int .i64 e,.int .i64 n,.slice z f.length A] 176)).alloc (.cells #[.string ⟨#[]⟩,.string ⟨#[]⟩,.string ⟨#[]⟩,.int .i64 0] 94)):=((Fr.refl _ _).alloc _).alloc _;have q2:=zI w (.cells #[.string g,.slice U V X,.int .i64 t,.int .i64 e,.int .i64 n,.slice z f.length A] 176) (.cells #[.string ⟨#[]⟩,.string ⟨#[]⟩,.string ⟨#[]⟩,.int .i64 0] 94);have q4:=zL w (.cells #[.string g,.slice U V X,.int .i64 t,.int .i64 e,.int .i64 n,.slice z f.length A] 176) (.cells #[.string ⟨#[]⟩,.string ⟨#[]⟩,.string ⟨#[]⟩,.int .i64 0] 94);have Y:((w.alloc (.cells #[.string g,.slice U V X,.int .i64 t,.int .i64 e,.int .i64 n,.slice z f.length A] 176)).alloc (.cells #[.string ⟨#[]⟩,.string ⟨#[]⟩,.string ⟨#[]⟩,.int .i64 0] 94)).heap.size=w.heap.size+2:=by simp
 have b5:=hS.lenmax;have hz:¬ 9223372036854775807<3+g.size:=by omega
 have Z:Hid (mdOf g f rd=⟨⟨#[]⟩,(⟨#[109,100,45]⟩:ByteArray)++g,f.headD ⟨#[]⟩,rd⟩):=rfl;obtain⟨o,F⟩:∃ o,o=(w.alloc (.cells #[.string g,.slice U V X,.int .i64 t,.int .i64 e,.int .i64 n,.slice z f.length A] 176)).alloc (.cells #[.string ⟨#[]⟩,.string ⟨#[]⟩,.string ⟨#[]⟩,.int .i64 0] 94):=⟨_,rfl⟩
 rw[<-F]at C q2 q4 Y;have a2:=hS.no C (fun _=>id);have a8:w.heap.size+2<=o.heap.size:=by omega
 have y0:o.cell? ⟨w.heap.size,0,none⟩=some (.string g):=zB q2 0;clear Y
 go_enter Tryz.func109,Tryz.ntmps109
 go_upto_region 1 with(fail)
 rw[<-F];clear F;have q:Fr No o (o.alloc (.cells #[.string ⟨#[]⟩,.string ((⟨#[109,100,45]⟩:ByteArray)++g),.string ⟨#[]⟩,.int .i64 rd] 94)):=(Fr.refl _ _).alloc _;have I:=zD o (.cells #[.string ⟨#[]⟩,.string ((⟨#[109,100,45]⟩:ByteArray)++g),.string ⟨#[]⟩,.int .i64 rd] 94);have J:=q.heap q2 id;have u:=q.heap q4 id;have a5:=zC I;obtain⟨y,L⟩:∃ y,y=o.alloc (.cells #[.string ⟨#[]⟩,.string ((⟨#[109,100,45]⟩:ByteArray)++g),.string ⟨#[]⟩,.int .i64 rd] 94):=⟨_,rfl⟩
 rw[<-L]at q I J u a5;have a3:=a2.no q (fun _=>id);have Hx:=zh (C.step q zi)
 go_upto_region 2 with(fail)
 rw[<-L];clear L y0 C q hS a2 q2 q4;have x5:y.cell? ⟨w.heap.size,5,none⟩=some (.slice z f.length A):=zB J 5;rcases f with _ | ⟨c,ir⟩
 ·have b6:y.cell? ⟨w.heap.size,5,none⟩=some (.slice z 0 A):=x5;clear x5;obtain⟨u0,u1,u2,u3⟩:=cl4 I;obtain⟨b0,b1,b2,b3⟩:=cl4 u;obtain⟨f0,f1,f2,f3⟩:=fl4 u;have N:=set4 u rfl (.string ⟨#[]⟩) (.string ((⟨#[109,100,45]⟩:ByteArray)++g)) (.string ⟨#[]⟩) (.int .i64 rd);have HF:=zh (((Hx.out.mono (T:=From w.heap.size) zn).step N.2 (fun b _ h=>by unfold Is at h;unfold From;omega)).mono (T:=No) (fun b hb h=>by unfold From at h;omega));have D:=zh N.1;clear N
  go_wp2_with fail
  have y0:=zB D.out 0;have y1:=zB D.out 1;have y2:=zB D.out 2;have y3:=zB D.out 3;refine bodyPost_ret (v:=.agg #[.string ⟨#[]⟩,.string ((⟨#[109,100,45]⟩:ByteArray)++g),.string ⟨#[]⟩,.int .i64 rd]) (by simp[results,Tryz.results109,go_sem,y0,y1,y2,y3]) rfl ?_;exact⟨by rw[Z.out];rfl,HF.out⟩
 ·have b7:(0:Int)<((c::ir).length:Nat):=by first | (simp;done) | (simp;omega)
  obtain⟨b,b8,x,rfl,a4,hc⟩:=a3.at (k:=0) (by simp);obtain rfl:c=x:=by simpa using a4
  rw[Nat.add_zero]at hc;clear a4;have z2:y.cell? ⟨o.heap.size,2,none⟩=some (.string ⟨#[]⟩):=zB I 2;have f2:y.frozen? ⟨o.heap.size,2,none⟩=false:=zE I 2;have O:Fr (Is o.heap.size) y (y.setCell ⟨o.heap.size,2,none⟩ (.string c)):=Fr.setCell (S:=Is o.heap.size) (p:=⟨o.heap.size,2,none⟩) (Fr.refl _ _) (fun _=>rfl) _;have a6:(y.setCell ⟨o.heap.size,2,none⟩ (.string c)).heap[o.heap.size]?=some (.cells #[.string ⟨#[]⟩,.string ((⟨#[109,100,45]⟩:ByteArray)++g),.string c,.int .i64 rd] 94):=zF I 2 (.string c);have R:=O.heap u (fun e=>by unfold Is at e;omega);have a7:=zh ((Hx.out.mono (T:=From w.heap.size) zn).step O (fun b _ h=>by unfold Is at h;unfold From;omega));generalize a9:(c::ir).length=nl at *;clear O I u J a3 Hx
  go_upto_region 4 with(fail)
  generalize y.setCell ⟨o.heap.size,2,none⟩ (.string c)=Wb at *;clear z2 f2 x5 hc;obtain⟨u0,u1,u2,u3⟩:=cl4 a6;obtain⟨b0,b1,b2,b3⟩:=cl4 R;obtain⟨f0,f1,f2,f3⟩:=fl4 R;have N:=set4 R rfl (.string ⟨#[]⟩) (.string ((⟨#[109,100,45]⟩:ByteArray)++g)) (.string c) (.int .i64 rd);have HF:=zh ((a7.out.step N.2 (fun b _ h=>by unfold Is at h;unfold From;omega)).mono (T:=No) (fun b hb h=>by unfold From at h;omega));have D:=zh N.1;clear N
  go_wp2_with fail
  have y0:=zB D.out 0;have y1:=zB D.out 1;have y2:=zB D.out 2;have y3:=zB D.out 3;refine bodyPost_ret (v:=.agg #[.string ⟨#[]⟩,.string ((⟨#[109,100,45]⟩:ByteArray)++g),.string c,.int .i64 rd]) (by simp[results,Tryz.results109,go_sem,y0,y1,y2,y3]) rfl ?_;exact⟨by rw[Z.out];rfl,HF.out⟩
theorem zHd (M:List Vir)(p:ByteArray×ByteArray):∃ v:Vir,(wantG M p).getD zBf=.agg #[.string v.q,.string v.o,.string v.c,.int .i64 v.r]:=by
 unfold wantG;cases hq:M.find? (fun v=>decide ((v.q,v.o)=p))with
 | none=>exact⟨⟨⟨#[]⟩,⟨#[]⟩,⟨#[]⟩,0⟩,rfl⟩
 | some v=>exact⟨v,rfl⟩
theorem zA3 (c:RC)(sa:Option Addr)(sc:Nat)(ma:Option Addr)(mc:Nat)(S:List Src)(M:List Vir)(G:List (ByteArray×ByteArray))(va:Option Addr)(vc:Nat)(V:List Vir)(w:World)(h:RS c w sa sc ma mc S M G)(hv:Virs w va vc V)
  (f8:∀ ad,va=some ad->V≠[]->ad.block≠c.xb/\ad.block≠c.wm/\¬ (Value.slice ma M.length mc).ownBlock=some ad.block) (c9:∀ v∈V,v.q.size<=maxLen/\v.o.size<=maxLen) (hM:M.length+V.length<=100000):
  Calls Tryz.prog 101 #[.pointer (some ⟨c.xb,0,none⟩),.slice va V.length vc] w fun e w'=>e=.returned (.tuple #[])/\
   (∃ f u,RS c w' sa sc f u S (zl M V) G/\(∀ b,(Value.slice f (zl M V).length u).ownBlock=some b->(Value.slice ma M.length mc).ownBlock=some b\/w.heap.size<=b))/\Fr (fun b=>b=c.xb\/b=c.wm\/(Value.slice ma M.length mc).ownBlock=some b) w w':=by
 obtain⟨i0,f9,g2,g3,g4⟩:=info_parts infoV;have i4:=hv.lenmax;have i5:V.length<=100000:=by omega
 have Hh:=zh h;have g5:=zh c9;have d0:=zC h.k;have i6:=zh d0;clear h c9 d0
 go_enter Tryz.func101,Tryz.ntmps101
 go_wp2_with fail
 go_loopw [11] (fun x wr=>∃ (j:Nat) (z:List Vir) (f:Option Addr) (u:Nat),j<=V.length/\x=.int .i64 (j:Int)/\Hid (z=zl M (V.take j))/\RS c wr sa sc f u S z G/\(∀ b,(Value.slice f z.length u).ownBlock=some b->(Value.slice ma M.length mc).ownBlock=some b\/w.heap.size<=b)/\Fr (fun b=>b=c.xb\/b=c.wm\/(Value.slice ma M.length mc).ownBlock=some b) w wr) (fun x _=>V.length-(intOf x).toNat)
 case atStart=>exact⟨0,M,ma,mc,by omega,rfl,rfl,Hh.out,fun b h=>.inl h,Fr.refl _ _⟩
 case round=>
  obtain⟨j,z,f,u,hj,rfl,c4,hR,U,hf⟩:=hrel;by_cases g6:j<V.length
  ·have d2:(j:Int)<V.length:=by omega
   obtain⟨vb,i2,m,rfl,hm,⟨c0,c1,c2,c3⟩,i7⟩:=(hv.fr hf (fun ad e hn hs=>by
    obtain⟨h1,h2,h3⟩:=f8 ad e hn;rcases hs with hs | hs | hs
    ·exact h1 hs
    ·exact h2 hs
    ·exact h3 hs)).elem g6
   have b2:=g5.out m (List.mem_of_getElem? hm);have HN:Hid (zw z m=zl M (V.take (j+1))):=by
    unfold Hid;rw[List.take_add_one,hm,c4.out];exact(zEe _ _ _).symm
   have i8:z.length<=100000:=by
    have h1:=zAd (V.take j) M;rw[<-c4.out,List.length_take]at h1;omega
   obtain⟨W1,N⟩:∃ W1,W1=(wr.alloc (.cells m.vals 94)).alloc (.cells #[.string m.q,.string m.o] 132):=⟨_,rfl⟩
   have d4:Fr No wr W1:=by rw[N];exact((Fr.refl _ _).alloc _).alloc _
   have d1:W1.heap[wr.heap.size]?=some (.cells m.vals 94):=by rw[N];exact((Fr.refl No _).alloc _).heap (zD _ _) id
   have p1:W1.heap[wr.heap.size+1]?=some (.cells #[.string m.q,.string m.o] 132):=by
    rw[N];have:=zD (wr.alloc (.cells m.vals 94)) (.cells #[.string m.q,.string m.o] 132)
    rwa [World.size_alloc]at this
   have s1:W1.heap.size=wr.heap.size+2:=by rw[N];simp
   have b3:=hR.no d4;have d7:=zh b3;have a4:=zh U;have Hf:=zh (hf.step d4 zn);have i9:=zC hR.k;have j0:=hR.wmo.lt;have g7:∀ b,(Value.slice f z.length u).ownBlock=some b->b<wr.heap.size:=fun b L=>zV hR.mo L
   unfold Vir.vals at N;clear hm hR U hf
   go_upto_region 4 with(fail)
   rw[<-N];clear N c0 c1 c2 c3;obtain⟨y,hy⟩:=zHd z (m.q,m.o);have d9:=zGw z m.q m.o;refine zQ (From W1.heap.size) [(0,false),(1,false),(2,false),(3,false),(4,false),(5,false),(6,false),(7,false),(8,false),(9,true),(10,true),(11,false)] (by kernel_rfl) (by kernel_rfl) (fun w0 O=>?_);have k0:=O.heap b3.k id;have q0:=b3.wmo.fr O id;have g8:=O.heap d1 id;have c5:=O.heap p1 id;have Z:∀ g:Gr (From W1.heap.size) w0,g.W.cell? ⟨c.xb,6,none⟩=some (.map (some c.wm)):=fun g=>zB (g.fr.heap k0 (by unfold From;omega)) 6
   have g0:∀ g:Gr (From W1.heap.size) w0,g.W.cell? ⟨wr.heap.size+1,0,none⟩=some (.string m.q):=fun g=>zB (g.fr.heap c5 (by unfold From;omega)) 0
   have g1:∀ g:Gr (From W1.heap.size) w0,g.W.cell? ⟨wr.heap.size+1,1,none⟩=some (.string m.o):=fun g=>zB (g.fr.heap c5 (by unfold From;omega)) 1
   have e4:∀ W,(∃ g:Gr (From W1.heap.size) w0,W=g.W)->(Instr.lookup 80 (.map (some c.wm)) (.agg #[.string m.q,.string m.o]) true).run Tryz.prog W=.ok (.tuple #[.agg #[.string y.q,.string y.o,.string y.c,.int .i64 y.r],.bool (inW z m.q m.o)]) W:=fun W hW=>by
    obtain⟨g,rfl⟩:=hW;have:=(q0.fr g.fr (by unfold From;omega)).lookok (zBo g.W) Tryz.underlying80 b2.1 b2.2;rw[this,hy,d9]
   clear hy d9;have g9:=O.size;clear k0 q0 g8 c5;apply zS rfl rfl rfl;intro K I;go_big_quiet_op;go_big_quiet_on;apply zS rfl rfl rfl;intro K I;go_big_quiet_op;go_big_quiet_on;apply zS rfl rfl rfl;intro K I;go_big_quiet_op;go_big_quiet_on;apply zS rfl rfl rfl;intro K I;go_big_quiet_op;go_big_quiet_on;apply zS rfl rfl rfl;intro K I;go_big_quiet_op;go_big_quiet_on;apply zS rfl rfl rfl;intro K I;refine zAC rfl _ _ 80 rfl (.map (some c.wm)) (.agg #[.string m.q,.string m.o]) _ rfl rfl e4 ?_
   go_frame
   go_big_quiet_on;clear e4;apply zS rfl rfl rfl;intro K I;go_big_quiet_op;go_big_quiet_on;apply zS rfl rfl rfl;intro K I;go_big_quiet_op;go_big_quiet_on;apply zS rfl rfl rfl;intro K I;go_big_quiet_op;go_big_quiet_on;apply zk;exact rfl;obtain⟨D,b4⟩:∃ D,D=w0.alloc (.cells #[.string ⟨#[]⟩,.string ⟨#[]⟩,.string ⟨#[]⟩,.int .i64 0] 94):=⟨_,rfl⟩
   have e5:Fr No w0 D:=by rw[b4];exact(Fr.refl _ _).alloc _
   have q3:D.heap[w0.heap.size]?=some (.cells #[.string ⟨#[]⟩,.string ⟨#[]⟩,.string ⟨#[]⟩,.int .i64 0] 94):=by rw[b4];exact zD _ _
   clear Z g0 g1
   go_wp2_with fail
   refine zp ?_;rw[<-b4];clear b4;apply zk;exact rfl;obtain⟨z0,z1,z2,z3⟩:=cl4 q3;obtain⟨f0,f1,f2,f3⟩:=fl4 q3;have h4:=zh (set4 q3 rfl (.string y.q) (.string y.o) (.string y.c) (.int .i64 y.r));clear q3
   go_wp2_with fail
   refine OnlyN.mk ⟨h4.out.2.mono (fun b _ h=>by unfold Is at h;unfold From;omega),?_⟩;apply zS rfl rfl rfl;intro K I;go_big_quiet_op;go_big_quiet_on;refine zY ?_;have a2:=zh ((O.step e5 zi).step h4.out.2 (T:=Is w0.heap.size) (fun b L h=>by unfold Is at h;omega));clear e5 h4 O z0 z1 z2 z3 f0 f1 f2 f3;generalize ((((D.setCell ⟨w0.heap.size,0,none⟩ (.string y.q)).setCell ⟨w0.heap.size,1,none⟩ (.string y.o)).setCell ⟨w0.heap.size,2,none⟩ (.string y.c)).setCell ⟨w0.heap.size,3,none⟩ (.int .i64 y.r))=w5 at *;have R5:=zh (d7.out.no a2.out);have d5:=a2.out.heap d1 id;have p5:=a2.out.heap p1 id;have e6:=zh (Hf.out.step a2.out zn);have s5:=a2.out.size;clear d1 p1 b3 d7 a2 g9;rcases hin:inW z m.q m.o with _ | _
   ·have h0:Hid (z++[m]=zl M (V.take (j+1))):=by unfold Hid;rw[<-HN.out];unfold zw;rw[if_neg (by rw[hin];decide)]
    have h5:=zh hin;clear hin;have e7:=R5.out
    go_upto_region 6 with(fail)
    refine zQ (Is c.wm) [(0,false),(1,false),(2,false),(3,false),(4,false),(5,false),(6,true)] (by kernel_rfl) (by kernel_rfl) (fun w6 a3=>?_);have A:=e7.no a3;have Z:=a3.heap d5 id;have p6:=a3.heap p5 id;have e8:=zh (e6.out.step a3 zn);have s6:=a3.size;have m6:∀ g:Gr (Is c.wm) w6,g.W.cell? ⟨c.xb,6,none⟩=some (.map (some c.wm)):=fun g=>zB (g.fr.heap A.k (fun h=>A.wmo.ne_cells A.k h)) 6
    have g0:∀ g:Gr (Is c.wm) w6,g.W.cell? ⟨wr.heap.size+1,0,none⟩=some (.string m.q):=fun g=>zB (g.fr.heap p6 (fun h=>A.wmo.ne_cells p6 h)) 0
    have g1:∀ g:Gr (Is c.wm) w6,g.W.cell? ⟨wr.heap.size+1,1,none⟩=some (.string m.o):=fun g=>zB (g.fr.heap p6 (fun h=>A.wmo.ne_cells p6 h)) 1
    have e0:∀ g:Gr (Is c.wm) w6,g.W.cell? ⟨wr.heap.size,0,none⟩=some (.string m.q):=fun g=>zB (g.fr.heap Z (fun h=>A.wmo.ne_cells Z h)) 0
    have e1:∀ g:Gr (Is c.wm) w6,g.W.cell? ⟨wr.heap.size,1,none⟩=some (.string m.o):=fun g=>zB (g.fr.heap Z (fun h=>A.wmo.ne_cells Z h)) 1
    have e2:∀ g:Gr (Is c.wm) w6,g.W.cell? ⟨wr.heap.size,2,none⟩=some (.string m.c):=fun g=>zB (g.fr.heap Z (fun h=>A.wmo.ne_cells Z h)) 2
    have e3:∀ g:Gr (Is c.wm) w6,g.W.cell? ⟨wr.heap.size,3,none⟩=some (.int .i64 m.r):=fun g=>zB (g.fr.heap Z (fun h=>A.wmo.ne_cells Z h)) 3
    apply zS rfl rfl rfl;intro K I;go_big_quiet_op;go_big_quiet_on;apply zS rfl rfl rfl;intro K I;go_big_quiet_op;go_big_quiet_on;apply zS rfl rfl rfl;intro K I;go_big_quiet_op;go_big_quiet_on;apply zS rfl rfl rfl;intro K I;go_big_quiet_op;go_big_quiet_on;apply zS rfl rfl rfl;intro K I;go_big_quiet_op;go_big_quiet_on;apply zS rfl rfl rfl;intro K I;go_big_quiet_op;go_big_quiet_on;clear m6 g0 g1 e0 e1 e2 e3;apply zk;exact rfl
    go_wp2_with (at_mapUpdate;refine zCk rfl _ _ _ 80 94 rfl Tryz.underlying80 c.wm _ z.length (by unfold maxLen;omega) m.q m.o b2.1 b2.2 (.agg #[.string m.q,.string m.o,.string m.c,.int .i64 m.r]) rfl A.wmo rfl rfl ?_;intro w7 e9 J)
    refine zf J ?_;refine zY ?_;have k7:=J.heap A.k (fun h=>A.wmo.ne_cells A.k h);have f4:=zG A.mo J (fun b L h=>by unfold Is at h;subst h;exact A.wmo.ne_own A.mo L);have d8:=J.heap Z (fun h=>A.wmo.ne_cells Z h);have s7:=J.size;have h6:¬ (Value.slice f z.length u).ownBlock=some wr.heap.size:=fun h=>by have:=g7 _ h;omega
    have i3:c.b0<=w7.heap.size:=by have:=A.lo.1;omega
    have a5:Hid (∀ D:World,Fr (fun b=>b=c.xb\/(Value.slice f z.length u).ownBlock=some b) w7 D->∀ (X:World) (av:Option Addr) (cv:Nat),X.heap[c.xb]?=some (.cells (rcs c.ka c.kn c.kc c.wt c.a c.n c.cap c.ca c.C.length c.cc c.ea c.en c.ec sa S.length sc c.wm c.sm av (z.length+1) cv) 83)->
      X.ownsRow c.b0 94 4 (.slice av (z.length+1) cv) (z.length+1) (vflat z++(Vir.vals m).toList)->((Value.slice av (z.length+1) cv).ownBlock=(Value.slice f z.length u).ownBlock\/(Value.slice av (z.length+1) cv).ownBlock=some (D.alloc (.cells (Vir.vals m) 94)).heap.size)->
      Fr (fun b=>b=c.xb\/(Value.slice f z.length u).ownBlock=some b) D X->RS c X sa sc av cv S (z++[m]) G/\(∀ b,(Value.slice av (z++[m]).length cv).ownBlock=some b->(Value.slice ma M.length mc).ownBlock=some b\/w.heap.size<=b)/\Fr (fun b=>b=c.xb\/b=c.wm\/(Value.slice ma M.length mc).ownBlock=some b) w X):=by
     unfold Hid;intro D h3 X av cv hk hx a6 h8;have h7:=h3.step h8 zi;refine⟨A.grow J e9 h5.out h7 hk hx,fun b L=>?_,?_⟩
     ·rw[zJb av _ (z.length+1) cv cv]at L;rcases a6 with a6 | a6
      ·rw[a6]at L;exact a4.out b L
      ·rw[a6]at L;injection L with L
       have h1:=h3.size;have h2:=e8.out.size;rw[World.size_alloc]at L;exact .inr (by omega)
     ·exact(e8.out.step J (fun b L h=>.inr (.inl h))).step h7 (fun b L h=>by
       rcases h with h | h
       ·exact .inl h
       ·rcases a4.out b h with h | h
        ·exact .inr (.inr h)
        ·omega)
    clear e9 J A e7 a3 Z p6 d5 p5
    go_upto_region 7 with(fail)
    refine zb (fun b=>b=c.xb\/(Value.slice f z.length u).ownBlock=some b\/w7.heap.size<=b) (.q 0 (.q 1 (.q 2 (.q 3 (.q 5 (.m2 4 (.m1 6 (.m1 7 (.q 8 (.q 9 (.m1 10 .fin))))) 6 (.m1 4 (.m1 7 (.q 8 (.q 9 (.m1 10 .fin))))))))))) _ (by kernel_rfl) (by kernel_rfl) (fun D a7=>?_) zj;have b5:=a7.heap k7 id;have R:=zG f4 a7 (fun _ _=>id);have b7:=zR R b5 (by decide);have d3:=a7.heap d8 id;have s3:=a7.size;have cB:∀ g:Gr (fun b=>b=c.xb\/(Value.slice f z.length u).ownBlock=some b\/w7.heap.size<=b) D,g.W.heap[wr.heap.size]?=some (.cells (Vir.vals m) 94):=fun g=>g.fr.heap d3 (fun h=>by
     rcases h with h | h | h
     ·omega
     ·exact h6 h
     ·omega)
    have e0:∀ g:Gr (fun b=>b=c.xb\/(Value.slice f z.length u).ownBlock=some b\/w7.heap.size<=b) D,g.W.cell? ⟨wr.heap.size,0,none⟩=some (.string m.q):=fun g=>zB (cB g) 0
    have e1:∀ g:Gr (fun b=>b=c.xb\/(Value.slice f z.length u).ownBlock=some b\/w7.heap.size<=b) D,g.W.cell? ⟨wr.heap.size,1,none⟩=some (.string m.o):=fun g=>zB (cB g) 1
    have e2:∀ g:Gr (fun b=>b=c.xb\/(Value.slice f z.length u).ownBlock=some b\/w7.heap.size<=b) D,g.W.cell? ⟨wr.heap.size,2,none⟩=some (.string m.c):=fun g=>zB (cB g) 2
    have e3:∀ g:Gr (fun b=>b=c.xb\/(Value.slice f z.length u).ownBlock=some b\/w7.heap.size<=b) D,g.W.cell? ⟨wr.heap.size,3,none⟩=some (.int .i64 m.r):=fun g=>zB (cB g) 3
    clear cB d3
    repeat((first|apply zM rfl rfl rfl|apply zO rfl rfl rfl);intro K I;go_big_quiet_op;go_big_quiet_on)
    clear e0 e1 e2 e3;have c3:D.cell? ⟨c.xb,8,none⟩=some (.slice f z.length u):=zB b5 8;refine zv rfl rfl ?_ ?_
    focus
     go_wp2_with fail
     refine zq ?_;apply zH;exact rfl
     go_wp2_with fail
     refine zp ?_;clear c3
    rotate_left 1
    focus
     go_wp2_with fail
     refine zp ?_;apply zH;exact rfl;have c7:∀ o,(D.alloc o).cell? ⟨c.xb,8,none⟩=some (.slice f z.length u):=fun o=>((Fr.refl No D).alloc o).cell c3 id
     clear c3
     go_wp2_with fail
     refine zq ?_;clear c7
    all_goals (
     apply zH;exact rfl
     go_wp2_with (at_builtin;refine wpList_append_own_at _ rfl _ _ 50 rfl c.b0 94 i0 (.agg #[.string ByteArray.empty,.string ByteArray.empty,.string ByteArray.empty,.int .i64 0]) 4 56 Tryz.underlying50 f9 g2 g3 g4 rfl (by decide) _ _ _ rfl (R.alloc _) ⟨D.heap.size,0,none⟩ 1 1 (Vir.vals m).toList rfl rfl (ze _ (Vir.vals m) _ rfl) (zBr _) (by unfold maxLen;omega) (by omega) (by first | omega | (simp;done) | (simp;omega)) ?_;intro v' w4 F Y _ b8;obtain⟨a8,a9,rfl⟩:=zJ F)
     have c6:Fr No D (D.alloc (.cells (Vir.vals m) 94)):=(Fr.refl _ _).alloc _;have b6:Fr (fun b=>(Value.slice f z.length u).ownBlock=some b) (D.alloc (.cells (Vir.vals m) 94)) w4:=Fr.of_grown Y;have k4:=b6.heap (c6.heap b5 id) (fun e=>b7 e);have c3:w4.cell? ⟨c.xb,8,none⟩=some (.slice f z.length u):=zB k4 8;have f3:w4.frozen? ⟨c.xb,8,none⟩=false:=zE k4 8;have b9:=zR F k4 (by decide);refine OnlyN.mk ⟨b6.mono (fun b _ h=>.inr (.inl h)),?_⟩
     repeat((first|apply zM rfl rfl rfl|apply zO rfl rfl rfl);intro K I;go_big_quiet_op;go_big_quiet_on)
     apply zH;exact rfl;have f5:Fr (Is (c.xb)) w4 (w4.setCell ⟨c.xb,8,none⟩ (.slice a8 (z.length+1) a9)):=Fr.setAt (Fr.refl _ _) _;have k5:((w4.setCell ⟨c.xb,8,none⟩ (.slice a8 (z.length+1) a9))).heap[c.xb]?=some (.cells (rcs c.ka c.kn c.kc c.wt c.a c.n c.cap c.ca c.C.length c.cc c.ea c.en c.ec sa S.length sc c.wm c.sm a8 (z.length+1) a9) 83):=zF k4 8 _;have b1:=zG F f5 (fun b L h=>by unfold Is at h;subst h;exact b9 L);have f6:Fr (fun b=>b=c.xb\/(Value.slice f z.length u).ownBlock=some b) D (w4.setCell ⟨c.xb,8,none⟩ (.slice a8 (z.length+1) a9)):=((c6.mono zn).step b6 (fun b _ h=>.inr h)).step f5 (fun b _ h=>.inl h);have HR:=zh (And.intro k5 (And.intro b1 f6));have h9:=zh b8;clear F Y b6 k4 f5 k5 b1 f6 b9 c6 b8
     go_wp2_with fail
     refine OnlyN.mk ⟨Fr.setCell (Fr.refl _ _) (fun _=>.inl rfl) _,?_⟩;refine zX ?_;clear R b5 b7;have f7:=a5.out _ (a7.mono zn) _ _ _ HR.out.1 HR.out.2.1 h9.out HR.out.2.2;have c8:=zh f7;clear f7 a5
     go_wp2_with fail
     go_roundw
     case rel=>exact⟨j+1,z++[m],a8,a9,by omega,by go_num,h0,c8.out.1,c8.out.2.1,c8.out.2.2⟩
     case measure=>simp[intOf];omega
     )
   ·have i1:Hid (z=zl M (V.take (j+1))):=by unfold Hid;rw[<-HN.out];unfold zw;rw[if_pos hin]
    clear hin
    go_wp2_with fail
    go_roundw
    case rel=>exact⟨j+1,z,f,u,by omega,by go_num,i1,R5.out,a4.out,e6.out⟩
    case measure=>simp[intOf];omega
  ·obtain rfl:j=V.length:=by omega
   have d2:¬ (V.length:Int)<V.length:=by omega
   have HE:Hid (z=zl M V):=by unfold Hid;rw[c4.out,List.take_length]
   have hr:=HE.out;have H:=zh (And.intro hR (And.intro U hf));clear hR U hf
   go_wp2_with fail
   go_end0
   rw[<-HE.out];exact⟨rfl,⟨f,u,H.out.1,H.out.2.1⟩,H.out.2.2⟩
end Go.Proofs.YtinfjnndbfahhaaGreatDoor
