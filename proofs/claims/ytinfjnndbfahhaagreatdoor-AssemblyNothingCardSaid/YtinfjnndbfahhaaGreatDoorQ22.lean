import Derived.Test.YtinfjnndbfahhaaGreatDoorQ21
namespace Go.Proofs.YtinfjnndbfahhaaGreatDoor
open Go.RowKit Go.Maps
set_option linter.unusedVariables false
set_option maxRecDepth 100000
set_option maxHeartbeats 4000000
theorem CAt.inAt {w:World}{X:Nat->Prop}{o:Array Value}{k s t e:Int}{i l:ByteArray}{n:List Ct}(h:CAt w X o (.mk k i l s t e n)):∃ a f,o=#[.int .i64 k,.string i,.string l,.int .i64 s,.int .i64 t,.int .i64 e,.slice a n.length f]/\InAt w X a f n:=by
 generalize q:Ct.mk k i l s t e n=c at h;cases h with
 | mk D F l' I J L N a f g u v y z A C=>
  injection q with e1 e2 e3 e4 e5 e6 e7
  subst e1;subst e2;subst e3;subst e4;subst e5;subst e6;subst e7;exact⟨a,f,rfl,u,v,y,g,z,A,C⟩
structure CtAt (w:World)(b o:Nat)(k:Int)(i l:ByteArray)(s t e:Int)(v:Value):Prop where
 c0:w.cell? ⟨b,o,none⟩=some (.int .i64 k)
 c1:w.cell? ⟨b,o+1,none⟩=some (.string i)
 c2:w.cell? ⟨b,o+2,none⟩=some (.string l)
 c3:w.cell? ⟨b,o+3,none⟩=some (.int .i64 s)
 c4:w.cell? ⟨b,o+4,none⟩=some (.int .i64 t)
 c5:w.cell? ⟨b,o+5,none⟩=some (.int .i64 e)
 c6:w.cell? ⟨b,o+6,none⟩=some v
theorem InAt.at {w:World}{X:Nat->Prop}{a:Option Addr}{v j:Nat}{cs:List Ct}(h:InAt w X a v cs){k s t e:Int}{i l:ByteArray}{n:List Ct}(q:cs[j]?=some (.mk k i l s t e n)):
  ∃ b g u f,a=some ⟨b,g,none⟩/\b<w.heap.size/\X b/\CtAt w b (g+j*7) k i l s t e (.slice u n.length f)/\InAt w X u f n:=by
 cases a with
 | none=>rw[(h.isNil rfl).1]at q;simp at q
 | some y=>
  obtain⟨N,F,I,J⟩:=h.el;obtain⟨A,C,D⟩:=F y rfl (fun e=>by rw[e]at q;simp at q);obtain⟨u,f,L,z⟩:=(J j _ q).inAt;have o:=I y j _ rfl q;rw[L]at o;obtain⟨b,g,O⟩:=y;simp only at A C D o;subst A;exact⟨b,g,u,f,rfl,C,D,⟨o 0 (by omega),o 1 (by omega),o 2 (by omega),o 3 (by omega),o 4 (by omega),o 5 (by omega),o 6 (by omega)⟩,z⟩
theorem zFp {n:List Ct}{j:Nat}{d:Ct}(h:n[j]?=some d):Ct.depths (n.take (j+1))=max (Ct.depths (n.take j)) d.depth:=by
 rw[List.take_add_one,h];exact zDH _ _
theorem zFB {n:List Ct}(j:Nat):Ct.depths (n.take j)<=Ct.counts n:=by
 have g:=zBB (n.take j);have f:=zAO (n.take j) (n.drop j);rw[List.take_append_drop]at f;omega
theorem zIr (m:Nat):m<=10000->∀ (k s t e:Int) (i l:ByteArray) (n:List Ct) (a:Option Addr) (f:Nat) (w:World) (X:Nat->Prop),Ct.counts n<m->InAt w X a f n->
  Calls Tryz.prog 275 #[.agg #[.int .i64 k,.string i,.string l,.int .i64 s,.int .i64 t,.int .i64 e,.slice a n.length f]] w fun en Y=>en=.returned (.int .i64 ((Ct.mk k i l s t e n).depth:Int))/\Fr No w Y:=by
 induction m with
 | zero=>intro _ k s t e i l n a f w X h;omega
 | succ m Z=>
  intro hm k s t e i l n a f w X a3 z;have a4:=zAP n;have I:Fr No w (w.alloc (.cells #[.int .i64 k,.string i,.string l,.int .i64 s,.int .i64 t,.int .i64 e,.slice a n.length f] 223)):=(Fr.refl _ _).alloc _;have q1:=zD w (.cells #[.int .i64 k,.string i,.string l,.int .i64 s,.int .i64 t,.int .i64 e,.slice a n.length f] 223);obtain⟨L,y⟩:∃ L,L=w.alloc (.cells #[.int .i64 k,.string i,.string l,.int .i64 s,.int .i64 t,.int .i64 e,.slice a n.length f] 223):=⟨_,rfl⟩
  rw[<-y]at I q1;have A:=z.fr I (fun _ _=>id);obtain⟨c0,-,-,-,-,-,c6⟩:=cl7 q1;have Ih:=zh (Z (by omega));have H0:=zh I;clear Z z I
  go_enter Tryz.func275,Tryz.ntmps275
  go_wp2_with fail
  rw[<-y];clear y
  go_wp2_with fail
  go_loopw [3,9] (fun v i wr=>∃ (j:Nat),j<=n.length/\v=.int .i64 ((Ct.depths (n.take j):Nat):Int)/\i=.int .i64 (j:Int)/\Fr No L wr) (fun _ i _=>n.length-(intOf i).toNat)
  case atStart=>exact⟨0,by omega,by simp[Ct.depths],rfl,Fr.refl _ _⟩
  case round=>
   obtain⟨j,hj,rfl,rfl,g⟩:=hrel;have N:=zFB (n:=n) j;by_cases O:j<n.length
   ·have C:(j:Int)<n.length:=by omega
    obtain⟨d,J⟩:∃ d,n[j]?=some d:=⟨_,List.getElem?_eq_getElem O⟩
    have R:=zAw (List.mem_of_getElem? J);have D:=zFp J;have a2:=zFB (n:=n) (j+1);obtain⟨k1,i1,l1,s1,t1,e1,n1⟩:=d;rw[Ct.count]at R;obtain⟨b,a5,a',q,rfl,hb,hX,⟨y0,y1,y2,y3,y4,y5,y6⟩,u⟩:=(A.fr g (fun _ _=>id)).at J;have U:=zh D;clear D J
    go_wp2_with fail
    have V:Fr No wr (wr.alloc (.cells #[.int .i64 k1,.string i1,.string l1,.int .i64 s1,.int .i64 t1,.int .i64 e1,.slice a' n1.length q] 223)):=(Fr.refl _ _).alloc _;refine(Ih.out k1 s1 t1 e1 i1 l1 n1 a' q _ X (by omega) (u.fr V (fun _ _=>id))).mono ?_;rintro e Y ⟨rfl,F⟩;have o:=zh ((g.step V zi).step F zi);clear V F g y0 y1 y2 y3 y4 y5 y6 u
    go_wp2_with fail
    go_roundw
    case rel=>exact⟨j+1,by omega,by rw[U.out];congr 1;omega,by go_num,o.out⟩
    case measure=>simp[intOf];omega
   ·have C:¬ (j:Int)<n.length:=by omega
    obtain rfl:j=n.length:=by omega
    rw[List.take_length]at N ⊢;have a6:wr.cell? ⟨w.heap.size,0,none⟩=some (.int .i64 k):=g.cell c0 id;have o:=zh (H0.out.trans g zi zi);clear g;by_cases hk:k=0
    ·subst hk
     go_wp2_with fail
     go_ret;exact⟨by rw[Ct.depth,if_pos rfl];rfl,o.out⟩
    ·go_wp2_with fail
     go_ret;exact⟨by rw[Ct.depth,if_neg hk];rfl,o.out⟩
theorem zLX {w:World}{X:Nat->Prop}{g:Array Value}{c:Ct}(h:CAt w X g c)(o:c.count<=10000):
  Calls Tryz.prog 275 #[.agg g] w fun q u=>q=.returned (.int .i64 (c.depth:Int))/\Fr No w u:=by
 obtain⟨k,i,l,s,t,e,n⟩:=c;obtain⟨a,f,rfl,v⟩:=h.inAt;exact zIr _ o k s t e i l n a f w X (by rw[Ct.count];omega) v
theorem set7 {W:World}{b:Nat}{cs:Array Value}{T:TypeId}(h:W.heap[b]?=some (.cells cs T))(A:cs.size=7)(f g o q u v y:Value):
  (((((((W.setCell ⟨b,0,none⟩ f).setCell ⟨b,1,none⟩ g).setCell ⟨b,2,none⟩ o).setCell ⟨b,3,none⟩ q).setCell ⟨b,4,none⟩ u).setCell ⟨b,5,none⟩ v).setCell ⟨b,6,none⟩ y).heap[b]?=some (.cells #[f,g,o,q,u,v,y] T)/\Fr (Is b) W (((((((W.setCell ⟨b,0,none⟩ f).setCell ⟨b,1,none⟩ g).setCell ⟨b,2,none⟩ o).setCell ⟨b,3,none⟩ q).setCell ⟨b,4,none⟩ u).setCell ⟨b,5,none⟩ v).setCell ⟨b,6,none⟩ y):=by
 refine⟨?_,Fr.setAt (Fr.setAt (Fr.setAt (Fr.setAt (Fr.setAt (Fr.setAt (Fr.setAt (Fr.refl _ _) _) _) _) _) _) _) _⟩;obtain⟨l⟩:=cs
 match l,A with
 | [_,_,_,_,_,_,_],_=>
  have C:=zF h 0 f;have D:=zF C 1 g;have F:=zF D 2 o;have I:=zF F 3 q;have J:=zF I 4 u;have L:=zF J 5 v;have z:=zF L 6 y;simp only[List.setIfInBounds_toArray,List.set_cons_zero,List.set_cons_succ]at z;exact z
theorem zCO {l:List UInt8}(h:∀ x∈l,x.toNat<128):Ascii ⟨l.toArray⟩:=fun j b f=>h b (by
 have g:b∈(⟨l.toArray⟩:ByteArray).data.toList:=List.mem_of_getElem? f
 simpa using g)
theorem asc1 : Ascii ⟨#[58,44,41]⟩:=zCO (l:=[58,44,41]) (by decide)
theorem asc2 : Ascii ⟨#[58,40,44,41]⟩:=zCO (l:=[58,40,44,41]) (by decide)
theorem asc3 : Ascii ⟨#[44,41]⟩:=zCO (l:=[44,41]) (by decide)
theorem zED (e r:List UInt8):(past e r).length<=r.length:=by
 have:=congrArg List.length (zAM e r);rw[List.length_append]at this;omega
theorem zMR (l:List UInt8):∃ b:ByteArray,b=⟨l.toArray⟩/\b.data.toList=l:=⟨_,rfl,rfl⟩
theorem zIw {b:ByteArray}{l m:List UInt8}(h:b.data.toList=l):(b.toList==m)=decide (l=m):=by
 rw[ByteArray.toList_eq,h,Bool.eq_iff_iff,beq_iff_eq,decide_eq_true_iff]
def pKind (n:Nat)(kd:List UInt8)(id:ByteArray)(r3:List UInt8):Option (Ct×List UInt8):=
 if kd=[102,115]then
  (zU 58 r3).bind fun r4=>some (.mk 1 id ⟨(upto [44,41] r4).toArray⟩ 0 0 0 [],past [44,41] r4)
 else if kd=[114,97,105,100]then
  (zU 58 r3).bind fun r4=>(pNum r4).bind fun p5=>(zU 47 p5.2).bind fun r6=>(pNum r6).bind fun p7=>(zU 47 p7.2).bind fun r8=>(pNum r8).bind fun p9=>
   (zU 40 p9.2).bind fun ra=>(pL n [] ra).bind fun pb=>some (.mk 2 id ⟨#[]⟩ p5.1 p7.1 p9.1 pb.1,pb.2)
 else if kd=[99,114,121,112,116]then
  (zU 40 r3).bind fun ra=>(pL n [] ra).bind fun pb=>some (.mk 3 id ⟨#[]⟩ 0 0 0 pb.1,pb.2)
 else if kd=[112,118]then
  (zU 58 r3).bind fun r4=>(pNum r4).bind fun p5=>(zU 47 p5.2).bind fun r6=>(pNum r6).bind fun p7=>
   (zU 40 p7.2).bind fun ra=>(pL n [] ra).bind fun pb=>some (.mk 4 id ⟨#[]⟩ p5.1 p7.1 0 pb.1,pb.2)
 else if kd=[116,97,98,108,101]then
  (zU 40 r3).bind fun ra=>(pL n [] ra).bind fun pb=>some (.mk 5 id ⟨#[]⟩ 0 0 0 pb.1,pb.2)
 else none
theorem zMN (n:Nat)(r:List UInt8):pC (n+1) r=if upto [58,44,41] r=[]then some (Ct.zero,r)else (zU 58 (past [58,44,41] r)).bind fun f=>pKind n (upto [58,44,41] r) ⟨(upto [58,40,44,41] f).toArray⟩ (past [58,40,44,41] f):=by
 rw[pC];rfl
def StX (X:Option (Ct×List UInt8))(b:Bool)(R:Option (Ct×List UInt8)):Prop:=(b=true->X=none)/\(b=false->X=R)
theorem StX.want {X:Option (Ct×List UInt8)}{b:Bool}{x:UInt8}{r:List UInt8}{G:List UInt8->Option (Ct×List UInt8)}(h:StX X b ((zU x r).bind G)):StX X (b||(zU x r).isNone) (G ((zU x r).getD r)):=by
 cases b with
 | true=>exact⟨fun _=>h.1 rfl,(fun f=>by cases f)⟩
 | false=>
  have g:=h.2 rfl;cases f:zU x r with
  | none=>rw[f]at g;exact⟨(fun _=>g),(fun o=>by cases o)⟩
  | some t=>rw[f]at g;exact⟨(fun o=>by cases o),(fun _=>g)⟩
theorem StX.num {X:Option (Ct×List UInt8)}{b u:Bool}{r r':List UInt8}{n:Int}{G:Int×List UInt8->Option (Ct×List UInt8)}(h:StX X b ((pNum r).bind G))(v:NumIs r r' b u n):StX X u (G (n,r')):=by
 cases b with
 | true=>exact⟨fun _=>h.1 rfl,fun f=>by rw[v.1 rfl]at f;cases f⟩
 | false=>
  have o:=h.2 rfl;rcases v.2 rfl with⟨f,q⟩ | ⟨f,q⟩
  ·rw[f]at o;exact⟨(fun _=>o),(fun g=>by rw[q]at g;cases g)⟩
  ·rw[f]at o;exact⟨(fun g=>by rw[q]at g;cases g),(fun _=>o)⟩
theorem zIs (n:Nat):PSpec n:=by
 induction n using Nat.strongRecOn with
 | ind n ih=>
 intro A s r w hr hc hs hE q;obtain⟨n,rfl⟩:∃ m,n=m+1:=⟨n-1,by omega⟩
 have t9:=zLV n (fun k hk=>ih k (by omega));have o1:=zMN n r;have y9:=hc.lt;have hx:Fr No w (w.alloc (.cells #[.int .i64 0,.string ⟨#[]⟩,.string ⟨#[]⟩,.int .i64 0,.int .i64 0,.int .i64 0,.slice none 0 0] 223)):=(Fr.refl _ _).alloc _;have q2:=zD w (.cells #[.int .i64 0,.string ⟨#[]⟩,.string ⟨#[]⟩,.int .i64 0,.int .i64 0,.int .i64 0,.slice none 0 0] 223);have o2:=hE.no hx;have o3:=hc.no hx;have z7:(w.alloc (.cells #[.int .i64 0,.string ⟨#[]⟩,.string ⟨#[]⟩,.int .i64 0,.int .i64 0,.int .i64 0,.slice none 0 0] 223)).heap.size=w.heap.size+1:=by simp
 go_enter Tryz.func241,Tryz.ntmps241
 go_wp2_with fail
 generalize w.alloc (.cells #[.int .i64 0,.string ⟨#[]⟩,.string ⟨#[]⟩,.int .i64 0,.int .i64 0,.int .i64 0,.slice none 0 0] 223)=W0 at *;clear ih hc hE;refine(zEX A s ⟨#[58,44,41]⟩ r false _ o3 asc1 (by omega) (by decide)).mono ?_;rintro e w1 ⟨rfl,g8,h6⟩;have z8:=h6.size;have h8:=h6.heap q2 (fun h=>by unfold Is at h;omega);have o4:=o2.fr h6 (fun b J h=>by unfold Is at h;omega);have o5:=zh (hx.mono (T:=Is A) zn |>.step h6 zi);have o6:(⟨#[58,44,41]⟩:ByteArray).data.toList=[58,44,41]:=rfl;rw[o6]at g8 ⊢;have l0:=zAM [58,44,41] r;have u1:=zh l0;have z9:=zED [58,44,41] r;have l9:upto [58,44,41] r=[]->past [58,44,41] r=r:=fun h=>by rw[h]at l0;simpa using l0
 have o7:=zh l9;generalize upto [58,44,41] r=kd at *;generalize past [58,44,41] r=r1 at *;obtain⟨kb,o8,n1⟩:=zMR kd;rw[<-o8];have l1:kb.toList.isEmpty=decide (kd=[]):=by
  rw[ByteArray.toList_eq,n1];cases kd<;>simp
 have o9:=zh o1;have i0:=zh n1;clear hx h6 o3 o2 q2 o6 l0 l9 o8 o1 n1;by_cases g9:kd=[]
 ·have he:kb.toList.isEmpty=true:=by rw[l1];simp[g9]
  have h7:=set7 h8 rfl (.int .i64 0) (.string ⟨#[]⟩) (.string ⟨#[]⟩) (.int .i64 0) (.int .i64 0) (.int .i64 0) (.slice none 0 0);have p0:r1=r:=o7.out g9;have d7:Hid (CtRes w A s r (n+1) (.returned (.agg #[.int .i64 0,.string ⟨#[]⟩,.string ⟨#[]⟩,.int .i64 0,.int .i64 0,.int .i64 0,.slice none 0 0])) (((((((w1.setCell ⟨w.heap.size,0,none⟩ (.int .i64 0)).setCell ⟨w.heap.size,1,none⟩ (.string ⟨#[]⟩)).setCell ⟨w.heap.size,2,none⟩ (.string ⟨#[]⟩)).setCell ⟨w.heap.size,3,none⟩ (.int .i64 0)).setCell ⟨w.heap.size,4,none⟩ (.int .i64 0)).setCell ⟨w.heap.size,5,none⟩ (.int .i64 0)).setCell ⟨w.heap.size,6,none⟩ (.slice none 0 0))):=by
   refine⟨0,⟨#[]⟩,⟨#[]⟩,0,0,0,none,0,0,r,false,rfl,Nat.le_refl _,?_,o5.out.step h7.2 (fun b J h=>by unfold Is at h;omega),.inr ⟨rfl,Ct.zero,?_,?_⟩⟩
   ·rw[p0]at g8;exact g8.fr h7.2 (fun h=>by unfold Is at h;omega)
   ·rw[o9.out,if_pos g9]
   ·exact CAt.of_in (InAt.nil _ _) 0 ⟨#[]⟩ ⟨#[]⟩ 0 0 0
  have Hq:=zh h7.1;obtain⟨z0,z1,z2,z3,z4,z5,z6⟩:=cl7 h8;obtain⟨f0,f1,f2,f3,f4,f5,f6⟩:=fl7 h8;clear g8 h7 l1 p0
  go_wp2_with fail
  have y0:=zB Hq.out 0;have y1:=zB Hq.out 1;have y2:=zB Hq.out 2;have y3:=zB Hq.out 3;have y4:=zB Hq.out 4;have y5:=zB Hq.out 5;have y6:=zB Hq.out 6;refine bodyPost_ret (v:=.agg #[.int .i64 0,.string ⟨#[]⟩,.string ⟨#[]⟩,.int .i64 0,.int .i64 0,.int .i64 0,.slice none 0 0]) (by simp[results,Tryz.results241,go_sem,y0,y1,y2,y3,y4,y5,y6]) rfl ?_;exact d7.out
 have he:kb.toList.isEmpty=false:=by rw[l1];simp[g9]
 have A0:1<=kd.length:=by
  rcases hkk:kd with _ | ⟨x,t⟩
  ·exact absurd hkk g9
  ·simp
 have x3:r1.length+1<=r.length:=by have:=congrArg List.length u1.out;rw[List.length_append]at this;omega
 clear l1
 go_wp2_with fail
 refine(zB5 A s 58 r1 false _ g8 (by omega)).mono ?_;rintro e w2 ⟨rfl,n2,i1⟩;have p1:=zAY (b:=58) r1;have A1:=i1.size;have p3:=i1.heap h8 (fun h=>by unfold Is at h;omega);have p6:=o4.fr i1 (fun b J h=>by unfold Is at h;omega);have u3:=zh (o5.out.step i1 zi);obtain⟨r2,l2⟩:∃ r2,r2=(zU 58 r1).getD r1:=⟨_,rfl⟩
 obtain⟨b2,n3⟩:∃ b2,b2=(false||(zU 58 r1).isNone):=⟨_,rfl⟩
 rw[<-l2,<-n3]at n2;rw[<-l2]at p1;have u4:=zh l2;have u5:=zh n3;clear l2 n3 i1 g8 o4 h8
 go_wp2_with fail
 refine(zEX A s ⟨#[58,40,44,41]⟩ r2 b2 _ n2 asc2 (by omega) (by decide)).mono ?_;rintro e f ⟨rfl,i2,i3⟩;have A2:=i3.size;have p8:=i3.heap p3 (fun h=>by unfold Is at h;omega);have q0:=p6.fr i3 (fun b J h=>by unfold Is at h;omega);have u6:=zh (u3.out.step i3 zi);have u7:(⟨#[58,40,44,41]⟩:ByteArray).data.toList=[58,40,44,41]:=rfl;rw[u7]at i2 ⊢;have u8:=zED [58,40,44,41] r2;obtain⟨g,n4⟩:∃ g,g=(⟨(upto [58,40,44,41] r2).toArray⟩:ByteArray):=⟨_,rfl⟩
 obtain⟨V,n5⟩:∃ V,V=past [58,40,44,41] r2:=⟨_,rfl⟩
 rw[<-n4];rw[<-n5]at i2 u8;have q1:=zh n4;have u9:=zh n5;have hX:StX (pC (n+1) r) b2 (pKind n kd g V):=by
  rw[o9.out,if_neg g9,q1.out,u9.out,u4.out,u5.out];cases h2:zU 58 r1 with
  | none=>exact⟨(fun _=>rfl),(fun h=>by cases h)⟩
  | some t=>exact⟨(fun h=>by cases h),(fun _=>rfl)⟩
 have HX:=zh hX;have hy:Fr No f (f.alloc (.cells #[.int .i64 0,.string g,.string ⟨#[]⟩,.int .i64 0,.int .i64 0,.int .i64 0,.slice none 0 0] 223)):=(Fr.refl _ _).alloc _;have c4:=hy.heap p8 (fun h=>h);have q4:=zD f (.cells #[.int .i64 0,.string g,.string ⟨#[]⟩,.int .i64 0,.int .i64 0,.int .i64 0,.slice none 0 0] 223);have c5:=i2.no hy;have c6:=q0.no hy;have h0:=zh (u6.out.step hy zn);have A3:(f.alloc (.cells #[.int .i64 0,.string g,.string ⟨#[]⟩,.int .i64 0,.int .i64 0,.int .i64 0,.slice none 0 0] 223)).heap.size=f.heap.size+1:=by simp
 have A4:=i2.le;clear n4 n5 hX i3 n2 p6 p3 i2 q0 p8 hy
 go_upto_region 6 with(fail)
 generalize f.alloc (.cells #[.int .i64 0,.string g,.string ⟨#[]⟩,.int .i64 0,.int .i64 0,.int .i64 0,.slice none 0 0] 223)=W4 at *;have k1:=zIw (m:=[102,115]) i0.out;have k2:=zIw (m:=[114,97,105,100]) i0.out;have k3:=zIw (m:=[99,114,121,112,116]) i0.out;have k4:=zIw (m:=[112,118]) i0.out;have k5:=zIw (m:=[116,97,98,108,101]) i0.out;have K1:=zh k1;have K2:=zh k2;have K3:=zh k3;have K4:=zh k4;have K5:=zh k5;have x4:w.heap.size+1<=f.heap.size:=by omega
 clear k1 k2 k3 k4 k5 he
 go_cut [19] (fun v wc=>v=.string kb/\W4=wc)
 case first=>
  go_wp2_with fail
  go_meet
  exact⟨rfl,rfl⟩
 obtain⟨rfl,rfl⟩:=hcut;rename_i hK;refine hK _ _ ?_
 go_cut [3] (fun v wc=>v=.string kb/\∃ (k sl t e:Int) (rI:List UInt8) (bI:Bool),wc.heap[f.heap.size]?=some (.cells #[.int .i64 k,.string g,.string ⟨#[]⟩,.int .i64 sl,.int .i64 t,.int .i64 e,.slice none 0 0] 223)/\wc.heap[w.heap.size]?=some (.cells #[.int .i64 0,.string ⟨#[]⟩,.string ⟨#[]⟩,.int .i64 0,.int .i64 0,.int .i64 0,.slice none 0 0] 223)/\Cur wc A s rI bI/\rI.length<=V.length/\Fr (Is A) w wc/\Env wc/\W4.heap.size<=wc.heap.size/\Hid (StX (pC (n+1) r) bI ((zU 40 rI).bind fun ra=>(pL n [] ra).bind fun A=>some (.mk k g ⟨#[]⟩ sl t e A.1,A.2))))
 case first=>
  rcases h1:(kb.toList==[102,115])with _ | _
  ·rcases h2:(kb.toList==[114,97,105,100])with _ | _
   ·rcases h3:(kb.toList==[99,114,121,112,116])with _ | _
    ·rcases h4:(kb.toList==[112,118])with _ | _
     ·rcases h5:(kb.toList==[116,97,98,108,101])with _ | _
      ·have o:Hid (StX (pC (n+1) r) b2 none):=by
        have h:=HX.out;unfold pKind at h;rw[if_neg (show ¬ kd=[102,115]from fun e=>by have q:=K1.out;rw[h1,e]at q;simp at q)]at h;rw[if_neg (show ¬ kd=[114,97,105,100]from fun e=>by have q:=K2.out;rw[h2,e]at q;simp at q)]at h;rw[if_neg (show ¬ kd=[99,114,121,112,116]from fun e=>by have q:=K3.out;rw[h3,e]at q;simp at q)]at h;rw[if_neg (show ¬ kd=[112,118]from fun e=>by have q:=K4.out;rw[h4,e]at q;simp at q)]at h;rw[if_neg (show ¬ kd=[116,97,98,108,101]from fun e=>by have q:=K5.out;rw[h5,e]at q;simp at q)]at h;exact h
       obtain⟨v1,l3,v3,v4⟩:=c5.blk;have u2:W4.cell? ⟨A,2,none⟩=some (.bool b2):=zB l3 2;have v2:W4.frozen? ⟨A,2,none⟩=false:=zE l3 2;have hg:Fr (Is A) W4 (W4.setCell ⟨A,2,none⟩ (.bool true)):=Fr.setAt (Fr.refl _ _) _;have i4:Cur (W4.setCell ⟨A,2,none⟩ (.bool true)) A s V true:=⟨⟨v1,by rw[zF l3];rfl,v3,v4⟩⟩
       have i5:=hg.heap q4 (fun h=>by unfold Is at h;omega);have i6:=hg.heap c4 (fun h=>by unfold Is at h;omega);have i7:=c6.fr hg (fun b J h=>by unfold Is at h;omega);have i8:=zh (h0.out.step hg zi);have q3:=hg.size;have v5:Hid (StX (pC (n+1) r) true ((zU 40 V).bind fun ra=>(pL n [] ra).bind fun A=>some (.mk 0 g ⟨#[]⟩ 0 0 0 A.1,A.2))):=by
        refine⟨(fun _=>?_),(fun h=>by cases h)⟩;cases b2 with
        | true=>exact o.out.1 rfl
        | false=>exact o.out.2 rfl
       clear hg l3 c5 c6 q4 c4
       go_wp2_with fail
       go_meet
       exact⟨rfl,0,0,0,0,V,true,i5,i6,i4,by omega,i8.out,i7,by omega,v5⟩
      ·have o:Hid (StX (pC (n+1) r) b2 ((zU 40 V).bind fun ra=>(pL n [] ra).bind fun A=>some (.mk 5 g ⟨#[]⟩ 0 0 0 A.1,A.2))):=by
        have h:=HX.out;unfold pKind at h;rw[if_neg (show ¬ kd=[102,115]from fun e=>by have q:=K1.out;rw[h1,e]at q;simp at q)]at h;rw[if_neg (show ¬ kd=[114,97,105,100]from fun e=>by have q:=K2.out;rw[h2,e]at q;simp at q)]at h;rw[if_neg (show ¬ kd=[99,114,121,112,116]from fun e=>by have q:=K3.out;rw[h3,e]at q;simp at q)]at h;rw[if_neg (show ¬ kd=[112,118]from fun e=>by have q:=K4.out;rw[h4,e]at q;simp at q)]at h;rw[if_pos (show kd=[116,97,98,108,101]from by have q:=K5.out;rw[h5]at q;exact of_decide_eq_true q.symm)]at h;exact h
       have hg:Fr (Is f.heap.size) W4 (W4.setCell ⟨f.heap.size,0,none⟩ (.int .i64 5)):=Fr.setAt (Fr.refl _ _) _;have i5:(W4.setCell ⟨f.heap.size,0,none⟩ (.int .i64 5)).heap[f.heap.size]?=some (.cells #[.int .i64 5,.string g,.string ⟨#[]⟩,.int .i64 0,.int .i64 0,.int .i64 0,.slice none 0 0] 223):=(zF q4 0 _).trans rfl;have i6:=hg.heap c4 (fun h=>by unfold Is at h;omega);have i4:=c5.fr hg (fun h=>by unfold Is at h;omega);have i7:=c6.fr hg (fun b J h=>by unfold Is at h;omega);have i8:=zh (h0.out.step hg (fun b J h=>by unfold Is at h;omega));have q3:=hg.size;have u0:W4.cell? ⟨f.heap.size,0,none⟩=some (.int .i64 0):=zB q4 0;have v0:W4.frozen? ⟨f.heap.size,0,none⟩=false:=zE q4 0;clear hg c5 c6 q4 c4
       go_wp2_with fail
       go_meet
       exact⟨rfl,5,0,0,0,V,b2,i5,i6,i4,by omega,i8.out,i7,by omega,o⟩
     ·have o:Hid (StX (pC (n+1) r) b2 ((zU 58 V).bind fun r4=>(pNum r4).bind fun p5=>(zU 47 p5.2).bind fun r6=>(pNum r6).bind fun p7=>(zU 40 p7.2).bind fun ra=>(pL n [] ra).bind fun A=>some (.mk 4 g ⟨#[]⟩ p5.1 p7.1 0 A.1,A.2))):=by
       have h:=HX.out;unfold pKind at h;rw[if_neg (show ¬ kd=[102,115]from fun e=>by have q:=K1.out;rw[h1,e]at q;simp at q)]at h;rw[if_neg (show ¬ kd=[114,97,105,100]from fun e=>by have q:=K2.out;rw[h2,e]at q;simp at q)]at h;rw[if_neg (show ¬ kd=[99,114,121,112,116]from fun e=>by have q:=K3.out;rw[h3,e]at q;simp at q)]at h;rw[if_pos (show kd=[112,118]from by have q:=K4.out;rw[h4]at q;exact of_decide_eq_true q.symm)]at h;exact h
      go_wp2_with fail
      refine(zB5 A s 58 V b2 _ c5 (by omega)).mono ?_;rintro q5 q6 ⟨rfl,L,u⟩;have d8:=zAY (b:=58) V;have m0:=u.size;have b9:=u.heap q4 (fun h=>by unfold Is at h;omega);have c2:=u.heap c4 (fun h=>by unfold Is at h;omega);have X:=c6.fr u (fun b J h=>by unfold Is at h;omega);have d9:=zh (h0.out.step u zi);have N:=StX.want o.out;obtain⟨Y,O⟩:∃ Y,Y=(zU 58 V).getD V:=⟨_,rfl⟩
      obtain⟨b8,c3⟩:∃ b8,b8=(b2||(zU 58 V).isNone):=⟨_,rfl⟩
      rw[<-O,<-c3]at L N;rw[<-O]at d8;have o:=zh N;clear O c3 u N c5 c6 q4 c4
      go_wp2_with fail
      refine(zB6 A s Y b8 _ L hs X q).mono ?_;rintro q7 R ⟨Z,c8,i9,rfl,q8,a7,e0,y⟩;have m1:=y.size;have a8:=y.heap b9 (fun h=>by unfold Is at h;omega);have e1:=y.heap c2 (fun h=>by unfold Is at h;omega);have o:=zh (StX.num o.out e0);have C:Fr (Is f.heap.size) R ((R.setCell ⟨f.heap.size,0,none⟩ (.int .i64 4)).setCell ⟨f.heap.size,3,none⟩ (.int .i64 Z)):=Fr.setAt (Fr.setAt (Fr.refl _ _) _) _;have e2:((R.setCell ⟨f.heap.size,0,none⟩ (.int .i64 4)).setCell ⟨f.heap.size,3,none⟩ (.int .i64 Z)).heap[f.heap.size]?=some (.cells #[.int .i64 4,.string g,.string ⟨#[]⟩,.int .i64 Z,.int .i64 0,.int .i64 0,.slice none 0 0] 223):=(zF (zF a8 0 _) 3 _).trans rfl;have e3:=C.heap e1 (fun h=>by unfold Is at h;omega);have e4:=a7.fr C (fun h=>by unfold Is at h;omega);have e5:=(X.fr y (fun b J h=>by unfold Is at h;omega)).fr C (fun b J h=>by unfold Is at h;omega);have j0:=zh ((d9.out.step y zi).step C (fun b J h=>by unfold Is at h;omega));have q9:=C.size;obtain⟨j1,-,-,j2⟩:=cl4 a8;obtain⟨j3,-,-,j4⟩:=fl4 a8;clear y C a7 e0 L X b9 c2 e1 a8
      go_upto_region 24 with(fail)
      generalize ((R.setCell ⟨f.heap.size,0,none⟩ (.int .i64 4)).setCell ⟨f.heap.size,3,none⟩ (.int .i64 Z))=Vx2 at *;clear j1 j3 j2 j4
      go_wp2_with fail
      refine(zB5 A s 47 c8 i9 _ e4 (by omega)).mono ?_;rintro v6 v7 ⟨rfl,c9,D⟩;have j5:=zAY (b:=47) c8;have r0:=D.size;have e7:=D.heap e2 (fun h=>by unfold Is at h;omega);have e8:=D.heap e3 (fun h=>by unfold Is at h;omega);have d0:=e5.fr D (fun b J h=>by unfold Is at h;omega);have j6:=zh (j0.out.step D zi);have d1:=StX.want o.out;obtain⟨g0,d2⟩:∃ g0,g0=(zU 47 c8).getD c8:=⟨_,rfl⟩
      obtain⟨g1,e9⟩:∃ g1,g1=(i9||(zU 47 c8).isNone):=⟨_,rfl⟩
      rw[<-d2,<-e9]at c9 d1;rw[<-d2]at j5;have o:=zh d1;clear d2 e9 D d1 e4 e5 e2 e3
      go_wp2_with fail
      refine(zB6 A s g0 g1 _ c9 hs d0 q).mono ?_;rintro v8 c7 ⟨d3,g2,l4,rfl,r5,f7,f8,F⟩;have r7:=F.size;have a9:=F.heap e7 (fun h=>by unfold Is at h;omega);have f9:=F.heap e8 (fun h=>by unfold Is at h;omega);have o:=zh (StX.num o.out f8);have I:Fr (Is f.heap.size) c7 (c7.setCell ⟨f.heap.size,4,none⟩ (.int .i64 d3)):=Fr.setAt (Fr.refl _ _) _;have g3:(c7.setCell ⟨f.heap.size,4,none⟩ (.int .i64 d3)).heap[f.heap.size]?=some (.cells #[.int .i64 4,.string g,.string ⟨#[]⟩,.int .i64 Z,.int .i64 d3,.int .i64 0,.slice none 0 0] 223):=(zF a9 4 _).trans rfl;have g4:=I.heap f9 (fun h=>by unfold Is at h;omega);have g5:=f7.fr I (fun h=>by unfold Is at h;omega);have g6:=(d0.fr F (fun b J h=>by unfold Is at h;omega)).fr I (fun b J h=>by unfold Is at h;omega);have j7:=zh ((j6.out.step F zi).step I (fun b J h=>by unfold Is at h;omega));have s0:=I.size;have m2:c7.cell? ⟨f.heap.size,4,none⟩=some (.int .i64 0):=zB a9 4;have m3:c7.frozen? ⟨f.heap.size,4,none⟩=false:=zE a9 4;clear F I f7 f8 c9 d0 e7 e8 f9 a9
      go_wp2_with fail
      go_meet
      exact⟨rfl,4,Z,d3,0,g2,l4,g3,g4,g5,by omega,j7.out,g6,by omega,o⟩
    ·have o:Hid (StX (pC (n+1) r) b2 ((zU 40 V).bind fun ra=>(pL n [] ra).bind fun A=>some (.mk 3 g ⟨#[]⟩ 0 0 0 A.1,A.2))):=by
      have h:=HX.out;unfold pKind at h;rw[if_neg (show ¬ kd=[102,115]from fun e=>by have q:=K1.out;rw[h1,e]at q;simp at q)]at h;rw[if_neg (show ¬ kd=[114,97,105,100]from fun e=>by have q:=K2.out;rw[h2,e]at q;simp at q)]at h;rw[if_pos (show kd=[99,114,121,112,116]from by have q:=K3.out;rw[h3]at q;exact of_decide_eq_true q.symm)]at h;exact h
     have hg:Fr (Is f.heap.size) W4 (W4.setCell ⟨f.heap.size,0,none⟩ (.int .i64 3)):=Fr.setAt (Fr.refl _ _) _;have i5:(W4.setCell ⟨f.heap.size,0,none⟩ (.int .i64 3)).heap[f.heap.size]?=some (.cells #[.int .i64 3,.string g,.string ⟨#[]⟩,.int .i64 0,.int .i64 0,.int .i64 0,.slice none 0 0] 223):=(zF q4 0 _).trans rfl;have i6:=hg.heap c4 (fun h=>by unfold Is at h;omega);have i4:=c5.fr hg (fun h=>by unfold Is at h;omega);have i7:=c6.fr hg (fun b J h=>by unfold Is at h;omega);have i8:=zh (h0.out.step hg (fun b J h=>by unfold Is at h;omega));have q3:=hg.size;have u0:W4.cell? ⟨f.heap.size,0,none⟩=some (.int .i64 0):=zB q4 0;have v0:W4.frozen? ⟨f.heap.size,0,none⟩=false:=zE q4 0;clear hg c5 c6 q4 c4
     go_wp2_with fail
     go_meet
     exact⟨rfl,3,0,0,0,V,b2,i5,i6,i4,by omega,i8.out,i7,by omega,o⟩
   ·have o:Hid (StX (pC (n+1) r) b2 ((zU 58 V).bind fun r4=>(pNum r4).bind fun p5=>(zU 47 p5.2).bind fun r6=>(pNum r6).bind fun p7=>(zU 47 p7.2).bind fun r8=>(pNum r8).bind fun p9=>(zU 40 p9.2).bind fun ra=>(pL n [] ra).bind fun A=>some (.mk 2 g ⟨#[]⟩ p5.1 p7.1 p9.1 A.1,A.2))):=by
     have h:=HX.out;unfold pKind at h;rw[if_neg (show ¬ kd=[102,115]from fun e=>by have q:=K1.out;rw[h1,e]at q;simp at q)]at h;rw[if_pos (show kd=[114,97,105,100]from by have q:=K2.out;rw[h2]at q;exact of_decide_eq_true q.symm)]at h;exact h
    go_wp2_with fail
    refine(zB5 A s 58 V b2 _ c5 (by omega)).mono ?_;rintro q5 q6 ⟨rfl,L,u⟩;have d8:=zAY (b:=58) V;have m0:=u.size;have b9:=u.heap q4 (fun h=>by unfold Is at h;omega);have c2:=u.heap c4 (fun h=>by unfold Is at h;omega);have X:=c6.fr u (fun b J h=>by unfold Is at h;omega);have d9:=zh (h0.out.step u zi);have N:=StX.want o.out;obtain⟨Y,O⟩:∃ Y,Y=(zU 58 V).getD V:=⟨_,rfl⟩
    obtain⟨b8,c3⟩:∃ b8,b8=(b2||(zU 58 V).isNone):=⟨_,rfl⟩
    rw[<-O,<-c3]at L N;rw[<-O]at d8;have o:=zh N;clear O c3 u N c5 c6 q4 c4
    go_wp2_with fail
    refine(zB6 A s Y b8 _ L hs X q).mono ?_;rintro q7 R ⟨Z,c8,i9,rfl,q8,a7,e0,y⟩;have m1:=y.size;have a8:=y.heap b9 (fun h=>by unfold Is at h;omega);have e1:=y.heap c2 (fun h=>by unfold Is at h;omega);have o:=zh (StX.num o.out e0);have C:Fr (Is f.heap.size) R ((R.setCell ⟨f.heap.size,0,none⟩ (.int .i64 2)).setCell ⟨f.heap.size,3,none⟩ (.int .i64 Z)):=Fr.setAt (Fr.setAt (Fr.refl _ _) _) _;have e2:((R.setCell ⟨f.heap.size,0,none⟩ (.int .i64 2)).setCell ⟨f.heap.size,3,none⟩ (.int .i64 Z)).heap[f.heap.size]?=some (.cells #[.int .i64 2,.string g,.string ⟨#[]⟩,.int .i64 Z,.int .i64 0,.int .i64 0,.slice none 0 0] 223):=(zF (zF a8 0 _) 3 _).trans rfl;have e3:=C.heap e1 (fun h=>by unfold Is at h;omega);have e4:=a7.fr C (fun h=>by unfold Is at h;omega);have e5:=(X.fr y (fun b J h=>by unfold Is at h;omega)).fr C (fun b J h=>by unfold Is at h;omega);have j0:=zh ((d9.out.step y zi).step C (fun b J h=>by unfold Is at h;omega));have q9:=C.size;obtain⟨j1,-,-,j2⟩:=cl4 a8;obtain⟨j3,-,-,j4⟩:=fl4 a8;clear y C a7 e0 L X b9 c2 e1 a8
    go_upto_region 15 with(fail)
    generalize ((R.setCell ⟨f.heap.size,0,none⟩ (.int .i64 2)).setCell ⟨f.heap.size,3,none⟩ (.int .i64 Z))=Vx2 at *;clear j1 j3 j2 j4
    go_wp2_with fail
    refine(zB5 A s 47 c8 i9 _ e4 (by omega)).mono ?_;rintro v6 v7 ⟨rfl,c9,D⟩;have j5:=zAY (b:=47) c8;have r0:=D.size;have e7:=D.heap e2 (fun h=>by unfold Is at h;omega);have e8:=D.heap e3 (fun h=>by unfold Is at h;omega);have d0:=e5.fr D (fun b J h=>by unfold Is at h;omega);have j6:=zh (j0.out.step D zi);have d1:=StX.want o.out;obtain⟨g0,d2⟩:∃ g0,g0=(zU 47 c8).getD c8:=⟨_,rfl⟩
    obtain⟨g1,e9⟩:∃ g1,g1=(i9||(zU 47 c8).isNone):=⟨_,rfl⟩
    rw[<-d2,<-e9]at c9 d1;rw[<-d2]at j5;have o:=zh d1;clear d2 e9 D d1 e4 e5 e2 e3
    go_wp2_with fail
    refine(zB6 A s g0 g1 _ c9 hs d0 q).mono ?_;rintro v8 c7 ⟨d3,g2,l4,rfl,r5,f7,f8,F⟩;have r7:=F.size;have a9:=F.heap e7 (fun h=>by unfold Is at h;omega);have f9:=F.heap e8 (fun h=>by unfold Is at h;omega);have o:=zh (StX.num o.out f8);have I:Fr (Is f.heap.size) c7 (c7.setCell ⟨f.heap.size,4,none⟩ (.int .i64 d3)):=Fr.setAt (Fr.refl _ _) _;have g3:(c7.setCell ⟨f.heap.size,4,none⟩ (.int .i64 d3)).heap[f.heap.size]?=some (.cells #[.int .i64 2,.string g,.string ⟨#[]⟩,.int .i64 Z,.int .i64 d3,.int .i64 0,.slice none 0 0] 223):=(zF a9 4 _).trans rfl;have g4:=I.heap f9 (fun h=>by unfold Is at h;omega);have g5:=f7.fr I (fun h=>by unfold Is at h;omega);have g6:=(d0.fr F (fun b J h=>by unfold Is at h;omega)).fr I (fun b J h=>by unfold Is at h;omega);have j7:=zh ((j6.out.step F zi).step I (fun b J h=>by unfold Is at h;omega));have s0:=I.size;have m2:c7.cell? ⟨f.heap.size,4,none⟩=some (.int .i64 0):=zB a9 4;have m3:c7.frozen? ⟨f.heap.size,4,none⟩=false:=zE a9 4;clear F I f7 f8 c9 d0 e7 e8 f9 a9
    go_upto_region 17 with(fail)
    generalize (c7.setCell ⟨f.heap.size,4,none⟩ (.int .i64 d3))=Vx4 at *;clear m2 m3
    go_wp2_with fail
    refine(zB5 A s 47 g2 l4 _ g5 (by omega)).mono ?_;rintro A5 A6 ⟨rfl,j8,d4⟩;have s1:=zAY (b:=47) g2;have x5:=d4.size;have m4:=d4.heap g3 (fun h=>by unfold Is at h;omega);have m5:=d4.heap g4 (fun h=>by unfold Is at h;omega);have j9:=g6.fr d4 (fun b J h=>by unfold Is at h;omega);have s2:=zh (j7.out.step d4 zi);have k0:=StX.want o.out;obtain⟨n6,k6⟩:∃ n6,n6=(zU 47 g2).getD g2:=⟨_,rfl⟩
    obtain⟨n7,m6⟩:∃ n7,n7=(l4||(zU 47 g2).isNone):=⟨_,rfl⟩
    rw[<-k6,<-m6]at j8 k0;rw[<-k6]at s1;have o:=zh k0;clear k6 m6 d4 k0 g5 g6 g3 g4
    go_wp2_with fail
    refine(zB6 A s n6 n7 _ j8 hs j9 q).mono ?_;rintro A7 k7 ⟨l5,v9,w0,rfl,x6,m7,m8,d5⟩;have x7:=d5.size;have g7:=d5.heap m4 (fun h=>by unfold Is at h;omega);have m9:=d5.heap m5 (fun h=>by unfold Is at h;omega);have o:=zh (StX.num o.out m8);have d6:Fr (Is f.heap.size) k7 (k7.setCell ⟨f.heap.size,5,none⟩ (.int .i64 l5)):=Fr.setAt (Fr.refl _ _) _;have s3:(k7.setCell ⟨f.heap.size,5,none⟩ (.int .i64 l5)).heap[f.heap.size]?=some (.cells #[.int .i64 2,.string g,.string ⟨#[]⟩,.int .i64 Z,.int .i64 d3,.int .i64 l5,.slice none 0 0] 223):=(zF g7 5 _).trans rfl;have s4:=d6.heap m9 (fun h=>by unfold Is at h;omega);have s5:=m7.fr d6 (fun h=>by unfold Is at h;omega);have s6:=(j9.fr d5 (fun b J h=>by unfold Is at h;omega)).fr d6 (fun b J h=>by unfold Is at h;omega);have s7:=zh ((s2.out.step d5 zi).step d6 (fun b J h=>by unfold Is at h;omega));have x8:=d6.size;have x9:k7.cell? ⟨f.heap.size,5,none⟩=some (.int .i64 0):=zB g7 5;have y7:k7.frozen? ⟨f.heap.size,5,none⟩=false:=zE g7 5;clear d5 d6 m7 m8 j8 j9 m4 m5 m9 g7
    go_wp2_with fail
    go_meet
    exact⟨rfl,2,Z,d3,l5,v9,w0,s3,s4,s5,by omega,s7.out,s6,by omega,o⟩
  ·have o:Hid (StX (pC (n+1) r) b2 ((zU 58 V).bind fun r4=>some (.mk 1 g ⟨(upto [44,41] r4).toArray⟩ 0 0 0 [],past [44,41] r4))):=by
    have h:=HX.out;unfold pKind at h;rw[if_pos (show kd=[102,115]from by have q:=K1.out;rw[h1]at q;exact of_decide_eq_true q.symm)]at h;exact h
   go_wp2_with fail
   refine(zB5 A s 58 V b2 _ c5 (by omega)).mono ?_;rintro q5 q6 ⟨rfl,L,u⟩;have d8:=zAY (b:=58) V;have m0:=u.size;have b9:=u.heap q4 (fun h=>by unfold Is at h;omega);have c2:=u.heap c4 (fun h=>by unfold Is at h;omega);have X:=c6.fr u (fun b J h=>by unfold Is at h;omega);have d9:=zh (h0.out.step u zi);have N:=StX.want o.out;obtain⟨Y,O⟩:∃ Y,Y=(zU 58 V).getD V:=⟨_,rfl⟩
   obtain⟨b8,c3⟩:∃ b8,b8=(b2||(zU 58 V).isNone):=⟨_,rfl⟩
   rw[<-O,<-c3]at L N;rw[<-O]at d8;have o:=zh N;clear O c3 u N c5 c6 q4 c4
   go_wp2_with fail
   refine(zEX A s ⟨#[44,41]⟩ Y b8 _ L asc3 (by omega) (by decide)).mono ?_;rintro q7 R ⟨rfl,a7,y⟩;have w4:(⟨#[44,41]⟩:ByteArray).data.toList=[44,41]:=rfl;rw[w4]at a7 ⊢;have y8:=zED [44,41] Y;have l6:=o.out;obtain⟨b7,n0⟩:∃ b7,b7=(⟨(upto [44,41] Y).toArray⟩:ByteArray):=⟨_,rfl⟩
   rw[<-n0]at l6 ⊢;generalize past [44,41] Y=r9 at *;have m1:=y.size;have p4:=y.heap b9 (fun h=>by unfold Is at h;omega);have p2:=y.heap c2 (fun h=>by unfold Is at h;omega);have hg:Fr (Is f.heap.size) R ((R.setCell ⟨f.heap.size,0,none⟩ (.int .i64 1)).setCell ⟨f.heap.size,2,none⟩ (.string b7)):=Fr.setAt (Fr.setAt (Fr.refl _ _) _) _;have s8:((R.setCell ⟨f.heap.size,0,none⟩ (.int .i64 1)).setCell ⟨f.heap.size,2,none⟩ (.string b7)).heap[f.heap.size]?=some (.cells #[.int .i64 1,.string g,.string b7,.int .i64 0,.int .i64 0,.int .i64 0,.slice none 0 0] 223):=(zF (zF p4 0 _) 2 _).trans rfl;have n8:=hg.heap p2 (fun h=>by unfold Is at h;omega);have h7:=set7 n8 rfl (.int .i64 1) (.string g) (.string b7) (.int .i64 0) (.int .i64 0) (.int .i64 0) (.slice none 0 0);have d7:Hid (CtRes w A s r (n+1) (.returned (.agg #[.int .i64 1,.string g,.string b7,.int .i64 0,.int .i64 0,.int .i64 0,.slice none 0 0])) (((((((((R.setCell ⟨f.heap.size,0,none⟩ (.int .i64 1)).setCell ⟨f.heap.size,2,none⟩ (.string b7)).setCell ⟨w.heap.size,0,none⟩ (.int .i64 1)).setCell ⟨w.heap.size,1,none⟩ (.string g)).setCell ⟨w.heap.size,2,none⟩ (.string b7)).setCell ⟨w.heap.size,3,none⟩ (.int .i64 0)).setCell ⟨w.heap.size,4,none⟩ (.int .i64 0)).setCell ⟨w.heap.size,5,none⟩ (.int .i64 0)).setCell ⟨w.heap.size,6,none⟩ (.slice none 0 0))):=by
    refine⟨1,g,b7,0,0,0,none,0,0,r9,b8,rfl,by omega,(a7.fr hg (fun h=>by unfold Is at h;omega)).fr h7.2 (fun h=>by unfold Is at h;omega),((d9.out.step y zi).step hg (fun b J h=>by unfold Is at h;omega)).step h7.2 (fun b J h=>by unfold Is at h;omega),?_⟩;cases b8 with
    | true=>exact .inl ⟨rfl,l6.1 rfl⟩
    | false=>exact .inr ⟨rfl,_,l6.2 rfl,CAt.of_in (InAt.nil _ _) 1 g b7 0 0 0⟩
   obtain⟨u0,-,u2⟩:=cl3 p4;obtain⟨v0,-,v2⟩:=fl3 p4;have Hq:=zh h7.1;have U:=zh s8;have z:=zh n8;clear h7 l6 a7 y n0 hg p4 p2 L X b9 c2 s8 n8
   go_upto_region 11 with(fail)
   generalize ((R.setCell ⟨f.heap.size,0,none⟩ (.int .i64 1)).setCell ⟨f.heap.size,2,none⟩ (.string b7))=W7 at *;clear u0 v0 u2 v2;have a0:W7.cell? ⟨f.heap.size,0,none⟩=some (.int .i64 1):=zB U.out 0;have a1:W7.cell? ⟨f.heap.size,1,none⟩=some (.string g):=zB U.out 1;have a2:W7.cell? ⟨f.heap.size,2,none⟩=some (.string b7):=zB U.out 2;have a3:W7.cell? ⟨f.heap.size,3,none⟩=some (.int .i64 0):=zB U.out 3;have a4:W7.cell? ⟨f.heap.size,4,none⟩=some (.int .i64 0):=zB U.out 4;have a5:W7.cell? ⟨f.heap.size,5,none⟩=some (.int .i64 0):=zB U.out 5;have a6:W7.cell? ⟨f.heap.size,6,none⟩=some (.slice none 0 0):=zB U.out 6;have b0:W7.cell? ⟨w.heap.size,0,none⟩=some (.int .i64 0):=zB z.out 0;have b1:W7.cell? ⟨w.heap.size,1,none⟩=some (.string ⟨#[]⟩):=zB z.out 1;have b2:W7.cell? ⟨w.heap.size,2,none⟩=some (.string ⟨#[]⟩):=zB z.out 2;have b3:W7.cell? ⟨w.heap.size,3,none⟩=some (.int .i64 0):=zB z.out 3;have b4:W7.cell? ⟨w.heap.size,4,none⟩=some (.int .i64 0):=zB z.out 4;have b5:W7.cell? ⟨w.heap.size,5,none⟩=some (.int .i64 0):=zB z.out 5;have b6:W7.cell? ⟨w.heap.size,6,none⟩=some (.slice none 0 0):=zB z.out 6;have w5:W7.frozen? ⟨w.heap.size,0,none⟩=false:=zE z.out 0;have w7:W7.frozen? ⟨w.heap.size,1,none⟩=false:=zE z.out 1;have w8:W7.frozen? ⟨w.heap.size,2,none⟩=false:=zE z.out 2;have w9:W7.frozen? ⟨w.heap.size,3,none⟩=false:=zE z.out 3;have x0:W7.frozen? ⟨w.heap.size,4,none⟩=false:=zE z.out 4;have x1:W7.frozen? ⟨w.heap.size,5,none⟩=false:=zE z.out 5;have x2:W7.frozen? ⟨w.heap.size,6,none⟩=false:=zE z.out 6
   go_wp2_with fail
   have y0:=zB Hq.out 0;have y1:=zB Hq.out 1;have y2:=zB Hq.out 2;have y3:=zB Hq.out 3;have y4:=zB Hq.out 4;have y5:=zB Hq.out 5;have y6:=zB Hq.out 6;refine bodyPost_ret (v:=.agg #[.int .i64 1,.string g,.string b7,.int .i64 0,.int .i64 0,.int .i64 0,.slice none 0 0]) (by simp[results,Tryz.results241,go_sem,y0,y1,y2,y3,y4,y5,y6]) rfl ?_;exact d7.out
 case rest=>
  obtain⟨rfl,k,sl,t,e,rI,bI,s9,t0,t1,A8,t2,t3,A9,t4⟩:=hcut;obtain⟨W5,rfl⟩:∃ W5,W5=wc:=⟨_,rfl⟩
  go_wp2_with fail
  refine(t9 A s rI bI _ (by omega) t1 hs t3 q).mono ?_;rintro e6 w6 ⟨a,m,c,r6,b6,rfl,B0,t5,k8,t6,k9⟩;have B1:=k8.size;have l7:=k8.heap s9 (fun h=>by unfold Is at h;omega);have t7:=k8.heap t0 (fun h=>by unfold Is at h;omega);have n9:=zF l7 6 (.slice a m c);have o0:(w6.setCell ⟨f.heap.size,6,none⟩ (.slice a m c)).heap[w.heap.size]?=some (.cells #[.int .i64 0,.string ⟨#[]⟩,.string ⟨#[]⟩,.int .i64 0,.int .i64 0,.int .i64 0,.slice none 0 0] 223):=((Fr.refl (Is f.heap.size) w6).setAt (i:=6) (.slice a m c)).heap t7 (fun h=>by unfold Is at h;omega);have t8:(#[.int .i64 k,.string g,.string ⟨#[]⟩,.int .i64 sl,.int .i64 t,.int .i64 e,.slice none 0 0]:Array Value).setIfInBounds 6 (.slice a m c)=#[.int .i64 k,.string g,.string ⟨#[]⟩,.int .i64 sl,.int .i64 t,.int .i64 e,.slice a m c]:=rfl;rw[t8]at n9;have fA:Fr (Is f.heap.size) w6 (w6.setCell ⟨f.heap.size,6,none⟩ (.slice a m c)):=(Fr.refl _ _).setAt _;have h7:=set7 o0 rfl (.int .i64 k) (.string g) (.string ⟨#[]⟩) (.int .i64 sl) (.int .i64 t) (.int .i64 e) (.slice a m c);have d7:Hid (CtRes w A s r (n+1) (.returned (.agg #[.int .i64 k,.string g,.string ⟨#[]⟩,.int .i64 sl,.int .i64 t,.int .i64 e,.slice a m c])) ((((((((w6.setCell ⟨f.heap.size,6,none⟩ (.slice a m c)).setCell ⟨w.heap.size,0,none⟩ (.int .i64 k)).setCell ⟨w.heap.size,1,none⟩ (.string g)).setCell ⟨w.heap.size,2,none⟩ (.string ⟨#[]⟩)).setCell ⟨w.heap.size,3,none⟩ (.int .i64 sl)).setCell ⟨w.heap.size,4,none⟩ (.int .i64 t)).setCell ⟨w.heap.size,5,none⟩ (.int .i64 e)).setCell ⟨w.heap.size,6,none⟩ (.slice a m c))):=by
   have fB:=h7.2;refine⟨k,g,⟨#[]⟩,sl,t,e,a,m,c,r6,b6,rfl,by omega,(t5.fr fA (fun h=>by unfold Is at h;omega)).fr fB (fun h=>by unfold Is at h;omega),((t2.step k8 zi).step fA (fun b J h=>by unfold Is at h;omega)).step fB (fun b J h=>by unfold Is at h;omega),?_⟩;have l8:((zU 40 rI).bind fun ra=>(pL n [] ra).bind fun A=>some (Ct.mk k g ⟨#[]⟩ sl t e A.1,A.2))=((zU 40 rI).bind (pL n [])).bind fun A=>some (Ct.mk k g ⟨#[]⟩ sl t e A.1,A.2):=by
    cases zU 40 rI<;>rfl
   cases bI with
   | true=>exact .inl ⟨t6 rfl,t4.out.1 rfl⟩
   | false=>
    have h1:=t4.out.2 rfl;rw[l8]at h1;rcases k9 rfl with⟨h2,h3⟩ | ⟨h2,cs,h3,h4,h5⟩
    ·rw[h3]at h1;exact .inl ⟨h2,h1⟩
    ·rw[h3]at h1;refine .inr ⟨h2,_,h1,?_⟩;subst h4;refine CAt.of_in ?_ k g ⟨#[]⟩ sl t e;exact((h5.fr fA (fun b J h=>by unfold Is at h;unfold From at J;omega)).fr fB (fun b J h=>by unfold Is at h;unfold From at J;omega)).mono (fun b _ J=>by unfold From at *;omega)
  have z6:w6.cell? ⟨f.heap.size,6,none⟩=some (.slice none 0 0):=zB l7 6;have f6:w6.frozen? ⟨f.heap.size,6,none⟩=false:=zE l7 6;have Hq:=zh h7.1;have U:=zh n9;have z:=zh o0;clear k9 t5 k8 t7 l7 t1 t3 t2 s9 t0 h7 fA n9 o0 t8 t6
  go_upto_region 29 with(fail)
  generalize w6.setCell ⟨f.heap.size,6,none⟩ (.slice a m c)=W7 at *;have a0:W7.cell? ⟨f.heap.size,0,none⟩=some (.int .i64 k):=zB U.out 0;have a1:W7.cell? ⟨f.heap.size,1,none⟩=some (.string g):=zB U.out 1;have a2:W7.cell? ⟨f.heap.size,2,none⟩=some (.string ⟨#[]⟩):=zB U.out 2;have a3:W7.cell? ⟨f.heap.size,3,none⟩=some (.int .i64 sl):=zB U.out 3;have a4:W7.cell? ⟨f.heap.size,4,none⟩=some (.int .i64 t):=zB U.out 4;have a5:W7.cell? ⟨f.heap.size,5,none⟩=some (.int .i64 e):=zB U.out 5;have a6:W7.cell? ⟨f.heap.size,6,none⟩=some (.slice a m c):=zB U.out 6;have b0:W7.cell? ⟨w.heap.size,0,none⟩=some (.int .i64 0):=zB z.out 0;have b1:W7.cell? ⟨w.heap.size,1,none⟩=some (.string ⟨#[]⟩):=zB z.out 1;have b2:W7.cell? ⟨w.heap.size,2,none⟩=some (.string ⟨#[]⟩):=zB z.out 2;have b3:W7.cell? ⟨w.heap.size,3,none⟩=some (.int .i64 0):=zB z.out 3;have b4:W7.cell? ⟨w.heap.size,4,none⟩=some (.int .i64 0):=zB z.out 4;have b5:W7.cell? ⟨w.heap.size,5,none⟩=some (.int .i64 0):=zB z.out 5;have b6:W7.cell? ⟨w.heap.size,6,none⟩=some (.slice none 0 0):=zB z.out 6;have w5:W7.frozen? ⟨w.heap.size,0,none⟩=false:=zE z.out 0;have w7:W7.frozen? ⟨w.heap.size,1,none⟩=false:=zE z.out 1;have w8:W7.frozen? ⟨w.heap.size,2,none⟩=false:=zE z.out 2;have w9:W7.frozen? ⟨w.heap.size,3,none⟩=false:=zE z.out 3;have x0:W7.frozen? ⟨w.heap.size,4,none⟩=false:=zE z.out 4;have x1:W7.frozen? ⟨w.heap.size,5,none⟩=false:=zE z.out 5;have x2:W7.frozen? ⟨w.heap.size,6,none⟩=false:=zE z.out 6
  go_wp2_with fail
  have y0:=zB Hq.out 0;have y1:=zB Hq.out 1;have y2:=zB Hq.out 2;have y3:=zB Hq.out 3;have y4:=zB Hq.out 4;have y5:=zB Hq.out 5;have y6:=zB Hq.out 6;refine bodyPost_ret (v:=.agg #[.int .i64 k,.string g,.string ⟨#[]⟩,.int .i64 sl,.int .i64 t,.int .i64 e,.slice a m c]) (by simp[results,Tryz.results241,go_sem,y0,y1,y2,y3,y4,y5,y6]) rfl ?_;exact d7.out
end Go.Proofs.YtinfjnndbfahhaaGreatDoor
