import Derived.Test.YtmajgldaplkpiaaGreatDoorQ24
namespace Go.Proofs.YtmajgldaplkpiaaGreatDoor
open Go.RowKit Go.Maps
set_option linter.unusedVariables false
set_option maxRecDepth 100000
set_option maxHeartbeats 4000000
theorem CAt.inAt {w:World}{X:Nat->Prop}{vs:Array Value}{k s t e:Int}{i l:ByteArray}{n:List Ct}(h:CAt w X vs (.mk k i l s t e n)):∃ a cap,vs=#[.int .i64 k,.string i,.string l,.int .i64 s,.int .i64 t,.int .i64 e,.slice a n.length cap]/\InAt w X a cap n:=by
 generalize hc:Ct.mk k i l s t e n=c at h;cases h with
 | mk k' i' l' s' t' e' n' a cap vs' h1 h2 h3 h4 h5 h6=>
  injection hc with e1 e2 e3 e4 e5 e6 e7
  subst e1;subst e2;subst e3;subst e4;subst e5;subst e6;subst e7;exact⟨a,cap,rfl,h1,h2,h3,vs',h4,h5,h6⟩
structure CtAt (w:World)(b o:Nat)(k:Int)(i l:ByteArray)(s t e:Int)(v:Value):Prop where
 c0:w.cell? ⟨b,o,none⟩=some (.int .i64 k)
 c1:w.cell? ⟨b,o+1,none⟩=some (.string i)
 c2:w.cell? ⟨b,o+2,none⟩=some (.string l)
 c3:w.cell? ⟨b,o+3,none⟩=some (.int .i64 s)
 c4:w.cell? ⟨b,o+4,none⟩=some (.int .i64 t)
 c5:w.cell? ⟨b,o+5,none⟩=some (.int .i64 e)
 c6:w.cell? ⟨b,o+6,none⟩=some v
theorem InAt.at {w:World}{X:Nat->Prop}{a:Option Addr}{cap j:Nat}{cs:List Ct}(h:InAt w X a cap cs){k s t e:Int}{i l:ByteArray}{n:List Ct}(hj:cs[j]?=some (.mk k i l s t e n)):
  ∃ b off a' cap',a=some ⟨b,off,none⟩/\b<w.heap.size/\X b/\CtAt w b (off+j*7) k i l s t e (.slice a' n.length cap')/\InAt w X a' cap' n:=by
 cases a with
 | none=>rw[(h.isNil rfl).1]at hj;simp at hj
 | some ad=>
  obtain⟨vs,h4,h5,h6⟩:=h.el;obtain⟨h7,h8,h9⟩:=h4 ad rfl (fun e=>by rw[e]at hj;simp at hj);obtain⟨a',cap',e1,h10⟩:=(h6 j _ hj).inAt;have hc:=h5 ad j _ rfl hj;rw[e1]at hc;obtain⟨b,off,sp⟩:=ad;simp only at h7 h8 h9 hc;subst h7;exact⟨b,off,a',cap',rfl,h8,h9,⟨hc 0 (by omega),hc 1 (by omega),hc 2 (by omega),hc 3 (by omega),hc 4 (by omega),hc 5 (by omega),hc 6 (by omega)⟩,h10⟩
theorem zFH {n:List Ct}{j:Nat}{d:Ct}(h:n[j]?=some d):Ct.depths (n.take (j+1))=max (Ct.depths (n.take j)) d.depth:=by
 rw[List.take_add_one,h];exact zC6 _ _
theorem zEd {n:List Ct}(j:Nat):Ct.depths (n.take j)<=Ct.counts n:=by
 have h1:=zA2 (n.take j);have h2:=zAL (n.take j) (n.drop j);rw[List.take_append_drop]at h2;omega
theorem zH0 (m:Nat):m<=10000->∀ (k s t e:Int) (i l:ByteArray) (n:List Ct) (a:Option Addr) (cap:Nat) (w:World) (X:Nat->Prop),Ct.counts n<m->InAt w X a cap n->
  Calls Tryz.prog 319 #[.agg #[.int .i64 k,.string i,.string l,.int .i64 s,.int .i64 t,.int .i64 e,.slice a n.length cap]] w fun en w2=>en=.returned (.int .i64 ((Ct.mk k i l s t e n).depth:Int))/\Fr No w w2:=by
 induction m with
 | zero=>intro _ k s t e i l n a cap w X h;omega
 | succ m ih=>
  intro hm k s t e i l n a cap w X hcn hin;have hnl:=zAN n;have h0:Fr No w (w.alloc (.cells #[.int .i64 k,.string i,.string l,.int .i64 s,.int .i64 t,.int .i64 e,.slice a n.length cap] 256)):=(Fr.refl _ _).alloc _;have q1:=zD w (.cells #[.int .i64 k,.string i,.string l,.int .i64 s,.int .i64 t,.int .i64 e,.slice a n.length cap] 256);obtain⟨W0,hW0⟩:∃ W0,W0=w.alloc (.cells #[.int .i64 k,.string i,.string l,.int .i64 s,.int .i64 t,.int .i64 e,.slice a n.length cap] 256):=⟨_,rfl⟩
  rw[<-hW0]at h0 q1;have hin0:=hin.fr h0 (fun _ _=>id);obtain⟨c0,-,-,-,-,-,c6⟩:=cl7 q1;have Ih:=Lib.hid (ih (by omega));have H0:=Lib.hid h0;clear ih hin h0
  go_enter Tryz.func319,Tryz.ntmps319
  go_wp2_with fail
  rw[<-hW0];clear hW0
  go_wp2_with fail
  go_loopw [3,9] (fun v i wr=>∃ (j:Nat),j<=n.length/\v=.int .i64 ((Ct.depths (n.take j):Nat):Int)/\i=.int .i64 (j:Int)/\Fr No W0 wr) (fun _ i _=>n.length-(intOf i).toNat)
  case atStart=>exact⟨0,by omega,by simp[Ct.depths],rfl,Fr.refl _ _⟩
  case round=>
   obtain⟨j,hj,rfl,rfl,hfr⟩:=hrel;have hdl:=zEd (n:=n) j;by_cases hlt:j<n.length
   ·have hlt':(j:Int)<n.length:=by omega
    obtain⟨d,hd⟩:∃ d,n[j]?=some d:=⟨_,List.getElem?_eq_getElem hlt⟩
    have hdc:=zAo (List.mem_of_getElem? hd);have hdt:=zFH hd;have hdl2:=zEd (n:=n) (j+1);obtain⟨k1,i1,l1,s1,t1,e1,n1⟩:=d;rw[Ct.count]at hdc;obtain⟨b,off,a',cap',rfl,hb,hX,⟨y0,y1,y2,y3,y4,y5,y6⟩,hin1⟩:=(hin0.fr hfr (fun _ _=>id)).at hd;have Hdt:=Lib.hid hdt;clear hdt hd
    go_wp2_with fail
    have hx:Fr No wr (wr.alloc (.cells #[.int .i64 k1,.string i1,.string l1,.int .i64 s1,.int .i64 t1,.int .i64 e1,.slice a' n1.length cap'] 256)):=(Fr.refl _ _).alloc _;refine(Ih.out k1 s1 t1 e1 i1 l1 n1 a' cap' _ X (by omega) (hin1.fr hx (fun _ _=>id))).mono ?_;rintro e w2 ⟨rfl,hf2⟩;have Hfr:=Lib.hid ((hfr.step hx (fun _ _ h=>h)).step hf2 (fun _ _ h=>h));clear hx hf2 hfr y0 y1 y2 y3 y4 y5 y6 hin1
    go_wp2_with fail
    go_roundw
    case rel=>exact⟨j+1,by omega,by rw[Hdt.out];congr 1;omega,by go_num,Hfr.out⟩
    case measure=>simp[intOf];omega
   ·have hlt':¬ (j:Int)<n.length:=by omega
    obtain rfl:j=n.length:=by omega
    rw[List.take_length]at hdl ⊢;have c01:wr.cell? ⟨w.heap.size,0,none⟩=some (.int .i64 k):=hfr.cell c0 id;have Hfr:=Lib.hid (H0.out.trans hfr (fun _ _ h=>h) (fun _ _ h=>h));clear hfr;by_cases hk:k=0
    ·subst hk
     go_wp2_with fail
     go_ret;exact⟨by rw[Ct.depth,if_pos rfl];rfl,Hfr.out⟩
    ·go_wp2_with fail
     go_ret;exact⟨by rw[Ct.depth,if_neg hk];rfl,Hfr.out⟩
theorem zKR {w:World}{X:Nat->Prop}{vs:Array Value}{c:Ct}(h:CAt w X vs c)(hc:c.count<=10000):
  Calls Tryz.prog 319 #[.agg vs] w fun en w2=>en=.returned (.int .i64 (c.depth:Int))/\Fr No w w2:=by
 obtain⟨k,i,l,s,t,e,n⟩:=c;obtain⟨a,cap,rfl,h1⟩:=h.inAt;exact zH0 _ hc k s t e i l n a cap w X (by rw[Ct.count];omega) h1
theorem set7 {W:World}{b:Nat}{cs:Array Value}{T:TypeId}(h:W.heap[b]?=some (.cells cs T))(hs:cs.size=7)(v0 v1 v2 v3 v4 v5 v6:Value):
  (((((((W.setCell ⟨b,0,none⟩ v0).setCell ⟨b,1,none⟩ v1).setCell ⟨b,2,none⟩ v2).setCell ⟨b,3,none⟩ v3).setCell ⟨b,4,none⟩ v4).setCell ⟨b,5,none⟩ v5).setCell ⟨b,6,none⟩ v6).heap[b]?=some (.cells #[v0,v1,v2,v3,v4,v5,v6] T)/\Fr (Is b) W (((((((W.setCell ⟨b,0,none⟩ v0).setCell ⟨b,1,none⟩ v1).setCell ⟨b,2,none⟩ v2).setCell ⟨b,3,none⟩ v3).setCell ⟨b,4,none⟩ v4).setCell ⟨b,5,none⟩ v5).setCell ⟨b,6,none⟩ v6):=by
 refine⟨?_,Fr.setAt (Fr.setAt (Fr.setAt (Fr.setAt (Fr.setAt (Fr.setAt (Fr.setAt (Fr.refl _ _) _) _) _) _) _) _) _⟩;obtain⟨l⟩:=cs
 match l,hs with
 | [_,_,_,_,_,_,_],_=>
  have h0:=zF h 0 v0;have h1:=zF h0 1 v1;have h2:=zF h1 2 v2;have h3:=zF h2 3 v3;have h4:=zF h3 4 v4;have h5:=zF h4 5 v5;have h6:=zF h5 6 v6;simp only[List.setIfInBounds_toArray,List.set_cons_zero,List.set_cons_succ]at h6;exact h6
theorem zCH {l:List UInt8}(h:∀ x∈l,x.toNat<128):Ascii ⟨l.toArray⟩:=fun j b hb=>h b (by
 have h2:b∈(⟨l.toArray⟩:ByteArray).data.toList:=List.mem_of_getElem? hb
 simpa using h2)
theorem asc1 : Ascii ⟨#[58,44,41]⟩:=zCH (l:=[58,44,41]) (by decide)
theorem asc2 : Ascii ⟨#[58,40,44,41]⟩:=zCH (l:=[58,40,44,41]) (by decide)
theorem asc3 : Ascii ⟨#[44,41]⟩:=zCH (l:=[44,41]) (by decide)
theorem zDs (e r:List UInt8):(past e r).length<=r.length:=by
 have:=congrArg List.length (zAG e r);rw[List.length_append]at this;omega
theorem zLM (l:List UInt8):∃ b:ByteArray,b=⟨l.toArray⟩/\b.data.toList=l:=⟨_,rfl,rfl⟩
theorem zH6 {b:ByteArray}{l m:List UInt8}(h:b.data.toList=l):(b.toList==m)=decide (l=m):=by
 rw[ByteArray.toList_eq,h,Bool.eq_iff_iff,beq_iff_eq,decide_eq_true_iff]
def pKind (n:Nat)(kd:List UInt8)(id:ByteArray)(r3:List UInt8):Option (Ct×List UInt8):=
 if kd=[102,115]then
  (zV 58 r3).bind fun r4=>some (.mk 1 id ⟨(upto [44,41] r4).toArray⟩ 0 0 0 [],past [44,41] r4)
 else if kd=[114,97,105,100]then
  (zV 58 r3).bind fun r4=>(pNum r4).bind fun p5=>(zV 47 p5.2).bind fun r6=>(pNum r6).bind fun p7=>(zV 47 p7.2).bind fun r8=>(pNum r8).bind fun p9=>
   (zV 40 p9.2).bind fun ra=>(pL n [] ra).bind fun pb=>some (.mk 2 id ⟨#[]⟩ p5.1 p7.1 p9.1 pb.1,pb.2)
 else if kd=[99,114,121,112,116]then
  (zV 40 r3).bind fun ra=>(pL n [] ra).bind fun pb=>some (.mk 3 id ⟨#[]⟩ 0 0 0 pb.1,pb.2)
 else if kd=[112,118]then
  (zV 58 r3).bind fun r4=>(pNum r4).bind fun p5=>(zV 47 p5.2).bind fun r6=>(pNum r6).bind fun p7=>
   (zV 40 p7.2).bind fun ra=>(pL n [] ra).bind fun pb=>some (.mk 4 id ⟨#[]⟩ p5.1 p7.1 0 pb.1,pb.2)
 else if kd=[116,97,98,108,101]then
  (zV 40 r3).bind fun ra=>(pL n [] ra).bind fun pb=>some (.mk 5 id ⟨#[]⟩ 0 0 0 pb.1,pb.2)
 else none
theorem zLH (n:Nat)(r:List UInt8):pC (n+1) r=if upto [58,44,41] r=[]then some (Ct.zero,r)else (zV 58 (past [58,44,41] r)).bind fun r2=>pKind n (upto [58,44,41] r) ⟨(upto [58,40,44,41] r2).toArray⟩ (past [58,40,44,41] r2):=by
 rw[pC];rfl
def StX (X:Option (Ct×List UInt8))(b:Bool)(R:Option (Ct×List UInt8)):Prop:=(b=true->X=none)/\(b=false->X=R)
theorem StX.want {X:Option (Ct×List UInt8)}{b:Bool}{x:UInt8}{r:List UInt8}{G:List UInt8->Option (Ct×List UInt8)}(h:StX X b ((zV x r).bind G)):StX X (b||(zV x r).isNone) (G ((zV x r).getD r)):=by
 cases b with
 | true=>exact⟨fun _=>h.1 rfl,(fun h2=>by cases h2)⟩
 | false=>
  have h1:=h.2 rfl;cases h2:zV x r with
  | none=>rw[h2]at h1;exact⟨(fun _=>h1),(fun h3=>by cases h3)⟩
  | some t=>rw[h2]at h1;exact⟨(fun h3=>by cases h3),(fun _=>h1)⟩
theorem StX.num {X:Option (Ct×List UInt8)}{b b':Bool}{r r':List UInt8}{n:Int}{G:Int×List UInt8->Option (Ct×List UInt8)}(h:StX X b ((pNum r).bind G))(hn:NumIs r r' b b' n):StX X b' (G (n,r')):=by
 cases b with
 | true=>exact⟨fun _=>h.1 rfl,fun h2=>by rw[hn.1 rfl]at h2;cases h2⟩
 | false=>
  have h1:=h.2 rfl;rcases hn.2 rfl with⟨h2,h3⟩ | ⟨h2,h3⟩
  ·rw[h2]at h1;exact⟨(fun _=>h1),(fun h4=>by rw[h3]at h4;cases h4)⟩
  ·rw[h2]at h1;exact⟨(fun h4=>by rw[h3]at h4;cases h4),(fun _=>h1)⟩
theorem zH1 (n:Nat):PSpec n:=by
 induction n using Nat.strongRecOn with
 | ind n ih=>
 intro pb s r w hr hc hs hE h9;obtain⟨n,rfl⟩:∃ m,n=m+1:=⟨n-1,by omega⟩
 have hIn:=zKP n (fun k hk=>ih k (by omega));have hpc:=zLH n r;have hpl:=hc.lt;have hx:Fr No w (w.alloc (.cells #[.int .i64 0,.string ⟨#[]⟩,.string ⟨#[]⟩,.int .i64 0,.int .i64 0,.int .i64 0,.slice none 0 0] 256)):=(Fr.refl _ _).alloc _;have q2:=zD w (.cells #[.int .i64 0,.string ⟨#[]⟩,.string ⟨#[]⟩,.int .i64 0,.int .i64 0,.int .i64 0,.slice none 0 0] 256);have hE0:=hE.no hx;have hc0:=hc.no hx;have hsx:(w.alloc (.cells #[.int .i64 0,.string ⟨#[]⟩,.string ⟨#[]⟩,.int .i64 0,.int .i64 0,.int .i64 0,.slice none 0 0] 256)).heap.size=w.heap.size+1:=by simp
 go_enter Tryz.func296,Tryz.ntmps296
 go_wp2_with fail
 generalize w.alloc (.cells #[.int .i64 0,.string ⟨#[]⟩,.string ⟨#[]⟩,.int .i64 0,.int .i64 0,.int .i64 0,.slice none 0 0] 256)=W0 at *;clear ih hc hE;refine(zD9 pb s ⟨#[58,44,41]⟩ r false _ hc0 asc1 (by omega) (by decide)).mono ?_;rintro e w1 ⟨rfl,hc1,hf1⟩;have hs1:=hf1.size;have q21:=hf1.heap q2 (fun h=>by unfold Is at h;omega);have hE1:=hE0.fr hf1 (fun b hb h=>by unfold Is at h;omega);have Hf1:=Lib.hid (hx.mono (T:=Is pb) (fun _ _ h=>h.elim) |>.step hf1 (fun _ _ h=>h));have el1:(⟨#[58,44,41]⟩:ByteArray).data.toList=[58,44,41]:=rfl;rw[el1]at hc1 ⊢;have hup:=zAG [58,44,41] r;have Hup:=Lib.hid hup;have hkl:=zDs [58,44,41] r;have hkd0:upto [58,44,41] r=[]->past [58,44,41] r=r:=fun h=>by rw[h]at hup;simpa using hup
 have Hkd0:=Lib.hid hkd0;generalize upto [58,44,41] r=kd at *;generalize past [58,44,41] r=r1 at *;obtain⟨kb,hkb,hkd⟩:=zLM kd;rw[<-hkb];have hne:kb.toList.isEmpty=decide (kd=[]):=by
  rw[ByteArray.toList_eq,hkd];cases kd<;>simp
 have Hpc:=Lib.hid hpc;have Hkd:=Lib.hid hkd;clear hx hf1 hc0 hE0 q2 el1 hup hkd0 hkb hpc hkd;by_cases hk0:kd=[]
 ·have he:kb.toList.isEmpty=true:=by rw[hne];simp[hk0]
  have h7:=set7 q21 rfl (.int .i64 0) (.string ⟨#[]⟩) (.string ⟨#[]⟩) (.int .i64 0) (.int .i64 0) (.int .i64 0) (.slice none 0 0);have hr1:r1=r:=Hkd0.out hk0;have Hres:Hid (CtRes w pb s r (n+1) (.returned (.agg #[.int .i64 0,.string ⟨#[]⟩,.string ⟨#[]⟩,.int .i64 0,.int .i64 0,.int .i64 0,.slice none 0 0])) (((((((w1.setCell ⟨w.heap.size,0,none⟩ (.int .i64 0)).setCell ⟨w.heap.size,1,none⟩ (.string ⟨#[]⟩)).setCell ⟨w.heap.size,2,none⟩ (.string ⟨#[]⟩)).setCell ⟨w.heap.size,3,none⟩ (.int .i64 0)).setCell ⟨w.heap.size,4,none⟩ (.int .i64 0)).setCell ⟨w.heap.size,5,none⟩ (.int .i64 0)).setCell ⟨w.heap.size,6,none⟩ (.slice none 0 0))):=by
   refine⟨0,⟨#[]⟩,⟨#[]⟩,0,0,0,none,0,0,r,false,rfl,Nat.le_refl _,?_,Hf1.out.step h7.2 (fun b hb h=>by unfold Is at h;omega),.inr ⟨rfl,Ct.zero,?_,?_⟩⟩
   ·rw[hr1]at hc1;exact hc1.fr h7.2 (fun h=>by unfold Is at h;omega)
   ·rw[Hpc.out,if_pos hk0]
   ·exact CAt.of_in (InAt.nil _ _) 0 ⟨#[]⟩ ⟨#[]⟩ 0 0 0
  have Hq:=Lib.hid h7.1;obtain⟨z0,z1,z2,z3,z4,z5,z6⟩:=cl7 q21;obtain⟨f0,f1,f2,f3,f4,f5,f6⟩:=fl7 q21;clear hc1 h7 hne hr1
  go_wp2_with fail
  have y0:=zB Hq.out 0;have y1:=zB Hq.out 1;have y2:=zB Hq.out 2;have y3:=zB Hq.out 3;have y4:=zB Hq.out 4;have y5:=zB Hq.out 5;have y6:=zB Hq.out 6;refine bodyPost_ret (v:=.agg #[.int .i64 0,.string ⟨#[]⟩,.string ⟨#[]⟩,.int .i64 0,.int .i64 0,.int .i64 0,.slice none 0 0]) (by simp[results,Tryz.results296,go_sem,y0,y1,y2,y3,y4,y5,y6]) rfl ?_;exact Hres.out
 have he:kb.toList.isEmpty=false:=by rw[hne];simp[hk0]
 have hk1:1<=kd.length:=by
  rcases hkk:kd with _ | ⟨x,t⟩
  ·exact absurd hkk hk0
  ·simp
 have hr1l:r1.length+1<=r.length:=by have:=congrArg List.length Hup.out;rw[List.length_append]at this;omega
 clear hne
 go_wp2_with fail
 refine(zBy pb s 58 r1 false _ hc1 (by omega)).mono ?_;rintro e w2 ⟨rfl,hc2,hf2⟩;have hsl2:=zAT (b:=58) r1;have hs2:=hf2.size;have q22:=hf2.heap q21 (fun h=>by unfold Is at h;omega);have hE2:=hE1.fr hf2 (fun b hb h=>by unfold Is at h;omega);have Hf2:=Lib.hid (Hf1.out.step hf2 (fun _ _ h=>h));obtain⟨r2,hr2⟩:∃ r2,r2=(zV 58 r1).getD r1:=⟨_,rfl⟩
 obtain⟨b2,hb2⟩:∃ b2,b2=(false||(zV 58 r1).isNone):=⟨_,rfl⟩
 rw[<-hr2,<-hb2]at hc2;rw[<-hr2]at hsl2;have Hr2:=Lib.hid hr2;have Hb2:=Lib.hid hb2;clear hr2 hb2 hf2 hc1 hE1 q21
 go_wp2_with fail
 refine(zD9 pb s ⟨#[58,40,44,41]⟩ r2 b2 _ hc2 asc2 (by omega) (by decide)).mono ?_;rintro e w3 ⟨rfl,hc3,hf3⟩;have hs3:=hf3.size;have q23:=hf3.heap q22 (fun h=>by unfold Is at h;omega);have hE3:=hE2.fr hf3 (fun b hb h=>by unfold Is at h;omega);have Hf3:=Lib.hid (Hf2.out.step hf3 (fun _ _ h=>h));have el2:(⟨#[58,40,44,41]⟩:ByteArray).data.toList=[58,40,44,41]:=rfl;rw[el2]at hc3 ⊢;have hil:=zDs [58,40,44,41] r2;obtain⟨idb,hid⟩:∃ idb,idb=(⟨(upto [58,40,44,41] r2).toArray⟩:ByteArray):=⟨_,rfl⟩
 obtain⟨r3,hr3⟩:∃ r3,r3=past [58,40,44,41] r2:=⟨_,rfl⟩
 rw[<-hid];rw[<-hr3]at hc3 hil;have Hid2:=Lib.hid hid;have Hr3:=Lib.hid hr3;have hX:StX (pC (n+1) r) b2 (pKind n kd idb r3):=by
  rw[Hpc.out,if_neg hk0,Hid2.out,Hr3.out,Hr2.out,Hb2.out];cases h2:zV 58 r1 with
  | none=>exact⟨(fun _=>rfl),(fun h=>by cases h)⟩
  | some t=>exact⟨(fun h=>by cases h),(fun _=>rfl)⟩
 have HX:=Lib.hid hX;have hy:Fr No w3 (w3.alloc (.cells #[.int .i64 0,.string idb,.string ⟨#[]⟩,.int .i64 0,.int .i64 0,.int .i64 0,.slice none 0 0] 256)):=(Fr.refl _ _).alloc _;have q24:=hy.heap q23 (fun h=>h);have q4:=zD w3 (.cells #[.int .i64 0,.string idb,.string ⟨#[]⟩,.int .i64 0,.int .i64 0,.int .i64 0,.slice none 0 0] 256);have hc4:=hc3.no hy;have hE4:=hE3.no hy;have Hf4:=Lib.hid (Hf3.out.step hy (fun _ _ h=>h.elim));have hsy:(w3.alloc (.cells #[.int .i64 0,.string idb,.string ⟨#[]⟩,.int .i64 0,.int .i64 0,.int .i64 0,.slice none 0 0] 256)).heap.size=w3.heap.size+1:=by simp
 have hcl:=hc3.le;clear hid hr3 hX hf3 hc2 hE2 q22 hc3 hE3 q23 hy
 go_upto_region 6 with(fail)
 generalize w3.alloc (.cells #[.int .i64 0,.string idb,.string ⟨#[]⟩,.int .i64 0,.int .i64 0,.int .i64 0,.slice none 0 0] 256)=W4 at *;have k1:=zH6 (m:=[102,115]) Hkd.out;have k2:=zH6 (m:=[114,97,105,100]) Hkd.out;have k3:=zH6 (m:=[99,114,121,112,116]) Hkd.out;have k4:=zH6 (m:=[112,118]) Hkd.out;have k5:=zH6 (m:=[116,97,98,108,101]) Hkd.out;have K1:=Lib.hid k1;have K2:=Lib.hid k2;have K3:=Lib.hid k3;have K4:=Lib.hid k4;have K5:=Lib.hid k5;have hlt4:w.heap.size+1<=w3.heap.size:=by omega
 clear k1 k2 k3 k4 k5 he
 go_cut [19] (fun v wc=>v=.string kb/\W4=wc)
 case first=>
  go_wp2_with fail
  go_meet
  exact⟨rfl,rfl⟩
 obtain⟨rfl,rfl⟩:=hcut;rename_i hK;refine hK _ _ ?_
 go_cut [3] (fun v wc=>v=.string kb/\∃ (k sl t e:Int) (rI:List UInt8) (bI:Bool),wc.heap[w3.heap.size]?=some (.cells #[.int .i64 k,.string idb,.string ⟨#[]⟩,.int .i64 sl,.int .i64 t,.int .i64 e,.slice none 0 0] 256)/\wc.heap[w.heap.size]?=some (.cells #[.int .i64 0,.string ⟨#[]⟩,.string ⟨#[]⟩,.int .i64 0,.int .i64 0,.int .i64 0,.slice none 0 0] 256)/\Cur wc pb s rI bI/\rI.length<=r3.length/\Fr (Is pb) w wc/\Env wc/\W4.heap.size<=wc.heap.size/\Hid (StX (pC (n+1) r) bI ((zV 40 rI).bind fun ra=>(pL n [] ra).bind fun pb=>some (.mk k idb ⟨#[]⟩ sl t e pb.1,pb.2))))
 case first=>
  rcases h1:(kb.toList==[102,115])with _ | _
  ·rcases h2:(kb.toList==[114,97,105,100])with _ | _
   ·rcases h3:(kb.toList==[99,114,121,112,116])with _ | _
    ·rcases h4:(kb.toList==[112,118])with _ | _
     ·rcases h5:(kb.toList==[116,97,98,108,101])with _ | _
      ·have HXp:Hid (StX (pC (n+1) r) b2 none):=by
        have h:=HX.out;unfold pKind at h;rw[if_neg (show ¬ kd=[102,115]from fun e=>by have h9:=K1.out;rw[h1,e]at h9;simp at h9)]at h;rw[if_neg (show ¬ kd=[114,97,105,100]from fun e=>by have h9:=K2.out;rw[h2,e]at h9;simp at h9)]at h;rw[if_neg (show ¬ kd=[99,114,121,112,116]from fun e=>by have h9:=K3.out;rw[h3,e]at h9;simp at h9)]at h;rw[if_neg (show ¬ kd=[112,118]from fun e=>by have h9:=K4.out;rw[h4,e]at h9;simp at h9)]at h;rw[if_neg (show ¬ kd=[116,97,98,108,101]from fun e=>by have h9:=K5.out;rw[h5,e]at h9;simp at h9)]at h;exact h
       obtain⟨at_,hbk,hal,hrd⟩:=hc4.blk;have u2:W4.cell? ⟨pb,2,none⟩=some (.bool b2):=zB hbk 2;have v2:W4.frozen? ⟨pb,2,none⟩=false:=zC hbk 2;have hg:Fr (Is pb) W4 (W4.setCell ⟨pb,2,none⟩ (.bool true)):=Fr.setAt (Fr.refl _ _) _;have hcn:Cur (W4.setCell ⟨pb,2,none⟩ (.bool true)) pb s r3 true:=⟨⟨at_,by rw[zF hbk];rfl,hal,hrd⟩⟩
       have q4n:=hg.heap q4 (fun h=>by unfold Is at h;omega);have q2n:=hg.heap q24 (fun h=>by unfold Is at h;omega);have hEn:=hE4.fr hg (fun b hb h=>by unfold Is at h;omega);have Hfn:=Lib.hid (Hf4.out.step hg (fun _ _ h=>h));have htn:=hg.size;have HXn:Hid (StX (pC (n+1) r) true ((zV 40 r3).bind fun ra=>(pL n [] ra).bind fun pb=>some (.mk 0 idb ⟨#[]⟩ 0 0 0 pb.1,pb.2))):=by
        refine⟨(fun _=>?_),(fun h=>by cases h)⟩;cases b2 with
        | true=>exact HXp.out.1 rfl
        | false=>exact HXp.out.2 rfl
       clear hg hbk hc4 hE4 q4 q24
       go_wp2_with fail
       go_meet
       exact⟨rfl,0,0,0,0,r3,true,q4n,q2n,hcn,by omega,Hfn.out,hEn,by omega,HXn⟩
      ·have HXp:Hid (StX (pC (n+1) r) b2 ((zV 40 r3).bind fun ra=>(pL n [] ra).bind fun pb=>some (.mk 5 idb ⟨#[]⟩ 0 0 0 pb.1,pb.2))):=by
        have h:=HX.out;unfold pKind at h;rw[if_neg (show ¬ kd=[102,115]from fun e=>by have h9:=K1.out;rw[h1,e]at h9;simp at h9)]at h;rw[if_neg (show ¬ kd=[114,97,105,100]from fun e=>by have h9:=K2.out;rw[h2,e]at h9;simp at h9)]at h;rw[if_neg (show ¬ kd=[99,114,121,112,116]from fun e=>by have h9:=K3.out;rw[h3,e]at h9;simp at h9)]at h;rw[if_neg (show ¬ kd=[112,118]from fun e=>by have h9:=K4.out;rw[h4,e]at h9;simp at h9)]at h;rw[if_pos (show kd=[116,97,98,108,101]from by have h9:=K5.out;rw[h5]at h9;exact of_decide_eq_true h9.symm)]at h;exact h
       have hg:Fr (Is w3.heap.size) W4 (W4.setCell ⟨w3.heap.size,0,none⟩ (.int .i64 5)):=Fr.setAt (Fr.refl _ _) _;have q4n:(W4.setCell ⟨w3.heap.size,0,none⟩ (.int .i64 5)).heap[w3.heap.size]?=some (.cells #[.int .i64 5,.string idb,.string ⟨#[]⟩,.int .i64 0,.int .i64 0,.int .i64 0,.slice none 0 0] 256):=(zF q4 0 _).trans rfl;have q2n:=hg.heap q24 (fun h=>by unfold Is at h;omega);have hcn:=hc4.fr hg (fun h=>by unfold Is at h;omega);have hEn:=hE4.fr hg (fun b hb h=>by unfold Is at h;omega);have Hfn:=Lib.hid (Hf4.out.step hg (fun b hb h=>by unfold Is at h;omega));have htn:=hg.size;have u0:W4.cell? ⟨w3.heap.size,0,none⟩=some (.int .i64 0):=zB q4 0;have v0:W4.frozen? ⟨w3.heap.size,0,none⟩=false:=zC q4 0;clear hg hc4 hE4 q4 q24
       go_wp2_with fail
       go_meet
       exact⟨rfl,5,0,0,0,r3,b2,q4n,q2n,hcn,by omega,Hfn.out,hEn,by omega,HXp⟩
     ·have HXp:Hid (StX (pC (n+1) r) b2 ((zV 58 r3).bind fun r4=>(pNum r4).bind fun p5=>(zV 47 p5.2).bind fun r6=>(pNum r6).bind fun p7=>(zV 40 p7.2).bind fun ra=>(pL n [] ra).bind fun pb=>some (.mk 4 idb ⟨#[]⟩ p5.1 p7.1 0 pb.1,pb.2))):=by
       have h:=HX.out;unfold pKind at h;rw[if_neg (show ¬ kd=[102,115]from fun e=>by have h9:=K1.out;rw[h1,e]at h9;simp at h9)]at h;rw[if_neg (show ¬ kd=[114,97,105,100]from fun e=>by have h9:=K2.out;rw[h2,e]at h9;simp at h9)]at h;rw[if_neg (show ¬ kd=[99,114,121,112,116]from fun e=>by have h9:=K3.out;rw[h3,e]at h9;simp at h9)]at h;rw[if_pos (show kd=[112,118]from by have h9:=K4.out;rw[h4]at h9;exact of_decide_eq_true h9.symm)]at h;exact h
      go_wp2_with fail
      refine(zBy pb s 58 r3 b2 _ hc4 (by omega)).mono ?_;rintro ex1 wx1 ⟨rfl,hcx1,hfx1⟩;have hlx1:=zAT (b:=58) r3;have hsx1:=hfx1.size;have q4x1:=hfx1.heap q4 (fun h=>by unfold Is at h;omega);have q2x1:=hfx1.heap q24 (fun h=>by unfold Is at h;omega);have hEx1:=hE4.fr hfx1 (fun b hb h=>by unfold Is at h;omega);have Hfx1:=Lib.hid (Hf4.out.step hfx1 (fun _ _ h=>h));have hXx1:=StX.want HXp.out;obtain⟨rx1,hrx1⟩:∃ rx1,rx1=(zV 58 r3).getD r3:=⟨_,rfl⟩
      obtain⟨bx1,hbx1⟩:∃ bx1,bx1=(b2||(zV 58 r3).isNone):=⟨_,rfl⟩
      rw[<-hrx1,<-hbx1]at hcx1 hXx1;rw[<-hrx1]at hlx1;have HXp:=Lib.hid hXx1;clear hrx1 hbx1 hfx1 hXx1 hc4 hE4 q4 q24
      go_wp2_with fail
      refine(zBz pb s rx1 bx1 _ hcx1 hs hEx1 h9).mono ?_;rintro ex2 wx2 ⟨nx2,rx2,bx2,rfl,hlx2,hcx2,hNx2,hfx2⟩;have hsx2:=hfx2.size;have p4x2:=hfx2.heap q4x1 (fun h=>by unfold Is at h;omega);have p2x2:=hfx2.heap q2x1 (fun h=>by unfold Is at h;omega);have HXp:=Lib.hid (StX.num HXp.out hNx2);have hgx2:Fr (Is w3.heap.size) wx2 ((wx2.setCell ⟨w3.heap.size,0,none⟩ (.int .i64 4)).setCell ⟨w3.heap.size,3,none⟩ (.int .i64 nx2)):=Fr.setAt (Fr.setAt (Fr.refl _ _) _) _;have q4x2:((wx2.setCell ⟨w3.heap.size,0,none⟩ (.int .i64 4)).setCell ⟨w3.heap.size,3,none⟩ (.int .i64 nx2)).heap[w3.heap.size]?=some (.cells #[.int .i64 4,.string idb,.string ⟨#[]⟩,.int .i64 nx2,.int .i64 0,.int .i64 0,.slice none 0 0] 256):=(zF (zF p4x2 0 _) 3 _).trans rfl;have q2x2:=hgx2.heap p2x2 (fun h=>by unfold Is at h;omega);have hdx2:=hcx2.fr hgx2 (fun h=>by unfold Is at h;omega);have hEx2:=(hEx1.fr hfx2 (fun b hb h=>by unfold Is at h;omega)).fr hgx2 (fun b hb h=>by unfold Is at h;omega);have Hfx2:=Lib.hid ((Hfx1.out.step hfx2 (fun _ _ h=>h)).step hgx2 (fun b hb h=>by unfold Is at h;omega));have htx2:=hgx2.size;obtain⟨ux20,-,-,ux23⟩:=cl4 p4x2;obtain⟨vx20,-,-,vx23⟩:=fl4 p4x2;clear hfx2 hgx2 hcx2 hNx2 hcx1 hEx1 q4x1 q2x1 p2x2 p4x2
      go_upto_region 24 with(fail)
      generalize ((wx2.setCell ⟨w3.heap.size,0,none⟩ (.int .i64 4)).setCell ⟨w3.heap.size,3,none⟩ (.int .i64 nx2))=Vx2 at *;clear ux20 vx20 ux23 vx23
      go_wp2_with fail
      refine(zBy pb s 47 rx2 bx2 _ hdx2 (by omega)).mono ?_;rintro ex3 wx3 ⟨rfl,hcx3,hfx3⟩;have hlx3:=zAT (b:=47) rx2;have hsx3:=hfx3.size;have q4x3:=hfx3.heap q4x2 (fun h=>by unfold Is at h;omega);have q2x3:=hfx3.heap q2x2 (fun h=>by unfold Is at h;omega);have hEx3:=hEx2.fr hfx3 (fun b hb h=>by unfold Is at h;omega);have Hfx3:=Lib.hid (Hfx2.out.step hfx3 (fun _ _ h=>h));have hXx3:=StX.want HXp.out;obtain⟨rx3,hrx3⟩:∃ rx3,rx3=(zV 47 rx2).getD rx2:=⟨_,rfl⟩
      obtain⟨bx3,hbx3⟩:∃ bx3,bx3=(bx2||(zV 47 rx2).isNone):=⟨_,rfl⟩
      rw[<-hrx3,<-hbx3]at hcx3 hXx3;rw[<-hrx3]at hlx3;have HXp:=Lib.hid hXx3;clear hrx3 hbx3 hfx3 hXx3 hdx2 hEx2 q4x2 q2x2
      go_wp2_with fail
      refine(zBz pb s rx3 bx3 _ hcx3 hs hEx3 h9).mono ?_;rintro ex4 wx4 ⟨nx4,rx4,bx4,rfl,hlx4,hcx4,hNx4,hfx4⟩;have hsx4:=hfx4.size;have p4x4:=hfx4.heap q4x3 (fun h=>by unfold Is at h;omega);have p2x4:=hfx4.heap q2x3 (fun h=>by unfold Is at h;omega);have HXp:=Lib.hid (StX.num HXp.out hNx4);have hgx4:Fr (Is w3.heap.size) wx4 (wx4.setCell ⟨w3.heap.size,4,none⟩ (.int .i64 nx4)):=Fr.setAt (Fr.refl _ _) _;have q4x4:(wx4.setCell ⟨w3.heap.size,4,none⟩ (.int .i64 nx4)).heap[w3.heap.size]?=some (.cells #[.int .i64 4,.string idb,.string ⟨#[]⟩,.int .i64 nx2,.int .i64 nx4,.int .i64 0,.slice none 0 0] 256):=(zF p4x4 4 _).trans rfl;have q2x4:=hgx4.heap p2x4 (fun h=>by unfold Is at h;omega);have hdx4:=hcx4.fr hgx4 (fun h=>by unfold Is at h;omega);have hEx4:=(hEx3.fr hfx4 (fun b hb h=>by unfold Is at h;omega)).fr hgx4 (fun b hb h=>by unfold Is at h;omega);have Hfx4:=Lib.hid ((Hfx3.out.step hfx4 (fun _ _ h=>h)).step hgx4 (fun b hb h=>by unfold Is at h;omega));have htx4:=hgx4.size;have ux44:wx4.cell? ⟨w3.heap.size,4,none⟩=some (.int .i64 0):=zB p4x4 4;have vx44:wx4.frozen? ⟨w3.heap.size,4,none⟩=false:=zC p4x4 4;clear hfx4 hgx4 hcx4 hNx4 hcx3 hEx3 q4x3 q2x3 p2x4 p4x4
      go_wp2_with fail
      go_meet
      exact⟨rfl,4,nx2,nx4,0,rx4,bx4,q4x4,q2x4,hdx4,by omega,Hfx4.out,hEx4,by omega,HXp⟩
    ·have HXp:Hid (StX (pC (n+1) r) b2 ((zV 40 r3).bind fun ra=>(pL n [] ra).bind fun pb=>some (.mk 3 idb ⟨#[]⟩ 0 0 0 pb.1,pb.2))):=by
      have h:=HX.out;unfold pKind at h;rw[if_neg (show ¬ kd=[102,115]from fun e=>by have h9:=K1.out;rw[h1,e]at h9;simp at h9)]at h;rw[if_neg (show ¬ kd=[114,97,105,100]from fun e=>by have h9:=K2.out;rw[h2,e]at h9;simp at h9)]at h;rw[if_pos (show kd=[99,114,121,112,116]from by have h9:=K3.out;rw[h3]at h9;exact of_decide_eq_true h9.symm)]at h;exact h
     have hg:Fr (Is w3.heap.size) W4 (W4.setCell ⟨w3.heap.size,0,none⟩ (.int .i64 3)):=Fr.setAt (Fr.refl _ _) _;have q4n:(W4.setCell ⟨w3.heap.size,0,none⟩ (.int .i64 3)).heap[w3.heap.size]?=some (.cells #[.int .i64 3,.string idb,.string ⟨#[]⟩,.int .i64 0,.int .i64 0,.int .i64 0,.slice none 0 0] 256):=(zF q4 0 _).trans rfl;have q2n:=hg.heap q24 (fun h=>by unfold Is at h;omega);have hcn:=hc4.fr hg (fun h=>by unfold Is at h;omega);have hEn:=hE4.fr hg (fun b hb h=>by unfold Is at h;omega);have Hfn:=Lib.hid (Hf4.out.step hg (fun b hb h=>by unfold Is at h;omega));have htn:=hg.size;have u0:W4.cell? ⟨w3.heap.size,0,none⟩=some (.int .i64 0):=zB q4 0;have v0:W4.frozen? ⟨w3.heap.size,0,none⟩=false:=zC q4 0;clear hg hc4 hE4 q4 q24
     go_wp2_with fail
     go_meet
     exact⟨rfl,3,0,0,0,r3,b2,q4n,q2n,hcn,by omega,Hfn.out,hEn,by omega,HXp⟩
   ·have HXp:Hid (StX (pC (n+1) r) b2 ((zV 58 r3).bind fun r4=>(pNum r4).bind fun p5=>(zV 47 p5.2).bind fun r6=>(pNum r6).bind fun p7=>(zV 47 p7.2).bind fun r8=>(pNum r8).bind fun p9=>(zV 40 p9.2).bind fun ra=>(pL n [] ra).bind fun pb=>some (.mk 2 idb ⟨#[]⟩ p5.1 p7.1 p9.1 pb.1,pb.2))):=by
     have h:=HX.out;unfold pKind at h;rw[if_neg (show ¬ kd=[102,115]from fun e=>by have h9:=K1.out;rw[h1,e]at h9;simp at h9)]at h;rw[if_pos (show kd=[114,97,105,100]from by have h9:=K2.out;rw[h2]at h9;exact of_decide_eq_true h9.symm)]at h;exact h
    go_wp2_with fail
    refine(zBy pb s 58 r3 b2 _ hc4 (by omega)).mono ?_;rintro ex1 wx1 ⟨rfl,hcx1,hfx1⟩;have hlx1:=zAT (b:=58) r3;have hsx1:=hfx1.size;have q4x1:=hfx1.heap q4 (fun h=>by unfold Is at h;omega);have q2x1:=hfx1.heap q24 (fun h=>by unfold Is at h;omega);have hEx1:=hE4.fr hfx1 (fun b hb h=>by unfold Is at h;omega);have Hfx1:=Lib.hid (Hf4.out.step hfx1 (fun _ _ h=>h));have hXx1:=StX.want HXp.out;obtain⟨rx1,hrx1⟩:∃ rx1,rx1=(zV 58 r3).getD r3:=⟨_,rfl⟩
    obtain⟨bx1,hbx1⟩:∃ bx1,bx1=(b2||(zV 58 r3).isNone):=⟨_,rfl⟩
    rw[<-hrx1,<-hbx1]at hcx1 hXx1;rw[<-hrx1]at hlx1;have HXp:=Lib.hid hXx1;clear hrx1 hbx1 hfx1 hXx1 hc4 hE4 q4 q24
    go_wp2_with fail
    refine(zBz pb s rx1 bx1 _ hcx1 hs hEx1 h9).mono ?_;rintro ex2 wx2 ⟨nx2,rx2,bx2,rfl,hlx2,hcx2,hNx2,hfx2⟩;have hsx2:=hfx2.size;have p4x2:=hfx2.heap q4x1 (fun h=>by unfold Is at h;omega);have p2x2:=hfx2.heap q2x1 (fun h=>by unfold Is at h;omega);have HXp:=Lib.hid (StX.num HXp.out hNx2);have hgx2:Fr (Is w3.heap.size) wx2 ((wx2.setCell ⟨w3.heap.size,0,none⟩ (.int .i64 2)).setCell ⟨w3.heap.size,3,none⟩ (.int .i64 nx2)):=Fr.setAt (Fr.setAt (Fr.refl _ _) _) _;have q4x2:((wx2.setCell ⟨w3.heap.size,0,none⟩ (.int .i64 2)).setCell ⟨w3.heap.size,3,none⟩ (.int .i64 nx2)).heap[w3.heap.size]?=some (.cells #[.int .i64 2,.string idb,.string ⟨#[]⟩,.int .i64 nx2,.int .i64 0,.int .i64 0,.slice none 0 0] 256):=(zF (zF p4x2 0 _) 3 _).trans rfl;have q2x2:=hgx2.heap p2x2 (fun h=>by unfold Is at h;omega);have hdx2:=hcx2.fr hgx2 (fun h=>by unfold Is at h;omega);have hEx2:=(hEx1.fr hfx2 (fun b hb h=>by unfold Is at h;omega)).fr hgx2 (fun b hb h=>by unfold Is at h;omega);have Hfx2:=Lib.hid ((Hfx1.out.step hfx2 (fun _ _ h=>h)).step hgx2 (fun b hb h=>by unfold Is at h;omega));have htx2:=hgx2.size;obtain⟨ux20,-,-,ux23⟩:=cl4 p4x2;obtain⟨vx20,-,-,vx23⟩:=fl4 p4x2;clear hfx2 hgx2 hcx2 hNx2 hcx1 hEx1 q4x1 q2x1 p2x2 p4x2
    go_upto_region 15 with(fail)
    generalize ((wx2.setCell ⟨w3.heap.size,0,none⟩ (.int .i64 2)).setCell ⟨w3.heap.size,3,none⟩ (.int .i64 nx2))=Vx2 at *;clear ux20 vx20 ux23 vx23
    go_wp2_with fail
    refine(zBy pb s 47 rx2 bx2 _ hdx2 (by omega)).mono ?_;rintro ex3 wx3 ⟨rfl,hcx3,hfx3⟩;have hlx3:=zAT (b:=47) rx2;have hsx3:=hfx3.size;have q4x3:=hfx3.heap q4x2 (fun h=>by unfold Is at h;omega);have q2x3:=hfx3.heap q2x2 (fun h=>by unfold Is at h;omega);have hEx3:=hEx2.fr hfx3 (fun b hb h=>by unfold Is at h;omega);have Hfx3:=Lib.hid (Hfx2.out.step hfx3 (fun _ _ h=>h));have hXx3:=StX.want HXp.out;obtain⟨rx3,hrx3⟩:∃ rx3,rx3=(zV 47 rx2).getD rx2:=⟨_,rfl⟩
    obtain⟨bx3,hbx3⟩:∃ bx3,bx3=(bx2||(zV 47 rx2).isNone):=⟨_,rfl⟩
    rw[<-hrx3,<-hbx3]at hcx3 hXx3;rw[<-hrx3]at hlx3;have HXp:=Lib.hid hXx3;clear hrx3 hbx3 hfx3 hXx3 hdx2 hEx2 q4x2 q2x2
    go_wp2_with fail
    refine(zBz pb s rx3 bx3 _ hcx3 hs hEx3 h9).mono ?_;rintro ex4 wx4 ⟨nx4,rx4,bx4,rfl,hlx4,hcx4,hNx4,hfx4⟩;have hsx4:=hfx4.size;have p4x4:=hfx4.heap q4x3 (fun h=>by unfold Is at h;omega);have p2x4:=hfx4.heap q2x3 (fun h=>by unfold Is at h;omega);have HXp:=Lib.hid (StX.num HXp.out hNx4);have hgx4:Fr (Is w3.heap.size) wx4 (wx4.setCell ⟨w3.heap.size,4,none⟩ (.int .i64 nx4)):=Fr.setAt (Fr.refl _ _) _;have q4x4:(wx4.setCell ⟨w3.heap.size,4,none⟩ (.int .i64 nx4)).heap[w3.heap.size]?=some (.cells #[.int .i64 2,.string idb,.string ⟨#[]⟩,.int .i64 nx2,.int .i64 nx4,.int .i64 0,.slice none 0 0] 256):=(zF p4x4 4 _).trans rfl;have q2x4:=hgx4.heap p2x4 (fun h=>by unfold Is at h;omega);have hdx4:=hcx4.fr hgx4 (fun h=>by unfold Is at h;omega);have hEx4:=(hEx3.fr hfx4 (fun b hb h=>by unfold Is at h;omega)).fr hgx4 (fun b hb h=>by unfold Is at h;omega);have Hfx4:=Lib.hid ((Hfx3.out.step hfx4 (fun _ _ h=>h)).step hgx4 (fun b hb h=>by unfold Is at h;omega));have htx4:=hgx4.size;have ux44:wx4.cell? ⟨w3.heap.size,4,none⟩=some (.int .i64 0):=zB p4x4 4;have vx44:wx4.frozen? ⟨w3.heap.size,4,none⟩=false:=zC p4x4 4;clear hfx4 hgx4 hcx4 hNx4 hcx3 hEx3 q4x3 q2x3 p2x4 p4x4
    go_upto_region 17 with(fail)
    generalize (wx4.setCell ⟨w3.heap.size,4,none⟩ (.int .i64 nx4))=Vx4 at *;clear ux44 vx44
    go_wp2_with fail
    refine(zBy pb s 47 rx4 bx4 _ hdx4 (by omega)).mono ?_;rintro ex5 wx5 ⟨rfl,hcx5,hfx5⟩;have hlx5:=zAT (b:=47) rx4;have hsx5:=hfx5.size;have q4x5:=hfx5.heap q4x4 (fun h=>by unfold Is at h;omega);have q2x5:=hfx5.heap q2x4 (fun h=>by unfold Is at h;omega);have hEx5:=hEx4.fr hfx5 (fun b hb h=>by unfold Is at h;omega);have Hfx5:=Lib.hid (Hfx4.out.step hfx5 (fun _ _ h=>h));have hXx5:=StX.want HXp.out;obtain⟨rx5,hrx5⟩:∃ rx5,rx5=(zV 47 rx4).getD rx4:=⟨_,rfl⟩
    obtain⟨bx5,hbx5⟩:∃ bx5,bx5=(bx4||(zV 47 rx4).isNone):=⟨_,rfl⟩
    rw[<-hrx5,<-hbx5]at hcx5 hXx5;rw[<-hrx5]at hlx5;have HXp:=Lib.hid hXx5;clear hrx5 hbx5 hfx5 hXx5 hdx4 hEx4 q4x4 q2x4
    go_wp2_with fail
    refine(zBz pb s rx5 bx5 _ hcx5 hs hEx5 h9).mono ?_;rintro ex6 wx6 ⟨nx6,rx6,bx6,rfl,hlx6,hcx6,hNx6,hfx6⟩;have hsx6:=hfx6.size;have p4x6:=hfx6.heap q4x5 (fun h=>by unfold Is at h;omega);have p2x6:=hfx6.heap q2x5 (fun h=>by unfold Is at h;omega);have HXp:=Lib.hid (StX.num HXp.out hNx6);have hgx6:Fr (Is w3.heap.size) wx6 (wx6.setCell ⟨w3.heap.size,5,none⟩ (.int .i64 nx6)):=Fr.setAt (Fr.refl _ _) _;have q4x6:(wx6.setCell ⟨w3.heap.size,5,none⟩ (.int .i64 nx6)).heap[w3.heap.size]?=some (.cells #[.int .i64 2,.string idb,.string ⟨#[]⟩,.int .i64 nx2,.int .i64 nx4,.int .i64 nx6,.slice none 0 0] 256):=(zF p4x6 5 _).trans rfl;have q2x6:=hgx6.heap p2x6 (fun h=>by unfold Is at h;omega);have hdx6:=hcx6.fr hgx6 (fun h=>by unfold Is at h;omega);have hEx6:=(hEx5.fr hfx6 (fun b hb h=>by unfold Is at h;omega)).fr hgx6 (fun b hb h=>by unfold Is at h;omega);have Hfx6:=Lib.hid ((Hfx5.out.step hfx6 (fun _ _ h=>h)).step hgx6 (fun b hb h=>by unfold Is at h;omega));have htx6:=hgx6.size;have ux65:wx6.cell? ⟨w3.heap.size,5,none⟩=some (.int .i64 0):=zB p4x6 5;have vx65:wx6.frozen? ⟨w3.heap.size,5,none⟩=false:=zC p4x6 5;clear hfx6 hgx6 hcx6 hNx6 hcx5 hEx5 q4x5 q2x5 p2x6 p4x6
    go_wp2_with fail
    go_meet
    exact⟨rfl,2,nx2,nx4,nx6,rx6,bx6,q4x6,q2x6,hdx6,by omega,Hfx6.out,hEx6,by omega,HXp⟩
  ·have HXp:Hid (StX (pC (n+1) r) b2 ((zV 58 r3).bind fun r4=>some (.mk 1 idb ⟨(upto [44,41] r4).toArray⟩ 0 0 0 [],past [44,41] r4))):=by
    have h:=HX.out;unfold pKind at h;rw[if_pos (show kd=[102,115]from by have h9:=K1.out;rw[h1]at h9;exact of_decide_eq_true h9.symm)]at h;exact h
   go_wp2_with fail
   refine(zBy pb s 58 r3 b2 _ hc4 (by omega)).mono ?_;rintro ex1 wx1 ⟨rfl,hcx1,hfx1⟩;have hlx1:=zAT (b:=58) r3;have hsx1:=hfx1.size;have q4x1:=hfx1.heap q4 (fun h=>by unfold Is at h;omega);have q2x1:=hfx1.heap q24 (fun h=>by unfold Is at h;omega);have hEx1:=hE4.fr hfx1 (fun b hb h=>by unfold Is at h;omega);have Hfx1:=Lib.hid (Hf4.out.step hfx1 (fun _ _ h=>h));have hXx1:=StX.want HXp.out;obtain⟨rx1,hrx1⟩:∃ rx1,rx1=(zV 58 r3).getD r3:=⟨_,rfl⟩
   obtain⟨bx1,hbx1⟩:∃ bx1,bx1=(b2||(zV 58 r3).isNone):=⟨_,rfl⟩
   rw[<-hrx1,<-hbx1]at hcx1 hXx1;rw[<-hrx1]at hlx1;have HXp:=Lib.hid hXx1;clear hrx1 hbx1 hfx1 hXx1 hc4 hE4 q4 q24
   go_wp2_with fail
   refine(zD9 pb s ⟨#[44,41]⟩ rx1 bx1 _ hcx1 asc3 (by omega) (by decide)).mono ?_;rintro ex2 wx2 ⟨rfl,hcx2,hfx2⟩;have el3:(⟨#[44,41]⟩:ByteArray).data.toList=[44,41]:=rfl;rw[el3]at hcx2 ⊢;have hpl3:=zDs [44,41] rx1;have hX5:=HXp.out;obtain⟨lab,hlab⟩:∃ lab,lab=(⟨(upto [44,41] rx1).toArray⟩:ByteArray):=⟨_,rfl⟩
   rw[<-hlab]at hX5 ⊢;generalize past [44,41] rx1=r9 at *;have hsx2:=hfx2.size;have p4:=hfx2.heap q4x1 (fun h=>by unfold Is at h;omega);have p2:=hfx2.heap q2x1 (fun h=>by unfold Is at h;omega);have hg:Fr (Is w3.heap.size) wx2 ((wx2.setCell ⟨w3.heap.size,0,none⟩ (.int .i64 1)).setCell ⟨w3.heap.size,2,none⟩ (.string lab)):=Fr.setAt (Fr.setAt (Fr.refl _ _) _) _;have q49:((wx2.setCell ⟨w3.heap.size,0,none⟩ (.int .i64 1)).setCell ⟨w3.heap.size,2,none⟩ (.string lab)).heap[w3.heap.size]?=some (.cells #[.int .i64 1,.string idb,.string lab,.int .i64 0,.int .i64 0,.int .i64 0,.slice none 0 0] 256):=(zF (zF p4 0 _) 2 _).trans rfl;have q29:=hg.heap p2 (fun h=>by unfold Is at h;omega);have h7:=set7 q29 rfl (.int .i64 1) (.string idb) (.string lab) (.int .i64 0) (.int .i64 0) (.int .i64 0) (.slice none 0 0);have Hres:Hid (CtRes w pb s r (n+1) (.returned (.agg #[.int .i64 1,.string idb,.string lab,.int .i64 0,.int .i64 0,.int .i64 0,.slice none 0 0])) (((((((((wx2.setCell ⟨w3.heap.size,0,none⟩ (.int .i64 1)).setCell ⟨w3.heap.size,2,none⟩ (.string lab)).setCell ⟨w.heap.size,0,none⟩ (.int .i64 1)).setCell ⟨w.heap.size,1,none⟩ (.string idb)).setCell ⟨w.heap.size,2,none⟩ (.string lab)).setCell ⟨w.heap.size,3,none⟩ (.int .i64 0)).setCell ⟨w.heap.size,4,none⟩ (.int .i64 0)).setCell ⟨w.heap.size,5,none⟩ (.int .i64 0)).setCell ⟨w.heap.size,6,none⟩ (.slice none 0 0))):=by
    refine⟨1,idb,lab,0,0,0,none,0,0,r9,bx1,rfl,by omega,(hcx2.fr hg (fun h=>by unfold Is at h;omega)).fr h7.2 (fun h=>by unfold Is at h;omega),((Hfx1.out.step hfx2 (fun _ _ h=>h)).step hg (fun b hb h=>by unfold Is at h;omega)).step h7.2 (fun b hb h=>by unfold Is at h;omega),?_⟩;cases bx1 with
    | true=>exact .inl ⟨rfl,hX5.1 rfl⟩
    | false=>exact .inr ⟨rfl,_,hX5.2 rfl,CAt.of_in (InAt.nil _ _) 1 idb lab 0 0 0⟩
   obtain⟨u0,-,u2⟩:=cl3 p4;obtain⟨v0,-,v2⟩:=fl3 p4;have Hq:=Lib.hid h7.1;have Hq4:=Lib.hid q49;have Hq2:=Lib.hid q29;clear h7 hX5 hcx2 hfx2 hlab hg p4 p2 hcx1 hEx1 q4x1 q2x1 q49 q29
   go_upto_region 11 with(fail)
   generalize ((wx2.setCell ⟨w3.heap.size,0,none⟩ (.int .i64 1)).setCell ⟨w3.heap.size,2,none⟩ (.string lab))=W7 at *;clear u0 v0 u2 v2;have a0:W7.cell? ⟨w3.heap.size,0,none⟩=some (.int .i64 1):=zB Hq4.out 0;have a1:W7.cell? ⟨w3.heap.size,1,none⟩=some (.string idb):=zB Hq4.out 1;have a2:W7.cell? ⟨w3.heap.size,2,none⟩=some (.string lab):=zB Hq4.out 2;have a3:W7.cell? ⟨w3.heap.size,3,none⟩=some (.int .i64 0):=zB Hq4.out 3;have a4:W7.cell? ⟨w3.heap.size,4,none⟩=some (.int .i64 0):=zB Hq4.out 4;have a5:W7.cell? ⟨w3.heap.size,5,none⟩=some (.int .i64 0):=zB Hq4.out 5;have a6:W7.cell? ⟨w3.heap.size,6,none⟩=some (.slice none 0 0):=zB Hq4.out 6;have b0:W7.cell? ⟨w.heap.size,0,none⟩=some (.int .i64 0):=zB Hq2.out 0;have b1:W7.cell? ⟨w.heap.size,1,none⟩=some (.string ⟨#[]⟩):=zB Hq2.out 1;have b2:W7.cell? ⟨w.heap.size,2,none⟩=some (.string ⟨#[]⟩):=zB Hq2.out 2;have b3:W7.cell? ⟨w.heap.size,3,none⟩=some (.int .i64 0):=zB Hq2.out 3;have b4:W7.cell? ⟨w.heap.size,4,none⟩=some (.int .i64 0):=zB Hq2.out 4;have b5:W7.cell? ⟨w.heap.size,5,none⟩=some (.int .i64 0):=zB Hq2.out 5;have b6:W7.cell? ⟨w.heap.size,6,none⟩=some (.slice none 0 0):=zB Hq2.out 6;have bf0:W7.frozen? ⟨w.heap.size,0,none⟩=false:=zC Hq2.out 0;have bf1:W7.frozen? ⟨w.heap.size,1,none⟩=false:=zC Hq2.out 1;have bf2:W7.frozen? ⟨w.heap.size,2,none⟩=false:=zC Hq2.out 2;have bf3:W7.frozen? ⟨w.heap.size,3,none⟩=false:=zC Hq2.out 3;have bf4:W7.frozen? ⟨w.heap.size,4,none⟩=false:=zC Hq2.out 4;have bf5:W7.frozen? ⟨w.heap.size,5,none⟩=false:=zC Hq2.out 5;have bf6:W7.frozen? ⟨w.heap.size,6,none⟩=false:=zC Hq2.out 6
   go_wp2_with fail
   have y0:=zB Hq.out 0;have y1:=zB Hq.out 1;have y2:=zB Hq.out 2;have y3:=zB Hq.out 3;have y4:=zB Hq.out 4;have y5:=zB Hq.out 5;have y6:=zB Hq.out 6;refine bodyPost_ret (v:=.agg #[.int .i64 1,.string idb,.string lab,.int .i64 0,.int .i64 0,.int .i64 0,.slice none 0 0]) (by simp[results,Tryz.results296,go_sem,y0,y1,y2,y3,y4,y5,y6]) rfl ?_;exact Hres.out
 case rest=>
  obtain⟨rfl,k,sl,t,e,rI,bI,q4c,q2c,hcc,hrI,hfc,hEc,hsc,HXc⟩:=hcut;obtain⟨W5,rfl⟩:∃ W5,W5=wc:=⟨_,rfl⟩
  go_wp2_with fail
  refine(hIn pb s rI bI _ (by omega) hcc hs hEc h9).mono ?_;rintro e6 w6 ⟨a,m,c,r6,b6,rfl,hr6,hc6,hf6,hb6,hcase⟩;have hs6:=hf6.size;have q46:=hf6.heap q4c (fun h=>by unfold Is at h;omega);have q26:=hf6.heap q2c (fun h=>by unfold Is at h;omega);have q47:=zF q46 6 (.slice a m c);have q27:(w6.setCell ⟨w3.heap.size,6,none⟩ (.slice a m c)).heap[w.heap.size]?=some (.cells #[.int .i64 0,.string ⟨#[]⟩,.string ⟨#[]⟩,.int .i64 0,.int .i64 0,.int .i64 0,.slice none 0 0] 256):=((Fr.refl (Is w3.heap.size) w6).setAt (i:=6) (.slice a m c)).heap q26 (fun h=>by unfold Is at h;omega);have e47:(#[.int .i64 k,.string idb,.string ⟨#[]⟩,.int .i64 sl,.int .i64 t,.int .i64 e,.slice none 0 0]:Array Value).setIfInBounds 6 (.slice a m c)=#[.int .i64 k,.string idb,.string ⟨#[]⟩,.int .i64 sl,.int .i64 t,.int .i64 e,.slice a m c]:=rfl;rw[e47]at q47;have fA:Fr (Is w3.heap.size) w6 (w6.setCell ⟨w3.heap.size,6,none⟩ (.slice a m c)):=(Fr.refl _ _).setAt _;have h7:=set7 q27 rfl (.int .i64 k) (.string idb) (.string ⟨#[]⟩) (.int .i64 sl) (.int .i64 t) (.int .i64 e) (.slice a m c);have Hres:Hid (CtRes w pb s r (n+1) (.returned (.agg #[.int .i64 k,.string idb,.string ⟨#[]⟩,.int .i64 sl,.int .i64 t,.int .i64 e,.slice a m c])) ((((((((w6.setCell ⟨w3.heap.size,6,none⟩ (.slice a m c)).setCell ⟨w.heap.size,0,none⟩ (.int .i64 k)).setCell ⟨w.heap.size,1,none⟩ (.string idb)).setCell ⟨w.heap.size,2,none⟩ (.string ⟨#[]⟩)).setCell ⟨w.heap.size,3,none⟩ (.int .i64 sl)).setCell ⟨w.heap.size,4,none⟩ (.int .i64 t)).setCell ⟨w.heap.size,5,none⟩ (.int .i64 e)).setCell ⟨w.heap.size,6,none⟩ (.slice a m c))):=by
   have fB:=h7.2;refine⟨k,idb,⟨#[]⟩,sl,t,e,a,m,c,r6,b6,rfl,by omega,(hc6.fr fA (fun h=>by unfold Is at h;omega)).fr fB (fun h=>by unfold Is at h;omega),((hfc.step hf6 (fun _ _ h=>h)).step fA (fun b hb h=>by unfold Is at h;omega)).step fB (fun b hb h=>by unfold Is at h;omega),?_⟩;have hassoc:((zV 40 rI).bind fun ra=>(pL n [] ra).bind fun pb=>some (Ct.mk k idb ⟨#[]⟩ sl t e pb.1,pb.2))=((zV 40 rI).bind (pL n [])).bind fun pb=>some (Ct.mk k idb ⟨#[]⟩ sl t e pb.1,pb.2):=by
    cases zV 40 rI<;>rfl
   cases bI with
   | true=>exact .inl ⟨hb6 rfl,HXc.out.1 rfl⟩
   | false=>
    have h1:=HXc.out.2 rfl;rw[hassoc]at h1;rcases hcase rfl with⟨h2,h3⟩ | ⟨h2,cs,h3,h4,h5⟩
    ·rw[h3]at h1;exact .inl ⟨h2,h1⟩
    ·rw[h3]at h1;refine .inr ⟨h2,_,h1,?_⟩;subst h4;refine CAt.of_in ?_ k idb ⟨#[]⟩ sl t e;exact((h5.fr fA (fun b hb h=>by unfold Is at h;unfold From at hb;omega)).fr fB (fun b hb h=>by unfold Is at h;unfold From at hb;omega)).mono (fun b _ hb=>by unfold From at *;omega)
  have z6:w6.cell? ⟨w3.heap.size,6,none⟩=some (.slice none 0 0):=zB q46 6;have f6:w6.frozen? ⟨w3.heap.size,6,none⟩=false:=zC q46 6;have Hq:=Lib.hid h7.1;have Hq4:=Lib.hid q47;have Hq2:=Lib.hid q27;clear hcase hc6 hf6 q26 q46 hcc hEc hfc q4c q2c h7 fA q47 q27 e47 hb6
  go_upto_region 29 with(fail)
  generalize w6.setCell ⟨w3.heap.size,6,none⟩ (.slice a m c)=W7 at *;have a0:W7.cell? ⟨w3.heap.size,0,none⟩=some (.int .i64 k):=zB Hq4.out 0;have a1:W7.cell? ⟨w3.heap.size,1,none⟩=some (.string idb):=zB Hq4.out 1;have a2:W7.cell? ⟨w3.heap.size,2,none⟩=some (.string ⟨#[]⟩):=zB Hq4.out 2;have a3:W7.cell? ⟨w3.heap.size,3,none⟩=some (.int .i64 sl):=zB Hq4.out 3;have a4:W7.cell? ⟨w3.heap.size,4,none⟩=some (.int .i64 t):=zB Hq4.out 4;have a5:W7.cell? ⟨w3.heap.size,5,none⟩=some (.int .i64 e):=zB Hq4.out 5;have a6:W7.cell? ⟨w3.heap.size,6,none⟩=some (.slice a m c):=zB Hq4.out 6;have b0:W7.cell? ⟨w.heap.size,0,none⟩=some (.int .i64 0):=zB Hq2.out 0;have b1:W7.cell? ⟨w.heap.size,1,none⟩=some (.string ⟨#[]⟩):=zB Hq2.out 1;have b2:W7.cell? ⟨w.heap.size,2,none⟩=some (.string ⟨#[]⟩):=zB Hq2.out 2;have b3:W7.cell? ⟨w.heap.size,3,none⟩=some (.int .i64 0):=zB Hq2.out 3;have b4:W7.cell? ⟨w.heap.size,4,none⟩=some (.int .i64 0):=zB Hq2.out 4;have b5:W7.cell? ⟨w.heap.size,5,none⟩=some (.int .i64 0):=zB Hq2.out 5;have b6:W7.cell? ⟨w.heap.size,6,none⟩=some (.slice none 0 0):=zB Hq2.out 6;have bf0:W7.frozen? ⟨w.heap.size,0,none⟩=false:=zC Hq2.out 0;have bf1:W7.frozen? ⟨w.heap.size,1,none⟩=false:=zC Hq2.out 1;have bf2:W7.frozen? ⟨w.heap.size,2,none⟩=false:=zC Hq2.out 2;have bf3:W7.frozen? ⟨w.heap.size,3,none⟩=false:=zC Hq2.out 3;have bf4:W7.frozen? ⟨w.heap.size,4,none⟩=false:=zC Hq2.out 4;have bf5:W7.frozen? ⟨w.heap.size,5,none⟩=false:=zC Hq2.out 5;have bf6:W7.frozen? ⟨w.heap.size,6,none⟩=false:=zC Hq2.out 6
  go_wp2_with fail
  have y0:=zB Hq.out 0;have y1:=zB Hq.out 1;have y2:=zB Hq.out 2;have y3:=zB Hq.out 3;have y4:=zB Hq.out 4;have y5:=zB Hq.out 5;have y6:=zB Hq.out 6;refine bodyPost_ret (v:=.agg #[.int .i64 k,.string idb,.string ⟨#[]⟩,.int .i64 sl,.int .i64 t,.int .i64 e,.slice a m c]) (by simp[results,Tryz.results296,go_sem,y0,y1,y2,y3,y4,y5,y6]) rfl ?_;exact Hres.out
end Go.Proofs.YtmajgldaplkpiaaGreatDoor
