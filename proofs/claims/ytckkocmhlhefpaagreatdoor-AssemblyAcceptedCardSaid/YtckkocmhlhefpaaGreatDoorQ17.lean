import Derived.Test.YtckkocmhlhefpaaGreatDoorQ16
namespace Go.Proofs.YtckkocmhlhefpaaGreatDoor
open Go.RowKit Go.Maps
set_option linter.unusedVariables false
set_option maxRecDepth 100000
set_option maxHeartbeats 4000000
open CAt renaming of_in->ah
open Fr renaming setAt->S,refl->K
open Go renaming Value->aa,bodyPost_ret->af,results->ag
open Go.Proofs.Tryz renaming results240->ai
open Go.RowKit renaming Hid->p
open IntKind renaming i64->C
open Obj renaming cells->f
open Value renaming int->E,string->G,slice->B,agg->ab
open _root_ renaming Nat->q,List->P,UInt8->M,if_neg->L,ByteArray->g,Option->ac,if_pos->ad,of_decide_eq_true->ae
open _root_.ByteArray renaming empty->aj
open _root_.List renaming length->ak,length_append->al,mem_of_getElem?->am
open _root_.Option renaming none->Q,some->H
variable{b:Bool}{cs:P Ct}{l r:P M}{X:ac (Ct×P M)}{o:P aa}
theorem set7 {W:World}{b:q}{cs:Array aa}{T:TypeId}(h:W.heap[b]?=H (f cs T))(I:cs.size=7)(o u v y z A D:aa):
  (((((((W.setCell ⟨b,0,Q⟩ o).setCell ⟨b,1,Q⟩ u).setCell ⟨b,2,Q⟩ v).setCell ⟨b,3,Q⟩ y).setCell ⟨b,4,Q⟩ z).setCell ⟨b,5,Q⟩ A).setCell ⟨b,6,Q⟩ D).heap[b]?=H (f #[o,u,v,y,z,A,D] T)/\Fr (Is b) W (((((((W.setCell ⟨b,0,Q⟩ o).setCell ⟨b,1,Q⟩ u).setCell ⟨b,2,Q⟩ v).setCell ⟨b,3,Q⟩ y).setCell ⟨b,4,Q⟩ z).setCell ⟨b,5,Q⟩ A).setCell ⟨b,6,Q⟩ D):=by
 refine⟨?_,S (S (S (S (S (S (S (K _ _) _) _) _) _) _) _) _⟩;obtain⟨l⟩:=cs
 match l,I with
 | [_,_,_,_,_,_,_],_=>
  have J:=zE h 0 o;have N:=zE J 1 u;have O:=zE N 2 v;have R:=zE O 3 y;have U:=zE R 4 z;have V:=zE U 5 A;have F:=zE V 6 D;simp only[List.setIfInBounds_toArray,List.set_cons_zero,List.set_cons_succ]at F;exact F
theorem zC5 (h:∀ x∈l,x.toNat<128):Ascii ⟨l.toArray⟩:=λj b o=>h b (by
 have u:b∈(⟨l.toArray⟩:g).data.toList:=am o
 simpa using u)
theorem asc1: Ascii ⟨#[58,44,41]⟩:=zC5 (l:=[58,44,41]) (by decide)
theorem asc2: Ascii ⟨#[58,40,44,41]⟩:=zC5 (l:=[58,40,44,41]) (by decide)
theorem asc3: Ascii ⟨#[44,41]⟩:=zC5 (l:=[44,41]) (by decide)
theorem zFM (e r:P M):(past e r).length<=r.length:=by
 have:=congrArg ak (zAU e r);rw[al]at this;omega
theorem zPS (l:P M):∃ b:g,b=⟨l.toArray⟩/\b.data.toList=l:=⟨_,rfl,rfl⟩
theorem zK8 {b:g}{m:P M}(h:b.data.toList=l):(b.toList==m)=decide (l=m):=by
 rw[ByteArray.toList_eq,h,Bool.eq_iff_iff,beq_iff_eq,decide_eq_true_iff]
def pKind (n:q)(kd:P M)(id:g)(r3:P M):ac (Ct×P M):=
 if kd=[102,115]then
  (zW 58 r3).bind λr4=>H (.mk 1 id ⟨(upto [44,41] r4).toArray⟩ 0 0 0 [],past [44,41] r4)
 else if kd=[114,97,105,100]then
  (zW 58 r3).bind λr4=>(pNum r4).bind λp5=>(zW 47 p5.2).bind λr6=>(pNum r6).bind λp7=>(zW 47 p7.2).bind λr8=>(pNum r8).bind λp9=>
   (zW 40 p9.2).bind λra=>(pL n [] ra).bind λpb=>H (.mk 2 id ⟨#[]⟩ p5.1 p7.1 p9.1 pb.1,pb.2)
 else if kd=[99,114,121,112,116]then
  (zW 40 r3).bind λra=>(pL n [] ra).bind λpb=>H (.mk 3 id ⟨#[]⟩ 0 0 0 pb.1,pb.2)
 else if kd=[112,118]then
  (zW 58 r3).bind λr4=>(pNum r4).bind λp5=>(zW 47 p5.2).bind λr6=>(pNum r6).bind λp7=>
   (zW 40 p7.2).bind λra=>(pL n [] ra).bind λpb=>H (.mk 4 id ⟨#[]⟩ p5.1 p7.1 0 pb.1,pb.2)
 else if kd=[116,97,98,108,101]then
  (zW 40 r3).bind λra=>(pL n [] ra).bind λpb=>H (.mk 5 id ⟨#[]⟩ 0 0 0 pb.1,pb.2)
 else Q
theorem zPF (n:q)(r:P M):pC (n+1) r=if upto [58,44,41] r=[]then H (Ct.zero,r)else (zW 58 (past [58,44,41] r)).bind λh=>pKind n (upto [58,44,41] r) ⟨(upto [58,40,44,41] h).toArray⟩ (past [58,40,44,41] h):=by
 rw[pC];rfl
def StX (X:ac (Ct×P M))(b:Bool)(R:ac (Ct×P M)):Prop:=(b=true->X=Q)/\(b=false->X=R)
theorem StX.want {x:M}{y:P M->ac (Ct×P M)}(h:StX X b ((zW x r).bind y)):StX X (b||(zW x r).isNone) (y ((zW x r).getD r)):=by
 cases b with
 | true=>exact⟨λ_=>h.1 rfl,(λo=>by cases o)⟩
 | false=>
  have u:=h.2 rfl;cases o:zW x r with
  | none=>rw[o]at u;exact⟨(λ_=>u),(λv=>by cases v)⟩
  | some t=>rw[o]at u;exact⟨(λv=>by cases v),(λ_=>u)⟩
theorem StX.num {b':Bool}{r':P M}{n:Int}{z:Int×P M->ac (Ct×P M)}(h:StX X b ((pNum r).bind z))(A:NumIs r r' b b' n):StX X b' (z (n,r')):=by
 cases b with
 | true=>exact⟨λ_=>h.1 rfl,λo=>by rw[A.1 rfl]at o;cases o⟩
 | false=>
  have v:=h.2 rfl;rcases A.2 rfl with⟨o,y⟩|⟨o,y⟩
  .rw[o]at v;exact⟨(λ_=>v),(λu=>by rw[y]at u;cases u)⟩
  .rw[o]at v;exact⟨(λu=>by rw[y]at u;cases u),(λ_=>v)⟩
theorem zK2 (n:q):PSpec n:=by
 induction n using Nat.strongRecOn with
 | ind n ih=>
 intro I s r w hr hc hs hE z;obtain⟨n,rfl⟩:∃ m,n=m+1:=⟨n-1,by omega⟩
 have A1:=zOG n (λk hk=>ih k (by omega));have s1:=zPF n r;have I8:=hc.lt;have hx:Fr No w (w.alloc (f #[E C 0,G ⟨#[]⟩,G ⟨#[]⟩,E C 0,E C 0,E C 0,B Q 0 0] 224)):=(K _ _).alloc _;have q2:=zF w (f #[E C 0,G ⟨#[]⟩,G ⟨#[]⟩,E C 0,E C 0,E C 0,B Q 0 0] 224);have s2:=hE.no hx;have s3:=hc.no hx;have I9:(w.alloc (f #[E C 0,G ⟨#[]⟩,G ⟨#[]⟩,E C 0,E C 0,E C 0,B Q 0 0] 224)).heap.size=(w:q)+1:=by simp
 go_enter Tryz.func240,Tryz.ntmps240
 go_wp2_with fail
 generalize w.alloc (f #[E C 0,G ⟨#[]⟩,G ⟨#[]⟩,E C 0,E C 0,E C 0,B Q 0 0] 224)=W0 at *;clear ih hc hE;refine(zFn I s ⟨#[58,44,41]⟩ r false _ s3 asc1 (by omega) (by decide)).mono ?_;rintro e w1 ⟨rfl,j1,j4⟩;have J0:=j4.size;have j5:=j4.heap q2 (λh=>by omega);have s4:=s2.fr j4 (λb U h=>by omega);have s5:=zh (hx.mono (T:=Is I) zn |>.step j4 zi);have s6:(⟨#[58,44,41]⟩:g).data.toList=[58,44,41]:=rfl;rw[s6]at j1 ⊢;have m6:=zAU [58,44,41] r;have A2:=zh m6;have J1:=zFM [58,44,41] r;have n7:upto [58,44,41] r=[]->past [58,44,41] r=r:=λh=>by rw[h]at m6;simpa using m6
 have s7:=zh n7;generalize upto [58,44,41] r=kd at *;generalize past [58,44,41] r=r1 at *;obtain⟨kb,s8,o9⟩:=zPS kd;rw[<-s8];have m7:kb.toList.isEmpty=decide (kd=[]):=by
  rw[ByteArray.toList_eq,o9];cases kd<;>simp
 have s9:=zh s1;have j6:=zh o9;clear hx j4 s3 s2 q2 s6 m6 n7 s8 s1 o9;by_cases j2:kd=[]
 .have he:kb.toList.isEmpty=true:=by rw[m7];simp[j2]
  have h7:=set7 j5 rfl (E C 0) (G ⟨#[]⟩) (G ⟨#[]⟩) (E C 0) (E C 0) (E C 0) (B Q 0 0);have t0:r1=r:=s7.out j2;have g1:p (CtRes w I s r (n+1) (.returned (ab #[E C 0,G ⟨#[]⟩,G ⟨#[]⟩,E C 0,E C 0,E C 0,B Q 0 0])) (((((((w1.setCell ⟨w,0,Q⟩ (E C 0)).setCell ⟨w,1,Q⟩ (G ⟨#[]⟩)).setCell ⟨w,2,Q⟩ (G ⟨#[]⟩)).setCell ⟨w,3,Q⟩ (E C 0)).setCell ⟨w,4,Q⟩ (E C 0)).setCell ⟨w,5,Q⟩ (E C 0)).setCell ⟨w,6,Q⟩ (B Q 0 0))):=by
   refine⟨0,⟨#[]⟩,⟨#[]⟩,0,0,0,Q,0,0,r,false,rfl,Nat.le_refl _,?_,s5.out.step h7.2 (λb U h=>by omega),.inr ⟨rfl,Ct.zero,?_,?_⟩⟩
   .rw[t0]at j1;exact j1.fr h7.2 (λh=>by omega)
   .rw[s9.out,ad j2]
   .exact ah (InAt.nil _ _) 0 ⟨#[]⟩ ⟨#[]⟩ 0 0 0
  have e0:=zh h7.1;obtain⟨z0,z1,z2,z3,z4,z5,z6⟩:=cl7 j5;obtain⟨f0,f1,f2,f3,f4,f5,f6⟩:=fl7 j5;clear j1 h7 m7 t0
  go_wp2_with fail
  have y0:=zB e0.out 0;have y1:=zB e0.out 1;have y2:=zB e0.out 2;have y3:=zB e0.out 3;have y4:=zB e0.out 4;have y5:=zB e0.out 5;have y6:=zB e0.out 6;refine af (v:=ab #[E C 0,G ⟨#[]⟩,G ⟨#[]⟩,E C 0,E C 0,E C 0,B Q 0 0]) (by simp[ag,ai,go_sem,y0,y1,y2,y3,y4,y5,y6]) rfl ?_;exact g1.out
 have he:kb.toList.isEmpty=false:=by rw[m7];simp[j2]
 have J2:1<=kd.length:=by
  rcases hkk:kd with _|⟨x,t⟩
  .exact absurd hkk j2
  .simp
 have F9:r1.length+1<=r.length:=by have:=congrArg ak A2.out;rw[al]at this;omega
 clear m7
 go_wp2_with fail
 refine(zCj I s 58 r1 false _ j1 (by omega)).mono ?_;rintro e w2 ⟨rfl,p0,j7⟩;have t7:=zAo (b:=58) r1;have J3:=j7.size;have t8:=j7.heap j5 (λh=>by omega);have t9:=s4.fr j7 (λb U h=>by omega);have A3:=zh (s5.out.step j7 zi);obtain⟨r2,m8⟩:∃ r2,r2=(zW 58 r1).getD r1:=⟨_,rfl⟩
 obtain⟨b2,p1⟩:∃ b2,b2=(false||(zW 58 r1).isNone):=⟨_,rfl⟩
 rw[<-m8,<-p1]at p0;rw[<-m8]at t7;have A4:=zh m8;have A5:=zh p1;clear m8 p1 j7 j1 s4 j5
 go_wp2_with fail
 refine(zFn I s ⟨#[58,40,44,41]⟩ r2 b2 _ p0 asc2 (by omega) (by decide)).mono ?_;rintro e o ⟨rfl,j8,j9⟩;have J4:=j9.size;have v1:=j9.heap t8 (λh=>by omega);have v3:=t9.fr j9 (λb U h=>by omega);have A6:=zh (A3.out.step j9 zi);have A7:(⟨#[58,40,44,41]⟩:g).data.toList=[58,40,44,41]:=rfl;rw[A7]at j8 ⊢;have A8:=zFM [58,40,44,41] r2;obtain⟨u,p3⟩:∃ u,u=(⟨(upto [58,40,44,41] r2).toArray⟩:g):=⟨_,rfl⟩
 obtain⟨r3,p6⟩:∃ r3,r3=past [58,40,44,41] r2:=⟨_,rfl⟩
 rw[<-p3];rw[<-p6]at j8 A8;have v4:=zh p3;have A9:=zh p6;have hX:StX (pC (n+1) r) b2 (pKind n kd u r3):=by
  rw[s9.out,L j2,v4.out,A9.out,A4.out,A5.out];cases h2:zW 58 r1 with
  | none=>exact⟨(λ_=>rfl),(λh=>by cases h)⟩
  | some t=>exact⟨(λh=>by cases h),(λ_=>rfl)⟩
 have HX:=zh hX;have hy:Fr No o (o.alloc (f #[E C 0,G u,G ⟨#[]⟩,E C 0,E C 0,E C 0,B Q 0 0] 224)):=(K _ _).alloc _;have d6:=hy.heap v1 (λh=>h);have q4:=zF o (f #[E C 0,G u,G ⟨#[]⟩,E C 0,E C 0,E C 0,B Q 0 0] 224);have d7:=j8.no hy;have d8:=v3.no hy;have j3:=zh (A6.out.step hy zn);have J5:(o.alloc (f #[E C 0,G u,G ⟨#[]⟩,E C 0,E C 0,E C 0,B Q 0 0] 224)).heap.size=(o:q)+1:=by simp
 have J6:=j8.le;clear p3 p6 hX j9 p0 t9 t8 j8 v3 v1 hy
 go_upto_region 6 with(fail)
 generalize o.alloc (f #[E C 0,G u,G ⟨#[]⟩,E C 0,E C 0,E C 0,B Q 0 0] 224)=W4 at *;have k1:=zK8 (m:=[102,115]) j6.out;have k2:=zK8 (m:=[114,97,105,100]) j6.out;have k3:=zK8 (m:=[99,114,121,112,116]) j6.out;have k4:=zK8 (m:=[112,118]) j6.out;have k5:=zK8 (m:=[116,97,98,108,101]) j6.out;have K1:=zh k1;have K2:=zh k2;have K3:=zh k3;have K4:=zh k4;have K5:=zh k5;have I0:(w:q)+1<=(o:q):=by omega
 clear k1 k2 k3 k4 k5 he
 go_cut [19] (λv wc=>v=G kb/\W4=wc)
 case first=>
  go_wp2_with fail
  go_meet
  exact⟨rfl,rfl⟩
 obtain⟨rfl,rfl⟩:=hcut;rename_i hK;refine hK _ _ ?_
 go_cut [3] (λv wc=>v=G kb/\∃ (k sl t e:Int) (rI:P M) (bI:Bool),wc.heap[(o:q)]?=H (f #[E C k,G u,G ⟨#[]⟩,E C sl,E C t,E C e,B Q 0 0] 224)/\wc.heap[(w:q)]?=H (f #[E C 0,G ⟨#[]⟩,G ⟨#[]⟩,E C 0,E C 0,E C 0,B Q 0 0] 224)/\Cur wc I s rI bI/\rI.length<=r3.length/\Fr (Is I) w wc/\Env wc/\(W4:q)<=(wc:q)/\p (StX (pC (n+1) r) bI ((zW 40 rI).bind λra=>(pL n [] ra).bind λI=>H (.mk k u ⟨#[]⟩ sl t e I.1,I.2))))
 case first=>
  rcases h1:(kb.toList==[102,115])with _|_
  .rcases h2:(kb.toList==[114,97,105,100])with _|_
   .rcases h3:(kb.toList==[99,114,121,112,116])with _|_
    .rcases h4:(kb.toList==[112,118])with _|_
     .rcases h5:(kb.toList==[116,97,98,108,101])with _|_
      .have y:p (StX (pC (n+1) r) b2 Q):=by
        have h:=HX.out;unfold pKind at h;rw[L (show ¬ kd=[102,115]from λe=>by have z:=K1.out;rw[h1,e]at z;simp at z)]at h;rw[L (show ¬ kd=[114,97,105,100]from λe=>by have z:=K2.out;rw[h2,e]at z;simp at z)]at h;rw[L (show ¬ kd=[99,114,121,112,116]from λe=>by have z:=K3.out;rw[h3,e]at z;simp at z)]at h;rw[L (show ¬ kd=[112,118]from λe=>by have z:=K4.out;rw[h4,e]at z;simp at z)]at h;rw[L (show ¬ kd=[116,97,98,108,101]from λe=>by have z:=K5.out;rw[h5,e]at z;simp at z)]at h;exact h
       obtain⟨D2,m9,D3,D4⟩:=d7.blk;have u2:W4.cell? ⟨I,2,Q⟩=H (.bool b2):=zB m9 2;have v2:W4.frozen? ⟨I,2,Q⟩=false:=zD m9 2;have hg:Fr (Is I) W4 (W4.setCell ⟨I,2,Q⟩ (.bool true)):=S (K _ _) _;have k0:Cur (W4.setCell ⟨I,2,Q⟩ (.bool true)) I s r3 true:=⟨⟨D2,by rw[zE m9];rfl,D3,D4⟩⟩
       have k6:=hg.heap q4 (λh=>by omega);have k7:=hg.heap d6 (λh=>by omega);have k8:=d8.fr hg (λb U h=>by omega);have k9:=zh (j3.out.step hg zi);have v5:=hg.size;have D5:p (StX (pC (n+1) r) true ((zW 40 r3).bind λra=>(pL n [] ra).bind λI=>H (.mk 0 u ⟨#[]⟩ 0 0 0 I.1,I.2))):=by
        refine⟨(λ_=>?_),(λh=>by cases h)⟩;cases b2 with
        | true=>exact y.out.1 rfl
        | false=>exact y.out.2 rfl
       clear hg m9 d7 d8 q4 d6
       go_wp2_with fail
       go_meet
       exact⟨rfl,0,0,0,0,r3,true,k6,k7,k0,by omega,k9.out,k8,by omega,D5⟩
      .have y:p (StX (pC (n+1) r) b2 ((zW 40 r3).bind λra=>(pL n [] ra).bind λI=>H (.mk 5 u ⟨#[]⟩ 0 0 0 I.1,I.2))):=by
        have h:=HX.out;unfold pKind at h;rw[L (show ¬ kd=[102,115]from λe=>by have z:=K1.out;rw[h1,e]at z;simp at z)]at h;rw[L (show ¬ kd=[114,97,105,100]from λe=>by have z:=K2.out;rw[h2,e]at z;simp at z)]at h;rw[L (show ¬ kd=[99,114,121,112,116]from λe=>by have z:=K3.out;rw[h3,e]at z;simp at z)]at h;rw[L (show ¬ kd=[112,118]from λe=>by have z:=K4.out;rw[h4,e]at z;simp at z)]at h;rw[ad (show kd=[116,97,98,108,101]from by have z:=K5.out;rw[h5]at z;exact ae z.symm)]at h;exact h
       have hg:Fr (Is (o:q)) W4 (W4.setCell ⟨o,0,Q⟩ (E C 5)):=S (K _ _) _;have k6:(W4.setCell ⟨o,0,Q⟩ (E C 5)).heap[(o:q)]?=H (f #[E C 5,G u,G ⟨#[]⟩,E C 0,E C 0,E C 0,B Q 0 0] 224):=(zE q4 0 _).trans rfl;have k7:=hg.heap d6 (λh=>by omega);have k0:=d7.fr hg (λh=>by omega);have k8:=d8.fr hg (λb U h=>by omega);have k9:=zh (j3.out.step hg (λb U h=>by omega));have v5:=hg.size;have u0:W4.cell? ⟨o,0,Q⟩=H (E C 0):=zB q4 0;have v0:W4.frozen? ⟨o,0,Q⟩=false:=zD q4 0;clear hg d7 d8 q4 d6
       go_wp2_with fail
       go_meet
       exact⟨rfl,5,0,0,0,r3,b2,k6,k7,k0,by omega,k9.out,k8,by omega,y⟩
     .have y:p (StX (pC (n+1) r) b2 ((zW 58 r3).bind λr4=>(pNum r4).bind λp5=>(zW 47 p5.2).bind λr6=>(pNum r6).bind λp7=>(zW 40 p7.2).bind λra=>(pL n [] ra).bind λI=>H (.mk 4 u ⟨#[]⟩ p5.1 p7.1 0 I.1,I.2))):=by
       have h:=HX.out;unfold pKind at h;rw[L (show ¬ kd=[102,115]from λe=>by have z:=K1.out;rw[h1,e]at z;simp at z)]at h;rw[L (show ¬ kd=[114,97,105,100]from λe=>by have z:=K2.out;rw[h2,e]at z;simp at z)]at h;rw[L (show ¬ kd=[99,114,121,112,116]from λe=>by have z:=K3.out;rw[h3,e]at z;simp at z)]at h;rw[ad (show kd=[112,118]from by have z:=K4.out;rw[h4]at z;exact ae z.symm)]at h;exact h
      go_wp2_with fail
      refine(zCj I s 58 r3 b2 _ d7 (by omega)).mono ?_;rintro v6 v7 ⟨rfl,V,A⟩;have g2:=zAo (b:=58) r3;have n8:=A.size;have d3:=A.heap q4 (λh=>by omega);have d4:=A.heap d6 (λh=>by omega);have a8:=d8.fr A (λb U h=>by omega);have g3:=zh (j3.out.step A zi);have X:=StX.want y.out;obtain⟨a9,Y⟩:∃ a9,a9=(zW 58 r3).getD r3:=⟨_,rfl⟩
      obtain⟨d2,d5⟩:∃ d2,d2=(b2||(zW 58 r3).isNone):=⟨_,rfl⟩
      rw[<-Y,<-d5]at V X;rw[<-Y]at g2;have y:=zh X;clear Y d5 A X d7 d8 q4 d6
      go_wp2_with fail
      refine(zCk I s a9 d2 _ V hs a8 z).mono ?_;rintro v8 Z ⟨b7,e1,l0,rfl,v9,b8,g4,D⟩;have n9:=D.size;have b9:=D.heap d3 (λh=>by omega);have g5:=D.heap d4 (λh=>by omega);have y:=zh (StX.num y.out g4);have J:Fr (Is (o:q)) Z ((Z.setCell ⟨o,0,Q⟩ (E C 4)).setCell ⟨o,3,Q⟩ (E C b7)):=S (S (K _ _) _) _;have g6:((Z.setCell ⟨o,0,Q⟩ (E C 4)).setCell ⟨o,3,Q⟩ (E C b7)).heap[(o:q)]?=H (f #[E C 4,G u,G ⟨#[]⟩,E C b7,E C 0,E C 0,B Q 0 0] 224):=(zE (zE b9 0 _) 3 _).trans rfl;have g7:=J.heap g5 (λh=>by omega);have g8:=b8.fr J (λh=>by omega);have g9:=(a8.fr D (λb U h=>by omega)).fr J (λb U h=>by omega);have l1:=zh ((g3.out.step D zi).step J (λb U h=>by omega));have w0:=J.size;obtain⟨l2,-,-,l3⟩:=cl4 b9;obtain⟨l4,-,-,l5⟩:=fl4 b9;clear D J b8 g4 V a8 d3 d4 g5 b9
      go_upto_region 24 with(fail)
      generalize ((Z.setCell ⟨o,0,Q⟩ (E C 4)).setCell ⟨o,3,Q⟩ (E C b7))=Vx2 at *;clear l2 l4 l3 l5
      go_wp2_with fail
      refine(zCj I s 47 e1 l0 _ g8 (by omega)).mono ?_;rintro D6 D7 ⟨rfl,e2,N⟩;have l6:=zAo (b:=47) e1;have w4:=N.size;have h0:=N.heap g6 (λh=>by omega);have h6:=N.heap g7 (λh=>by omega);have e3:=g9.fr N (λb U h=>by omega);have l7:=zh (l1.out.step N zi);have e4:=StX.want y.out;obtain⟨i3,e5⟩:∃ i3,i3=(zW 47 e1).getD e1:=⟨_,rfl⟩
      obtain⟨i4,h8⟩:∃ i4,i4=(l0||(zW 47 e1).isNone):=⟨_,rfl⟩
      rw[<-e5,<-h8]at e2 e4;rw[<-e5]at l6;have y:=zh e4;clear e5 h8 N e4 g8 g9 g6 g7
      go_wp2_with fail
      refine(zCk I s i3 i4 _ e2 hs e3 z).mono ?_;rintro D8 d9 ⟨e7,i5,n2,rfl,w5,i0,i1,O⟩;have w7:=O.size;have d0:=O.heap h0 (λh=>by omega);have i2:=O.heap h6 (λh=>by omega);have y:=zh (StX.num y.out i1);have R:Fr (Is (o:q)) d9 (d9.setCell ⟨o,4,Q⟩ (E C e7)):=S (K _ _) _;have i6:(d9.setCell ⟨o,4,Q⟩ (E C e7)).heap[(o:q)]?=H (f #[E C 4,G u,G ⟨#[]⟩,E C b7,E C e7,E C 0,B Q 0 0] 224):=(zE d0 4 _).trans rfl;have i7:=R.heap i2 (λh=>by omega);have i8:=i0.fr R (λh=>by omega);have i9:=(e3.fr O (λb U h=>by omega)).fr R (λb U h=>by omega);have l8:=zh ((l7.out.step O zi).step R (λb U h=>by omega));have w8:=R.size;have o0:d9.cell? ⟨o,4,Q⟩=H (E C 0):=zB d0 4;have o1:d9.frozen? ⟨o,4,Q⟩=false:=zD d0 4;clear O R i0 i1 e2 e3 h0 h6 i2 d0
      go_wp2_with fail
      go_meet
      exact⟨rfl,4,b7,e7,0,i5,n2,i6,i7,i8,by omega,l8.out,i9,by omega,y⟩
    .have y:p (StX (pC (n+1) r) b2 ((zW 40 r3).bind λra=>(pL n [] ra).bind λI=>H (.mk 3 u ⟨#[]⟩ 0 0 0 I.1,I.2))):=by
      have h:=HX.out;unfold pKind at h;rw[L (show ¬ kd=[102,115]from λe=>by have z:=K1.out;rw[h1,e]at z;simp at z)]at h;rw[L (show ¬ kd=[114,97,105,100]from λe=>by have z:=K2.out;rw[h2,e]at z;simp at z)]at h;rw[ad (show kd=[99,114,121,112,116]from by have z:=K3.out;rw[h3]at z;exact ae z.symm)]at h;exact h
     have hg:Fr (Is (o:q)) W4 (W4.setCell ⟨o,0,Q⟩ (E C 3)):=S (K _ _) _;have k6:(W4.setCell ⟨o,0,Q⟩ (E C 3)).heap[(o:q)]?=H (f #[E C 3,G u,G ⟨#[]⟩,E C 0,E C 0,E C 0,B Q 0 0] 224):=(zE q4 0 _).trans rfl;have k7:=hg.heap d6 (λh=>by omega);have k0:=d7.fr hg (λh=>by omega);have k8:=d8.fr hg (λb U h=>by omega);have k9:=zh (j3.out.step hg (λb U h=>by omega));have v5:=hg.size;have u0:W4.cell? ⟨o,0,Q⟩=H (E C 0):=zB q4 0;have v0:W4.frozen? ⟨o,0,Q⟩=false:=zD q4 0;clear hg d7 d8 q4 d6
     go_wp2_with fail
     go_meet
     exact⟨rfl,3,0,0,0,r3,b2,k6,k7,k0,by omega,k9.out,k8,by omega,y⟩
   .have y:p (StX (pC (n+1) r) b2 ((zW 58 r3).bind λr4=>(pNum r4).bind λp5=>(zW 47 p5.2).bind λr6=>(pNum r6).bind λp7=>(zW 47 p7.2).bind λr8=>(pNum r8).bind λp9=>(zW 40 p9.2).bind λra=>(pL n [] ra).bind λI=>H (.mk 2 u ⟨#[]⟩ p5.1 p7.1 p9.1 I.1,I.2))):=by
     have h:=HX.out;unfold pKind at h;rw[L (show ¬ kd=[102,115]from λe=>by have z:=K1.out;rw[h1,e]at z;simp at z)]at h;rw[ad (show kd=[114,97,105,100]from by have z:=K2.out;rw[h2]at z;exact ae z.symm)]at h;exact h
    go_wp2_with fail
    refine(zCj I s 58 r3 b2 _ d7 (by omega)).mono ?_;rintro v6 v7 ⟨rfl,V,A⟩;have g2:=zAo (b:=58) r3;have n8:=A.size;have d3:=A.heap q4 (λh=>by omega);have d4:=A.heap d6 (λh=>by omega);have a8:=d8.fr A (λb U h=>by omega);have g3:=zh (j3.out.step A zi);have X:=StX.want y.out;obtain⟨a9,Y⟩:∃ a9,a9=(zW 58 r3).getD r3:=⟨_,rfl⟩
    obtain⟨d2,d5⟩:∃ d2,d2=(b2||(zW 58 r3).isNone):=⟨_,rfl⟩
    rw[<-Y,<-d5]at V X;rw[<-Y]at g2;have y:=zh X;clear Y d5 A X d7 d8 q4 d6
    go_wp2_with fail
    refine(zCk I s a9 d2 _ V hs a8 z).mono ?_;rintro v8 Z ⟨b7,e1,l0,rfl,v9,b8,g4,D⟩;have n9:=D.size;have b9:=D.heap d3 (λh=>by omega);have g5:=D.heap d4 (λh=>by omega);have y:=zh (StX.num y.out g4);have J:Fr (Is (o:q)) Z ((Z.setCell ⟨o,0,Q⟩ (E C 2)).setCell ⟨o,3,Q⟩ (E C b7)):=S (S (K _ _) _) _;have g6:((Z.setCell ⟨o,0,Q⟩ (E C 2)).setCell ⟨o,3,Q⟩ (E C b7)).heap[(o:q)]?=H (f #[E C 2,G u,G ⟨#[]⟩,E C b7,E C 0,E C 0,B Q 0 0] 224):=(zE (zE b9 0 _) 3 _).trans rfl;have g7:=J.heap g5 (λh=>by omega);have g8:=b8.fr J (λh=>by omega);have g9:=(a8.fr D (λb U h=>by omega)).fr J (λb U h=>by omega);have l1:=zh ((g3.out.step D zi).step J (λb U h=>by omega));have w0:=J.size;obtain⟨l2,-,-,l3⟩:=cl4 b9;obtain⟨l4,-,-,l5⟩:=fl4 b9;clear D J b8 g4 V a8 d3 d4 g5 b9
    go_upto_region 15 with(fail)
    generalize ((Z.setCell ⟨o,0,Q⟩ (E C 2)).setCell ⟨o,3,Q⟩ (E C b7))=Vx2 at *;clear l2 l4 l3 l5
    go_wp2_with fail
    refine(zCj I s 47 e1 l0 _ g8 (by omega)).mono ?_;rintro D6 D7 ⟨rfl,e2,N⟩;have l6:=zAo (b:=47) e1;have w4:=N.size;have h0:=N.heap g6 (λh=>by omega);have h6:=N.heap g7 (λh=>by omega);have e3:=g9.fr N (λb U h=>by omega);have l7:=zh (l1.out.step N zi);have e4:=StX.want y.out;obtain⟨i3,e5⟩:∃ i3,i3=(zW 47 e1).getD e1:=⟨_,rfl⟩
    obtain⟨i4,h8⟩:∃ i4,i4=(l0||(zW 47 e1).isNone):=⟨_,rfl⟩
    rw[<-e5,<-h8]at e2 e4;rw[<-e5]at l6;have y:=zh e4;clear e5 h8 N e4 g8 g9 g6 g7
    go_wp2_with fail
    refine(zCk I s i3 i4 _ e2 hs e3 z).mono ?_;rintro D8 d9 ⟨e7,i5,n2,rfl,w5,i0,i1,O⟩;have w7:=O.size;have d0:=O.heap h0 (λh=>by omega);have i2:=O.heap h6 (λh=>by omega);have y:=zh (StX.num y.out i1);have R:Fr (Is (o:q)) d9 (d9.setCell ⟨o,4,Q⟩ (E C e7)):=S (K _ _) _;have i6:(d9.setCell ⟨o,4,Q⟩ (E C e7)).heap[(o:q)]?=H (f #[E C 2,G u,G ⟨#[]⟩,E C b7,E C e7,E C 0,B Q 0 0] 224):=(zE d0 4 _).trans rfl;have i7:=R.heap i2 (λh=>by omega);have i8:=i0.fr R (λh=>by omega);have i9:=(e3.fr O (λb U h=>by omega)).fr R (λb U h=>by omega);have l8:=zh ((l7.out.step O zi).step R (λb U h=>by omega));have w8:=R.size;have o0:d9.cell? ⟨o,4,Q⟩=H (E C 0):=zB d0 4;have o1:d9.frozen? ⟨o,4,Q⟩=false:=zD d0 4;clear O R i0 i1 e2 e3 h0 h6 i2 d0
    go_upto_region 17 with(fail)
    generalize (d9.setCell ⟨o,4,Q⟩ (E C e7))=Vx4 at *;clear o0 o1
    go_wp2_with fail
    refine(zCj I s 47 i5 n2 _ i8 (by omega)).mono ?_;rintro J7 J8 ⟨rfl,l9,e8⟩;have w9:=zAo (b:=47) i5;have I1:=e8.size;have o2:=e8.heap i6 (λh=>by omega);have o3:=e8.heap i7 (λh=>by omega);have m0:=i9.fr e8 (λb U h=>by omega);have x0:=zh (l8.out.step e8 zi);have m1:=StX.want y.out;obtain⟨p8,m2⟩:∃ p8,p8=(zW 47 i5).getD i5:=⟨_,rfl⟩
    obtain⟨r0,o4⟩:∃ r0,r0=(n2||(zW 47 i5).isNone):=⟨_,rfl⟩
    rw[<-m2,<-o4]at l9 m1;rw[<-m2]at w9;have y:=zh m1;clear m2 o4 e8 m1 i8 i9 i6 i7
    go_wp2_with fail
    refine(zCk I s p8 r0 _ l9 hs m0 z).mono ?_;rintro J9 m3 ⟨n3,D9,F0,rfl,I2,o5,o6,e9⟩;have I3:=e9.size;have j0:=e9.heap o2 (λh=>by omega);have o7:=e9.heap o3 (λh=>by omega);have y:=zh (StX.num y.out o6);have g0:Fr (Is (o:q)) m3 (m3.setCell ⟨o,5,Q⟩ (E C n3)):=S (K _ _) _;have x1:(m3.setCell ⟨o,5,Q⟩ (E C n3)).heap[(o:q)]?=H (f #[E C 2,G u,G ⟨#[]⟩,E C b7,E C e7,E C n3,B Q 0 0] 224):=(zE j0 5 _).trans rfl;have x2:=g0.heap o7 (λh=>by omega);have x3:=o5.fr g0 (λh=>by omega);have x4:=(m0.fr e9 (λb U h=>by omega)).fr g0 (λb U h=>by omega);have x5:=zh ((x0.out.step e9 zi).step g0 (λb U h=>by omega));have I4:=g0.size;have I5:m3.cell? ⟨o,5,Q⟩=H (E C 0):=zB j0 5;have I6:m3.frozen? ⟨o,5,Q⟩=false:=zD j0 5;clear e9 g0 o5 o6 l9 m0 o2 o3 o7 j0
    go_wp2_with fail
    go_meet
    exact⟨rfl,2,b7,e7,n3,D9,F0,x1,x2,x3,by omega,x5.out,x4,by omega,y⟩
  .have y:p (StX (pC (n+1) r) b2 ((zW 58 r3).bind λr4=>H (.mk 1 u ⟨(upto [44,41] r4).toArray⟩ 0 0 0 [],past [44,41] r4))):=by
    have h:=HX.out;unfold pKind at h;rw[ad (show kd=[102,115]from by have z:=K1.out;rw[h1]at z;exact ae z.symm)]at h;exact h
   go_wp2_with fail
   refine(zCj I s 58 r3 b2 _ d7 (by omega)).mono ?_;rintro v6 v7 ⟨rfl,V,A⟩;have g2:=zAo (b:=58) r3;have n8:=A.size;have d3:=A.heap q4 (λh=>by omega);have d4:=A.heap d6 (λh=>by omega);have a8:=d8.fr A (λb U h=>by omega);have g3:=zh (j3.out.step A zi);have X:=StX.want y.out;obtain⟨a9,Y⟩:∃ a9,a9=(zW 58 r3).getD r3:=⟨_,rfl⟩
   obtain⟨d2,d5⟩:∃ d2,d2=(b2||(zW 58 r3).isNone):=⟨_,rfl⟩
   rw[<-Y,<-d5]at V X;rw[<-Y]at g2;have y:=zh X;clear Y d5 A X d7 d8 q4 d6
   go_wp2_with fail
   refine(zFn I s ⟨#[44,41]⟩ a9 d2 _ V asc3 (by omega) (by decide)).mono ?_;rintro v8 Z ⟨rfl,b8,D⟩;have F1:(⟨#[44,41]⟩:g).data.toList=[44,41]:=rfl;rw[F1]at b8 ⊢;have I7:=zFM [44,41] a9;have n4:=y.out;obtain⟨d1,o8⟩:∃ d1,d1=(⟨(upto [44,41] a9).toArray⟩:g):=⟨_,rfl⟩
   rw[<-o8]at n4 ⊢;generalize past [44,41] a9=r9 at *;have n9:=D.size;have p4:=D.heap d3 (λh=>by omega);have p2:=D.heap d4 (λh=>by omega);have hg:Fr (Is (o:q)) Z ((Z.setCell ⟨o,0,Q⟩ (E C 1)).setCell ⟨o,2,Q⟩ (G d1)):=S (S (K _ _) _) _;have x6:((Z.setCell ⟨o,0,Q⟩ (E C 1)).setCell ⟨o,2,Q⟩ (G d1)).heap[(o:q)]?=H (f #[E C 1,G u,G d1,E C 0,E C 0,E C 0,B Q 0 0] 224):=(zE (zE p4 0 _) 2 _).trans rfl;have r5:=hg.heap p2 (λh=>by omega);have h7:=set7 r5 rfl (E C 1) (G u) (G d1) (E C 0) (E C 0) (E C 0) (B Q 0 0);have g1:p (CtRes w I s r (n+1) (.returned (ab #[E C 1,G u,G d1,E C 0,E C 0,E C 0,B Q 0 0])) (((((((((Z.setCell ⟨o,0,Q⟩ (E C 1)).setCell ⟨o,2,Q⟩ (G d1)).setCell ⟨w,0,Q⟩ (E C 1)).setCell ⟨w,1,Q⟩ (G u)).setCell ⟨w,2,Q⟩ (G d1)).setCell ⟨w,3,Q⟩ (E C 0)).setCell ⟨w,4,Q⟩ (E C 0)).setCell ⟨w,5,Q⟩ (E C 0)).setCell ⟨w,6,Q⟩ (B Q 0 0))):=by
    refine⟨1,u,d1,0,0,0,Q,0,0,r9,d2,rfl,by omega,(b8.fr hg (λh=>by omega)).fr h7.2 (λh=>by omega),((g3.out.step D zi).step hg (λb U h=>by omega)).step h7.2 (λb U h=>by omega),?_⟩;cases d2 with
    | true=>exact .inl ⟨rfl,n4.1 rfl⟩
    | false=>exact .inr ⟨rfl,_,n4.2 rfl,ah (InAt.nil _ _) 1 u d1 0 0 0⟩
   obtain⟨u0,-,u2⟩:=cl3 p4;obtain⟨v0,-,v2⟩:=fl3 p4;have e0:=zh h7.1;have a7:=zh x6;have F:=zh r5;clear h7 n4 b8 D o8 hg p4 p2 V a8 d3 d4 x6 r5
   go_upto_region 11 with(fail)
   generalize ((Z.setCell ⟨o,0,Q⟩ (E C 1)).setCell ⟨o,2,Q⟩ (G d1))=W7 at *;clear u0 v0 u2 v2;have a0:W7.cell? ⟨o,0,Q⟩=H (E C 1):=zB a7.out 0;have a1:W7.cell? ⟨o,1,Q⟩=H (G u):=zB a7.out 1;have a2:W7.cell? ⟨o,2,Q⟩=H (G d1):=zB a7.out 2;have a3:W7.cell? ⟨o,3,Q⟩=H (E C 0):=zB a7.out 3;have a4:W7.cell? ⟨o,4,Q⟩=H (E C 0):=zB a7.out 4;have a5:W7.cell? ⟨o,5,Q⟩=H (E C 0):=zB a7.out 5;have a6:W7.cell? ⟨o,6,Q⟩=H (B Q 0 0):=zB a7.out 6;have b0:W7.cell? ⟨w,0,Q⟩=H (E C 0):=zB F.out 0;have b1:W7.cell? ⟨w,1,Q⟩=H (G ⟨#[]⟩):=zB F.out 1;have b2:W7.cell? ⟨w,2,Q⟩=H (G ⟨#[]⟩):=zB F.out 2;have b3:W7.cell? ⟨w,3,Q⟩=H (E C 0):=zB F.out 3;have b4:W7.cell? ⟨w,4,Q⟩=H (E C 0):=zB F.out 4;have b5:W7.cell? ⟨w,5,Q⟩=H (E C 0):=zB F.out 5;have b6:W7.cell? ⟨w,6,Q⟩=H (B Q 0 0):=zB F.out 6;have F2:W7.frozen? ⟨w,0,Q⟩=false:=zD F.out 0;have F3:W7.frozen? ⟨w,1,Q⟩=false:=zD F.out 1;have F4:W7.frozen? ⟨w,2,Q⟩=false:=zD F.out 2;have F5:W7.frozen? ⟨w,3,Q⟩=false:=zD F.out 3;have F6:W7.frozen? ⟨w,4,Q⟩=false:=zD F.out 4;have F7:W7.frozen? ⟨w,5,Q⟩=false:=zD F.out 5;have F8:W7.frozen? ⟨w,6,Q⟩=false:=zD F.out 6
   go_wp2_with fail
   have y0:=zB e0.out 0;have y1:=zB e0.out 1;have y2:=zB e0.out 2;have y3:=zB e0.out 3;have y4:=zB e0.out 4;have y5:=zB e0.out 5;have y6:=zB e0.out 6;refine af (v:=ab #[E C 1,G u,G d1,E C 0,E C 0,E C 0,B Q 0 0]) (by simp[ag,ai,go_sem,y0,y1,y2,y3,y4,y5,y6]) rfl ?_;exact g1.out
 case rest=>
  obtain⟨rfl,k,sl,t,e,rI,bI,x7,x8,x9,L0,y7,y8,L1,y9⟩:=hcut;obtain⟨W5,rfl⟩:∃ W5,W5=wc:=⟨_,rfl⟩
  go_wp2_with fail
  refine(A1 I s rI bI _ (by omega) x9 hs y8 z).mono ?_;rintro e6 w6 ⟨a,m,c,r6,b6,rfl,L2,z7,m4,z8,m5⟩;have L3:=m4.size;have n5:=m4.heap x7 (λh=>by omega);have z9:=m4.heap x8 (λh=>by omega);have r7:=zE n5 6 (B a m c);have s0:(w6.setCell ⟨o,6,Q⟩ (B a m c)).heap[(w:q)]?=H (f #[E C 0,G ⟨#[]⟩,G ⟨#[]⟩,E C 0,E C 0,E C 0,B Q 0 0] 224):=((K (Is (o:q)) w6).setAt (i:=6) (B a m c)).heap z9 (λh=>by omega);have A0:(#[E C k,G u,G ⟨#[]⟩,E C sl,E C t,E C e,B Q 0 0]:Array aa).setIfInBounds 6 (B a m c)=#[E C k,G u,G ⟨#[]⟩,E C sl,E C t,E C e,B a m c]:=rfl;rw[A0]at r7;have fA:Fr (Is (o:q)) w6 (w6.setCell ⟨o,6,Q⟩ (B a m c)):=(K _ _).setAt _;have h7:=set7 s0 rfl (E C k) (G u) (G ⟨#[]⟩) (E C sl) (E C t) (E C e) (B a m c);have g1:p (CtRes w I s r (n+1) (.returned (ab #[E C k,G u,G ⟨#[]⟩,E C sl,E C t,E C e,B a m c])) ((((((((w6.setCell ⟨o,6,Q⟩ (B a m c)).setCell ⟨w,0,Q⟩ (E C k)).setCell ⟨w,1,Q⟩ (G u)).setCell ⟨w,2,Q⟩ (G ⟨#[]⟩)).setCell ⟨w,3,Q⟩ (E C sl)).setCell ⟨w,4,Q⟩ (E C t)).setCell ⟨w,5,Q⟩ (E C e)).setCell ⟨w,6,Q⟩ (B a m c))):=by
   have fB:=h7.2;refine⟨k,u,⟨#[]⟩,sl,t,e,a,m,c,r6,b6,rfl,by omega,(z7.fr fA (λh=>by omega)).fr fB (λh=>by omega),((y7.step m4 zi).step fA (λb U h=>by omega)).step fB (λb U h=>by omega),?_⟩;have n6:((zW 40 rI).bind λra=>(pL n [] ra).bind λI=>H (Ct.mk k u ⟨#[]⟩ sl t e I.1,I.2))=((zW 40 rI).bind (pL n [])).bind λI=>H (Ct.mk k u ⟨#[]⟩ sl t e I.1,I.2):=by
    cases zW 40 rI<;>rfl
   cases bI with
   | true=>exact .inl ⟨z8 rfl,y9.out.1 rfl⟩
   | false=>
    have h1:=y9.out.2 rfl;rw[n6]at h1;rcases m5 rfl with⟨h2,h3⟩|⟨h2,cs,h3,h4,h5⟩
    .rw[h3]at h1;exact .inl ⟨h2,h1⟩
    .rw[h3]at h1;refine .inr ⟨h2,_,h1,?_⟩;subst h4;refine ah ?_ k u ⟨#[]⟩ sl t e;exact((h5.fr fA (λb U h=>by omega)).fr fB (λb U h=>by omega)).mono (λb _ U=>by unfold From at *;omega)
  have z6:w6.cell? ⟨o,6,Q⟩=H (B Q 0 0):=zB n5 6;have f6:w6.frozen? ⟨o,6,Q⟩=false:=zD n5 6;have e0:=zh h7.1;have a7:=zh r7;have F:=zh s0;clear m5 z7 m4 z9 n5 x9 y8 y7 x7 x8 h7 fA r7 s0 A0 z8
  go_upto_region 29 with(fail)
  generalize w6.setCell ⟨o,6,Q⟩ (B a m c)=W7 at *;have a0:W7.cell? ⟨o,0,Q⟩=H (E C k):=zB a7.out 0;have a1:W7.cell? ⟨o,1,Q⟩=H (G u):=zB a7.out 1;have a2:W7.cell? ⟨o,2,Q⟩=H (G ⟨#[]⟩):=zB a7.out 2;have a3:W7.cell? ⟨o,3,Q⟩=H (E C sl):=zB a7.out 3;have a4:W7.cell? ⟨o,4,Q⟩=H (E C t):=zB a7.out 4;have a5:W7.cell? ⟨o,5,Q⟩=H (E C e):=zB a7.out 5;have a6:W7.cell? ⟨o,6,Q⟩=H (B a m c):=zB a7.out 6;have b0:W7.cell? ⟨w,0,Q⟩=H (E C 0):=zB F.out 0;have b1:W7.cell? ⟨w,1,Q⟩=H (G ⟨#[]⟩):=zB F.out 1;have b2:W7.cell? ⟨w,2,Q⟩=H (G ⟨#[]⟩):=zB F.out 2;have b3:W7.cell? ⟨w,3,Q⟩=H (E C 0):=zB F.out 3;have b4:W7.cell? ⟨w,4,Q⟩=H (E C 0):=zB F.out 4;have b5:W7.cell? ⟨w,5,Q⟩=H (E C 0):=zB F.out 5;have b6:W7.cell? ⟨w,6,Q⟩=H (B Q 0 0):=zB F.out 6;have F2:W7.frozen? ⟨w,0,Q⟩=false:=zD F.out 0;have F3:W7.frozen? ⟨w,1,Q⟩=false:=zD F.out 1;have F4:W7.frozen? ⟨w,2,Q⟩=false:=zD F.out 2;have F5:W7.frozen? ⟨w,3,Q⟩=false:=zD F.out 3;have F6:W7.frozen? ⟨w,4,Q⟩=false:=zD F.out 4;have F7:W7.frozen? ⟨w,5,Q⟩=false:=zD F.out 5;have F8:W7.frozen? ⟨w,6,Q⟩=false:=zD F.out 6
  go_wp2_with fail
  have y0:=zB e0.out 0;have y1:=zB e0.out 1;have y2:=zB e0.out 2;have y3:=zB e0.out 3;have y4:=zB e0.out 4;have y5:=zB e0.out 5;have y6:=zB e0.out 6;refine af (v:=ab #[E C k,G u,G ⟨#[]⟩,E C sl,E C t,E C e,B a m c]) (by simp[ag,ai,go_sem,y0,y1,y2,y3,y4,y5,y6]) rfl ?_;exact g1.out
theorem zJH (m:q):m<=10000->∀ (k s t e:Int) (i l:g) (n:P Ct) (a:ac Addr) (o:q) (w:World) (X:q->Prop),Ct.counts n<m->InAt w X a o n->
  Calls Tryz.prog 302 #[ab #[E C k,G i,G l,E C s,E C t,E C e,B a n.length o]] w λen w2=>(∃ a' c',en=.returned (ab #[E C k,G i,G l,E C s,E C t,E C e,B a' n.length c']))/\Fr No w w2:=by
 obtain⟨i0,d4,d5,d6,d7⟩:=info_parts infoC
 induction m with
 | zero=>intro _ k s t e i l n a o w X h;omega
 | succ m ih=>
  intro hm k s t e i l n a o w X e7 b7;have e8:=zAa n;have h0:Fr No w ((w.alloc (f #[E C k,G i,G l,E C s,E C t,E C e,B a n.length o] 224)).alloc (f #[E C 0,G ⟨#[]⟩,G ⟨#[]⟩,E C 0,E C 0,E C 0,B Q 0 0] 224)):=((K _ _).alloc _).alloc _;have q1:=zO w (f #[E C k,G i,G l,E C s,E C t,E C e,B a n.length o] 224) (f #[E C 0,G ⟨#[]⟩,G ⟨#[]⟩,E C 0,E C 0,E C 0,B Q 0 0] 224);have q2:=zR w (f #[E C k,G i,G l,E C s,E C t,E C e,B a n.length o] 224) (f #[E C 0,G ⟨#[]⟩,G ⟨#[]⟩,E C 0,E C 0,E C 0,B Q 0 0] 224);have d8:((w.alloc (f #[E C k,G i,G l,E C s,E C t,E C e,B a n.length o] 224)).alloc (f #[E C 0,G ⟨#[]⟩,G ⟨#[]⟩,E C 0,E C 0,E C 0,B Q 0 0] 224)).heap.size=(w:q)+2:=by simp
  obtain⟨D,a7⟩:∃ D,D=(w.alloc (f #[E C k,G i,G l,E C s,E C t,E C e,B a n.length o] 224)).alloc (f #[E C 0,G ⟨#[]⟩,G ⟨#[]⟩,E C 0,E C 0,E C 0,B Q 0 0] 224):=⟨_,rfl⟩
  rw[<-a7]at h0 q1 q2 d8;have b8:=b7.fr h0 (λ_ _=>id);have c6:D.cell? ⟨w,6,Q⟩=H (B a n.length o):=zB q1 6;have Ih:=zh (ih (by omega));have H0:=zh h0;clear ih b7 h0
  go_enter Tryz.func302,Tryz.ntmps302
  go_upto_region 1 with(fail)
  rw[<-a7];clear a7
  go_wp2_with fail
  go_loopw [3,9] (λv x wr=>∃ (j:q) (F:ac Addr) (I:q) (xs:P aa),j<=n.length/\v=B F j I/\x=E C (j:Int)/\wr.ownsRow (D:q) 224 7 (B F j I) j xs/\Fr (From (D:q)) D wr) (λ_ x _=>n.length-(intOf x).toNat)
  case atStart=>exact⟨0,Q,0,[],by omega,rfl,rfl,World.ownsRow_nil _ _ _ _,K _ _⟩
  case round=>
   obtain⟨j,F,I,xs,hj,rfl,rfl,O,u⟩:=hrel;by_cases d9:j<n.length
   .have b9:(j:Int)<n.length:=by omega
    obtain⟨d,hd⟩:∃ d,n[j]?=H d:=⟨_,List.getElem?_eq_getElem d9⟩
    have e0:=zBF (am hd);obtain⟨k1,i1,l1,s1,t1,e1,n1⟩:=d;rw[Ct.count]at e0;have R:InAt wr (λb=>b<(D:q)) a o n:=by
     have h3:=b8.mono (Y:=λb=>b<(D:q)) (λb hb _=>hb);exact h3.fr u (λb hb h=>by omega)
    obtain⟨b,e9,a',V,rfl,hb,hX,⟨y0,y1,y2,y3,y4,y5,y6⟩,Z⟩:=R.at hd;have g0:=u.size;clear hd R
    go_wp2_with fail
    have hx:Fr No wr (wr.alloc (f #[E C k1,G i1,G l1,E C s1,E C t1,E C e1,B a' n1.length V] 224)):=(K _ _).alloc _;refine(Ih.out k1 s1 t1 e1 i1 l1 n1 a' V _ _ (by omega) (Z.fr hx (λ_ _=>id))).mono ?_;rintro e w2 ⟨⟨a2,c2,rfl⟩,d0⟩;have J:=hx.step d0 zi;have a8:=zh (u.step J zn);have y:=zAS O J zi;have g1:=J.size;clear hx d0 u y0 y1 y2 y3 y4 y5 y6 Z O J
    go_wp2_with (at_builtin;refine wpList_append_own_at _ rfl _ _ 222 rfl (D:q) 224 i0 (ab #[E C 0,G aj,G aj,E C 0,E C 0,E C 0,B Q 0 0]) 7 88 Tryz.underlying222 d4 d5 d6 d7 rfl (by decide) _ _ _ rfl (y.alloc _) ⟨w2,0,Q⟩ 1 1 [E C k1,G i1,G l1,E C s1,E C t1,E C e1,B a2 n1.length c2] rfl rfl (zg _ _ _ rfl) (zDi _ _ _ _ _ _ _ _ _) (by unfold maxLen;omega) (by omega) (by first|omega|(simp;done)|(simp;omega)) ?_;intro v' wb z A _ e2;obtain⟨e3,e4,rfl⟩:=zI z)
    have d1:Fr (From (D:q)) w2 wb:=zB5 y A;have e5:=zh (a8.out.step d1 zi);have d2:=zh z;clear z A e2 d1 y
    go_wp2_with fail
    go_roundw
    case rel=>exact⟨j+1,e3,e4,_,by omega,rfl,by go_num,d2.out,e5.out⟩
    case measure=>simp[intOf];omega
   .have b9:¬ (j:Int)<n.length:=by omega
    obtain rfl:j=n.length:=by omega
    have r1:=u.heap q1 (λh=>by omega);have r2:=u.heap q2 (λh=>by omega);have a8:=zh (H0.out.trans (U:=No) u zi (λb hb h=>by omega));clear u q1 q2 c6;have c6:wr.cell? ⟨w,6,Q⟩=H (B a n.length o):=zB r1 6;have f6:wr.frozen? ⟨w,6,Q⟩=false:=zD r1 6
    go_upto_region 8 with(fail)
    have N:Fr (Is (w:q)) wr (wr.setCell ⟨w,6,Q⟩ (B F n.length I)):=S (K _ _) _;have p1:=zE r1 6 (B F n.length I);have p2:=N.heap r2 (λe=>by omega);have g2:(w:q)+2<=(wr.setCell ⟨w,6,Q⟩ (B F n.length I)).heap.size:=by have:=zC r2;have:=N.size;omega
    have e6:=zh (a8.out.step N (λb hb h=>by omega));clear r1 r2 c6 f6;generalize wr.setCell ⟨w,6,Q⟩ (B F n.length I)=W1 at *;obtain⟨a0,a1,a2,a3,a4,a5,a6⟩:=cl7 p1;obtain⟨b0,b1,b2,b3,b4,b5,b6⟩:=cl7 p2;obtain⟨g3,g4,g5,g6,g7,g8,g9⟩:=fl7 p2;have h7:=set7 p2 rfl (E C k) (G i) (G l) (E C s) (E C t) (E C e) (B F n.length I);have d3:=zh (e6.out.step h7.2 (λb hb h=>by omega));have a9:=zh h7.1;clear p1 p2 h7 N
    go_wp2_with fail
    have y0:=zB a9.out 0;have y1:=zB a9.out 1;have y2:=zB a9.out 2;have y3:=zB a9.out 3;have y4:=zB a9.out 4;have y5:=zB a9.out 5;have y6:=zB a9.out 6;refine af (v:=ab #[E C k,G i,G l,E C s,E C t,E C e,B F n.length I]) (by simp[ag,Tryz.results302,go_sem,y0,y1,y2,y3,y4,y5,y6]) rfl ?_;exact⟨⟨F,I,rfl⟩,d3.out⟩
inductive ShFlat : P aa->P Ct->Prop
 | nil:ShFlat [] []
 | cons (k s t e:Int) (i l:g) (n:P Ct) (a:ac Addr) (cap:q) {vs:P aa} {cs:P Ct} (h:ShFlat vs cs):ShFlat ([E C k,G i,G l,E C s,E C t,E C e,B a n.length cap]++vs) (.mk k i l s t e n::cs)
theorem ShFlat.append {y:P aa}{u:P Ct}(h:ShFlat y cs)(z:ShFlat o u):ShFlat (y++o) (cs++u):=by
 induction h with
 | nil=>exact z
 | cons k s t e i l n a v h A=>rw[List.append_assoc];exact .cons k s t e i l n a v A
theorem ShFlat.len (h:ShFlat o cs):o.length=cs.length*7:=by
 induction h with
 | nil=>rfl
 | cons k s t e i l n a u h v=>simp[v];omega
theorem ShFlat.one {v:P aa}(h:ShFlat v cs):∀ u∈v,u.oneCell'=true:=by
 induction h with
 | nil=>intro u o;cases o
 | cons k s t e i l n a y h z=>
  intro u o;rcases List.mem_append.1 o with o|o
  .exact zDi _ _ _ _ _ _ _ _ _ u o
  .exact z u o
theorem ShFlat.at {z:P aa}(h:ShFlat z cs){j:q}{k s t e:Int}{i l:g}{n:P Ct}(y:cs[j]?=H (.mk k i l s t e n)):
  ∃ a o,∀ u,u<7->z[j*7+u]?=[Value.int C k,G i,G l,E C s,E C t,E C e,B a n.length o][u]?:=by
 induction h generalizing j with
 | nil=>simp at y
 | cons J N O R U l' V a o h D=>
  cases j with
  | zero=>
   simp at y;obtain⟨rfl,rfl,rfl,rfl,rfl,rfl,rfl⟩:=y;exact⟨a,o,λu A=>by rw[List.getElem?_append_left (by simp;omega)];simp⟩
  | succ j=>
   obtain⟨F,v,I⟩:=D (by simpa using y);exact⟨F,v,λu A=>by rw[List.getElem?_append_right (by simp;omega),<-I u A];congr 1;simp;omega⟩
end Go.Proofs.YtckkocmhlhefpaaGreatDoor
