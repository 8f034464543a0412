import Derived.Test.YtjohgekljmhheaaGreatDoorQ6
namespace Go.Proofs.YtjohgekljmhheaaGreatDoor
open Go.RowKit Go.Maps
set_option linter.unusedVariables false
set_option maxRecDepth 100000
set_option maxHeartbeats 4000000
open CAt renaming of_in->bp
open Ct renaming counts->ak,mk->ax,count->bd,walks->bq
open Fr renaming refl->p,setAt->af
open Go renaming World->al,Value->am,Calls->aq,Addr->aw,bodyPost_ret->az,results->ba
open Go.Addr renaming add_lit->bv
open Go.Lib renaming bytesWorld->bw
open Go.Proofs renaming intOf->au
open Go.Proofs.Tryz renaming prog->an,results195->bg,results244->bt,underlying216->c9
open Go.RowKit renaming Hid->M
open IntKind renaming i64->C
open Obj renaming cells->S
open Value renaming int->E,slice->B,string->L,agg->ah
open _root_ renaming Nat->G,Int->H,List->D,if_neg->ab,ByteArray->ae,UInt8->ai,Option->aj,decide_eq_false->ao,if_pos->ap,decide_eq_true->ay,decide_true->be,of_decide_eq_true->bh
open _root_.Bool renaming false->aa,true->ag,true_and->bb,and_true->bc,and_assoc->bi,eq_iff_iff->bj
open _root_.ByteArray renaming empty->bm
open _root_.List renaming getElem?_eq_getElem->bf,mem_of_getElem?->bn,length_append->br,take_add_one->bs,all_append->bx,getD_eq_getElem?_getD->bz,length->c7,take_length->c8
open _root_.Nat renaming le_refl->bo
open _root_.Option renaming none->Q,some->f
open _root_.UInt8 renaming toNat_inj->bu
variable{b:Bool}{cs n:D Ct}{l r:D ai}{m j c:G}{X:aj (Ct×D ai)}{y o:D am}{k:H}{s:ae}{w:al}{a:aj aw}
theorem set7 {W:al}{b:G}{cs:Array am}{T:TypeId}(h:W.heap[b]?=f (S cs T))(J:cs.size=7)(o u v y z A F:am):
  (((((((W.setCell ⟨b,0,Q⟩ o).setCell ⟨b,1,Q⟩ u).setCell ⟨b,2,Q⟩ v).setCell ⟨b,3,Q⟩ y).setCell ⟨b,4,Q⟩ z).setCell ⟨b,5,Q⟩ A).setCell ⟨b,6,Q⟩ F).heap[b]?=f (S #[o,u,v,y,z,A,F] T)/\Fr (Is b) W (((((((W.setCell ⟨b,0,Q⟩ o).setCell ⟨b,1,Q⟩ u).setCell ⟨b,2,Q⟩ v).setCell ⟨b,3,Q⟩ y).setCell ⟨b,4,Q⟩ z).setCell ⟨b,5,Q⟩ A).setCell ⟨b,6,Q⟩ F):=by
 refine⟨?_,af (af (af (af (af (af (af (p _ _) _) _) _) _) _) _) _⟩;obtain⟨l⟩:=cs
 match l,J with
 | [_,_,_,_,_,_,_],_=>
  have N:=zE h 0 o;have O:=zE N 1 u;have U:=zE O 2 v;have V:=zE U 3 y;have X:=zE V 4 z;have Y:=zE X 5 A;have I:=zE Y 6 F;simp only[List.setIfInBounds_toArray,List.set_cons_zero,List.set_cons_succ]at I;exact I
theorem zDN (h:∀ x∈l,x.toNat<128):Ascii ⟨l.toArray⟩:=λj b o=>h b (by
 have u:b∈(⟨l.toArray⟩:ae).data.toList:=bn o
 simpa using u)
theorem asc1: Ascii ⟨#[58,44,41]⟩:=zDN (l:=[58,44,41]) (by decide)
theorem asc2: Ascii ⟨#[58,40,44,41]⟩:=zDN (l:=[58,40,44,41]) (by decide)
theorem asc3: Ascii ⟨#[44,41]⟩:=zDN (l:=[44,41]) (by decide)
theorem zFr (e r:D ai):(past e r).length<=(r:G):=by
 have:=congrArg c7 (zAe e r);rw[br]at this;omega
theorem zQy (l:D ai):∃ b:ae,b=⟨l.toArray⟩/\b.data.toList=l:=⟨_,rfl,rfl⟩
theorem zL9 {b:ae}{m:D ai}(h:b.data.toList=l):(b.toList==m)=decide (l=m):=by
 rw[ByteArray.toList_eq,h,bj,beq_iff_eq,decide_eq_true_iff]
def pKind (n:G)(kd:D ai)(id:ae)(r3:D ai):aj (Ct×D ai):=
 if kd=[102,115]then
  (zY 58 r3).bind λr4=>f (.mk 1 id ⟨(upto [44,41] r4).toArray⟩ 0 0 0 [],past [44,41] r4)
 else if kd=[114,97,105,100]then
  (zY 58 r3).bind λr4=>(pNum r4).bind λp5=>(zY 47 p5.2).bind λr6=>(pNum r6).bind λp7=>(zY 47 p7.2).bind λr8=>(pNum r8).bind λp9=>
   (zY 40 p9.2).bind λra=>(pL n [] ra).bind λpb=>f (.mk 2 id () p5.1 p7.1 p9.1 pb.1,pb.2)
 else if kd=[99,114,121,112,116]then
  (zY 40 r3).bind λra=>(pL n [] ra).bind λpb=>f (.mk 3 id () 0 0 0 pb.1,pb.2)
 else if kd=[112,118]then
  (zY 58 r3).bind λr4=>(pNum r4).bind λp5=>(zY 47 p5.2).bind λr6=>(pNum r6).bind λp7=>
   (zY 40 p7.2).bind λra=>(pL n [] ra).bind λpb=>f (.mk 4 id () p5.1 p7.1 0 pb.1,pb.2)
 else if kd=[116,97,98,108,101]then
  (zY 40 r3).bind λra=>(pL n [] ra).bind λpb=>f (.mk 5 id () 0 0 0 pb.1,pb.2)
 else Q
theorem zQm (n:G)(r:D ai):pC (n+1) r=if upto [58,44,41] r=[]then f (Ct.zero,r)else (zY 58 (past [58,44,41] r)).bind λh=>pKind n (upto [58,44,41] r) ⟨(upto [58,40,44,41] h).toArray⟩ (past [58,40,44,41] h):=by
 rw[pC];rfl
def StX (X:aj (Ct×D ai))(b:Bool)(R:aj (Ct×D ai)):Prop:=(b=ag->X=Q)/\(b=aa->X=R)
theorem StX.want {x:ai}{y:D ai->aj (Ct×D ai)}(h:StX X b ((zY x r).bind y)):StX X (b||(zY x r).isNone) (y ((zY x r).getD r)):=by
 cases b with
 | true=>exact⟨λ_=>h.1 rfl,(λo=>by cases o)⟩
 | false=>
  have u:=h.2 rfl;cases o:zY x r with
  | none=>rw[o]at u;exact⟨(λ_=>u),(λv=>by cases v)⟩
  | some t=>rw[o]at u;exact⟨(λv=>by cases v),(λ_=>u)⟩
theorem StX.num {b':Bool}{r':D ai}{n:H}{z:H×D ai->aj (Ct×D ai)}(h:StX X b ((pNum r).bind z))(A:NumIs r r' b b' n):StX X b' (z (n,r')):=by
 cases b with
 | true=>exact⟨λ_=>h.1 rfl,λo=>by rw[A.1 rfl]at o;cases o⟩
 | false=>
  have v:=h.2 rfl;rcases A.2 rfl with⟨o,y⟩|⟨o,y⟩
  .rw[o]at v;exact⟨(λ_=>v),(λu=>by rw[y]at u;cases u)⟩
  .rw[o]at v;exact⟨(λu=>by rw[y]at u;cases u),(λ_=>v)⟩
theorem zL3 (n:G):PSpec n:=by
 induction n using Nat.strongRecOn with
 | ind n ih=>
 intro J s r w hr hc hs hE z;obtain⟨n,rfl⟩:∃ m,n=m+1:=⟨n-1,by omega⟩
 have A7:=zPd n (λk hk=>ih k (by omega));have s6:=zQm n r;have J4:=hc.lt;have hx:Fr No w (w.alloc (S #[E C 0,(),(),E C 0,E C 0,E C 0,B Q 0 0] 218)):=(p _ _).alloc _;have q2:=zF w (S #[E C 0,(),(),E C 0,E C 0,E C 0,B Q 0 0] 218);have s7:=hE.no hx;have s8:=hc.no hx;have J5:(w.alloc (S #[E C 0,(),(),E C 0,E C 0,E C 0,B Q 0 0] 218)).heap.size=(w:G)+1:=by simp
 go_enter Tryz.func244,Tryz.ntmps244;go_wp2_with fail;generalize w.alloc (S #[E C 0,(),(),E C 0,E C 0,E C 0,B Q 0 0] 218)=W0 at *;clear ih hc hE;apply (zGK J s ⟨#[58,44,41]⟩ r aa _ s8 asc1 (by omega) (by decide)).mono;rintro e w1 ⟨rfl,j5,j8⟩;have J6:=j8.size;have j9:=j8.heap q2 (λh=>by omega);have s9:=s7.fr j8 (λb X h=>by omega);have t0:=zh (hx.mono (T:=Is J) zn |>.step j8 zi);have t7:(⟨#[58,44,41]⟩:ae).data.toList=[58,44,41]:=rfl;rw[t7]at j5 ⊢;have n3:=zAe [58,44,41] r;have A8:=zh n3;have J7:=zFr [58,44,41] r;have o2:upto [58,44,41] r=[]->past [58,44,41] r=r:=λh=>by rw[h]at n3;simpa using n3
 have t8:=zh o2;generalize upto [58,44,41] r=kd at *;generalize past [58,44,41] r=r1 at *;obtain⟨kb,t9,p8⟩:=zQy kd;rw[<-t9];have n4:kb.toList.isEmpty=decide (kd=[]):=by
  rw[ByteArray.toList_eq,p8];cases kd<;>simp
 have v1:=zh s6;have k0:=zh p8;clear hx j8 s8 s7 q2 t7 n3 o2 t9 s6 p8;by_cases j6:kd=[]
 .have he:kb.toList.isEmpty=true:=by rw[n4];simp[j6]
  have h7:=set7 j9 rfl (E C 0) (L ()) (L ()) (E C 0) (E C 0) (E C 0) (B Q 0 0);have v3:r1=r:=t8.out j6;have g3:M (CtRes w J s r (n+1) (.returned (ah #[E C 0,(),(),E C 0,E C 0,E C 0,B Q 0 0])) (((((((w1.setCell ⟨w,0,Q⟩ (E C 0)).setCell ⟨w,1,Q⟩ (L ())).setCell ⟨w,2,Q⟩ (L ())).setCell ⟨w,3,Q⟩ (E C 0)).setCell ⟨w,4,Q⟩ (E C 0)).setCell ⟨w,5,Q⟩ (E C 0)).setCell ⟨w,6,Q⟩ (B Q 0 0))):=by
   refine⟨0,(),(),0,0,0,Q,0,0,r,aa,rfl,bo _,?_,t0.step h7.2 (λb X h=>by omega),.inr ⟨rfl,Ct.zero,?_,?_⟩⟩
   .rw[v3]at j5;exact j5.fr h7.2 (λh=>by omega)
   .rw[v1,ap j6]
   .exact bp (InAt.nil _ _) 0 () () 0 0 0
  have e2:=zh h7.1;obtain⟨z0,z1,z2,z3,z4,z5,z6⟩:=cl7 j9;obtain⟨f0,f1,f2,f3,f4,f5,f6⟩:=fl7 j9;clear j5 h7 n4 v3;go_wp2_with fail;have y0:=zB e2 0;have y1:=zB e2 1;have y2:=zB e2 2;have y3:=zB e2 3;have y4:=zB e2 4;have y5:=zB e2 5;have y6:=zB e2 6;refine az (v:=ah #[E C 0,(),(),E C 0,E C 0,E C 0,B Q 0 0]) (by simp[ba,bt,go_sem,y0,y1,y2,y3,y4,y5,y6]) rfl ?_;exact g3
 have he:kb.toList.isEmpty=false:=by rw[n4];simp[j6]
 have J8:1<=(kd:G):=by
  rcases hkk:kd with _|⟨x,t⟩
  .exact absurd hkk j6
  .simp
 have I5:(r1:G)+1<=(r:G):=by have:=congrArg c7 A8.out;rw[br]at this;omega
 clear n4;go_wp2_with fail;apply (zCy J s 58 r1 aa _ j5 (by omega)).mono;rintro e w2 ⟨rfl,r0,k6⟩;have v4:=zAt (b:=58) r1;have J9:=k6.size;have v5:=k6.heap j9 (λh=>by omega);have v6:=s9.fr k6 (λb X h=>by omega);have A9:=zh (t0.step k6 zi);obtain⟨r2,n5⟩:=ε ((zY 58 r1).getD r1)
 obtain⟨b2,r5⟩:=ε (aa||(zY 58 r1).isNone)
 rw[<-n5,<-r5]at r0;rw[<-n5]at v4;have D2:=zh n5;have D3:=zh r5;clear n5 r5 k6 j5 s9 j9;go_wp2_with fail;apply (zGK J s ⟨#[58,40,44,41]⟩ r2 b2 _ r0 asc2 (by omega) (by decide)).mono;rintro e o ⟨rfl,k7,k8⟩;have L0:=k8.size;have v7:=k8.heap v5 (λh=>by omega);have v8:=v6.fr k8 (λb X h=>by omega);have D4:=zh (A9.step k8 zi);have D5:(⟨#[58,40,44,41]⟩:ae).data.toList=[58,40,44,41]:=rfl;rw[D5]at k7 ⊢;have D6:=zFr [58,40,44,41] r2;obtain⟨u,r7⟩:=ε (⟨(upto [58,40,44,41] r2).toArray⟩:ae)
 obtain⟨r3,s0⟩:=ε (past [58,40,44,41] r2)
 rw[<-r7];rw[<-s0]at k7 D6;have v9:=zh r7;have D7:=zh s0;have hX:StX (pC (n+1) r) b2 (pKind n kd u r3):=by
  rw[v1,ab j6,v9,D7,D2,D3];cases h2:zY 58 r1 with
  | none=>exact⟨(λ_=>rfl),(λh=>by cases h)⟩
  | some t=>exact⟨(λh=>by cases h),(λ_=>rfl)⟩
 have HX:=zh hX;have hy:Fr No o (o.alloc (S #[E C 0,u,(),E C 0,E C 0,E C 0,B Q 0 0] 218)):=(p _ _).alloc _;have d8:=hy.heap v7 (λh=>h);have q4:=zF o (S #[E C 0,u,(),E C 0,E C 0,E C 0,B Q 0 0] 218);have d9:=k7.no hy;have e0:=v8.no hy;have j7:=zh (D4.step hy zn);have L3:(o.alloc (S #[E C 0,u,(),E C 0,E C 0,E C 0,B Q 0 0] 218)).heap.size=(o:G)+1:=by simp
 have L4:=k7.le;clear r7 s0 hX k8 r0 v6 v5 k7 v8 v7 hy;go_upto_region 6 with(fail)
 generalize o.alloc (S #[E C 0,u,(),E C 0,E C 0,E C 0,B Q 0 0] 218)=W4 at *;have k1:=zL9 (m:=[102,115]) k0;have k2:=zL9 (m:=[114,97,105,100]) k0;have k3:=zL9 (m:=[99,114,121,112,116]) k0;have k4:=zL9 (m:=[112,118]) k0;have k5:=zL9 (m:=[116,97,98,108,101]) k0;have K1:=zh k1;have K2:=zh k2;have K3:=zh k3;have K4:=zh k4;have K5:=zh k5;have I6:(w:G)+1<=(o:G):=by omega
 clear k1 k2 k3 k4 k5 he;go_cut [19] (λv wc=>v=L kb/\W4=wc);case first=>
  go_wp2;go_meet;exact⟨rfl,rfl⟩
 obtain⟨rfl,rfl⟩:=hcut;rename_i hK;apply hK _ _;go_cut [3] (λv wc=>v=L kb/\∃ (k sl t e:H) (rI:D ai) (bI:Bool),wc.heap[(o:G)]?=f (S #[E C k,u,(),sl,t,E C e,B Q 0 0] 218)/\wc.heap[(w:G)]?=f (S #[E C 0,(),(),E C 0,E C 0,E C 0,B Q 0 0] 218)/\Cur wc J s rI bI/\(rI:G)<=(r3:G)/\Fr (Is J) w wc/\Env wc/\(W4:G)<=(wc:G)/\M (StX (pC (n+1) r) bI ((zY 40 rI).bind λra=>(pL n [] ra).bind λJ=>f (.mk k u () sl t e J.1,J.2))));case first=>
  rcases h1:(kb.toList==[102,115])with _|_
  .rcases h2:(kb.toList==[114,97,105,100])with _|_
   .rcases h3:(kb.toList==[99,114,121,112,116])with _|_
    .rcases h4:(kb.toList==[112,118])with _|_
     .rcases h5:(kb.toList==[116,97,98,108,101])with _|_
      .have y:M (StX (pC (n+1) r) b2 Q):=by
        have h:=HX.out;unfold pKind at h;rw[ab (show ¬ kd=[102,115]from λe=>by have z:=K1.out;rw[h1,e]at z;simp at z)]at h;rw[ab (show ¬ kd=[114,97,105,100]from λe=>by have z:=K2.out;rw[h2,e]at z;simp at z)]at h;rw[ab (show ¬ kd=[99,114,121,112,116]from λe=>by have z:=K3.out;rw[h3,e]at z;simp at z)]at h;rw[ab (show ¬ kd=[112,118]from λe=>by have z:=K4.out;rw[h4,e]at z;simp at z)]at h;rw[ab (show ¬ kd=[116,97,98,108,101]from λe=>by have z:=K5.out;rw[h5,e]at z;simp at z)]at h;exact h
       obtain⟨D8,n6,D9,F0⟩:=d9.blk;have u2:W4 ⟨J,2,Q⟩=f (.bool b2):=zB n6 2;have v2:W4.frozen? ⟨J,2,Q⟩=false:=zD n6 2;have hg:Fr (Is J) W4 (W4.setCell ⟨J,2,Q⟩ (.bool ag)):=af (p _ _) _;have k9:Cur (W4.setCell ⟨J,2,Q⟩ (.bool ag)) J s r3 true:=⟨⟨D8,by rw[zE n6];rfl,D9,F0⟩⟩
       have l0:=hg.heap q4 (λh=>by omega);have l1:=hg.heap d8 (λh=>by omega);have l2:=e0.fr hg (λb X h=>by omega);have l3:=zh (j7.step hg zi);have w4:=hg.size;have F1:M (StX (pC (n+1) r) ag ((zY 40 r3).bind λra=>(pL n [] ra).bind λJ=>f (.mk 0 u () 0 0 0 J.1,J.2))):=by
        refine⟨(λ_=>?_),(λh=>by cases h)⟩;cases b2 with
        | true=>exact y.1 rfl
        | false=>exact y.2 rfl
       clear hg n6 d9 e0 q4 d8;go_wp2;go_meet;exact⟨rfl,0,0,0,0,r3,ag,l0,l1,k9,by omega,l3,l2,by omega,F1⟩
      .have y:M (StX (pC (n+1) r) b2 ((zY 40 r3).bind λra=>(pL n [] ra).bind λJ=>f (.mk 5 u () 0 0 0 J.1,J.2))):=by
        have h:=HX.out;unfold pKind at h;rw[ab (show ¬ kd=[102,115]from λe=>by have z:=K1.out;rw[h1,e]at z;simp at z)]at h;rw[ab (show ¬ kd=[114,97,105,100]from λe=>by have z:=K2.out;rw[h2,e]at z;simp at z)]at h;rw[ab (show ¬ kd=[99,114,121,112,116]from λe=>by have z:=K3.out;rw[h3,e]at z;simp at z)]at h;rw[ab (show ¬ kd=[112,118]from λe=>by have z:=K4.out;rw[h4,e]at z;simp at z)]at h;rw[ap (show kd=[116,97,98,108,101]from by have z:=K5.out;rw[h5]at z;exact bh z.symm)]at h;exact h
       have hg:Fr (Is (o:G)) W4 (W4.setCell ⟨o,0,Q⟩ (E C 5)):=af (p _ _) _;have l0:(W4.setCell ⟨o,0,Q⟩ (E C 5)).heap[(o:G)]?=f (S #[E C 5,u,(),E C 0,E C 0,E C 0,B Q 0 0] 218):=(zE q4 0 _).trans rfl;have l1:=hg.heap d8 (λh=>by omega);have k9:=d9.fr hg (λh=>by omega);have l2:=e0.fr hg (λb X h=>by omega);have l3:=zh (j7.step hg (λb X h=>by omega));have w4:=hg.size;have u0:W4 ⟨o,0,Q⟩=f (E C 0):=zB q4 0;have v0:W4.frozen? ⟨o,0,Q⟩=false:=zD q4 0;clear hg d9 e0 q4 d8;go_wp2;go_meet;exact⟨rfl,5,0,0,0,r3,b2,l0,l1,k9,by omega,l3,l2,by omega,y⟩
     .have y:M (StX (pC (n+1) r) b2 ((zY 58 r3).bind λr4=>(pNum r4).bind λp5=>(zY 47 p5.2).bind λr6=>(pNum r6).bind λp7=>(zY 40 p7.2).bind λra=>(pL n [] ra).bind λJ=>f (.mk 4 u () p5.1 p7.1 0 J.1,J.2))):=by
       have h:=HX.out;unfold pKind at h;rw[ab (show ¬ kd=[102,115]from λe=>by have z:=K1.out;rw[h1,e]at z;simp at z)]at h;rw[ab (show ¬ kd=[114,97,105,100]from λe=>by have z:=K2.out;rw[h2,e]at z;simp at z)]at h;rw[ab (show ¬ kd=[99,114,121,112,116]from λe=>by have z:=K3.out;rw[h3,e]at z;simp at z)]at h;rw[ap (show kd=[112,118]from by have z:=K4.out;rw[h4]at z;exact bh z.symm)]at h;exact h
      go_wp2_with fail;apply (zCy J s 58 r3 b2 _ d9 (by omega)).mono;rintro w5 w7 ⟨rfl,Y,A⟩;have g4:=zAt (b:=58) r3;have o3:=A.size;have d5:=A.heap q4 (λh=>by omega);have d6:=A.heap d8 (λh=>by omega);have b7:=e0.fr A (λb X h=>by omega);have g5:=zh (j7.step A zi);have Z:=StX.want y;obtain⟨b8,a7⟩:=ε ((zY 58 r3).getD r3)
      obtain⟨d4,d7⟩:=ε (b2||(zY 58 r3).isNone)
      rw[<-a7,<-d7]at Y Z;rw[<-a7]at g4;have y:=zh Z;clear a7 d7 A Z d9 e0 q4 d8;go_wp2_with fail;apply (zCz J s b8 d4 _ Y hs b7 z).mono;rintro w8 a8 ⟨b9,e3,l4,rfl,w9,d0,g6,F⟩;have o4:=F.size;have d1:=F.heap d5 (λh=>by omega);have g7:=F.heap d6 (λh=>by omega);have y:=zh (StX.num y g6);have N:Fr (Is (o:G)) a8 ((a8.setCell ⟨o,0,Q⟩ (E C 4)).setCell ⟨o,3,Q⟩ (E C b9)):=af (af (p _ _) _) _;have g8:((a8.setCell ⟨o,0,Q⟩ (E C 4)).setCell ⟨o,3,Q⟩ (E C b9)).heap[(o:G)]?=f (S #[E C 4,u,(),b9,E C 0,E C 0,B Q 0 0] 218):=(zE (zE d1 0 _) 3 _).trans rfl;have g9:=N.heap g7 (λh=>by omega);have h0:=d0.fr N (λh=>by omega);have h6:=(b7.fr F (λb X h=>by omega)).fr N (λb X h=>by omega);have l5:=zh ((g5.step F zi).step N (λb X h=>by omega));have x0:=N.size;obtain⟨l6,-,-,l7⟩:=cl4 d1;obtain⟨l8,-,-,l9⟩:=fl4 d1;clear F N d0 g6 Y b7 d5 d6 g7 d1;go_upto_region 24 with(fail)
      generalize ((a8.setCell ⟨o,0,Q⟩ (E C 4)).setCell ⟨o,3,Q⟩ (E C b9))=Vx2 at *;clear l6 l8 l7 l9;go_wp2_with fail;apply (zCy J s 47 e3 l4 _ h0 (by omega)).mono;rintro F2 F3 ⟨rfl,e4,O⟩;have m0:=zAt (b:=47) e3;have x1:=O.size;have h8:=O.heap g8 (λh=>by omega);have i0:=O.heap g9 (λh=>by omega);have e5:=h6.fr O (λb X h=>by omega);have m1:=zh (l5.step O zi);have e7:=StX.want y;obtain⟨i7,e8⟩:=ε ((zY 47 e3).getD e3)
      obtain⟨i8,i3⟩:=ε (l4||(zY 47 e3).isNone)
      rw[<-e8,<-i3]at e4 e7;rw[<-e8]at m0;have y:=zh e7;clear e8 i3 O e7 h0 h6 g8 g9;go_wp2_with fail;apply (zCz J s i7 i8 _ e4 hs e5 z).mono;rintro F4 e1 ⟨e9,i9,n7,rfl,x2,i4,i5,U⟩;have x3:=U.size;have d2:=U.heap h8 (λh=>by omega);have i6:=U.heap i0 (λh=>by omega);have y:=zh (StX.num y i5);have V:Fr (Is (o:G)) e1 (e1.setCell ⟨o,4,Q⟩ (E C e9)):=af (p _ _) _;have j0:(e1.setCell ⟨o,4,Q⟩ (E C e9)).heap[(o:G)]?=f (S #[E C 4,u,(),b9,e9,E C 0,B Q 0 0] 218):=(zE d2 4 _).trans rfl;have j1:=V.heap i6 (λh=>by omega);have j2:=i4.fr V (λh=>by omega);have j3:=(e5.fr U (λb X h=>by omega)).fr V (λb X h=>by omega);have m2:=zh ((m1.step U zi).step V (λb X h=>by omega));have x4:=V.size;have o5:e1 ⟨o,4,Q⟩=f (E C 0):=zB d2 4;have o6:e1.frozen? ⟨o,4,Q⟩=false:=zD d2 4;clear U V i4 i5 e4 e5 h8 i0 i6 d2;go_wp2;go_meet;exact⟨rfl,4,b9,e9,0,i9,n7,j0,j1,j2,by omega,m2,j3,by omega,y⟩
    .have y:M (StX (pC (n+1) r) b2 ((zY 40 r3).bind λra=>(pL n [] ra).bind λJ=>f (.mk 3 u () 0 0 0 J.1,J.2))):=by
      have h:=HX.out;unfold pKind at h;rw[ab (show ¬ kd=[102,115]from λe=>by have z:=K1.out;rw[h1,e]at z;simp at z)]at h;rw[ab (show ¬ kd=[114,97,105,100]from λe=>by have z:=K2.out;rw[h2,e]at z;simp at z)]at h;rw[ap (show kd=[99,114,121,112,116]from by have z:=K3.out;rw[h3]at z;exact bh z.symm)]at h;exact h
     have hg:Fr (Is (o:G)) W4 (W4.setCell ⟨o,0,Q⟩ (E C 3)):=af (p _ _) _;have l0:(W4.setCell ⟨o,0,Q⟩ (E C 3)).heap[(o:G)]?=f (S #[E C 3,u,(),E C 0,E C 0,E C 0,B Q 0 0] 218):=(zE q4 0 _).trans rfl;have l1:=hg.heap d8 (λh=>by omega);have k9:=d9.fr hg (λh=>by omega);have l2:=e0.fr hg (λb X h=>by omega);have l3:=zh (j7.step hg (λb X h=>by omega));have w4:=hg.size;have u0:W4 ⟨o,0,Q⟩=f (E C 0):=zB q4 0;have v0:W4.frozen? ⟨o,0,Q⟩=false:=zD q4 0;clear hg d9 e0 q4 d8;go_wp2;go_meet;exact⟨rfl,3,0,0,0,r3,b2,l0,l1,k9,by omega,l3,l2,by omega,y⟩
   .have y:M (StX (pC (n+1) r) b2 ((zY 58 r3).bind λr4=>(pNum r4).bind λp5=>(zY 47 p5.2).bind λr6=>(pNum r6).bind λp7=>(zY 47 p7.2).bind λr8=>(pNum r8).bind λp9=>(zY 40 p9.2).bind λra=>(pL n [] ra).bind λJ=>f (.mk 2 u () p5.1 p7.1 p9.1 J.1,J.2))):=by
     have h:=HX.out;unfold pKind at h;rw[ab (show ¬ kd=[102,115]from λe=>by have z:=K1.out;rw[h1,e]at z;simp at z)]at h;rw[ap (show kd=[114,97,105,100]from by have z:=K2.out;rw[h2]at z;exact bh z.symm)]at h;exact h
    go_wp2_with fail;apply (zCy J s 58 r3 b2 _ d9 (by omega)).mono;rintro w5 w7 ⟨rfl,Y,A⟩;have g4:=zAt (b:=58) r3;have o3:=A.size;have d5:=A.heap q4 (λh=>by omega);have d6:=A.heap d8 (λh=>by omega);have b7:=e0.fr A (λb X h=>by omega);have g5:=zh (j7.step A zi);have Z:=StX.want y;obtain⟨b8,a7⟩:=ε ((zY 58 r3).getD r3)
    obtain⟨d4,d7⟩:=ε (b2||(zY 58 r3).isNone)
    rw[<-a7,<-d7]at Y Z;rw[<-a7]at g4;have y:=zh Z;clear a7 d7 A Z d9 e0 q4 d8;go_wp2_with fail;apply (zCz J s b8 d4 _ Y hs b7 z).mono;rintro w8 a8 ⟨b9,e3,l4,rfl,w9,d0,g6,F⟩;have o4:=F.size;have d1:=F.heap d5 (λh=>by omega);have g7:=F.heap d6 (λh=>by omega);have y:=zh (StX.num y g6);have N:Fr (Is (o:G)) a8 ((a8.setCell ⟨o,0,Q⟩ (E C 2)).setCell ⟨o,3,Q⟩ (E C b9)):=af (af (p _ _) _) _;have g8:((a8.setCell ⟨o,0,Q⟩ (E C 2)).setCell ⟨o,3,Q⟩ (E C b9)).heap[(o:G)]?=f (S #[E C 2,u,(),b9,E C 0,E C 0,B Q 0 0] 218):=(zE (zE d1 0 _) 3 _).trans rfl;have g9:=N.heap g7 (λh=>by omega);have h0:=d0.fr N (λh=>by omega);have h6:=(b7.fr F (λb X h=>by omega)).fr N (λb X h=>by omega);have l5:=zh ((g5.step F zi).step N (λb X h=>by omega));have x0:=N.size;obtain⟨l6,-,-,l7⟩:=cl4 d1;obtain⟨l8,-,-,l9⟩:=fl4 d1;clear F N d0 g6 Y b7 d5 d6 g7 d1;go_upto_region 15 with(fail)
    generalize ((a8.setCell ⟨o,0,Q⟩ (E C 2)).setCell ⟨o,3,Q⟩ (E C b9))=Vx2 at *;clear l6 l8 l7 l9;go_wp2_with fail;apply (zCy J s 47 e3 l4 _ h0 (by omega)).mono;rintro F2 F3 ⟨rfl,e4,O⟩;have m0:=zAt (b:=47) e3;have x1:=O.size;have h8:=O.heap g8 (λh=>by omega);have i0:=O.heap g9 (λh=>by omega);have e5:=h6.fr O (λb X h=>by omega);have m1:=zh (l5.step O zi);have e7:=StX.want y;obtain⟨i7,e8⟩:=ε ((zY 47 e3).getD e3)
    obtain⟨i8,i3⟩:=ε (l4||(zY 47 e3).isNone)
    rw[<-e8,<-i3]at e4 e7;rw[<-e8]at m0;have y:=zh e7;clear e8 i3 O e7 h0 h6 g8 g9;go_wp2_with fail;apply (zCz J s i7 i8 _ e4 hs e5 z).mono;rintro F4 e1 ⟨e9,i9,n7,rfl,x2,i4,i5,U⟩;have x3:=U.size;have d2:=U.heap h8 (λh=>by omega);have i6:=U.heap i0 (λh=>by omega);have y:=zh (StX.num y i5);have V:Fr (Is (o:G)) e1 (e1.setCell ⟨o,4,Q⟩ (E C e9)):=af (p _ _) _;have j0:(e1.setCell ⟨o,4,Q⟩ (E C e9)).heap[(o:G)]?=f (S #[E C 2,u,(),b9,e9,E C 0,B Q 0 0] 218):=(zE d2 4 _).trans rfl;have j1:=V.heap i6 (λh=>by omega);have j2:=i4.fr V (λh=>by omega);have j3:=(e5.fr U (λb X h=>by omega)).fr V (λb X h=>by omega);have m2:=zh ((m1.step U zi).step V (λb X h=>by omega));have x4:=V.size;have o5:e1 ⟨o,4,Q⟩=f (E C 0):=zB d2 4;have o6:e1.frozen? ⟨o,4,Q⟩=false:=zD d2 4;clear U V i4 i5 e4 e5 h8 i0 i6 d2;go_upto_region 17 with(fail)
    generalize (e1.setCell ⟨o,4,Q⟩ (E C e9))=Vx4 at *;clear o5 o6;go_wp2_with fail;apply (zCy J s 47 i9 n7 _ j2 (by omega)).mono;rintro L5 L6 ⟨rfl,m3,g0⟩;have x5:=zAt (b:=47) i9;have I7:=g0.size;have o7:=g0.heap j0 (λh=>by omega);have o8:=g0.heap j1 (λh=>by omega);have m4:=j3.fr g0 (λb X h=>by omega);have x6:=zh (m2.step g0 zi);have m5:=StX.want y;obtain⟨s1,m6⟩:=ε ((zY 47 i9).getD i9)
    obtain⟨s2,o9⟩:=ε (n7||(zY 47 i9).isNone)
    rw[<-m6,<-o9]at m3 m5;rw[<-m6]at x5;have y:=zh m5;clear m6 o9 g0 m5 j2 j3 j0 j1;go_wp2_with fail;apply (zCz J s s1 s2 _ m3 hs m4 z).mono;rintro L7 m7 ⟨n8,F5,F6,rfl,I8,p0,p1,g1⟩;have I9:=g1.size;have j4:=g1.heap o7 (λh=>by omega);have p3:=g1.heap o8 (λh=>by omega);have y:=zh (StX.num y p1);have g2:Fr (Is (o:G)) m7 (m7.setCell ⟨o,5,Q⟩ (E C n8)):=af (p _ _) _;have x7:(m7.setCell ⟨o,5,Q⟩ (E C n8)).heap[(o:G)]?=f (S #[E C 2,u,(),b9,e9,n8,B Q 0 0] 218):=(zE j4 5 _).trans rfl;have x8:=g2.heap p3 (λh=>by omega);have x9:=p0.fr g2 (λh=>by omega);have y7:=(m4.fr g1 (λb X h=>by omega)).fr g2 (λb X h=>by omega);have y8:=zh ((x6.step g1 zi).step g2 (λb X h=>by omega));have J0:=g2.size;have J1:m7 ⟨o,5,Q⟩=f (E C 0):=zB j4 5;have J2:m7.frozen? ⟨o,5,Q⟩=false:=zD j4 5;clear g1 g2 p0 p1 m3 m4 o7 o8 p3 j4;go_wp2;go_meet;exact⟨rfl,2,b9,e9,n8,F5,F6,x7,x8,x9,by omega,y8,y7,by omega,y⟩
  .have y:M (StX (pC (n+1) r) b2 ((zY 58 r3).bind λr4=>f (.mk 1 u ⟨(upto [44,41] r4).toArray⟩ 0 0 0 [],past [44,41] r4))):=by
    have h:=HX.out;unfold pKind at h;rw[ap (show kd=[102,115]from by have z:=K1.out;rw[h1]at z;exact bh z.symm)]at h;exact h
   go_wp2_with fail;apply (zCy J s 58 r3 b2 _ d9 (by omega)).mono;rintro w5 w7 ⟨rfl,Y,A⟩;have g4:=zAt (b:=58) r3;have o3:=A.size;have d5:=A.heap q4 (λh=>by omega);have d6:=A.heap d8 (λh=>by omega);have b7:=e0.fr A (λb X h=>by omega);have g5:=zh (j7.step A zi);have Z:=StX.want y;obtain⟨b8,a7⟩:=ε ((zY 58 r3).getD r3)
   obtain⟨d4,d7⟩:=ε (b2||(zY 58 r3).isNone)
   rw[<-a7,<-d7]at Y Z;rw[<-a7]at g4;have y:=zh Z;clear a7 d7 A Z d9 e0 q4 d8;go_wp2_with fail;apply (zGK J s ⟨#[44,41]⟩ b8 d4 _ Y asc3 (by omega) (by decide)).mono;rintro w8 a8 ⟨rfl,d0,F⟩;have F7:(⟨#[44,41]⟩:ae).data.toList=[44,41]:=rfl;rw[F7]at d0 ⊢;have J3:=zFr [44,41] b8;have n9:=y.out;obtain⟨d3,p6⟩:=ε (⟨(upto [44,41] b8).toArray⟩:ae)
   rw[<-p6]at n9 ⊢;generalize past [44,41] b8=r9 at *;have o4:=F.size;have p4:=F.heap d5 (λh=>by omega);have p2:=F.heap d6 (λh=>by omega);have hg:Fr (Is (o:G)) a8 ((a8.setCell ⟨o,0,Q⟩ (E C 1)).setCell ⟨o,2,Q⟩ (L d3)):=af (af (p _ _) _) _;have y9:((a8.setCell ⟨o,0,Q⟩ (E C 1)).setCell ⟨o,2,Q⟩ (L d3)).heap[(o:G)]?=f (S #[E C 1,u,d3,E C 0,E C 0,E C 0,B Q 0 0] 218):=(zE (zE p4 0 _) 2 _).trans rfl;have s3:=hg.heap p2 (λh=>by omega);have h7:=set7 s3 rfl (E C 1) (L u) (L d3) (E C 0) (E C 0) (E C 0) (B Q 0 0);have g3:M (CtRes w J s r (n+1) (.returned (ah #[E C 1,u,d3,E C 0,E C 0,E C 0,B Q 0 0])) (((((((((a8.setCell ⟨o,0,Q⟩ (E C 1)).setCell ⟨o,2,Q⟩ (L d3)).setCell ⟨w,0,Q⟩ (E C 1)).setCell ⟨w,1,Q⟩ (L u)).setCell ⟨w,2,Q⟩ (L d3)).setCell ⟨w,3,Q⟩ (E C 0)).setCell ⟨w,4,Q⟩ (E C 0)).setCell ⟨w,5,Q⟩ (E C 0)).setCell ⟨w,6,Q⟩ (B Q 0 0))):=by
    refine⟨1,u,d3,0,0,0,Q,0,0,r9,d4,rfl,by omega,(d0.fr hg (λh=>by omega)).fr h7.2 (λh=>by omega),((g5.step F zi).step hg (λb X h=>by omega)).step h7.2 (λb X h=>by omega),?_⟩;cases d4 with
    | true=>exact .inl ⟨rfl,n9.1 rfl⟩
    | false=>exact .inr ⟨rfl,_,n9.2 rfl,bp (InAt.nil _ _) 1 u d3 0 0 0⟩
   obtain⟨u0,-,u2⟩:=cl3 p4;obtain⟨v0,-,v2⟩:=fl3 p4;have e2:=zh h7.1;have a9:=zh y9;have I:=zh s3;clear h7 n9 d0 F p6 hg p4 p2 Y b7 d5 d6 y9 s3;go_upto_region 11 with(fail)
   generalize ((a8.setCell ⟨o,0,Q⟩ (E C 1)).setCell ⟨o,2,Q⟩ (L d3))=W7 at *;clear u0 v0 u2 v2;have a0:W7 ⟨o,0,Q⟩=f (E C 1):=zB a9 0;have a1:W7 ⟨o,1,Q⟩=f (L u):=zB a9 1;have a2:W7 ⟨o,2,Q⟩=f (L d3):=zB a9 2;have a3:W7 ⟨o,3,Q⟩=f (E C 0):=zB a9 3;have a4:W7 ⟨o,4,Q⟩=f (E C 0):=zB a9 4;have a5:W7 ⟨o,5,Q⟩=f (E C 0):=zB a9 5;have a6:W7 ⟨o,6,Q⟩=f (B Q 0 0):=zB a9 6;have b0:W7 ⟨w,0,Q⟩=f (E C 0):=zB I 0;have b1:W7 ⟨w,1,Q⟩=f (L ()):=zB I 1;have b2:W7 ⟨w,2,Q⟩=f (L ()):=zB I 2;have b3:W7 ⟨w,3,Q⟩=f (E C 0):=zB I 3;have b4:W7 ⟨w,4,Q⟩=f (E C 0):=zB I 4;have b5:W7 ⟨w,5,Q⟩=f (E C 0):=zB I 5;have b6:W7 ⟨w,6,Q⟩=f (B Q 0 0):=zB I 6;have F8:W7.frozen? ⟨w,0,Q⟩=false:=zD I 0;have F9:W7.frozen? ⟨w,1,Q⟩=false:=zD I 1;have I0:W7.frozen? ⟨w,2,Q⟩=false:=zD I 2;have I1:W7.frozen? ⟨w,3,Q⟩=false:=zD I 3;have I2:W7.frozen? ⟨w,4,Q⟩=false:=zD I 4;have I3:W7.frozen? ⟨w,5,Q⟩=false:=zD I 5;have I4:W7.frozen? ⟨w,6,Q⟩=false:=zD I 6;go_wp2_with fail;have y0:=zB e2 0;have y1:=zB e2 1;have y2:=zB e2 2;have y3:=zB e2 3;have y4:=zB e2 4;have y5:=zB e2 5;have y6:=zB e2 6;refine az (v:=ah #[E C 1,u,d3,E C 0,E C 0,E C 0,B Q 0 0]) (by simp[ba,bt,go_sem,y0,y1,y2,y3,y4,y5,y6]) rfl ?_;exact g3
 case rest=>
  obtain⟨rfl,k,sl,t,e,rI,bI,z7,z8,z9,L8,A0,A1,L9,A2⟩:=hcut;obtain⟨W5,rfl⟩:=ε wc
  go_wp2_with fail;apply (A7 J s rI bI _ (by omega) z9 hs A1 z).mono;rintro e6 w6 ⟨a,m,c,r6,b6,rfl,M0,A3,m8,A4,m9⟩;have M1:=m8.size;have o0:=m8.heap z7 (λh=>by omega);have A5:=m8.heap z8 (λh=>by omega);have s4:=zE o0 6 (B a m c);have s5:(w6.setCell ⟨o,6,Q⟩ (B a m c)).heap[(w:G)]?=f (S #[E C 0,(),(),E C 0,E C 0,E C 0,B Q 0 0] 218):=((p (Is (o:G)) w6).setAt (i:=6) (B a m c)).heap A5 (λh=>by omega);have A6:(#[E C k,u,(),sl,t,E C e,B Q 0 0]:Array am).setIfInBounds 6 (B a m c)=#[E C k,L u,L (),E C sl,E C t,E C e,B a m c]:=rfl;rw[A6]at s4;have fA:Fr (Is (o:G)) w6 (w6.setCell ⟨o,6,Q⟩ (B a m c)):=(p _ _).setAt _;have h7:=set7 s5 rfl (E C k) (L u) (L ()) (E C sl) (E C t) (E C e) (B a m c);have g3:M (CtRes w J s r (n+1) (.returned (ah #[E C k,u,(),sl,t,E C e,B a m c])) ((((((((w6.setCell ⟨o,6,Q⟩ (B a m c)).setCell ⟨w,0,Q⟩ (E C k)).setCell ⟨w,1,Q⟩ (L u)).setCell ⟨w,2,Q⟩ (L ())).setCell ⟨w,3,Q⟩ (E C sl)).setCell ⟨w,4,Q⟩ (E C t)).setCell ⟨w,5,Q⟩ (E C e)).setCell ⟨w,6,Q⟩ (B a m c))):=by
   have fB:=h7.2;refine⟨k,u,(),sl,t,e,a,m,c,r6,b6,rfl,by omega,(A3.fr fA (λh=>by omega)).fr fB (λh=>by omega),((A0.step m8 zi).step fA (λb X h=>by omega)).step fB (λb X h=>by omega),?_⟩;have o1:((zY 40 rI).bind λra=>(pL n [] ra).bind λJ=>f (ax k u () sl t e J.1,J.2))=((zY 40 rI).bind (pL n [])).bind λJ=>f (ax k u () sl t e J.1,J.2):=by
    cases zY 40 rI<;>rfl
   cases bI with
   | true=>exact .inl ⟨A4 rfl,A2.1 rfl⟩
   | false=>
    have h1:=A2.2 rfl;rw[o1]at h1;rcases m9 rfl with⟨h2,h3⟩|⟨h2,cs,h3,h4,h5⟩
    .rw[h3]at h1;exact .inl ⟨h2,h1⟩
    .rw[h3]at h1;refine .inr ⟨h2,_,h1,?_⟩;subst h4;refine bp ?_ k u () sl t e;exact((h5.fr fA (λb X h=>by omega)).fr fB (λb X h=>by omega)).mono (λb _ X=>by unfold From at *;omega)
  have z6:w6 ⟨o,6,Q⟩=f (B Q 0 0):=zB o0 6;have f6:w6.frozen? ⟨o,6,Q⟩=false:=zD o0 6;have e2:=zh h7.1;have a9:=zh s4;have I:=zh s5;clear m9 A3 m8 A5 o0 z9 A1 A0 z7 z8 h7 fA s4 s5 A6 A4;go_upto_region 29 with(fail)
  generalize w6.setCell ⟨o,6,Q⟩ (B a m c)=W7 at *;have a0:W7 ⟨o,0,Q⟩=f (E C k):=zB a9 0;have a1:W7 ⟨o,1,Q⟩=f (L u):=zB a9 1;have a2:W7 ⟨o,2,Q⟩=f (L ()):=zB a9 2;have a3:W7 ⟨o,3,Q⟩=f (E C sl):=zB a9 3;have a4:W7 ⟨o,4,Q⟩=f (E C t):=zB a9 4;have a5:W7 ⟨o,5,Q⟩=f (E C e):=zB a9 5;have a6:W7 ⟨o,6,Q⟩=f (B a m c):=zB a9 6;have b0:W7 ⟨w,0,Q⟩=f (E C 0):=zB I 0;have b1:W7 ⟨w,1,Q⟩=f (L ()):=zB I 1;have b2:W7 ⟨w,2,Q⟩=f (L ()):=zB I 2;have b3:W7 ⟨w,3,Q⟩=f (E C 0):=zB I 3;have b4:W7 ⟨w,4,Q⟩=f (E C 0):=zB I 4;have b5:W7 ⟨w,5,Q⟩=f (E C 0):=zB I 5;have b6:W7 ⟨w,6,Q⟩=f (B Q 0 0):=zB I 6;have F8:W7.frozen? ⟨w,0,Q⟩=false:=zD I 0;have F9:W7.frozen? ⟨w,1,Q⟩=false:=zD I 1;have I0:W7.frozen? ⟨w,2,Q⟩=false:=zD I 2;have I1:W7.frozen? ⟨w,3,Q⟩=false:=zD I 3;have I2:W7.frozen? ⟨w,4,Q⟩=false:=zD I 4;have I3:W7.frozen? ⟨w,5,Q⟩=false:=zD I 5;have I4:W7.frozen? ⟨w,6,Q⟩=false:=zD I 6;go_wp2_with fail;have y0:=zB e2 0;have y1:=zB e2 1;have y2:=zB e2 2;have y3:=zB e2 3;have y4:=zB e2 4;have y5:=zB e2 5;have y6:=zB e2 6;refine az (v:=ah #[E C k,u,(),sl,t,E C e,B a m c]) (by simp[ba,bt,go_sem,y0,y1,y2,y3,y4,y5,y6]) rfl ?_;exact g3
theorem zJ6 (m:G):m<=10000->∀ (k s t e:H) (i l:ae) (n:D Ct) (a:aj aw) (o:G) (w:al) (X:G->Prop),ak n<m->InAt w X a o n->
  aq an 306 #[ah #[k,i,l,s,t,E C e,B a n o]] w λen w2=>(∃ a' c',en=.returned (ah #[k,i,l,s,t,E C e,B a' n c']))/\Fr No w w2:=by
 obtain⟨i0,d6,d7,d8,d9⟩:=info_parts infoC
 induction m with
 | zero=>intro _ k s t e i l n a o w X h;omega
 | succ m ih=>
  intro hm k s t e i l n a o w X e9 b9;have g0:=zAj n;have h0:Fr No w ((w.alloc (S #[k,i,l,s,t,E C e,B a n o] 218)).alloc (S #[E C 0,(),(),E C 0,E C 0,E C 0,B Q 0 0] 218)):=((p _ _).alloc _).alloc _;have q1:=zP w (S #[k,i,l,s,t,E C e,B a n o] 218) (S #[E C 0,(),(),E C 0,E C 0,E C 0,B Q 0 0] 218);have q2:=zS w (S #[k,i,l,s,t,E C e,B a n o] 218) (S #[E C 0,(),(),E C 0,E C 0,E C 0,B Q 0 0] 218);have e0:((w.alloc (S #[k,i,l,s,t,E C e,B a n o] 218)).alloc (S #[E C 0,(),(),E C 0,E C 0,E C 0,B Q 0 0] 218)).heap.size=(w:G)+2:=by simp
  obtain⟨F,a9⟩:=ε ((w.alloc (S #[k,i,l,s,t,E C e,B a n o] 218)).alloc (S #[E C 0,(),(),E C 0,E C 0,E C 0,B Q 0 0] 218))
  rw[<-a9]at h0 q1 q2 e0;have d0:=b9.fr h0 (λ_ _=>id);have c6:F ⟨w,6,Q⟩=f (B a n o):=zB q1 6;have Ih:=zh (ih (by omega));have H0:=zh h0;clear ih b9 h0;go_enter Tryz.func306,Tryz.ntmps306;go_upto_region 1 with(fail)
  rw[<-a9];clear a9;go_wp2_with fail;go_loopw [3,9] (λv x wr=>∃ (j:G) (I:aj aw) (J:G) (xs:D am),j<=(n:G)/\v=B I j J/\x=E C (j:H)/\wr.ownsRow (F:G) 218 7 (B I j J) j xs/\Fr (From (F:G)) F wr) (λ_ x _=>(n:G)-(au x).toNat);case atStart=>exact⟨0,Q,0,[],by omega,rfl,rfl,World.ownsRow_nil _ _ _ _,p _ _⟩
  case round=>
   obtain⟨j,I,J,xs,hj,rfl,rfl,V,u⟩:=hrel;by_cases e2:j<(n:G)
   .have d1:(j:H)<(n:G):=(by omega);obtain⟨d,hd⟩:∃ d,n[j]?=f d:=⟨_,bf e2⟩
    have e3:=zBM (bn hd);obtain⟨k1,i1,l1,s1,t1,e1,n1⟩:=d;rw[bd]at e3;have Z:InAt wr (λb=>b<(F:G)) a o n:=by
     have h3:=d0.mono (Y:=λb=>b<(F:G)) (λb hb _=>hb);exact h3.fr u (λb hb h=>by omega)
    obtain⟨b,g1,a',a7,rfl,hb,hX,⟨y0,y1,y2,y3,y4,y5,y6⟩,a8⟩:=Z.at hd;have g2:=u.size;clear hd Z;go_wp2_with fail;have hx:Fr No wr (wr.alloc (S #[k1,i1,l1,s1,t1,e1,B a' n1 a7] 218)):=(p _ _).alloc _;apply (Ih k1 s1 t1 e1 i1 l1 n1 a' a7 _ _ (by omega) (a8.fr hx (λ_ _=>id))).mono;rintro e w2 ⟨⟨a2,c2,rfl⟩,d2⟩;have N:=hx.step d2 zi;have b7:=zh (u.step N zn);have y:=zAc V N zi;have g3:=N.size;clear hx d2 u y0 y1 y2 y3 y4 y5 y6 a8 V N;go_wp2_with (at_builtin;refine wpList_append_own_at _ rfl _ _ 216 rfl (F:G) 218 i0 (ah #[E C 0,bm,bm,E C 0,E C 0,E C 0,B Q 0 0]) 7 88 c9 d6 d7 d8 d9 rfl (by decide) _ _ _ rfl (y.alloc _) ⟨w2,0,Q⟩ 1 1 [E C k1,L i1,L l1,E C s1,E C t1,E C e1,B a2 n1 c2] rfl rfl (zl _ _ _ rfl) (zD6 _ _ _ _ _ _ _ _ _) (by unfold maxLen;omega) (by omega) (by first|omega|(simp;done)|(simp;omega)) ?_;intro v' wb z A _ e4;obtain⟨e5,e6,rfl⟩:=zI z)
    have d3:Fr (From (F:G)) w2 wb:=zCG y A;have e7:=zh (b7.step d3 zi);have d4:=zh z;clear z A e4 d3 y;go_wp2;go_roundw;case rel=>exact⟨j+1,e5,e6,_,by omega,rfl,by go_num,d4,e7⟩
    case measure=>simp[au];omega
   .have d1:¬ (j:H)<(n:G):=(by omega);obtain rfl:j=(n:G):=by omega
    have r1:=u.heap q1 (λh=>by omega);have r2:=u.heap q2 (λh=>by omega);have b7:=zh (H0.trans (U:=No) u zi (λb hb h=>by omega));clear u q1 q2 c6;have c6:wr ⟨w,6,Q⟩=f (B a n o):=zB r1 6;have f6:wr.frozen? ⟨w,6,Q⟩=false:=zD r1 6;go_upto_region 8 with(fail)
    have O:Fr (Is (w:G)) wr (wr.setCell ⟨w,6,Q⟩ (B I n J)):=af (p _ _) _;have p1:=zE r1 6 (B I n J);have p2:=O.heap r2 (λe=>by omega);have g4:(w:G)+2<=(wr.setCell ⟨w,6,Q⟩ (B I n J)).heap.size:=(by have:=zC r2;have:=O.size;omega);have e8:=zh (b7.step O (λb hb h=>by omega));clear r1 r2 c6 f6;generalize wr.setCell ⟨w,6,Q⟩ (B I n J)=W1 at *;obtain⟨a0,a1,a2,a3,a4,a5,a6⟩:=cl7 p1;obtain⟨b0,b1,b2,b3,b4,b5,b6⟩:=cl7 p2;obtain⟨g5,g6,g7,g8,g9,h1,h2⟩:=fl7 p2;have h7:=set7 p2 rfl (E C k) (L i) (L l) (E C s) (E C t) (E C e) (B I n J);have d5:=zh (e8.step h7.2 (λb hb h=>by omega));have b8:=zh h7.1;clear p1 p2 h7 O;go_wp2_with fail;have y0:=zB b8 0;have y1:=zB b8 1;have y2:=zB b8 2;have y3:=zB b8 3;have y4:=zB b8 4;have y5:=zB b8 5;have y6:=zB b8 6;refine az (v:=ah #[k,i,l,s,t,E C e,B I n J]) (by simp[ba,Tryz.results306,go_sem,y0,y1,y2,y3,y4,y5,y6]) rfl ?_;exact⟨⟨I,J,rfl⟩,d5⟩
inductive ShFlat : D am->D Ct->Prop
 | nil:ShFlat [] []
 | cons (k s t e:H) (i l:ae) (n:D Ct) (a:aj aw) (cap:G) {vs:D am} {cs:D Ct} (h:ShFlat vs cs):ShFlat ([E C k,L i,L l,E C s,E C t,E C e,B a n cap]++vs) (.mk k i l s t e n::cs)
theorem ShFlat.append {u:D Ct}(h:ShFlat y cs)(z:ShFlat o u):ShFlat (y++o) (cs++u):=by
 induction h with
 | nil=>exact z
 | cons k s t e i l n a v h A=>rw[List.append_assoc];exact .cons k s t e i l n a v A
theorem ShFlat.len (h:ShFlat o cs):(o:G)=(cs:G)*7:=by
 induction h with
 | nil=>rfl
 | cons k s t e i l n a u h v=>simp[v];omega
theorem ShFlat.one {v:D am}(h:ShFlat v cs):∀ u∈v,u.oneCell'=true:=by
 induction h with
 | nil=>intro u o;cases o
 | cons k s t e i l n a y h z=>
  intro u o;rcases List.mem_append.1 o with o|o
  .exact zD6 _ _ _ _ _ _ _ _ _ u o
  .exact z u o
theorem ShFlat.at (h:ShFlat y cs){s t e:H}{i l:ae}(v:cs[j]?=f (.mk k i l s t e n)):
  ∃ a o,∀ q,q<7->y[j*7+q]?=[Value.int C k,L i,L l,E C s,E C t,E C e,B a n o][q]?:=by
 induction h generalizing j with
 | nil=>simp at v
 | cons J N O U V l' X a o h A=>
  cases j with
  | zero=>
   simp at v;obtain⟨rfl,rfl,rfl,rfl,rfl,rfl,rfl⟩:=v;exact⟨a,o,λq z=>by rw[List.getElem?_append_left (by simp;omega)];simp⟩
  | succ j=>
   obtain⟨F,u,I⟩:=A (by simpa using v);exact⟨F,u,λq z=>by rw[List.getElem?_append_right (by simp;omega),<-I q z];congr 1;simp;omega⟩
theorem zK6 {o:G}{F:TypeId}{I:G}{n:G}{A:D am}(h:w.ownsRow o F I (B a n c) m A):∀ y,a=f y->∀ j u,A[j]?=f u->w (y.add j)=f u:=by
 rintro y rfl j u v;obtain⟨_,⟨z,V⟩|⟨g,J,N,z,X,O,Y,Z,h8,U⟩⟩:=h;·cases z
 .cases z;rw[bv,zB O];rw[<-U]at v;rw[<-Array.getElem?_toList];rw[List.getElem?_take]at v;split at v
  .simpa using v
  .cases v
theorem zHe {o:G}{v:TypeId}{y:G}{n:G}{z:D am}(h:w.ownsRow o v y (B a n c) m z)(e:a=Q):m=0/\c=0:=by
 subst e;obtain⟨_,⟨u,A⟩|⟨g,F,I,u,J,N,O,U,V,X⟩⟩:=h;·cases u;exact⟨A,rfl⟩
 .cases u
theorem zE8 {d:Ct}(h:n[j]?=f d):bq (n.take (j+1))=bq (n.take j)++d.walk:=by
 rw[bs,h,zA7];show _++(d.walk++[])=_
 rw[List.append_nil]
theorem zHA (j:G):ak (n.take j)<=ak n:=by
 have h:=zAi (n.take j) (n.drop j);rw[List.take_append_drop]at h;omega
theorem zNd (m:G):m<=10000->∀ (k s t e:H) (i l:ae) (n:D Ct) (a:aj aw) (o:G) (w:al) (X:G->Prop),ak n<m->InAt w X a o n->
  aq an 283 #[ah #[k,i,l,s,t,E C e,B a n o]] w λen w2=>(∃ a' c' xs,en=.returned (B a' (ak n+1) c')/\ShFlat xs (ax k i l s t e n).walk/\w2.ownsRow (w:G) 218 7 (B a' (ak n+1) c') (ak n+1) xs)/\Fr No w w2:=by
 obtain⟨i0,d8,d9,e0,e2⟩:=info_parts infoC
 induction m with
 | zero=>intro _ k s t e i l n a o w X h;omega
 | succ m ih=>
  intro hm k s t e i l n a o w X e3 b6;have g8:=zAj n;have h0:Fr No w (w.alloc (S #[k,i,l,s,t,E C e,B a n o] 218)):=(p _ _).alloc _;have q1:=zF w (S #[k,i,l,s,t,E C e,B a n o] 218);have e4:(w.alloc (S #[k,i,l,s,t,E C e,B a n o] 218)).heap.size=(w:G)+1:=by simp
  obtain⟨W0,b1⟩:=ε (w.alloc (S #[k,i,l,s,t,E C e,B a n o] 218))
  rw[<-b1]at h0 q1 e4;have J:=(b6.mono (Y:=λb=>b<(w:G)) (λb hb _=>hb)).fr h0 (λ_ _=>id);obtain⟨c0,c1,c2,c3,c4,c5,c6⟩:=cl7 q1;have Ih:=zh (ih (by omega));have H0:=zh h0;clear ih b6 h0;go_enter Tryz.func283,Tryz.ntmps283;go_upto_region 1 with(fail)
  rw[<-b1];clear b1;go_wp2_with fail;apply (zJ6 (m+1) hm k s t e i l n a o _ _ e3 J).mono;rintro en y ⟨⟨ac,cc,rfl⟩,N⟩;have b7:=N.heap q1 id;have g9:=N.size;have a6:=J.fr N (λ_ _=>id);have O:Fr No y (y.alloc (S #[k,i,l,s,t,E C e,B ac n cc] 218)):=(p _ _).alloc _;have qb:=zF y (S #[k,i,l,s,t,E C e,B ac n cc] 218);have e5:(y.alloc (S #[k,i,l,s,t,E C e,B ac n cc] 218)).heap.size=(y:G)+1:=by simp
  obtain⟨WB,a5⟩:=ε (y.alloc (S #[k,i,l,s,t,E C e,B ac n cc] 218))
  have b2:WB.ownsRow (y:G) 218 7 (B (f ⟨y,0,Q⟩) 1 1) 1 [E C k,L i,L l,E C s,E C t,E C e,B ac n cc]:=
   ⟨rfl,.inr ⟨(y:G),1,_,rfl,bo _,by rw[a5];exact qb,bo _,by unfold maxLen;omega,rfl,rfl⟩⟩
  rw[<-a5]at O qb e5;have e6:=O.heap b7 id;have b8:=a6.fr O (λ_ _=>id);have b9:=zh ((H0.step N zi).step O zi);clear c0 c1 c2 c3 c4 c5 c6 q1 b7 N O qb a6 J;have c6:WB ⟨w,6,Q⟩=f (B a n o):=zB e6 6;go_upto_region 2 with(fail)
  rw[<-a5];clear a5;go_wp2_with fail;go_loopw [3,12] (λv x wr=>∃ (j:G) (av:aj aw) (cv:G) (xs:D am),j<=(n:G)/\v=B av (ak (n.take j)+1) cv/\x=E C (j:H)/\M (ShFlat xs (.mk k i l s t e n::bq (n.take j)))/\wr.ownsRow (y:G) 218 7 (B av (ak (n.take j)+1) cv) (ak (n.take j)+1) xs/\Fr (From (y:G)) WB wr/\InAt wr (λb=>b<(y:G)) a o n) (λ_ x _=>(n:G)-(au x).toNat);case atStart=>
   refine⟨0,f ⟨y,0,Q⟩,1,_,by omega,rfl,rfl,?_,b2,p _ _,?_⟩
   .have h:=ShFlat.cons k s t e i l n ac cc ShFlat.nil;exact h
   .exact b8.mono (λb _ hb=>by omega)
  case round=>
   obtain⟨j,av,cv,xs,hj,rfl,rfl,b3,u,V,I⟩:=hrel;have h1:=zHA (n:=n) j;by_cases e7:j<(n:G)
   .have d0:(j:H)<(n:G):=(by omega);obtain⟨d,hd⟩:∃ d,n[j]?=f d:=⟨_,bf e7⟩
    have e8:=zBM (bn hd);have e9:=zh (zE8 hd);have g0:ak (n.take (j+1))=ak (n.take j)+d.count:=(by rw[<-zCa,<-zCa,<-zDd,zE8 hd,br]);have g7:=zHA (n:=n) (j+1);obtain⟨k1,i1,l1,s1,t1,e1,n1⟩:=d;rw[bd]at e8 g0;obtain⟨b,h2,a',Z,rfl,hb,hX,⟨y0,y1,y2,y3,y4,y5,y6⟩,a7⟩:=I.at hd;have h3:=V.size;have hx:Fr No wr (wr.alloc (S #[k1,i1,l1,s1,t1,e1,B a' n1 Z] 218)):=(p _ _).alloc _;have h4:(wr.alloc (S #[k1,i1,l1,s1,t1,e1,B a' n1 Z] 218)).heap.size=(wr:G)+1:=(by simp);have a8:=a7.fr hx (λ_ _=>id);have d1:=zh I;clear hd I a7;generalize g1:ak (n.take j)=cj at *;clear g1;go_wp2_with fail;apply (Ih k1 s1 t1 e1 i1 l1 n1 a' Z _ _ (by omega) a8).mono;rintro e w2 ⟨⟨a2,c2,g2,rfl,b4,z⟩,d2⟩;have a3:=hx.step d2 zi;have g3:=zh (V.step a3 zn);have A:=zAc u a3 zi;have h5:=a3.size;have d3:=b4.len;rw[zDd,bd]at d3;have d4:=zh (b3.append b4);have d5:=zh (d1.fr a3 (λ_ _=>id));clear hx d2 V y0 y1 y2 y3 y4 y5 y6 a8 u a3;go_wp2_with (at_builtin;refine zAC rfl _ _ 216 rfl (y:G) 218 i0 (ah #[E C 0,bm,bm,E C 0,E C 0,E C 0,B Q 0 0]) 7 88 c9 d8 d9 e0 e2 rfl (by decide) _ (cj+1) xs rfl A a2 (ak n1+1) c2 g2 rfl (λe=>absurd (zHe z e).1 (by omega)) d3 (λad e=>zK6 z ad e) b4.one (by unfold maxLen;omega) (by omega) (by first|omega|(simp;done)|(simp;omega)) ?_;intro v' wb F a4;obtain⟨g4,g5,rfl⟩:=zI F)
    have b5:Fr (From (y:G)) w2 wb:=zFB A a4;have g6:=zh (g3.step b5 zi);have d6:=zh F;have d7:=zh (d5.fr b5 (λb hb h=>by omega));have a9:cj+1+(ak n1+1)=ak (n.take (j+1))+1:=(by omega);have b0:=zh a9;clear F a4 b5 z A a9;go_wp2;go_roundw;case rel=>exact⟨j+1,g4,g5,_,by omega,by rw[b0],by go_num,by rw[e9];exact d4,by rw[<-b0];exact d6,g6,d7⟩
    case measure=>simp[au];omega
   .have d0:¬ (j:H)<(n:G):=(by omega);obtain rfl:j=(n:G):=by omega
    rw[c8]at u b3 ⊢;have Ho:=zh (zAp (base':=(w:G)) u (by omega));have Hf:=zh (b9.trans (U:=No) V zi (λb hb h=>by omega));clear u V I;go_wp2;go_ret;exact⟨⟨av,cv,rfl,xs,by rw[Ct.walk];exact b3,Ho⟩,Hf⟩
theorem zCx (x y:H)(w:al):
  aq an 310 #[x,y] w λu v=>u=.returned (.bool (decide (1<=x)&&decide (x<=y)))/\w=v:=by
 go_enter Tryz.func310,Tryz.ntmps310;by_cases h:1<=x
 .by_cases o:x<=y
  .go_wp2;go_ret;simp[h,o]
  .go_wp2;go_ret;simp[o]
 .have z:=zh (ao h);go_wp2;go_ret;rw[z];simp
theorem zL1 (k s t e:H)(i l:ae)(v:am)(w:al):
  aq an 309 #[ah #[k,i,l,s,t,e,v]] w λo J=>o=.returned (.bool (zAX s t))/\Fr No w J:=by
 have z:zAX s t=((decide (1<=t)&&decide (t<=16))&&(decide (1<=s)&&decide (s<=t))):=by unfold zAX;rw[bi]
 rw[z];clear z;have u:Fr No w (w.alloc (S #[k,i,l,s,t,e,v] 218)):=(p _ _).alloc _;have A:=zF w (S #[k,i,l,s,t,e,v] 218);obtain⟨F,h⟩:=ε (w.alloc (S #[k,i,l,s,t,e,v] 218))
 rw[<-h]at u A;obtain⟨-,-,-,O,U⟩:=cl5 A;have I:=zh u;clear u;go_enter Tryz.func309,Tryz.ntmps309;go_upto_region 1 with(fail)
 rw[<-h];clear h;go_wp2_with fail;apply (zCx t 16 _).mono;rintro o N ⟨rfl,rfl⟩;cases hb:(decide (1<=t)&&decide (t<=16))with
 | true=>
  have y:=zh hb;clear hb;go_wp2_with fail;apply (zCx s t _).mono;rintro o N ⟨rfl,rfl⟩;go_wp2;go_ret;exact⟨by rw[y.out];simp,I.out⟩
 | false=>
  have y:=zh hb;clear hb;go_wp2;go_ret;exact⟨by rw[y];rfl,I⟩
theorem zJw (b:ai):idByte b=decide ((65<=b.toNat/\b.toNat<=90)\/(97<=b.toNat/\b.toNat<=122)\/(48<=b.toNat/\b.toNat<=57)\/b.toNat=95\/b.toNat=46\/b.toNat=45):=by
 have o:(b=95)=(b.toNat=95):=by rw[<-bu];rfl
 have u:(b=46)=(b.toNat=46):=by rw[<-bu];rfl
 have v:(b=45)=(b.toNat=45):=by rw[<-bu];rfl
 rw[idByte,bj];simp only[Bool.or_eq_true,Bool.and_eq_true,decide_eq_true_eq,UInt8.le_iff_toNat_le,o,u,v];have h:(65:ai).toNat=65/\(90:ai).toNat=90/\(97:ai).toNat=97/\(122:ai).toNat=122/\(48:ai).toNat=48/\(57:ai).toNat=57:=⟨rfl,rfl,rfl,rfl,rfl,rfl⟩
 rw[h.1,h.2.1,h.2.2.1,h.2.2.2.1,h.2.2.2.2.1,h.2.2.2.2.2];omega
theorem zNF (h:j<s.size)(u:idByte (s.data.toList.getD j 0)=aa):isId s=false:=by
 unfold isId;have v:s.data.toList.getD j 0∈bl s:=by
  have o:j<s.data.toList.length:=h;rw[bz,bf o];exact List.getElem_mem o
 have y:(bl s).all idByte=false:=List.all_eq_false.2 ⟨_,v,by rw[u];simp⟩;rw[y,Bool.and_false]
theorem zEl (s:ae)(w:al)(hs:s.size<=100000):
  aq an 308 #[s] w λen w2=>en=.returned (.bool (isId s))/\Fr No w w2:=by
 have X:=Lib.run_convert_string_bytes (P:=an) w 9 67 5 s (u:=.string) Tryz.underlying9 Tryz.underlying67 Tryz.underlying5;have hf:Fr No w (bw w 5 s):=⟨rfl,rfl,rfl,by rw[Lib.bytesWorld_size];omega,λk hk _=>Lib.bytesWorld_at_old _ _ _ _ hk⟩
 have F:=Lib.bytesWorld_cell w 5 s;generalize grownCap w s.size 0 5=cp at X;obtain⟨W0,hW⟩:=ε (bw w 5 s)
 rw[<-hW]at X hf F;have O:=zh hf;have a2:=zh F;have Y:(bl s).length=s.size:=rfl;clear hf hW F;go_enter Tryz.func308,Tryz.ntmps308;go_wp2_with fail
 go_loop [8] (λi=>∃ j:G,j<=s.size/\i=E C (j:H)/\M (((bl s).take j).all idByte=ag)) (λi=>s.size-(au i).toNat)
 case atStart=>exact⟨0,by omega,rfl,rfl⟩
 case round=>
  obtain⟨j,hj,rfl,A⟩:=hrel;by_cases I:j<s.size
  .have a3:(j:H)<s.size:=by omega
   have hc:=a2.out j I;have y:=zh (zNF I);have z:M (((bl s).take (j+1)).all idByte=idByte (s.data.toList.getD j 0)):=by
    unfold M;have h2:j<s.data.toList.length:=I;rw[bs,bx,A,bb];show ((s.data.toList)[j]?.toList).all idByte=_
    rw[bz,bf h2];simp
   have o:=zJw (s.data.toList.getD j 0);obtain⟨N,hN⟩:∃ N:G,(s.data.toList.getD j 0).toNat=N:=⟨_,rfl⟩
   rw[hN]at hc o;have a4:N<256:=(by rw[<-hN];exact UInt8.toNat_lt _);clear hN;generalize s.data.toList.getD j 0=b at *;rcases(by omega:(65<=N/\N<=90)\/(97<=N/\N<=122)\/(48<=N/\N<=57)\/N=95\/N=46\/N=45\/(N<48/\N≠46/\N≠45)\/(58<=N/\N<65)\/(91<=N/\N<97/\N≠95)\/123<=N)with c|c|c|c|c|c|c|c|c|c
   .have v:M (idByte b=ag):=(by unfold M;rw[o];exact ay (by omega));clear o;have U:(65:H)<=(N:H):=(by omega);have V:(N:H)<=90:=(by omega);go_wp2;go_roundw;case rel=>exact⟨j+1,by omega,by go_num,by rw[z,v];rfl⟩
    case measure=>simp[au];omega
   .have v:M (idByte b=ag):=(by unfold M;rw[o];exact ay (by omega));clear o;have U:(65:H)<=(N:H):=(by omega);have V:¬ (N:H)<=90:=(by omega);have Z:(97:H)<=(N:H):=(by omega);have n3:(N:H)<=122:=(by omega);go_wp2;go_roundw;case rel=>exact⟨j+1,by omega,by go_num,by rw[z,v];rfl⟩
    case measure=>simp[au];omega
   .have v:M (idByte b=ag):=(by unfold M;rw[o];exact ay (by omega));clear o;have U:¬ (65:H)<=(N:H):=(by omega);have V:¬ (97:H)<=(N:H):=(by omega);have Z:(48:H)<=(N:H):=(by omega);have n3:(N:H)<=57:=(by omega);go_wp2;go_roundw;case rel=>exact⟨j+1,by omega,by go_num,by rw[z,v];rfl⟩
    case measure=>simp[au];omega
   .have v:M (idByte b=ag):=(by unfold M;rw[o];exact ay (by omega));clear o;subst c;go_wp2;go_roundw;case rel=>exact⟨j+1,by omega,by go_num,by rw[z,v];rfl⟩
    case measure=>simp[au];omega
   .have v:M (idByte b=ag):=(by unfold M;rw[o];exact ay (by omega));clear o;subst c;go_wp2;go_roundw;case rel=>exact⟨j+1,by omega,by go_num,by rw[z,v];rfl⟩
    case measure=>simp[au];omega
   .have v:M (idByte b=ag):=(by unfold M;rw[o];exact ay (by omega));clear o;subst c;go_wp2;go_roundw;case rel=>exact⟨j+1,by omega,by go_num,by rw[z,v];rfl⟩
    case measure=>simp[au];omega
   .have v:M (idByte b=aa):=(by unfold M;rw[o];exact ao (by omega));clear o;have U:¬ (65:H)<=(N:H):=(by omega);have V:¬ (97:H)<=(N:H):=(by omega);have Z:¬ (48:H)<=(N:H):=(by omega);have n3:¬ (N:H)=95:=(by omega);have n4:¬ (N:H)=46:=(by omega);have n5:¬ (N:H)=45:=(by omega);go_wp2;go_ret;exact⟨by rw[y v];rfl,O⟩
   .have v:M (idByte b=aa):=(by unfold M;rw[o];exact ao (by omega));clear o;have U:¬ (65:H)<=(N:H):=(by omega);have V:¬ (97:H)<=(N:H):=(by omega);have Z:(48:H)<=(N:H):=(by omega);have n3:¬ (N:H)<=57:=(by omega);have n4:¬ (N:H)=95:=(by omega);have n5:¬ (N:H)=46:=(by omega);have n6:¬ (N:H)=45:=(by omega);go_wp2;go_ret;exact⟨by rw[y v];rfl,O⟩
   .have v:M (idByte b=aa):=(by unfold M;rw[o];exact ao (by omega));clear o;have U:(65:H)<=(N:H):=(by omega);have V:¬ (N:H)<=90:=(by omega);have Z:¬ (97:H)<=(N:H):=(by omega);have n3:(48:H)<=(N:H):=(by omega);have n4:¬ (N:H)<=57:=(by omega);have n5:¬ (N:H)=95:=(by omega);have n6:¬ (N:H)=46:=(by omega);have n7:¬ (N:H)=45:=(by omega);go_wp2;go_ret;exact⟨by rw[y v];rfl,O⟩
   .have v:M (idByte b=aa):=(by unfold M;rw[o];exact ao (by omega));clear o;have U:(65:H)<=(N:H):=(by omega);have V:¬ (N:H)<=90:=(by omega);have Z:(97:H)<=(N:H):=(by omega);have n3:¬ (N:H)<=122:=(by omega);have n4:(48:H)<=(N:H):=(by omega);have n5:¬ (N:H)<=57:=(by omega);have n6:¬ (N:H)=95:=(by omega);have n7:¬ (N:H)=46:=(by omega);have n8:¬ (N:H)=45:=(by omega);go_wp2;go_ret;exact⟨by rw[y v];rfl,O⟩
  .obtain rfl:j=s.size:=by omega
   have Hr:M (isId s=(!(bl s).isEmpty&&decide (s.size<=16))):=by
    have h:=A.out;have h2:(bl s).take s.size=bl s:=(by rw[<-Y,c8]);rw[h2]at h;unfold M isId;rw[h,bc,Y]
   have he:s.toList.isEmpty=(bl s).isEmpty:=(by rw[ByteArray.toList_eq]);cases hem:(bl s).isEmpty with
   | true=>
    rw[hem]at he;have J:=zh hem;clear hem;go_wp2;go_ret;exact⟨by rw[Hr,J];rfl,O⟩
   | false=>
    rw[hem]at he;have J:=zh hem;clear hem;go_wp2;go_ret;exact⟨by rw[Hr.out,J.out];simp;try omega,O.out⟩
theorem zQx (a:aj aw)(n o:G)(v:am)(w:al)(z:n<=100000):
  aq an 329 #[B a n o,B Q 0 0,v] w λu y=>u=.returned (.bool (decide (n=0)))/\w=y:=by
 go_enter Tryz.func329,Tryz.ntmps329;by_cases h:n=0
 .subst h;go_wp2_with fail
  go_loop [17] (λi=>i=E C 0) (λi=>0)
  case atStart=>rfl
  case round=>
   subst hrel;go_wp2;go_ret;exact⟨rfl,rfl⟩
 .have A:¬ (n:H)=0:=by omega
  go_wp2;go_ret;exact⟨by rw[ao h];rfl,rfl⟩
def sameB (k s t e k' s' t' e':H)(i l i' l':ae)(n:G):Bool:=decide (k=k')&&(i.toList==i'.toList)&&(l.toList==l'.toList)&&decide (s=s')&&decide (t=t')&&decide (e=e')&&decide (n=0)
theorem zEk (k s t e u v y z:H)(i l A l':ae)(a:aj aw)(n h:G)(w:al)(hn:n<=100000):
  aq an 307 #[ah #[k,i,l,s,t,e,B a n h],ah #[u,A,l',v,y,z,B Q 0 0]] w λX w2=>X=.returned (.bool (sameB k s t e u v y z i l A l' n))/\Fr No w w2:=by
 have N:Fr No w ((w.alloc (S #[k,i,l,s,t,e,B a n h] 218)).alloc (S #[u,A,l',v,y,z,B Q 0 0] 218)):=((p _ _).alloc _).alloc _;have O:=zP w (S #[k,i,l,s,t,e,B a n h] 218) (S #[u,A,l',v,y,z,B Q 0 0] 218);have U:=zS w (S #[k,i,l,s,t,e,B a n h] 218) (S #[u,A,l',v,y,z,B Q 0 0] 218);obtain⟨Y,F⟩:=ε ((w.alloc (S #[k,i,l,s,t,e,B a n h] 218)).alloc (S #[u,A,l',v,y,z,B Q 0 0] 218))
 rw[<-F]at N O U;obtain⟨a0,a1,a2,a3,a4,a5,a6⟩:=cl7 O;obtain⟨b0,b1,b2,b3,b4,b5,b6⟩:=cl7 U;have o:=zh N;clear N O U;go_enter Tryz.func307,Tryz.ntmps307;go_upto_region 1 with(fail)
 rw[<-F];clear F;by_cases Z:k=u;case neg=>
  have Hk:=zh (ao Z);go_wp2;go_ret;exact⟨by unfold sameB;rw[Hk.out];simp,o.out⟩
 subst Z;cases hi:(i.toList==A.toList)with
 | false=>
  have I:=zh hi;go_wp2;go_ret;exact⟨by unfold sameB;rw[I.out];simp,o.out⟩
 | true=>
  have I:=zh hi;cases hl:(l.toList==l'.toList)with
  | false=>
   have J:=zh hl;go_wp2;go_ret;exact⟨by unfold sameB;rw[J.out];simp,o.out⟩
  | true=>
   have J:=zh hl;by_cases hs:s=v;case neg=>
    have Hs:=zh (ao hs);go_wp2;go_ret;exact⟨by unfold sameB;rw[Hs.out];simp,o.out⟩
   subst hs;by_cases ht:t=y;case neg=>
    have Ht:=zh (ao ht);go_wp2;go_ret;exact⟨by unfold sameB;rw[Ht.out];simp,o.out⟩
   subst ht;by_cases he:e=z;case neg=>
    have He:=zh (ao he);go_wp2;go_ret;exact⟨by unfold sameB;rw[He.out];simp,o.out⟩
   subst he;go_wp2_with fail;apply (zQx a n h _ _ hn).mono;rintro X w1 ⟨rfl,rfl⟩;cases hd:decide (n=0)with
   | true=>
    have V:=zh hd;clear hd;go_wp2;go_ret;exact⟨by unfold sameB;rw[I.out,J.out,V.out];simp,o.out⟩
   | false=>
    have V:=zh hd;clear hd;go_wp2;go_ret;exact⟨by unfold sameB;rw[I.out,J.out,V.out];simp,o.out⟩
theorem zCl (s t e:H):noNum s t e=(decide (s=0)&&decide (t=0)&&decide (e=0)):=rfl
theorem zBo (l:ae):(l.toList==l.toList)=true:=by simp
theorem zBH (l:ae):(l.toList==(():ae).toList)=(bl l).isEmpty:=by
 rw[ByteArray.toList_eq,ByteArray.toList_eq];show (l.data.toList==[])=l.data.toList.isEmpty
 cases l.data.toList<;>rfl
theorem zF2 (n:D Ct):decide ((n:G)=0)=n.isEmpty:=by cases n<;>simp
theorem zQY (s t e:H)(i l:ae)(n:D Ct):alike (.mk 0 i l s t e n)=sameB 0 s t e 0 0 0 0 i l () () (n:G):=by
 simp only[alike,ap,sameB,zBH,zF2,zCl,be,bb];simp only[bi]
theorem zFX (s t e:H)(i l:ae)(n:D Ct):alike (.mk 1 i l s t e n)=(n.isEmpty&&(((bl l).isEmpty||isId l)&&(isId i&&sameB 1 s t e 1 0 0 0 i l i l 0))):=by
 simp only[alike,sameB,zBo,zCl,be,bb,bc];rw[ab (by omega),ap trivial];cases n.isEmpty<;>cases isId i<;>cases((bl l).isEmpty||isId l)<;>simp
theorem zHH (s t e:H)(i l:ae)(n:D Ct):alike (.mk 2 i l s t e n)=(decide ((n:G)=1)&&(zAX s t&&((decide (1<=e)&&decide (e<=t))&&(isId i&&sameB 2 s t e 2 s t e i l i () 0)))):=by
 simp only[alike,sameB,zBo,zBH,be,bb,bc];rw[ab (by omega),ab (by omega),ap trivial];cases isId i<;>cases(bl l).isEmpty<;>cases decide ((n:G)=1)<;>cases zAX s t<;>simp
theorem zMJ (s t e:H)(i l:ae)(n:D Ct):alike (.mk 3 i l s t e n)=(decide ((n:G)=1)&&(isId i&&sameB 3 s t e 3 0 0 0 i l i () 0)):=by
 simp only[alike,sameB,zBo,zBH,zCl,be,bb,bc];rw[ab (by omega),ab (by omega),ab (by omega),ap trivial];cases isId i<;>cases(bl l).isEmpty<;>cases decide ((n:G)=1)<;>simp[bi]
theorem zJS (s t e:H)(i l:ae)(n:D Ct):alike (.mk 4 i l s t e n)=((decide (1<=((n:G):H))&&decide (((n:G):H)<=16))&&(zAX s t&&(isId i&&sameB 4 s t e 4 s t 0 i l i () 0))):=by
 have h:(decide (1<=((n:G):H))&&decide (((n:G):H)<=16))=someIn n:=by unfold someIn;rw[bj];simp;omega
 rw[h];simp only[alike,sameB,zBo,zBH,be,bb,bc];rw[ab (by omega),ab (by omega),ab (by omega),ab (by omega),ap trivial];cases isId i<;>cases(bl l).isEmpty<;>cases someIn n<;>cases zAX s t<;>simp
theorem zMI (s t e:H)(i l:ae)(n:D Ct):alike (.mk 5 i l s t e n)=((decide (1<=((n:G):H))&&decide (((n:G):H)<=16))&&(isId i&&sameB 5 s t e 5 0 0 0 i l i () 0)):=by
 have h:(decide (1<=((n:G):H))&&decide (((n:G):H)<=16))=someIn n:=by unfold someIn;rw[bj];simp;omega
 rw[h];simp only[alike,sameB,zBo,zBH,zCl,be,bb,bc];rw[ab (by omega),ab (by omega),ab (by omega),ab (by omega),ab (by omega),ap trivial];cases isId i<;>cases(bl l).isEmpty<;>cases someIn n<;>simp[bi]
theorem zQX (s t e:H)(i l:ae)(n:D Ct)(h:k≠0)(o:k≠1)(u:k≠2)(v:k≠3)(y:k≠4)(z:k≠5):alike (.mk k i l s t e n)=false:=by
 rw[alike,ab h,ab o,ab u,ab v,ab y,ab z]
theorem zPg (k s t e:H)(i l:ae)(n:D Ct)(a:aj aw)(b9:G)(w:al)(hn:(n:G)<=100000)(e7:i.size<=100000)(j1:l.size<=100000):
  aq an 285 #[ah #[k,i,l,s,t,e,B a n b9]] w λen w2=>en=.returned (.bool (alike (.mk k i l s t e n)))/\Fr No w w2:=by
 have h0:Fr No w (w.alloc (S #[k,i,l,s,t,e,B a n b9] 218)):=(p _ _).alloc _;have q1:=zF w (S #[k,i,l,s,t,e,B a n b9] 218);have j2:(w.alloc (S #[k,i,l,s,t,e,B a n b9] 218)).heap.size=(w:G)+1:=by simp
 obtain⟨W0,g9⟩:=ε (w.alloc (S #[k,i,l,s,t,e,B a n b9] 218))
 rw[<-g9]at h0 q1 j2;obtain⟨X,a1,a2,I,J,Y,Z⟩:=cl7 q1;have H0:=zh h0;go_enter Tryz.func285,Tryz.ntmps285;go_upto_region 1 with(fail)
 rw[<-g9];clear g9 h0;by_cases h4:k=0
 .subst h4;go_wp2_with fail;apply (zEk 0 s t e 0 0 0 0 i l () () a (n:G) b9 _ hn).mono;rintro en w1 ⟨rfl,h5⟩;have Hf:=zh (H0.step h5 zi);clear h5;go_wp2;go_ret;exact⟨by rw[zQY];rfl,Hf⟩
 .go_wp2_with fail;refine zO (From (W0:G)) [(0,aa),(1,aa),(2,aa),(3,aa),(4,aa),(5,aa),(6,aa),(7,aa),(8,ag),(9,ag),(10,aa)] (λo e4=>?_);have h1:¬ From (W0:G) (w:G):=λh=>by omega
  have g0:∀ g:Gr (From (W0:G)) o,g.W ⟨w,0,Q⟩=f (E C k):=λg=>g.fr.cell (e4.cell X id) h1
  have g1:∀ g:Gr (From (W0:G)) o,g.W ⟨w,1,Q⟩=f (L i):=λg=>g.fr.cell (e4.cell a1 id) h1
  have g6:∀ g:Gr (From (W0:G)) o,g.W ⟨w,6,Q⟩=f (B a n b9):=λg=>g.fr.cell (e4.cell Z id) h1
  have h6:=e4.heap q1 id;have j5:=e4.size;have j3:=zh (H0.step e4 zi);clear X a1 a2 I J Y Z q1 e4;(repeat apply zR rfl rfl rfl;intro K hK;go_big_quiet_op;go_big_quiet_on);clear g0 g1 g6;apply zu rfl;go_wp2_with fail;have e8:Fr No o (o.alloc (S #[E C 0,(),(),E C 0,E C 0,E C 0,B Q 0 0] 218)):=(p _ _).alloc _;apply zm e8;have q2:=zF o (S #[E C 0,(),(),E C 0,E C 0,E C 0,B Q 0 0] 218);have h2:=e8.heap h6 id;obtain⟨W1,h8⟩:=ε (o.alloc (S #[E C 0,(),(),E C 0,E C 0,E C 0,B Q 0 0] 218))
  rw[<-h8]at e8 q2 h2 ⊢;have j4:=zh (j3.step e8 zi);have h7:=set7 q2 rfl (E C k) (L i) (L ()) (E C 0) (E C 0) (E C 0) (B Q 0 0);have z:=h7.2.heap h2 (λh=>by omega);have e1:=zh (j4.step h7.2 (λb hb h=>by omega));have h9:=zh h7.2;have y:=h7.1;have i0:=z;obtain⟨b0,b1,b2,A,F,N,b6⟩:=cl7 q2;obtain⟨f0,f1,f2,f3,f4,f5,f6⟩:=fl7 q2;clear h7 e8 h6 h2 q2 h8;apply zu rfl;go_wp2_with fail;refine OnlyN.mk ⟨h9.mono (λb hb h=>by omega),?_⟩;clear h9;have hg:(w:G)<(o:G):=by omega
  generalize (((((((W1.setCell ⟨o,0,Q⟩ (E C k)).setCell ⟨o,1,Q⟩ (L i)).setCell ⟨o,2,Q⟩ (L ())).setCell ⟨o,3,Q⟩ (E C 0)).setCell ⟨o,4,Q⟩ (E C 0)).setCell ⟨o,5,Q⟩ (E C 0)).setCell ⟨o,6,Q⟩ (B Q 0 0))=W3 at *;clear b0 b1 b2 A F N b6 f0 f1 f2 f3 f4 f5 f6 i0;(repeat apply zR rfl rfl rfl;intro K hK;go_big_quiet_op;go_big_quiet_on);apply zb;by_cases i3:k=1
  .subst i3;obtain⟨X,a1,a2,I,J,Y,Z⟩:=cl7 z;obtain⟨b0,b1,b2,A,F,N,b6⟩:=cl7 y;obtain⟨f0,f1,f2,f3,f4,f5,f6⟩:=fl7 y;go_upto_region 8 with(fail)
   have hz:Fr (Is (o:G)) W3 (W3.setCell ⟨o,2,Q⟩ (L l)):=af (p _ _) _;have a7:(W3.setCell ⟨o,2,Q⟩ (L l)).heap[(o:G)]?=f (S #[E C 1,i,l,E C 0,E C 0,E C 0,B Q 0 0] 218):=zE y 2 (L l);have d0:=hz.heap z (λh=>by omega);have d4:=zh (e1.step hz (λb hb h=>by omega));clear hz z y;clear X a1 a2 I J Y Z b0 b1 b2 A F N b6 f0 f1 f2 f3 f4 f5 f6;generalize W3.setCell ⟨o,2,Q⟩ (L l)=W4 at *;obtain⟨X,a1,a2,I,J,Y,Z⟩:=cl7 d0;obtain⟨b0,b1,b2,A,F,N,b6⟩:=cl7 a7;by_cases i4:(n:G)=0;case neg=>
    have i5:(0:H)<((n:G):H):=(by omega);have Hd:M (n.isEmpty=aa):=(by unfold M;rw[<-zF2];exact ao i4);go_wp2;go_ret;exact⟨by rw[zFX,Hd.out];simp,d4.out⟩
   have i5:¬ (0:H)<((n:G):H):=(by omega);have Hd:M (n.isEmpty=ag):=(by unfold M;rw[<-zF2];exact ay i4);have g7:l.toList.isEmpty=(bl l).isEmpty:=(by rw[ByteArray.toList_eq]);cases hll:(bl l).isEmpty with
   | true=>
    rw[hll]at g7;have Hl:M (((bl l).isEmpty||isId l)=ag):=(by unfold M;rw[hll];rfl);clear hll;go_upto_region 24 with(fail)
    clear X a1 a2 I J Y Z b0 b1 b2 A F N b6 g7;have c6:W4 ⟨w,6,Q⟩=f (B a n b9):=zB d0 6;have f6:W4.frozen? ⟨w,6,Q⟩=false:=zD d0 6;go_upto_region 25 with(fail)
    have hy:Fr (Is (w:G)) W4 (W4.setCell ⟨w,6,Q⟩ (B Q 0 0)):=af (p _ _) _;have p1:=zE d0 6 (B Q 0 0);have p2:=hy.heap a7 (λh=>by omega);have Hy:=zh (d4.step hy (λb hb h=>by omega));clear hy c6 f6 d0 a7;generalize W4.setCell ⟨w,6,Q⟩ (B Q 0 0)=W7 at *;have c1:W7 ⟨w,1,Q⟩=f (L i):=zB p1 1;go_wp2_with fail;apply (zEl i _ e7).mono;rintro en w8 ⟨rfl,u⟩;have r1:=u.heap p1 id;have r2:=u.heap p2 id;have O:=zh (Hy.step u zi);clear p1 p2 c1 u;obtain⟨X,a1,a2,I,J,Y,Z⟩:=cl7 r1;obtain⟨b0,b1,b2,A,F,N,b6⟩:=cl7 r2;cases hii:isId i with
    | false=>
     have v:=zh hii;clear hii;go_wp2;go_ret;exact⟨by rw[zFX,v.out];simp,O.out⟩
    | true=>
     have v:=zh hii;clear hii;go_wp2_with fail;apply (zEk 1 s t e 1 0 0 0 i l i l Q 0 0 _ (by omega)).mono;rintro en w9 ⟨rfl,U⟩;have d2:=zh (O.step U zi);clear U X a1 a2 I J Y Z b0 b1 b2 A F N b6 r1 r2;go_wp2;go_ret;exact⟨by rw[zFX,v.out,Hd.out,Hl.out];simp,d2.out⟩
   | false=>
    rw[hll]at g7;have i6:=zh hll;clear hll;go_wp2_with fail;apply (zEl l _ j1).mono;rintro en w6 ⟨rfl,a9⟩;have a8:=a9.heap d0 id;have d5:=a9.heap a7 id;have d6:=zh (d4.step a9 zi);clear a9 d0 a7 X a1 a2 I J Y Z b0 b1 b2 A F N b6;cases hd2:isId l with
    | false=>
     have Hl:M (((bl l).isEmpty||isId l)=aa):=(by unfold M;rw[i6,hd2];rfl);clear hd2;go_wp2;go_ret;exact⟨by rw[zFX,Hl.out];simp,d6.out⟩
    | true=>
     have Hl:M (((bl l).isEmpty||isId l)=ag):=(by unfold M;rw[i6,hd2];rfl);clear hd2;go_upto_region 24 with(fail)
     clear g7;have c6:w6 ⟨w,6,Q⟩=f (B a n b9):=zB a8 6;have f6:w6.frozen? ⟨w,6,Q⟩=false:=zD a8 6;go_upto_region 25 with(fail)
     have hy:Fr (Is (w:G)) w6 (w6.setCell ⟨w,6,Q⟩ (B Q 0 0)):=af (p _ _) _;have p1:=zE a8 6 (B Q 0 0);have p2:=hy.heap d5 (λh=>by omega);have Hy:=zh (d6.step hy (λb hb h=>by omega));clear hy c6 f6 a8 d5;generalize w6.setCell ⟨w,6,Q⟩ (B Q 0 0)=W7 at *;have c1:W7 ⟨w,1,Q⟩=f (L i):=zB p1 1;go_wp2_with fail;apply (zEl i _ e7).mono;rintro en w8 ⟨rfl,u⟩;have r1:=u.heap p1 id;have r2:=u.heap p2 id;have O:=zh (Hy.step u zi);clear p1 p2 c1 u;obtain⟨X,a1,a2,I,J,Y,Z⟩:=cl7 r1;obtain⟨b0,b1,b2,A,F,N,b6⟩:=cl7 r2;cases hii:isId i with
     | false=>
      have v:=zh hii;clear hii;go_wp2;go_ret;exact⟨by rw[zFX,v.out];simp,O.out⟩
     | true=>
      have v:=zh hii;clear hii;go_wp2_with fail;apply (zEk 1 s t e 1 0 0 0 i l i l Q 0 0 _ (by omega)).mono;rintro en w9 ⟨rfl,U⟩;have d2:=zh (O.step U zi);clear U X a1 a2 I J Y Z b0 b1 b2 A F N b6 r1 r2;go_wp2;go_ret;exact⟨by rw[zFX,v.out,Hd.out,Hl.out];simp,d2.out⟩
  by_cases i7:k=2
  .subst i7;obtain⟨X,a1,a2,I,J,Y,Z⟩:=cl7 z;obtain⟨b0,b1,b2,A,F,N,b6⟩:=cl7 y;obtain⟨f0,f1,f2,f3,f4,f5,f6⟩:=fl7 y;go_wp2_with fail;refine zO (Is (o:G)) [(0,aa),(1,aa),(2,aa),(3,aa),(4,aa),(5,aa),(6,aa),(7,ag),(8,aa),(9,ag),(10,aa),(11,ag)] (λw4 b7=>?_);have g3:∀ g:Gr (Is (o:G)) w4,g.W ⟨w,3,Q⟩=f (E C s):=λg=>g.fr.cell (b7.cell I id) (show ¬ Is (o:G) (w:G) from by omega)
   have g4:∀ g:Gr (Is (o:G)) w4,g.W ⟨w,4,Q⟩=f (E C t):=λg=>g.fr.cell (b7.cell J id) (show ¬ Is (o:G) (w:G) from by omega)
   have g5:∀ g:Gr (Is (o:G)) w4,g.W ⟨w,5,Q⟩=f (E C e):=λg=>g.fr.cell (b7.cell Y id) (show ¬ Is (o:G) (w:G) from by omega)
   have d0:=b7.heap z id;have a7:=b7.heap y id;have d4:=zh (e1.step b7 zi);clear z y b7;clear X a1 a2 I J Y Z b0 b1 b2 A F N b6 f0 f1 f2 f3 f4 f5 f6;(repeat apply zR rfl rfl rfl;intro K hK;go_big_quiet_op;go_big_quiet_on);apply zu rfl;have A:w4 ⟨o,3,Q⟩=f (E C 0):=zB a7 3;have f3:w4.frozen? ⟨o,3,Q⟩=false:=zD a7 3;go_wp2_with fail;have d7:Fr (Is (o:G)) w4 (w4.setCell ⟨o,3,Q⟩ (E C s)):=af (p _ _) _;apply zf d7;have b8:(w4.setCell ⟨o,3,Q⟩ (E C s)).heap[(o:G)]?=f (S #[E C 2,i,(),s,E C 0,E C 0,B Q 0 0] 218):=zE a7 3 (E C s);have e2:=d7.heap d0 (λh=>by omega);have e3:=zh (d4.step d7 (λb hb h=>by omega));clear d7 A f3 d0 a7 d4;generalize w4.setCell ⟨o,3,Q⟩ (E C s)=W40 at *;(repeat apply zR rfl rfl rfl;intro K hK;go_big_quiet_op;go_big_quiet_on);apply zu rfl;have F:W40 ⟨o,4,Q⟩=f (E C 0):=zB b8 4;have f4:W40.frozen? ⟨o,4,Q⟩=false:=zD b8 4;go_wp2_with fail;have d8:Fr (Is (o:G)) W40 (W40.setCell ⟨o,4,Q⟩ (E C t)):=af (p _ _) _;apply zf d8;have V:(W40.setCell ⟨o,4,Q⟩ (E C t)).heap[(o:G)]?=f (S #[E C 2,i,(),s,t,E C 0,B Q 0 0] 218):=zE b8 4 (E C t);have d1:=d8.heap e2 (λh=>by omega);have d3:=zh (e3.step d8 (λb hb h=>by omega));clear d8 F f4 e2 b8 e3;generalize W40.setCell ⟨o,4,Q⟩ (E C t)=W41 at *;(repeat apply zR rfl rfl rfl;intro K hK;go_big_quiet_op;go_big_quiet_on);apply zu rfl;have N:W41 ⟨o,5,Q⟩=f (E C 0):=zB V 5;have f5:W41.frozen? ⟨o,5,Q⟩=false:=zD V 5;go_wp2_with fail;have g8:Fr (Is (o:G)) W41 (W41.setCell ⟨o,5,Q⟩ (E C e)):=af (p _ _) _;apply zf g8;have d9:(W41.setCell ⟨o,5,Q⟩ (E C e)).heap[(o:G)]?=f (S #[E C 2,i,(),s,t,e,B Q 0 0] 218):=zE V 5 (E C e);have e0:=g8.heap d1 (λh=>by omega);have e6:=zh (d3.step g8 (λb hb h=>by omega));clear g8 N f5 d1 V d3;generalize W41.setCell ⟨o,5,Q⟩ (E C e)=W42 at *;apply zb;clear g3 g4 g5;obtain⟨X,a1,a2,I,J,Y,Z⟩:=cl7 e0;obtain⟨b0,b1,b2,A,F,N,b6⟩:=cl7 d9;by_cases e9:(n:G)=1;case neg=>
    have g2:¬ ((n:G):H)=1:=(by omega);have Hd:=zh (ao e9);go_wp2;go_ret;exact⟨by rw[zHH,Hd.out];simp,e6.out⟩
   have g2:((n:G):H)=1:=(by omega);have Hd:=zh (ay e9);go_wp2_with fail;apply (zL1 2 s t e i l _ _).mono;rintro en w6 ⟨rfl,a9⟩;have a8:=a9.heap e0 id;have d5:=a9.heap d9 id;have d6:=zh (e6.step a9 zi);clear a9 e0 d9 X a1 a2 I J Y Z b0 b1 b2 A F N b6;cases hd2:zAX s t with
   | false=>
    have e5:=zh hd2;clear hd2;go_wp2;go_ret;exact⟨by rw[zHH,e5.out];simp,d6.out⟩
   | true=>
    have e5:=zh hd2;clear hd2;obtain⟨X,a1,a2,I,J,Y,Z⟩:=cl7 a8;obtain⟨b0,b1,b2,A,F,N,b6⟩:=cl7 d5;go_wp2_with fail;apply (zCx e t _).mono;rintro en w7 ⟨rfl,rfl⟩;cases hd3:(decide (1<=e)&&decide (e<=t))with
    | false=>
     have h3:=zh hd3;clear hd3;go_wp2;go_ret;exact⟨by rw[zHH,h3.out];simp,d6.out⟩
    | true=>
     have h3:=zh hd3;clear hd3;go_upto_region 24 with(fail)
     clear X a1 a2 I J Y Z b0 b1 b2 A F N b6;have c6:w6 ⟨w,6,Q⟩=f (B a n b9):=zB a8 6;have f6:w6.frozen? ⟨w,6,Q⟩=false:=zD a8 6;go_upto_region 25 with(fail)
     have hy:Fr (Is (w:G)) w6 (w6.setCell ⟨w,6,Q⟩ (B Q 0 0)):=af (p _ _) _;have p1:=zE a8 6 (B Q 0 0);have p2:=hy.heap d5 (λh=>by omega);have Hy:=zh (d6.step hy (λb hb h=>by omega));clear hy c6 f6 a8 d5;generalize w6.setCell ⟨w,6,Q⟩ (B Q 0 0)=W7 at *;have c1:W7 ⟨w,1,Q⟩=f (L i):=zB p1 1;go_wp2_with fail;apply (zEl i _ e7).mono;rintro en w8 ⟨rfl,u⟩;have r1:=u.heap p1 id;have r2:=u.heap p2 id;have O:=zh (Hy.step u zi);clear p1 p2 c1 u;obtain⟨X,a1,a2,I,J,Y,Z⟩:=cl7 r1;obtain⟨b0,b1,b2,A,F,N,b6⟩:=cl7 r2;cases hii:isId i with
     | false=>
      have v:=zh hii;clear hii;go_wp2;go_ret;exact⟨by rw[zHH,v.out];simp,O.out⟩
     | true=>
      have v:=zh hii;clear hii;go_wp2_with fail;apply (zEk 2 s t e 2 s t e i l i () Q 0 0 _ (by omega)).mono;rintro en w9 ⟨rfl,U⟩;have d2:=zh (O.step U zi);clear U X a1 a2 I J Y Z b0 b1 b2 A F N b6 r1 r2;go_wp2;go_ret;exact⟨by rw[zHH,v.out,Hd.out,e5.out,h3.out];simp,d2.out⟩
  by_cases i8:k=3
  .subst i8;obtain⟨X,a1,a2,I,J,Y,Z⟩:=cl7 z;obtain⟨b0,b1,b2,A,F,N,b6⟩:=cl7 y;obtain⟨f0,f1,f2,f3,f4,f5,f6⟩:=fl7 y;by_cases e9:(n:G)=1;case neg=>
    have g2:¬ ((n:G):H)=1:=(by omega);have Hd:=zh (ao e9);go_wp2;go_ret;exact⟨by rw[zMJ,Hd.out];simp,e1.out⟩
   have g2:((n:G):H)=1:=(by omega);have Hd:=zh (ay e9);go_upto_region 24 with(fail)
   clear X a1 a2 I J Y Z b0 b1 b2 A F N b6 f0 f1 f2 f3 f4 f5 f6;have c6:W3 ⟨w,6,Q⟩=f (B a n b9):=zB z 6;have f6:W3.frozen? ⟨w,6,Q⟩=false:=zD z 6;go_upto_region 25 with(fail)
   have hy:Fr (Is (w:G)) W3 (W3.setCell ⟨w,6,Q⟩ (B Q 0 0)):=af (p _ _) _;have p1:=zE z 6 (B Q 0 0);have p2:=hy.heap y (λh=>by omega);have Hy:=zh (e1.step hy (λb hb h=>by omega));clear hy c6 f6 z y;generalize W3.setCell ⟨w,6,Q⟩ (B Q 0 0)=W7 at *;have c1:W7 ⟨w,1,Q⟩=f (L i):=zB p1 1;go_wp2_with fail;apply (zEl i _ e7).mono;rintro en w8 ⟨rfl,u⟩;have r1:=u.heap p1 id;have r2:=u.heap p2 id;have O:=zh (Hy.step u zi);clear p1 p2 c1 u;obtain⟨X,a1,a2,I,J,Y,Z⟩:=cl7 r1;obtain⟨b0,b1,b2,A,F,N,b6⟩:=cl7 r2;cases hii:isId i with
   | false=>
    have v:=zh hii;clear hii;go_wp2;go_ret;exact⟨by rw[zMJ,v.out];simp,O.out⟩
   | true=>
    have v:=zh hii;clear hii;go_wp2_with fail;apply (zEk 3 s t e 3 0 0 0 i l i () Q 0 0 _ (by omega)).mono;rintro en w9 ⟨rfl,U⟩;have d2:=zh (O.step U zi);clear U X a1 a2 I J Y Z b0 b1 b2 A F N b6 r1 r2;go_wp2;go_ret;exact⟨by rw[zMJ,v.out,Hd.out];simp,d2.out⟩
  by_cases i9:k=4
  .subst i9;obtain⟨X,a1,a2,I,J,Y,Z⟩:=cl7 z;obtain⟨b0,b1,b2,A,F,N,b6⟩:=cl7 y;obtain⟨f0,f1,f2,f3,f4,f5,f6⟩:=fl7 y;go_wp2_with fail;refine zO (Is (o:G)) [(0,aa),(1,aa),(2,aa),(3,aa),(4,aa),(5,ag),(6,aa),(7,ag)] (λw4 b7=>?_);have g3:∀ g:Gr (Is (o:G)) w4,g.W ⟨w,3,Q⟩=f (E C s):=λg=>g.fr.cell (b7.cell I id) (show ¬ Is (o:G) (w:G) from by omega)
   have g4:∀ g:Gr (Is (o:G)) w4,g.W ⟨w,4,Q⟩=f (E C t):=λg=>g.fr.cell (b7.cell J id) (show ¬ Is (o:G) (w:G) from by omega)
   have d0:=b7.heap z id;have a7:=b7.heap y id;have d4:=zh (e1.step b7 zi);clear z y b7;clear X a1 a2 I J Y Z b0 b1 b2 A F N b6 f0 f1 f2 f3 f4 f5 f6;(repeat apply zR rfl rfl rfl;intro K hK;go_big_quiet_op;go_big_quiet_on);apply zu rfl;have A:w4 ⟨o,3,Q⟩=f (E C 0):=zB a7 3;have f3:w4.frozen? ⟨o,3,Q⟩=false:=zD a7 3;go_wp2_with fail;have d7:Fr (Is (o:G)) w4 (w4.setCell ⟨o,3,Q⟩ (E C s)):=af (p _ _) _;apply zf d7;have b8:(w4.setCell ⟨o,3,Q⟩ (E C s)).heap[(o:G)]?=f (S #[E C 4,i,(),s,E C 0,E C 0,B Q 0 0] 218):=zE a7 3 (E C s);have e2:=d7.heap d0 (λh=>by omega);have e3:=zh (d4.step d7 (λb hb h=>by omega));clear d7 A f3 d0 a7 d4;generalize w4.setCell ⟨o,3,Q⟩ (E C s)=W40 at *;(repeat apply zR rfl rfl rfl;intro K hK;go_big_quiet_op;go_big_quiet_on);apply zu rfl;have F:W40 ⟨o,4,Q⟩=f (E C 0):=zB b8 4;have f4:W40.frozen? ⟨o,4,Q⟩=false:=zD b8 4;go_wp2_with fail;have d8:Fr (Is (o:G)) W40 (W40.setCell ⟨o,4,Q⟩ (E C t)):=af (p _ _) _;apply zf d8;have V:(W40.setCell ⟨o,4,Q⟩ (E C t)).heap[(o:G)]?=f (S #[E C 4,i,(),s,t,E C 0,B Q 0 0] 218):=zE b8 4 (E C t);have d1:=d8.heap e2 (λh=>by omega);have d3:=zh (e3.step d8 (λb hb h=>by omega));clear d8 F f4 e2 b8 e3;generalize W40.setCell ⟨o,4,Q⟩ (E C t)=W41 at *;apply zb;clear g3 g4;obtain⟨X,a1,a2,I,J,Y,Z⟩:=cl7 d1;obtain⟨b0,b1,b2,A,F,N,b6⟩:=cl7 V;go_wp2_with fail;apply (zCx ((n:G):H) 16 _).mono;rintro en w5 ⟨rfl,rfl⟩;cases hd:(decide (1<=((n:G):H))&&decide (((n:G):H)<=16))with
   | false=>
    have Hd:=zh hd;clear hd;go_wp2;go_ret;exact⟨by rw[zJS,Hd.out];simp,d3.out⟩
   | true=>
    have Hd:=zh hd;clear hd;go_wp2_with fail;apply (zL1 4 s t e i l _ _).mono;rintro en w6 ⟨rfl,a9⟩;have a8:=a9.heap d1 id;have d5:=a9.heap V id;have d6:=zh (d3.step a9 zi);clear a9 d1 V X a1 a2 I J Y Z b0 b1 b2 A F N b6;cases hd2:zAX s t with
    | false=>
     have e5:=zh hd2;clear hd2;go_wp2;go_ret;exact⟨by rw[zJS,e5.out];simp,d6.out⟩
    | true=>
     have e5:=zh hd2;clear hd2;go_upto_region 24 with(fail)
     have c6:w6 ⟨w,6,Q⟩=f (B a n b9):=zB a8 6;have f6:w6.frozen? ⟨w,6,Q⟩=false:=zD a8 6;go_upto_region 25 with(fail)
     have hy:Fr (Is (w:G)) w6 (w6.setCell ⟨w,6,Q⟩ (B Q 0 0)):=af (p _ _) _;have p1:=zE a8 6 (B Q 0 0);have p2:=hy.heap d5 (λh=>by omega);have Hy:=zh (d6.step hy (λb hb h=>by omega));clear hy c6 f6 a8 d5;generalize w6.setCell ⟨w,6,Q⟩ (B Q 0 0)=W7 at *;have c1:W7 ⟨w,1,Q⟩=f (L i):=zB p1 1;go_wp2_with fail;apply (zEl i _ e7).mono;rintro en w8 ⟨rfl,u⟩;have r1:=u.heap p1 id;have r2:=u.heap p2 id;have O:=zh (Hy.step u zi);clear p1 p2 c1 u;obtain⟨X,a1,a2,I,J,Y,Z⟩:=cl7 r1;obtain⟨b0,b1,b2,A,F,N,b6⟩:=cl7 r2;cases hii:isId i with
     | false=>
      have v:=zh hii;clear hii;go_wp2;go_ret;exact⟨by rw[zJS,v.out];simp,O.out⟩
     | true=>
      have v:=zh hii;clear hii;go_wp2_with fail;apply (zEk 4 s t e 4 s t 0 i l i () Q 0 0 _ (by omega)).mono;rintro en w9 ⟨rfl,U⟩;have d2:=zh (O.step U zi);clear U X a1 a2 I J Y Z b0 b1 b2 A F N b6 r1 r2;go_wp2;go_ret;exact⟨by rw[zJS,v.out,Hd.out,e5.out];simp,d2.out⟩
  by_cases j0:k=5
  .subst j0;obtain⟨X,a1,a2,I,J,Y,Z⟩:=cl7 z;obtain⟨b0,b1,b2,A,F,N,b6⟩:=cl7 y;obtain⟨f0,f1,f2,f3,f4,f5,f6⟩:=fl7 y;go_wp2_with fail;apply (zCx ((n:G):H) 16 _).mono;rintro en w4 ⟨rfl,rfl⟩;cases hd:(decide (1<=((n:G):H))&&decide (((n:G):H)<=16))with
   | false=>
    have Hd:=zh hd;clear hd;go_wp2;go_ret;exact⟨by rw[zMI,Hd.out];simp,e1.out⟩
   | true=>
    have Hd:=zh hd;clear hd;go_upto_region 24 with(fail)
    clear X a1 a2 I J Y Z b0 b1 b2 A F N b6 f0 f1 f2 f3 f4 f5 f6;have c6:W3 ⟨w,6,Q⟩=f (B a n b9):=zB z 6;have f6:W3.frozen? ⟨w,6,Q⟩=false:=zD z 6;go_upto_region 25 with(fail)
    have hy:Fr (Is (w:G)) W3 (W3.setCell ⟨w,6,Q⟩ (B Q 0 0)):=af (p _ _) _;have p1:=zE z 6 (B Q 0 0);have p2:=hy.heap y (λh=>by omega);have Hy:=zh (e1.step hy (λb hb h=>by omega));clear hy c6 f6 z y;generalize W3.setCell ⟨w,6,Q⟩ (B Q 0 0)=W7 at *;have c1:W7 ⟨w,1,Q⟩=f (L i):=zB p1 1;go_wp2_with fail;apply (zEl i _ e7).mono;rintro en w8 ⟨rfl,u⟩;have r1:=u.heap p1 id;have r2:=u.heap p2 id;have O:=zh (Hy.step u zi);clear p1 p2 c1 u;obtain⟨X,a1,a2,I,J,Y,Z⟩:=cl7 r1;obtain⟨b0,b1,b2,A,F,N,b6⟩:=cl7 r2;cases hii:isId i with
    | false=>
     have v:=zh hii;clear hii;go_wp2;go_ret;exact⟨by rw[zMI,v.out];simp,O.out⟩
    | true=>
     have v:=zh hii;clear hii;go_wp2_with fail;apply (zEk 5 s t e 5 0 0 0 i l i () Q 0 0 _ (by omega)).mono;rintro en w9 ⟨rfl,U⟩;have d2:=zh (O.step U zi);clear U X a1 a2 I J Y Z b0 b1 b2 A F N b6 r1 r2;go_wp2;go_ret;exact⟨by rw[zMI,v.out,Hd.out];simp,d2.out⟩
  obtain⟨X,a1,a2,I,J,Y,Z⟩:=cl7 z;obtain⟨b0,b1,b2,A,F,N,b6⟩:=cl7 y;obtain⟨f0,f1,f2,f3,f4,f5,f6⟩:=fl7 y;go_wp2;go_ret;exact⟨by rw[zQX s t e i l n h4 i3 i7 i8 i9 j0];rfl,e1⟩
theorem zK8 {o:G}{A:TypeId}{F:G}{n:G}(h:w.ownsRow o A F (B a n c) m y)(U:0<m):∃ g v,a=f ⟨g,v,Q⟩/\∀ j u,y[j]?=f u->w ⟨g,v+j,Q⟩=f u:=by
 have I:=zK6 h;obtain⟨_,⟨z,V⟩|⟨g,J,N,z,_⟩⟩:=h;·omega
 .cases z;refine⟨g,0,rfl,λj u O=>?_⟩;have:=I _ rfl j u O
  rwa [bv]at this
theorem zNi (k s t e:H)(i l:ae)(n:D Ct)(a:aj aw)(h:G)(w:al)(A:(n:G)<=100000)(u:i.size<=100000)(v:l.size<=100000):
  aq an 284 #[ah #[k,i,l,s,t,e,B a n h]] w λy F=>y=.returned (.bool (!alike (.mk k i l s t e n)))/\Fr No w F:=by
 have z:Fr No w (w.alloc (S #[k,i,l,s,t,e,B a n h] 218)):=(p _ _).alloc _;have I:=zh z;go_enter Tryz.func284,Tryz.ntmps284;clear z;go_wp2_with fail;apply (zPg k s t e i l n a h _ A u v).mono;rintro y N ⟨rfl,o⟩;have J:=zh (I.step o zi);clear o;go_wp2;go_ret;exact⟨rfl,J⟩
theorem zPe (la:aj aw)(lc:G)(cs:D Ct)(xs:D am)(w:al)(V:ShFlat xs cs)(a5:0<(cs:G))(a6:(cs:G)<=100000)
  (hc:∃ g v,la=f ⟨g,v,Q⟩/\∀ j u,xs[j]?=f u->w ⟨g,v+j,Q⟩=f u) (X:∀ d∈cs,SmallC 100000 d/\d.inner.length<=100000):
  aq an 305 #[B la cs lc,.func (.func 284) #[] #[]] w λe w'=>(∃ r:H,e=.returned r/\decide (0<=r)=!cs.all alike)/\Fr No w w':=by
 obtain⟨g,v,rfl,z⟩:=hc;have o:=zh z;clear z;go_enter Tryz.func305,Tryz.ntmps305;go_wp2_with fail;go_loopw [8] (λx wr=>∃ j:G,j<=(cs:G)/\x=E C (j:H)/\M ((cs.take j).all alike=ag)/\Fr No w wr) (λx _=>(cs:G)-(au x).toNat);case atStart=>exact⟨0,by omega,rfl,by unfold M;simp,p _ _⟩
 case round=>
  obtain⟨j,hj,rfl,J,y⟩:=hrel;by_cases Y:j<(cs:G)
  .have a7:(j:H)<(cs:G):=by omega
   obtain⟨d,U⟩:∃ d,cs[j]?=f d:=⟨_,bf Y⟩
   have A:=zh (bn U);have Z:M (cs.take (j+1)=cs.take j++[d]):=(by unfold M;rw[bs,U];rfl);obtain⟨⟨a2,a3⟩,a4⟩:=X d A;obtain⟨k,i,l,s,t,e,n⟩:=d;obtain⟨a,N,F⟩:=V.at U;have y0:wr ⟨g,v+j*7,Q⟩=f (E C k):=y.cell (o (j*7+0) _ (F 0 (by omega))) id;have y1:wr ⟨g,v+j*7+1,Q⟩=f (L i):=y.cell (o (j*7+1) _ (F 1 (by omega))) id;have y2:wr ⟨g,v+j*7+2,Q⟩=f (L l):=y.cell (o (j*7+2) _ (F 2 (by omega))) id;have y3:wr ⟨g,v+j*7+3,Q⟩=f (E C s):=y.cell (o (j*7+3) _ (F 3 (by omega))) id;have y4:wr ⟨g,v+j*7+4,Q⟩=f (E C t):=y.cell (o (j*7+4) _ (F 4 (by omega))) id;have y5:wr ⟨g,v+j*7+5,Q⟩=f (E C e):=y.cell (o (j*7+5) _ (F 5 (by omega))) id;have y6:wr ⟨g,v+j*7+6,Q⟩=f (B a n N):=y.cell (o (j*7+6) _ (F 6 (by omega))) id;clear U F;go_wp2_with fail;apply (zNi k s t e i l n a N _ a4 a2 a3).mono;rintro en w1 ⟨rfl,O⟩;have I:=y.step O zi;clear y0 y1 y2 y3 y4 y5 y6 O;cases hp:alike (.mk k i l s t e n)
   .have Hr:M (cs.all alike=aa):=(by unfold M;rw[List.all_eq_false];exact⟨_,A.out,by rw[hp];simp⟩);clear hp;go_wp2;go_ret;exact⟨⟨(j:H),rfl,by rw[Hr.out];simp⟩,I⟩
   .have Hn:M ((cs.take (j+1)).all alike=ag):=(by unfold M;rw[Z.out,bx,J.out];simp[hp]);clear hp;go_wp2;go_roundw;case rel=>exact⟨j+1,by omega,by go_num,Hn,I⟩
    case measure=>simp[au];omega
  .have h:=J.out;rw[List.take_of_length_le (by omega)]at h;have Hp:=zh h;clear h;go_wp2;go_ret;exact⟨⟨-1,rfl,by rw[Hp];rfl⟩,y⟩
theorem zJ7 (A:aj aw)(J:G)(cs:D Ct)(F:D am)(w:al)(v:ShFlat F cs)(h:0<(cs:G))(o:(cs:G)<=100000)
  (N:∃ g y,A=f ⟨g,y,Q⟩/\∀ j u,F[j]?=f u->w ⟨g,y+j,Q⟩=f u) (z:∀ d∈cs,SmallC 100000 d/\d.inner.length<=100000):
  aq an 282 #[B A cs J,.func (.func 284) #[] #[]] w λe w'=>e=.returned (.bool (!cs.all alike))/\Fr No w w':=by
 have U:=zh (zPe A J cs F w v h o N z);clear v h o N z;go_enter Tryz.func282,Tryz.ntmps282;go_wp2_with fail;apply U.mono;rintro e X ⟨⟨r,rfl,O⟩,I⟩;have V:=zh O;clear O;go_wp2;go_ret;exact⟨zN V,I⟩
theorem zL4 (c:Ct)(X:G->Prop)(vs:Array am)(w:al)(h:CAt w X vs c)(hc:c.count<=10000)(V:∀ d∈c.walk,SmallC 100000 d):
  aq an 245 #[ah vs] w λen w2=>en=.returned (E C (if c.valid=ag then 0 else 70))/\Fr No w w2:=by
 obtain⟨rv,I⟩:∃ rv:H,rv=if c.valid=ag then 0 else 70:=⟨_,rfl⟩
 rw[<-I];have J:=zh I;clear I;have y:∀ d∈c.walk,SmallC 100000 d/\d.inner.length<=100000:=λd Y=>⟨V d Y,by have:=zEU Y;omega⟩
 have b3:=zh y;clear V y;have z:=h;obtain⟨k,i,l,s,t,e,n⟩:=c;obtain⟨a,u,rfl,b4⟩:=h.inAt;have d0:=zEe (.mk k i l s t e n);have h0:Fr No w (w.alloc (S #[k,i,l,s,t,e,B a n u] 218)):=(p _ _).alloc _;have q1:=zF w (S #[k,i,l,s,t,e,B a n u] 218);obtain⟨W0,N⟩:=ε (w.alloc (S #[k,i,l,s,t,e,B a n u] 218))
 rw[<-N]at h0 q1;obtain⟨a0,a1,a2,a3,a4,a5,a6⟩:=cl7 q1;have O:=z.no h0;have H0:=zh h0;clear h0 z b4;go_enter Tryz.func245,Tryz.ntmps245;go_upto_region 1 with(fail)
 rw[<-N];clear N;go_wp2_with fail;apply (zPf O hc).mono;rintro en w1 ⟨rfl,v⟩;have Z:=O.no v;have q2:=v.heap q1 id;have a7:=zh (H0.step v zi);clear a0 a1 a2 a3 a4 a5 a6 q1 v O;obtain⟨a0,a1,a2,a3,a4,a5,a6⟩:=cl7 q2;by_cases Y:(ax k i l s t e n).depth<=6
 .have b5:¬ (6:H)<((ax k i l s t e n).depth:H):=by omega
  have Hd:=zh Y;go_wp2_with fail;obtain⟨a',b9,ev,A⟩:=Z.inAt;cases ev;refine(zNd 10000 (by omega) k s t e i l n a u _ _ (by rw[bd]at hc;omega) A).mono ?_;rintro en w2 ⟨⟨ar,cr,xs,rfl,a8,F⟩,b6⟩;have b7:=zh (a7.step b6 zi);have a9:(ax k i l s t e n).walk.length=ak n+1:=by rw[zDd,bd]
  have b0:=zK8 F (by omega);have o:=zJ7 ar cr (ax k i l s t e n).walk xs w2 a8 (by omega) (by rw[bd]at hc;omega) b0 b3;rw[a9]at o;have b1:=zh o;clear a0 a1 a2 a3 a4 a5 a6 o b0 F a8 q2 Z a9 A;generalize ak n+1=cn at *;go_wp2_with fail;apply b1.mono
  .rintro e w3 ⟨rfl,b8⟩;have b2:=zh (b7.step b8 zi);have Hv:M ((ax k i l s t e n).valid=(ax k i l s t e n).walk.all alike):=(by unfold M Ct.valid;rw[zEX,ay Hd.out,bb]);cases hal:(ax k i l s t e n).walk.all alike with
   | true=>
    have U:=zh hal;clear hal;go_wp2;go_ret;exact⟨by rw[J,Hv,U];rfl,b2⟩
   | false=>
    have U:=zh hal;clear hal;go_wp2;go_ret;exact⟨by rw[J,Hv,U];rfl,b2⟩
 .have b5:(6:H)<((ax k i l s t e n).depth:H):=by omega
  have Hv:M ((ax k i l s t e n).valid=aa):=by unfold M Ct.valid;rw[ao Y];rfl
  go_wp2;go_ret;exact⟨by rw[J,Hv];rfl,a7⟩
def PaRes (w:al)(s:ae)(e:Ending)(w':al):Prop:=
 (∃ er:H,parseC s=Q/\er≠0/\e=.returned (.tuple #[ah #[E C 0,(),(),E C 0,E C 0,E C 0,B Q 0 0],er]))\/
 (∃ vs c,parseC s=f c/\e=.returned (.tuple #[ah vs,E C 0])/\CAt w' (From (w:G)) vs c)
theorem zMw (h:s.size<=256):parseC s=match pC (s.size+1) (bl s)with|some (c,[])=>if c.valid=ag then f c else Q|_=>none:=by
 unfold parseC;rw[ab (by show ¬ 256<s.size;omega)];rfl
theorem zPc (s:ae)(w:al)(hE:Env w)(hs:s.size<=100000):
  aq an 195 #[s] w λen w2=>PaRes w s en w2/\Fr No w w2:=by
 have h0:Fr No w (w.alloc (S #[E C 0,(),(),E C 0,E C 0,E C 0,B Q 0 0] 218)):=(p _ _).alloc _;have q0:=zF w (S #[E C 0,(),(),E C 0,E C 0,E C 0,B Q 0 0] 218);have b8:=hE.no h0;have h9:=hE.sz;have g1:(w:G)<(w.alloc (S #[E C 0,(),(),E C 0,E C 0,E C 0,B Q 0 0] 218)).heap.size:=by simp
 obtain⟨X,b9⟩:=ε (w.alloc (S #[E C 0,(),(),E C 0,E C 0,E C 0,B Q 0 0] 218))
 rw[<-b9]at h0 q0 b8 g1;have H0:=zh h0;clear h0 hE;go_enter Tryz.func195,Tryz.ntmps195;go_upto_region 1 with(fail)
 rw[<-b9];clear b9;by_cases hl:256<s.size
 .have g2:(256:H)<(s.size:H):=by omega
  have Hn:M (parseC s=Q):=by unfold M parseC;rw[ap (show 256<(bl s).length from hl)]
  obtain⟨b0,b1,b2,b3,b4,b5,b6⟩:=cl7 q0;obtain⟨f0,f1,f2,f3,f4,f5,f6⟩:=fl7 q0;have z:=set7 q0 rfl (E C 0) (L ()) (L ()) (E C 0) (E C 0) (E C 0) (B Q 0 0);have u:=zh (H0.step z.2 (λb hb h=>by omega));have Z:=zh z.2;have o:=zh z.1;clear z;go_wp2_with fail;have y0:=zB o 0;have y1:=zB o 1;have y2:=zB o 2;have y3:=zB o 3;have y4:=zB o 4;have y5:=zB o 5;have y6:=zB o 6;refine az (v:=.tuple #[ah #[E C 0,(),(),E C 0,E C 0,E C 0,B Q 0 0],E C 71]) (by simp[ba,bg,go_sem,y0,y1,y2,y3,y4,y5,y6]) rfl ?_;exact⟨.inl ⟨71,Hn,by decide,rfl⟩,u⟩
 .have g2:¬ (256:H)<(s.size:H):=by omega
  have hx:Fr No X (X.alloc (S #[s,E C 0,.bool aa] 323)):=(p _ _).alloc _;have q1:=zF X (S #[s,E C 0,.bool aa] 323);have g7:(X:G)<(X.alloc (S #[s,E C 0,.bool aa] 323)).heap.size:=by simp
  have d6:=hx.heap q0 id;have d7:=b8.no hx;have Hx:=zh (H0.step hx zi);have d8:=zMw (s:=s) (by omega);clear q0 b8 hx;go_upto_region 4 with(fail)
  generalize X.alloc (S #[s,E C 0,.bool aa] 323)=W1 at *;have b7:Cur W1 (X:G) s (bl s) false:=⟨0,q1,by omega,by simp[bl]⟩
  have g8:(bl s).length=s.size:=rfl;have d0:=zh d8;clear d8 q1;go_wp2_with fail;apply (zL3 (s.size+1) (X:G) s (bl s) _ (by omega) b7 (by omega) d7 (by omega)).mono;rintro en w2 ⟨k,i,l,sl,t,le,a,m,c,r',J,rfl,hr,d9,a7,N⟩;have g9:=a7.size;have e0:=a7.heap d6 (λh=>by omega);have g3:=zh (Hx.step a7 (λb hb h=>by omega));have O:Fr No w2 (w2.alloc (S #[k,i,l,sl,t,le,B a m c] 218)):=(p _ _).alloc _;have q5:=zF w2 (S #[k,i,l,sl,t,le,B a m c] 218);have e1:=d9.no O;have A:=O.heap e0 id;have d1:=zh (g3.step O zi);have U:M ((J=ag/\pC (s.size+1) (bl s)=Q)\/(J=aa/\∃ ct,pC (s.size+1) (bl s)=f (ct,r')/\CAt (w2.alloc (S #[k,i,l,sl,t,le,B a m c] 218)) (λb=>(w:G)<b) #[k,i,l,sl,t,le,B a m c] ct)):=by
   rcases N with h|⟨h1,ct,h2,h3⟩
   .exact .inl h
   .exact .inr ⟨h1,ct,h2,(h3.no O).mono (λb _ h=>by unfold From at *;omega)⟩
  clear N d6 e0 d9 a7 O b7 d7;go_upto_region 5 with(fail)
  generalize w2.alloc (S #[k,i,l,sl,t,le,B a m c] 218)=W3 at *;obtain⟨a8,qp,h4,d2⟩:=e1.blk;obtain⟨-,p1,p2⟩:=cl3 qp;cases J with
  | true=>
   have Hn:M (parseC s=Q):=by
    unfold M;rcases U.out with⟨_,h⟩|⟨h,_⟩
    .rw[d0,h]
    .cases h
   clear q5;obtain⟨b0,b1,b2,b3,b4,b5,b6⟩:=cl7 A;obtain⟨f0,f1,f2,f3,f4,f5,f6⟩:=fl7 A;have z:=set7 A rfl (E C 0) (L ()) (L ()) (E C 0) (E C 0) (E C 0) (B Q 0 0);have u:=zh (d1.step z.2 (λb hb h=>by omega));have Z:=zh z.2;have o:=zh z.1;clear z;go_wp2_with fail;have y0:=zB o 0;have y1:=zB o 1;have y2:=zB o 2;have y3:=zB o 3;have y4:=zB o 4;have y5:=zB o 5;have y6:=zB o 6;refine az (v:=.tuple #[ah #[E C 0,(),(),E C 0,E C 0,E C 0,B Q 0 0],E C 70]) (by simp[ba,bg,go_sem,y0,y1,y2,y3,y4,y5,y6]) rfl ?_;exact⟨.inl ⟨70,Hn,by decide,rfl⟩,u⟩
  | false=>
   have e2:M (∃ ct,pC (s.size+1) (bl s)=f (ct,r')/\CAt W3 (λb=>(w:G)<b) #[k,i,l,sl,t,le,B a m c] ct):=by
    rcases U.out with⟨h,_⟩|⟨_,h⟩
    .cases h
    .exact h
   by_cases g4:a8=s.size
   .have e3:(a8:H)=(s.size:H):=(by omega);have d3:r'=[]:=(by rw[<-d2,g4];exact List.drop_eq_nil_of_le (bo _));obtain⟨ct,F,a9⟩:=e2.out;rw[d3]at F;have e4:=(zFs _).1 _ _ _ F;have e5:∀ d∈ct.walk,SmallC 100000 d:=λd hd=>((zK5 _).1 _ _ _ F d hd).mono (by omega)
    have Hp:M (parseC s=if ct.valid=ag then f ct else Q):=(by unfold M;rw[d0,F]);have d4:=zL4 ct _ _ W3 a9 (by simp at e4;omega) e5;obtain⟨cv,d5⟩:=ε ct.valid
    rw[<-d5]at d4;have e6:=zh d5;have g5:=zh a9;obtain⟨a0,a1,a2,a3,a4,a5,a6⟩:=cl7 q5;clear F a9 e5 d5 qp d2 e1;go_wp2_with fail;apply d4.mono;rintro en w4 ⟨rfl,V⟩;have I:=V.heap A id;have e7:=V.heap q5 id;have e8:=zh (d1.step V zi);have e9:=zh (g5.no V);clear a0 a1 a2 a3 a4 a5 a6 d4 V p1 p2 A q5;cases cv with
    | true=>
     have g6:M (parseC s=f ct):=(by unfold M;rw[Hp,ap e6.symm]);simp only[if_true];go_upto_region 7 with(fail)
     obtain⟨a0,a1,a2,a3,a4,a5,a6⟩:=cl7 e7;obtain⟨b0,b1,b2,b3,b4,b5,b6⟩:=cl7 I;obtain⟨f0,f1,f2,f3,f4,f5,f6⟩:=fl7 I;have z:=set7 I rfl (E C k) (L i) (L l) (E C sl) (E C t) (E C le) (B a m c);have u:=zh (e8.step z.2 (λb hb h=>by omega));have Z:=zh z.2;have g0:=zh (((e9.fr z.2 (λb hb h=>by omega)).mono (Y:=From (w:G)) (λb _ h=>by omega)));have o:=zh z.1;clear z;go_wp2_with fail;have y0:=zB o 0;have y1:=zB o 1;have y2:=zB o 2;have y3:=zB o 3;have y4:=zB o 4;have y5:=zB o 5;have y6:=zB o 6;refine az (v:=.tuple #[ah #[k,i,l,sl,t,le,B a m c],E C 0]) (by simp[ba,bg,go_sem,y0,y1,y2,y3,y4,y5,y6]) rfl ?_;exact⟨.inr ⟨_,ct,g6,rfl,g0⟩,u⟩
    | false=>
     have Hn:M (parseC s=Q):=(by unfold M;rw[Hp.out,ab (by rw[<-e6.out];simp)]);simp only[Bool.false_eq_true,if_false];clear e7;obtain⟨b0,b1,b2,b3,b4,b5,b6⟩:=cl7 I;obtain⟨f0,f1,f2,f3,f4,f5,f6⟩:=fl7 I;have z:=set7 I rfl (E C 0) (L ()) (L ()) (E C 0) (E C 0) (E C 0) (B Q 0 0);have u:=zh (e8.step z.2 (λb hb h=>by omega));have Z:=zh z.2;have o:=zh z.1;clear z;go_wp2_with fail;have y0:=zB o 0;have y1:=zB o 1;have y2:=zB o 2;have y3:=zB o 3;have y4:=zB o 4;have y5:=zB o 5;have y6:=zB o 6;refine az (v:=.tuple #[ah #[E C 0,(),(),E C 0,E C 0,E C 0,B Q 0 0],E C 70]) (by simp[ba,bg,go_sem,y0,y1,y2,y3,y4,y5,y6]) rfl ?_;exact⟨.inl ⟨70,Hn,by decide,rfl⟩,u⟩
   .have e3:¬ (a8:H)=(s.size:H):=(by omega);have Hn:M (parseC s=Q):=by
     unfold M;obtain⟨ct,F,a9⟩:=e2.out;rw[d0,F];cases d3:r' with
     | cons x y=>rfl
     | nil=>
      have h:(s.data.toList.drop a8).length=0:=(by rw[d2,d3];rfl);have h2:s.data.toList.length=s.size:=rfl;rw[List.length_drop,h2]at h;omega
    clear q5;obtain⟨b0,b1,b2,b3,b4,b5,b6⟩:=cl7 A;obtain⟨f0,f1,f2,f3,f4,f5,f6⟩:=fl7 A;have z:=set7 A rfl (E C 0) (L ()) (L ()) (E C 0) (E C 0) (E C 0) (B Q 0 0);have u:=zh (d1.step z.2 (λb hb h=>by omega));have Z:=zh z.2;have o:=zh z.1;clear z;go_wp2_with fail;have y0:=zB o 0;have y1:=zB o 1;have y2:=zB o 2;have y3:=zB o 3;have y4:=zB o 4;have y5:=zB o 5;have y6:=zB o 6;refine az (v:=.tuple #[ah #[E C 0,(),(),E C 0,E C 0,E C 0,B Q 0 0],E C 70]) (by simp[ba,bg,go_sem,y0,y1,y2,y3,y4,y5,y6]) rfl ?_;exact⟨.inl ⟨70,Hn,by decide,rfl⟩,u⟩
end Go.Proofs.YtjohgekljmhheaaGreatDoor
