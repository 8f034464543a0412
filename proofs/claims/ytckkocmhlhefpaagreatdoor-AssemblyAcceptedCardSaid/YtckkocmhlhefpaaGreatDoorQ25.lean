import Derived.Test.YtckkocmhlhefpaaGreatDoorQ11
namespace Go.Proofs.YtckkocmhlhefpaaGreatDoor
open Go.RowKit Go.Maps
set_option linter.unusedVariables false
set_option maxRecDepth 100000
set_option maxHeartbeats 8000000
open And renaming intro->am
open Dev renaming vals->a1
open Fr renaming refl->af,setAt->ak
open Go renaming World->L,Addr->t,Calls->ah
open Go.Proofs.Tryz renaming prog->ai
open Go.RowKit renaming Hid->M
open Go.Value renaming slice->aj
open Go.WalkArith renaming wf_i64->au
open Go.World renaming ownsRow_nil->av
open IntKind renaming i64->G
open Obj renaming cells->f
open OnlyN renaming mk->ao
open Value renaming int->P,slice->K,string->c,agg->a0,pointer->ag
open _root_ renaming Nat->C,Int->n,List->r,Option->s,ByteArray->ae
open _root_.Bool renaming false->B,true->ab
open _root_.ByteArray renaming empty->al
open _root_.List renaming length->ap,length_append->aq
open _root_.Nat renaming le_trans->ar
open _root_.Option renaming none->E,some->Q
variable{b v A:C}{o u ds:r Dev}{T:TypeId}{w w':L}{a:s t}{cs:Array Value}{z ix:n}{d:Dev}
def addD (x:Dev)(ix p:n):Dev:=⟨ix+1,p,x.orig,x.orig,x.sub,⟨#[]⟩,x.ali,x.kind,x.num,x.aa,x.an,x.ac⟩
def ocs (k:n)(path:ae)(x:Dev)(nm vl:ae):Array Value:=#[P G k,c path,P G x.index,P G x.parent,c x.name,c x.orig,c x.sub,c x.drv,c x.ali,P G x.kind,P G x.num,K x.aa x.an x.ac,c nm,c vl]
structure OpB (W:L)(b:C)(k:n)(path:ae)(x:Dev)(nm vl:ae):Prop where
 c0:W.cell? ⟨b,0,E⟩=Q (P G k)
 c1:W.cell? ⟨b,1,E⟩=Q (c path)
 c2:W.cell? ⟨b,2,E⟩=Q (P G x.index)
 c3:W.cell? ⟨b,3,E⟩=Q (P G x.parent)
 c4:W.cell? ⟨b,4,E⟩=Q (c x.name)
 c5:W.cell? ⟨b,5,E⟩=Q (c x.orig)
 c6:W.cell? ⟨b,6,E⟩=Q (c x.sub)
 c7:W.cell? ⟨b,7,E⟩=Q (c x.drv)
 c8:W.cell? ⟨b,8,E⟩=Q (c x.ali)
 c9:W.cell? ⟨b,9,E⟩=Q (P G x.kind)
 c10:W.cell? ⟨b,10,E⟩=Q (P G x.num)
 c11:W.cell? ⟨b,11,E⟩=Q (K x.aa x.an x.ac)
 c12:W.cell? ⟨b,12,E⟩=Q (c nm)
 c13:W.cell? ⟨b,13,E⟩=Q (c vl)
theorem OpB.of {W:L}{k:n}{o nm u:ae}{x:Dev}{v:C×C}(h:W.heap[b]?=Q (f (ocs k o x nm u) T v)):OpB W b k o x nm u:=
 ⟨zB h 0,zB h 1,zB h 2,zB h 3,zB h 4,zB h 5,zB h 6,zB h 7,zB h 8,zB h 9,zB h 10,zB h 11,zB h 12,zB h 13⟩
structure KSt (w:L)(kb base:C)(a:s t)(cap:C)(ds:r Dev)(ev:s t)(en ec:C)(ix:n):Prop where
 blk:w.heap[kb]?=Q (f (kcs a ds.length cap ev en ec ix) 60)
 tr:Tr w base a cap ds
 ta:BlkT w a 36
 te:∀ d∈ds,BlkT w d.aa 78
 own:∃ xs,w.ownsRow base 114 5 (K ev en ec) en xs
 nm:∀ d∈ds,d.name.size<=1000
def ParIs (ds:r Dev)(path:ae)(p:n):Prop:=(ds.find? (atP ds path)=E/\path=⟨#[]⟩/\p=0)\/∃ d,ds.find? (atP ds path)=Q d/\p=d.index
theorem Cop.tr {u:C}{y:r Dev}{D:s t}{J:C}(h:Cop w w' A y o)(O:∀ d∈y,Sized d/\d.drv=⟨#[]⟩)(R:Devs w' D J o)(F:TreeWf o)(U:∀ v,D=Q v->A<=v.block)(N:u<=A):Tr w' u D J o:=
 ⟨R,F,λv e=>ar N (U v e),λd' V=>by
  obtain⟨d,X,I⟩:=h.mem V;obtain⟨l,_,Y,Z,g4⟩:=I.att;obtain⟨z,s2⟩:=O d X;have e:=I.eq;refine⟨⟨by rw[e];exact z.name,by rw[e];exact z.orig,by rw[e];exact z.sub,by rw[e];exact z.drv,by rw[e];exact z.ali⟩,by rw[e];exact s2,⟨l,Y,by rw[e];exact Z,g4⟩,λv ea=>ar N (I.fresh v ea)⟩⟩
theorem Cop.names (h:Cop w w' v o u)(y:∀ d∈o,d.name.size<=1000):∀ d∈u,d.name.size<=1000:=λF z=>by
 obtain⟨d,A,D⟩:=h.mem z;rw[D.eq];exact y d A
theorem BlkT.ne_blk {v:TypeId}(h:BlkT w a T)(A:w.heap[b]?=Q (f cs v))(u:T≠v):∀ o,a=Q o->¬ Is b o.block:=λo e y=>by
 obtain⟨D,z⟩:=h o e;unfold Is at y;rw[y,A]at z;cases z;exact u rfl
theorem Tr.typ {z:C}{S:C->Prop}(h:Tr w v a z ds)(I:BlkT w a 36)(J:∀ d∈ds,BlkT w d.aa 78)(A:Fr S w w')
  (N:∀ b cs T,S b->w.heap[b]?=Q (f cs T (0,0))->T≠36/\T≠78):Tr w' v a z ds/\BlkT w' a 36/\∀ d∈ds,BlkT w' d.aa 78:=by
 have O:∀ o,a=Q o->¬ S o.block:=λo e D=>by
  obtain⟨cs,F⟩:=I o e;exact(N _ _ _ D F).1 rfl
 have R:∀ d∈ds,∀ o,d.aa=Q o->¬ S o.block:=λd y o e D=>by
  obtain⟨cs,F⟩:=J d y o e;exact(N _ _ _ D F).2 rfl
 refine⟨⟨h.dv.fr A (λo e _=>O o e),h.wf,h.fresh,λd y=>?_⟩,I.fr A O,λd y=>(J d y).fr A (R d y)⟩;have u:=h.el d y;obtain⟨l,U,V⟩:=u.att;exact⟨u.sz,u.drv,⟨l,U.fr A (λo e _=>R d y o e),V⟩,u.fresh⟩
def KO (w w':L)(b:C)(ds:r Dev)(d:Dev)(ds':r Dev)(er:n):Prop:=(er=44/\(sameO ds d||ds.any (clP d))=ab)\/(er=0/\(sameO ds d||ds.any (clP d))=B/\Cop w w' b (insAt ds (insK ds d) d) ds')
theorem KO.fr {o:L}{v:n}(h:KO w w' b ds d u v)(y:Fr No w' o):KO w o b ds d u v:=h.imp id (λh=>⟨h.1,h.2.1,h.2.2.fr y (λ_ _ _ _=>id)⟩)
theorem KO.put {o:L}(h:KO w w' b ds d u z)(D:w'.heap[A]?=Q (f cs T))(v:78≠T)(F:Fr (Is A) w' o):KO w o b ds d u z:=h.imp id (λh=>⟨h.1,h.2.1,h.2.2.fr F (λd I=>by
 obtain⟨y,_,J⟩:=h.2.2.mem I;exact J.typ.ne_blk D v)⟩)
theorem KO.src {v:L}{b':C}(h:KO v w' b ds d o z)(A:Fr No w v)(u:∀ y∈insAt ds (insK ds d) d,∃ l,Atts w y.aa y.ac l/\y.an=l.length)(D:b'<=b):KO w w' b' ds d o z:=h.imp id (λh=>⟨h.1,h.2.1,h.2.2.src A u D⟩)
def InsAny (w w':L)(ds:r Dev)(d:Dev)(e:Ending):Prop:=
 ∃ a' c' ds' er,e=.returned (.tuple #[a0 #[K a' (ap ds') c'],P G er])/\Devs w' a' c' ds'/\BlkT w' a' 36/\(∀ ad,a'=Q ad->(w:C)<=ad.block)/\KO w w' (w:C) ds d ds' er
theorem InsAny.of {e:Ending}(h:InsTk w w' ds d e\/(sameO ds d||ds.any (clP d))=B/\zFr w w' ds d e):InsAny w w' ds d e:=by
 rcases h with⟨o,u⟩|⟨o,y,z,v,u,A,D,F,I⟩
 .exact⟨E,0,[],44,u,Devs.nil _,BlkT.none _ _,(λ_ e=>by cases e),.inl ⟨rfl,o⟩⟩
 .exact⟨y,z,v,0,u,A,D,F,.inr ⟨rfl,o,I⟩⟩
def zLO (w w':L)(kb base:C)(ds:r Dev)(d:Dev)(en:C)(ix:n):Prop:=
 ∃ a' cap' ds' ev' ec',KSt w' kb base a' cap' ds' ev' (en+1) ec' (ix+1)/\Cop w w' (w:C) (insAt ds (insK ds d) d) ds'
def AddOut (w w':L)(kb base:C)(ds:r Dev)(d:Dev)(ev:s t)(en ec:C)(ix:n)(e:Ending):Prop:=
 ((sameO ds d||ds.any (clP d))=ab/\e=.returned (.tuple #[P G 0,P G 44])/\Fr No w w')\/
 ((sameO ds d||ds.any (clP d))=B/\e=.returned (.tuple #[P G (ix+1),P G 0])/\zLO w w' kb base ds d en ix/\Fr (λb=>b=kb\/(aj ev en ec).ownBlock=Q b) w w')
theorem zOv (D I:C)(a:s t)(a9:C)(ds:r Dev)(ev:s t)(en ec:C)(ix:n)(J nm vl:ae)(x:Dev)(k p:n)(l:r (ae×ae))(m:n)(w:L)(hK:KSt w D I a a9 ds ev en ec ix)(p2:en<=50000)(p3:0<=ix/\ix<=1000000)(hb:I<=(w:C))
  (hA:Atts w x.aa x.ac l) (h1:l.length<=1) (j0:x.an=l.length) (j1:x.kind=2) (hs:Sized (addD x ix p)) (hp:ParIs ds J p) (l4:(Lit.int G p).wf=ab) (h8:InsPre ds (addD x ix p) l) (j2:(sameO ds (addD x ix p)||ds.any (clP (addD x ix p)))=B->∀ w' o,Cop w w' (w:C) (insAt ds (insK ds (addD x ix p)) (addD x ix p)) o->TreeWf o)
  (hm:w.cell? ⟨0,0,E⟩=Q (.int G m)) (h0:0<(w:C)) (p4:0<D):
  ah ai 19 #[ag (Q ⟨D,0,E⟩),a0 (ocs k J x nm vl)] w λe w'=>AddOut w w' D I ds (addD x ix p) ev en ec ix e:=by
 have hn:=h8.len;obtain⟨xs,e6⟩:=hK.own;obtain⟨W0,h9,x0,b0⟩:=zy w (f (ocs k J x nm vl) 38);have i0:=x0.heap hK.blk id;have l5:=zC hK.blk;have d1:=λ(W:L) (hf:Fr No w W)=>zDd a a9 ds I J W (hK.tr.no hf) (by omega)
 have j3:=zh d1;have HK:=zh hK;have HA:=zh hA;have j4:=zh h8;have l6:=zh j2;have Hp:=zh hp;have j5:=zh j0;have HS:=zh hs;have l7:=zh j1;have Hm:=zh hm;have e7:=zh e6;clear d1 hA h8 j2 hp j0 hs j1 hm hK e6;unfold ocs at h9 ⊢
 go_enter Tryz.func19,Tryz.ntmps19
 go_upto_region 1 with(fail)
 rw[<-h9];clear h9
 go_cut [6,7] (λp6 b7 wx=>∃ Bp pd bb,p6=ag (Q ⟨Bp,0,E⟩)/\b7=.bool bb/\M (wx.heap[Bp]?=Q (f (a1 pd) 36)/\pd.index=p/\(bb=ab\/J=⟨#[]⟩)/\(w:C)<Bp)/\Fr No W0 wx)
 case first=>
  have dz:Dev.zero.vals=#[.int G 0,.int G 0,.string ⟨#[]⟩,.string ⟨#[]⟩,.string ⟨#[]⟩,.string ⟨#[]⟩,.string ⟨#[]⟩,.int G 0,.int G 0,.slice E 0 0]:=rfl;refine zZ (λb=>(W0:C)<=b) (.q 0 (.q 1 (.q 2 (.q 3 (.q 4 (.q 5 (.m2 6 (.q 7 (.q 8 (.q 9 (.m1 10 (.m1 11 (.q 12 .fin)))))) 10 (.m1 6 (.q 7 (.q 8 (.q 9 (.m1 11 (.q 12 .fin))))))))))))) _ (by kernel_rfl) (by kernel_rfl) (λW1 R=>?_) zj;have b1:=R.heap b0 id;have k1:=R.heap i0 id;have l8:=zC b0;have l9:=R.size;have t0:∀ g:Gr (λb=>(W0:C)<=b) W1,g.W.cell? ⟨D,0,E⟩=Q (.slice a ds.length a9):=λg=>zB (g.fr.heap k1 (λh=>by omega)) 0
  have t1:∀ g:Gr (λb=>(W0:C)<=b) W1,g.W.cell? ⟨w,1,E⟩=Q (.string J):=λg=>zB (g.fr.heap b1 (λh=>by omega)) 1
  have x1:=zh (x0.step R zi)
  repeat((first|apply zL rfl rfl rfl|apply zJ rfl rfl rfl);intro d2 hK;go_big_quiet_op;go_big_quiet_on)
  clear t0 t1;refine zAA rfl rfl ?_ ?_
  .skip
   .have u:=j3.out W1 x1.out
    go_wp2_with fail
    refine u.mono ?_;rintro e w2 ⟨hF,b2⟩;clear u;obtain⟨pd,bb,rfl,d3,d4⟩:∃ pd bb,e=.returned (.tuple #[a0 (a1 pd),.bool bb])/\pd.index=p/\(bb=ab\/J=⟨#[]⟩):=by
     rcases hF with⟨a3,rfl⟩|⟨d,z,F,l',a3,rfl,_⟩
     .rcases Hp.out with⟨_,Z,h3⟩|⟨d,Z,_⟩
      .exact⟨Dev.zero,B,rfl,h3.symm,.inr Z⟩
      .rw[a3]at Z;cases Z
     .rcases Hp.out with⟨Z,_⟩|⟨d',Z,h3⟩
      .rw[a3]at Z;cases Z
      .rw[a3]at Z;cases Z;exact⟨{ d with aa:=z,ac:=F },ab,rfl,h3.symm,.inl rfl⟩
    have d5:=zg2 d3 d4;clear d3 d4;unfold a1
    go_wp2_with fail
    refine zm b2 ?_
    repeat((first|apply zL rfl rfl rfl|apply zJ rfl rfl rfl);intro d2 hK;go_big_quiet_op;go_big_quiet_on)
    apply zH;exact rfl;obtain⟨W3,d6,f3,q3⟩:=zy w2 (f #[.int G 0,.int G 0,.string ⟨#[]⟩,.string ⟨#[]⟩,.string ⟨#[]⟩,.string ⟨#[]⟩,.string ⟨#[]⟩,.int G 0,.int G 0,.slice E 0 0] 36);have HX:M (Fr No W0 W3):=(R.step b2 zi).step f3 zi;have p7:=b2.size
    go_wp2_with fail
    refine zp ?_;rw[<-d6];clear d6 f3;apply zH;exact rfl;obtain⟨z0,z1,z2,z3,z4,z5,z6,z7,z8,z9⟩:=DevB.of (d:=⟨0,0,⟨#[]⟩,⟨#[]⟩,⟨#[]⟩,⟨#[]⟩,⟨#[]⟩,0,0,E,0,0⟩) q3;obtain⟨y0,y1,y2,y3,y4,y5,y6,y7,y8,y9⟩:=DevF.of q3;have U:=zh (zBA q3 rfl pd);have m0:=zC q3;clear q3
    go_wp2_with fail
    refine ao ⟨U.out.2.mono (λb _ h=>by omega),?_⟩
    repeat((first|apply zL rfl rfl rfl|apply zJ rfl rfl rfl);intro d2 hK;go_big_quiet_op;go_big_quiet_on)
    refine zV ?_
    go_wp2_with fail
    go_meet
    exact⟨_,pd,bb,rfl,rfl,⟨U.out.1,d5.out.1,d5.out.2,by omega⟩,(HX.out.step U.out.2 (λb hb h=>by omega))⟩
  .skip
   .obtain⟨W3,d6,f3,q2⟩:=zy W1 (f #[.int G 0,.int G 0,.string ⟨#[]⟩,.string ⟨#[]⟩,.string ⟨#[]⟩,.string ⟨#[]⟩,.string ⟨#[]⟩,.int G 0,.int G 0,.slice E 0 0] 36)
    go_wp2_with fail
    refine zp ?_;rw[<-d6];clear d6;have u:=j3.out W3 (x1.out.step f3 zi);apply zH;exact rfl
    go_wp2_with fail
    refine u.mono ?_;rintro e w2 ⟨hF,b2⟩;clear u;obtain⟨pd,bb,rfl,d3,d4⟩:∃ pd bb,e=.returned (.tuple #[a0 (a1 pd),.bool bb])/\pd.index=p/\(bb=ab\/J=⟨#[]⟩):=by
     rcases hF with⟨a3,rfl⟩|⟨d,z,F,l',a3,rfl,_⟩
     .rcases Hp.out with⟨_,Z,h3⟩|⟨d,Z,_⟩
      .exact⟨Dev.zero,B,rfl,h3.symm,.inr Z⟩
      .rw[a3]at Z;cases Z
     .rcases Hp.out with⟨Z,_⟩|⟨d',Z,h3⟩
      .rw[a3]at Z;cases Z
      .rw[a3]at Z;cases Z;exact⟨{ d with aa:=z,ac:=F },ab,rfl,h3.symm,.inl rfl⟩
    have d5:=zg2 d3 d4;clear d3 d4;unfold a1;have q3:=b2.heap q2 id;have HX:M (Fr No W0 w2):=(R.step f3 zi).step b2 zi;clear q2 f3
    go_wp2_with fail
    refine zm b2 ?_
    repeat((first|apply zL rfl rfl rfl|apply zJ rfl rfl rfl);intro d2 hK;go_big_quiet_op;go_big_quiet_on)
    apply zH;exact rfl;obtain⟨z0,z1,z2,z3,z4,z5,z6,z7,z8,z9⟩:=DevB.of (d:=⟨0,0,⟨#[]⟩,⟨#[]⟩,⟨#[]⟩,⟨#[]⟩,⟨#[]⟩,0,0,E,0,0⟩) q3;obtain⟨y0,y1,y2,y3,y4,y5,y6,y7,y8,y9⟩:=DevF.of q3;have U:=zh (zBA q3 rfl pd);have m0:=zC q3;clear q3
    go_wp2_with fail
    refine ao ⟨U.out.2.mono (λb _ h=>by omega),?_⟩
    repeat((first|apply zL rfl rfl rfl|apply zJ rfl rfl rfl);intro d2 hK;go_big_quiet_op;go_big_quiet_on)
    refine zV ?_
    go_wp2_with fail
    go_meet
    exact⟨_,pd,bb,rfl,rfl,⟨U.out.1,d5.out.1,d5.out.2,by omega⟩,(HX.out.step U.out.2 (λb hb h=>by omega))⟩
 case rest=>
  obtain⟨Bp,pd,bb,rfl,rfl,hB,R⟩:=hcut;have x1:Fr No w wc:=x0.step R zi;have b1:=R.heap b0 id;have k1:=R.heap i0 id;have p1:=hB.out.1;have l8:=zC b0;have l9:=R.size;have p8:=zC p1;have p9:=hB.out.2.2.2;clear b0 i0 R;obtain⟨o0,o1,o2,o3,o4,o5,o6,o7,o8,o9,m3,m4,m5,m6⟩:=OpB.of b1
  go_upto_region 2 with(fail)
  go_cut [32] (λv wy=>v=.bool B/\wc=wy)
  case first=>
   rcases hB.out.2.2.1 with rfl|rfl
   .rcases hpe:J.toList.isEmpty with _|_
    all_goals
     go_wp2_with fail
     go_meet
     exact⟨rfl,rfl⟩
   .go_wp2_with fail
    go_meet
    exact⟨rfl,rfl⟩
  case rest=>
   obtain⟨rfl,rfl⟩:=hcut;obtain⟨W4,i1,f4,b4⟩:=zy wc (f x.vals 36);unfold a1 at i1
   go_upto_region 5 with(fail)
   rw[<-i1];clear i1 o0 o1 o2 o3 o4 o5 o6 o7 o8 o9 m3 m4 m5 m6;have s4:=f4.size;refine zQ (λb=>(W4:C)<=b) [(0,B),(1,B),(2,B),(3,B),(4,B),(5,B),(6,B),(7,B),(8,B),(9,B),(10,B),(11,B),(12,B),(13,B),(14,B),(15,B),(16,B),(17,B),(18,B),(19,B),(20,B),(21,B),(22,ab),(23,ab)] (by kernel_rfl) (by kernel_rfl) (λW5 b9=>?_);have s5:=b9.size;have x5:Fr No w W5:=(x1.step f4 zi).step b9 zi;have k5:=b9.heap (f4.heap k1 id) id;have p5:=b9.heap (f4.heap p1 id) id;have b5:=b9.heap b4 id;have r0:=zC b4;have t0:∀ g:Gr (λb=>(W4:C)<=b) W5,g.W.cell? ⟨D,4,E⟩=Q (.int G ix):=λg=>zB (g.fr.heap k5 (λh=>by omega)) 4
   have t1:∀ g:Gr (λb=>(W4:C)<=b) W5,g.W.cell? ⟨Bp,0,E⟩=Q (.int G p):=λg=>by rw[<-hB.out.2.1];exact zB (g.fr.heap p5 (λh=>by omega)) 0
   have V:∀ g:Gr (λb=>(W4:C)<=b) W5,DevB g.W (wc:C) x:=λg=>DevB.of (g.fr.heap b5 (λh=>by omega))
   have c0:=λg=>(V g).c0
   have c1:=λg=>(V g).c1
   have c2:=λg=>(V g).c2
   have c3:=λg=>(V g).c3
   have c4:=λg=>(V g).c4
   have c5:=λg=>(V g).c5
   have c6:=λg=>(V g).c6
   have c7:=λg=>(V g).c7
   have c8:=λg=>(V g).c8
   have c9:=λg=>(V g).c9
   clear V
   repeat((first|apply zT rfl rfl rfl|apply zU rfl rfl rfl);intro d2 hK;go_big_quiet_op;go_big_quiet_on)
   clear t0 t1 c0 c1 c2 c3 c4 c5 c6 c7 c8 c9;apply zt;exact rfl;obtain⟨W6,j6,f6,q6⟩:=zy W5 (f #[.int G 0,.int G 0,.string ⟨#[]⟩,.string ⟨#[]⟩,.string ⟨#[]⟩,.string ⟨#[]⟩,.string ⟨#[]⟩,.int G 0,.int G 0,.slice E 0 0] 36)
   go_wp2_with fail
   refine zp ?_;rw[<-j6];clear j6;apply zt;exact rfl;obtain⟨z0,z1,z2,z3,z4,z5,z6,z7,z8,z9⟩:=DevB.of (d:=⟨0,0,⟨#[]⟩,⟨#[]⟩,⟨#[]⟩,⟨#[]⟩,⟨#[]⟩,0,0,E,0,0⟩) q6;obtain⟨y0,y1,y2,y3,y4,y5,y6,y7,y8,y9⟩:=DevF.of q6;have U:=zh (zBA q6 rfl (addD x ix p));clear q6
   go_wp2_with fail
   refine ao ⟨U.out.2.mono (λb _ h=>by omega),?_⟩;refine zb ?_;have f7:=U.out.2;have q7:=U.out.1;clear U z0 z1 z2 z3 z4 z5 z6 z7 z8 z9 y0 y1 y2 y3 y4 y5 y6 y7 y8 y9;unfold addD at f7 q7;dsimp only at f7 q7;revert f7 q7;generalize m7:((((((((((W6.setCell _ _).setCell _ _).setCell _ _).setCell _ _).setCell _ _).setCell _ _).setCell _ _).setCell _ _).setCell _ _).setCell _ _)=W7;intro f7 q7;clear m7;have x7:Fr No w W7:=(x5.step f6 zi).step f7 (λb hb h=>by have:=x5.size;omega);have k7:=f7.heap (f6.heap k5 id) (λh=>by have:=x5.size;omega);have m8:(Lit.int G (addD x ix p).index).wf=true:=au (by show _/\_;unfold addD;dsimp only;omega);have e8:M (∀ W,Fr No w W->ah ai 42 #[a0 #[.slice a ds.length a9],a0 #[.int G (ix+1),.int G p,.string x.orig,.string x.orig,.string x.sub,.string ⟨#[]⟩,.string x.ali,.int G x.kind,.int G x.num,.slice x.aa x.an x.ac]] W λe w'=>InsAny W w' ds (addD x ix p) e/\Fr No W w'):=λW hf=>
    (zDc a a9 ds I (addD x ix p) l m W (HK.out.tr.no hf) HS.out (HA.out.no hf (λ_=>id)) h1 j5.out l7.out rfl l4 m8 j4.out (hf.cell Hm.out id) (Nat.lt_of_lt_of_le h0 hf.size)).mono (λ_ _ h=>⟨InsAny.of h.1,h.2⟩)
   have d1:M (∀ y∈insAt ds (insK ds (addD x ix p)) (addD x ix p),∃ l,Atts w y.aa y.ac l/\y.an=l.length):=by
    intro y hy;rcases zX.1 hy with h|h
    .subst h;exact⟨l,HA.out,j5.out⟩
    .obtain⟨l',g1,g2,_⟩:=(HK.out.tr.el y h).att;exact⟨l',g1,g2⟩
   have r1:D<(w:C):=l5;have r2:(W5:C)<(W7:C):=zC q7;have r3:=x5.size;clear k5 p5 b5 f4 f6 f7 b9 k1 p1 b1 b4
   go_upto_region 6 with(fail)
   go_cut [10,11] (λm9 n2 wy=>∃ Bt z F o er,m9=ag (Q ⟨Bt,0,E⟩)/\n2=.int G er/\M (wy.heap[Bt]?=Q (f #[.slice z (ap o) F] 47)/\(W7:C)<=Bt)/\M (Devs wy z F o/\BlkT wy z 36/\(∀ X,z=Q X->(W7:C)<=X.block)/\KO w wy (w:C) ds (addD x ix p) o er)/\Fr No W7 wy)
   case first=>
    refine zZ (λb=>(W7:C)<=b) (.q 0 (.q 1 (.q 2 (.q 3 (.q 4 (.m2 5 (.q 6 (.q 7 (.q 8 (.m1 9 (.m1 10 (.q 11 .fin)))))) 9 (.m1 5 (.q 6 (.q 7 (.q 8 (.m1 10 (.q 11 .fin))))))))))))  _ (by kernel_rfl) (by kernel_rfl) (λW8 N=>?_) zj;have s8:=N.size;have k8:=N.heap k7 id;have q8:=N.heap q7 id;have x8:=zh (x7.step N zi);have t0:∀ g:Gr (λb=>(W7:C)<=b) W8,g.W.cell? ⟨D,0,E⟩=Q (.slice a ds.length a9):=λg=>zB (g.fr.heap k8 (λh=>by omega)) 0
    have V:∀ g:Gr (λb=>(W7:C)<=b) W8,DevB g.W (W5:C) ⟨ix+1,p,x.orig,x.orig,x.sub,⟨#[]⟩,x.ali,x.kind,x.num,x.aa,x.an,x.ac⟩:=λg=>DevB.of (g.fr.heap q8 (λh=>by omega))
    have c0:=λg=>(V g).c0
    have c1:=λg=>(V g).c1
    have c2:=λg=>(V g).c2
    have c3:=λg=>(V g).c3
    have c4:=λg=>(V g).c4
    have c5:=λg=>(V g).c5
    have c6:=λg=>(V g).c6
    have c7:=λg=>(V g).c7
    have c8:=λg=>(V g).c8
    have c9:=λg=>(V g).c9
    clear V
    repeat((first|apply zL rfl rfl rfl|apply zJ rfl rfl rfl);intro d2 hK;go_big_quiet_op;go_big_quiet_on)
    clear t0 c0 c1 c2 c3 c4 c5 c6 c7 c8 c9;refine zAA rfl rfl ?_ ?_
    focus
     have u:=e8.out W8 x8.out
     go_wp2_with fail
     refine u.mono ?_;rintro e w9 ⟨hR,O⟩;clear u;obtain⟨z,F,o,er,rfl,hD,d7,a5,a6⟩:=hR;have HR:=zg4 hD d7 a5 a6;have s9:=O.size;clear hD d7 a5 a6
     go_wp2_with fail
     refine zm O ?_
     repeat((first|apply zL rfl rfl rfl|apply zJ rfl rfl rfl);intro d2 hK;go_big_quiet_op;go_big_quiet_on)
     apply zH;exact rfl;obtain⟨WA,j7,fA,qA⟩:=zy w9 (f #[.slice E 0 0] 47)
     go_wp2_with fail
     refine zp ?_;rw[<-j7];clear j7;have HT:M (Devs WA z F o/\BlkT WA z 36/\(∀ X,z=Q X->(W7:C)<=X.block)/\KO w WA (w:C) ds (addD x ix p) o er):=⟨HR.out.1.no fA (λ_=>id),HR.out.2.1.fr fA (λ_ _=>id),λX e=>by have:=HR.out.2.2.1 X e;omega,(HR.out.2.2.2.src x8.out d1.out x8.out.size).fr fA⟩
     have e9:M (Fr No W7 WA):=(N.step O zi).step fA zi;have e2:M ((W7:C)<=(w9:C)):=by unfold M;omega
     generalize (w9:C)=Bt at *
    rotate_left 1
    focus
     obtain⟨W9,j8,f9,q9⟩:=zy W8 (f #[.slice E 0 0] 47)
     go_wp2_with fail
     refine zp ?_;rw[<-j8];clear j8;have x9:=zh (x8.out.step f9 zi);have u:=e8.out W9 x9.out;apply zH;exact rfl
     go_wp2_with fail
     refine u.mono ?_;rintro e WA ⟨hR,i2⟩;clear u;obtain⟨z,F,o,er,rfl,hD,d7,a5,a6⟩:=hR;have s9:=f9.size;have qA:=i2.heap q9 id;have HT:M (Devs WA z F o/\BlkT WA z 36/\(∀ X,z=Q X->(W7:C)<=X.block)/\KO w WA (w:C) ds (addD x ix p) o er):=⟨hD,d7,λX e=>by have:=a5 X e;omega,a6.src x9.out d1.out x9.out.size⟩
     have e9:M (Fr No W7 WA):=(N.step f9 zi).step i2 zi;have e2:M ((W7:C)<=(W8:C)):=s8;clear hD d7 a5 a6 q9
     go_wp2_with fail
     refine zm i2 ?_
     repeat((first|apply zL rfl rfl rfl|apply zJ rfl rfl rfl);intro d2 hK;go_big_quiet_op;go_big_quiet_on)
     generalize (W8:C)=Bt at *
    all_goals (
     apply zH;exact rfl;have y0:=zD qA 0;have z0:WA.cell? ⟨Bt,0,E⟩=Q (.slice E 0 0):=zB qA 0;have fB:Fr (Is Bt) WA (WA.setCell ⟨Bt,0,E⟩ (.slice z o.length F)):=ak (af _ _) _;have qB:=zE qA 0 (.slice z o.length F);have n1:=HT.out.2.1.ne_blk qA (by decide);have HU:M (Devs (WA.setCell ⟨Bt,0,E⟩ (.slice z o.length F)) z F o/\BlkT (WA.setCell ⟨Bt,0,E⟩ (.slice z o.length F)) z 36/\(∀ X,z=Q X->(W7:C)<=X.block)/\KO w (WA.setCell ⟨Bt,0,E⟩ (.slice z o.length F)) (w:C) ds (addD x ix p) o er):=
      ⟨HT.out.1.fr fB (λX e _=>n1 X e),HT.out.2.1.fr fB n1,HT.out.2.2.1,HT.out.2.2.2.put qA (by decide) fB⟩
     have n3:M (Fr No W7 (WA.setCell ⟨Bt,0,E⟩ (.slice z o.length F))):=e9.out.step fB (λb hb h=>by have:=e2.out;omega);have n4:=zh qB;clear qB fB n1 qA
     go_wp2_with fail
     refine ao ⟨Fr.setCell (af _ _) (λ_=>e2.out) _,?_⟩
     repeat((first|apply zL rfl rfl rfl|apply zJ rfl rfl rfl);intro d2 hK;go_big_quiet_op;go_big_quiet_on)
     refine zV ?_
     go_wp2_with fail
     go_meet
     exact⟨Bt,z,F,o,er,rfl,rfl,⟨n4.out,e2.out⟩,HU,n3.out⟩
     )
   case rest=>
    obtain⟨Bt,z,F,o,er,rfl,rfl,e3,HU,N⟩:=hcut;rcases HU.out.2.2.2 with⟨rfl,d8⟩|⟨rfl,d8,j9⟩
    .have e4:=zh d8;have x8:=zh (x7.step N zi);clear d8 N e3
     go_wp2_with fail
     refine bodyPost_ret (v:=.tuple #[.int G 0,.int G 44]) (by simp[results,Tryz.results19,go_sem]) rfl ?_;exact .inl ⟨e4.out,rfl,x8.out⟩
    have e4:=zh d8;have HC:=zh j9;clear d8 j9;have x8:Fr No w wc:=x7.step N zi;have k8:=N.heap k7 id;have q8:=N.heap q7 id;have g0:=e3.out.1;have p0:=e3.out.2;have s8:=N.size;clear k7 q7 e3 N
    go_upto_region 9 with(fail)
    refine zQ (λb=>b=D) [(0,B),(1,B),(2,B),(3,B),(4,B),(5,B),(6,B),(7,ab),(8,B),(9,B),(10,ab)] (by kernel_rfl) (by kernel_rfl) (λW9 O=>?_);have x9:Fr No w W9:=x8.step O zi;have k9:=O.heap k8 id;have q9:=O.heap q8 id;have t9:=O.heap g0 id;have s9:=O.size;have t0:∀ g:Gr (λb=>b=D) W9,g.W.cell? ⟨Bt,0,E⟩=Q (.slice z o.length F):=λg=>zB (g.fr.heap t9 (λh=>by omega)) 0
    have t1:∀ g:Gr (λb=>b=D) W9,g.W.cell? ⟨W5,0,E⟩=Q (.int G (ix+1)):=λg=>zB (g.fr.heap q9 (λh=>by omega)) 0
    repeat((first|apply zT rfl rfl rfl|apply zU rfl rfl rfl);intro d2 hK;go_big_quiet_op;go_big_quiet_on)
    clear t0 t1;apply zt;exact rfl;have y0:=zD k9 0;have z0:W9.cell? ⟨D,0,E⟩=Q (.slice a ds.length a9):=zB k9 0;have e5:(W9.setCell ⟨D,0,E⟩ (.slice z o.length F)).heap[D]?=Q (f (kcs z o.length F ev en ec ix) 60):=zE k9 0 _;have i3:Fr (Is D) W9 (W9.setCell ⟨D,0,E⟩ (.slice z o.length F)):=ak (af _ _) _
    go_wp2_with fail
    refine zf i3 ?_;generalize W9.setCell ⟨D,0,E⟩ (.slice z o.length F)=W10 at *;clear y0 z0
    repeat((first|apply zT rfl rfl rfl|apply zU rfl rfl rfl);intro d2 hK;go_big_quiet_op;go_big_quiet_on)
    apply zt;exact rfl;have y4:=zD e5 4;have z4:W10.cell? ⟨D,4,E⟩=Q (.int G ix):=zB e5 4;have k0:(W10.setCell ⟨D,4,E⟩ (.int G (ix+1))).heap[D]?=Q (f (kcs z o.length F ev en ec (ix+1)) 60):=zE e5 4 _;have i4:Fr (Is D) W10 (W10.setCell ⟨D,4,E⟩ (.int G (ix+1))):=ak (af _ _) _
    go_wp2_with fail
    refine zf i4 ?_;generalize W10.setCell ⟨D,4,E⟩ (.int G (ix+1))=W11 at *;clear y4 z4;refine zb ?_;have Y:Fr (Is D) W9 W11:=i3.step i4 zi;have k3:=Y.heap q9 (λh=>by omega);have i5:=(HU.out.2.1.fr O (λ_ _=>id)).ne_blk k9 (by decide);have i6:Cop w W9 (w:C) (insAt ds (insK ds (addD x ix p)) (addD x ix p)) o:=HC.out.fr O (λ_ _ _ _=>id);have g4:Devs W11 z F o:=(HU.out.1.no O (λ_=>id)).fr Y (λX e _=>i5 X e);have g5:BlkT W11 z 36:=(HU.out.2.1.fr O (λ_ _=>id)).fr Y i5;have a2:Cop w W11 (w:C) (insAt ds (insK ds (addD x ix p)) (addD x ix p)) o:=i6.fr Y (λd hd=>by
     obtain⟨y,_,hy⟩:=i6.mem hd;exact hy.typ.ne_blk k9 (by decide))
    have g6:∀ d∈insAt ds (insK ds (addD x ix p)) (addD x ix p),Sized d/\d.drv=⟨#[]⟩:=by
     intro y hy;rcases zX.1 hy with h|h
     .subst h;exact⟨HS.out,rfl⟩
     .exact⟨(HK.out.tr.el y h).sz,(HK.out.tr.el y h).drv⟩
    have g7:∀ d∈insAt ds (insK ds (addD x ix p)) (addD x ix p),d.name.size<=1000:=by
     intro y hy;rcases(zX.1 hy).symm with h|h
     .exact HK.out.nm y h
     .subst h;have:=j4.out.snd.oklen;show x.orig.size<=1000
      unfold addD at this;dsimp only at this;omega
    have i7:Tr W11 I z F o:=a2.tr g6 g4 (l6.out e4.out _ _ a2) (λX e=>by have:=HU.out.2.2.1 X e;have:=x7.size;omega) hb;have d9:=a2.names g7;have n5:o.length<=1000:=by have:=a2.len;rw[zCd]at this;omega
    have b3:=zG e7.out x9 (λ_ _=>id);have g8:=zK b3 k9 (by decide);have b8:=zG b3 Y (λb hb h=>by unfold Is at h;subst h;exact g8 hb);have k4:=zHE D z F I o ev en ec (ix+1) 1 (ix+1) W11 k0 i7 n5 (au (by omega)) d9;have r4:=Y.size;have q0:W11.cell? ⟨W5,0,E⟩=Q (.int G (ix+1)):=zB k3 0;have k6:M (Fr (λb=>b=D\/(aj ev en ec).ownBlock=Q b) w W11):=(x9.mono zn).step Y (λb _ h=>.inl h);have a7:=zg4 a2 i7 g5 d9;clear k8 k9 e5 i3 i4 q8 q9 t9 g0 i5 i6 g4 g6 g7 a2 i7 g5 d9 b3 g8
    go_upto_region 10 with(fail)
    go_wp2_with fail
    refine k4.mono ?_;rintro e l0 ⟨⟨sp,rfl⟩,g9⟩;clear k4 q0;obtain⟨e0,h4,n6,l1⟩:=zy l0 (f #[.int G 0,.int G 1,.int G (ix+1),.string sp,.string ⟨#[]⟩] 114);have A:Fr No W11 e0:=g9.step n6 zi;have i8:=A.heap k0 id;have a4:=zG b8 A (λ_ _=>id);have l2:=zMu D (l0:C) I z o.length F ev en ec (ix+1) 1 (ix+1) sp xs e0 i8 a4 (by omega) l1 (by have:=k6.out.size;have:=A.size;omega) (λh=>by have:=(zAD b8 h).2;have:=g9.size;omega)
    go_wp2_with fail
    rw[<-h4];clear h4;refine l2.mono ?_;rintro e d0 ⟨rfl,⟨n7,n8,n9,i9,e1⟩,a8⟩;clear l2;have l3:=a8.heap (A.heap k3 id) (λh=>by
     rcases h with h|h
     .omega
     .have:=zY e7.out h;omega)
    have q0:d0.cell? ⟨W5,0,E⟩=Q (.int G (ix+1)):=zB l3 0;have k2:d0.cell? ⟨D,2,E⟩=Q (.slice E 0 0):=zB i9 2;have hS:∀ b cs T,(b=D\/(aj ev en ec).ownBlock=Q b)->e0.heap[b]?=Q (f cs T (0,0))->T≠36/\T≠78:=by
     intro b cs T h hc;rcases h with rfl|h
     .rw[i8]at hc;cases hc;exact⟨by decide,by decide⟩
     .by_cases hT:T=114
      .subst hT;exact⟨by decide,by decide⟩
      .exact absurd h (zK a4 hc hT)
    have b6:∀ d∈o,BlkT e0 d.aa 78:=λd hd=>by
     obtain⟨y,_,hy⟩:=a7.out.1.mem hd;exact hy.typ.fr A (λ_ _=>id)
    have h5:Cop w e0 (w:C) (insAt ds (insK ds (addD x ix p)) (addD x ix p)) o:=a7.out.1.fr A (λ_ _ _ _=>id);have h6:Cop w d0 (w:C) (insAt ds (insK ds (addD x ix p)) (addD x ix p)) o:=h5.fr a8 (λd hd X e h=>by
     obtain⟨cs,hc⟩:=b6 d hd X e;exact(hS _ _ _ h hc).2 rfl)
    obtain⟨g1,g2,g3⟩:=Tr.typ (a7.out.2.1.no A) (a7.out.2.2.1.fr A (λ_ _=>id)) b6 a8 hS;have h7:M (zLO w d0 D I ds (addD x ix p) en ix/\Fr (λb=>b=D\/(aj ev en ec).ownBlock=Q b) w d0):=
     ⟨⟨z,F,o,n7,n8,⟨i9,g1,g2,g3,⟨n9,e1⟩,a7.out.2.2.2⟩,h6⟩,(k6.out.step A zn).step a8 zi⟩
    clear g1 g2 g3 h6 h5 b6 hS e1 i9 l3 i8 a4 a8 l1
    go_wp2_with fail
    go_loopw [90] (λv wr=>v=.int G 0/\wr=d0) (λ_ _=>0)
    case atStart=>exact⟨rfl,rfl⟩
    case round=>
     obtain⟨rfl,rfl⟩:=hrel
     go_wp2_with fail
     go_ret2
     exact .inr ⟨e4.out,rfl,h7.out.1,h7.out.2⟩
theorem zOu (w:L):
  ah ai 4 #[K E 0 0] w λe w'=>e=.returned (.tuple #[ag (Q ⟨w,0,E⟩),P G 0])/\w'=w.alloc (f (kcs E 0 0 E 0 0 0) 60):=by
 obtain⟨o,h⟩:∃ o,o=w.alloc (f (kcs E 0 0 E 0 0 0) 60):=⟨_,rfl⟩
 rw[<-h];unfold kcs at h
 go_enter Tryz.func4,Tryz.ntmps4
 go_wp2_with fail
 rw[<-h];clear h
 go_loopw [16] (λv wr=>v=P G 0/\wr=o) (λ_ _=>0)
 case atStart=>exact⟨rfl,rfl⟩
 case round=>
  obtain⟨rfl,rfl⟩:=hrel
  go_wp2_with fail
  go_ret2
  exact⟨rfl,rfl⟩
theorem zPM (J:C)(o nm y:ae)(x:Dev)(w:L)(R:n->n->L->Prop)
  (h:∀ W,W=w.alloc (f (ocs 1 o x nm y) 38)->ah ai 19 #[ag (Q ⟨J,0,E⟩),a0 (ocs 1 o x nm y)] W λe w'=>∃ i v,e=.returned (.tuple #[P G i,P G v])/\R i v w'):
  ah ai 6 #[ag (Q ⟨J,0,E⟩),a0 (ocs 1 o x nm y)] w λe w'=>∃ i v,e=.returned (.tuple #[P G i,P G v])/\R i v w':=by
 obtain⟨O,u,-,N⟩:=zy w (f (ocs 1 o x nm y) 38);have z:=h O u;obtain⟨U,V,X,Y,Z,o5,o6,o7,o8,o9,A,D,F,I⟩:=OpB.of N;clear h N;unfold ocs at u z ⊢
 go_enter Tryz.func6,Tryz.ntmps6
 go_upto_region 1 with(fail)
 rw[<-u];clear u
 go_wp2_with fail
 refine z.mono ?_;rintro e w1 ⟨i,v,rfl,hR⟩;clear z U V X Y Z o5 o6 o7 o8 o9 A D F I;have HR:=zh hR;clear hR
 go_wp2_with fail
 go_ret2
 exact⟨_,_,rfl,HR.out⟩
theorem k_do (y:C)(o nm u:ae)(x:Dev)(i v:n)(w:L)(R:L->Prop)
  (h:∀ W,W=w.alloc (f (ocs 1 o x nm u) 38)->ah ai 19 #[ag (Q ⟨y,0,E⟩),a0 (ocs 1 o x nm u)] W λe w'=>e=.returned (.tuple #[P G i,P G v])/\R w'):
  ah ai 6 #[ag (Q ⟨y,0,E⟩),a0 (ocs 1 o x nm u)] w λe w'=>e=.returned (.tuple #[P G i,P G v])/\R w':=
 (zPM y o nm u x w (λA z w'=>A=i/\z=v/\R w') (λW D=>(h W D).mono λ_ _ h=>⟨i,v,h.1,rfl,rfl,h.2⟩)).mono λ_ _ ⟨_,_,F,I,J,N⟩=>⟨by rw[F,I,J],N⟩
theorem zOt (kb:C)(a:s t)(b1:C)(ds:r Dev)(ev:s t)(en ec:C)(ix:n)(w:L)(hk:w.heap[kb]?=Q (f (kcs a ds.length b1 ev en ec ix) 60))(hl:Devs w a b1 ds)(hn:ds.length<=1000)(d5:∀ d∈ds,∃ l,Atts w d.aa d.ac l/\d.an=l.length/\l.length<=24):
  ah ai 10 #[ag (Q ⟨kb,0,E⟩)] w λe w'=>(∃ I N b4,e=.returned (a0 #[K I (ap b4) N])/\Devs w' I N b4/\BlkT w' I 36/\(∀ o,I=Q o->(w:C)<=o.block)/\Cop w w' (w:C) ds b4)/\Fr No w w':=by
 obtain⟨i0,g0,g1,g4,g5⟩:=info_parts infoD;have i1:=hl.lenmax;have g6:=zh d5;have Hn:=zh hn;clear d5 hn;obtain⟨W0,d6,x0,b2,b3⟩:=zw w (f #[K E 0 0] 47) (f #[K E 0 0] 47);have k0:W0.cell? ⟨kb,0,E⟩=Q (K a ds.length b1):=zB (x0.heap hk id) 0;have s0:=zC b3
 go_enter Tryz.func10,Tryz.ntmps10
 go_upto_region 2 with(fail)
 rw[<-d6];clear d6
 go_wp2_with fail
 clear k0
 go_loopw [12] (λi wr=>∃ (j:C) (O:r Dev) (R:s t) (U:C),j<=ds.length/\O.length<=j/\i=P G (j:n)/\wr.heap[(w:C)+1]?=Q (f #[K R O.length U] 47)/\wr.heap[(w:C)]?=Q (f #[K E 0 0] 47)/\wr.ownsRow ((w:C)+2) 36 10 (K R O.length U) O.length (flat O)/\Cop w wr ((w:C)+2) (ds.take j) O/\Fr (From (w:C)) w wr) (λi _=>ds.length-(intOf i).toNat)
 case atStart=>exact⟨0,[],E,0,by omega,by simp,rfl,b3,b2,av _ _ _ _,by simpa using Cop.nil _ _ _,x0.mono zn⟩
 case round=>
  obtain⟨j,O,R,U,hj,i2,rfl,g3,g2,z,hC,hf⟩:=hrel;by_cases g8:j<ds.length
  .have h7:(j:n)<ds.length:=by omega
   have g9:∀ o,a=Q o->ds≠[]->¬ From (w:C) o.block:=λo e b5 h=>by have:=(hl.cell o e b5).2.1;omega
   obtain⟨bb,i3,d,rfl,hd,c0,c1,c2,c3,c4,c5,c6,c7,c8,c9⟩:=(hl.fr hf g9).dev g8;have a9:=List.mem_of_getElem? hd;obtain⟨l,a6,b6,d7⟩:=g6.out d a9;have hA:Atts wr d.aa d.ac l:=a6.fr hf (λo e b5 h=>by have:=(a6.cell o e b5).2.1;omega);have h0:M (ds.take (j+1)=ds.take j++[d]):=by unfold M;rw[List.take_add_one,hd];rfl
   have a7:=zg3 a6 b6 d7;clear hd a9 a6;obtain⟨W1,b7,X,q1⟩:=zy wr (f d.vals 36);have b8:=zDH d.aa d.ac l W1 (hA.no X (λ_=>id)) (by omega);have z9:=(DevB.of q1).c9;rw[<-a7.out.2.1]at b8;have i4:=hf.size;have i5:=X.size;have h8:=zC q1;have i6:=zh b6;unfold a1 at b7;clear b6 d7 hA
   go_upto_region 5 with(fail)
   rw[<-b7];clear b7 c0 c1 c2 c3 c4 c5 c6 c7 c8 c9
   go_wp2_with fail
   refine b8.mono ?_;rintro e w2 ⟨⟨I,N,rfl,d8,d9,u⟩,Y⟩;have q2:=Y.heap q1 id;have z9:w2.cell? ⟨wr,9,E⟩=Q (K d.aa d.an d.ac):=(DevB.of q2).c9;have y9:=zD q2 9;have q3:(w2.setCell ⟨wr,9,E⟩ (K I d.an N)).heap[(wr:C)]?=Q (f (a1 { d with aa:=I,ac:=N }) 36):=zE q2 9 _;have f3:Fr (Is (wr:C)) w2 (w2.setCell ⟨wr,9,E⟩ (K I d.an N)):=ak (af _ _) _;obtain⟨V,b9⟩:∃ V,V=w2.setCell ⟨wr,9,E⟩ (K I d.an N):=⟨_,rfl⟩
   rw[<-b9]at q3 f3;have s2:=Y.size;have s3:=f3.size;have J:Fr (λb=>(wr:C)<=b) wr V:=((X.step Y zi).mono zn).step f3 (λb _ h=>by omega);have d0:=J.heap g3 (λh=>by have:=zC g3;omega);have h3:=J.heap g2 (λh=>by have:=zC g2;omega);have A:=zG z J (λb hb h=>by have:=zY z hb;omega);have e0:Cop w V ((w:C)+2) (ds.take j) O:=(hC.fr (X.step Y zi) (λ_ _ _ _=>id)).fr f3 (λx hx o e h=>by
    obtain⟨y,_,hy⟩:=hC.mem hx;obtain⟨cs,hc⟩:=hy.typ o e;have:=zC hc;omega)
   have e4:=d8.fr f3 (λo e _ h=>by have:=u o e;omega);have e5:=d9.fr f3 (λo e h=>by have:=u o e;omega);have h9:(w:C)+2<=(wr:C):=zC g3;have h4:M (Cop1 w V ((w:C)+2) d { d with aa:=I,ac:=N }):=⟨rfl,⟨l,a7.out.1,e4,a7.out.2.1,a7.out.2.2⟩,e5,λo e=>by have:=u o e;omega⟩
   have i7:O.length<=1000:=by have:=Hn.out;omega
   have h5:=zh e0;have d1:=zh A;have Hf:=zh (hf.step J (λb _ h=>by omega));have e6:=λb (h:(aj R O.length U).ownBlock=Q b)=>zP A h
   have d2:M (∀ b,(aj R O.length U).ownBlock=Q b->(w:C)+2<=b):=e6;clear e0 hC z hf J e4 e5 d8 d9 u f3 Y X q1 q2 g3 g2 b8
   go_upto_region 6 with(fail)
   rw[<-b9];clear b9 z9 y9 e6;have c3:V.cell? ⟨(w:C)+1,0,E⟩=Q (K R O.length U):=zB d0 0;obtain⟨z0,z1,z2,z3,z4,z5,z6,z7,z8,z9⟩:=DevB.of q3;have G3:=zh d0;clear d0 q3
   go_wp2_with (at_builtin;refine wpList_append_own _ rfl _ _ 45 rfl ((w:C)+2) 36 i0 (a0 #[P G 0,P G 0,c al,c al,c al,c al,c al,P G 0,P G 0,K E 0 0]) 10 136 Tryz.underlying45 g0 g1 g4 g5 rfl (by decide) _ _ _ rfl (A.alloc _) ⟨V,0,E⟩ 1 1 (a1 { d with aa:=I,ac:=N }).toList rfl rfl (zg _ (a1 { d with aa:=I,ac:=N }) _ rfl) (zAT _) (by unfold maxLen;omega) (by omega) (by first|omega|(simp;done)|(simp;omega)) ?_;intro v' w6 D F _;obtain⟨Z,a2,rfl⟩:=zI D;have k6:=(Fr.of_grown F).heap (((af No V).alloc _).heap G3.out id) (λh=>by have:=d2.out _ h;omega);have c6:w6.cell? ⟨(w:C)+1,0,E⟩=Q (K R O.length U):=zB k6 0;have f6:w6.frozen? ⟨(w:C)+1,0,E⟩=false:=zD k6 0)
   have d3:Fr No V (V.alloc (f (a1 { d with aa:=I,ac:=N }) 36)):=(af _ _).alloc _;have b0:=d1.out.alloc (f (a1 { d with aa:=I,ac:=N }) 36);have a8:Fr (λb=>(aj R O.length U).ownBlock=Q b) (V.alloc (f (a1 { d with aa:=I,ac:=N }) 36)) w6:=Fr.of_grown F;have d4:Cop w w6 ((w:C)+2) (ds.take (j+1)) (O++[{ d with aa:=I,ac:=N }]):=by
    rw[h0.out];exact((h5.out.snoc h4.out).fr d3 (λ_ _ _ _=>id)).own b0 a8
   have f7:Fr (Is ((w:C)+1)) w6 (w6.setCell ⟨(w:C)+1,0,E⟩ (K Z (O.length+1) a2)):=ak (af _ _) _;have k7:=zE k6 0 (K Z (O.length+1) a2);have e7:Cop w (w6.setCell ⟨(w:C)+1,0,E⟩ (K Z (O.length+1) a2)) ((w:C)+2) (ds.take (j+1)) (O++[{ d with aa:=I,ac:=N }]):=d4.fr f7 (λx hx o e h=>by
    obtain⟨y,_,hy⟩:=d4.mem hx;have:=hy.fresh o e;omega)
   have a4:=zG D f7 (λb hb h=>by have:=zP D hb;omega);have g7:=f7.heap (a8.heap (((af No V).alloc _).heap h3 id) (λh=>by have:=d2.out _ h;omega)) (λh=>by omega);have e8:Fr (From (w:C)) w (w6.setCell ⟨(w:C)+1,0,E⟩ (K Z (O.length+1) a2)):=((Hf.out.step d3 zn).step a8 (λb _ h=>by have:=d2.out _ h;omega)).step f7 (λb _ h=>by omega);have HF:=zg5 a4 e7 e8 k7 g7;clear D d4 F a8 b0 d3 A f7 k7 e7 a4 g7 e8 k6 c6 f6 z0 z1 z2 z3 z4 z5 z6 z7 z8 z9
   go_roundw
   case rel=>exact⟨j+1,O++[{ d with aa:=I,ac:=N }],Z,a2,by omega,by simp;omega,by go_num,by rw[aq];exact HF.out.2.2.2.1,HF.out.2.2.2.2,by rw[aq,zCe];exact HF.out.1,HF.out.2.1,HF.out.2.2.1⟩
   case measure=>simp[intOf];omega
  .obtain rfl:j=ds.length:=by omega
   rw[List.take_length]at hC;obtain⟨a3,c3,hv,hD,a5⟩:=Devs.of_own z;have e9:=zAG z;injection hv with e1 e2 e3
   subst e1;subst e3;have k3:wr.cell? ⟨(w:C)+1,0,E⟩=Q (K R O.length U):=zB g3 0;have k2:wr.cell? ⟨w,0,E⟩=Q (K E 0 0):=zB g2 0;have f2:=zD g2 0;have fz:Fr (Is (w:C)) wr (wr.setCell ⟨w,0,E⟩ (K R O.length U)):=ak (af _ _) _;have kz:=zE g2 0 (K R O.length U);have h6:(wr.setCell ⟨w,0,E⟩ (K R O.length U)).cell? ⟨w,0,E⟩=Q (K R O.length U):=zB kz 0;have H:=zh (am (hD.fr fz (λo e _ h=>by have:=a5 o e;omega)) (am (e9.fr fz (λo e h=>by have:=a5 o e;omega)) (am a5 (am (hC.fr fz (λx hx o e h=>by
    obtain⟨y,_,hy⟩:=hC.mem hx;have:=hy.fresh o e;omega)) ((hf.step fz (λb _ h=>by omega)).mono (T:=No) (λb hb h=>by omega))))))
   clear z hC hf hD e9 kz fz g3 g2
   go_wp2_with fail
   refine bodyPost_ret (v:=a0 #[K R O.length U]) (by simp[results,Tryz.results10,go_sem,h6]) rfl ?_;exact⟨⟨R,U,O,rfl,H.out.1,H.out.2.1,λo e=>by have:=H.out.2.2.1 o e;omega,⟨H.out.2.2.2.1.len,λi d d' h1 h2=>by
    obtain⟨q1,q2,q3,q4⟩:=H.out.2.2.2.1.el i d d' h1 h2;exact⟨q1,q2,q3,λo e=>by have:=q4 o e;omega⟩⟩⟩,H.out.2.2.2.2⟩
theorem KSt.no {y o:C}{u:C}{z:s t}{D:C}(h:KSt w y o a u ds z A D ix)(v:Fr No w w'):KSt w' y o a u ds z A D ix:=
 ⟨v.heap h.blk id,h.tr.no v,h.ta.fr v (λ_ _=>id),λd F=>(h.te d F).fr v (λ_ _=>id),h.own.elim λI J=>⟨I,zG J v (λ_ _=>id)⟩,h.nm⟩
theorem KSt.new (w:L)(h:C):KSt (w.alloc (f (kcs E 0 0 E 0 0 0) 60)) (w:C) h E 0 [] E 0 0 0:=
 ⟨zF _ _,Tr.nil _ _,BlkT.none _ _,λd o=>by simp at o,⟨[],av _ _ _ _⟩,λd o=>by simp at o⟩
theorem zNH {w':L}{I u:C}{J:s t}{N O:C}(h:KSt w I u a v ds J N O ix){y:s t}{A:C}{o:r Dev}
  (R:Devs w' y A o) (U:∀ D,y=Q D->(w:C)<=D.block) (V:Cop w w' (w:C) ds o) (z:TreeWf o):Tr w' (w:C) y A o:=
 V.tr (λd F=>⟨(h.tr.el d F).sz,(h.tr.el d F).drv⟩) R z U (Nat.le_refl _)
end Go.Proofs.YtckkocmhlhefpaaGreatDoor
