import Derived.Test.YtckkocmhlhefpaaGreatDoorQ30
namespace Go.Proofs.YtckkocmhlhefpaaGreatDoor
open Go.RowKit Go.Maps Go.Shelf
set_option linter.unusedVariables false
set_option maxRecDepth 100000
set_option maxHeartbeats 8000000
open And renaming intro->ae
open Dev renaming index->am
open Fr renaming refl->ab,setAt->aj
open Go renaming Calls->ah,maxLen->ak
open Go.Instr renaming lookup->au
open Go.Proofs.Tryz renaming prog->ag,underlying82->aw
open Go.RowKit renaming Hid->H
open Go.Value renaming slice->t
open Go.World renaming size_alloc->ax
open IntKind renaming i64->L
open Obj renaming cells->s
open OnlyN renaming mk->ai
open Value renaming string->G,slice->B,int->K,agg->p,pointer->ar
open _root_ renaming Nat->C,List->a0
open _root_.Bool renaming false->f
open _root_.ByteArray renaming empty->af
open _root_.List renaming getElem?_map->ap,mem_of_getElem?->aq,length->av
open _root_.Option renaming some->E,none->Q
structure SetI (pb rb base:C)(w:World)(M:a0 Vir)(ds:a0 Dev)(ct:Int->ByteArray)(ops:a0 OpA)(S:C->Prop)(j:C)(W:World):Prop where
 st:∃ (a1:Option Addr) (c1:C) (cs:a0 Dev) (ao:Option Addr) (no co:C),no=(setF M ds ct ops j).2.length/\W.heap[pb]?=E (s #[B a1 cs.length c1,B ao no co] 102)/\Tr W base a1 c1 cs/\cs.map strip=ds.map strip/\W.ownsRow rb 38 14 (B ao no co) no (opF (setF M ds ct ops j).2)/\TrT W a1 cs/\CtO W cs (setF M ds ct ops j).1/\∀ b,(t ao no co).ownBlock=E b->S b\/(w:C)<=b
 fr:Fr S w W
theorem zKj {ds:a0 Dev}(z:TreeOk ds){k:C}{d:Dev}(v:ds[k]?=E d):fidx (λy=>y.index==d.index) ds=(k:Int):=by
 refine zHK _ ds k d v (by simp) λy A=>?_
 obtain⟨i,u⟩:=List.getElem?_of_mem A;have o:i<k:=by
  have h:=(List.getElem?_eq_some_iff.1 u).1;rw[List.length_take]at h;omega
 rw[List.getElem?_take_of_lt o]at u;have D:(ds.map am)[i]?=E y.index:=by rw[ap,u];rfl
 have F:(ds.map am)[k]?=E d.index:=by rw[ap,v];rfl
 obtain⟨I,J⟩:=List.getElem?_eq_some_iff.1 D;obtain⟨N,O⟩:=List.getElem?_eq_some_iff.1 F;have:=List.pairwise_iff_getElem.1 z.nd i k I N o;rw[J,O]at this
 simpa using this
theorem zOd (O mb rb R:C)(a:Option Addr)(m3:C)(ds:a0 Dev)(M:a0 Vir)(ct:Int->ByteArray)(I:a0 OpA)(g5:Option Addr)(b2 g6:C)(N:C)(w:World)(hl:Tr w R a m3 ds)(hn:ds.length<=250)(h0:b2<=1000)(hE:Env w)(o8:TrT w a ds)(hC:CtO w ds ct)(hK:SetOk M ds ct)
  (j0:w.heap[O]?=E (s #[B a ds.length m3,B g5 b2 g6] 102)) (a2:w.ownsRow rb 38 14 (B g5 b2 g6) b2 (opF I)) (o9:b2=I.length) (hQ:QMap w mb (wantG M) N) (D3:O≠mb) (v1:R<=(w:C)) (v2:rb<=(w:C)) (J7:9<=rb) (J8:8<O):
  ah ag 32 #[ar (E ⟨O,0,Q⟩),.map (E mb)] w λe w'=>e=.returned (.tuple #[])/\SetI O rb R w M ds ct I (λb=>b=O\/(t g5 b2 g6).ownBlock=E b) ds.length w':=by
 obtain⟨i0,D4,p0,D5,D6⟩:=info_parts infoOp;obtain⟨S,hS⟩:∃ S:C->Prop,S=λb=>b=O\/(t g5 b2 g6).ownBlock=E b:=⟨_,rfl⟩
 rw[<-hS];have t0:w.cell? ⟨O,0,Q⟩=E (B a ds.length m3):=zB j0 0;have J9:=hl.dv.lenmax;have HN:=zg3 hn h0 o9;have D7:=zh hK;have v3:=zh o8;have v4:=zh hC;have v7:=zg2 v1 v2;have Y:=zg2 a2 hS;have HA:=zg4 hl hE j0 hQ;have v9:H (SetI O rb R w M ds ct I S 0 w):=⟨⟨a,m3,ds,g5,b2,g6,o9,j0,hl,rfl,a2,o8,hC,λb F=>.inl (by rw[hS];exact .inr F)⟩,ab _ _⟩
 have L0:=zC j0;clear hl hn hE j0 hQ hK o8 hC a2 o9 h0 v1 v2 hS
 go_enter Tryz.func32,Tryz.ntmps32
 go_wp2_with fail
 clear t0
 go_loopw [17] (λx wr=>∃ (j:C),j<=ds.length/\x=K L (j:Int)/\H (SetI O rb R w M ds ct I S j wr)) (λx _=>ds.length-(intOf x).toNat)
 case atStart=>exact⟨0,by omega,rfl,v9⟩
 case round=>
  obtain⟨j,hj,rfl,g7⟩:=hrel;by_cases D8:j<ds.length
  .have w0:(j:Int)<ds.length:=by omega
   have hf:=g7.out.fr;have p2:∀ b,TrF a ds b->¬ S b:=λb F h=>by
    rw[Y.out.2]at h;exact h.elim (v3.out.ne F HA.out.2.2.1 (by decide) (by decide)) (v3.out.ne_own F Y.out.1)
   have d2:=HA.out.1.foot hf p2;obtain⟨bb,L1,d,F0,hd,c0,c1,c2,c3,c4,c5,c6,c7,c8,c9⟩:=d2.dv.dev D8;have a4:=aq hd;obtain⟨W1,p3,a5,d1⟩:=zy wr (s d.vals 36);have L2:=hf.size;have D1:=zh d1;have w1:H ((wr:C)<(W1:C)):=zC d1;have w2:∀ b,b<(w:C)->S b->b=O\/(t g5 b2 g6).ownBlock=E b:=λb _ h=>by rw[Y.out.2]at h;exact h
   have w3:∀ b,b<9->¬ S b:=λb F h=>by
    have h9:=HA.out.2.1.sz;rcases w2 b (by omega) h with h|h
    .omega
    .have:=(zAD Y.out.1 h).1;omega
   have w4:¬ S mb:=λh=>by
    rw[Y.out.2]at h;exact h.elim (λh=>D3 h.symm) (HA.out.2.2.2.ne_own Y.out.1)
   obtain⟨a1,k1,cs,ao,no,co,h0,w9,x1,b3,a2,j4,x2,x4⟩:=g7.out.st;have p4:=zh x4;have x5:=HA.out.2.1.fr hf w3;have p5:=HA.out.2.2.2.fr hf w4;have p8:Atts wr d.aa d.ac (cAtt (ct d.index))/\d.an=(cAtt (ct d.index)).length:=⟨(v4.out d a4).1.fr hf (λad e _=>p2 _ (.inr ⟨d,a4,ad,e,rfl⟩)),(v4.out d a4).2⟩
   have x6:cs.length=ds.length:=by have:=congrArg av b3;simpa using this
   have j5:=D7.out d a4;have L3:no<=1250:=by have:=zHk M ds ct I j;have:=HN.out;omega
   have j6:=zh (a5.heap w9 id);have a6:=zh (x1.no a5);have p9:=zh (x5.no a5);have x7:H (∀ W,Fr No W1 W->QMap W mb (wantG M) N):=λW hW=>(p5.fr a5 id).fr hW id
   have r0:H (mb<(W1:C)/\O<(W1:C)):=⟨(p5.fr a5 id).lt,zC j6.out⟩
   have m4:=zg2 (p8.1.no a5 (λ_=>id)) p8.2;have A:=zh (ae h0 (ae b3 (ae (zG a2 a5 (λ_ _=>id)) (ae (j4.fr a5 (λ_ _=>id)) (ae (x2.no a5) (ae x6 (ae j5 (ae hd (g7.out.fr.step a5 zn)))))))));have j7:H ((∀ b,TrF a1 cs b->b<(wr:C))/\∀ b,(t ao no co).ownBlock=E b->b<(wr:C)):=⟨λb F=>j4.lt F,λb F=>(zAD a2 F).2⟩
   obtain⟨P,hP⟩:∃ P,P=plc ds d.parent:=⟨_,rfl⟩
   obtain⟨xo,m5⟩:∃ xo,xo=d.orig:=⟨_,rfl⟩
   obtain⟨VB,r1⟩:∃ VB,VB=virB ds d.index:=⟨_,rfl⟩
   obtain⟨PO,x9⟩:∃ PO,PO=plc ds d.index:=⟨_,rfl⟩
   obtain⟨tx,r2⟩:∃ tx,tx=ct d.index:=⟨_,rfl⟩
   have r3:H (∀ W,Fr No W1 W->ah ag 70 #[p #[B a1 cs.length k1],p d.vals] W λe w'=>e=.returned (p #[G P,G xo])/\Fr No W w'):=λW hW=>by
    have hT:=a6.out.no hW;have e1:P=plc cs d.parent:=by rw[hP,<-zAJ,<-b3,zAJ]
    rw[e1,m5];exact zHX a1 k1 cs d W hT.dv hT.wf.ok (by have:=HN.out;omega) (d2.wf.ok.pwf a4)
   have m6:H (P.size<=ak/\xo.size<=ak):=by
    rw[hP,m5];have h1:=zBg d2.wf.ok HN.out.1 d.parent;have h2:=d2.wf.ok.sz d a4;refine⟨?_,?_⟩<;>unfold ak<;>omega
   have F1:H (∀ W,Fr No W1 W->ah ag 64 #[p #[B a1 cs.length k1],K L d.index] W λe w'=>e=.returned (.bool VB)/\Fr No W w'):=λW hW=>by
    have e1:VB=virB cs d.index:=by rw[r1,<-zAn,<-b3,zAn]
    rw[e1];exact zER a1 k1 cs R d.index W (a6.out.no hW) (p9.out.no hW).err
   have y2:H (∀ W,Fr No W1 W->ah ag 72 #[p d.vals] W λe w'=>e=.returned (G tx)/\Fr No W w'):=λW hW=>by
    have:=zLM d (cAtt (ct d.index)) W (m4.out.1.no hW (λ_=>id)) m4.out.2;rw[show getP (cAtt (ct d.index)) zAK=tx from by rw[r2];exact zD8 _]at this;exact this
   obtain⟨y,hy,y3⟩:=zNA M (P,xo);have HY:=zg7 hy y3 hP m5 r1 x9 r2;unfold Dev.vals at p3 r3 y2;clear x6 hd d1 hf a5 p2 d2 w2 w3 w4 h0 w9 x1 b3 a2 j4 x2 x4 x5 p5 p8 j5 a4 hP m5 r1 x9 r2 hy y3;subst F0
   go_upto_region 3 with(fail)
   rw[<-p3];clear p3 c0 c1 c2 c3 c4 c5 c6 c7 c8 c9
   go_cut [6] (λp6 wx=>∃ a7,p6=ar (E ⟨a7,0,Q⟩)/\H (wx.heap[a7]?=E (s #[G y.q,G y.o,G y.c,K L y.r] 97)/\(W1:C)<=a7)/\H (Fr No W1 wx))
   case first=>
    refine zZ (From (W1:C)) (.q 0 (.q 1 (.q 2 (.q 3 (.q 4 (.q 5 (.m2 6 (.q 7 (.m1 8 (.m1 9 .fin))) 8 (.m1 6 (.q 7 (.m1 9 .fin)))))))))) _ (by kernel_rfl) (by kernel_rfl) (λW3 m7=>?_) zj;have d3:=m7.heap D1.out id;have x3:=m7.heap j6.out id;have J:∀ g:Gr (From (W1:C)) W3,DevB g.W (wr:C) d:=λg=>DevB.of (g.fr.heap d3 (by unfold From;have:=w1.out;omega))
    have e0:=λg=>(J g).c0
    have e1:=λg=>(J g).c1
    have e2:=λg=>(J g).c2
    have e3:=λg=>(J g).c3
    have e4:=λg=>(J g).c4
    have e5:=λg=>(J g).c5
    have e6:=λg=>(J g).c6
    have e7:=λg=>(J g).c7
    have e8:=λg=>(J g).c8
    have e9:=λg=>(J g).c9
    have x0:∀ g:Gr (From (W1:C)) W3,g.W.cell? ⟨O,0,Q⟩=E (B a1 cs.length k1):=λg=>zB (g.fr.heap x3 (by unfold From;have:=r0.out;omega)) 0
    have m8:=zh m7;clear J d3 x3 m7
    repeat((first|apply zL rfl rfl rfl|apply zJ rfl rfl rfl);intro d4 hK;go_big_quiet_op;go_big_quiet_on)
    clear e0 e1 e2 e3 e4 e5 e6 e7 e8 e9 x0;refine zAA rfl rfl ?_ ?_
    focus
     go_wp2_with fail
     refine(r3.out W3 m8.out).mono ?_;rintro e Wc ⟨rfl,b8⟩
     go_wp2_with fail
     refine zm b8 ?_;have g8:=zh (m8.out.step b8 zi);have j8:∀ W,(∃ g:Gr (From (W1:C)) Wc,W=g.W)->(au 82 (.map (E mb)) (p #[G P,G xo]) f).run ag W=.ok (p #[G y.q,G y.o,G y.c,K L y.r]) W:=λW hW=>by
      obtain⟨g,rfl⟩:=hW;have:=((x7.out _ g8.out).fr g.fr (by unfold From;have:=r0.out;omega)).look (zDU g.W) aw m6.out.1 m6.out.2;rw[this,HY.out.1]
     apply zL rfl rfl rfl;intro d4 hK;refine zBv rfl _ _ 82 rfl (.map (E mb)) (p #[G P,G xo]) _ rfl rfl j8 ?_
     go_frame
     go_big_quiet_on;clear j8;clear b8;apply zH;exact rfl;obtain⟨Wa,j9,k0,qa⟩:=zy Wc (s #[G ⟨#[]⟩,G ⟨#[]⟩,G ⟨#[]⟩,K L 0] 97)
     go_wp2_with fail
     refine zp ?_;rw[<-j9];clear j9;have l0:H (Fr No W1 Wa):=g8.out.step k0 zi;have a8:H ((W1:C)<=(Wc:C)):=g8.out.size;have qz:=qa;clear k0 qa;obtain⟨a7,hB⟩:∃ a7,a7=(Wc:C):=⟨_,rfl⟩
     rw[<-hB]at qz a8 ⊢;clear hB;obtain⟨z0,z1,z2,z3⟩:=cl4 qz;obtain⟨f0,f1,f2,f3⟩:=fl4 qz;have h4:=zh (set4 qz rfl (G y.q) (G y.o) (G y.c) (K L y.r));clear qz;apply zH;exact rfl
     go_wp2_with fail
     refine ai ⟨h4.out.2.mono (λb _ h=>by unfold Is at h;unfold From;have:=a8.out;omega),?_⟩;refine zV ?_;obtain⟨w5,d5⟩:∃ w5,w5=((((Wa.setCell ⟨a7,0,Q⟩ (G y.q)).setCell ⟨a7,1,Q⟩ (G y.o)).setCell ⟨a7,2,Q⟩ (G y.c)).setCell ⟨a7,3,Q⟩ (K L y.r)):=⟨_,rfl⟩
     rw[<-d5];have b4:=h4.out;rw[<-d5]at b4;have d6:H (Fr No W1 w5):=l0.out.step b4.2 (λb F h=>by unfold Is at h;have:=a8.out;omega);have y4:=zh b4.1;have y5:=a8;clear d5 h4 b4 z0 z1 z2 z3 f0 f1 f2 f3 l0 a8
    rotate_left 1
    focus
     obtain⟨Wa,j9,k0,qa⟩:=zy W3 (s #[G ⟨#[]⟩,G ⟨#[]⟩,G ⟨#[]⟩,K L 0] 97)
     go_wp2_with fail
     refine zp ?_;rw[<-j9];clear j9;have l4:=zh (m8.out.step k0 zi);clear k0;apply zH;exact rfl
     go_wp2_with fail
     refine(r3.out Wa l4.out).mono ?_;rintro e Wc ⟨rfl,b8⟩
     go_wp2_with fail
     refine zm b8 ?_;have qb:=b8.heap qa id;clear qa;have g8:=zh (l4.out.step b8 zi);have j8:∀ W,(∃ g:Gr (From (W1:C)) Wc,W=g.W)->(au 82 (.map (E mb)) (p #[G P,G xo]) f).run ag W=.ok (p #[G y.q,G y.o,G y.c,K L y.r]) W:=λW hW=>by
      obtain⟨g,rfl⟩:=hW;have:=((x7.out _ g8.out).fr g.fr (by unfold From;have:=r0.out;omega)).look (zDU g.W) aw m6.out.1 m6.out.2;rw[this,HY.out.1]
     apply zL rfl rfl rfl;intro d4 hK;refine zBv rfl _ _ 82 rfl (.map (E mb)) (p #[G P,G xo]) _ rfl rfl j8 ?_
     go_frame
     go_big_quiet_on;clear j8;clear b8;have l0:H (Fr No W1 Wc):=g8.out;have a8:H ((W1:C)<=(W3:C)):=m8.out.size;have qz:=qb;clear qb;obtain⟨a7,hB⟩:∃ a7,a7=(W3:C):=⟨_,rfl⟩
     rw[<-hB]at qz a8 ⊢;clear hB;obtain⟨z0,z1,z2,z3⟩:=cl4 qz;obtain⟨f0,f1,f2,f3⟩:=fl4 qz;have h4:=zh (set4 qz rfl (G y.q) (G y.o) (G y.c) (K L y.r));clear qz;apply zH;exact rfl
     go_wp2_with fail
     refine ai ⟨h4.out.2.mono (λb _ h=>by unfold Is at h;unfold From;have:=a8.out;omega),?_⟩;refine zV ?_;obtain⟨w5,d5⟩:∃ w5,w5=((((Wc.setCell ⟨a7,0,Q⟩ (G y.q)).setCell ⟨a7,1,Q⟩ (G y.o)).setCell ⟨a7,2,Q⟩ (G y.c)).setCell ⟨a7,3,Q⟩ (K L y.r)):=⟨_,rfl⟩
     rw[<-d5];have b4:=h4.out;rw[<-d5]at b4;have d6:H (Fr No W1 w5):=l0.out.step b4.2 (λb F h=>by unfold Is at h;have:=a8.out;omega);have y4:=zh b4.1;have y5:=a8;clear d5 h4 b4 z0 z1 z2 z3 f0 f1 f2 f3 l0 a8
    all_goals (
     go_wp2_with fail
     go_meet
     exact⟨a7,rfl,⟨y4.out,y5.out⟩,d6⟩
     )
   case rest=>
    obtain⟨a7,rfl,HB,d6⟩:=hcut;obtain⟨W5,rfl⟩:∃ W5,W5=wc:=⟨_,rfl⟩
    go_upto_region 4 with(fail)
    go_cut [43] (λv wx=>v=.bool (!VB||(tx.toList==y.c.toList))/\H (Fr No W5 wx))
    case first=>
     refine zQ No [(0,f),(1,f),(2,f),(3,f),(4,f),(5,f),(6,true),(7,f),(8,f),(9,f),(11,f),(12,f),(10,true),(13,f),(14,f)] (by kernel_rfl) (by kernel_rfl) (λw6 l5=>?_);have d3:=l5.heap (d6.out.heap D1.out id) id;have x3:=l5.heap (d6.out.heap j6.out id) id;have e0:∀ g:Gr No w6,g.W.cell? ⟨wr,0,Q⟩=E (K L d.index):=λg=>zB (g.fr.heap d3 id) 0
     have x0:∀ g:Gr No w6,g.W.cell? ⟨O,0,Q⟩=E (B a1 cs.length k1):=λg=>zB (g.fr.heap x3 id) 0
     have y6:=zh (d6.out.step l5 zi);have F2:=zh l5;clear d3 x3 l5
     repeat((first|apply zT rfl rfl rfl|apply zU rfl rfl rfl);intro d4 hK;go_big_quiet_op;go_big_quiet_on)
     clear e0 x0;apply zt;exact rfl
     go_wp2_with fail
     refine(F1.out w6 y6.out).mono ?_;rintro e w7 ⟨rfl,b5⟩;have y7:=zh (y6.out.step b5 zi);have r4:=zh (F2.out.step b5 zi)
     go_wp2_with fail
     refine zm b5 ?_;clear b5;cases VB
     .repeat((first|apply zT rfl rfl rfl|apply zU rfl rfl rfl);intro d4 hK;go_big_quiet_op;go_big_quiet_on)
      apply zt;exact rfl
      go_wp2_with fail
      refine zq ?_
      repeat((first|apply zT rfl rfl rfl|apply zU rfl rfl rfl);intro d4 hK;go_big_quiet_op;go_big_quiet_on)
      refine zb ?_
      go_wp2_with fail
      go_meet
      exact⟨rfl,r4⟩
     .have b7:=r4.out.heap HB.out.1 id;have d7:=y7.out.heap D1.out id;have z2:∀ g:Gr No w7,g.W.cell? ⟨a7,2,Q⟩=E (G y.c):=λg=>zB (g.fr.heap b7 id) 2
      have J:∀ g:Gr No w7,DevB g.W (wr:C) d:=λg=>DevB.of (g.fr.heap d7 id)
      have e0:=λg=>(J g).c0
      have e1:=λg=>(J g).c1
      have e2:=λg=>(J g).c2
      have e3:=λg=>(J g).c3
      have e4:=λg=>(J g).c4
      have e5:=λg=>(J g).c5
      have e6:=λg=>(J g).c6
      have e7:=λg=>(J g).c7
      have e8:=λg=>(J g).c8
      have e9:=λg=>(J g).c9
      clear J
      repeat((first|apply zT rfl rfl rfl|apply zU rfl rfl rfl);intro d4 hK;go_big_quiet_op;go_big_quiet_on)
      clear z2 e0 e1 e2 e3 e4 e5 e6 e7 e8 e9;apply zt;exact rfl
      go_wp2_with fail
      refine(y2.out w7 y7.out).mono ?_;rintro e w8 ⟨rfl,r7⟩;have F3:=zh (r4.out.step r7 zi)
      go_wp2_with fail
      refine zm r7 ?_;clear r7
      repeat((first|apply zT rfl rfl rfl|apply zU rfl rfl rfl);intro d4 hK;go_big_quiet_op;go_big_quiet_on)
      refine zb ?_
      go_wp2_with fail
      go_meet
      exact⟨by simp,F3⟩
    case rest=>
     obtain⟨rfl,y8⟩:=hcut;obtain⟨W6,rfl⟩:∃ W6,W6=wc:=⟨_,rfl⟩
     have HX:=zh (d6.out.step y8.out zi);have o3:H (setF M ds ct I (j+1)=if (VB&&!(tx.toList==y.c.toList))=true then (updC (setF M ds ct I j).1 d.index y.c,(setF M ds ct I j).2++[⟨3,PO,ZD,zM,y.c,⟨#[]⟩⟩])else setF M ds ct I j):=by
      unfold H;rw[zDj A.out.2.2.2.2.2.2.2.1];unfold zAR;obtain⟨_,h1,h2,h3,h4,h5,h6⟩:=HY.out;rw[h1,h2,h3,h4,h5,h6]
     rcases hc:(!VB||(tx.toList==y.c.toList))with _|_
     .have m9:VB=true/\(tx.toList==y.c.toList)=false:=by
       revert hc;cases VB<;>cases(tx.toList==y.c.toList)<;>simp
      have d8:H (setF M ds ct I (j+1)=(updC (setF M ds ct I j).1 d.index y.c,(setF M ds ct I j).2++[⟨3,PO,ZD,zM,y.c,⟨#[]⟩⟩])):=by
       unfold H;rw[o3.out,if_pos (by rw[m9.1,m9.2];rfl)]
      have j5:Sound d (cAtt y.c)/\y.c.size<=100000:=by
       obtain⟨_,h1,h2,h3,h4,h5,h6⟩:=HY.out;rw[h1,h2,h3];exact(A.out.2.2.2.2.2.2.1.2.2) (by rw[<-h4];exact m9.1)
      have d9:=zh j5;have F4:H (Atts W6 d.aa d.ac (cAtt tx)):=by
       have h:=m4.out.1.no HX.out (λ_=>id);rw[<-HY.out.2.2.2.2.2.2]at h;exact h
      have F5:H (d.an=(cAtt tx).length):=by rw[HY.out.2.2.2.2.2.2];exact m4.out.2
      have r5:=HX.out.heap D1.out id;have r6:=y8.out.heap HB.out.1 id;clear m9 j5;have c9:W6.cell? ⟨wr,9,Q⟩=E (B d.aa d.an d.ac):=zB r5 9;have z2:W6.cell? ⟨a7,2,Q⟩=E (G y.c):=zB r6 2;have l6:=zN5 d.aa d.ac tx y.c W6 F4.out (by have:=d9.out.2;unfold ak;omega);obtain⟨n,n2⟩:∃ n,n=(cAtt tx).length:=⟨_,rfl⟩
      rw[F5.out,<-n2]at c9;rw[<-n2]at l6;have L4:=zh n2;clear n2
      go_wp2_with fail
      refine l6.mono ?_;rintro e w7 ⟨⟨a3,c3,rfl,z4,F6,o4⟩,b5⟩;have u5:=b5.heap r5 id;have u6:=b5.heap r6 id;have s6:=HX.out.size;have L5:=w1.out;obtain⟨x,hx⟩:∃ x:Dev,x={ d with aa:=a3,an:=(cAtt y.c).length,ac:=c3 }:=⟨_,rfl⟩
      have y9:=zD u5 9;have z9:w7.cell? ⟨wr,9,Q⟩=E (B d.aa d.an d.ac):=zB u5 9;obtain⟨V,n4⟩:∃ V,V=w7.setCell ⟨wr,9,Q⟩ (B a3 (cAtt y.c).length c3):=⟨_,rfl⟩
      have f8:Fr (Is (wr:C)) w7 V:=by rw[n4];exact aj (ab _ _) _
      have v5:V.heap[(wr:C)]?=E (s x.vals 36):=by rw[n4,hx];exact zE u5 9 _
      have L6:(wr:C)<a7:=by have:=HB.out.2;omega
      have v6:=f8.heap u6 (λh=>by omega);have z5:=z4.fr f8 (λad e _ h=>by have:=o4 ad e;omega);have b6:=zh ((HX.out.step b5 zi).mono (T:=Is (wr:C)) zn |>.step f8 zi);have a9:=zg2 hx z5;have n5:=zg2 v5 v6;clear hx z5 z4 F6 o4 u5 u6 f8 l6 c9 z2 r5 r6 b5 v5 v6
      go_upto_region 6 with(fail)
      rw[<-n4];clear n4 y9 z9;have d2:=a6.out;obtain⟨dn,g9,r8⟩:∃ dn,cs[j]?=E dn/\strip dn=strip d:=by
       have h:(cs.map strip)[j]?=E (strip d):=by rw[A.out.2.1,ap,A.out.2.2.2.2.2.2.2.1];rfl
       rw[ap]at h;cases hh:cs[j]? with
       | none=>rw[hh]at h;cases h
       | some z=>rw[hh]at h;exact⟨z,rfl,Option.some.inj h⟩
      have z6:O≠(wr:C):=by omega
      have z7:H (Tr V R a1 k1 cs):=a6.out.foot b6.out (λb F h=>by have:=j7.out.1 b F;omega);have r9:=zh (b6.out.heap j6.out (λh=>z6 h));have D:x.index=dn.index/\x.parent=dn.parent/\x.name=dn.name/\x.orig=dn.orig/\x.sub=dn.sub/\x.drv=dn.drv/\x.ali=dn.ali/\x.kind=dn.kind/\x.num=dn.num:=by
       rw[a9.out.1];have h:=r8;obtain⟨i1,i2,i3,i4,i5,i6,i7,i8,i9,j1,j2,j3⟩:=dn;obtain⟨k1,k2,k3,k4,k5,k6,k7,k8,k9,l1,l2,l3⟩:=d;unfold strip at h;dsimp only at h;injection h with h1 h2 h3 h4 h5 h6 h7 h8 h9
       exact⟨h1.symm,h2.symm,h3.symm,h4.symm,h5.symm,h6.symm,h7.symm,h8.symm,h9.symm⟩
      have z8:=aq g9;have Z:=a6.out.el dn z8;have b3:strip x=strip d:=by rw[a9.out.1];rfl
      have A0:∀ b,b<(wr:C)->¬ Is (wr:C) b:=λb F h=>by omega
      have n8:CtO V (cs.set j x) (updC (setF M ds ct I j).1 dn.index y.c):=CtO.set (AttOf.fr A.out.2.2.2.2.1 b6.out (λz hz ad e=>A0 _ (j7.out.1 _ (.inr ⟨z,hz,ad,e,rfl⟩)))) a6.out.wf.ok g9 D.1 (by rw[a9.out.1];exact a9.out.2) (by rw[a9.out.1]);obtain⟨m,hm⟩:=p9.out.len;have J3:=p9.out.sz;have A1:=b6.out.cell hm (A0 _ (by have:=HA.out.2.1.sz;have:=g7.out.fr.size;show 0<(wr:C);omega));have s0:H (∀ W,Fr No V W->ah ag 74 #[p #[B a1 cs.length k1],p x.vals] W λe w'=>(∃ U X u,e=.returned (.tuple #[p #[B U (u:a0 Dev).length X],K L 0])/\TMk W w' (cs.set j x) U X u)/\Fr No W w'):=λW hf=>by
       have F7:Sound x (cAtt y.c):=by rw[a9.out.1];exact⟨d9.out.1.rng,d9.out.1.named,d9.out.1.same,d9.out.1.num,d9.out.1.attrs,d9.out.1.link⟩
       have A2:cs.any (clP x)=false:=by rw[<-A.out.2.2.2.2.2.2.1.2.1,<-zC8,A.out.2.1,b3,zC8]
       exact(zHe a1 k1 R cs j dn x (cAtt y.c) m W (z7.out.no hf) (by have:=A.out.2.2.2.2.2.1;have:=HN.out.1;omega) g9 (by rw[D.1];exact zKj a6.out.wf.ok g9) ⟨D.2.1,D.2.2.2.1,D.2.2.2.2.2.2.2.1⟩ ⟨by rw[D.2.2.1];exact Z.sz.name,by rw[D.2.2.2.1];exact Z.sz.orig,by rw[D.2.2.2.2.1];exact Z.sz.sub,by rw[D.2.2.2.2.2.1];exact Z.sz.drv,by rw[D.2.2.2.2.2.2.1];exact Z.sz.ali⟩ (by rw[a9.out.1];exact a9.out.2.no hf (λ_=>id)) (zCl y.c) (by rw[a9.out.1]) (by rw[a9.out.1];exact A.out.2.2.2.2.2.2.1.1) (by rw[D.2.2.2.2.2.1];exact Z.drv) F7 A2 (hf.cell A1 id) (by have:=hf.size;have:=b6.out.size;show 0<_;omega)).mono λe w' h=>⟨h.1.tmk,h.2⟩
      have A3:H (∀ z∈cs.set j x,∃ l,Atts V z.aa z.ac l/\z.an=l.length):=λz hz=>⟨_,(n8 z hz).1,(n8 z hz).2⟩
      have F8:=zh n8;have g0:=zg4 g9 r8 D b3;have F9:H (∀ z∈cs.set j x,Sized z/\z.drv=⟨#[]⟩):=λz hz=>by
       rcases List.mem_or_eq_of_mem_set hz with h|rfl
       .exact⟨(a6.out.el z h).sz,(a6.out.el z h).drv⟩
       .exact⟨⟨by rw[D.2.2.1];exact Z.sz.name,by rw[D.2.2.2.1];exact Z.sz.orig,by rw[D.2.2.2.2.1];exact Z.sz.sub,by rw[D.2.2.2.2.2.1];exact Z.sz.drv,by rw[D.2.2.2.2.2.2.1];exact Z.sz.ali⟩,by rw[D.2.2.2.2.2.1];exact Z.drv⟩
      unfold Dev.vals at s0;have J4:=zC r9.out;have I0:=zC n5.out.1;clear z8 Z b3 n8 hm A1 g9 r8 D d2
      go_cut [7,8] (λp7 v8 wx=>∃ B' U X u,p7=ar (E ⟨B',0,Q⟩)/\v8=K L 0/\H (wx.heap[B']?=E (s #[B U (av u) X] 47)/\TMk V wx (cs.set j x) U X u/\(V:C)<=B')/\Fr No V wx)
      case first=>
       refine zZ (λb=>(V:C)<=b) (.q 0 (.q 1 (.q 2 (.q 3 (.q 4 (.m2 5 (.q 6 (.q 7 (.q 8 (.m1 9 (.m1 10 (.q 11 .fin)))))) 9 (.m1 5 (.q 6 (.q 7 (.q 8 (.m1 10 (.q 11 .fin)))))))))))) _ (by kernel_rfl) (by kernel_rfl) (λWB l7=>?_) zj;have b1:=l7.heap n5.out.1 id;have p1:=l7.heap r9.out id;have I1:=l7.size;have t0:∀ g:Gr (λb=>(V:C)<=b) WB,g.W.cell? ⟨O,0,Q⟩=E (B a1 cs.length k1):=λg=>zB (g.fr.heap p1 (λh=>by omega)) 0
       have J:∀ g:Gr (λb=>(V:C)<=b) WB,DevB g.W (wr:C) x:=λg=>DevB.of (g.fr.heap b1 (λh=>by omega))
       have e0:=λg=>(J g).c0
       have e1:=λg=>(J g).c1
       have e2:=λg=>(J g).c2
       have e3:=λg=>(J g).c3
       have e4:=λg=>(J g).c4
       have e5:=λg=>(J g).c5
       have e6:=λg=>(J g).c6
       have e7:=λg=>(J g).c7
       have e8:=λg=>(J g).c8
       have e9:=λg=>(J g).c9
       have xB:=zh l7;clear J b1 p1 l7
       repeat((first|apply zL rfl rfl rfl|apply zJ rfl rfl rfl);intro d4 hK;go_big_quiet_op;go_big_quiet_on)
       clear t0 e0 e1 e2 e3 e4 e5 e6 e7 e8 e9;refine zAA rfl rfl ?_ ?_
       focus
        have b0:=s0.out WB xB.out
        go_wp2_with fail
        refine b0.mono ?_;rintro e wD ⟨⟨U,X,u,rfl,hT⟩,n9⟩;have sD:=n9.size;have XD:H (Fr No V wD):=xB.out.step n9 zi;have HT:=zh (hT.src xB.out A3.out);clear b0 hT
        go_wp2_with fail
        refine zm n9 ?_
        repeat((first|apply zL rfl rfl rfl|apply zJ rfl rfl rfl);intro d4 hK;go_big_quiet_op;go_big_quiet_on)
        apply zH;exact rfl;obtain⟨WC,l8,fC,qC⟩:=zy wD (s #[B Q 0 0] 47)
        go_wp2_with fail
        refine zp ?_;rw[<-l8];clear l8;have HF:H (Fr No V WC/\TMk V WC (cs.set j x) U X u/\(V:C)<=(wD:C)):=⟨XD.out.step fC zi,HT.out.no fC,by omega⟩
        clear fC n9;generalize (wD:C)=B' at *;apply zH;exact rfl;have y0:=zD qC 0;have z0:WC.cell? ⟨B',0,Q⟩=E (B Q 0 0):=zB qC 0;have fB:Fr (Is B') WC (WC.setCell ⟨B',0,Q⟩ (B U u.length X)):=aj (ab _ _) _;have HR:H ((WC.setCell ⟨B',0,Q⟩ (B U u.length X)).heap[B']?=E (s #[B U u.length X] 47)/\TMk V (WC.setCell ⟨B',0,Q⟩ (B U u.length X)) (cs.set j x) U X u/\(V:C)<=B'):=⟨zE qC 0 _,HF.out.2.1.put fB qC (by decide) (by decide),HF.out.2.2⟩
        have HX:H (Fr No V (WC.setCell ⟨B',0,Q⟩ (B U u.length X))):=HF.out.1.step fB (λb F h=>by have:=HF.out.2.2;omega)
       rotate_left 1
       focus
        obtain⟨WC,l8,fC,qB⟩:=zy WB (s #[B Q 0 0] 47)
        go_wp2_with fail
        refine zp ?_;rw[<-l8];clear l8;have xC:=zh (xB.out.step fC zi);have b0:=s0.out WC xC.out;apply zH;exact rfl
        go_wp2_with fail
        refine b0.mono ?_;rintro e wE ⟨⟨U,X,u,rfl,hT⟩,o0⟩;have qC:=o0.heap qB id;have HF:H (Fr No V wE/\TMk V wE (cs.set j x) U X u/\(V:C)<=(WB:C)):=⟨xC.out.step o0 zi,hT.src xC.out A3.out,I1⟩
        clear b0 hT qB fC
        go_wp2_with fail
        refine zm o0 ?_;clear o0
        repeat((first|apply zL rfl rfl rfl|apply zJ rfl rfl rfl);intro d4 hK;go_big_quiet_op;go_big_quiet_on)
        generalize (WB:C)=B' at *;apply zH;exact rfl;have y0:=zD qC 0;have z0:wE.cell? ⟨B',0,Q⟩=E (B Q 0 0):=zB qC 0;have fB:Fr (Is B') wE (wE.setCell ⟨B',0,Q⟩ (B U u.length X)):=aj (ab _ _) _;have HR:H ((wE.setCell ⟨B',0,Q⟩ (B U u.length X)).heap[B']?=E (s #[B U u.length X] 47)/\TMk V (wE.setCell ⟨B',0,Q⟩ (B U u.length X)) (cs.set j x) U X u/\(V:C)<=B'):=⟨zE qC 0 _,HF.out.2.1.put fB qC (by decide) (by decide),HF.out.2.2⟩
        have HX:H (Fr No V (wE.setCell ⟨B',0,Q⟩ (B U u.length X))):=HF.out.1.step fB (λb F h=>by have:=HF.out.2.2;omega)
       all_goals (
        have HB:H ((V:C)<=B'):=HF.out.2.2;clear fB qC
        go_wp2_with fail
        refine ai ⟨Fr.setCell (ab _ _) (λ_=>HB.out) _,?_⟩
        repeat((first|apply zL rfl rfl rfl|apply zJ rfl rfl rfl);intro d4 hK;go_big_quiet_op;go_big_quiet_on)
        refine zV ?_
        go_wp2_with fail
        go_meet
        exact⟨B',U,X,u,rfl,rfl,HR,HX.out⟩
        )
      case rest=>
       obtain⟨B',U,X,u,rfl,rfl,s1,l9⟩:=hcut;obtain⟨W9,rfl⟩:∃ W9,W9=wc:=⟨_,rfl⟩
       have s2:=zh (l9.heap r9.out id);have D9:=l9.heap n5.out.1 id;have B9:=l9.heap n5.out.2 id;have I2:x.index=d.index:=by rw[a9.out.1]
       have I3:=zh D9;have I4:=zh B9;have m0:=zh l9;have I5:H (∀ W,Fr No W9 W->ah ag 62 #[p #[B a1 cs.length k1],K L d.index] W λe w'=>e=.returned (.tuple #[G PO,.bool true])/\Fr No W w'):=λW hW=>by
        have hT:=(z7.out.no m0.out).no hW;have e0:dn.index=d.index:=by have h:=congrArg am g0.out.2.1;exact h
        have:=zAu a1 k1 cs d.index W hT.dv hT.wf.ok (by have:=A.out.2.2.2.2.2.1;have:=HN.out.1;omega) (by rw[<-e0];exact hT.wf.ok.iwf (aq g0.out.1));have e1:(((look cs d.index).map λ_=>pathOf (origin cs d.index)).getD ⟨#[]⟩)=PO:=by
         have h:=HY.out.2.2.2.2.2.1;rw[h];show plc cs d.index=_
         rw[<-zAJ,A.out.2.1,zAJ]
        have e2:(look cs d.index).isSome=true:=by rw[<-e0,zu hT.wf.ok.nd (aq g0.out.1)];rfl
        rw[e1,e2]at this;exact this
       have L7:=b6.out.size;clear D9 B9 l9
       go_upto_region 8 with(fail)
       refine zQ No [(0,f),(1,f),(2,f),(3,f),(4,f),(5,f),(6,true),(7,f),(8,f),(9,f),(10,f),(11,f)] (by kernel_rfl) (by kernel_rfl) (λwa o1=>?_);have A4:=o1.heap s2.out id;have da:=o1.heap I3.out id;have x0:∀ g:Gr No wa,g.W.cell? ⟨O,0,Q⟩=E (B a1 cs.length k1):=λg=>zB (g.fr.heap A4 id) 0
       have e0:∀ g:Gr No wa,g.W.cell? ⟨wr,0,Q⟩=E (K L d.index):=λg=>by rw[<-I2];exact zB (g.fr.heap da id) 0
       have l4:=zh o1;clear A4 da o1
       repeat((first|apply zT rfl rfl rfl|apply zU rfl rfl rfl);intro d4 hK;go_big_quiet_op;go_big_quiet_on)
       clear e0 x0;apply zt;exact rfl
       go_wp2_with fail
       refine(I5.out wa l4.out).mono ?_;rintro e wb ⟨rfl,s4⟩;have s5:=zh (l4.out.step s4 zi)
       go_wp2_with fail
       refine zm s4 ?_;clear s4
       repeat((first|apply zT rfl rfl rfl|apply zU rfl rfl rfl);intro d4 hK;go_big_quiet_op;go_big_quiet_on)
       refine zb ?_;have I6:=zh (zG A.out.2.2.1 ((b6.out.step m0.out zn).step s5.out zn) (λb F h=>by have:=j7.out.2 b F;omega));have I7:=zh v7.out.2;have L8:=g7.out.fr.size;have s9:=m0.out.size;have sb:=s5.out.size
       go_upto_region 9 with(fail)
       refine zHq 13 (λb=>(t ao no co).ownBlock=E b) (.q 0 (.q 1 (.q 2 (.q 3 (.q 4 (.q 5 (.q 6 (.q 7 (.q 8 (.m1 9 (.m1 10 (.m1 11 (.q 12 (.m1 13 .fin)))))))))))))) _ (by kernel_rfl) (by kernel_rfl) (λWK s7=>?_) zj;have o2:=zh (s5.out.step s7 zi);have k7:=o2.out.heap s2.out id;have g2:=zG I6.out s7 (λ_ _=>id);clear s7;have n7:=zK g2 k7 (by decide);have g3:=o2.out.heap I4.out id;have n3:=zK g2 g3 (by decide);have t7:∀ g:Gr (λb=>(t ao no co).ownBlock=E b) WK,g.W.cell? ⟨O,1,Q⟩=E (B ao no co):=λg=>zB (g.fr.heap k7 n7) 1
       have t3:∀ g:Gr (λb=>(t ao no co).ownBlock=E b) WK,g.W.cell? ⟨a7,2,Q⟩=E (G y.c):=λg=>zB (g.fr.heap g3 n3) 2
       have s3:=o2.out.size;clear g3 n3
       repeat (apply tx_q rfl rfl rfl;intro d4 hK;go_big_quiet_op;go_big_quiet_on)
       clear t7 t3;have al:=(ab No WK).alloc (s (ocs 3 PO ZD zM y.c) 38);have o5:=zG g2 al (λ_ _=>id);have k5:=al.heap k7 id;have A5:=zh al;clear g2 k7 al;apply zA9;exact rfl
       go_wp2_with fail
       refine ai ⟨λ_=>A5.out.mono zn,?_⟩;apply zA9;exact rfl
       go_wp2_with (at_builtin;refine wpList_append_own_at _ rfl _ _ 53 rfl rb 38 i0 (p #[K L 0,G af,K L 0,K L 0,G af,G af,G af,G af,G af,K L 0,K L 0,B Q 0 0,G af,G af]) 14 192 Tryz.underlying53 D4 p0 D5 D6 rfl (by decide) _ _ _ rfl o5 ⟨WK,0,Q⟩ 1 1 (ocs 3 PO ZD zM y.c).toList rfl rfl (zg _ (ocs 3 PO ZD zM y.c) _ rfl) (zCz _ _ _ _ _) (by unfold ak;omega) (by omega) (by have:=I7.out;rw[ax];omega) ?_;intro v' w6 g4 A6 _ A7;obtain⟨b9,d0,rfl⟩:=zI g4)
       have gf:Fr (λb=>(t ao no co).ownBlock=E b) (WK.alloc (s (ocs 3 PO ZD zM y.c) 38)) w6:=Fr.of_grown A6;refine zf gf ?_;have k6:=gf.heap k5 n7;have n6:=zK g4 k6 (by decide);have t7:w6.cell? ⟨O,1,Q⟩=E (B ao no co):=zB k6 1;have f7:w6.frozen? ⟨O,1,Q⟩=false:=zD k6 1;have x8:Fr (Is O) w6 (w6.setCell ⟨O,1,Q⟩ (B b9 (no+1) d0)):=aj (ab _ _) _;have k8:(w6.setCell ⟨O,1,Q⟩ (B b9 (no+1) d0)).heap[O]?=E (s #[B a1 cs.length k1,B b9 (no+1) d0] 102):=zE k6 1 (B b9 (no+1) d0);have o6:=zG g4 x8 (λb F h=>n6 (by unfold Is at h;rw[<-h];exact F));have ff:Fr (λb=>b=O\/(t ao no co).ownBlock=E b) W9 (w6.setCell ⟨O,1,Q⟩ (B b9 (no+1) d0)):=(((o2.out.step A5.out zi).mono zn).step gf (λb _ h=>.inr h)).step x8 (λb _ h=>.inl h);have A8:H (∀ b,(t b9 (no+1) d0).ownBlock=E b->S b\/(w:C)<=b):=λb F=>by
        rcases A7 with h|h
        .rw[h]at F;exact p4.out b F
        .rw[h]at F;cases F;rw[ax];right;omega
       have HR:=zg3 k8 o6 ff;obtain⟨WZ,s8⟩:∃ WZ,WZ=w6.setCell ⟨O,1,Q⟩ (B b9 (no+1) d0):=⟨_,rfl⟩
       rw[<-s8]at HR;clear o5 g4 A6 gf k5 k6 k8 x8 ff n6 n7 A7 o6;apply zA9;exact rfl
       go_wp2_with fail
       refine ai ⟨λ_=>ab _ _,?_⟩
       repeat (apply tx_q rfl rfl rfl;intro d4 hK;go_big_quiet_op;go_big_quiet_on)
       apply zA9;exact rfl
       go_wp2_with fail
       refine ai ⟨λh=>(h rfl).elim,?_⟩;refine zFy ?_;rw[<-s8];clear s8 t7 f7;have t8:∀ b,(t ao no co).ownBlock=E b->b<(wr:C):=j7.out.2;have J5:=s1.out.2.2;have J6:(wr:C)<(V:C):=I0;have A9:¬ (B'=O\/(t ao no co).ownBlock=E B'):=λh=>h.elim (λh=>by omega) (λh=>by have:=t8 _ h;omega)
       have bz:=HR.out.2.2.heap s1.out.1 A9;have z0:WZ.cell? ⟨B',0,Q⟩=E (B U u.length X):=zB bz 0;have y0:=zD HR.out.1 0;have y1:WZ.cell? ⟨O,0,Q⟩=E (B a1 cs.length k1):=zB HR.out.1 0;have xF:Fr (Is O) WZ (WZ.setCell ⟨O,0,Q⟩ (B U u.length X)):=aj (ab _ _) _;have HQ:=zg2 (zE HR.out.1 0 (B U u.length X)) xF;clear bz xF
       go_wp2_with fail
       go_roundw
       case rel=>
        refine⟨j+1,by omega,by go_num,?_⟩;have t9:=zG A.out.2.2.1 (b6.out.step m0.out zn) (λb F h=>by have:=j7.out.2 b F;omega);have I8:TMk V WZ (cs.set j x) U X u:=s1.out.2.1.fr HR.out.2.2 (λb F L9 T hc=>by
         rcases F with rfl|F
         .rw[s2.out]at hc;cases hc;exact⟨by decide,by decide⟩
         .by_cases hT:T=38
          .subst hT;exact⟨by decide,by decide⟩
          .exact absurd F (zK t9 hc hT))
        have g1:=I8.put HQ.out.2 HR.out.1 (by decide) (by decide);have o7:u.map strip=cs.map strip:=g1.cop.strip.trans (zCa g0.out.1 (g0.out.2.2.2.trans g0.out.2.1.symm));have I9:Tr _ R U X u:=g1.cop.tr F9.out g1.dv (TreeWf.ofStrip a6.out.wf o7) g1.fresh (by have:=v7.out.1;omega);have J0:TrT (WZ.setCell ⟨O,0,Q⟩ (B U u.length X)) U u:=λb F=>by
         rcases F with⟨ad,e,rfl⟩|⟨z,hz,ad,e,rfl⟩
         .obtain⟨J1,hq⟩:=g1.bt ad e;exact⟨J1,_,hq,.inl rfl⟩
         .obtain⟨z0,_,p0⟩:=g1.cop.mem hz;obtain⟨J1,hq⟩:=p0.typ ad e;exact⟨J1,_,hq,.inr rfl⟩
        have ei:dn.index=d.index:=by have h:=congrArg am g0.out.2.1;exact h
        have D2:CtO _ u (updC (setF M ds ct I j).1 d.index y.c):=ei▸F8.out.cop g1.cop;have v0:=zG HR.out.2.1 HQ.out.2 (λb F h=>zK HR.out.2.1 HR.out.1 (by decide) (by unfold Is at h;rw[<-h];exact F));refine⟨⟨U,X,u,b9,no+1,d0,by rw[d8.out,List.length_append];have:=A.out.1;simp;omega,HQ.out.1,I9,o7.trans A.out.2.1,by rw[d8.out,zFO];exact v0,J0,by rw[d8.out];exact D2,A8.out⟩,?_⟩;refine(((A.out.2.2.2.2.2.2.2.2.step b6.out (λb F h=>by omega)).step m0.out zn).step HR.out.2.2 (λb F h=>?_)).step HQ.out.2 (λb F h=>?_)
        .rw[Y.out.2];rcases h with h|h
         .exact .inl h
         .rcases p4.out b h with h'|h'
          .rw[Y.out.2]at h';exact h'
          .omega
        .rw[Y.out.2];exact .inl h
       case measure=>simp[intOf];omega
     .have d8:H (setF M ds ct I (j+1)=setF M ds ct I j):=by
       unfold H;rw[o3.out,if_neg];revert hc;cases VB<;>cases(tx.toList==y.c.toList)<;>simp
      have J2:H (SetI O rb R w M ds ct I S (j+1) W6):=by
       refine⟨⟨a1,k1,cs,ao,no,co,by rw[d8.out];exact A.out.1,HX.out.heap j6.out id,a6.out.no HX.out,A.out.2.1,by rw[d8.out];exact zG A.out.2.2.1 HX.out (λ_ _=>id),A.out.2.2.2.1.fr HX.out (λ_ _=>id),by rw[d8.out];exact A.out.2.2.2.2.1.no HX.out,p4.out⟩,A.out.2.2.2.2.2.2.2.2.step HX.out zn⟩
      go_wp2_with fail
      go_roundw
      case rel=>exact⟨j+1,by omega,by go_num,J2⟩
      case measure=>simp[intOf];omega
  .obtain rfl:j=ds.length:=by omega
   have w0:¬ (ds.length:Int)<ds.length:=by omega
   go_wp2_with fail
   go_end0
   exact⟨rfl,g7.out⟩
end Go.Proofs.YtckkocmhlhefpaaGreatDoor
