import Derived.Test.YtckkocmhlhefpaaGreatDoorQ18
namespace Go.Proofs.YtckkocmhlhefpaaGreatDoor
open Go.RowKit Go.Maps
set_option linter.unusedVariables false
set_option maxRecDepth 100000
set_option maxHeartbeats 3000000
open Ct renaming mk->L,txt->ah,count->am,text->ao,valid->ax,counts->ay
open Fr renaming refl->ab
open Go renaming World->ac,Calls->ae,Addr->aj,bodyPost_ret->ak,results->al,wpList_append_own->bn
open Go.Proofs renaming intOf->ap
open Go.Proofs.Tryz renaming prog->af,results201->au,strconv_Itoa_small->aw,results156->bd,underlying30->bj
open Go.RowKit renaming Hid->K
open Go.Value renaming string->an
open Go.World renaming ownsRow_nil->bm
open IntKind renaming i64->E
open Obj renaming cells->S
open Strs renaming of_own->bi
open Value renaming int->C,string->Q,slice->G,agg->aa
open _root_ renaming Nat->H,Int->P,ByteArray->M,List->ag,Option->ai
open _root_.Bool renaming false->q,true->p
open _root_.ByteArray renaming empty->be
open _root_.Int renaming eq_ofNat_of_zero_le->aq
open _root_.List renaming getElem?_eq_getElem->az,mem_of_getElem?->ba,take_add_one->bb,length_map->bf,mem_map_of_mem->bg,take_length->bh
open _root_.Nat renaming le_trans->bc
open _root_.Option renaming none->B,some->T
variable{c:Ct}{s:M}
theorem zKA {w:ac}{o:H}{A:TypeId}{D:H}{a:ai aj}{n c m:H}{y:ag Value}(h:w.ownsRow o A D (G a n c) m y)(O:0<m):∃ g v,a=T ⟨g,v,B⟩/\∀ j u,y[j]?=T u->w.cell? ⟨g,v+j,B⟩=T u:=by
 have F:=zJ8 h;obtain⟨_,⟨z,R⟩|⟨g,I,J,z,_⟩⟩:=h
 .omega
 .cases z;refine⟨g,0,rfl,λj u N=>?_⟩;have:=F _ rfl j u N
  rwa [Addr.add_lit]at this
theorem zMW (k s t e:P)(i l:M)(n:ag Ct)(a:ai aj)(h:H)(w:ac)(A:n.length<=100000)(u:i.size<=100000)(v:l.size<=100000):
  ae af 277 #[aa #[C E k,Q i,Q l,C E s,C E t,C E e,G a n.length h]] w λy D=>y=.returned (.bool (!alike (.mk k i l s t e n)))/\Fr No w D:=by
 have z:Fr No w (w.alloc (S #[C E k,Q i,Q l,C E s,C E t,C E e,G a n.length h] 224)):=(ab _ _).alloc _;have F:=zh z
 go_enter Tryz.func277,Tryz.ntmps277
 clear z
 go_wp2_with fail
 refine(zOJ k s t e i l n a h _ A u v).mono ?_;rintro y J ⟨rfl,o⟩;have I:=zh (F.out.step o zi);clear o
 go_wp2_with fail
 go_ret;exact⟨rfl,I.out⟩
theorem zOH (la:ai aj)(lc:H)(cs:ag Ct)(xs:ag Value)(w:ac)(R:ShFlat xs cs)(a3:0<cs.length)(a4:cs.length<=100000)
  (hc:∃ g v,la=T ⟨g,v,B⟩/\∀ j u,xs[j]?=T u->w.cell? ⟨g,v+j,B⟩=T u) (U:∀ d∈cs,SmallC 100000 d/\d.inner.length<=100000):
  ae af 301 #[G la cs.length lc,.func (.func 277) #[] #[]] w λe w'=>(∃ r:P,e=.returned (C E r)/\decide (0<=r)=!cs.all alike)/\Fr No w w':=by
 obtain⟨g,v,rfl,z⟩:=hc;have o:=zh z;clear z
 go_enter Tryz.func301,Tryz.ntmps301
 go_wp2_with fail
 go_loopw [8] (λx wr=>∃ j:H,j<=cs.length/\x=C E (j:P)/\K ((cs.take j).all alike=p)/\Fr No w wr) (λx _=>cs.length-(ap x).toNat)
 case atStart=>exact⟨0,by omega,rfl,by unfold K;simp,ab _ _⟩
 case round=>
  obtain⟨j,hj,rfl,I,y⟩:=hrel;by_cases V:j<cs.length
  .have a5:(j:P)<cs.length:=by omega
   obtain⟨d,O⟩:∃ d,cs[j]?=T d:=⟨_,az V⟩
   have A:=zh (ba O);have X:K (cs.take (j+1)=cs.take j++[d]):=by unfold K;rw[bb,O];rfl
   obtain⟨⟨Y,Z⟩,a2⟩:=U d A.out;obtain⟨k,i,l,s,t,e,n⟩:=d;obtain⟨a,J,D⟩:=R.at O;have y0:wr.cell? ⟨g,v+j*7,B⟩=T (C E k):=y.cell (o.out (j*7+0) _ (D 0 (by omega))) id;have y1:wr.cell? ⟨g,v+j*7+1,B⟩=T (Q i):=y.cell (o.out (j*7+1) _ (D 1 (by omega))) id;have y2:wr.cell? ⟨g,v+j*7+2,B⟩=T (Q l):=y.cell (o.out (j*7+2) _ (D 2 (by omega))) id;have y3:wr.cell? ⟨g,v+j*7+3,B⟩=T (C E s):=y.cell (o.out (j*7+3) _ (D 3 (by omega))) id;have y4:wr.cell? ⟨g,v+j*7+4,B⟩=T (C E t):=y.cell (o.out (j*7+4) _ (D 4 (by omega))) id;have y5:wr.cell? ⟨g,v+j*7+5,B⟩=T (C E e):=y.cell (o.out (j*7+5) _ (D 5 (by omega))) id;have y6:wr.cell? ⟨g,v+j*7+6,B⟩=T (G a n.length J):=y.cell (o.out (j*7+6) _ (D 6 (by omega))) id;clear O D
   go_wp2_with fail
   refine(zMW k s t e i l n a J _ a2 Y Z).mono ?_;rintro en w1 ⟨rfl,N⟩;have F:=y.step N zi;clear y0 y1 y2 y3 y4 y5 y6 N;cases hp:alike (.mk k i l s t e n)
   .have Hr:K (cs.all alike=q):=by unfold K;rw[List.all_eq_false];exact⟨_,A.out,by rw[hp];simp⟩
    clear hp
    go_wp2_with fail
    go_ret;exact⟨⟨(j:P),rfl,by rw[Hr.out];simp⟩,F⟩
   .have Hn:K ((cs.take (j+1)).all alike=p):=by unfold K;rw[X.out,List.all_append,I.out];simp[hp]
    clear hp
    go_wp2_with fail
    go_roundw
    case rel=>exact⟨j+1,by omega,by go_num,Hn,F⟩
    case measure=>simp[ap];omega
  .have h:=I.out;rw[List.take_of_length_le (by omega)]at h;have Hp:=zh h;clear h
   go_wp2_with fail
   go_ret;exact⟨⟨-1,rfl,by rw[Hp.out];rfl⟩,y⟩
theorem zJI (A:ai aj)(I:H)(cs:ag Ct)(D:ag Value)(w:ac)(v:ShFlat D cs)(h:0<cs.length)(o:cs.length<=100000)
  (J:∃ g y,A=T ⟨g,y,B⟩/\∀ j u,D[j]?=T u->w.cell? ⟨g,y+j,B⟩=T u) (z:∀ d∈cs,SmallC 100000 d/\d.inner.length<=100000):
  ae af 275 #[G A cs.length I,.func (.func 277) #[] #[]] w λe w'=>e=.returned (.bool (!cs.all alike))/\Fr No w w':=by
 have O:=zh (zOH A I cs D w v h o J z);clear v h o J z
 go_enter Tryz.func275,Tryz.ntmps275
 go_wp2_with fail
 refine O.out.mono ?_;rintro e U ⟨⟨r,rfl,N⟩,F⟩;have R:=zh N;clear N
 go_wp2_with fail
 go_ret;exact⟨zN R.out,F⟩
theorem zK3 (c:Ct)(X:H->Prop)(vs:Array Value)(w:ac)(h:CAt w X vs c)(hc:c.count<=10000)(R:∀ d∈c.walk,SmallC 100000 d):
  ae af 241 #[aa vs] w λen w2=>en=.returned (C E (if c.valid=p then 0 else 70))/\Fr No w w2:=by
 obtain⟨rv,F⟩:∃ rv:P,rv=if c.valid=p then 0 else 70:=⟨_,rfl⟩
 rw[<-F];have I:=zh F;clear F;have y:∀ d∈c.walk,SmallC 100000 d/\d.inner.length<=100000:=λd U=>⟨R d U,by have:=zD5 U;omega⟩
 have b1:=zh y;clear R y;have z:=h;obtain⟨k,i,l,s,t,e,n⟩:=c;obtain⟨a,u,rfl,b2⟩:=h.inAt;have b8:=zEF (.mk k i l s t e n);have h0:Fr No w (w.alloc (S #[C E k,Q i,Q l,C E s,C E t,C E e,G a n.length u] 224)):=(ab _ _).alloc _;have q1:=zF w (S #[C E k,Q i,Q l,C E s,C E t,C E e,G a n.length u] 224);obtain⟨W0,J⟩:∃ W0,W0=w.alloc (S #[C E k,Q i,Q l,C E s,C E t,C E e,G a n.length u] 224):=⟨_,rfl⟩
 rw[<-J]at h0 q1;obtain⟨a0,a1,a2,a3,a4,a5,a6⟩:=cl7 q1;have N:=z.no h0;have H0:=zh h0;clear h0 z b2
 go_enter Tryz.func241,Tryz.ntmps241
 go_upto_region 1 with(fail)
 rw[<-J];clear J
 go_wp2_with fail
 refine(zOI N hc).mono ?_;rintro en w1 ⟨rfl,v⟩;have V:=N.no v;have q2:=v.heap q1 id;have Y:=zh (H0.out.step v zi);clear a0 a1 a2 a3 a4 a5 a6 q1 v N;obtain⟨a0,a1,a2,a3,a4,a5,a6⟩:=cl7 q2;by_cases U:(L k i l s t e n).depth<=6
 .have b3:¬ (6:P)<((L k i l s t e n).depth:P):=by omega
  have Hd:=zh U
  go_wp2_with fail
  obtain⟨a',b7,ev,A⟩:=V.inAt;cases ev;refine(zMR 10000 (by omega) k s t e i l n a u _ _ (by rw[am]at hc;omega) A).mono ?_;rintro en w2 ⟨⟨ar,cr,xs,rfl,Z,D⟩,b4⟩;have b5:=zh (Y.out.step b4 zi);have a7:(L k i l s t e n).walk.length=ay n+1:=by rw[zDJ,am]
  have a8:=zKA D (by omega);have o:=zJI ar cr (L k i l s t e n).walk xs w2 Z (by omega) (by rw[am]at hc;omega) a8 b1.out;rw[a7]at o;have a9:=zh o;clear a0 a1 a2 a3 a4 a5 a6 o a8 D Z q2 V a7 A;generalize ay n+1=cn at *
  go_wp2_with fail
  refine a9.out.mono ?_
  .rintro e w3 ⟨rfl,b6⟩;have b0:=zh (b5.out.step b6 zi);have Hv:K ((L k i l s t e n).valid=(L k i l s t e n).walk.all alike):=by unfold K ax;rw[zD7,decide_eq_true Hd.out,Bool.true_and]
   cases hal:(L k i l s t e n).walk.all alike with
   | true=>
    have O:=zh hal;clear hal
    go_wp2_with fail
    go_ret;exact⟨by rw[I.out,Hv.out,O.out];rfl,b0.out⟩
   | false=>
    have O:=zh hal;clear hal
    go_wp2_with fail
    go_ret;exact⟨by rw[I.out,Hv.out,O.out];rfl,b0.out⟩
 .have b3:(6:P)<((L k i l s t e n).depth:P):=by omega
  have Hv:K ((L k i l s t e n).valid=q):=by unfold K ax;rw[decide_eq_false U];rfl
  go_wp2_with fail
  go_ret;exact⟨by rw[I.out,Hv.out];rfl,Y.out⟩
def PaRes (w:ac)(s:M)(e:Ending)(w':ac):Prop:=
 (∃ er:P,parseC s=B/\er≠0/\e=.returned (.tuple #[aa #[C E 0,Q ⟨#[]⟩,Q ⟨#[]⟩,C E 0,C E 0,C E 0,G B 0 0],C E er]))\/
 (∃ vs c,parseC s=T c/\e=.returned (.tuple #[aa vs,C E 0])/\CAt w' (From (w:H)) vs c)
theorem zLs (h:s.size<=256):parseC s=match pC (s.size+1) (bl s)with|some (c,[])=>if c.valid=p then T c else B|_=>none:=by
 unfold parseC;rw[if_neg (by show ¬ 256<s.size;omega)];rfl
theorem zOF (s:M)(w:ac)(hE:Env w)(hs:s.size<=100000):
  ae af 201 #[Q s] w λen w2=>PaRes w s en w2/\Fr No w w2:=by
 have h0:Fr No w (w.alloc (S #[C E 0,Q ⟨#[]⟩,Q ⟨#[]⟩,C E 0,C E 0,C E 0,G B 0 0] 224)):=(ab _ _).alloc _;have q0:=zF w (S #[C E 0,Q ⟨#[]⟩,Q ⟨#[]⟩,C E 0,C E 0,C E 0,G B 0 0] 224);have b8:=hE.no h0;have h9:=hE.sz;have g1:(w:H)<(w.alloc (S #[C E 0,Q ⟨#[]⟩,Q ⟨#[]⟩,C E 0,C E 0,C E 0,G B 0 0] 224)).heap.size:=by simp
 obtain⟨U,b9⟩:∃ U,U=w.alloc (S #[C E 0,Q ⟨#[]⟩,Q ⟨#[]⟩,C E 0,C E 0,C E 0,G B 0 0] 224):=⟨_,rfl⟩
 rw[<-b9]at h0 q0 b8 g1;have H0:=zh h0;clear h0 hE
 go_enter Tryz.func201,Tryz.ntmps201
 go_upto_region 1 with(fail)
 rw[<-b9];clear b9;by_cases hl:256<s.size
 .have g2:(256:P)<(s.size:P):=by omega
  have Hn:K (parseC s=B):=by unfold K parseC;rw[if_pos (show 256<(bl s).length from hl)]
  obtain⟨b0,b1,b2,b3,b4,b5,b6⟩:=cl7 q0;obtain⟨f0,f1,f2,f3,f4,f5,f6⟩:=fl7 q0;have z:=set7 q0 rfl (C E 0) (Q ⟨#[]⟩) (Q ⟨#[]⟩) (C E 0) (C E 0) (C E 0) (G B 0 0);have u:=zh (H0.out.step z.2 (λb hb h=>by omega));have V:=zh z.2;have o:=zh z.1;clear z
  go_wp2_with fail
  have X:=zB o.out 0;have Z:=zB o.out 1;have y2:=zB o.out 2;have y3:=zB o.out 3;have y4:=zB o.out 4;have y5:=zB o.out 5;have y6:=zB o.out 6;refine ak (v:=.tuple #[aa #[C E 0,Q ⟨#[]⟩,Q ⟨#[]⟩,C E 0,C E 0,C E 0,G B 0 0],C E 71]) (by simp[al,au,go_sem,X,Z,y2,y3,y4,y5,y6]) rfl ?_;exact⟨.inl ⟨71,Hn.out,by decide,rfl⟩,u.out⟩
 .have g2:¬ (256:P)<(s.size:P):=by omega
  have hx:Fr No U (U.alloc (S #[Q s,C E 0,.bool q] 319)):=(ab _ _).alloc _;have q1:=zF U (S #[Q s,C E 0,.bool q] 319);have g7:(U:H)<(U.alloc (S #[Q s,C E 0,.bool q] 319)).heap.size:=by simp
  have d6:=hx.heap q0 id;have d7:=b8.no hx;have Hx:=zh (H0.out.step hx zi);have d8:=zLs (s:=s) (by omega);clear q0 b8 hx
  go_upto_region 4 with(fail)
  generalize U.alloc (S #[Q s,C E 0,.bool q] 319)=W1 at *;have b7:Cur W1 (U:H) s (bl s) false:=⟨0,q1,by omega,by simp[bl]⟩
  have g8:(bl s).length=s.size:=rfl;have d0:=zh d8;clear d8 q1
  go_wp2_with fail
  refine(zK2 (s.size+1) (U:H) s (bl s) _ (by omega) b7 (by omega) d7 (by omega)).mono ?_;rintro en w2 ⟨k,i,l,sl,t,le,a,m,c,r',I,rfl,hr,d9,a7,J⟩;have g9:=a7.size;have e0:=a7.heap d6 (λh=>by omega);have g3:=zh (Hx.out.step a7 (λb hb h=>by omega));have N:Fr No w2 (w2.alloc (S #[C E k,Q i,Q l,C E sl,C E t,C E le,G a m c] 224)):=(ab _ _).alloc _;have q5:=zF w2 (S #[C E k,Q i,Q l,C E sl,C E t,C E le,G a m c] 224);have e1:=d9.no N;have A:=N.heap e0 id;have d1:=zh (g3.out.step N zi);have O:K ((I=p/\pC (s.size+1) (bl s)=B)\/(I=q/\∃ ct,pC (s.size+1) (bl s)=T (ct,r')/\CAt (w2.alloc (S #[C E k,Q i,Q l,C E sl,C E t,C E le,G a m c] 224)) (λb=>(w:H)<b) #[C E k,Q i,Q l,C E sl,C E t,C E le,G a m c] ct)):=by
   rcases J with h|⟨h1,ct,h2,h3⟩
   .exact .inl h
   .exact .inr ⟨h1,ct,h2,(h3.no N).mono (λb _ h=>by unfold From at *;omega)⟩
  clear J d6 e0 d9 a7 N b7 d7
  go_upto_region 5 with(fail)
  generalize w2.alloc (S #[C E k,Q i,Q l,C E sl,C E t,C E le,G a m c] 224)=W3 at *;obtain⟨a8,qp,h4,d2⟩:=e1.blk;obtain⟨-,p1,p2⟩:=cl3 qp;cases I with
  | true=>
   have Hn:K (parseC s=B):=by
    unfold K;rcases O.out with⟨_,h⟩|⟨h,_⟩
    .rw[d0.out,h]
    .cases h
   clear q5;obtain⟨b0,b1,b2,b3,b4,b5,b6⟩:=cl7 A;obtain⟨f0,f1,f2,f3,f4,f5,f6⟩:=fl7 A;have z:=set7 A rfl (C E 0) (Q ⟨#[]⟩) (Q ⟨#[]⟩) (C E 0) (C E 0) (C E 0) (G B 0 0);have u:=zh (d1.out.step z.2 (λb hb h=>by omega));have V:=zh z.2;have o:=zh z.1;clear z
   go_wp2_with fail
   have X:=zB o.out 0;have Z:=zB o.out 1;have y2:=zB o.out 2;have y3:=zB o.out 3;have y4:=zB o.out 4;have y5:=zB o.out 5;have y6:=zB o.out 6;refine ak (v:=.tuple #[aa #[C E 0,Q ⟨#[]⟩,Q ⟨#[]⟩,C E 0,C E 0,C E 0,G B 0 0],C E 70]) (by simp[al,au,go_sem,X,Z,y2,y3,y4,y5,y6]) rfl ?_;exact⟨.inl ⟨70,Hn.out,by decide,rfl⟩,u.out⟩
  | false=>
   have e2:K (∃ ct,pC (s.size+1) (bl s)=T (ct,r')/\CAt W3 (λb=>(w:H)<b) #[C E k,Q i,Q l,C E sl,C E t,C E le,G a m c] ct):=by
    rcases O.out with⟨h,_⟩|⟨_,h⟩
    .cases h
    .exact h
   by_cases g4:a8=s.size
   .have e3:(a8:P)=(s.size:P):=by omega
    have d3:r'=[]:=by rw[<-d2,g4];exact List.drop_eq_nil_of_le (Nat.le_refl _)
    obtain⟨ct,D,a9⟩:=e2.out;rw[d3]at D;have e4:=(zFN _).1 _ _ _ D;have e5:∀ d∈ct.walk,SmallC 100000 d:=λd hd=>((zJ7 _).1 _ _ _ D d hd).mono (by omega)
    have Hp:K (parseC s=if ct.valid=p then T ct else B):=by unfold K;rw[d0.out,D]
    have d4:=zK3 ct _ _ W3 a9 (by simp at e4;omega) e5;obtain⟨cv,d5⟩:∃ cv,cv=ct.valid:=⟨_,rfl⟩
    rw[<-d5]at d4;have e6:=zh d5;have g5:=zh a9;obtain⟨a0,a1,a2,a3,a4,a5,a6⟩:=cl7 q5;clear D a9 e5 d5 qp d2 e1
    go_wp2_with fail
    refine d4.mono ?_;rintro en w4 ⟨rfl,R⟩;have F:=R.heap A id;have e7:=R.heap q5 id;have e8:=zh (d1.out.step R zi);have e9:=zh (g5.out.no R);clear a0 a1 a2 a3 a4 a5 a6 d4 R p1 p2 A q5;cases cv with
    | true=>
     have g6:K (parseC s=T ct):=by unfold K;rw[Hp.out,if_pos e6.out.symm]
     simp only[if_true]
     go_upto_region 7 with(fail)
     obtain⟨a0,a1,a2,a3,a4,a5,a6⟩:=cl7 e7;obtain⟨b0,b1,b2,b3,b4,b5,b6⟩:=cl7 F;obtain⟨f0,f1,f2,f3,f4,f5,f6⟩:=fl7 F;have z:=set7 F rfl (C E k) (Q i) (Q l) (C E sl) (C E t) (C E le) (G a m c);have u:=zh (e8.out.step z.2 (λb hb h=>by omega));have V:=zh z.2;have g0:=zh (((e9.out.fr z.2 (λb hb h=>by omega)).mono (Y:=From (w:H)) (λb _ h=>by omega)));have o:=zh z.1;clear z
     go_wp2_with fail
     have X:=zB o.out 0;have Z:=zB o.out 1;have y2:=zB o.out 2;have y3:=zB o.out 3;have y4:=zB o.out 4;have y5:=zB o.out 5;have y6:=zB o.out 6;refine ak (v:=.tuple #[aa #[C E k,Q i,Q l,C E sl,C E t,C E le,G a m c],C E 0]) (by simp[al,au,go_sem,X,Z,y2,y3,y4,y5,y6]) rfl ?_;exact⟨.inr ⟨_,ct,g6.out,rfl,g0.out⟩,u.out⟩
    | false=>
     have Hn:K (parseC s=B):=by unfold K;rw[Hp.out,if_neg (by rw[<-e6.out];simp)]
     simp only[Bool.false_eq_true,if_false];clear e7;obtain⟨b0,b1,b2,b3,b4,b5,b6⟩:=cl7 F;obtain⟨f0,f1,f2,f3,f4,f5,f6⟩:=fl7 F;have z:=set7 F rfl (C E 0) (Q ⟨#[]⟩) (Q ⟨#[]⟩) (C E 0) (C E 0) (C E 0) (G B 0 0);have u:=zh (e8.out.step z.2 (λb hb h=>by omega));have V:=zh z.2;have o:=zh z.1;clear z
     go_wp2_with fail
     have X:=zB o.out 0;have Z:=zB o.out 1;have y2:=zB o.out 2;have y3:=zB o.out 3;have y4:=zB o.out 4;have y5:=zB o.out 5;have y6:=zB o.out 6;refine ak (v:=.tuple #[aa #[C E 0,Q ⟨#[]⟩,Q ⟨#[]⟩,C E 0,C E 0,C E 0,G B 0 0],C E 70]) (by simp[al,au,go_sem,X,Z,y2,y3,y4,y5,y6]) rfl ?_;exact⟨.inl ⟨70,Hn.out,by decide,rfl⟩,u.out⟩
   .have e3:¬ (a8:P)=(s.size:P):=by omega
    have Hn:K (parseC s=B):=by
     unfold K;obtain⟨ct,D,a9⟩:=e2.out;rw[d0.out,D];cases d3:r' with
     | cons x y=>rfl
     | nil=>
      have h:(s.data.toList.drop a8).length=0:=by rw[d2,d3];rfl
      have h2:s.data.toList.length=s.size:=rfl;rw[List.length_drop,h2]at h;omega
    clear q5;obtain⟨b0,b1,b2,b3,b4,b5,b6⟩:=cl7 A;obtain⟨f0,f1,f2,f3,f4,f5,f6⟩:=fl7 A;have z:=set7 A rfl (C E 0) (Q ⟨#[]⟩) (Q ⟨#[]⟩) (C E 0) (C E 0) (C E 0) (G B 0 0);have u:=zh (d1.out.step z.2 (λb hb h=>by omega));have V:=zh z.2;have o:=zh z.1;clear z
    go_wp2_with fail
    have X:=zB o.out 0;have Z:=zB o.out 1;have y2:=zB o.out 2;have y3:=zB o.out 3;have y4:=zB o.out 4;have y5:=zB o.out 5;have y6:=zB o.out 6;refine ak (v:=.tuple #[aa #[C E 0,Q ⟨#[]⟩,Q ⟨#[]⟩,C E 0,C E 0,C E 0,G B 0 0],C E 70]) (by simp[al,au,go_sem,X,Z,y2,y3,y4,y5,y6]) rfl ?_;exact⟨.inl ⟨70,Hn.out,by decide,rfl⟩,u.out⟩
theorem zMU (z:ai aj)(y v:H)(n:ag Ct)(w:ac)(h:w.ownsRow v 9 1 (G z n.length y) n.length ((n.map ah).map an))(U:(commas (n.map ao)).length<=1000)(V:n.length<=100000):
  ae af 123 #[G z n.length y,Q ⟨#[44]⟩] w λe w'=>e=.returned (Q (inTxt n))/\Fr No w w':=by
 cases n with
 | nil=>
  refine(Tryz.strings_Join_none z y ⟨#[44]⟩ w).mono ?_;rintro e D ⟨rfl,rfl⟩;exact⟨rfl,ab _ _⟩
 | cons c n=>
  have o:((c::n).map ah).length=(c::n).length:=bf _;rw[<-o]at h ⊢;obtain⟨a,F,I,u,_⟩:=bi h;cases I;obtain⟨b,A,x,rfl,_,_⟩:=u.at (k:=0) (by simp);obtain⟨_,J,N⟩:=u.cell _ rfl (by simp);refine(Tryz.strings_Join b A y _ ⟨#[44]⟩ _ (λj x O=>N j x O) J (by rw[o];omega) u.len (by show (Lib.join _ [44]).length<=_;rw[zOx];omega)).mono ?_;rintro e D ⟨rfl,R⟩;exact⟨by rw[<-zKZ],Fr.of_below_size R⟩
theorem zMS (m:H):m<=10000->∀ (k s t e:P) (i l:M) (n:ag Ct) (a:ai aj) (y:H) (w:ac) (X:H->Prop),ay n<m->InAt w X a y n->(L k i l s t e n).good=p->(L k i l s t e n).text.length<=1000->
  ae af 242 #[aa #[C E k,Q i,Q l,C E s,C E t,C E e,G a n.length y]] w λZ w2=>Z=.returned (Q (L k i l s t e n).txt)/\Fr No w w2:=by
 obtain⟨i0,h5,h6,h7,h8⟩:=info_parts infoS
 induction m with
 | zero=>intro _ k s t e i l n a y w X h;omega
 | succ m ih=>
  intro hm k s t e i l n a y w X j5 e3 F e4;have j6:=zAa n;have b3:=zC3 F;have a7:=zOy F;have e5:=zE5 b3.1;obtain⟨j7,j8⟩:=zEQ b3.1;have b8:∀ d∈n,d.good=true:=λd hd=>List.all_eq_true.1 b3.2 d hd
  have e6:∀ d∈n,d.text.length<=1000:=λd hd=>by
   have h1:=zC7 (bg (f:=ao) hd);have h2:(commas (n.map ao)).length<=_:=a7;omega
  have a8:(commas (n.map ao)).length<=1000:=bc a7 e4;have e7:=zh b8;have h9:=zh e6;have i2:=zh e5;have b9:=zh a8;have h0:Fr No w (w.alloc (S #[C E k,Q i,Q l,C E s,C E t,C E e,G a n.length y] 224)):=(ab _ _).alloc _;have q1:=zF w (S #[C E k,Q i,Q l,C E s,C E t,C E e,G a n.length y] 224);have i3:(w:H)<(w.alloc (S #[C E k,Q i,Q l,C E s,C E t,C E e,G a n.length y] 224)).heap.size:=by simp
  obtain⟨W0,d3⟩:∃ W0,W0=w.alloc (S #[C E k,Q i,Q l,C E s,C E t,C E e,G a n.length y] 224):=⟨_,rfl⟩
  rw[<-d3]at h0 q1 i3;have e8:=e3.fr h0 (λ_ _=>id);have c6:W0.cell? ⟨w,6,B⟩=T (G a n.length y):=zB q1 6;have Ih:=zh (ih (by omega));have H0:=zh h0;clear ih e3 h0 e5 b8 e6 b3 F a7 e4
  go_enter Tryz.func242,Tryz.ntmps242
  go_upto_region 1 with(fail)
  rw[<-d3];clear d3
  go_wp2_with fail
  go_loopw [3,11] (λv x wr=>∃ (j:H) (av:ai aj) (cv:H),j<=n.length/\v=G av j cv/\x=C E (j:P)/\wr.ownsRow (W0:H) 9 1 (G av j cv) j (((n.take j).map ah).map an)/\Fr (From (W0:H)) W0 wr) (λ_ x _=>n.length-(ap x).toNat)
  case atStart=>exact⟨0,B,0,by omega,rfl,rfl,bm _ _ _ _,ab _ _⟩
  case round=>
   obtain⟨j,av,cv,hj,rfl,rfl,D,J⟩:=hrel;by_cases i4:j<n.length
   .have e9:(j:P)<n.length:=by omega
    obtain⟨d,hd⟩:∃ d,n[j]?=T d:=⟨_,az i4⟩
    have b4:=ba hd;have i5:=zBF b4;have g0:=e7.out d b4;have g2:=h9.out d b4;have i6:K (((n.take (j+1)).map ah).map an=((n.take j).map ah).map an++[Q d.txt]):=by unfold K;rw[bb,hd];simp
    obtain⟨k1,i1,l1,s1,t1,e1,n1⟩:=d;rw[am]at i5;have d0:InAt wr (λb=>b<(W0:H)) a y n:=by
     have h3:=e8.mono (Y:=λb=>b<(W0:H)) (λb hb _=>hb);exact h3.fr J (λb hb h=>by omega)
    obtain⟨b,j9,a',d1,rfl,hb,hX,⟨y0,y1,y2,y3,y4,y5,y6⟩,d2⟩:=d0.at hd;have k0:=J.size;clear hd d0 b4
    go_wp2_with fail
    have hx:Fr No wr (wr.alloc (S #[C E k1,Q i1,Q l1,C E s1,C E t1,C E e1,G a' n1.length d1] 224)):=(ab _ _).alloc _;refine(Ih.out k1 s1 t1 e1 i1 l1 n1 a' d1 _ _ (by omega) (d2.fr hx (λ_ _=>id)) g0 g2).mono ?_;rintro e w2 ⟨rfl,g6⟩;have b5:=hx.step g6 zi;have d4:=zh (J.step b5 zn);have N:=zAS D b5 zi;have k2:=b5.size;generalize (L k1 i1 l1 s1 t1 e1 n1).txt=tx at *;clear hx g6 J y0 y1 y2 y3 y4 y5 y6 d2 D b5 g0 g2
    go_wp2_with (at_builtin;refine bn _ rfl _ _ 30 rfl (W0:H) 9 i0 (Q be) 1 16 bj h5 h6 h7 h8 rfl (by decide) _ _ _ rfl (N.alloc _) ⟨w2,0,B⟩ 1 1 [Q tx] rfl rfl (cell_one_new _ _ _) (zBN [tx]) (by unfold maxLen;omega) (by omega) (by first|omega|(simp;done)|(simp;omega)) ?_;intro v' wb O a9 _;obtain⟨i7,i8,rfl⟩:=zI O)
    have g7:Fr (From (W0:H)) w2 wb:=zB5 N a9;have i9:=zh (d4.out.step g7 zi);have g8:=zh O;clear O a9 g7 N
    go_roundw
    case rel=>exact⟨j+1,i7,i8,by omega,rfl,by go_num,by rw[i6.out];exact g8.out,i9.out⟩
    case measure=>simp[ap];omega
   .have e9:¬ (j:P)<n.length:=by omega
    obtain rfl:j=n.length:=by omega
    rw[bh]at D;have r1:=J.heap q1 (λh=>by omega);have d4:=zh (H0.out.trans (U:=No) J zi (λb hb h=>by omega));have g9:=zMU av cv _ n wr D b9.out (by omega);clear J q1 c6 D
    go_wp2_with fail
    refine g9.mono ?_;rintro Z w5 ⟨rfl,d5⟩;have r5:=d5.heap r1 id;have V:=zh (d4.out.step d5 zi);have Hu:K ((⟨#[40]⟩:M).size=1/\(⟨#[41]⟩:M).size=1/\(⟨#[58]⟩:M).size=1/\(⟨#[47]⟩:M).size=1):=⟨rfl,rfl,rfl,rfl⟩
    have j0:(inTxt n).size<=1000:=b9.out;clear g9 d5 r1;have b1:¬ 9223372036854775807<1+(inTxt n).size:=by omega
    have b2:¬ 9223372036854775807<1+(inTxt n).size+1:=by omega
    have o:(((⟨#[40]⟩:M)++inTxt n++(⟨#[41]⟩:M))).size<=1002:=by have hu:=Hu.out;simp only[ByteArray.size_append];omega
    have b6:K (((⟨#[40]⟩:M)++inTxt n++(⟨#[41]⟩:M))=boxed n):=rfl;have b0:=zh o;clear j0 o
    go_upto_region 8 with(fail)
    generalize ((⟨#[40]⟩:M)++inTxt n++(⟨#[41]⟩:M))=bx at *;clear b1 b2;obtain⟨a0,a1,a2,a3,a4,a5,a6⟩:=cl7 r5;rcases i2.out with⟨rfl|rfl,rfl⟩|⟨rfl,h2⟩|rfl|⟨rfl,h4⟩|rfl
    .go_wp2_with fail
     go_ret;exact⟨by rw[txt0];rfl,V.out⟩
    .have up:(⟨#[102,115,58]⟩:M).size=3:=rfl;have o:=b0.out;have z1:¬ 9223372036854775807<3+i.size:=by omega
     have z2:¬ 9223372036854775807<3+i.size+1:=by omega
     have z3:¬ 9223372036854775807<3+i.size+1+l.size:=by omega
     clear o up
     go_wp2_with fail
     go_ret;exact⟨by rw[txt1];rfl,V.out⟩
    .obtain⟨p0,p1,p2,p3,p4,p5⟩:=h2;obtain⟨sn,rfl⟩:=aq (show 0<=s by omega);obtain⟨tn,rfl⟩:=aq (show 0<=t by omega);obtain⟨Z,rfl⟩:=aq (show 0<=e by omega);have up:(⟨#[114,97,105,100,58]⟩:M).size=5:=rfl;have o:=b0.out;obtain⟨R,z⟩:∃ I:M,I=numBA sn:=⟨_,rfl⟩
     have j1:R.size<=2:=by rw[z];exact zCW (by omega) (by omega)
     have d6:=zh z;have G0:∀ W,ae af 200 #[C E (sn:P)] W λe w'=>e=.returned (Q R)/\w'=W:=by rw[z];exact λW=>aw sn (by omega) W
     have d7:=zh G0;obtain⟨I1,A⟩:∃ I:M,I=numBA tn:=⟨_,rfl⟩
     have j2:I1.size<=2:=by rw[A];exact zCW (by omega) (by omega)
     have d8:=zh A;have G1:∀ W,ae af 200 #[C E (tn:P)] W λe w'=>e=.returned (Q I1)/\w'=W:=by rw[A];exact λW=>aw tn (by omega) W
     have d9:=zh G1;obtain⟨I2,b7⟩:∃ I:M,I=numBA Z:=⟨_,rfl⟩
     have k3:I2.size<=2:=by rw[b7];exact zCW (by omega) (by omega)
     have j3:=zh b7;have G2:∀ W,ae af 200 #[C E (Z:P)] W λe w'=>e=.returned (Q I2)/\w'=W:=by rw[b7];exact λW=>aw Z (by omega) W
     have j4:=zh G2;have z1:¬ 9223372036854775807<5+i.size:=by omega
     have z2:¬ 9223372036854775807<5+i.size+1:=by omega
     have z3:¬ 9223372036854775807<5+i.size+1+R.size:=by omega
     have z4:¬ 9223372036854775807<5+i.size+1+R.size+1:=by omega
     have z5:¬ 9223372036854775807<5+i.size+1+R.size+1+I1.size:=by omega
     have z6:¬ 9223372036854775807<5+i.size+1+R.size+1+I1.size+1:=by omega
     have z7:¬ 9223372036854775807<5+i.size+1+R.size+1+I1.size+1+I2.size:=by omega
     have z8:¬ 9223372036854775807<5+i.size+1+R.size+1+I1.size+1+I2.size+bx.size:=by omega
     clear o up z G0 A G1 b7 G2
     go_wp2_with fail
     refine zQ No [(0,q),(1,q),(2,q),(3,q),(4,q),(5,q),(6,q),(10,q),(11,q),(12,q),(16,q),(17,q),(18,q),(21,q),(7,p),(8,q),(9,q),(13,p),(14,q),(15,q),(19,p),(20,q),(22,q),(23,q)] (by kernel_rfl) (by kernel_rfl) (λw6 u=>?_);have g1:∀ g:Gr No w6,g.W.cell? ⟨w,1,B⟩=T (Q i):=λg=>g.fr.cell (u.cell a1 id) id
     have g3:∀ g:Gr No w6,g.W.cell? ⟨w,3,B⟩=T (C E (sn:P)):=λg=>g.fr.cell (u.cell a3 id) id
     have g4:∀ g:Gr No w6,g.W.cell? ⟨w,4,B⟩=T (C E (tn:P)):=λg=>g.fr.cell (u.cell a4 id) id
     have g5:∀ g:Gr No w6,g.W.cell? ⟨w,5,B⟩=T (C E (Z:P)):=λg=>g.fr.cell (u.cell a5 id) id
     have e0:=zh (V.out.step u zi);clear a0 a1 a2 a3 a4 a5 a6 r5 u
     repeat (apply zT rfl rfl rfl;intro e2 hK;go_big_quiet_op;go_big_quiet_on)
     clear g1 g3 g4 g5;apply zt;exact rfl
     go_wp2_with fail
     refine(d7.out _).mono ?_;rintro Z w7 ⟨rfl,rfl⟩
     go_wp2_with fail
     refine zq ?_
     repeat (apply zT rfl rfl rfl;intro e2 hK;go_big_quiet_op;go_big_quiet_on)
     apply zt;exact rfl
     go_wp2_with fail
     refine(d9.out _).mono ?_;rintro Z w7 ⟨rfl,rfl⟩
     go_wp2_with fail
     refine zq ?_
     repeat (apply zT rfl rfl rfl;intro e2 hK;go_big_quiet_op;go_big_quiet_on)
     apply zt;exact rfl
     go_wp2_with fail
     refine(j4.out _).mono ?_;rintro Z w7 ⟨rfl,rfl⟩
     go_wp2_with fail
     refine zq ?_
     repeat (apply zT rfl rfl rfl;intro e2 hK;go_big_quiet_op;go_big_quiet_on)
     refine zb ?_
     go_wp2_with fail
     go_ret;exact⟨by rw[txt2,<-b6.out,<-d6.out,<-d8.out,<-j3.out];rfl,e0.out⟩
    .have up:(⟨#[99,114,121,112,116,58]⟩:M).size=6:=rfl;have o:=b0.out;have z1:¬ 9223372036854775807<6+i.size:=by omega
     have z2:¬ 9223372036854775807<6+i.size+bx.size:=by omega
     clear o up
     go_wp2_with fail
     go_ret;exact⟨by rw[txt3,<-b6.out];rfl,V.out⟩
    .obtain⟨p0,p1,p2,p3⟩:=h4;obtain⟨sn,rfl⟩:=aq (show 0<=s by omega);obtain⟨tn,rfl⟩:=aq (show 0<=t by omega);have up:(⟨#[112,118,58]⟩:M).size=3:=rfl;have o:=b0.out;obtain⟨R,z⟩:∃ I:M,I=numBA sn:=⟨_,rfl⟩
     have j1:R.size<=2:=by rw[z];exact zCW (by omega) (by omega)
     have d6:=zh z;have G0:∀ W,ae af 200 #[C E (sn:P)] W λe w'=>e=.returned (Q R)/\w'=W:=by rw[z];exact λW=>aw sn (by omega) W
     have d7:=zh G0;obtain⟨I1,A⟩:∃ I:M,I=numBA tn:=⟨_,rfl⟩
     have j2:I1.size<=2:=by rw[A];exact zCW (by omega) (by omega)
     have d8:=zh A;have G1:∀ W,ae af 200 #[C E (tn:P)] W λe w'=>e=.returned (Q I1)/\w'=W:=by rw[A];exact λW=>aw tn (by omega) W
     have d9:=zh G1;have z1:¬ 9223372036854775807<3+i.size:=by omega
     have z2:¬ 9223372036854775807<3+i.size+1:=by omega
     have z3:¬ 9223372036854775807<3+i.size+1+R.size:=by omega
     have z4:¬ 9223372036854775807<3+i.size+1+R.size+1:=by omega
     have z5:¬ 9223372036854775807<3+i.size+1+R.size+1+I1.size:=by omega
     have z6:¬ 9223372036854775807<3+i.size+1+R.size+1+I1.size+bx.size:=by omega
     clear o up z G0 A G1
     go_wp2_with fail
     refine zQ No [(0,q),(1,q),(2,q),(3,q),(4,q),(5,q),(6,q),(10,q),(11,q),(12,q),(15,q),(7,p),(8,q),(9,q),(13,p),(14,q),(16,q),(17,q)] (by kernel_rfl) (by kernel_rfl) (λw6 u=>?_);have g1:∀ g:Gr No w6,g.W.cell? ⟨w,1,B⟩=T (Q i):=λg=>g.fr.cell (u.cell a1 id) id
     have g3:∀ g:Gr No w6,g.W.cell? ⟨w,3,B⟩=T (C E (sn:P)):=λg=>g.fr.cell (u.cell a3 id) id
     have g4:∀ g:Gr No w6,g.W.cell? ⟨w,4,B⟩=T (C E (tn:P)):=λg=>g.fr.cell (u.cell a4 id) id
     have e0:=zh (V.out.step u zi);clear a0 a1 a2 a3 a4 a5 a6 r5 u
     repeat (apply zT rfl rfl rfl;intro e2 hK;go_big_quiet_op;go_big_quiet_on)
     clear g1 g3 g4;apply zt;exact rfl
     go_wp2_with fail
     refine(d7.out _).mono ?_;rintro Z w7 ⟨rfl,rfl⟩
     go_wp2_with fail
     refine zq ?_
     repeat (apply zT rfl rfl rfl;intro e2 hK;go_big_quiet_op;go_big_quiet_on)
     apply zt;exact rfl
     go_wp2_with fail
     refine(d9.out _).mono ?_;rintro Z w7 ⟨rfl,rfl⟩
     go_wp2_with fail
     refine zq ?_
     repeat (apply zT rfl rfl rfl;intro e2 hK;go_big_quiet_op;go_big_quiet_on)
     refine zb ?_
     go_wp2_with fail
     go_ret;exact⟨by rw[txt4,<-b6.out,<-d6.out,<-d8.out];rfl,e0.out⟩
    .have up:(⟨#[116,97,98,108,101,58]⟩:M).size=6:=rfl;have o:=b0.out;have z1:¬ 9223372036854775807<6+i.size:=by omega
     have z2:¬ 9223372036854775807<6+i.size+bx.size:=by omega
     clear o up
     go_wp2_with fail
     go_ret;exact⟨by rw[txt5,<-b6.out];rfl,V.out⟩
structure Fit (c:Ct):Prop where
 good:c.good=p
 depth:c.depth<=6
 len:c.text.length<=256
 count:c.count<=10000
theorem Fit.valid (h:Fit c):c.valid=true:=by unfold ax;rw[h.good,decide_eq_true h.depth];rfl
theorem Fit.small (h:Fit c):∀ d∈c.walk,SmallC 100000 d:=λd u=>by
 have o:=h.good;rw[zD7]at o;have v:=List.all_eq_true.1 o d u;obtain⟨k,i,l,s,t,e,n⟩:=d;obtain⟨y,z⟩:=zEQ v;exact⟨bc y (by omega),bc z (by omega)⟩
theorem zBh (h:parseC s=T c):Fit c/\c.txt=s:=by
 have v:=(zBC s c).1 h;obtain⟨y,z,u⟩:=v;have o:=z;unfold ax at o;rw[Bool.and_eq_true,decide_eq_true_eq]at o;refine⟨⟨o.2,o.1,by rw[u];exact y,?_⟩,zDG (by rw[zB7,u])⟩;have A:¬ 256<(bl s).length:=by omega
 unfold parseC at h;rw[if_neg A]at h;split at h
 .rename_i D F;have I:=(zFN _).1 _ _ _ F;split at h
  .injection h with h
   subst h;have J:D.count+([]:ag UInt8).length<=(bl s).length+1:=I;rw[List.length_nil]at J;omega
  .cases h
 .cases h
theorem Fit.inner {k s t e:P}{i l:M}{n:ag Ct}(h:Fit (.mk k i l s t e n)){d:Ct}(o:d∈n):Fit d:=by
 have v:=zC3 h.good;have y:=zOy h.good;have A:=zC7 (bg (f:=ao) o);have D:(commas (n.map ao)).length<=_:=y;have F:=h.len;have I:=zBF o;have J:=zGL o;have u:=h.depth;have z:=h.count;rw[am]at z;rw[Ct.depth]at u;exact⟨List.all_eq_true.1 v.2 d o,by split at u<;>omega,by omega,by omega⟩
theorem zMV (k s t e:P)(i l:M)(n:ag Ct)(a:ai aj)(h:H)(w:ac)(X:H->Prop)(I:InAt w X a h n)(z:Fit (.mk k i l s t e n)):
  ae af 202 #[aa #[C E k,Q i,Q l,C E s,C E t,C E e,G a n.length h]] w λR w2=>R=.returned (.tuple #[Q (L k i l s t e n).txt,C E 0])/\Fr No w w2:=by
 have N:Fr No w (w.alloc (S #[C E k,Q i,Q l,C E s,C E t,C E e,G a n.length h] 224)):=(ab _ _).alloc _;have O:=zF w (S #[C E k,Q i,Q l,C E s,C E t,C E e,G a n.length h] 224);obtain⟨U,A⟩:∃ U,U=w.alloc (S #[C E k,Q i,Q l,C E s,C E t,C E e,G a n.length h] 224):=⟨_,rfl⟩
 rw[<-A]at N O;have o:=I.fr N (λ_ _=>id);have H0:=zh N;have D:=zK3 (.mk k i l s t e n) X _ U (CAt.of_in o k i l s t e) z.count z.small;rw[if_pos z.valid]at D;have V:=z.count;have J:=z.len;have Y:(L k i l s t e n).txt.size<=256:=J;have HF:=zh z;clear z N I;obtain⟨Z,a1,a2,a3,a4,a5,a6⟩:=cl7 O
 go_enter Tryz.func202,Tryz.ntmps202
 go_upto_region 1 with(fail)
 rw[<-A];clear A
 go_wp2_with fail
 refine D.mono ?_;rintro R w1 ⟨rfl,v⟩;have q2:=v.heap O id;have a7:=zh (H0.out.step v zi);have y:=o.fr v (λ_ _=>id);have F:=zMS 10000 (by omega) k s t e i l n a h w1 X (by rw[am]at V;omega) y HF.out.good (by omega);obtain⟨tx,u⟩:∃ tx,tx=(L k i l s t e n).txt:=⟨_,rfl⟩
 rw[<-u]at F Y;have a8:=zh u;clear u;clear Z a1 a2 a3 a4 a5 a6 O D o v;obtain⟨Z,a1,a2,a3,a4,a5,a6⟩:=cl7 q2
 go_wp2_with fail
 refine F.mono ?_;rintro R w2 ⟨rfl,a9⟩;have b0:=zh (a7.out.step a9 zi);have b1:¬ (256:P)<(tx.size:P):=by omega
 clear Z a1 a2 a3 a4 a5 a6 y F
 go_wp2_with fail
 go_ret2
 exact⟨by rw[<-a8.out];rfl,b0.out⟩
def zOP (w:ac)(s:M)(kd:P)(e:Ending)(w':ac):Prop:=
 ((∀ c,parseC s=T c->c.kind≠kd)/\e=.returned (.tuple #[aa #[C E 0,Q ⟨#[]⟩,Q ⟨#[]⟩,C E 0,C E 0,C E 0,G B 0 0],G B 0 0,.bool q]))\/
 (∃ (k sl t le:P) (i l:M) (n:ag Ct) (a a':ai aj) (cap cap':H),parseC s=T (.mk k i l sl t le n)/\k=kd/\e=.returned (.tuple #[aa #[C E k,Q i,Q l,C E sl,C E t,C E le,G a n.length cap],G a' n.length cap',.bool p])/\InAt w' (From (w:H)) a cap n/\Strs w' a' cap' (n.map ah)/\∀ ad,a'=T ad->(w:H)<=ad.block)
theorem zIW (s:M)(kd:P)(w:ac)(hE:Env w)(hs:s.size<=100000):
  ae af 156 #[Q s,C E kd] w λen w2=>zOP w s kd en w2/\Fr No w w2:=by
 obtain⟨i0,g9,h1,h2,h4⟩:=info_parts infoS;have h0:Fr No w (w.alloc (S #[C E 0,Q ⟨#[]⟩,Q ⟨#[]⟩,C E 0,C E 0,C E 0,G B 0 0] 224)):=(ab _ _).alloc _;have q0:=zF w (S #[C E 0,Q ⟨#[]⟩,Q ⟨#[]⟩,C E 0,C E 0,C E 0,G B 0 0] 224);have h5:(w:H)<(w.alloc (S #[C E 0,Q ⟨#[]⟩,Q ⟨#[]⟩,C E 0,C E 0,C E 0,G B 0 0] 224)).heap.size:=by simp
 obtain⟨W0,d7⟩:∃ W0,W0=w.alloc (S #[C E 0,Q ⟨#[]⟩,Q ⟨#[]⟩,C E 0,C E 0,C E 0,G B 0 0] 224):=⟨_,rfl⟩
 rw[<-d7]at h0 q0 h5;have e0:=zOF s W0 (hE.no h0) hs;have H0:=zh h0;clear h0 hE
 go_enter Tryz.func156,Tryz.ntmps156
 go_upto_region 1 with(fail)
 rw[<-d7];clear d7
 go_wp2_with fail
 refine e0.mono ?_;rintro en w1 ⟨e2,a5⟩;have j0:=a5.size;have q1:=a5.heap q0 id;have e3:=zh (H0.out.step a5 zi);clear e0 q0 a5;rcases e2 with⟨er,e4,j1,rfl⟩|⟨vs,c,d8,rfl,e5⟩
 .have Hn:K (∀ c,parseC s=T c->c.kind≠kd):=λc h=>by rw[e4]at h;cases h
  clear e4;have V:Fr No w1 (w1.alloc (S #[C E 0,Q ⟨#[]⟩,Q ⟨#[]⟩,C E 0,C E 0,C E 0,G B 0 0] 224)):=(ab _ _).alloc _;have X:=V.heap q1 id;have qt:=zF w1 (S #[C E 0,Q ⟨#[]⟩,Q ⟨#[]⟩,C E 0,C E 0,C E 0,G B 0 0] 224);have Z:=zh (e3.out.step V zi);clear q1 V
  go_upto_region 2 with(fail)
  generalize w1.alloc (S #[C E 0,Q ⟨#[]⟩,Q ⟨#[]⟩,C E 0,C E 0,C E 0,G B 0 0] 224)=W2 at *;obtain⟨b0,b1,b2,b3,b4,b5,b6⟩:=cl7 X;obtain⟨f0,f1,f2,f3,f4,f5,f6⟩:=fl7 X;have R:=set7 X rfl (C E 0) (Q ⟨#[]⟩) (Q ⟨#[]⟩) (C E 0) (C E 0) (C E 0) (G B 0 0);have y:=zh (Z.out.step R.2 (λb hb h=>by omega));have o:=zh R.1;clear R
  go_wp2_with fail
  have y0:=zB o.out 0;have y1:=zB o.out 1;have y2:=zB o.out 2;have y3:=zB o.out 3;have y4:=zB o.out 4;have y5:=zB o.out 5;have y6:=zB o.out 6;refine ak (v:=.tuple #[aa #[C E 0,Q ⟨#[]⟩,Q ⟨#[]⟩,C E 0,C E 0,C E 0,G B 0 0],G B 0 0,.bool q]) (by simp[al,bd,go_sem,y0,y1,y2,y3,y4,y5,y6]) rfl ?_;exact⟨.inl ⟨Hn.out,rfl⟩,y.out⟩
 .obtain⟨k,i,l,sl,t,le,n⟩:=c;obtain⟨d2,e6⟩:=zBh d8;obtain⟨a,z,rfl,e7⟩:=e5.inAt;have e8:=zh d8;clear d8 e5 e6;have V:Fr No w1 (w1.alloc (S #[C E k,Q i,Q l,C E sl,C E t,C E le,G a n.length z] 224)):=(ab _ _).alloc _;have X:=V.heap q1 id;have qt:=zF w1 (S #[C E k,Q i,Q l,C E sl,C E t,C E le,G a n.length z] 224);have Z:=zh (e3.out.step V zi);have d3:=zh (e7.fr V (λ_ _=>id));have d4:=zh d2;clear q1 V e7 d2
  go_upto_region 2 with(fail)
  generalize w1.alloc (S #[C E k,Q i,Q l,C E sl,C E t,C E le,G a n.length z] 224)=W2 at *;obtain⟨a6,a7,a8,a9,b7,b8,b9⟩:=cl7 qt;by_cases hk:k=kd
  .have Hk:=zh hk;subst hk;have h6:=d4.out.count;rw[am]at h6;have j2:=zAa n;have j3:=zC qt
   go_wp2_with fail
   go_loopw [9,31] (λv x wr=>∃ (j:H) (av:ai aj) (cv:H),j<=n.length/\v=G av j cv/\x=C E (j:P)/\wr.ownsRow (W2:H) 9 1 (G av j cv) j (((n.take j).map ah).map an)/\Fr (From (W2:H)) W2 wr) (λ_ x _=>n.length-(ap x).toNat)
   case atStart=>exact⟨0,B,0,by omega,rfl,rfl,bm _ _ _ _,ab _ _⟩
   case round=>
    obtain⟨j,av,cv,hj,rfl,rfl,A,u⟩:=hrel;by_cases h8:j<n.length
    .have e9:(j:P)<n.length:=by omega
     obtain⟨d,hd⟩:∃ d,n[j]?=T d:=⟨_,az h8⟩
     have g0:=ba hd;have g1:=d4.out.inner g0;have g2:K (((n.take (j+1)).map ah).map an=((n.take j).map ah).map an++[Q d.txt]):=by unfold K;rw[bb,hd];simp
     obtain⟨k1,i1,l1,s1,t1,e1,n1⟩:=d;have D:InAt wr (λb=>b<(W2:H)) a z n:=by
      have h3:=d3.out.mono (Y:=λb=>b<(W2:H)) (λb hb _=>hb);exact h3.fr u (λb hb h=>by omega)
     obtain⟨b,j4,a',F,rfl,hb,hX,⟨y0,y1,y2,y3,y4,y5,y6⟩,d5⟩:=D.at hd;have j5:=u.size;clear hd D g0 a6 a7 a8 a9 b7 b8 b9;have V:Fr No wr (wr.alloc (S #[C E k1,Q i1,Q l1,C E s1,C E t1,C E e1,G a' n1.length F] 224)):=(ab _ _).alloc _;have d9:=zMV k1 s1 t1 e1 i1 l1 n1 a' F _ _ (d5.fr V (λ_ _=>id)) g1;obtain⟨tx,d6⟩:∃ tx,tx=(L k1 i1 l1 s1 t1 e1 n1).txt:=⟨_,rfl⟩
     rw[<-d6]at d9 g2;clear d6 g1
     go_wp2_with fail
     refine d9.mono ?_;rintro e w2 ⟨rfl,g3⟩;have d0:=V.step g3 zi;have h9:=zh (u.step d0 zn);have I:=zAS A d0 zi;have j6:=d0.size;clear V g3 u y0 y1 y2 y3 y4 y5 y6 d5 A d0 d9
     go_wp2_with (at_builtin;refine bn _ rfl _ _ 30 rfl (W2:H) 9 i0 (Q be) 1 16 bj g9 h1 h2 h4 rfl (by decide) _ _ _ rfl (I.alloc _) ⟨w2,0,B⟩ 1 1 [Q tx] rfl rfl (cell_one_new _ _ _) (zBN [tx]) (by unfold maxLen;omega) (by omega) (by first|omega|(simp;done)|(simp;omega)) ?_;intro v' wb J a3 _;obtain⟨i2,i3,rfl⟩:=zI J)
     have g4:Fr (From (W2:H)) w2 wb:=zB5 I a3;have i4:=zh (h9.out.step g4 zi);have g5:=zh J;clear J a3 g4 I
     go_roundw
     case rel=>exact⟨j+1,i2,i3,by omega,rfl,by go_num,by rw[g2.out];exact g5.out,i4.out⟩
     case measure=>simp[ap];omega
    .have e9:¬ (j:P)<n.length:=by omega
     obtain rfl:j=n.length:=by omega
     rw[bh]at A;have q3:=u.heap X (λh=>by omega);have i5:=u.heap qt (λh=>by omega);have i6:=zh (Z.out.trans (U:=No) u zi (λb hb h=>by have:=Z.out.size;omega));have D:InAt wr (λb=>(w:H)<b) a z n:=by
      have h3:=d3.out.mono (Y:=λb=>(w:H)<b/\b<(W2:H)) (λb hb h=>⟨by omega,hb⟩);exact(h3.fr u (λb hb h=>by omega)).mono (λb _ h=>h.1)
     have a4:(n.map ah).length=n.length:=bf _;have d1:∃ a' F,Value.slice av n.length cv=G a' (n.map ah).length F/\Strs wr a' F (n.map ah)/\∀ ad,a'=T ad->(W2:H)<=ad.block:=bi (by rw[a4];exact A);obtain⟨a2,i9,ev,d1,N⟩:=d1;rw[a4]at ev;cases ev;have i7:=zh d1;have O:=zh N;have g6:=zh D;clear u X qt A d1 D N a4 a6 a7 a8 a9 b7 b8 b9;obtain⟨a6,a7,a8,a9,b7,b8,b9⟩:=cl7 i5;obtain⟨b0,b1,b2,b3,b4,b5,b6⟩:=cl7 q3;obtain⟨f0,f1,f2,f3,f4,f5,f6⟩:=fl7 q3;have R:=set7 q3 rfl (C E k) (Q i) (Q l) (C E sl) (C E t) (C E le) (G a n.length z);have y:=zh (i6.out.step R.2 (λb hb h=>by omega));have g7:=zh (i7.out.fr R.2 (λad e j7 h=>by have:=O.out ad e;omega));have g8:=zh ((g6.out.fr R.2 (λb hb h=>by omega)).mono (Y:=From (w:H)) (λb _ h=>by omega));have o:=zh R.1;clear R
     go_wp2_with fail
     have y0:=zB o.out 0;have y1:=zB o.out 1;have y2:=zB o.out 2;have y3:=zB o.out 3;have y4:=zB o.out 4;have y5:=zB o.out 5;have y6:=zB o.out 6;refine ak (v:=.tuple #[aa #[C E k,Q i,Q l,C E sl,C E t,C E le,G a n.length z],G av n.length cv,.bool p]) (by simp[al,bd,go_sem,y0,y1,y2,y3,y4,y5,y6]) rfl ?_;exact⟨.inr ⟨k,sl,t,le,i,l,n,a,av,z,cv,e8.out,rfl,rfl,g8.out,g7.out,λad e=>by have:=O.out ad e;omega⟩,y.out⟩
  .have i8:=zh X;clear a7 a8 a9 b7 b8 b9 X qt;have Hn:K (∀ c,parseC s=T c->c.kind≠kd):=λc h=>by rw[e8.out]at h;cases h;exact hk
   go_upto_region 3 with(fail)
   have X:=i8.out;clear a6;obtain⟨b0,b1,b2,b3,b4,b5,b6⟩:=cl7 X;obtain⟨f0,f1,f2,f3,f4,f5,f6⟩:=fl7 X;have R:=set7 X rfl (C E 0) (Q ⟨#[]⟩) (Q ⟨#[]⟩) (C E 0) (C E 0) (C E 0) (G B 0 0);have y:=zh (Z.out.step R.2 (λb hb h=>by omega));have o:=zh R.1;clear R
   go_wp2_with fail
   have y0:=zB o.out 0;have y1:=zB o.out 1;have y2:=zB o.out 2;have y3:=zB o.out 3;have y4:=zB o.out 4;have y5:=zB o.out 5;have y6:=zB o.out 6;refine ak (v:=.tuple #[aa #[C E 0,Q ⟨#[]⟩,Q ⟨#[]⟩,C E 0,C E 0,C E 0,G B 0 0],G B 0 0,.bool q]) (by simp[al,bd,go_sem,y0,y1,y2,y3,y4,y5,y6]) rfl ?_;exact⟨.inl ⟨Hn.out,rfl⟩,y.out⟩
end Go.Proofs.YtckkocmhlhefpaaGreatDoor
