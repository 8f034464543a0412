import Derived.Test.YtckkocmhlhefpaaGreatDoorQ8
namespace Go.Proofs.YtckkocmhlhefpaaGreatDoor
open Go.RowKit Go.Maps
set_option linter.unusedVariables false
set_option maxRecDepth 100000
set_option maxHeartbeats 2000000
open Dev renaming vals->aq
open Fr renaming refl->ai
open Go renaming World->ab,Calls->ah,maxLen->aj,Addr->am,info_parts->bd,wpList_store_row->bq
open Go.Proofs renaming intOf->ax
open Go.Proofs.Tryz renaming prog->ae,zeroCells155->aw,func193->bi,func25->bj,ntmps193->bm,ntmps25->bn,underlying155->bo,underlying45->bp
open Go.RowKit renaming Hid->f
open Go.Value renaming slice->bc
open IntKind renaming i64->E
open Obj renaming cells->a0
open Value renaming string->C,int->G,slice->p,pointer->ao,agg->ap
open _root_ renaming Nat->B,ByteArray->a1,Int->af,List->ag,Option->al
open _root_.Bool renaming false->ar
open _root_.ByteArray renaming empty->ak
open _root_.List renaming mem_of_getElem?->ay,take_of_length_le->az,take_add_one->ba,all_append->be,all_eq_false->bf,getElem?_append_left->bg,getElem?_append_right->bh
open _root_.Nat renaming le_refl->au
open _root_.Option renaming some->q,none->M
variable{w w':ab}{u ds:ag Dev}{o:B}{d:Dev}{S:B->Prop}
theorem zDH (a:al am)(y:B)(l:ag (a1×a1))(w:ab)(D:Atts w a y l)(U:l.length<=1000000):
  ah ae 25 #[p a l.length y] w λe w'=>(∃ v z,e=.returned (p v l.length z)/\Atts w' v z l/\BlkT w' v 78/\∀ A,v=q A->(w:B)<=A.block)/\Fr No w w':=by
 obtain⟨V,X,F,I,J⟩:=bd infoA;cases a with
 | none=>
  obtain⟨rfl,rfl⟩:=D.isNil rfl;have Y:=zFf
  go_enter bj,bn
  go_wp2_with fail
  go_ret;exact⟨⟨M,0,rfl,Atts.nil _,BlkT.none _ _,λ_ e=>by cases e⟩,ai _ _⟩
 | some A=>
  have Z:Fr No w (w.alloc (a0 #[] 78)):=(ai _ _).alloc _;have N:=D.no Z (λ_=>id);have Y:=zFf
  go_enter bj,bn
  have u:(w.alloc (a0 #[] 78)).ownsRow (w:B) 78 2 (p (q ⟨w,0,M⟩) 0 0) 0 []:=
   ⟨rfl,.inr ⟨(w:B),0,#[],rfl,au _,zF _ _,au _,by unfold aj;omega,rfl,rfl⟩⟩
  go_wp2_with (at_builtin;refine zx rfl _ _ 34 rfl (w:B) 78 V (ap #[C ak,C ak]) 2 32 Tryz.underlying34 X F I J rfl (by decide) _ 0 [] rfl u (q A) l.length _ (aflat l) rfl (λe=>by cases e) (zBp l) (λO e=>N.src O e) (zBo l) (by unfold aj;omega) (by omega) (by simp) ?_;intro v' w1 o R)
  go_ret;simp only[Nat.zero_add,List.nil_append]at o;obtain⟨v,z,hv,h1,h2⟩:=Atts.of_own o D.wf;subst hv;exact⟨⟨v,z,rfl,h1,zAG o,h2⟩,((ai No w).alloc _).step (zEl u R) (λb U h=>by omega)⟩
theorem zBX (d:Dev)(l:ag (a1×a1))(w:ab)(hl:Atts w d.aa d.ac l)(Y:d.an=l.length)(hb:l.length<=1000000):
  ah ae 91 #[ap d.vals] w λe w'=>(∃ y D,e=.returned (ap ({ d with aa:=y,ac:=D }:Dev).vals)/\Atts w' y D l/\BlkT w' y 78/\∀ u,y=q u->(w:B)<=u.block)/\Fr No w w':=by
 obtain⟨ix,I,nm,J,N,O,R,U,V,aa,an,ac⟩:=d;dsimp only at Y hl;subst Y;have hx:Fr No w ((w.alloc (a0 #[G E ix,G E I,C nm,C J,C N,C O,C R,G E U,G E V,p aa l.length ac] 36)).alloc (a0 #[G E 0,G E 0,C ⟨#[]⟩,C ⟨#[]⟩,C ⟨#[]⟩,C ⟨#[]⟩,C ⟨#[]⟩,G E 0,G E 0,p M 0 0] 36)):=((ai _ _).alloc _).alloc _;have q0:=zO w (a0 #[G E ix,G E I,C nm,C J,C N,C O,C R,G E U,G E V,p aa l.length ac] 36) (a0 #[G E 0,G E 0,C ⟨#[]⟩,C ⟨#[]⟩,C ⟨#[]⟩,C ⟨#[]⟩,C ⟨#[]⟩,G E 0,G E 0,p M 0 0] 36);have q1:=zR w (a0 #[G E ix,G E I,C nm,C J,C N,C O,C R,G E U,G E V,p aa l.length ac] 36) (a0 #[G E 0,G E 0,C ⟨#[]⟩,C ⟨#[]⟩,C ⟨#[]⟩,C ⟨#[]⟩,C ⟨#[]⟩,G E 0,G E 0,p M 0 0] 36);show ah ae 91 #[ap #[G E ix,G E I,C nm,C J,C N,C O,C R,G E U,G E V,p aa l.length ac]] w _
 go_enter Tryz.func91,Tryz.ntmps91
 go_upto_region 1 with(fail)
 have a4:(w:B)+2<=((w.alloc (a0 #[G E ix,G E I,C nm,C J,C N,C O,C R,G E U,G E V,p aa l.length ac] 36)).alloc (a0 #[G E 0,G E 0,C ⟨#[]⟩,C ⟨#[]⟩,C ⟨#[]⟩,C ⟨#[]⟩,C ⟨#[]⟩,G E 0,G E 0,p M 0 0] 36)).heap.size:=by simp
 generalize (w.alloc (a0 #[G E ix,G E I,C nm,C J,C N,C O,C R,G E U,G E V,p aa l.length ac] 36)).alloc (a0 #[G E 0,G E 0,C ⟨#[]⟩,C ⟨#[]⟩,C ⟨#[]⟩,C ⟨#[]⟩,C ⟨#[]⟩,G E 0,G E 0,p M 0 0] 36)=W0 at *;have c9:W0.cell? ⟨w,9,M⟩=q (p aa l.length ac):=zB q0 9;have a5:(w:B)<=(W0:B):=hx.size
 go_wp2_with fail
 refine(zDH aa ac l _ (hl.no hx (λ_=>id)) hb).mono ?_;rintro e Z ⟨⟨y,D,rfl,hA,hB,o⟩,X⟩;have p0:=X.heap q0 id;have p1:=X.heap q1 id;clear c9 q0 q1;have c9:Z.cell? ⟨w,9,M⟩=q (p aa l.length ac):=zB p0 9;have f9:Z.frozen? ⟨w,9,M⟩=false:=zD p0 9
 go_upto_region 2 with(fail)
 have z:Fr (Is (w:B)) Z (Z.setCell ⟨w,9,M⟩ (p y l.length D)):=Fr.setAt (ai _ _) _;have r0:=zE p0 9 (p y l.length D);have r1:=z.heap p1 (λe=>by omega);have a2:=hA.fr z (λu e _ h=>by have:=o u e;omega);have a3:=hB.fr z (λu e h=>by have:=o u e;omega);clear p0 p1 c9 f9;generalize Z.setCell ⟨w,9,M⟩ (p y l.length D)=W1 at *;obtain⟨c0,c1,c2,c3,c4,c5,c6,c7,c8,c9⟩:=cl10 r0;obtain⟨z0,z1,z2,z3,z4,z5,z6,z7,z8,z9⟩:=cl10 r1;obtain⟨y0,y1,y2,y3,y4,y5,y6,y7,y8,y9⟩:=fl10 r1;have F:=zBA r1 rfl ⟨ix,I,nm,J,N,O,R,U,V,y,l.length,D⟩;have A:f _:=And.intro (And.intro (a2.fr F.2 (λu e _ h=>by have:=o u e;omega)) (a3.fr F.2 (λu e h=>by have:=o u e;omega))) ((((hx.step X zi).step z (λb hb e=>by omega)).step F.2 (λb hb e=>by omega)));clear F a2 hA hB a3 r0 r1 z
 go_wp2_with fail
 refine bodyPost_ret (v:=ap #[G E ix,G E I,C nm,C J,C N,C O,C R,G E U,G E V,p y l.length D]) (by simp[results,Tryz.results91,go_sem,z0,z1,z2,z3,z4,z5,z6,z7,z8,z9]) rfl ?_;exact⟨⟨y,D,rfl,A.out.1.1,A.out.1.2,λu e=>by have:=o u e;omega⟩,A.out.2⟩
structure Cop1 (w w':ab)(base:B)(d d':Dev):Prop where
 eq:d'={ d with aa:=d'.aa,ac:=d'.ac }
 att:∃ l,Atts w d.aa d.ac l/\Atts w' d'.aa d'.ac l/\d.an=l.length/\l.length<=24
 typ:BlkT w' d'.aa 78
 fresh:∀ ad,d'.aa=q ad->base<=ad.block
structure Cop (w w':ab)(base:B)(ds ds':ag Dev):Prop where
 len:ds'.length=ds.length
 el:∀ (i:B) (d d':Dev),ds[i]?=q d->ds'[i]?=q d'->Cop1 w w' base d d'
theorem Cop1.fr {u:ab}{y:Dev}(h:Cop1 w w' o d y)(z:Fr S w' u)(A:∀ v,y.aa=q v->¬ S v.block):Cop1 w u o d y:=by
 obtain⟨l,D,F,I⟩:=h.att;exact⟨h.eq,⟨l,D,F.fr z (λv e _=>A v e),I⟩,h.typ.fr z A,h.fresh⟩
theorem Cop.fr {v:ab}(h:Cop w w' o ds u)(D:Fr S w' v)(F:∀ d∈u,∀ y,d.aa=q y->¬ S y.block):Cop w v o ds u:=
 ⟨h.len,λi d z I A=>(h.el i d z I A).fr D (F z (ay A))⟩
theorem Cop.nil (w w':ab)(o:B):Cop w w' o [] []:=⟨rfl,λi d u h=>by simp at h⟩
theorem Cop.snoc {z:Dev}(h:Cop w w' o ds u)(D:Cop1 w w' o d z):Cop w w' o (ds++[d]) (u++[z]):=by
 have A:=h.len;refine⟨by simp[A],λi x F e v=>?_⟩;by_cases I:i<ds.length
 .rw[bg I]at e;rw[bg (by omega)]at v;exact h.el i x F e v
 .have y:i=ds.length:=by
   have:=(List.getElem?_eq_some_iff.1 e).1;simp at this;omega
  subst y;rw[bh (au _)]at e;rw[bh (by omega),A]at v;simp at e v;subst e;subst v;exact D
theorem Cop.mem (h:Cop w w' o ds u){v:Dev}(A:v∈u):∃ d∈ds,Cop1 w w' o d v:=by
 obtain⟨i,y⟩:=List.getElem?_of_mem A;have z:i<ds.length:=by have:=(List.getElem?_eq_some_iff.1 y).1;have:=h.len;omega
 exact⟨ds[i],List.getElem_mem z,h.el i _ _ (List.getElem?_eq_getElem z) y⟩
theorem Cop.own {y z:ab}{base':B}{v:Value}{n:B}{A:ag Value}(h:Cop w y o ds u)(D:y.ownsRow base' 36 10 v n A)(F:Fr (λb=>v.ownBlock=q b) y z):Cop w z o ds u:=
 h.fr F (λd I J e N=>by
  obtain⟨x,_,O⟩:=h.mem I;exact O.typ.ne D (by decide) J e N)
theorem zCC (a:al am)(b0:B)(ds:ag Dev)(w:ab)(hl:Devs w a b0 ds)(hn:ds.length<=1000)(b1:∀ d∈ds,∃ l,Atts w d.aa d.ac l/\d.an=l.length/\l.length<=24):
  ah ae 90 #[p a ds.length b0] w λe w'=>(∃ v X,e=.returned v/\w'.ownsRow (w:B) 36 10 v X.length (flat X)/\Cop w w' (w:B) ds X)/\Fr No w w':=by
 obtain⟨i0,b9,d0,d1,d2⟩:=bd infoD;have e3:=hl.lenmax;have d3:=zh b1;have Hn:=zh hn;clear b1 hn
 go_enter Tryz.func90,Tryz.ntmps90
 go_wp2_with fail
 go_loopw [3,8] (λv i wr=>∃ (j:B) (O:ag Dev) (av:al am) (cv:B),j<=ds.length/\O.length<=j/\v=p av O.length cv/\i=G E (j:af)/\wr.ownsRow (w:B) 36 10 (p av O.length cv) O.length (flat O)/\Cop w wr (w:B) (ds.take j) O/\Fr (From (w:B)) w wr) (λ_ i _=>ds.length-(ax i).toNat)
 case atStart=>exact⟨0,[],M,0,by omega,by simp,rfl,rfl,World.ownsRow_nil _ _ _ _,by simpa using Cop.nil _ _ _,ai _ _⟩
 case round=>
  obtain⟨j,O,av,cv,hj,e4,rfl,rfl,y,hC,Y⟩:=hrel;by_cases d4:j<ds.length
  .have e1:(j:af)<ds.length:=by omega
   have d5:∀ N,a=q N->ds≠[]->¬ From (w:B) N.block:=λN e Z h=>by have:=(hl.cell N e Z).2.1;omega
   obtain⟨bb,e5,d,rfl,hd,c0,c1,c2,c3,c4,c5,c6,c7,c8,c9⟩:=(hl.fr Y d5).dev d4;have R:=ay hd;obtain⟨l,I,a2,b2⟩:=d3.out d R;have hA:Atts wr d.aa d.ac l:=I.fr Y (λN e Z h=>by have:=(I.cell N e Z).2.1;omega);have d6:f (ds.take (j+1)=ds.take j++[d]):=by unfold f;rw[ba,hd];rfl
   have a3:=zg3 I a2 b2;clear hd R I;obtain⟨W1,a4,J,q1⟩:=zy wr (a0 d.vals 36);have a5:=zBX d l W1 (hA.no J (λ_=>id)) a2 (by omega);obtain⟨z0,z1,z2,z3,z4,z5,z6,z7,z8,z9⟩:=DevB.of q1;have e6:=Y.size;have e7:=J.size;have e2:=zC q1;unfold aq at a4;clear a2 b2 hA;unfold aq at a5
   go_upto_region 5 with(fail)
   rw[<-a4];clear a4 c0 c1 c2 c3 c4 c5 c6 c7 c8 c9
   go_wp2_with fail
   refine a5.mono ?_;rintro e w2 ⟨⟨U,V,rfl,b3,b4,z⟩,a6⟩;clear a5 z0 z1 z2 z3 z4 z5 z6 z7 z8 z9 q1;have A:Fr No wr w2:=J.step a6 zi;have o:=zG y A (λ_ _=>id);have b5:=hC.fr A (λ_ _ _ _=>id);have e8:=a6.size;have d7:f (Cop1 w w2 (w:B) d { d with aa:=U,ac:=V }):=⟨rfl,⟨l,a3.out.1,b3,a3.out.2.1,a3.out.2.2⟩,b4,λN e=>by have:=z N e;omega⟩
   have e9:O.length<=1000:=by have:=Hn.out;omega
   have a7:=zh o;have d8:=zh b5;have Hf:=zh Y;have b6:=zh A;clear hC b5 y Y A J a6 b3 b4 z
   go_wp2_with (at_builtin;refine wpList_append_own _ rfl _ _ 45 rfl (w:B) 36 i0 (ap #[G E 0,G E 0,C ak,C ak,C ak,C ak,C ak,G E 0,G E 0,p M 0 0]) 10 136 bp b9 d0 d1 d2 rfl (by decide) _ _ _ rfl (o.alloc _) ⟨w2,0,M⟩ 1 1 (aq { d with aa:=U,ac:=V }).toList rfl rfl (zg _ (aq { d with aa:=U,ac:=V }) _ rfl) (zAT _) (by unfold aj;omega) (by omega) (by first|omega|(simp;done)|(simp;omega)) ?_;intro v' w6 u D _;obtain⟨d9,e0,rfl⟩:=zI u)
   have a8:Fr No w2 (w2.alloc (a0 (aq { d with aa:=U,ac:=V }) 36)):=(ai _ _).alloc _;have F:=a7.out.alloc (a0 (aq { d with aa:=U,ac:=V }) 36);have a9:Fr (λb=>(bc av O.length cv).ownBlock=q b) (w2.alloc (a0 (aq { d with aa:=U,ac:=V }) 36)) w6:=Fr.of_grown D;have b7:Cop w w6 (w:B) (ds.take (j+1)) (O++[{ d with aa:=U,ac:=V }]):=by
    rw[d6.out];exact((d8.out.snoc d7.out).fr a8 (λ_ _ _ _=>id)).own F a9
   have b8:Fr (From (w:B)) w w6:=((Hf.out.step b6.out (λb _ h=>h.elim)).step a8 zn).step a9 (λb _ h=>zP F h);have HF:=zg3 u b7 b8;clear u b7 b8 D a9 F a8 o
   go_roundw
   case rel=>exact⟨j+1,O++[{ d with aa:=U,ac:=V }],d9,e0,by omega,by simp;omega,by simp,by go_num,by rw[List.length_append,zCe];exact HF.out.1,HF.out.2.1,HF.out.2.2⟩
   case measure=>simp[ax];omega
  .obtain rfl:j=ds.length:=by omega
   rw[List.take_length]at hC;have H:=zg3 y hC (Y.mono (T:=No) (λb hb h=>by omega));clear y hC Y
   go_wp2_with fail
   go_ret;exact⟨⟨_,O,rfl,H.out.1,H.out.2.1⟩,H.out.2.2⟩
def goodF : UInt8->Bool:=λc=>zAx c||(⟨#[64,35,61,37]⟩:a1).data.toList.contains c
theorem zNm (w:ab):
  ah ae 190 #[] w λe w'=>e=.returned (ap (bits goodF))/\Fr No w w':=by
 have y:(Tryz.prog.info? 155).map (·.size)=q 256:=by kernel_rfl
 have N:Tryz.zeroCells155.size=256:=by kernel_rfl
 have z:Fr No w (w.alloc (a0 aw 155)):=(ai _ _).alloc _;have A:=zF w (a0 aw 155);have D:=zg2 A z;clear A z;have F:=λW=>zBE zAx ⟨#[64,35,61,37]⟩ W (by decide)
 have O:=zh F;clear F
 go_enter Tryz.func190,Tryz.ntmps190
 go_wp2_with fail
 refine(zDv _).mono ?_;rintro e V ⟨rfl,h⟩
 go_wp2_with fail
 refine(O.out _).mono ?_;rintro e R ⟨rfl,o⟩;have u:=(D.out.2.step h zi).step o zi;have I:=o.heap (h.heap D.out.1 id) id
 go_wp2_with (refine bq rfl 155 _ _ rfl (w:B) (bits goodF) rfl rfl 155 _ I (by rw[zAC];exact y) (by rw[zAC];exact N) (zDT _) ?_)
 have U:=setRow_heap R (w:B) _ (bits goodF) 155 (0,0) I;refine bodyPost_ret (v:=ap (bits goodF)) (results_cell_row rfl _ _ (w:B) 155 _ (0,0) _ rfl U bo rfl (by rw[zAC];exact y)) rfl ?_;exact⟨rfl,u.step (T:=Is (w:B)) ⟨rfl,rfl,rfl,by simp,λb _ J=>setRow_other _ _ _ _ (λe=>J e)⟩ (λb J e=>by omega)⟩
def dotsB (s:a1):Bool:=decide (s.toList=[46])||decide (s.toList=[46,46])
def zBa (s:a1):Bool:=!s.toList.isEmpty&&!dotsB s&&allB goodF s
theorem zKN (z:B)(s:a1)(w:ab)(F:w.heap[z]?=q (a0 (bits goodF) 155))(J:s.size<=aj):
  ah ae 193 #[C s,ao (q ⟨z,0,M⟩)] w λe w'=>e=.returned (.bool (zBa s))/\Fr No w w':=by
 have N:(Tryz.prog.info? 155).map (·.size)=q 256:=by kernel_rfl
 obtain⟨u,h⟩:∃ u,u=zBa s:=⟨_,rfl⟩
 rw[<-h];have o:f (u=(!s.toList.isEmpty&&!dotsB s&&allB goodF s)):=h;have O:=zh F;clear h F;rcases he:s.toList.isEmpty with _|_
 .have A:=zGJ s w;have D:f ((decide (s.toList=[46])||decide (s.toList=[46,46]))=dotsB s):=rfl;rw[D.out]at A;have R:=zh he
  go_enter bi,bm
  go_wp2_with fail
  refine A.mono ?_;rintro e X ⟨rfl,rfl⟩;clear A;rcases hq:dotsB s with _|_
  .have v:f (u=allB goodF s):=by unfold f;rw[o.out,R.out,hq];rfl
   clear hq;have I:=zH0 goodF s w J
   go_wp2_with fail
   rename_i U;refine wp_load_row 155 _ rfl z rfl 155 _ (0,0) _ O.out bo rfl (by rw[zAC];exact N) ?_;refine U _ _ ?_
   go_wp2_with fail
   refine I.mono ?_;rintro e Y ⟨rfl,y⟩;have V:=zh y;clear y I
   go_wp2_with fail
   go_ret;exact⟨zN v.out.symm,V.out⟩
  .have v:f (u=ar):=by unfold f;rw[o.out,hq];simp
   clear hq
   go_wp2_with fail
   go_ret;exact⟨zN v.out.symm,ai _ _⟩
 .have v:f (u=ar):=by unfold f;rw[o.out,he];rfl
  go_enter bi,bm
  go_wp2_with fail
  go_ret;exact⟨zN v.out.symm,ai _ _⟩
theorem zMc (v o:B)(s:a1)(w:ab)(A:w.cell? ⟨v,0,M⟩=q (.func (.func 193) #[] #[ao (q ⟨o,0,M⟩)]))(y:w.heap[o]?=q (a0 (bits goodF) 155))(z:s.size<=aj):
  ah ae 233 #[C s,ao (q ⟨v,0,M⟩)] w λe w'=>e=.returned (.bool (!zBa s))/\Fr No w w':=by
 have h:=zKN o s w y z;clear y
 go_enter Tryz.func233,Tryz.ntmps233
 go_wp2_with fail
 refine h.mono ?_;rintro e D ⟨rfl,u⟩
 go_wp2_with fail
 go_ret;exact⟨rfl,u⟩
theorem zJO (D F:B)(R:al am)(U:B)(l:ag a1)(w:ab)(Z:w.cell? ⟨D,0,M⟩=q (.func (.func 193) #[] #[ao (q ⟨F,0,M⟩)]))(V:w.heap[F]?=q (a0 (bits goodF) 155))(X:Strs w R U l)(hs:∀ x∈l,x.size<=aj):
  ah ae 76 #[p R l.length U,.func (.func 233) #[] #[ao (q ⟨D,0,M⟩)]] w λe w'=>(∃ r:af,e=.returned (G E r)/\decide (0<=r)=!l.all zBa)/\Fr No w w':=by
 have hm:=X.lenmax;have Hg:=zh V;clear V
 go_enter Tryz.func76,Tryz.ntmps76
 go_wp2_with fail
 go_loopw [8] (λi wr=>∃ k:B,k<=l.length/\i=G E k/\f ((l.take k).all zBa=true)/\Fr No w wr) (λi _=>l.length-(ax i).toNat)
 case atStart=>exact⟨0,by omega,rfl,by unfold f;simp,ai _ _⟩
 case round=>
  obtain⟨k,hk,rfl,y,o⟩:=hrel;by_cases I:k<l.length
  .have Y:(k:af)<l.length:=by omega
   obtain⟨bb,a2,x,rfl,A,hc⟩:=(X.no o (λ_=>id)).at I;have J:=hs x (ay A);have N:f (l.take (k+1)=l.take k++[x]):=by unfold f;rw[ba,A];rfl
   have z:=zh (ay A);clear A;have v:=zMc D F x wr (o.cell Z id) (o.heap Hg.out id) J
   go_wp2_with fail
   refine v.mono ?_;rintro e w1 ⟨rfl,O⟩;have u:=o.step O zi;clear hc v;cases v:zBa x
   .have Hr:f (l.all zBa=ar):=by unfold f;rw[bf];exact⟨x,z.out,by rw[v];simp⟩
    clear v
    go_wp2_with fail
    go_ret;exact⟨⟨(k:af),rfl,by rw[Hr.out];simp⟩,u⟩
   .have Hn:f ((l.take (k+1)).all zBa=true):=by unfold f;rw[N.out,be,y.out];simp[v]
    clear v
    go_wp2_with fail
    go_roundw
    case rel=>exact⟨k+1,by omega,by go_num,Hn,u⟩
    case measure=>simp[ax];omega
  .have h:=y.out;rw[az (by omega)]at h;have Hp:=zh h;clear h
   go_wp2_with fail
   go_ret;exact⟨⟨-1,rfl,by rw[Hp.out];rfl⟩,o⟩
theorem zL1 (o:B)(u:al am)(v:B)(l:ag a1)(w:ab)(A:w.heap[o]?=q (a0 (bits goodF) 155))(F:Strs w u v l)(I:∀ x∈l,x.size<=aj):
  ah ae 191 #[p u l.length v,.func (.func 193) #[] #[ao (q ⟨o,0,M⟩)]] w λe w'=>e=.returned (.bool (l.all zBa))/\Fr No w w':=by
 have y:Fr No w (w.alloc (a0 #[.func (.func 193) #[] #[ao (q ⟨o,0,M⟩)]] 108)):=(ai _ _).alloc _;have J:=zF w (a0 #[.func (.func 193) #[] #[ao (q ⟨o,0,M⟩)]] 108);have z:=F.no y (λ_=>id);have N:=zh (y.heap A id);clear A
 go_enter Tryz.func191,Tryz.ntmps191
 go_wp2_with fail
 generalize w.alloc (a0 #[.func (.func 193) #[] #[ao (q ⟨o,0,M⟩)]] 108)=W0 at *;refine(show ah ae 36 _ _ (λe w'=>e=.returned (.bool (!l.all zBa))/\Fr No W0 w')from ?_).mono ?_
 .go_enter Tryz.func36,Tryz.ntmps36
  go_wp2_with fail
  refine(zJO (w:B) o u v l _ (zB J 0) N.out z I).mono ?_;rintro e O ⟨⟨r,rfl,D⟩,h⟩;have R:=zh D;clear D
  go_wp2_with fail
  go_ret;exact⟨zN R.out,h⟩
 .rintro e O ⟨rfl,h⟩
  go_wp2_with fail
  go_ret;exact⟨zN (by simp),y.step h zi⟩
def lparts (s:a1):ag a1:=(spl 47 s.data.toList).map λx=>⟨x.toArray⟩
def zD3 (s:a1):Bool:=decide (s.size<=256)&&(lparts s).all zBa
theorem zHA (s:a1):∀ x∈lparts s,x.size<=s.size:=by
 intro x h;unfold lparts at h;obtain⟨y,o,rfl⟩:=List.mem_map.1 h;have:=zJk 47 s.data.toList y o;have e:s.data.toList.length=s.size:=Array.length_toList;show (y.toArray).size<=_
 rw[List.size_toArray];omega
theorem zOn (s:a1)(m:af)(w:ab)(hs:s.size<=3000000)(hm:w.cell? ⟨0,0,M⟩=q (G E m))(h0:0<(w:B)):
  ah ae 143 #[C s] w λe w'=>e=.returned (.bool (zD3 s))/\Fr No w w':=by
 have hi:(Tryz.prog.info? 155).map (·.size)=q 256:=by kernel_rfl
 have hz:Tryz.zeroCells155.size=256:=by kernel_rfl
 obtain⟨O,D⟩:∃ O,O=zD3 s:=⟨_,rfl⟩
 rw[<-D];have R:f (O=(decide (s.size<=256)&&(lparts s).all zBa)):=D;clear D;have y:Lib.countB s ⟨#[47]⟩+1=(lparts s).length:=zF7 s;have o:Lib.splitB ⟨#[47]⟩ 0 (Lib.countB s ⟨#[47]⟩) s=lparts s:=zCE s;have U:=Lib.countB_le ⟨#[47]⟩ (by decide) s.size s (au _);have V:(lparts s).length<=maxLen:=by unfold aj;omega
 have X:=zHA s;have hp:∀ W:ab,W.cell? ⟨0,0,M⟩=q (G E m)->_:=λW h=>Tryz.strings_Split s ⟨#[47]⟩ m W (by omega) h (by decide)
 rw[o,y]at hp;have Hp:=zh hp;have a3:=zh V;have a4:=zh X;clear hp V X o y U;generalize lparts s=L at *
 go_enter Tryz.func143,Tryz.ntmps143
 go_wp2_with fail
 refine(zNm _).mono ?_;rintro e u ⟨rfl,F⟩;have a5:=F.cell hm id;have x1:Fr No w (u.alloc (a0 aw 155)):=F.alloc _;have p1:=zF u (a0 aw 155);have a8:=F.size;have Y:(u.alloc (a0 aw 155)).cell? ⟨0,0,M⟩=q (G E m):=((ai No u).alloc _).cell a5 id;obtain⟨z,v⟩:∃ z,z=(u.alloc (a0 aw 155)).setRow (u:B) (bits goodF):=⟨_,rfl⟩
 have hg:z.heap[(u:B)]?=q (a0 (bits goodF) 155):=by rw[v];exact setRow_heap _ (u:B) _ (bits goodF) 155 (0,0) p1
 have x2:Fr (Is (u:B)) (u.alloc (a0 aw 155)) z:=by rw[v];exact⟨rfl,rfl,rfl,by simp,λb _ hb=>setRow_other _ _ _ _ (λe=>hb e)⟩
 have Z:=zh (x1.step x2 (λb hb e=>by omega));have a6:=x2.cell Y (λe=>by unfold Is at e;dsimp only at e;omega)
 go_upto_region 2 with(refine bq rfl 155 _ _ rfl (u:B) (bits goodF) rfl rfl 155 _ p1 (by rw[zAC];exact hi) (by rw[zAC];exact hz) (zDT _) ?_)
 rw[<-v];clear v p1 x1 x2 Y;by_cases A:s.size<=256
 .have I:(s.size:af)<=256:=by omega
  have Hv:f (O=L.all zBa):=by unfold f;rw[R.out,decide_eq_true A];rfl
  have J:=Hp.out z a6;obtain⟨W4,N,x4,-⟩:=zy z (a0 (L.map Value.string).toArray 9);have a7:Strs W4 (q ⟨z,0,M⟩) L.length L:=by rw[N];exact Strs.new z L 9 a3.out
  rw[<-N]at J;have o:=zL1 (u:B) _ _ L W4 (x4.heap hg id) a7 (λx hx=>Nat.le_trans (a4.out x hx) (by unfold aj;omega));clear N hg
  go_wp2_with fail
  refine J.mono ?_;rintro e w3 ⟨rfl,rfl⟩;clear J
  go_wp2_with fail
  refine o.mono ?_;rintro e w4 ⟨rfl,a2⟩;clear o;have Hf:=zh ((Z.out.step x4 zi).step a2 zi);clear a2 x4
  go_wp2_with fail
  go_ret;exact⟨zN Hv.out.symm,Hf.out⟩
 .have I:¬ (s.size:af)<=256:=by omega
  have Hv:f (O=ar):=by unfold f;rw[R.out,decide_eq_false A];rfl
  clear hg
  go_wp2_with fail
  go_ret;exact⟨zN Hv.out.symm,Z.out⟩
def attrOk (x:a1×a1):Bool:=isName x.1&&!x.2.toList.isEmpty&&zA8 x.2
theorem zMZ (x y:a1)(w:ab)(R:x.size<=aj)(U:y.size<=aj):
  ah ae 188 #[ap #[C x,C y]] w λe w'=>e=.returned (.bool (!attrOk (x,y)))/\Fr No w w':=by
 obtain⟨V,v,D,F⟩:=zy w (a0 #[C x,C y] 78);obtain⟨J,c1⟩:=cl2 F;have N:=zAN x V R;obtain⟨u,h⟩:∃ u,u=attrOk (x,y):=⟨_,rfl⟩
 rw[<-h];have o:f (u=(isName x&&!y.toList.isEmpty&&zA8 y)):=h;clear h
 go_enter Tryz.func188,Tryz.ntmps188
 go_upto_region 1 with(fail)
 rw[<-v];clear v
 go_wp2_with fail
 refine N.mono ?_;rintro e Y ⟨rfl,z⟩;have X:=z.heap F id;have I:=D.step z zi;clear J c1 F N;obtain⟨J,c1⟩:=cl2 X;rcases h1:isName x with _|_
 .have A:f (u=ar):=by unfold f;rw[o.out,h1];rfl
  clear h1
  go_wp2_with fail
  go_ret;exact⟨zN (by rw[A.out];rfl),I⟩
 have O:=zh h1;clear h1;rcases h2:y.toList.isEmpty with _|_
 .have A:f (u=zA8 y):=by unfold f;rw[o.out,O.out,h2];rfl
  go_wp2_with fail
  refine(zGI y _ U).mono ?_;rintro e Z ⟨rfl,rfl⟩
  go_wp2_with fail
  go_ret;exact⟨zN (by rw[A.out]),I⟩
 .have A:f (u=ar):=by unfold f;rw[o.out,O.out,h2];rfl
  go_wp2_with fail
  go_ret;exact⟨zN (by rw[A.out];rfl),I⟩
theorem zK9 (a:al am)(u:B)(l:ag (a1×a1))(w:ab)(X:Atts w a u l):
  ah ae 187 #[p a l.length u,.func (.func 188) #[] #[]] w λe w'=>e=.returned (.bool (!l.all attrOk))/\Fr No w w':=by
 have hm:=X.lenmax;have D:ah ae 231 #[p a l.length u,.func (.func 188) #[] #[]] w λe w'=>(∃ r:af,e=.returned (G E r)/\decide (0<=r)=!l.all attrOk)/\Fr No w w':=by
  go_enter Tryz.func231,Tryz.ntmps231
  go_wp2_with fail
  go_loopw [8] (λi wr=>∃ k:B,k<=l.length/\i=G E k/\f ((l.take k).all attrOk=true)/\Fr No w wr) (λi _=>l.length-(ax i).toNat)
  case atStart=>exact⟨0,by omega,rfl,by unfold f;simp,ai _ _⟩
  case round=>
   obtain⟨k,hk,rfl,F,v⟩:=hrel;by_cases J:k<l.length
   .have Y:(k:af)<l.length:=by omega
    obtain⟨bb,a2,x,y,rfl,N,O,R,hc,hd⟩:=(X.no v (λ_=>id)).at J;have U:f (l.take (k+1)=l.take k++[(x,y)]):=by unfold f;rw[ba,N];rfl
    have I:=zh (ay N);clear N;have z:=zMZ x y wr O R
    go_wp2_with fail
    refine z.mono ?_;rintro e w1 ⟨rfl,A⟩;have o:=v.step A zi;clear hc hd z;cases z:attrOk (x,y)
    .have V:f (l.all attrOk=ar):=by unfold f;rw[bf];exact⟨_,I.out,by rw[z];simp⟩
     clear z
     go_wp2_with fail
     go_ret;exact⟨⟨(k:af),rfl,by rw[V.out];simp⟩,o⟩
    .have Hn:f ((l.take (k+1)).all attrOk=true):=by unfold f;rw[U.out,be,F.out];simp[z]
     clear z
     go_wp2_with fail
     go_roundw
     case rel=>exact⟨k+1,by omega,by go_num,Hn,o⟩
     case measure=>simp[ax];omega
   .have h:=F.out;rw[az (by omega)]at h;have Hp:=zh h;clear h
    go_wp2_with fail
    go_ret;exact⟨⟨-1,rfl,by rw[Hp.out];rfl⟩,v⟩
 go_enter Tryz.func187,Tryz.ntmps187
 go_wp2_with fail
 refine D.mono ?_;rintro e w1 ⟨⟨r,rfl,Z⟩,A⟩;have V:=zh Z;clear Z
 go_wp2_with fail
 go_ret;exact⟨zN V.out,A⟩
theorem zKn (a:al am)(h:B)(l:ag (a1×a1))(w:ab)(u:Atts w a h l)(v:l.length<=1):
  ah ae 186 #[p a l.length h] w λe w'=>e=.returned (.bool true)/\Fr No w w':=by
 have o:¬ (1:af)<l.length:=by omega
 go_enter Tryz.func186,Tryz.ntmps186
 go_wp2_with fail
 go_loopw [3] (λi wr=>i=G E 1/\wr=w) (λi _=>0)
 case atStart=>exact⟨rfl,rfl⟩
 case round=>
  obtain⟨rfl,rfl⟩:=hrel
  go_wp2_with fail
  go_ret;exact⟨rfl,ai _ _⟩
theorem zFi (a:al am)(h:B)(l:ag (a1×a1))(w:ab)(v:Atts w a h l)(z:l.length<=1):
  ah ae 141 #[p a l.length h] w λe w'=>e=.returned (.bool (l.all attrOk))/\Fr No w w':=by
 have y:=zKn a h l w v z
 go_enter Tryz.func141,Tryz.ntmps141
 go_wp2_with fail
 refine y.mono ?_;rintro e A ⟨rfl,o⟩;have D:=zK9 a h l A (v.no o (λ_=>id));clear y
 go_wp2_with fail
 refine D.mono ?_;rintro e F ⟨rfl,u⟩
 go_wp2_with fail
 go_ret;exact⟨zN (by simp),o.step u zi⟩
theorem zDV {w:ab}{u:Array Oper}{h:ag Oper}{o:Oper}{a:Act}{Q:Exit->Act->ab->Prop}(A:o.guard=M)(m x:Operand)(t:TypeId)(y:o.op=Op.lookup t m x true)(D:Tryz.prog.underlying t=q (.map 3 9))
  (z:B) (g:af->al a1) (N:B) (k:af) (F:(Lit.int E k).wf=true) (I:a.eval m=.map (q z)) (v:SMap w z g N) (J:a.eval x=.int E k)
  (s:a1) (O:(g k).getD ⟨#[]⟩=s) (b:Bool) (R:(g k).isSome=b)
  (U:wpList ae u Q h (a.put o.dst (.tuple #[.string s,.bool b])) w):wpList ae u Q (o::h) a w:=by
 subst O R;exact zEY A m x t y D z g N k F I v J U
theorem zFQ (h:TreeOk ds)(n:af):ogs ds n=(look ds n).map λ_=>pathOf (origin ds n):=by
 have:=zHy h ds.length (au _) n
 rwa [az (au _)]at this
def newO (ds:ag Dev)(d:Dev):a1:=plc ds d.parent++⟨#[47]⟩++d.orig
def zAB (ds:ag Dev)(og:a1)(x:Dev):Bool:=decide (0<=(cmpP (plc ds x.index) og).1)
theorem zHt (o:TreeOk ds)(u:ds.length<=1000)(n:af):(plc ds n).size<=33000:=by
 have h:=zB0 o.sz ds.length n;rw[az (au _),zC0 o]at h;omega
theorem zKV (d:Dev)(ds:ag Dev)(a:al am)(v Y y J N:B)(s:a1)(m:af)(w:ab)(A:TreeOk ds)(Z:ds.length<=1000)(hs:s.size<=1000000)(hd:d∈ds)(O:w.heap[J]?=q (a0 #[p a ds.length v,.map (q Y),.map (q y)] 126))(R:SMap w y (ogs ds) ds.length)(U:w.cell? ⟨N,0,M⟩=q (C s))(V:w.cell? ⟨0,0,M⟩=q (G E m)):
  ah ae 84 #[ap d.vals,ao (q ⟨J,0,M⟩),ao (q ⟨N,0,M⟩)] w λe w'=>e=.returned (.bool (zAB ds s d))/\Fr No w w':=by
 obtain⟨W0,h,o,X⟩:=zy w (a0 d.vals 36);have a2:=o.cell U id;have u:=o.heap O id;have v2:=zB u 2;have c0:=(DevB.of X).c0;have D:=R.fr o id;have F:=A.iwf hd;have hp:(ogs ds d.index).getD ⟨#[]⟩=plc ds d.index:=zC0 A d.index;have hc:=zIj (plc ds d.index) s m W0 (by have:=zHt A Z d.index;omega) hs (o.cell V id);have Hr:f (zAB ds s d=decide (0<=(cmpP (plc ds d.index) s).1)):=rfl;generalize zAB ds s d=rb at *;generalize hz:(cmpP (plc ds d.index) s).1=z at *;generalize plc ds d.index=P at *;clear hz;clear U O R u X V;unfold aq at h ⊢
 go_enter Tryz.func84,Tryz.ntmps84
 go_upto_region 1 with(fail)
 rw[<-h];clear h
 go_wp2_with (at_lookup;refine zGo rfl _ _ 124 rfl rfl y _ _ d.index F rfl D rfl ?_)
 refine hc.mono ?_;rintro e w1 ⟨rfl,I⟩
 go_wp2_with fail
 go_ret;exact⟨zN Hr.out.symm,o.step I zi⟩
theorem zEU (o b:B)(a:al am)(n h:B)(X:ag Value)(d:Dev)(w:ab)(v:w.ownsRow o 36 10 (p a n h) n X)(hn:n<=100000)(hb:w.heap[b]?=q (a0 d.vals 36))(A:o<=(w:B)):
  ah ae 89 #[p a n h,G E (n:af),p (q ⟨b,0,M⟩) 1 1] w λe w'=>(∃ Y Z,e=.returned (p Y (n+1) Z)/\w'.ownsRow o 36 10 (p Y (n+1) Z) (n+1) (X++d.vals.toList))/\Fr (λb=>(bc a n h).ownBlock=q b) w w':=by
 obtain⟨i0,F,I,J,N⟩:=bd infoD;have y:∀ j u,d.vals.toList[j]?=q u->w.cell? ((⟨b,0,M⟩:am).add j)=q u:=by
  intro j u hu;rw[Addr.add_lit,zB hb]
  simpa using hu
 have a2:n<=h:=by
  obtain⟨_,⟨D,h2⟩|⟨g,c,O,D,_,_,h3,_⟩⟩:=v
  .cases D;omega
  .cases D;exact h3
 have a3:h<=9223372036854775807:=by
  obtain⟨_,⟨D,h2⟩|⟨g,c,O,D,_,_,h3,h4,_⟩⟩:=v
  .cases D;omega
  .cases D;unfold aj at h4;omega
 have R:(n:af)<=h:=by omega
 go_enter Tryz.func89,Tryz.ntmps89
 go_wp2_with (at_builtin;refine zx rfl _ _ 45 rfl o 36 i0 (ap #[G E 0,G E 0,C ak,C ak,C ak,C ak,C ak,G E 0,G E 0,p M 0 0]) 10 136 bp F I J N rfl (by decide) _ _ _ rfl v (q ⟨b,0,M⟩) 1 1 d.vals.toList rfl (λe=>by cases e) rfl (λa4 e=>by cases e;exact y) (zAT _) (by unfold aj;omega) (by omega) A ?_;intro v3 w3 z U;have V:w.grownBy w3 (bc a n h).ownBlock:=U;obtain⟨av,cv,rfl⟩:=zI z)
 all_goals (go_ret;subst_vars;exact⟨⟨av,cv,rfl,z⟩,Fr.of_grown V⟩)
section
variable {K:Act->ab->Prop}{T:B->Prop}{w w':ab}{a:Act}
theorem zf (o:Fr T w w')(h:K a w'):OnlyN (λa w'=>Fr T w w'/\K a w') .normal a w':=⟨o,h⟩
theorem zm (o:Fr No w w')(h:K a w'):OnlyN (λa w'=>Fr T w w'/\K a w') .normal a w':=⟨o.mono λ_ _ h=>h.elim,h⟩
theorem zp {o:Obj}(h:K a (w.alloc o)):OnlyN (λa w'=>Fr T w w'/\K a w') .normal a (w.alloc o):=⟨(ai _ _).alloc _,h⟩
theorem zq (h:K a w):OnlyN (λa w'=>Fr T w w'/\K a w') .normal a w:=⟨ai _ _,h⟩
end
end Go.Proofs.YtckkocmhlhefpaaGreatDoor
