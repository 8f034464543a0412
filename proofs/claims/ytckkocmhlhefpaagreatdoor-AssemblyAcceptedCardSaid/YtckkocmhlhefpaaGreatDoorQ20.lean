import Derived.Test.YtckkocmhlhefpaaGreatDoorQ19
namespace Go.Proofs.YtckkocmhlhefpaaGreatDoor
open Go.RowKit Go.Maps
set_option linter.unusedVariables false
set_option maxRecDepth 100000
set_option maxHeartbeats 8000000
open Ct renaming txt->aq
open Fr renaming refl->ak,of_grown->bg
open Go renaming World->ag,Addr->ap,Calls->ax,bodyPost_ret->bc,results->bd,Ending->be,maxLen->bf,wpList_append_own_at->bm
open Go.Proofs renaming intOf->ay
open Go.Proofs.Tryz renaming prog->aw,underlying179->bj,results109->bo,results115->bp,results117->bq
open Go.RowKit renaming Hid->a1
open Go.Value renaming slice->ao
open IntKind renaming i64->E
open Mem renaming vals->aj,k->ar
open Obj renaming cells->a0
open OnlyN renaming mk->bi
open Value renaming int->C,string->Q,slice->K,agg->ah
open _root_ renaming Nat->B,ByteArray->ab,Int->ae,List->ai,Option->al
open _root_.Bool renaming true->af,false->am
open _root_.ByteArray renaming empty->au
open _root_.List renaming filterMap_append->az,length_append->ba,map_append->bh,getElem?_eq_getElem->bn
open _root_.Option renaming none->G,some->P
variable{w w':ag}{a:al ap}{L:ai Mem}{k rd:ae}{o:ab->ae->Ct->Mem}{S:B->Prop}{u:B}{e:be}{v:Value}{m:Mem}{p s:ab}
def OfRes2 (w:ag)(p s:ab)(rd:ae)(e:be)(w':ag):Prop:=
 ((∀ c,parseC s=P c->c.kind≠2)/\e=.returned (.tuple #[ah #[Q ⟨#[]⟩,Q ⟨#[]⟩,C E 0,C E 0,C E 0,C E 0,K G 0 0],.bool am]))\/
 (∃ (c:Ct) (a':al ap) (cap':B),parseC s=P c/\c.kind=2/\e=.returned (.tuple #[ah #[Q p,Q c.id,C E rd,C E c.slot,C E c.total,C E c.least,K a' c.inner.length cap'],.bool af])/\Strs w' a' cap' (c.inner.map aq)/\∀ ad,a'=P ad->(w:B)<=ad.block)
theorem zMa (p s:ab)(rd:ae)(w:ag)(hE:Env w)(hs:s.size<=100000):
  ax aw 109 #[Q p,C E rd,Q s] w λen w2=>OfRes2 w p s rd en w2/\Fr No w w2:=by
 have h0:Fr No w (w.alloc (a0 #[Q ⟨#[]⟩,Q ⟨#[]⟩,C E 0,C E 0,C E 0,C E 0,K G 0 0] 232)):=(ak _ _).alloc _;have q0:=zF w (a0 #[Q ⟨#[]⟩,Q ⟨#[]⟩,C E 0,C E 0,C E 0,C E 0,K G 0 0] 232);have a7:(w:B)<(w.alloc (a0 #[Q ⟨#[]⟩,Q ⟨#[]⟩,C E 0,C E 0,C E 0,C E 0,K G 0 0] 232)).heap.size:=by simp
 obtain⟨W0,N⟩:∃ W0,W0=w.alloc (a0 #[Q ⟨#[]⟩,Q ⟨#[]⟩,C E 0,C E 0,C E 0,C E 0,K G 0 0] 232):=⟨_,rfl⟩
 rw[<-N]at h0 q0 a7;have Y:=zIW s 2 W0 (hE.no h0) hs;have H0:=zh h0;clear h0 hE
 go_enter Tryz.func109,Tryz.ntmps109
 go_upto_region 1 with(fail)
 rw[<-N];clear N
 go_wp2_with fail
 refine Y.mono ?_;rintro en O ⟨Z,F⟩;have b8:=F.size;have q1:=F.heap q0 id;have a2:=zh (H0.out.step F zi);clear Y q0 F;rcases Z with⟨a3,rfl⟩|⟨k,R,t,le,i,l,n,a,a',U,A,a4,hk,rfl,a8,a5,u⟩
 .have Hn:a1 (∀ c,parseC s=P c->c.kind≠2):=a3;have I:Fr No O (O.alloc (a0 #[C E 0,Q ⟨#[]⟩,Q ⟨#[]⟩,C E 0,C E 0,C E 0,K G 0 0] 224)):=(ak _ _).alloc _;have z:=I.heap q1 id;have V:=zh (a2.out.step I zi);have X:=zh z;clear q1 I a3 z
  go_upto_region 3 with(fail)
  generalize O.alloc (a0 #[C E 0,Q ⟨#[]⟩,Q ⟨#[]⟩,C E 0,C E 0,C E 0,K G 0 0] 224)=W2 at *;have z:=X.out;obtain⟨b0,b1,b2,b3,b4,b5,b6⟩:=cl7 z;obtain⟨f0,f1,f2,f3,f4,f5,f6⟩:=fl7 z;have J:=set7 z rfl (Q ⟨#[]⟩) (Q ⟨#[]⟩) (C E 0) (C E 0) (C E 0) (C E 0) (K G 0 0);have D:=zh (V.out.step J.2 (λb hb h=>by omega));have o:=zh J.1;clear J z
  go_wp2_with fail
  have y0:=zB o.out 0;have y1:=zB o.out 1;have y2:=zB o.out 2;have y3:=zB o.out 3;have y4:=zB o.out 4;have y5:=zB o.out 5;have y6:=zB o.out 6;refine bc (v:=.tuple #[ah #[Q ⟨#[]⟩,Q ⟨#[]⟩,C E 0,C E 0,C E 0,C E 0,K G 0 0],.bool am]) (by simp[bd,bo,go_sem,y0,y1,y2,y3,y4,y5,y6]) rfl ?_;exact⟨.inl ⟨Hn.out,rfl⟩,D.out⟩
 .subst hk;have a9:a1 (parseC s=P (.mk 2 i l R t le n)):=a4;have y:=zh u;have I:Fr No O (O.alloc (a0 #[C E 2,Q i,Q l,C E R,C E t,C E le,K a n.length U] 224)):=(ak _ _).alloc _;have X:=zh (I.heap q1 id);have qt:=zF O (a0 #[C E 2,Q i,Q l,C E R,C E t,C E le,K a n.length U] 224);have V:=zh (a2.out.step I zi);have b7:=zh (a5.no I (λ_=>id));clear q1 I a5 a4 u a8
  go_upto_region 4 with(fail)
  generalize O.alloc (a0 #[C E 2,Q i,Q l,C E R,C E t,C E le,K a n.length U] 224)=W2 at *;obtain⟨-,b9,-,d0,d1,d2⟩:=cl6 qt;have z:=X.out;clear qt;obtain⟨b0,b1,b2,b3,b4,b5,b6⟩:=cl7 z;obtain⟨f0,f1,f2,f3,f4,f5,f6⟩:=fl7 z;have J:=set7 z rfl (Q p) (Q i) (C E rd) (C E R) (C E t) (C E le) (K a' n.length A);have D:=zh (V.out.step J.2 (λb hb h=>by omega));have a6:=zh (b7.out.fr J.2 (λad e d3 h=>by have:=y.out ad e;omega));have o:=zh J.1;clear J z
  go_wp2_with fail
  have y0:=zB o.out 0;have y1:=zB o.out 1;have y2:=zB o.out 2;have y3:=zB o.out 3;have y4:=zB o.out 4;have y5:=zB o.out 5;have y6:=zB o.out 6;refine bc (v:=.tuple #[ah #[Q p,Q i,C E rd,C E R,C E t,C E le,K a' n.length A],.bool af]) (by simp[bd,bo,go_sem,y0,y1,y2,y3,y4,y5,y6]) rfl ?_;exact⟨.inr ⟨.mk 2 i l R t le n,a',A,a9.out,rfl,rfl,a6.out,λad e=>by have:=y.out ad e;omega⟩,D.out⟩
def OfRes (w:ag)(p s:ab)(rd:ae)(e:be)(w':ag):Prop:=
 ((∀ c,parseC s=P c->c.kind≠3)/\e=.returned (.tuple #[ah #[Q ⟨#[]⟩,Q ⟨#[]⟩,C E 0,C E 0,C E 0,C E 0,K G 0 0],.bool am]))\/
 (∃ (c:Ct) (a':al ap) (cap':B),parseC s=P c/\c.kind=3/\e=.returned (.tuple #[ah #[Q p,Q c.id,C E rd,C E 0,C E 0,C E 0,K a' c.inner.length cap'],.bool af])/\Strs w' a' cap' (c.inner.map aq)/\∀ ad,a'=P ad->(w:B)<=ad.block)
theorem zMN (p s:ab)(rd:ae)(w:ag)(hE:Env w)(hs:s.size<=100000):
  ax aw 115 #[Q p,C E rd,Q s] w λen w2=>OfRes w p s rd en w2/\Fr No w w2:=by
 have h0:Fr No w (w.alloc (a0 #[Q ⟨#[]⟩,Q ⟨#[]⟩,C E 0,C E 0,C E 0,C E 0,K G 0 0] 232)):=(ak _ _).alloc _;have q0:=zF w (a0 #[Q ⟨#[]⟩,Q ⟨#[]⟩,C E 0,C E 0,C E 0,C E 0,K G 0 0] 232);have a6:(w:B)<(w.alloc (a0 #[Q ⟨#[]⟩,Q ⟨#[]⟩,C E 0,C E 0,C E 0,C E 0,K G 0 0] 232)).heap.size:=by simp
 obtain⟨W0,O⟩:∃ W0,W0=w.alloc (a0 #[Q ⟨#[]⟩,Q ⟨#[]⟩,C E 0,C E 0,C E 0,C E 0,K G 0 0] 232):=⟨_,rfl⟩
 rw[<-O]at h0 q0 a6;have X:=zIW s 3 W0 (hE.no h0) hs;have H0:=zh h0;clear h0 hE
 go_enter Tryz.func115,Tryz.ntmps115
 go_upto_region 1 with(fail)
 rw[<-O];clear O
 go_wp2_with fail
 refine X.mono ?_;rintro en I ⟨Y,F⟩;have b7:=F.size;have q1:=F.heap q0 id;have Z:=zh (H0.out.step F zi);clear X q0 F;rcases Y with⟨a2,rfl⟩|⟨k,sl,t,le,i,l,n,a,a',R,A,a3,hk,rfl,a7,a4,u⟩
 .have Hn:a1 (∀ c,parseC s=P c->c.kind≠3):=a2;have J:Fr No I (I.alloc (a0 #[C E 0,Q ⟨#[]⟩,Q ⟨#[]⟩,C E 0,C E 0,C E 0,K G 0 0] 224)):=(ak _ _).alloc _;have z:=J.heap q1 id;have U:=zh (Z.out.step J zi);have V:=zh z;clear q1 J a2 z
  go_upto_region 3 with(fail)
  generalize I.alloc (a0 #[C E 0,Q ⟨#[]⟩,Q ⟨#[]⟩,C E 0,C E 0,C E 0,K G 0 0] 224)=W2 at *;have z:=V.out;obtain⟨b0,b1,b2,b3,b4,b5,b6⟩:=cl7 z;obtain⟨f0,f1,f2,f3,f4,f5,f6⟩:=fl7 z;have N:=set7 z rfl (Q ⟨#[]⟩) (Q ⟨#[]⟩) (C E 0) (C E 0) (C E 0) (C E 0) (K G 0 0);have D:=zh (U.out.step N.2 (λb hb h=>by omega));have o:=zh N.1;clear N z
  go_wp2_with fail
  have y0:=zB o.out 0;have y1:=zB o.out 1;have y2:=zB o.out 2;have y3:=zB o.out 3;have y4:=zB o.out 4;have y5:=zB o.out 5;have y6:=zB o.out 6;refine bc (v:=.tuple #[ah #[Q ⟨#[]⟩,Q ⟨#[]⟩,C E 0,C E 0,C E 0,C E 0,K G 0 0],.bool am]) (by simp[bd,bp,go_sem,y0,y1,y2,y3,y4,y5,y6]) rfl ?_;exact⟨.inl ⟨Hn.out,rfl⟩,D.out⟩
 .subst hk;have a8:a1 (parseC s=P (.mk 3 i l sl t le n)):=a3;have y:=zh u;have J:Fr No I (I.alloc (a0 #[C E 3,Q i,Q l,C E sl,C E t,C E le,K a n.length R] 224)):=(ak _ _).alloc _;have V:=zh (J.heap q1 id);have qt:=zF I (a0 #[C E 3,Q i,Q l,C E sl,C E t,C E le,K a n.length R] 224);have U:=zh (Z.out.step J zi);have a9:=zh (a4.no J (λ_=>id));clear q1 J a4 a3 u a7
  go_upto_region 4 with(fail)
  generalize I.alloc (a0 #[C E 3,Q i,Q l,C E sl,C E t,C E le,K a n.length R] 224)=W2 at *;have b8:W2.cell? ⟨I,1,G⟩=P (Q i):=zB qt 1;have z:=V.out;clear qt;obtain⟨b0,b1,b2,b3,b4,b5,b6⟩:=cl7 z;obtain⟨f0,f1,f2,f3,f4,f5,f6⟩:=fl7 z;have N:=set7 z rfl (Q p) (Q i) (C E rd) (C E 0) (C E 0) (C E 0) (K a' n.length A);have D:=zh (U.out.step N.2 (λb hb h=>by omega));have a5:=zh (a9.out.fr N.2 (λad e b9 h=>by have:=y.out ad e;omega));have o:=zh N.1;clear N z
  go_wp2_with fail
  have y0:=zB o.out 0;have y1:=zB o.out 1;have y2:=zB o.out 2;have y3:=zB o.out 3;have y4:=zB o.out 4;have y5:=zB o.out 5;have y6:=zB o.out 6;refine bc (v:=.tuple #[ah #[Q p,Q i,C E rd,C E 0,C E 0,C E 0,K a' n.length A],.bool af]) (by simp[bd,bp,go_sem,y0,y1,y2,y3,y4,y5,y6]) rfl ?_;exact⟨.inr ⟨.mk 3 i l sl t le n,a',A,a8.out,rfl,rfl,a5.out,λad e=>by have:=y.out ad e;omega⟩,D.out⟩
def OfRes4 (w:ag)(p s:ab)(rd:ae)(e:be)(w':ag):Prop:=
 ((∀ c,parseC s=P c->c.kind≠4)/\e=.returned (.tuple #[ah #[Q ⟨#[]⟩,Q ⟨#[]⟩,C E 0,C E 0,C E 0,C E 0,K G 0 0],.bool am]))\/
 (∃ (c:Ct) (a':al ap) (cap':B),parseC s=P c/\c.kind=4/\e=.returned (.tuple #[ah #[Q p,Q c.id,C E rd,C E c.slot,C E c.total,C E c.total,K a' c.inner.length cap'],.bool af])/\Strs w' a' cap' (c.inner.map aq)/\∀ ad,a'=P ad->(w:B)<=ad.block)
theorem zJW (p s:ab)(rd:ae)(w:ag)(hE:Env w)(hs:s.size<=100000):
  ax aw 117 #[Q p,C E rd,Q s] w λen w2=>OfRes4 w p s rd en w2/\Fr No w w2:=by
 have h0:Fr No w (w.alloc (a0 #[Q ⟨#[]⟩,Q ⟨#[]⟩,C E 0,C E 0,C E 0,C E 0,K G 0 0] 232)):=(ak _ _).alloc _;have q0:=zF w (a0 #[Q ⟨#[]⟩,Q ⟨#[]⟩,C E 0,C E 0,C E 0,C E 0,K G 0 0] 232);have a7:(w:B)<(w.alloc (a0 #[Q ⟨#[]⟩,Q ⟨#[]⟩,C E 0,C E 0,C E 0,C E 0,K G 0 0] 232)).heap.size:=by simp
 obtain⟨W0,N⟩:∃ W0,W0=w.alloc (a0 #[Q ⟨#[]⟩,Q ⟨#[]⟩,C E 0,C E 0,C E 0,C E 0,K G 0 0] 232):=⟨_,rfl⟩
 rw[<-N]at h0 q0 a7;have Y:=zIW s 4 W0 (hE.no h0) hs;have H0:=zh h0;clear h0 hE
 go_enter Tryz.func117,Tryz.ntmps117
 go_upto_region 1 with(fail)
 rw[<-N];clear N
 go_wp2_with fail
 refine Y.mono ?_;rintro en O ⟨Z,F⟩;have b8:=F.size;have q1:=F.heap q0 id;have a2:=zh (H0.out.step F zi);clear Y q0 F;rcases Z with⟨a3,rfl⟩|⟨k,R,t,le,i,l,n,a,a',U,A,a4,hk,rfl,a8,a5,u⟩
 .have Hn:a1 (∀ c,parseC s=P c->c.kind≠4):=a3;have I:Fr No O (O.alloc (a0 #[C E 0,Q ⟨#[]⟩,Q ⟨#[]⟩,C E 0,C E 0,C E 0,K G 0 0] 224)):=(ak _ _).alloc _;have z:=I.heap q1 id;have V:=zh (a2.out.step I zi);have X:=zh z;clear q1 I a3 z
  go_upto_region 3 with(fail)
  generalize O.alloc (a0 #[C E 0,Q ⟨#[]⟩,Q ⟨#[]⟩,C E 0,C E 0,C E 0,K G 0 0] 224)=W2 at *;have z:=X.out;obtain⟨b0,b1,b2,b3,b4,b5,b6⟩:=cl7 z;obtain⟨f0,f1,f2,f3,f4,f5,f6⟩:=fl7 z;have J:=set7 z rfl (Q ⟨#[]⟩) (Q ⟨#[]⟩) (C E 0) (C E 0) (C E 0) (C E 0) (K G 0 0);have D:=zh (V.out.step J.2 (λb hb h=>by omega));have o:=zh J.1;clear J z
  go_wp2_with fail
  have y0:=zB o.out 0;have y1:=zB o.out 1;have y2:=zB o.out 2;have y3:=zB o.out 3;have y4:=zB o.out 4;have y5:=zB o.out 5;have y6:=zB o.out 6;refine bc (v:=.tuple #[ah #[Q ⟨#[]⟩,Q ⟨#[]⟩,C E 0,C E 0,C E 0,C E 0,K G 0 0],.bool am]) (by simp[bd,bq,go_sem,y0,y1,y2,y3,y4,y5,y6]) rfl ?_;exact⟨.inl ⟨Hn.out,rfl⟩,D.out⟩
 .subst hk;have a9:a1 (parseC s=P (.mk 4 i l R t le n)):=a4;have y:=zh u;have I:Fr No O (O.alloc (a0 #[C E 4,Q i,Q l,C E R,C E t,C E le,K a n.length U] 224)):=(ak _ _).alloc _;have X:=zh (I.heap q1 id);have qt:=zF O (a0 #[C E 4,Q i,Q l,C E R,C E t,C E le,K a n.length U] 224);have V:=zh (a2.out.step I zi);have b7:=zh (a5.no I (λ_=>id));clear q1 I a5 a4 u a8
  go_upto_region 4 with(fail)
  generalize O.alloc (a0 #[C E 4,Q i,Q l,C E R,C E t,C E le,K a n.length U] 224)=W2 at *;obtain⟨-,b9,-,d0,d1⟩:=cl5 qt;have z:=X.out;clear qt;obtain⟨b0,b1,b2,b3,b4,b5,b6⟩:=cl7 z;obtain⟨f0,f1,f2,f3,f4,f5,f6⟩:=fl7 z;have J:=set7 z rfl (Q p) (Q i) (C E rd) (C E R) (C E t) (C E t) (K a' n.length A);have D:=zh (V.out.step J.2 (λb hb h=>by omega));have a6:=zh (b7.out.fr J.2 (λad e d2 h=>by have:=y.out ad e;omega));have o:=zh J.1;clear J z
  go_wp2_with fail
  have y0:=zB o.out 0;have y1:=zB o.out 1;have y2:=zB o.out 2;have y3:=zB o.out 3;have y4:=zB o.out 4;have y5:=zB o.out 5;have y6:=zB o.out 6;refine bc (v:=.tuple #[ah #[Q p,Q i,C E rd,C E R,C E t,C E t,K a' n.length A],.bool af]) (by simp[bd,bq,go_sem,y0,y1,y2,y3,y4,y5,y6]) rfl ?_;exact⟨.inr ⟨.mk 4 i l R t le n,a',A,a9.out,rfl,rfl,a6.out,λad e=>by have:=y.out ad e;omega⟩,D.out⟩
structure Mems (w:ag)(a:al ap)(cap:B)(L:ai Mem):Prop where
 len:L.length<=cap
 max:cap<=bf
 isNil:a=G->L=[]/\cap=0
 ok:∀ m∈L,Strs w m.a m.c m.l
 cell:∀ ad,a=P ad->L≠[]->ad.spot=G/\ad.block<(w:B)/\∀ i m,L[i]?=P m->∀ j,j<7->w.cell? ⟨ad.block,ad.off+(i*7+j),G⟩=m.vals[j]?
structure MemAt (w:ag)(b o:B)(m:Mem):Prop where
 c0:w.cell? ⟨b,o,G⟩=P (Q m.p)
 c1:w.cell? ⟨b,o+1,G⟩=P (Q m.i)
 c2:w.cell? ⟨b,o+2,G⟩=P (C E m.r)
 c3:w.cell? ⟨b,o+3,G⟩=P (C E m.s)
 c4:w.cell? ⟨b,o+4,G⟩=P (C E m.t)
 c5:w.cell? ⟨b,o+5,G⟩=P (C E m.e)
 c6:w.cell? ⟨b,o+6,G⟩=P (K m.a m.l.length m.c)
theorem Mems.elem {y:B}(h:Mems w a y L){k:B}(v:k<L.length):
  ∃ b o m,a=P ⟨b,o,G⟩/\L[k]?=P m/\Strs w m.a m.c m.l/\MemAt w b (o+k*7) m/\b<(w:B):=by
 cases a with
 | none=>obtain⟨rfl,_⟩:=h.isNil rfl;simp at v
 | some A=>
  obtain⟨b,o,I⟩:=A;obtain⟨z,D,F⟩:=h.cell _ rfl (by intro e;subst e;simp at v);simp at z;subst z;have u:=F k _ (bn v);exact⟨b,o,L[k],rfl,bn v,h.ok _ (List.getElem_mem v),⟨u 0 (by omega),u 1 (by omega),u 2 (by omega),u 3 (by omega),u 4 (by omega),u 5 (by omega),u 6 (by omega)⟩,D⟩
theorem Mems.lenmax {o:B}(h:Mems w a o L):L.length<=9223372036854775807:=by
 have v:=h.len;have u:=h.max;unfold bf at u;omega
theorem Mems.fr (h:Mems w a u L)(y:Fr S w w')(D:∀ o,a=P o->L≠[]->¬ S o.block)(F:∀ m∈L,∀ o,m.a=P o->m.l≠[]->¬ S o.block):Mems w' a u L:=
 ⟨h.len,h.max,h.isNil,λm z=>(h.ok m z).fr y (F m z),λo e v=>by
  obtain⟨I,A,J⟩:=h.cell o e v;refine⟨I,Nat.lt_of_lt_of_le A y.size,λi m N j O=>?_⟩;rw[<-J i m N j O];exact World.cell?_of_block (y.block _ A (D o e v))⟩
theorem Mems.no {o:B}(h:Mems w a o L)(v:Fr S w w')(u:∀ k,¬ S k):Mems w' a o L:=h.fr v (λ_ _ _=>u _) (λ_ _ _ _ _=>u _)
theorem Mems.keep (h:Mems w a u L)(z:Fr S w w')(y:∀ b,b<(w:B)->¬ S b):Mems w' a u L:=
 h.fr z (λv e o=>y _ (h.cell v e o).2.1) (λm A v e o=>y _ ((h.ok m A).cell v e o).2.1)
theorem Mems.nil (w:ag):Mems w G 0 []:=⟨by simp,by simp,λ_=>⟨rfl,rfl⟩,by simp,λ_ e _=>by cases e⟩
theorem infoM: (Tryz.prog.info? 232).map (λi=>(i.zero,i.size,i.bytes))=P (P (ah #[Q au,Q au,C E 0,C E 0,C E 0,C E 0,K G 0 0]),7,88):=by kernel_rfl
def mflat (L:ai Mem):ai Value:=L.flatMap (λm=>m.vals.toList)
theorem zB1 (L:ai Mem)(m:Mem):mflat (L++[m])=mflat L++m.vals.toList:=by simp[mflat]
theorem zCZ (m:Mem):∀ u∈m.vals.toList,u.oneCell'=true:=by
 intro u h;simp[aj]at h;rcases h with rfl|rfl|rfl|rfl|rfl|rfl|rfl<;>rfl
theorem zH5 : ∀ (L:ai Mem) (i:B) (m:Mem),L[i]?=P m->∀ j,j<7->(mflat L)[i*7+j]?=m.vals[j]?
 | [],i,m,h,j,o=>by simp at h
 | x::t,0,m,h,j,o=>by
  simp at h;subst h;have:mflat (x::t)=x.vals.toList++mflat t:=by simp[mflat]
  rw[this,List.getElem?_append_left (by simp[aj];omega)];simp
 | x::t,i+1,m,h,j,o=>by
  have:mflat (x::t)=x.vals.toList++mflat t:=by simp[mflat]
  rw[this,List.getElem?_append_right (by simp[aj];omega),show (i+1)*7+j-x.vals.toList.length=i*7+j from by simp[aj];omega];exact zH5 t i m (by simpa using h) j o
theorem Mems.of_own {e:TypeId}(h:w.ownsRow u e 7 v L.length (mflat L))(z:∀ m∈L,Strs w m.a m.c m.l):
  ∃ a o,v=K a L.length o/\Mems w a o L/\∀ y,a=P y->u<=y.block:=by
 obtain⟨_,⟨rfl,A⟩|⟨g,o,D,rfl,N,F,O,A,Y,R⟩⟩:=h
 .have:L=[]:=List.eq_nil_of_length_eq_zero A;subst this;exact⟨G,0,rfl,Mems.nil w,λ_ e=>by cases e⟩
 .refine⟨P ⟨g,0,G⟩,o,rfl,⟨O,A,(λe=>by cases e),z,?_⟩,λy e=>by cases e;exact N⟩;intro y e U;cases e;refine⟨rfl,zC F,λi m I j V=>?_⟩;rw[zB F];simp only[Nat.zero_add];have X:i<L.length:=(List.getElem?_eq_some_iff.1 I).1;have J:(D.toList.take (L.length*7))[i*7+j]?=(mflat L)[i*7+j]?:=by rw[R]
  rw[List.getElem?_take_of_lt (by omega),zH5 L i m I j V]at J;rw[<-Array.getElem?_toList,J]
def MFresh (w:ag)(base:B)(L:ai Mem):Prop:=∀ m∈L,Strs w m.a m.c m.l/\BlkT w m.a 9/\∀ ad,m.a=P ad->base<=ad.block
theorem MFresh.fr {o:B}(h:MFresh w o L)(v:Fr S w w')(D:∀ b,o<=b->b<(w:B)->¬ S b):MFresh w' o L:=λm F=>by
 obtain⟨I,y,z⟩:=h m F;have A:∀ u,m.a=P u->¬ S u.block:=λu e=>by obtain⟨cs,J⟩:=y u e;exact D _ (z u e) (zC J)
 exact⟨I.fr v (λu e _=>A u e),y.fr v A,z⟩
theorem MFresh.own {o A:B}{n:B}{D:ai Value}(h:MFresh w o L)(F:w.ownsRow A 232 7 v n D)(u:Fr (λb=>v.ownBlock=P b) w w'):MFresh w' o L:=λm I=>by
 obtain⟨J,y,N⟩:=h m I;have z:=BlkT.ne F y (by decide);exact⟨J.fr u (λO e _=>z O e),y.fr u z,N⟩
theorem MFresh.snoc {o:B}(h:MFresh w o L)(y:Strs w m.a m.c m.l)(z:BlkT w m.a 9)(A:∀ v,m.a=P v->o<=v.block):MFresh w o (L++[m]):=λx u=>by
 rcases List.mem_append.1 u with u|u
 .exact h x u
 .obtain rfl:x=m:=by simpa using u
  exact⟨y,z,A⟩
def OfR (f:ab->ae->ab->al Mem)(w:ag)(p:ab)(rd:ae)(s:ab)(e:be)(w':ag):Prop:=
 ∃ (m:Mem) (b:Bool),e=.returned (.tuple #[ah #[Q m.p,Q m.i,C E m.r,C E m.s,C E m.t,C E m.e,K m.a m.l.length m.c],.bool b])/\((b=am/\f p rd s=G)\/(b=af/\f p rd s=P m.k))/\(b=af->Strs w' m.a m.c m.l)/\(b=af->∀ ad,m.a=P ad->(w:B)<=ad.block)
def ofK (k:ae)(mk:ab->ae->Ct->Mem)(p:ab)(rd:ae)(s:ab):al Mem:=match parseC s with
 | some c=>if c.kind=k then P (mk p rd c)else G
 | none=>G
def mk2 (p:ab)(rd:ae)(c:Ct):Mem:=⟨p,c.id,rd,c.slot,c.total,c.least,G,c.inner.map aq,0⟩
def mk3 (p:ab)(rd:ae)(c:Ct):Mem:=⟨p,c.id,rd,0,0,0,G,c.inner.map aq,0⟩
def mk4 (p:ab)(rd:ae)(c:Ct):Mem:=⟨p,c.id,rd,c.slot,c.total,c.total,G,c.inner.map aq,0⟩
theorem zHz (h:∀ c,parseC s=P c->c.kind≠k):ofK k o p rd s=none:=by
 unfold ofK;cases hc:parseC s with
 | none=>rfl
 | some c=>exact if_neg (h c hc)
theorem zG7 {c:Ct}(h:parseC s=P c)(u:c.kind=k):ofK k o p rd s=P (o p rd c):=by
 unfold ofK;rw[h];exact if_pos u
theorem OfRes2.of (h:OfRes2 w p s rd e w'):OfR (ofK 2 mk2) w p rd s e w':=by
 rcases h with⟨o,u⟩|⟨c,v,y,o,u,z,A,D⟩
 .exact⟨⟨⟨#[]⟩,⟨#[]⟩,0,0,0,0,G,[],0⟩,am,u,.inl ⟨rfl,zHz o⟩,(λh=>by cases h),(λh=>by cases h)⟩
 .exact⟨⟨p,c.id,rd,c.slot,c.total,c.least,v,c.inner.map aq,y⟩,af,by rw[z];simp,.inr ⟨rfl,zG7 o u⟩,λ_=>A,λ_=>D⟩
theorem OfRes.of (h:OfRes w p s rd e w'):OfR (ofK 3 mk3) w p rd s e w':=by
 rcases h with⟨o,u⟩|⟨c,v,y,o,u,z,A,D⟩
 .exact⟨⟨⟨#[]⟩,⟨#[]⟩,0,0,0,0,G,[],0⟩,am,u,.inl ⟨rfl,zHz o⟩,(λh=>by cases h),(λh=>by cases h)⟩
 .exact⟨⟨p,c.id,rd,0,0,0,v,c.inner.map aq,y⟩,af,by rw[z];simp,.inr ⟨rfl,zG7 o u⟩,λ_=>A,λ_=>D⟩
theorem OfRes4.of (h:OfRes4 w p s rd e w'):OfR (ofK 4 mk4) w p rd s e w':=by
 rcases h with⟨o,u⟩|⟨c,v,y,o,u,z,A,D⟩
 .exact⟨⟨⟨#[]⟩,⟨#[]⟩,0,0,0,0,G,[],0⟩,am,u,.inl ⟨rfl,zHz o⟩,(λh=>by cases h),(λh=>by cases h)⟩
 .exact⟨⟨p,c.id,rd,c.slot,c.total,c.total,v,c.inner.map aq,y⟩,af,by rw[z];simp,.inr ⟨rfl,zG7 o u⟩,λ_=>A,λ_=>D⟩
def TxS (w:ag)(b0:B)(tx:Dev->ab)(L:ai Dev):Prop:=∀ d∈L,∃ l,Atts w d.aa d.ac l/\d.an=l.length/\getP l zAK=tx d/\(tx d).size<=100000/\∀ ad,d.aa=P ad->l≠[]->ad.block<b0
theorem TxS.fr {T:B->Prop}{o:B}{tx:Dev->ab}{L:ai Dev}(h:TxS w o tx L)(v:Fr T w w')(y:∀ b,b<o->¬ T b):TxS w' o tx L:=λd z=>by
 obtain⟨l,A,D,F,I,u⟩:=h d z;exact⟨l,A.fr v (λJ e N=>y _ (u J e N)),D,F,I,u⟩
def MOk (w:ag)(v:Value)(L:ai Mem):Prop:=∀ m∈L,Strs w m.a m.c m.l/\∀ ad,m.a=P ad->m.l≠[]->¬ v.ownBlock=P ad.block
theorem MOk.no (h:MOk w v L)(u:Fr No w w'):MOk w' v L:=λm o=>⟨(h m o).1.no u (λ_=>id),(h m o).2⟩
theorem MOk.push {D:Value}(h:MOk w v L)(J:Strs w m.a m.c m.l)(N:∀ o,m.a=P o->m.l≠[]->¬ v.ownBlock=P o.block)(O:Fr (λb=>v.ownBlock=P b) w w')
  (u:D.ownBlock=v.ownBlock\/∃ n,D.ownBlock=P n/\(w:B)<=n):MOk w' D (L++[m]):=by
 have z:∀ x:Mem,Strs w x.a x.c x.l->(∀ o,x.a=P o->x.l≠[]->¬ v.ownBlock=P o.block)->Strs w' x.a x.c x.l/\∀ o,x.a=P o->x.l≠[]->¬ D.ownBlock=P o.block:=λx y I=>by
  refine⟨y.fr O (λo e F=>I o e F),λo e F A=>?_⟩;rcases u with u|⟨n,u,R⟩
  .rw[u]at A;exact I o e F A
  .rw[u]at A;injection A with A
   have:=(y.cell o e F).2.1;omega
 intro x y;rcases List.mem_append.1 y with y|y
 .exact z x (h x y).1 (h x y).2
 .simp at y;subst y;exact z x J N
theorem zES (F:B)(eg:∀ args w,(callFunc F args).run aw w=.ok (.enter F args) w)(f:ab->ae->ab->al Mem)(hF:∀ (p:ab) (rd:ae) (s:ab) (W:ag),Env W->s.size<=100000->ax aw F #[Q p,C E rd,Q s] W λe w'=>OfR f W p rd s e w'/\Fr No W w')
  (tx:Dev->ab) (b0:B) (c:RC) (sa:al ap) (sc:B) (ma:al ap) (mc:B) (S:ai Src) (M:ai Vir) (l5:ai (ab×ab)) (w:ag) (h:RS c w sa sc ma mc S M l5) (hE:Env w) (hx:TxS w b0 tx (S.map Src.d)) (l6:b0<=(w:B)) (hS:S.length<=1000):
  ax aw 108 #[.pointer (P ⟨c.xb,0,G⟩),.func (.func F) #[] #[]] w λe w'=>(∃ (L:ai Mem) (a:al ap) (j0:B),L.map ar=S.filterMap (λs=>f s.o s.r (tx s.d))/\e=.returned (K a L.length j0)/\Mems w' a j0 L/\(∀ D,a=P D->(w:B)<=D.block))/\Fr No w w':=by
 obtain⟨i0,i2,i3,i4,i5⟩:=info_parts infoM;have t5:w.cell? ⟨c.xb,5,G⟩=P (K sa S.length sc):=zB h.k 5;obtain⟨a9,c9,j9,g7,j1⟩:=Srcs.of_own h.so;cases j9;have l7:=g7.lenmax;have HE:a1 (∀ W,Fr (From (w:B)) w W->Env W):=λW hf=>hE.fr hf (λb A=>by unfold From;have:=hE.sz;omega)
 have j2:a1 (∀ W,Fr (From (w:B)) w W->TxS W b0 tx (S.map Src.d)):=λW hf=>hx.fr hf (λb A h=>by omega)
 have HF:=zh hF;have k0:∀ D,sa=P D->S≠[]->D.block<(w:B):=λD e hn=>(g7.cell D e hn).2.1
 clear h hE hx hF j1
 go_enter Tryz.func108,Tryz.ntmps108
 go_wp2_with fail
 clear t5
 go_loopw [5,15] (λv i wr=>∃ (j:B) (L:ai Mem) (av:al ap) (cv:B),j<=S.length/\L.length<=j/\v=K av L.length cv/\i=C E (j:ae)/\wr.ownsRow (w:B) 232 7 (K av L.length cv) L.length (mflat L)/\a1 (L.map ar=(S.take j).filterMap λs=>f s.o s.r (tx s.d))/\MOk wr (K av L.length cv) L/\Fr (From (w:B)) w wr) (λ_ i _=>S.length-(ay i).toNat)
 case atStart=>exact⟨0,[],G,0,by omega,by simp,rfl,rfl,World.ownsRow_nil _ _ _ _,by unfold a1;simp,(λm hm=>by cases hm),ak _ _⟩
 case round=>
  obtain⟨j,L,av,cv,hj,l8,rfl,rfl,b8,HL,g8,hf⟩:=hrel;have k8:L.length<=1000:=by omega
  have i6:=λb (h:(ao av L.length cv).ownBlock=P b)=>zY b8 h
  have k9:=hf.size;by_cases k1:j<S.length
  .have j3:(j:ae)<S.length:=by omega
   obtain⟨cb,l0,s,rfl,hs,⟨c0,c1,c2,c3,c4,c5,c6,c7,c8,c9,k2,k3,k4⟩,l1⟩:=(g7.fr hf (λD e hn h=>by have:=k0 D e hn;omega)).elem k1;have d8:a1 (S.take (j+1)=S.take j++[s]):=by unfold a1;rw[List.take_add_one,hs];rfl
   have g0:s.d∈S.map Src.d:=List.mem_map_of_mem (List.mem_of_getElem? hs);obtain⟨W1,i7,g9,d1⟩:=zy wr (a0 s.vals 134);have g1:=zh (hf.step g9 zn);have j4:a1 (∀ W,Fr (From (w:B)) w W->ax aw 72 #[ah #[C E s.d.index,C E s.d.parent,Q s.d.name,Q s.d.orig,Q s.d.sub,Q s.d.drv,Q s.d.ali,C E s.d.kind,C E s.d.num,K s.d.aa s.d.an s.d.ac]] W λe w'=>e=.returned (Q (tx s.d))/\Fr No W w'):=λW h0=>by
    obtain⟨l,h1,h2,h3,h4,h5⟩:=j2.out W h0 _ g0;have:=zLM s.d l W h1 h2;rw[h3]at this;exact this
   have i8:a1 (∀ W,Fr (From (w:B)) w W->ax aw F #[Q s.o,C E s.r,Q (tx s.d)] W λe w'=>OfR f W s.o s.r (tx s.d) e w'/\Fr No W w'):=λW h0=>by
    obtain⟨l,h1,h2,h3,h4,h5⟩:=j2.out W h0 _ g0;exact HF.out _ _ _ _ (HE.out W h0) h4
   have b6:=zh b8;have d9:=zh g8;have Hf:=zh hf;unfold Src.vals at i7;clear hs g0 b8 g8 hf
   go_upto_region 5 with(fail)
   rw[<-i7];clear i7 c0 c1 c2 c3 c4 c5 c6 c7 c8 c9 k2 k3 k4;refine zZ (From (W1:B)) (.q 0 (.q 1 (.q 2 (.q 3 (.q 4 (.q 5 (.q 6 (.m2 7 (.m2 8 (.q 9 (.q 10 (.q 11 (.m1 12 (.m1 13 (.q 14 .fin)))))) 12 (.m1 8 (.q 9 (.q 10 (.q 11 (.m1 13 (.q 14 .fin))))))) 12 (.m1 7 (.m1 8 (.q 9 (.q 10 (.q 11 (.m1 13 (.q 14 .fin))))))))))))))) _ (by kernel_rfl) (by kernel_rfl) (λW3 g2=>?_) zj;have d3:=g2.heap d1 id;have l2:=g2.size;have l3:(wr:B)<(W1:B):=zC d1;have cB:∀ g:Gr (From (W1:B)) W3,SrcB0 g.W (wr:B) s:=λg=>SrcB0.of (g.fr.heap d3 (by omega))
   have e0:=λg=>(cB g).c0
   have e1:=λg=>(cB g).c1
   have e2:=λg=>(cB g).c2
   have e3:=λg=>(cB g).c3
   have e4:=λg=>(cB g).c4
   have e5:=λg=>(cB g).c5
   have e6:=λg=>(cB g).c6
   have e7:=λg=>(cB g).c7
   have e8:=λg=>(cB g).c8
   have e9:=λg=>(cB g).c9
   have k5:=λg=>(cB g).c10
   have k6:=λg=>(cB g).c11
   have k7:=λg=>(cB g).c12
   have h6:=zh g2;have l4:=zh (g2.mono (T:=From (W1:B)) zn);clear cB d3 d1
   repeat((first|apply zL rfl rfl rfl|apply zJ rfl rfl rfl);intro i9 hK;go_big_quiet_op;go_big_quiet_on)
   clear e0 e1 e2 e3 e4 e5 e6 e7 e8 e9 k5 k6 k7 g2;refine zAA rfl rfl ?_ ?_
   .skip
    go_wp2_with fail
    refine(j4.out W3 (g1.out.step h6.out (λb A h=>h.elim))).mono ?_;rintro e X ⟨rfl,J⟩;have a7:=zh (h6.out.step J zi);have j5:=J.size
    go_wp2_with fail
    refine zm J ?_;clear J;refine zAA rfl rfl ?_ ?_
    .skip;have b9:=i8.out X (g1.out.step a7.out (λb A h=>h.elim))
     go_wp2_with (go_at_fn F;refine b9.mono ?_;rintro e O ⟨⟨m,bb,rfl,hv,a8,Z⟩,u⟩)
     have b7:=zh (a7.out.step u zi);have h8:=u.size;have Hv:=zh hv;have a3:bb=af->∀ D,m.a=P D->m.l≠[]->D.block<(O:B):=λA D e hn=>((a8 A).cell D e hn).2.1
     have b1:=zg3 a8 Z a3;clear hv b9 a8 Z a3;refine zm u ?_;clear u
     repeat((first|apply zL rfl rfl rfl|apply zJ rfl rfl rfl);intro i9 hK;go_big_quiet_op;go_big_quiet_on)
     apply zH;exact rfl;obtain⟨d0,R,N,qb⟩:=zy O (a0 #[Q ⟨#[]⟩,Q ⟨#[]⟩,C E 0,C E 0,C E 0,C E 0,K G 0 0] 232);have b2:=zh (b7.out.step N zn);have j6:(W1:B)<=(O:B):=b7.out.size;have j7:(O:B)<(d0:B):=zC qb;have h9:=N.size
     go_wp2_with fail
     refine zp ?_;rw[<-R];clear R;apply zH;exact rfl;obtain⟨f0,f1,f2,f3,f4,f5,f6⟩:=fl7 qb;obtain⟨z0,z1,z2,z3,z4,z5,z6⟩:=cl7 qb;have h7:=zh (set7 qb rfl (Q m.p) (Q m.i) (C E m.r) (C E m.s) (C E m.t) (C E m.e) (K m.a m.l.length m.c));clear qb
     go_wp2_with fail
     refine bi ⟨h7.out.2.mono (λb _ h=>by omega),?_⟩
     repeat((first|apply zL rfl rfl rfl|apply zJ rfl rfl rfl);intro i9 hK;go_big_quiet_op;go_big_quiet_on)
     obtain⟨V,b3⟩:∃ V,V=(((((((d0.setCell ⟨O,0,G⟩ (Q m.p)).setCell ⟨O,1,G⟩ (Q m.i)).setCell ⟨O,2,G⟩ (C E m.r)).setCell ⟨O,3,G⟩ (C E m.s)).setCell ⟨O,4,G⟩ (C E m.t)).setCell ⟨O,5,G⟩ (C E m.e)).setCell ⟨O,6,G⟩ (K m.a m.l.length m.c)):=⟨_,rfl⟩
     have U:=h7.out;rw[<-b3]at U;rw[<-b3];clear b3 h7;have hT:=(b2.out.mono (T:=From (W1:B)) zn).step U.2 (λb A h=>by omega);have HN:a1 (Fr No wr V):=g9.step hT (λb A h=>by omega);have q9:=U.1;have d2:bb=af->Strs V m.a m.c m.l:=λA=>((b1.out.1 A).no N (λ_=>id)).fr U.2 (λD e hn hs=>by unfold Is at hs;have:=b1.out.2.2 A D e hn;omega)
     have a4:bb=af->∀ D,m.a=P D->m.l≠[]->¬ (ao av L.length cv).ownBlock=P D.block:=λA D e hn h=>by have:=i6 _ h;have:=b1.out.2.1 A D e;omega
     have d4:=zg2 d2 a4;clear d2 a4;clear hT U f0 f1 f2 f3 f4 f5 f6 z0 z1 z2 z3 z4 z5 z6;refine zV ?_;rcases Hv.out with⟨A,d5⟩|⟨A,hm⟩
     .subst A;have g3:=zh d5;clear d5;clear q9;have HR:=zg3 (zG b6.out HN.out (λ_ _=>id)) (MOk.no d9.out HN.out) (Hf.out.step HN.out zn);have Y:a1 (L.map ar=(S.take (j+1)).filterMap λs=>f s.o s.r (tx s.d)):=by unfold a1;rw[d8.out,az,HL.out];simp[g3.out]
      go_wp2_with fail
      go_roundw
      case rel=>exact⟨j+1,L,av,cv,by omega,by omega,rfl,by go_num,HR.out.1,Y,HR.out.2.1,HR.out.2.2⟩
      case measure=>simp[ay];omega
     .subst A;have g4:=zh hm;clear hm;obtain⟨x0,x1,x2,x3,x4,x5,x6⟩:=cl7 q9;have y:=zG b6.out HN.out (λ_ _=>id);have j8:=HN.out.size;have b4:=zh y;clear q9;have Y:a1 ((L++[m]).map ar=(S.take (j+1)).filterMap λs=>f s.o s.r (tx s.d)):=by unfold a1;rw[d8.out,az,bh,HL.out];simp[g4.out]
      go_wp2_with (at_builtin;refine bm _ rfl _ _ 179 rfl (w:B) 232 i0 (ah #[Q au,Q au,C E 0,C E 0,C E 0,C E 0,K G 0 0]) 7 88 bj i2 i3 i4 i5 rfl (by decide) _ _ _ rfl (y.alloc _) ⟨V,0,G⟩ 1 1 (aj m).toList rfl rfl (zg _ (aj m) _ rfl) (zCZ _) (by unfold bf;omega) (by omega) (by first|omega|(simp;done)|(simp;omega)) ?_;intro v' w9 z I _ a5;obtain⟨g5,g6,rfl⟩:=zI z)
      have d6:Fr (λb=>(ao av L.length cv).ownBlock=P b) (V.alloc (a0 (aj m) 232)) w9:=bg I;have d7:Fr No V (V.alloc (a0 (aj m) 232)):=(ak _ _).alloc _;have b5:Fr (λb=>(ao av L.length cv).ownBlock=P b) V w9:=(d7.mono zn).step d6 (λb _ h=>h);have a6:=((MOk.no d9.out HN.out)).push (d4.out.1 rfl) (d4.out.2 rfl) b5 (a5.imp id (λe=>⟨_,e,by simp⟩));have HF:=zg3 z a6 ((Hf.out.step HN.out zn).step b5 (λb _ h=>zP b4.out h));clear z d6 d7 b5 a6 a5 I y
      go_roundw
      case rel=>exact⟨j+1,L++[m],g5,g6,by omega,by simp;omega,by simp,by go_num,by rw[ba,zB1];exact HF.out.1,Y,(by rw[ba];exact HF.out.2.1),HF.out.2.2⟩
      case measure=>simp[ay];omega
    .skip;obtain⟨d0,R,N,qb⟩:=zy X (a0 #[Q ⟨#[]⟩,Q ⟨#[]⟩,C E 0,C E 0,C E 0,C E 0,K G 0 0] 232);have b2:=zh (a7.out.step N zn);have j6:(W1:B)<=(X:B):=a7.out.size;have j7:(X:B)<(d0:B):=zC qb;have h9:=N.size
     go_wp2_with fail
     refine zp ?_;rw[<-R];clear R;apply zH;exact rfl;have b9:=i8.out d0 (g1.out.step b2.out (λb A h=>h.elim))
     go_wp2_with (go_at_fn F;refine b9.mono ?_;rintro e O ⟨⟨m,bb,rfl,hv,a8,Z⟩,u⟩)
     have b7:=zh (b2.out.step u zi);have h8:=u.size;have Hv:=zh hv;have a3:bb=af->∀ D,m.a=P D->m.l≠[]->D.block<(O:B):=λA D e hn=>((a8 A).cell D e hn).2.1
     have b1:=zg3 a8 Z a3;clear hv b9 a8 Z a3;have qb:=u.heap qb id;refine zm u ?_;clear u
     repeat((first|apply zL rfl rfl rfl|apply zJ rfl rfl rfl);intro i9 hK;go_big_quiet_op;go_big_quiet_on)
     apply zH;exact rfl;obtain⟨f0,f1,f2,f3,f4,f5,f6⟩:=fl7 qb;obtain⟨z0,z1,z2,z3,z4,z5,z6⟩:=cl7 qb;have h7:=zh (set7 qb rfl (Q m.p) (Q m.i) (C E m.r) (C E m.s) (C E m.t) (C E m.e) (K m.a m.l.length m.c));clear qb
     go_wp2_with fail
     refine bi ⟨h7.out.2.mono (λb _ h=>by omega),?_⟩
     repeat((first|apply zL rfl rfl rfl|apply zJ rfl rfl rfl);intro i9 hK;go_big_quiet_op;go_big_quiet_on)
     obtain⟨V,b3⟩:∃ V,V=(((((((O.setCell ⟨X,0,G⟩ (Q m.p)).setCell ⟨X,1,G⟩ (Q m.i)).setCell ⟨X,2,G⟩ (C E m.r)).setCell ⟨X,3,G⟩ (C E m.s)).setCell ⟨X,4,G⟩ (C E m.t)).setCell ⟨X,5,G⟩ (C E m.e)).setCell ⟨X,6,G⟩ (K m.a m.l.length m.c)):=⟨_,rfl⟩
     have U:=h7.out;rw[<-b3]at U;rw[<-b3];clear b3 h7;have hT:=(b7.out.mono (T:=From (W1:B)) zn).step U.2 (λb A h=>by omega);have HN:a1 (Fr No wr V):=g9.step hT (λb A h=>by omega);have q9:=U.1;have d2:bb=af->Strs V m.a m.c m.l:=λA=>(b1.out.1 A).fr U.2 (λD e hn hs=>by unfold Is at hs;have:=b1.out.2.1 A D e;omega)
     have a4:bb=af->∀ D,m.a=P D->m.l≠[]->¬ (ao av L.length cv).ownBlock=P D.block:=λA D e hn h=>by have:=i6 _ h;have:=b1.out.2.1 A D e;omega
     have d4:=zg2 d2 a4;clear d2 a4;clear hT U f0 f1 f2 f3 f4 f5 f6 z0 z1 z2 z3 z4 z5 z6;refine zV ?_;rcases Hv.out with⟨A,d5⟩|⟨A,hm⟩
     .subst A;have g3:=zh d5;clear d5;clear q9;have HR:=zg3 (zG b6.out HN.out (λ_ _=>id)) (MOk.no d9.out HN.out) (Hf.out.step HN.out zn);have Y:a1 (L.map ar=(S.take (j+1)).filterMap λs=>f s.o s.r (tx s.d)):=by unfold a1;rw[d8.out,az,HL.out];simp[g3.out]
      go_wp2_with fail
      go_roundw
      case rel=>exact⟨j+1,L,av,cv,by omega,by omega,rfl,by go_num,HR.out.1,Y,HR.out.2.1,HR.out.2.2⟩
      case measure=>simp[ay];omega
     .subst A;have g4:=zh hm;clear hm;obtain⟨x0,x1,x2,x3,x4,x5,x6⟩:=cl7 q9;have y:=zG b6.out HN.out (λ_ _=>id);have j8:=HN.out.size;have b4:=zh y;clear q9;have Y:a1 ((L++[m]).map ar=(S.take (j+1)).filterMap λs=>f s.o s.r (tx s.d)):=by unfold a1;rw[d8.out,az,bh,HL.out];simp[g4.out]
      go_wp2_with (at_builtin;refine bm _ rfl _ _ 179 rfl (w:B) 232 i0 (ah #[Q au,Q au,C E 0,C E 0,C E 0,C E 0,K G 0 0]) 7 88 bj i2 i3 i4 i5 rfl (by decide) _ _ _ rfl (y.alloc _) ⟨V,0,G⟩ 1 1 (aj m).toList rfl rfl (zg _ (aj m) _ rfl) (zCZ _) (by unfold bf;omega) (by omega) (by first|omega|(simp;done)|(simp;omega)) ?_;intro v' w9 z I _ a5;obtain⟨g5,g6,rfl⟩:=zI z)
      have d6:Fr (λb=>(ao av L.length cv).ownBlock=P b) (V.alloc (a0 (aj m) 232)) w9:=bg I;have d7:Fr No V (V.alloc (a0 (aj m) 232)):=(ak _ _).alloc _;have b5:Fr (λb=>(ao av L.length cv).ownBlock=P b) V w9:=(d7.mono zn).step d6 (λb _ h=>h);have a6:=((MOk.no d9.out HN.out)).push (d4.out.1 rfl) (d4.out.2 rfl) b5 (a5.imp id (λe=>⟨_,e,by simp⟩));have HF:=zg3 z a6 ((Hf.out.step HN.out zn).step b5 (λb _ h=>zP b4.out h));clear z d6 d7 b5 a6 a5 I y
      go_roundw
      case rel=>exact⟨j+1,L++[m],g5,g6,by omega,by simp;omega,by simp,by go_num,by rw[ba,zB1];exact HF.out.1,Y,(by rw[ba];exact HF.out.2.1),HF.out.2.2⟩
      case measure=>simp[ay];omega
   .skip;obtain⟨d0,R,N,qb⟩:=zy W3 (a0 #[Q ⟨#[]⟩,Q ⟨#[]⟩,C E 0,C E 0,C E 0,C E 0,K G 0 0] 232);have b2:=zh (h6.out.step N zn);have j6:(W1:B)<=(W3:B):=h6.out.size;have j7:(W3:B)<(d0:B):=zC qb;have h9:=N.size
    go_wp2_with fail
    refine zp ?_;rw[<-R];clear R;apply zH;exact rfl
    go_wp2_with fail
    refine(j4.out d0 (g1.out.step b2.out (λb A h=>h.elim))).mono ?_;rintro e X ⟨rfl,J⟩;have a7:=zh (b2.out.step J zi);have j5:=J.size
    go_wp2_with fail
    have qb:=J.heap qb id;refine zm J ?_;clear J;apply zH;exact rfl;have b9:=i8.out X (g1.out.step a7.out (λb A h=>h.elim))
    go_wp2_with (go_at_fn F;refine b9.mono ?_;rintro e O ⟨⟨m,bb,rfl,hv,a8,Z⟩,u⟩)
    have b7:=zh (a7.out.step u zi);have h8:=u.size;have Hv:=zh hv;have a3:bb=af->∀ D,m.a=P D->m.l≠[]->D.block<(O:B):=λA D e hn=>((a8 A).cell D e hn).2.1
    have b1:=zg3 a8 Z a3;clear hv b9 a8 Z a3;have qb:=u.heap qb id;refine zm u ?_;clear u
    repeat((first|apply zL rfl rfl rfl|apply zJ rfl rfl rfl);intro i9 hK;go_big_quiet_op;go_big_quiet_on)
    apply zH;exact rfl;obtain⟨f0,f1,f2,f3,f4,f5,f6⟩:=fl7 qb;obtain⟨z0,z1,z2,z3,z4,z5,z6⟩:=cl7 qb;have h7:=zh (set7 qb rfl (Q m.p) (Q m.i) (C E m.r) (C E m.s) (C E m.t) (C E m.e) (K m.a m.l.length m.c));clear qb
    go_wp2_with fail
    refine bi ⟨h7.out.2.mono (λb _ h=>by omega),?_⟩
    repeat((first|apply zL rfl rfl rfl|apply zJ rfl rfl rfl);intro i9 hK;go_big_quiet_op;go_big_quiet_on)
    obtain⟨V,b3⟩:∃ V,V=(((((((O.setCell ⟨W3,0,G⟩ (Q m.p)).setCell ⟨W3,1,G⟩ (Q m.i)).setCell ⟨W3,2,G⟩ (C E m.r)).setCell ⟨W3,3,G⟩ (C E m.s)).setCell ⟨W3,4,G⟩ (C E m.t)).setCell ⟨W3,5,G⟩ (C E m.e)).setCell ⟨W3,6,G⟩ (K m.a m.l.length m.c)):=⟨_,rfl⟩
    have U:=h7.out;rw[<-b3]at U;rw[<-b3];clear b3 h7;have hT:=(b7.out.mono (T:=From (W1:B)) zn).step U.2 (λb A h=>by omega);have HN:a1 (Fr No wr V):=g9.step hT (λb A h=>by omega);have q9:=U.1;have d2:bb=af->Strs V m.a m.c m.l:=λA=>(b1.out.1 A).fr U.2 (λD e hn hs=>by unfold Is at hs;have:=b1.out.2.1 A D e;omega)
    have a4:bb=af->∀ D,m.a=P D->m.l≠[]->¬ (ao av L.length cv).ownBlock=P D.block:=λA D e hn h=>by have:=i6 _ h;have:=b1.out.2.1 A D e;omega
    have d4:=zg2 d2 a4;clear d2 a4;clear hT U f0 f1 f2 f3 f4 f5 f6 z0 z1 z2 z3 z4 z5 z6;refine zV ?_;rcases Hv.out with⟨A,d5⟩|⟨A,hm⟩
    .subst A;have g3:=zh d5;clear d5;clear q9;have HR:=zg3 (zG b6.out HN.out (λ_ _=>id)) (MOk.no d9.out HN.out) (Hf.out.step HN.out zn);have Y:a1 (L.map ar=(S.take (j+1)).filterMap λs=>f s.o s.r (tx s.d)):=by unfold a1;rw[d8.out,az,HL.out];simp[g3.out]
     go_wp2_with fail
     go_roundw
     case rel=>exact⟨j+1,L,av,cv,by omega,by omega,rfl,by go_num,HR.out.1,Y,HR.out.2.1,HR.out.2.2⟩
     case measure=>simp[ay];omega
    .subst A;have g4:=zh hm;clear hm;obtain⟨x0,x1,x2,x3,x4,x5,x6⟩:=cl7 q9;have y:=zG b6.out HN.out (λ_ _=>id);have j8:=HN.out.size;have b4:=zh y;clear q9;have Y:a1 ((L++[m]).map ar=(S.take (j+1)).filterMap λs=>f s.o s.r (tx s.d)):=by unfold a1;rw[d8.out,az,bh,HL.out];simp[g4.out]
     go_wp2_with (at_builtin;refine bm _ rfl _ _ 179 rfl (w:B) 232 i0 (ah #[Q au,Q au,C E 0,C E 0,C E 0,C E 0,K G 0 0]) 7 88 bj i2 i3 i4 i5 rfl (by decide) _ _ _ rfl (y.alloc _) ⟨V,0,G⟩ 1 1 (aj m).toList rfl rfl (zg _ (aj m) _ rfl) (zCZ _) (by unfold bf;omega) (by omega) (by first|omega|(simp;done)|(simp;omega)) ?_;intro v' w9 z I _ a5;obtain⟨g5,g6,rfl⟩:=zI z)
     have d6:Fr (λb=>(ao av L.length cv).ownBlock=P b) (V.alloc (a0 (aj m) 232)) w9:=bg I;have d7:Fr No V (V.alloc (a0 (aj m) 232)):=(ak _ _).alloc _;have b5:Fr (λb=>(ao av L.length cv).ownBlock=P b) V w9:=(d7.mono zn).step d6 (λb _ h=>h);have a6:=((MOk.no d9.out HN.out)).push (d4.out.1 rfl) (d4.out.2 rfl) b5 (a5.imp id (λe=>⟨_,e,by simp⟩));have HF:=zg3 z a6 ((Hf.out.step HN.out zn).step b5 (λb _ h=>zP b4.out h));clear z d6 d7 b5 a6 a5 I y
     go_roundw
     case rel=>exact⟨j+1,L++[m],g5,g6,by omega,by simp;omega,by simp,by go_num,by rw[ba,zB1];exact HF.out.1,Y,(by rw[ba];exact HF.out.2.1),HF.out.2.2⟩
     case measure=>simp[ay];omega
  .obtain rfl:j=S.length:=by omega
   have j3:¬ (S.length:ae)<S.length:=by omega
   obtain⟨a2,c2,hv,hR,i1⟩:=Mems.of_own b8 (λm hm=>(g8 m hm).1);cases hv;have Y:a1 (L.map ar=S.filterMap λs=>f s.o s.r (tx s.d)):=by unfold a1;rw[HL.out,List.take_length]
   have H:=zg3 hR i1 (hf.mono (T:=No) (λb A h=>by omega));clear b8 hf hR i1 g8 g7
   go_wp2_with fail
   go_ret;exact⟨⟨L,Y.out,av,cv,rfl,H.out.1,H.out.2.1⟩,H.out.2.2⟩
end Go.Proofs.YtckkocmhlhefpaaGreatDoor
