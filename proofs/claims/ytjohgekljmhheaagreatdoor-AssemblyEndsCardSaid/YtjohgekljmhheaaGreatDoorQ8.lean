import Derived.Test.YtjohgekljmhheaaGreatDoorQ7
import Derived.Lib.ItoaLen
namespace Go.Proofs.YtjohgekljmhheaaGreatDoor
open Go.RowKit Go.Maps Go.Sort Go.Shelf
set_option linter.unusedVariables false
set_option maxRecDepth 100000
set_option maxHeartbeats 8000000
open Ct renaming txt->al,mk->bh,text->bm,count->bz,valid->ci
open Fr renaming refl->ak,of_grown->ca,of_below_size->cz
open Go renaming World->ai,Addr->aq,Calls->ar,bodyPost_ret->ay,results->az,maxLen->bc,Ending->bi,Value->bj,info_parts->bv,wpList_append_own->cx,wpList_append_own_at->cy
open Go.Lib renaming itoa->cj
open Go.Lit renaming int->cp
open Go.Proofs renaming intOf->ba
open Go.Proofs.Tryz renaming prog->ap,results150->bt,strconv_Itoa_small->bu,underlying30->ce,results148->cu,underlying172->cw,func17->dc,ntmps17->dd,results100->de,results106->df,results108->dg
open Go.RowKit renaming Hid->ae
open Go.Value renaming slice->aw,string->bg
open Go.World renaming ownsRow_nil->cg,size_alloc->ch
open IntKind renaming i64->C
open Mem renaming vals->au,k->bf
open Obj renaming cells->R
open OnlyN renaming mk->cr
open Strs renaming of_own->ct
open Value renaming int->E,slice->P,string->af,agg->am,pointer->bo
open Vir renaming vals->cf
open _root_ renaming Nat->Q,ByteArray->D,Int->ab,List->ah,Option->ao
open _root_.Bool renaming false->ag,true->aj,and_eq_true->bw
open _root_.ByteArray renaming empty->ax
open _root_.Int renaming eq_ofNat_of_zero_le->bq
open _root_.List renaming length_append->be,filterMap_append->bn,getElem?_eq_getElem->bs,take_add_one->cc,length_map->ck,map_append->cl,mem_map_of_mem->cm,mem_of_getElem?->cn,take_length->co,take_of_length_le->da
open _root_.Nat renaming le_trans->cd,le_refl->cq,zero_add->db
open _root_.Option renaming none->G,some->B
variable{c:Ct}{s p:D}{k rd r:ab}{e:bi}{d:Dev}{w w':ai}{a:ao aq}{y u:Q}{L:ah Mem}{o:D->ab->Ct->Mem}{S:Q->Prop}{v:bj}{m:Mem}{tx:Dev->D}
theorem zNg (z:ao aq)(y v:Q)(n:ah Ct)(w:ai)(h:w.ownsRow v 9 1 (P z n y) (n:Q) ((n.map al).map bg))(X:(commas (n.map bm)).length<=1000)(Y:(n:Q)<=100000):
  ar ap 114 #[P z n y,af ⟨#[44]⟩] w λe w'=>e=.returned (af (inTxt n))/\Fr No w w':=by
 cases n with
 | nil=>
  apply (Tryz.strings_Join_none z y ⟨#[44]⟩ w).mono;rintro e F ⟨rfl,rfl⟩;exact⟨rfl,ak _ _⟩
 | cons c n=>
  have o:((c::n).map al).length=(c::n).length:=ck _;rw[<-o]at h ⊢;obtain⟨a,I,J,u,_⟩:=ct h;cases J;obtain⟨b,A,x,rfl,_,_⟩:=u.at (k:=0) (by simp);obtain⟨_,N,O⟩:=u.cell _ rfl (by simp);refine(Tryz.strings_Join b A y _ ⟨#[44]⟩ _ (λj x U=>O j x U) N (by rw[o];omega) u.len (by show (Lib.join _ [44]).length<=_;rw[zQK];omega)).mono ?_;rintro e F ⟨rfl,V⟩;exact⟨by rw[<-zLZ],cz V⟩
theorem zNe (m:Q):m<=10000->∀ (k s t e:ab) (i l:D) (n:ah Ct) (a:ao aq) (y:Q) (w:ai) (X:Q->Prop),Ct.counts n<m->InAt w X a y n->(bh k i l s t e n).good=aj->(bh k i l s t e n).text.length<=1000->
  ar ap 246 #[am #[k,i,l,s,t,E C e,P a n y]] w λen w2=>en=.returned (af (bh k i l s t e n).txt)/\Fr No w w2:=by
 obtain⟨i0,h5,h6,h7,h8⟩:=bv infoS
 induction m with
 | zero=>intro _ k s t e i l n a y w X h;omega
 | succ m ih=>
  intro hm k s t e i l n a y w X j6 e3 J e4;have j7:=zAj n;have b4:=zDL J;have a8:=zQL J;have e5:=zFW b4.1;obtain⟨j8,j9⟩:=zEs b4.1;have b9:∀ d∈n,d.good=true:=λd hd=>List.all_eq_true.1 b4.2 d hd
  have e6:∀ d∈n,d.text.length<=1000:=λd hd=>by
   have h1:=zDP (cm (f:=bm) hd);have h2:(commas (n.map bm)).length<=_:=a8;omega
  have a9:(commas (n.map bm)).length<=1000:=cd a8 e4;have e7:=zh b9;have h9:=zh e6;have i3:=zh e5;have d0:=zh a9;have h0:Fr No w (w.alloc (R #[k,i,l,s,t,E C e,P a n y] 218)):=(ak _ _).alloc _;have q1:=zF w (R #[k,i,l,s,t,E C e,P a n y] 218);have i4:(w:Q)<(w.alloc (R #[k,i,l,s,t,E C e,P a n y] 218)).heap.size:=by simp
  obtain⟨W0,d4⟩:=ε (w.alloc (R #[k,i,l,s,t,E C e,P a n y] 218))
  rw[<-d4]at h0 q1 i4;have e8:=e3.fr h0 (λ_ _=>id);have c6:W0 ⟨w,6,G⟩=B (P a n y):=zB q1 6;have Ih:=zh (ih (by omega));have H0:=zh h0;clear ih e3 h0 e5 b9 e6 b4 J a8 e4;go_enter Tryz.func246,Tryz.ntmps246;go_upto_region 1 with(fail)
  rw[<-d4];clear d4;go_wp2_with fail;go_loopw [3,11] (λv x wr=>∃ (j:Q) (av:ao aq) (cv:Q),j<=(n:Q)/\v=P av j cv/\x=E C (j:ab)/\wr.ownsRow (W0:Q) 9 1 (P av j cv) j (((n.take j).map al).map bg)/\Fr (From (W0:Q)) W0 wr) (λ_ x _=>(n:Q)-(ba x).toNat);case atStart=>exact⟨0,G,0,by omega,rfl,rfl,cg _ _ _ _,ak _ _⟩
  case round=>
   obtain⟨j,av,cv,hj,rfl,rfl,F,N⟩:=hrel;by_cases i5:j<(n:Q)
   .have e9:(j:ab)<(n:Q):=(by omega);obtain⟨d,hd⟩:∃ d,n[j]?=B d:=⟨_,bs i5⟩
    have b5:=cn hd;have i6:=zBM b5;have g0:=e7.out d b5;have g2:=h9.out d b5;have i7:ae (((n.take (j+1)).map al).map bg=((n.take j).map al).map bg++[af d.txt]):=(by unfold ae;rw[cc,hd];simp);obtain⟨k1,i1,l1,s1,t1,e1,n1⟩:=d;rw[bz]at i6;have d1:InAt wr (λb=>b<(W0:Q)) a y n:=by
     have h3:=e8.mono (Y:=λb=>b<(W0:Q)) (λb hb _=>hb);exact h3.fr N (λb hb h=>by omega)
    obtain⟨b,k0,a',d2,rfl,hb,hX,⟨y0,y1,y2,y3,y4,y5,y6⟩,d3⟩:=d1.at hd;have k3:=N.size;clear hd d1 b5;go_wp2_with fail;have hx:Fr No wr (wr.alloc (R #[k1,i1,l1,s1,t1,e1,P a' n1 d2] 218)):=(ak _ _).alloc _;apply (Ih k1 s1 t1 e1 i1 l1 n1 a' d2 _ _ (by omega) (d3.fr hx (λ_ _=>id)) g0 g2).mono;rintro e w2 ⟨rfl,g6⟩;have b6:=hx.step g6 zi;have d5:=zh (N.step b6 zn);have O:=zAc F b6 zi;have k4:=b6.size;generalize (bh k1 i1 l1 s1 t1 e1 n1).txt=tx at *;clear hx g6 N y0 y1 y2 y3 y4 y5 y6 d3 F b6 g0 g2;go_wp2_with (at_builtin;refine cx _ rfl _ _ 30 rfl (W0:Q) 9 i0 (af ax) 1 16 ce h5 h6 h7 h8 rfl (by decide) _ _ _ rfl (O.alloc _) ⟨w2,0,G⟩ 1 1 [af tx] rfl rfl (cell_one_new _ _ _) (zBX [tx]) (by unfold bc;omega) (by omega) (by first|omega|(simp;done)|(simp;omega)) ?_;intro v' wb V b0 _;obtain⟨i8,i9,rfl⟩:=zI V)
    have g7:Fr (From (W0:Q)) w2 wb:=zCG O b0;have j0:=zh (d5.step g7 zi);have g8:=zh V;clear V b0 g7 O;go_roundw;case rel=>exact⟨j+1,i8,i9,by omega,rfl,by go_num,by rw[i7];exact g8,j0⟩
    case measure=>simp[ba];omega
   .have e9:¬ (j:ab)<(n:Q):=(by omega);obtain rfl:j=(n:Q):=by omega
    rw[co]at F;have r1:=N.heap q1 (λh=>by omega);have d5:=zh (H0.trans (U:=No) N zi (λb hb h=>by omega));have g9:=zNg av cv _ n wr F d0 (by omega);clear N q1 c6 F;go_wp2_with fail;apply g9.mono;rintro en w5 ⟨rfl,d6⟩;have r5:=d6.heap r1 id;have a7:=zh (d5.step d6 zi);have Hu:ae ((⟨#[40]⟩:D).size=1/\(⟨#[41]⟩:D).size=1/\(⟨#[58]⟩:D).size=1/\(⟨#[47]⟩:D).size=1):=⟨rfl,rfl,rfl,rfl⟩
    have j1:(inTxt n).size<=1000:=d0.out;clear g9 d6 r1;have b1:¬ 9223372036854775807<1+(inTxt n).size:=(by omega);have b2:¬ 9223372036854775807<1+(inTxt n).size+1:=(by omega);have o:(((⟨#[40]⟩:D)++inTxt n++(⟨#[41]⟩:D))).size<=1002:=(by have hu:=Hu.out;simp only[ByteArray.size_append];omega);have b7:ae (((⟨#[40]⟩:D)++inTxt n++(⟨#[41]⟩:D))=boxed n):=rfl;have b3:=zh o;clear j1 o;go_upto_region 8 with(fail)
    generalize ((⟨#[40]⟩:D)++inTxt n++(⟨#[41]⟩:D))=bx at *;clear b1 b2;obtain⟨a0,a1,a2,a3,a4,a5,a6⟩:=cl7 r5;rcases i3.out with⟨rfl|rfl,rfl⟩|⟨rfl,h2⟩|rfl|⟨rfl,h4⟩|rfl
    .go_wp2;go_ret;exact⟨by rw[txt0];rfl,a7⟩
    .have up:(⟨#[102,115,58]⟩:D).size=3:=rfl;have o:=b3.out;have z1:¬ 9223372036854775807<3+i.size:=(by omega);have z2:¬ 9223372036854775807<3+i.size+1:=(by omega);have z3:¬ 9223372036854775807<3+i.size+1+l.size:=(by omega);clear o up;go_wp2;go_ret;exact⟨by rw[txt1];rfl,a7⟩
    .obtain⟨p0,p1,p2,p3,p4,p5⟩:=h2;obtain⟨sn,rfl⟩:=bq (show 0<=s by omega);obtain⟨tn,rfl⟩:=bq (show 0<=t by omega);obtain⟨en,rfl⟩:=bq (show 0<=e by omega);have up:(⟨#[114,97,105,100,58]⟩:D).size=5:=rfl;have o:=b3.out;obtain⟨Z,z⟩:∃ I:D,I=numBA sn:=⟨_,rfl⟩
     have j2:Z.size<=2:=(by rw[z];exact zCj (by omega) (by omega));have d7:=zh z;have G0:∀ W,ar ap 119 #[E C (sn:ab)] W λe w'=>e=.returned Z/\w'=W:=by rw[z];exact λW=>bu sn (by omega) W
     have d8:=zh G0;obtain⟨I1,A⟩:∃ I:D,I=numBA tn:=⟨_,rfl⟩
     have j3:I1.size<=2:=(by rw[A];exact zCj (by omega) (by omega));have d9:=zh A;have G1:∀ W,ar ap 119 #[E C (tn:ab)] W λe w'=>e=.returned I1/\w'=W:=by rw[A];exact λW=>bu tn (by omega) W
     have e0:=zh G1;obtain⟨I2,b8⟩:∃ I:D,I=numBA en:=⟨_,rfl⟩
     have k5:I2.size<=2:=(by rw[b8];exact zCj (by omega) (by omega));have j4:=zh b8;have G2:∀ W,ar ap 119 #[E C (en:ab)] W λe w'=>e=.returned I2/\w'=W:=by rw[b8];exact λW=>bu en (by omega) W
     have j5:=zh G2;have z1:¬ 9223372036854775807<5+i.size:=(by omega);have z2:¬ 9223372036854775807<5+i.size+1:=(by omega);have z3:¬ 9223372036854775807<5+i.size+1+Z.size:=(by omega);have z4:¬ 9223372036854775807<5+i.size+1+Z.size+1:=(by omega);have z5:¬ 9223372036854775807<5+i.size+1+Z.size+1+I1.size:=(by omega);have z6:¬ 9223372036854775807<5+i.size+1+Z.size+1+I1.size+1:=(by omega);have z7:¬ 9223372036854775807<5+i.size+1+Z.size+1+I1.size+1+I2.size:=(by omega);have z8:¬ 9223372036854775807<5+i.size+1+Z.size+1+I1.size+1+I2.size+bx.size:=(by omega);clear o up z G0 A G1 b8 G2;go_wp2_with fail;refine zO No [(0,ag),(1,ag),(2,ag),(3,ag),(4,ag),(5,ag),(6,ag),(10,ag),(11,ag),(12,ag),(16,ag),(17,ag),(18,ag),(21,ag),(7,aj),(8,ag),(9,ag),(13,aj),(14,ag),(15,ag),(19,aj),(20,ag),(22,ag),(23,ag)] (λw6 u=>?_);have g1:∀ g:Gr No w6,g.W ⟨w,1,G⟩=B (af i):=λg=>g.fr.cell (u.cell a1 id) id
     have g3:∀ g:Gr No w6,g.W ⟨w,3,G⟩=B (E C (sn:ab)):=λg=>g.fr.cell (u.cell a3 id) id
     have g4:∀ g:Gr No w6,g.W ⟨w,4,G⟩=B (E C (tn:ab)):=λg=>g.fr.cell (u.cell a4 id) id
     have g5:∀ g:Gr No w6,g.W ⟨w,5,G⟩=B (E C (en:ab)):=λg=>g.fr.cell (u.cell a5 id) id
     have e2:=zh (a7.step u zi);clear a0 a1 a2 a3 a4 a5 a6 r5 u;(repeat apply zR rfl rfl rfl;intro K hK;go_big_quiet_op;go_big_quiet_on);clear g1 g3 g4 g5;apply zu rfl;go_wp2_with fail;apply (d8 _).mono;rintro en w7 ⟨rfl,rfl⟩;go_wp2_with fail;apply zq;(repeat apply zR rfl rfl rfl;intro K hK;go_big_quiet_op;go_big_quiet_on);apply zu rfl;go_wp2_with fail;apply (e0 _).mono;rintro en w7 ⟨rfl,rfl⟩;go_wp2_with fail;apply zq;(repeat apply zR rfl rfl rfl;intro K hK;go_big_quiet_op;go_big_quiet_on);apply zu rfl;go_wp2_with fail;apply (j5 _).mono;rintro en w7 ⟨rfl,rfl⟩;go_wp2_with fail;apply zq;(repeat apply zR rfl rfl rfl;intro K hK;go_big_quiet_op;go_big_quiet_on);apply zb;go_wp2;go_ret;exact⟨by rw[txt2,<-b7,<-d7,<-d9,<-j4];rfl,e2⟩
    .have up:(⟨#[99,114,121,112,116,58]⟩:D).size=6:=rfl;have o:=b3.out;have z1:¬ 9223372036854775807<6+i.size:=(by omega);have z2:¬ 9223372036854775807<6+i.size+bx.size:=(by omega);clear o up;go_wp2;go_ret;exact⟨by rw[txt3,<-b7];rfl,a7⟩
    .obtain⟨p0,p1,p2,p3⟩:=h4;obtain⟨sn,rfl⟩:=bq (show 0<=s by omega);obtain⟨tn,rfl⟩:=bq (show 0<=t by omega);have up:(⟨#[112,118,58]⟩:D).size=3:=rfl;have o:=b3.out;obtain⟨Z,z⟩:∃ I:D,I=numBA sn:=⟨_,rfl⟩
     have j2:Z.size<=2:=(by rw[z];exact zCj (by omega) (by omega));have d7:=zh z;have G0:∀ W,ar ap 119 #[E C (sn:ab)] W λe w'=>e=.returned Z/\w'=W:=by rw[z];exact λW=>bu sn (by omega) W
     have d8:=zh G0;obtain⟨I1,A⟩:∃ I:D,I=numBA tn:=⟨_,rfl⟩
     have j3:I1.size<=2:=(by rw[A];exact zCj (by omega) (by omega));have d9:=zh A;have G1:∀ W,ar ap 119 #[E C (tn:ab)] W λe w'=>e=.returned I1/\w'=W:=by rw[A];exact λW=>bu tn (by omega) W
     have e0:=zh G1;have z1:¬ 9223372036854775807<3+i.size:=(by omega);have z2:¬ 9223372036854775807<3+i.size+1:=(by omega);have z3:¬ 9223372036854775807<3+i.size+1+Z.size:=(by omega);have z4:¬ 9223372036854775807<3+i.size+1+Z.size+1:=(by omega);have z5:¬ 9223372036854775807<3+i.size+1+Z.size+1+I1.size:=(by omega);have z6:¬ 9223372036854775807<3+i.size+1+Z.size+1+I1.size+bx.size:=(by omega);clear o up z G0 A G1;go_wp2_with fail;refine zO No [(0,ag),(1,ag),(2,ag),(3,ag),(4,ag),(5,ag),(6,ag),(10,ag),(11,ag),(12,ag),(15,ag),(7,aj),(8,ag),(9,ag),(13,aj),(14,ag),(16,ag),(17,ag)] (λw6 u=>?_);have g1:∀ g:Gr No w6,g.W ⟨w,1,G⟩=B (af i):=λg=>g.fr.cell (u.cell a1 id) id
     have g3:∀ g:Gr No w6,g.W ⟨w,3,G⟩=B (E C (sn:ab)):=λg=>g.fr.cell (u.cell a3 id) id
     have g4:∀ g:Gr No w6,g.W ⟨w,4,G⟩=B (E C (tn:ab)):=λg=>g.fr.cell (u.cell a4 id) id
     have e2:=zh (a7.step u zi);clear a0 a1 a2 a3 a4 a5 a6 r5 u;(repeat apply zR rfl rfl rfl;intro K hK;go_big_quiet_op;go_big_quiet_on);clear g1 g3 g4;apply zu rfl;go_wp2_with fail;apply (d8 _).mono;rintro en w7 ⟨rfl,rfl⟩;go_wp2_with fail;apply zq;(repeat apply zR rfl rfl rfl;intro K hK;go_big_quiet_op;go_big_quiet_on);apply zu rfl;go_wp2_with fail;apply (e0 _).mono;rintro en w7 ⟨rfl,rfl⟩;go_wp2_with fail;apply zq;(repeat apply zR rfl rfl rfl;intro K hK;go_big_quiet_op;go_big_quiet_on);apply zb;go_wp2;go_ret;exact⟨by rw[txt4,<-b7,<-d7,<-d9];rfl,e2⟩
    .have up:(⟨#[116,97,98,108,101,58]⟩:D).size=6:=rfl;have o:=b3.out;have z1:¬ 9223372036854775807<6+i.size:=(by omega);have z2:¬ 9223372036854775807<6+i.size+bx.size:=(by omega);clear o up;go_wp2;go_ret;exact⟨by rw[txt5,<-b7];rfl,a7⟩
structure Fit (c:Ct):Prop where
 good:c.good=aj
 depth:c.depth<=6
 len:(c.text:Q)<=256
 count:c.count<=10000
theorem Fit.valid (h:Fit c):c.valid=true:=by unfold ci;rw[h.good,decide_eq_true h.depth];rfl
theorem Fit.small (h:Fit c):∀ d∈c.walk,SmallC 100000 d:=λd u=>by
 have o:=h.good;rw[zEX]at o;have v:=List.all_eq_true.1 o d u;obtain⟨k,i,l,s,t,e,n⟩:=d;obtain⟨y,z⟩:=zEs v;exact⟨cd y (by omega),cd z (by omega)⟩
theorem zBq (h:parseC s=B c):Fit c/\c.txt=s:=by
 have v:=(zBI s c).1 h;obtain⟨y,z,u⟩:=v;have o:=z;unfold ci at o;rw[bw,decide_eq_true_eq]at o;refine⟨⟨o.2,o.1,by rw[u];exact y,?_⟩,zDa (by rw[zCK,u])⟩;have A:¬ 256<(bl s).length:=by omega
 unfold parseC at h;rw[if_neg A]at h;split at h
 .rename_i F I;have J:=(zFs _).1 _ _ _ I;split at h
  .injection h with h
   subst h;have N:F.count+([]:ah UInt8).length<=(bl s).length+1:=J;rw[List.length_nil]at N;omega
  .cases h
 .cases h
theorem Fit.inner {s t e:ab}{i l:D}{n:ah Ct}(h:Fit (.mk k i l s t e n)){d:Ct}(o:d∈n):Fit d:=by
 have v:=zDL h.good;have y:=zQL h.good;have A:=zDP (cm (f:=bm) o);have F:(commas (n.map bm)).length<=_:=y;have I:=h.len;have J:=zBM o;have N:=zGr o;have u:=h.depth;have z:=h.count;rw[bz]at z;rw[Ct.depth]at u;exact⟨List.all_eq_true.1 v.2 d o,by split at u<;>omega,by omega,by omega⟩
theorem zNh (k s t e:ab)(i l:D)(n:ah Ct)(a:ao aq)(h:Q)(w:ai)(X:Q->Prop)(J:InAt w X a h n)(z:Fit (.mk k i l s t e n)):
  ar ap 196 #[am #[k,i,l,s,t,e,P a n h]] w λV w2=>V=.returned (.tuple #[af (bh k i l s t e n).txt,E C 0])/\Fr No w w2:=by
 have O:Fr No w (w.alloc (R #[k,i,l,s,t,e,P a n h] 218)):=(ak _ _).alloc _;have U:=zF w (R #[k,i,l,s,t,e,P a n h] 218);obtain⟨Y,A⟩:=ε (w.alloc (R #[k,i,l,s,t,e,P a n h] 218))
 rw[<-A]at O U;have o:=J.fr O (λ_ _=>id);have H0:=zh O;have F:=zL4 (.mk k i l s t e n) X _ Y (CAt.of_in o k i l s t e) z.count z.small;rw[if_pos z.valid]at F;have Z:=z.count;have N:=z.len;have a7:(bh k i l s t e n).txt.size<=256:=N;have HF:=zh z;clear z O J;obtain⟨a0,a1,a2,a3,a4,a5,a6⟩:=cl7 U;go_enter Tryz.func196,Tryz.ntmps196;go_upto_region 1 with(fail)
 rw[<-A];clear A;go_wp2_with fail;apply F.mono;rintro V w1 ⟨rfl,v⟩;have q2:=v.heap U id;have a8:=zh (H0.step v zi);have y:=o.fr v (λ_ _=>id);have I:=zNe 10000 (by omega) k s t e i l n a h w1 X (by rw[bz]at Z;omega) y HF.good (by omega);obtain⟨tx,u⟩:=ε ((bh k i l s t e n).txt)
 rw[<-u]at I a7;have a9:=zh u;clear u;clear a0 a1 a2 a3 a4 a5 a6 U F o v;obtain⟨a0,a1,a2,a3,a4,a5,a6⟩:=cl7 q2;go_wp2_with fail;apply I.mono;rintro V w2 ⟨rfl,b0⟩;have b1:=zh (a8.step b0 zi);have b2:¬ (256:ab)<(tx.size:ab):=by omega
 clear a0 a1 a2 a3 a4 a5 a6 y I;go_wp2;go_ret2;exact⟨by rw[<-a9];rfl,b1⟩
def zPn (w:ai)(s:D)(kd:ab)(e:bi)(w':ai):Prop:=
 ((∀ c,parseC s=B c->c.kind≠kd)/\e=.returned (.tuple #[am #[E C 0,(),(),E C 0,E C 0,E C 0,P G 0 0],P G 0 0,.bool ag]))\/
 (∃ (k sl t le:ab) (i l:D) (n:ah Ct) (a a':ao aq) (cap cap':Q),parseC s=B (.mk k i l sl t le n)/\k=kd/\e=.returned (.tuple #[am #[k,i,l,sl,t,le,P a n cap],P a' n cap',.bool aj])/\InAt w' (From (w:Q)) a cap n/\Strs w' a' cap' (n.map al)/\∀ ad,a'=B ad->(w:Q)<=ad.block)
theorem zJK (s:D)(kd:ab)(w:ai)(hE:Env w)(hs:s.size<=100000):
  ar ap 148 #[s,kd] w λen w2=>zPn w s kd en w2/\Fr No w w2:=by
 obtain⟨i0,h1,h2,h4,h5⟩:=bv infoS;have h0:Fr No w (w.alloc (R #[E C 0,(),(),E C 0,E C 0,E C 0,P G 0 0] 218)):=(ak _ _).alloc _;have q0:=zF w (R #[E C 0,(),(),E C 0,E C 0,E C 0,P G 0 0] 218);have h6:(w:Q)<(w.alloc (R #[E C 0,(),(),E C 0,E C 0,E C 0,P G 0 0] 218)).heap.size:=by simp
 obtain⟨W0,d8⟩:=ε (w.alloc (R #[E C 0,(),(),E C 0,E C 0,E C 0,P G 0 0] 218))
 rw[<-d8]at h0 q0 h6;have e2:=zPc s W0 (hE.no h0) hs;have H0:=zh h0;clear h0 hE;go_enter Tryz.func148,Tryz.ntmps148;go_upto_region 1 with(fail)
 rw[<-d8];clear d8;go_wp2_with fail;apply e2.mono;rintro en w1 ⟨e3,a6⟩;have j2:=a6.size;have q1:=a6.heap q0 id;have e4:=zh (H0.step a6 zi);clear e2 q0 a6;rcases e3 with⟨er,e5,j3,rfl⟩|⟨vs,c,d9,rfl,e6⟩
 .have Hn:ae (∀ c,parseC s=B c->c.kind≠kd):=λc h=>by rw[e5]at h;cases h
  clear e5;have Z:Fr No w1 (w1.alloc (R #[E C 0,(),(),E C 0,E C 0,E C 0,P G 0 0] 218)):=(ak _ _).alloc _;have q2:=Z.heap q1 id;have qt:=zF w1 (R #[E C 0,(),(),E C 0,E C 0,E C 0,P G 0 0] 218);have a3:=zh (e4.step Z zi);clear q1 Z;go_upto_region 2 with(fail)
  generalize w1.alloc (R #[E C 0,(),(),E C 0,E C 0,E C 0,P G 0 0] 218)=W2 at *;obtain⟨b0,b1,b2,b3,b4,b5,b6⟩:=cl7 q2;obtain⟨f0,f1,f2,f3,f4,f5,f6⟩:=fl7 q2;have X:=set7 q2 rfl (E C 0) (af ()) (af ()) (E C 0) (E C 0) (E C 0) (P G 0 0);have y:=zh (a3.step X.2 (λb hb h=>by omega));have o:=zh X.1;clear X;go_wp2_with fail;have y0:=zB o 0;have y1:=zB o 1;have y2:=zB o 2;have y3:=zB o 3;have y4:=zB o 4;have y5:=zB o 5;have y6:=zB o 6;refine ay (v:=.tuple #[am #[E C 0,(),(),E C 0,E C 0,E C 0,P G 0 0],P G 0 0,.bool ag]) (by simp[az,cu,go_sem,y0,y1,y2,y3,y4,y5,y6]) rfl ?_;exact⟨.inl ⟨Hn,rfl⟩,y⟩
 .obtain⟨k,i,l,sl,t,le,n⟩:=c;obtain⟨d3,e7⟩:=zBq d9;obtain⟨a,z,rfl,e8⟩:=e6.inAt;have e9:=zh d9;clear d9 e6 e7;have Z:Fr No w1 (w1.alloc (R #[k,i,l,sl,t,le,P a n z] 218)):=(ak _ _).alloc _;have q2:=Z.heap q1 id;have qt:=zF w1 (R #[k,i,l,sl,t,le,P a n z] 218);have a3:=zh (e4.step Z zi);have d4:=zh (e8.fr Z (λ_ _=>id));have d5:=zh d3;clear q1 Z e8 d3;go_upto_region 2 with(fail)
  generalize w1.alloc (R #[k,i,l,sl,t,le,P a n z] 218)=W2 at *;obtain⟨a7,a8,a9,b7,b8,b9,d0⟩:=cl7 qt;by_cases hk:k=kd
  .have Hk:=zh hk;subst hk;have h8:=d5.count;rw[bz]at h8;have j4:=zAj n;have j5:=zC qt;go_wp2_with fail;go_loopw [9,31] (λv x wr=>∃ (j:Q) (av:ao aq) (cv:Q),j<=(n:Q)/\v=P av j cv/\x=E C (j:ab)/\wr.ownsRow (W2:Q) 9 1 (P av j cv) j (((n.take j).map al).map bg)/\Fr (From (W2:Q)) W2 wr) (λ_ x _=>(n:Q)-(ba x).toNat);case atStart=>exact⟨0,G,0,by omega,rfl,rfl,cg _ _ _ _,ak _ _⟩
   case round=>
    obtain⟨j,av,cv,hj,rfl,rfl,A,u⟩:=hrel;by_cases h9:j<(n:Q)
    .have g0:(j:ab)<(n:Q):=(by omega);obtain⟨d,hd⟩:∃ d,n[j]?=B d:=⟨_,bs h9⟩
     have g1:=cn hd;have g2:=d5.inner g1;have g3:ae (((n.take (j+1)).map al).map bg=((n.take j).map al).map bg++[af d.txt]):=(by unfold ae;rw[cc,hd];simp);obtain⟨k1,i1,l1,s1,t1,e1,n1⟩:=d;have F:InAt wr (λb=>b<(W2:Q)) a z n:=by
      have h3:=d4.mono (Y:=λb=>b<(W2:Q)) (λb hb _=>hb);exact h3.fr u (λb hb h=>by omega)
     obtain⟨b,j6,a',I,rfl,hb,hX,⟨y0,y1,y2,y3,y4,y5,y6⟩,d6⟩:=F.at hd;have j7:=u.size;clear hd F g1 a7 a8 a9 b7 b8 b9 d0;have Z:Fr No wr (wr.alloc (R #[k1,i1,l1,s1,t1,e1,P a' n1 I] 218)):=(ak _ _).alloc _;have e0:=zNh k1 s1 t1 e1 i1 l1 n1 a' I _ _ (d6.fr Z (λ_ _=>id)) g2;obtain⟨tx,d7⟩:=ε ((bh k1 i1 l1 s1 t1 e1 n1).txt)
     rw[<-d7]at e0 g3;clear d7 g2;go_wp2_with fail;apply e0.mono;rintro e w2 ⟨rfl,g4⟩;have d1:=Z.step g4 zi;have i3:=zh (u.step d1 zn);have J:=zAc A d1 zi;have j8:=d1.size;clear Z g4 u y0 y1 y2 y3 y4 y5 y6 d6 A d1 e0;go_wp2_with (at_builtin;refine cx _ rfl _ _ 30 rfl (W2:Q) 9 i0 (af ax) 1 16 ce h1 h2 h4 h5 rfl (by decide) _ _ _ rfl (J.alloc _) ⟨w2,0,G⟩ 1 1 [af tx] rfl rfl (cell_one_new _ _ _) (zBX [tx]) (by unfold bc;omega) (by omega) (by first|omega|(simp;done)|(simp;omega)) ?_;intro v' wb N a4 _;obtain⟨i4,i5,rfl⟩:=zI N)
     have g5:Fr (From (W2:Q)) w2 wb:=zCG J a4;have i6:=zh (i3.step g5 zi);have g6:=zh N;clear N a4 g5 J;go_roundw;case rel=>exact⟨j+1,i4,i5,by omega,rfl,by go_num,by rw[g3];exact g6,i6⟩
     case measure=>simp[ba];omega
    .have g0:¬ (j:ab)<(n:Q):=(by omega);obtain rfl:j=(n:Q):=by omega
     rw[co]at A;have q3:=u.heap q2 (λh=>by omega);have i7:=u.heap qt (λh=>by omega);have i8:=zh (a3.trans (U:=No) u zi (λb hb h=>by have:=a3.size;omega));have F:InAt wr (λb=>(w:Q)<b) a z n:=by
      have h3:=d4.mono (Y:=λb=>(w:Q)<b/\b<(W2:Q)) (λb hb h=>⟨by omega,hb⟩);exact(h3.fr u (λb hb h=>by omega)).mono (λb _ h=>h.1)
     have a5:(n.map al).length=(n:Q):=ck _;have d2:∃ a' I,aw av n cv=P a' (n.map al).length I/\Strs wr a' I (n.map al)/\∀ ad,a'=B ad->(W2:Q)<=ad.block:=ct (by rw[a5];exact A);obtain⟨a2,j1,ev,d2,O⟩:=d2;rw[a5]at ev;cases ev;have i9:=zh d2;have V:=zh O;have g7:=zh F;clear u q2 qt A d2 F O a5 a7 a8 a9 b7 b8 b9 d0;obtain⟨a7,a8,a9,b7,b8,b9,d0⟩:=cl7 i7;obtain⟨b0,b1,b2,b3,b4,b5,b6⟩:=cl7 q3;obtain⟨f0,f1,f2,f3,f4,f5,f6⟩:=fl7 q3;have X:=set7 q3 rfl (E C k) (af i) (af l) (E C sl) (E C t) (E C le) (P a n z);have y:=zh (i8.step X.2 (λb hb h=>by omega));have g8:=zh (i9.fr X.2 (λad e j9 h=>by have:=V.out ad e;omega));have g9:=zh ((g7.fr X.2 (λb hb h=>by omega)).mono (Y:=From (w:Q)) (λb _ h=>by omega));have o:=zh X.1;clear X;go_wp2_with fail;have y0:=zB o 0;have y1:=zB o 1;have y2:=zB o 2;have y3:=zB o 3;have y4:=zB o 4;have y5:=zB o 5;have y6:=zB o 6;refine ay (v:=.tuple #[am #[k,i,l,sl,t,le,P a n z],P av n cv,.bool aj]) (by simp[az,cu,go_sem,y0,y1,y2,y3,y4,y5,y6]) rfl ?_;exact⟨.inr ⟨k,sl,t,le,i,l,n,a,av,z,cv,e9,rfl,rfl,g9,g8,λad e=>by have:=V.out ad e;omega⟩,y⟩
  .have j0:=zh q2;clear a8 a9 b7 b8 b9 d0 q2 qt;have Hn:ae (∀ c,parseC s=B c->c.kind≠kd):=λc h=>by rw[e9.out]at h;cases h;exact hk
   go_upto_region 3 with(fail)
   have q2:=j0.out;clear a7;obtain⟨b0,b1,b2,b3,b4,b5,b6⟩:=cl7 q2;obtain⟨f0,f1,f2,f3,f4,f5,f6⟩:=fl7 q2;have X:=set7 q2 rfl (E C 0) (af ()) (af ()) (E C 0) (E C 0) (E C 0) (P G 0 0);have y:=zh (a3.step X.2 (λb hb h=>by omega));have o:=zh X.1;clear X;go_wp2_with fail;have y0:=zB o 0;have y1:=zB o 1;have y2:=zB o 2;have y3:=zB o 3;have y4:=zB o 4;have y5:=zB o 5;have y6:=zB o 6;refine ay (v:=.tuple #[am #[E C 0,(),(),E C 0,E C 0,E C 0,P G 0 0],P G 0 0,.bool ag]) (by simp[az,cu,go_sem,y0,y1,y2,y3,y4,y5,y6]) rfl ?_;exact⟨.inl ⟨Hn,rfl⟩,y⟩
def OfRes2 (w:ai)(p s:D)(rd:ab)(e:bi)(w':ai):Prop:=
 ((∀ c,parseC s=B c->c.kind≠2)/\e=.returned (.tuple #[am #[(),(),E C 0,E C 0,E C 0,E C 0,P G 0 0],.bool ag]))\/
 (∃ (c:Ct) (a':ao aq) (cap':Q),parseC s=B c/\c.kind=2/\e=.returned (.tuple #[am #[p,af c.id,rd,E C c.slot,E C c.total,E C c.least,P a' c.inner.length cap'],.bool aj])/\Strs w' a' cap' (c.inner.map al)/\∀ ad,a'=B ad->(w:Q)<=ad.block)
theorem zNm (p s:D)(rd:ab)(w:ai)(hE:Env w)(hs:s.size<=100000):
  ar ap 100 #[p,rd,s] w λen w2=>OfRes2 w p s rd en w2/\Fr No w w2:=by
 have h0:Fr No w (w.alloc (R #[(),(),E C 0,E C 0,E C 0,E C 0,P G 0 0] 226)):=(ak _ _).alloc _;have q0:=zF w (R #[(),(),E C 0,E C 0,E C 0,E C 0,P G 0 0] 226);have a9:(w:Q)<(w.alloc (R #[(),(),E C 0,E C 0,E C 0,E C 0,P G 0 0] 226)).heap.size:=by simp
 obtain⟨W0,O⟩:=ε (w.alloc (R #[(),(),E C 0,E C 0,E C 0,E C 0,P G 0 0] 226))
 rw[<-O]at h0 q0 a9;have a2:=zJK s 2 W0 (hE.no h0) hs;have H0:=zh h0;clear h0 hE;go_enter Tryz.func100,Tryz.ntmps100;go_upto_region 1 with(fail)
 rw[<-O];clear O;go_wp2_with fail;apply a2.mono;rintro en U ⟨a3,I⟩;have d0:=I.size;have q1:=I.heap q0 id;have a4:=zh (H0.step I zi);clear a2 q0 I;rcases a3 with⟨a5,rfl⟩|⟨k,V,t,le,i,l,n,a,a',X,A,a6,hk,rfl,b7,a7,u⟩
 .have Hn:ae (∀ c,parseC s=B c->c.kind≠2):=a5;have J:Fr No U (U.alloc (R #[E C 0,(),(),E C 0,E C 0,E C 0,P G 0 0] 218)):=(ak _ _).alloc _;have z:=J.heap q1 id;have Y:=zh (a4.step J zi);have Z:=zh z;clear q1 J a5 z;go_upto_region 3 with(fail)
  generalize U.alloc (R #[E C 0,(),(),E C 0,E C 0,E C 0,P G 0 0] 218)=W2 at *;have z:=Z.out;obtain⟨b0,b1,b2,b3,b4,b5,b6⟩:=cl7 z;obtain⟨f0,f1,f2,f3,f4,f5,f6⟩:=fl7 z;have N:=set7 z rfl (af ()) (af ()) (E C 0) (E C 0) (E C 0) (E C 0) (P G 0 0);have F:=zh (Y.step N.2 (λb hb h=>by omega));have o:=zh N.1;clear N z;go_wp2_with fail;have y0:=zB o 0;have y1:=zB o 1;have y2:=zB o 2;have y3:=zB o 3;have y4:=zB o 4;have y5:=zB o 5;have y6:=zB o 6;refine ay (v:=.tuple #[am #[(),(),E C 0,E C 0,E C 0,E C 0,P G 0 0],.bool ag]) (by simp[az,de,go_sem,y0,y1,y2,y3,y4,y5,y6]) rfl ?_;exact⟨.inl ⟨Hn,rfl⟩,F⟩
 .subst hk;have b8:ae (parseC s=B (.mk 2 i l V t le n)):=a6;have y:=zh u;have J:Fr No U (U.alloc (R #[E C 2,i,l,V,t,le,P a n X] 218)):=(ak _ _).alloc _;have Z:=zh (J.heap q1 id);have qt:=zF U (R #[E C 2,i,l,V,t,le,P a n X] 218);have Y:=zh (a4.step J zi);have b9:=zh (a7.no J (λ_=>id));clear q1 J a7 a6 u b7;go_upto_region 4 with(fail)
  generalize U.alloc (R #[E C 2,i,l,V,t,le,P a n X] 218)=W2 at *;obtain⟨-,d1,-,d2,d3,d4⟩:=cl6 qt;have z:=Z.out;clear qt;obtain⟨b0,b1,b2,b3,b4,b5,b6⟩:=cl7 z;obtain⟨f0,f1,f2,f3,f4,f5,f6⟩:=fl7 z;have N:=set7 z rfl (af p) (af i) (E C rd) (E C V) (E C t) (E C le) (P a' n A);have F:=zh (Y.step N.2 (λb hb h=>by omega));have a8:=zh (b9.fr N.2 (λad e d5 h=>by have:=y.out ad e;omega));have o:=zh N.1;clear N z;go_wp2_with fail;have y0:=zB o 0;have y1:=zB o 1;have y2:=zB o 2;have y3:=zB o 3;have y4:=zB o 4;have y5:=zB o 5;have y6:=zB o 6;refine ay (v:=.tuple #[am #[p,i,rd,V,t,le,P a' n A],.bool aj]) (by simp[az,de,go_sem,y0,y1,y2,y3,y4,y5,y6]) rfl ?_;exact⟨.inr ⟨.mk 2 i l V t le n,a',A,b8,rfl,rfl,a8,λad e=>by have:=y.out ad e;omega⟩,F⟩
def OfRes (w:ai)(p s:D)(rd:ab)(e:bi)(w':ai):Prop:=
 ((∀ c,parseC s=B c->c.kind≠3)/\e=.returned (.tuple #[am #[(),(),E C 0,E C 0,E C 0,E C 0,P G 0 0],.bool ag]))\/
 (∃ (c:Ct) (a':ao aq) (cap':Q),parseC s=B c/\c.kind=3/\e=.returned (.tuple #[am #[p,af c.id,rd,E C 0,E C 0,E C 0,P a' c.inner.length cap'],.bool aj])/\Strs w' a' cap' (c.inner.map al)/\∀ ad,a'=B ad->(w:Q)<=ad.block)
theorem zNZ (p s:D)(rd:ab)(w:ai)(hE:Env w)(hs:s.size<=100000):
  ar ap 106 #[p,rd,s] w λen w2=>OfRes w p s rd en w2/\Fr No w w2:=by
 have h0:Fr No w (w.alloc (R #[(),(),E C 0,E C 0,E C 0,E C 0,P G 0 0] 226)):=(ak _ _).alloc _;have q0:=zF w (R #[(),(),E C 0,E C 0,E C 0,E C 0,P G 0 0] 226);have a8:(w:Q)<(w.alloc (R #[(),(),E C 0,E C 0,E C 0,E C 0,P G 0 0] 226)).heap.size:=by simp
 obtain⟨W0,U⟩:=ε (w.alloc (R #[(),(),E C 0,E C 0,E C 0,E C 0,P G 0 0] 226))
 rw[<-U]at h0 q0 a8;have Z:=zJK s 3 W0 (hE.no h0) hs;have H0:=zh h0;clear h0 hE;go_enter Tryz.func106,Tryz.ntmps106;go_upto_region 1 with(fail)
 rw[<-U];clear U;go_wp2_with fail;apply Z.mono;rintro en J ⟨a2,I⟩;have b9:=I.size;have q1:=I.heap q0 id;have a3:=zh (H0.step I zi);clear Z q0 I;rcases a2 with⟨a4,rfl⟩|⟨k,sl,t,le,i,l,n,a,a',V,A,a5,hk,rfl,a9,a6,u⟩
 .have Hn:ae (∀ c,parseC s=B c->c.kind≠3):=a4;have N:Fr No J (J.alloc (R #[E C 0,(),(),E C 0,E C 0,E C 0,P G 0 0] 218)):=(ak _ _).alloc _;have z:=N.heap q1 id;have X:=zh (a3.step N zi);have Y:=zh z;clear q1 N a4 z;go_upto_region 3 with(fail)
  generalize J.alloc (R #[E C 0,(),(),E C 0,E C 0,E C 0,P G 0 0] 218)=W2 at *;have z:=Y.out;obtain⟨b0,b1,b2,b3,b4,b5,b6⟩:=cl7 z;obtain⟨f0,f1,f2,f3,f4,f5,f6⟩:=fl7 z;have O:=set7 z rfl (af ()) (af ()) (E C 0) (E C 0) (E C 0) (E C 0) (P G 0 0);have F:=zh (X.step O.2 (λb hb h=>by omega));have o:=zh O.1;clear O z;go_wp2_with fail;have y0:=zB o 0;have y1:=zB o 1;have y2:=zB o 2;have y3:=zB o 3;have y4:=zB o 4;have y5:=zB o 5;have y6:=zB o 6;refine ay (v:=.tuple #[am #[(),(),E C 0,E C 0,E C 0,E C 0,P G 0 0],.bool ag]) (by simp[az,df,go_sem,y0,y1,y2,y3,y4,y5,y6]) rfl ?_;exact⟨.inl ⟨Hn,rfl⟩,F⟩
 .subst hk;have b7:ae (parseC s=B (.mk 3 i l sl t le n)):=a5;have y:=zh u;have N:Fr No J (J.alloc (R #[E C 3,i,l,sl,t,le,P a n V] 218)):=(ak _ _).alloc _;have Y:=zh (N.heap q1 id);have qt:=zF J (R #[E C 3,i,l,sl,t,le,P a n V] 218);have X:=zh (a3.step N zi);have b8:=zh (a6.no N (λ_=>id));clear q1 N a6 a5 u a9;go_upto_region 4 with(fail)
  generalize J.alloc (R #[E C 3,i,l,sl,t,le,P a n V] 218)=W2 at *;have d0:W2 ⟨J,1,G⟩=B (af i):=zB qt 1;have z:=Y.out;clear qt;obtain⟨b0,b1,b2,b3,b4,b5,b6⟩:=cl7 z;obtain⟨f0,f1,f2,f3,f4,f5,f6⟩:=fl7 z;have O:=set7 z rfl (af p) (af i) (E C rd) (E C 0) (E C 0) (E C 0) (P a' n A);have F:=zh (X.step O.2 (λb hb h=>by omega));have a7:=zh (b8.fr O.2 (λad e d1 h=>by have:=y.out ad e;omega));have o:=zh O.1;clear O z;go_wp2_with fail;have y0:=zB o 0;have y1:=zB o 1;have y2:=zB o 2;have y3:=zB o 3;have y4:=zB o 4;have y5:=zB o 5;have y6:=zB o 6;refine ay (v:=.tuple #[am #[p,i,rd,E C 0,E C 0,E C 0,P a' n A],.bool aj]) (by simp[az,df,go_sem,y0,y1,y2,y3,y4,y5,y6]) rfl ?_;exact⟨.inr ⟨.mk 3 i l sl t le n,a',A,b7,rfl,rfl,a7,λad e=>by have:=y.out ad e;omega⟩,F⟩
def OfRes4 (w:ai)(p s:D)(rd:ab)(e:bi)(w':ai):Prop:=
 ((∀ c,parseC s=B c->c.kind≠4)/\e=.returned (.tuple #[am #[(),(),E C 0,E C 0,E C 0,E C 0,P G 0 0],.bool ag]))\/
 (∃ (c:Ct) (a':ao aq) (cap':Q),parseC s=B c/\c.kind=4/\e=.returned (.tuple #[am #[p,af c.id,rd,E C c.slot,E C c.total,E C c.total,P a' c.inner.length cap'],.bool aj])/\Strs w' a' cap' (c.inner.map al)/\∀ ad,a'=B ad->(w:Q)<=ad.block)
theorem zKM (p s:D)(rd:ab)(w:ai)(hE:Env w)(hs:s.size<=100000):
  ar ap 108 #[p,rd,s] w λen w2=>OfRes4 w p s rd en w2/\Fr No w w2:=by
 have h0:Fr No w (w.alloc (R #[(),(),E C 0,E C 0,E C 0,E C 0,P G 0 0] 226)):=(ak _ _).alloc _;have q0:=zF w (R #[(),(),E C 0,E C 0,E C 0,E C 0,P G 0 0] 226);have a9:(w:Q)<(w.alloc (R #[(),(),E C 0,E C 0,E C 0,E C 0,P G 0 0] 226)).heap.size:=by simp
 obtain⟨W0,O⟩:=ε (w.alloc (R #[(),(),E C 0,E C 0,E C 0,E C 0,P G 0 0] 226))
 rw[<-O]at h0 q0 a9;have a2:=zJK s 4 W0 (hE.no h0) hs;have H0:=zh h0;clear h0 hE;go_enter Tryz.func108,Tryz.ntmps108;go_upto_region 1 with(fail)
 rw[<-O];clear O;go_wp2_with fail;apply a2.mono;rintro en U ⟨a3,I⟩;have d0:=I.size;have q1:=I.heap q0 id;have a4:=zh (H0.step I zi);clear a2 q0 I;rcases a3 with⟨a5,rfl⟩|⟨k,V,t,le,i,l,n,a,a',X,A,a6,hk,rfl,b7,a7,u⟩
 .have Hn:ae (∀ c,parseC s=B c->c.kind≠4):=a5;have J:Fr No U (U.alloc (R #[E C 0,(),(),E C 0,E C 0,E C 0,P G 0 0] 218)):=(ak _ _).alloc _;have z:=J.heap q1 id;have Y:=zh (a4.step J zi);have Z:=zh z;clear q1 J a5 z;go_upto_region 3 with(fail)
  generalize U.alloc (R #[E C 0,(),(),E C 0,E C 0,E C 0,P G 0 0] 218)=W2 at *;have z:=Z.out;obtain⟨b0,b1,b2,b3,b4,b5,b6⟩:=cl7 z;obtain⟨f0,f1,f2,f3,f4,f5,f6⟩:=fl7 z;have N:=set7 z rfl (af ()) (af ()) (E C 0) (E C 0) (E C 0) (E C 0) (P G 0 0);have F:=zh (Y.step N.2 (λb hb h=>by omega));have o:=zh N.1;clear N z;go_wp2_with fail;have y0:=zB o 0;have y1:=zB o 1;have y2:=zB o 2;have y3:=zB o 3;have y4:=zB o 4;have y5:=zB o 5;have y6:=zB o 6;refine ay (v:=.tuple #[am #[(),(),E C 0,E C 0,E C 0,E C 0,P G 0 0],.bool ag]) (by simp[az,dg,go_sem,y0,y1,y2,y3,y4,y5,y6]) rfl ?_;exact⟨.inl ⟨Hn,rfl⟩,F⟩
 .subst hk;have b8:ae (parseC s=B (.mk 4 i l V t le n)):=a6;have y:=zh u;have J:Fr No U (U.alloc (R #[E C 4,i,l,V,t,le,P a n X] 218)):=(ak _ _).alloc _;have Z:=zh (J.heap q1 id);have qt:=zF U (R #[E C 4,i,l,V,t,le,P a n X] 218);have Y:=zh (a4.step J zi);have b9:=zh (a7.no J (λ_=>id));clear q1 J a7 a6 u b7;go_upto_region 4 with(fail)
  generalize U.alloc (R #[E C 4,i,l,V,t,le,P a n X] 218)=W2 at *;obtain⟨-,d1,-,d2,d3⟩:=cl5 qt;have z:=Z.out;clear qt;obtain⟨b0,b1,b2,b3,b4,b5,b6⟩:=cl7 z;obtain⟨f0,f1,f2,f3,f4,f5,f6⟩:=fl7 z;have N:=set7 z rfl (af p) (af i) (E C rd) (E C V) (E C t) (E C t) (P a' n A);have F:=zh (Y.step N.2 (λb hb h=>by omega));have a8:=zh (b9.fr N.2 (λad e d4 h=>by have:=y.out ad e;omega));have o:=zh N.1;clear N z;go_wp2_with fail;have y0:=zB o 0;have y1:=zB o 1;have y2:=zB o 2;have y3:=zB o 3;have y4:=zB o 4;have y5:=zB o 5;have y6:=zB o 6;refine ay (v:=.tuple #[am #[p,i,rd,V,t,t,P a' n A],.bool aj]) (by simp[az,dg,go_sem,y0,y1,y2,y3,y4,y5,y6]) rfl ?_;exact⟨.inr ⟨.mk 4 i l V t le n,a',A,b8,rfl,rfl,a8,λad e=>by have:=y.out ad e;omega⟩,F⟩
structure Mems (w:ai)(a:ao aq)(cap:Q)(L:ah Mem):Prop where
 len:(L:Q)<=cap
 max:cap<=bc
 isNil:a=G->L=[]/\cap=0
 ok:∀ m∈L,Strs w m.a m.c m.l
 cell:∀ ad,a=B ad->L≠[]->ad.spot=G/\ad.block<(w:Q)/\∀ i m,L[i]?=B m->∀ j,j<7->w ⟨ad.block,ad.off+(i*7+j),G⟩=m.vals[j]?
structure MemAt (w:ai)(b o:Q)(m:Mem):Prop where
 c0:w ⟨b,o,G⟩=B (af m.p)
 c1:w ⟨b,o+1,G⟩=B (af m.i)
 c2:w ⟨b,o+2,G⟩=B (E C m.r)
 c3:w ⟨b,o+3,G⟩=B (E C m.s)
 c4:w ⟨b,o+4,G⟩=B (E C m.t)
 c5:w ⟨b,o+5,G⟩=B (E C m.e)
 c6:w ⟨b,o+6,G⟩=B (P m.a m.l m.c)
theorem Mems.elem (h:Mems w a y L){k:Q}(v:k<(L:Q)):
  ∃ b o m,a=B ⟨b,o,G⟩/\L[k]?=B m/\Strs w m.a m.c m.l/\MemAt w b (o+k*7) m/\b<(w:Q):=by
 cases a with
 | none=>obtain⟨rfl,_⟩:=h.isNil rfl;simp at v
 | some A=>
  obtain⟨b,o,J⟩:=A;obtain⟨z,F,I⟩:=h.cell _ rfl (by intro e;subst e;simp at v);simp at z;subst z;have u:=I k _ (bs v);exact⟨b,o,L[k],rfl,bs v,h.ok _ (List.getElem_mem v),⟨u 0 (by omega),u 1 (by omega),u 2 (by omega),u 3 (by omega),u 4 (by omega),u 5 (by omega),u 6 (by omega)⟩,F⟩
theorem Mems.lenmax {o:Q}(h:Mems w a o L):(L:Q)<=9223372036854775807:=by
 have v:=h.len;have u:=h.max;unfold bc at u;omega
theorem Mems.fr (h:Mems w a u L)(y:Fr S w w')(F:∀ o,a=B o->L≠[]->¬ S o.block)(I:∀ m∈L,∀ o,m.a=B o->m.l≠[]->¬ S o.block):Mems w' a u L:=
 ⟨h.len,h.max,h.isNil,λm z=>(h.ok m z).fr y (I m z),λo e v=>by
  obtain⟨J,A,N⟩:=h.cell o e v;refine⟨J,Nat.lt_of_lt_of_le A y.size,λi m O j U=>?_⟩;rw[<-N i m O j U];exact World.cell?_of_block (y.block _ A (F o e v))⟩
theorem Mems.no {o:Q}(h:Mems w a o L)(v:Fr S w w')(u:∀ k,¬ S k):Mems w' a o L:=h.fr v (λ_ _ _=>u _) (λ_ _ _ _ _=>u _)
theorem Mems.keep (h:Mems w a u L)(z:Fr S w w')(y:∀ b,b<(w:Q)->¬ S b):Mems w' a u L:=
 h.fr z (λv e o=>y _ (h.cell v e o).2.1) (λm A v e o=>y _ ((h.ok m A).cell v e o).2.1)
theorem Mems.nil (w:ai):Mems w G 0 []:=⟨by simp,by simp,λ_=>⟨rfl,rfl⟩,by simp,λ_ e _=>by cases e⟩
theorem infoM: (Tryz.prog.info? 226).map (λi=>(i.zero,i.size,i.bytes))=B (B (am #[ax,ax,E C 0,E C 0,E C 0,E C 0,P G 0 0]),7,88):=by kernel_rfl
def mflat (L:ah Mem):ah bj:=L.flatMap (λm=>m.vals.toList)
theorem zCC (L:ah Mem)(m:Mem):mflat (L++[m])=mflat L++m.vals.toList:=by simp[mflat]
theorem zCm (m:Mem):∀ u∈m.vals.toList,u.oneCell'=true:=by
 intro u h;simp[au]at h;rcases h with rfl|rfl|rfl|rfl|rfl|rfl|rfl<;>rfl
theorem zIn : ∀ (L:ah Mem) (i:Q) (m:Mem),L[i]?=B m->∀ j,j<7->(mflat L)[i*7+j]?=m.vals[j]?
 | [],i,m,h,j,o=>by simp at h
 | x::t,0,m,h,j,o=>by
  simp at h;subst h;have:mflat (x::t)=x.vals.toList++mflat t:=by simp[mflat]
  rw[this,List.getElem?_append_left (by simp[au];omega)];simp
 | x::t,i+1,m,h,j,o=>by
  have:mflat (x::t)=x.vals.toList++mflat t:=by simp[mflat]
  rw[this,List.getElem?_append_right (by simp[au];omega),show (i+1)*7+j-x.vals.toList.length=i*7+j from by simp[au];omega];exact zIn t i m (by simpa using h) j o
theorem Mems.of_own {e:TypeId}(h:w.ownsRow u e 7 v (L:Q) (mflat L))(z:∀ m∈L,Strs w m.a m.c m.l):
  ∃ a o,v=P a L o/\Mems w a o L/\∀ y,a=B y->u<=y.block:=by
 obtain⟨_,⟨rfl,A⟩|⟨g,o,F,rfl,O,I,U,A,h3,V⟩⟩:=h
 .have:L=[]:=List.eq_nil_of_length_eq_zero A;subst this;exact⟨G,0,rfl,Mems.nil w,λ_ e=>by cases e⟩
 .refine⟨B ⟨g,0,G⟩,o,rfl,⟨U,A,(λe=>by cases e),z,?_⟩,λy e=>by cases e;exact O⟩;intro y e X;cases e;refine⟨rfl,zC I,λi m J j Y=>?_⟩;rw[zB I];simp only[db];have Z:i<(L:Q):=(List.getElem?_eq_some_iff.1 J).1;have N:(F.toList.take ((L:Q)*7))[i*7+j]?=(mflat L)[i*7+j]?:=by rw[V]
  rw[List.getElem?_take_of_lt (by omega),zIn L i m J j Y]at N;rw[<-Array.getElem?_toList,N]
def MFresh (w:ai)(base:Q)(L:ah Mem):Prop:=∀ m∈L,Strs w m.a m.c m.l/\BlkT w m.a 9/\∀ ad,m.a=B ad->base<=ad.block
theorem MFresh.fr {o:Q}(h:MFresh w o L)(v:Fr S w w')(F:∀ b,o<=b->b<(w:Q)->¬ S b):MFresh w' o L:=λm I=>by
 obtain⟨J,y,z⟩:=h m I;have A:∀ u,m.a=B u->¬ S u.block:=λu e=>by obtain⟨cs,N⟩:=y u e;exact F _ (z u e) (zC N)
 exact⟨J.fr v (λu e _=>A u e),y.fr v A,z⟩
theorem MFresh.own {o A:Q}{n:Q}{F:ah bj}(h:MFresh w o L)(I:w.ownsRow A 226 7 v n F)(u:Fr (λb=>v.ownBlock=B b) w w'):MFresh w' o L:=λm J=>by
 obtain⟨N,y,O⟩:=h m J;have z:=BlkT.ne I y (by decide);exact⟨N.fr u (λU e _=>z U e),y.fr u z,O⟩
theorem MFresh.snoc {o:Q}(h:MFresh w o L)(y:Strs w m.a m.c m.l)(z:BlkT w m.a 9)(A:∀ v,m.a=B v->o<=v.block):MFresh w o (L++[m]):=λx u=>by
 rcases List.mem_append.1 u with u|u
 .exact h x u
 .obtain rfl:x=m:=by simpa using u
  exact⟨y,z,A⟩
def OfR (f:D->ab->D->ao Mem)(w:ai)(p:D)(rd:ab)(s:D)(e:bi)(w':ai):Prop:=
 ∃ (m:Mem) (b:Bool),e=.returned (.tuple #[am #[m.p,m.i,m.r,m.s,m.t,m.e,P m.a m.l m.c],b])/\((b=ag/\f p rd s=G)\/(b=aj/\f p rd s=B m.k))/\(b=aj->Strs w' m.a m.c m.l)/\(b=aj->∀ ad,m.a=B ad->(w:Q)<=ad.block)
def ofK (k:ab)(mk:D->ab->Ct->Mem)(p:D)(rd:ab)(s:D):ao Mem:=match parseC s with
 | some c=>if c.kind=k then B (mk p rd c)else G
 | none=>G
def mk2 (p:D)(rd:ab)(c:Ct):Mem:=⟨p,c.id,rd,c.slot,c.total,c.least,G,c.inner.map al,0⟩
def mk3 (p:D)(rd:ab)(c:Ct):Mem:=⟨p,c.id,rd,0,0,0,G,c.inner.map al,0⟩
def mk4 (p:D)(rd:ab)(c:Ct):Mem:=⟨p,c.id,rd,c.slot,c.total,c.total,G,c.inner.map al,0⟩
theorem zIi (h:∀ c,parseC s=B c->c.kind≠k):ofK k o p rd s=none:=by
 unfold ofK;cases hc:parseC s with
 | none=>rfl
 | some c=>exact if_neg (h c hc)
theorem zHf (h:parseC s=B c)(u:c.kind=k):ofK k o p rd s=B (o p rd c):=by
 unfold ofK;rw[h];exact if_pos u
theorem OfRes2.of (h:OfRes2 w p s rd e w'):OfR (ofK 2 mk2) w p rd s e w':=by
 rcases h with⟨o,u⟩|⟨c,v,y,o,u,z,A,F⟩
 .exact⟨⟨(),(),0,0,0,0,G,[],0⟩,ag,u,.inl ⟨rfl,zIi o⟩,(λh=>by cases h),(λh=>by cases h)⟩
 .exact⟨⟨p,c.id,rd,c.slot,c.total,c.least,v,c.inner.map al,y⟩,aj,by rw[z];simp,.inr ⟨rfl,zHf o u⟩,λ_=>A,λ_=>F⟩
theorem OfRes.of (h:OfRes w p s rd e w'):OfR (ofK 3 mk3) w p rd s e w':=by
 rcases h with⟨o,u⟩|⟨c,v,y,o,u,z,A,F⟩
 .exact⟨⟨(),(),0,0,0,0,G,[],0⟩,ag,u,.inl ⟨rfl,zIi o⟩,(λh=>by cases h),(λh=>by cases h)⟩
 .exact⟨⟨p,c.id,rd,0,0,0,v,c.inner.map al,y⟩,aj,by rw[z];simp,.inr ⟨rfl,zHf o u⟩,λ_=>A,λ_=>F⟩
theorem OfRes4.of (h:OfRes4 w p s rd e w'):OfR (ofK 4 mk4) w p rd s e w':=by
 rcases h with⟨o,u⟩|⟨c,v,y,o,u,z,A,F⟩
 .exact⟨⟨(),(),0,0,0,0,G,[],0⟩,ag,u,.inl ⟨rfl,zIi o⟩,(λh=>by cases h),(λh=>by cases h)⟩
 .exact⟨⟨p,c.id,rd,c.slot,c.total,c.total,v,c.inner.map al,y⟩,aj,by rw[z];simp,.inr ⟨rfl,zHf o u⟩,λ_=>A,λ_=>F⟩
def TxS (w:ai)(b0:Q)(tx:Dev->D)(L:ah Dev):Prop:=∀ d∈L,∃ l,Atts w d.aa d.ac l/\d.an=l.length/\getP l zAQ=tx d/\(tx d).size<=100000/\∀ ad,d.aa=B ad->l≠[]->ad.block<b0
theorem TxS.fr {T:Q->Prop}{o:Q}{L:ah Dev}(h:TxS w o tx L)(v:Fr T w w')(y:∀ b,b<o->¬ T b):TxS w' o tx L:=λd z=>by
 obtain⟨l,A,F,I,J,u⟩:=h d z;exact⟨l,A.fr v (λN e O=>y _ (u N e O)),F,I,J,u⟩
def MOk (w:ai)(v:bj)(L:ah Mem):Prop:=∀ m∈L,Strs w m.a m.c m.l/\∀ ad,m.a=B ad->m.l≠[]->¬ v.ownBlock=B ad.block
theorem MOk.no (h:MOk w v L)(u:Fr No w w'):MOk w' v L:=λm o=>⟨(h m o).1.no u (λ_=>id),(h m o).2⟩
theorem MOk.push {F:bj}(h:MOk w v L)(N:Strs w m.a m.c m.l)(O:∀ o,m.a=B o->m.l≠[]->¬ v.ownBlock=B o.block)(U:Fr (λb=>v.ownBlock=B b) w w')
  (u:F.ownBlock=v.ownBlock\/∃ n,F.ownBlock=B n/\(w:Q)<=n):MOk w' F (L++[m]):=by
 have z:∀ x:Mem,Strs w x.a x.c x.l->(∀ o,x.a=B o->x.l≠[]->¬ v.ownBlock=B o.block)->Strs w' x.a x.c x.l/\∀ o,x.a=B o->x.l≠[]->¬ F.ownBlock=B o.block:=λx y J=>by
  refine⟨y.fr U (λo e I=>J o e I),λo e I A=>?_⟩;rcases u with u|⟨n,u,V⟩
  .rw[u]at A;exact J o e I A
  .rw[u]at A;injection A with A
   have:=(y.cell o e I).2.1;omega
 intro x y;rcases List.mem_append.1 y with y|y
 .exact z x (h x y).1 (h x y).2
 .simp at y;subst y;exact z x N O
theorem zEt (F:Q)(eg:∀ args w,(callFunc F args).run ap w=.ok (.enter F args) w)(f:D->ab->D->ao Mem)(hF:∀ (p:D) (rd:ab) (s:D) (W:ai),Env W->s.size<=100000->ar ap F #[p,rd,af s] W λe w'=>OfR f W p rd s e w'/\Fr No W w')
  (tx:Dev->D) (b0:Q) (c:RC) (sa:ao aq) (sc:Q) (ma:ao aq) (mc:Q) (S:ah Src) (M:ah Vir) (m0:ah (D×D)) (w:ai) (h:RS c w sa sc ma mc S M m0) (hE:Env w) (hx:TxS w b0 tx (S.map Src.d)) (m3:b0<=(w:Q)) (hS:(S:Q)<=1000):
  ar ap 99 #[bo (B ⟨c.xb,0,G⟩),.func (.func F) #[] #[]] w λe w'=>(∃ (L:ah Mem) (a:ao aq) (j3:Q),L.map bf=S.filterMap (λs=>f s.o s.r (tx s.d))/\e=.returned (P a L j3)/\Mems w' a j3 L/\(∀ I,a=B I->(w:Q)<=I.block))/\Fr No w w':=by
 obtain⟨i0,i6,i7,i8,i9⟩:=bv infoM;have t5:w ⟨c.xb,5,G⟩=B (P sa S sc):=zB h.k 5;obtain⟨a9,c9,k4,g9,j4⟩:=Srcs.of_own h.so;cases k4;have m4:=g9.lenmax;have HE:ae (∀ W,Fr (From (w:Q)) w W->Env W):=λW hf=>hE.fr hf (λb A=>by unfold From;have:=hE.sz;omega)
 have j5:ae (∀ W,Fr (From (w:Q)) w W->TxS W b0 tx (S.map Src.d)):=λW hf=>hx.fr hf (λb A h=>by omega)
 have HF:=zh hF;have k5:∀ I,sa=B I->S≠[]->I.block<(w:Q):=λI e hn=>(g9.cell I e hn).2.1
 clear h hE hx hF j4;go_enter Tryz.func99,Tryz.ntmps99;go_wp2_with fail;clear t5;go_loopw [5,15] (λv i wr=>∃ (j:Q) (L:ah Mem) (av:ao aq) (cv:Q),j<=(S:Q)/\(L:Q)<=j/\v=P av L cv/\i=E C (j:ab)/\wr.ownsRow (w:Q) 226 7 (P av L cv) (L:Q) (mflat L)/\ae (L.map bf=(S.take j).filterMap λs=>f s.o s.r (tx s.d))/\MOk wr (P av L cv) L/\Fr (From (w:Q)) w wr) (λ_ i _=>(S:Q)-(ba i).toNat);case atStart=>exact⟨0,[],G,0,by omega,by simp,rfl,rfl,cg _ _ _ _,by unfold ae;simp,(λm hm=>by cases hm),ak _ _⟩
 case round=>
  obtain⟨j,L,av,cv,hj,m5,rfl,rfl,d0,HL,h0,hf⟩:=hrel;have l3:(L:Q)<=1000:=by omega
  have j0:=λb (h:(aw av L cv).ownBlock=B b)=>ze d0 h
  have l4:=hf.size;by_cases k6:j<(S:Q)
  .have j6:(j:ab)<(S:Q):=by omega
   obtain⟨cb,l5,s,rfl,hs,⟨c0,c1,c2,c3,c4,c5,c6,c7,c8,c9,k7,k8,k9⟩,l6⟩:=(g9.fr hf (λI e hn h=>by have:=k5 I e hn;omega)).elem k6;have g0:ae (S.take (j+1)=S.take j++[s]):=(by unfold ae;rw[cc,hs];rfl);have g2:s.d∈S.map Src.d:=cm (cn hs);obtain⟨W1,j1,h6,d1⟩:=zy wr (R s.vals 123);have g3:=zh (hf.step h6 zn);have j7:ae (∀ W,Fr (From (w:Q)) w W->ar ap 90 #[am #[E C s.d.index,E C s.d.parent,af s.d.name,af s.d.orig,af s.d.sub,af s.d.drv,af s.d.ali,E C s.d.kind,E C s.d.num,P s.d.aa s.d.an s.d.ac]] W λe w'=>e=.returned (af (tx s.d))/\Fr No W w'):=λW h8=>by
    obtain⟨l,h1,h2,h3,h4,h5⟩:=j5.out W h8 _ g2;have:=zMO s.d l W h1 h2;rw[h3]at this;exact this
   have j2:ae (∀ W,Fr (From (w:Q)) w W->ar ap F #[af s.o,E C s.r,af (tx s.d)] W λe w'=>OfR f W s.o s.r (tx s.d) e w'/\Fr No W w'):=λW h8=>by
    obtain⟨l,h1,h2,h3,h4,h5⟩:=j5.out W h8 _ g2;exact HF _ _ _ _ (HE W h8) h4
   have b8:=zh d0;have g1:=zh h0;have Hf:=zh hf;unfold Src.vals at j1;clear hs g2 d0 h0 hf;go_upto_region 5 with(fail)
   rw[<-j1];clear j1 c0 c1 c2 c3 c4 c5 c6 c7 c8 c9 k7 k8 k9;refine zZ (From (W1:Q)) (.q 0 (.q 1 (.q 2 (.q 3 (.q 4 (.q 5 (.q 6 (.m2 7 (.m2 8 (.q 9 (.q 10 (.q 11 (.m1 12 (.m1 13 (.q 14 .fin)))))) 12 (.m1 8 (.q 9 (.q 10 (.q 11 (.m1 13 (.q 14 .fin))))))) 12 (.m1 7 (.m1 8 (.q 9 (.q 10 (.q 11 (.m1 13 (.q 14 .fin))))))))))))))) _ (λW3 g4=>?_) zj;have d3:=g4.heap d1 id;have l7:=g4.size;have l8:(wr:Q)<(W1:Q):=zC d1;have cB:∀ g:Gr (From (W1:Q)) W3,SrcB0 g.W (wr:Q) s:=λg=>SrcB0.of (g.fr.heap d3 (by omega))
   have e0:=λg=>(cB g).c0
   have e1:=λg=>(cB g).c1
   have e2:=λg=>(cB g).c2
   have e3:=λg=>(cB g).c3
   have e4:=λg=>(cB g).c4
   have e5:=λg=>(cB g).c5
   have e6:=λg=>(cB g).c6
   have e7:=λg=>(cB g).c7
   have e8:=λg=>(cB g).c8
   have e9:=λg=>(cB g).c9
   have l0:=λg=>(cB g).c10
   have l1:=λg=>(cB g).c11
   have l2:=λg=>(cB g).c12
   have h9:=zh g4;have l9:=zh (g4.mono (T:=From (W1:Q)) zn);clear cB d3 d1;(repeat(first|apply zL rfl rfl rfl|apply zJ rfl rfl rfl);intro K hK;go_big_quiet_op;go_big_quiet_on);clear e0 e1 e2 e3 e4 e5 e6 e7 e8 e9 l0 l1 l2 g4;refine zAB rfl rfl ?_ ?_
   .skip;go_wp2_with fail;apply (j7 W3 (g3.step h9 (λb A h=>h.elim))).mono;rintro e Z ⟨rfl,N⟩;have b1:=zh (h9.step N zi);have j8:=N.size;go_wp2_with fail;apply zm N;clear N;refine zAB rfl rfl ?_ ?_
    .skip;have d2:=j2.out Z (g3.step b1 (λb A h=>h.elim));go_wp2_with (go_at_fn F;refine d2.mono ?_;rintro e U ⟨⟨m,bb,rfl,hv,b2,a4⟩,u⟩)
     have b9:=zh (b1.step u zi);have i3:=u.size;have Hv:=zh hv;have a5:bb=aj->∀ I,m.a=B I->m.l≠[]->I.block<(U:Q):=λA I e hn=>((b2 A).cell I e hn).2.1
     have b3:=zg3 b2 a4 a5;clear hv d2 b2 a4 a5;apply zm u;clear u;(repeat(first|apply zL rfl rfl rfl|apply zJ rfl rfl rfl);intro K hK;go_big_quiet_op;go_big_quiet_on);apply zH rfl;obtain⟨d4,V,O,qb⟩:=zy U (R #[(),(),E C 0,E C 0,E C 0,E C 0,P G 0 0] 226);have b4:=zh (b9.step O zn);have j9:(W1:Q)<=(U:Q):=b9.size;have k0:(U:Q)<(d4:Q):=zC qb;have i4:=O.size;go_wp2_with fail;apply zp;rw[<-V];clear V;apply zH rfl;obtain⟨f0,f1,f2,f3,f4,f5,f6⟩:=fl7 qb;obtain⟨z0,z1,z2,z3,z4,z5,z6⟩:=cl7 qb;have h7:=zh (set7 qb rfl (af m.p) (af m.i) (E C m.r) (E C m.s) (E C m.t) (E C m.e) (P m.a m.l.length m.c));clear qb;go_wp2_with fail;refine cr ⟨h7.2.mono (λb _ h=>by omega),?_⟩;(repeat(first|apply zL rfl rfl rfl|apply zJ rfl rfl rfl);intro K hK;go_big_quiet_op;go_big_quiet_on);obtain⟨Y,b5⟩:=ε (((((((d4.setCell ⟨U,0,G⟩ (af m.p)).setCell ⟨U,1,G⟩ (af m.i)).setCell ⟨U,2,G⟩ (E C m.r)).setCell ⟨U,3,G⟩ (E C m.s)).setCell ⟨U,4,G⟩ (E C m.t)).setCell ⟨U,5,G⟩ (E C m.e)).setCell ⟨U,6,G⟩ (P m.a m.l.length m.c))
     have X:=h7.out;rw[<-b5]at X;rw[<-b5];clear b5 h7;have hT:=(b4.mono (T:=From (W1:Q)) zn).step X.2 (λb A h=>by omega);have HN:ae (Fr No wr Y):=h6.step hT (λb A h=>by omega);have q9:=X.1;have d5:bb=aj->Strs Y m.a m.c m.l:=λA=>((b3.1 A).no O (λ_=>id)).fr X.2 (λI e hn hs=>by unfold Is at hs;have:=b3.2.2 A I e hn;omega)
     have a6:bb=aj->∀ I,m.a=B I->m.l≠[]->¬ (aw av L cv).ownBlock=B I.block:=λA I e hn h=>by have:=j0 _ h;have:=b3.2.1 A I e;omega
     have d6:=zg2 d5 a6;clear d5 a6;clear hT X f0 f1 f2 f3 f4 f5 f6 z0 z1 z2 z3 z4 z5 z6;apply zW;rcases Hv.out with⟨A,d7⟩|⟨A,hm⟩
     .subst A;have g5:=zh d7;clear d7;clear q9;have HR:=zg3 (zG b8 HN (λ_ _=>id)) (MOk.no g1 HN) (Hf.step HN zn);have a3:ae (L.map bf=(S.take (j+1)).filterMap λs=>f s.o s.r (tx s.d)):=(by unfold ae;rw[g0.out,bn,HL.out];simp[g5.out]);go_wp2;go_roundw;case rel=>exact⟨j+1,L,av,cv,by omega,by omega,rfl,by go_num,HR.1,a3,HR.2.1,HR.2.2⟩
      case measure=>simp[ba];omega
     .subst A;have g6:=zh hm;clear hm;obtain⟨x0,x1,x2,x3,x4,x5,x6⟩:=cl7 q9;have y:=zG b8 HN (λ_ _=>id);have k3:=HN.size;have b6:=zh y;clear q9;have a3:ae ((L++[m]).map bf=(S.take (j+1)).filterMap λs=>f s.o s.r (tx s.d)):=(by unfold ae;rw[g0.out,bn,cl,HL.out];simp[g6.out]);go_wp2_with (at_builtin;refine cy _ rfl _ _ 172 rfl (w:Q) 226 i0 (am #[ax,ax,E C 0,E C 0,E C 0,E C 0,P G 0 0]) 7 88 cw i6 i7 i8 i9 rfl (by decide) _ _ _ rfl (y.alloc _) ⟨Y,0,G⟩ 1 1 (au m).toList rfl rfl (zl _ (au m) _ rfl) (zCm _) (by unfold bc;omega) (by omega) (by first|omega|(simp;done)|(simp;omega)) ?_;intro v' w9 z J _ a7;obtain⟨g7,g8,rfl⟩:=zI z)
      have d8:Fr (λb=>(aw av L cv).ownBlock=B b) (Y.alloc (R (au m) 226)) w9:=ca J;have d9:Fr No Y (Y.alloc (R (au m) 226)):=(ak _ _).alloc _;have b7:Fr (λb=>(aw av L cv).ownBlock=B b) Y w9:=(d9.mono zn).step d8 (λb _ h=>h);have a8:=((MOk.no g1.out HN.out)).push (d6.1 rfl) (d6.2 rfl) b7 (a7.imp id (λe=>⟨_,e,by simp⟩));have HF:=zg3 z a8 ((Hf.step HN zn).step b7 (λb _ h=>zQ b6 h));clear z d8 d9 b7 a8 a7 J y;go_roundw;case rel=>exact⟨j+1,L++[m],g7,g8,by omega,by simp;omega,by simp,by go_num,by rw[be,zCC];exact HF.1,a3,(by rw[be];exact HF.2.1),HF.2.2⟩
      case measure=>simp[ba];omega
    .skip;obtain⟨d4,V,O,qb⟩:=zy Z (R #[(),(),E C 0,E C 0,E C 0,E C 0,P G 0 0] 226);have b4:=zh (b1.step O zn);have j9:(W1:Q)<=(Z:Q):=b1.size;have k0:(Z:Q)<(d4:Q):=zC qb;have i4:=O.size;go_wp2_with fail;apply zp;rw[<-V];clear V;apply zH rfl;have d2:=j2.out d4 (g3.step b4 (λb A h=>h.elim));go_wp2_with (go_at_fn F;refine d2.mono ?_;rintro e U ⟨⟨m,bb,rfl,hv,b2,a4⟩,u⟩)
     have b9:=zh (b4.step u zi);have i3:=u.size;have Hv:=zh hv;have a5:bb=aj->∀ I,m.a=B I->m.l≠[]->I.block<(U:Q):=λA I e hn=>((b2 A).cell I e hn).2.1
     have b3:=zg3 b2 a4 a5;clear hv d2 b2 a4 a5;have qb:=u.heap qb id;apply zm u;clear u;(repeat(first|apply zL rfl rfl rfl|apply zJ rfl rfl rfl);intro K hK;go_big_quiet_op;go_big_quiet_on);apply zH rfl;obtain⟨f0,f1,f2,f3,f4,f5,f6⟩:=fl7 qb;obtain⟨z0,z1,z2,z3,z4,z5,z6⟩:=cl7 qb;have h7:=zh (set7 qb rfl (af m.p) (af m.i) (E C m.r) (E C m.s) (E C m.t) (E C m.e) (P m.a m.l.length m.c));clear qb;go_wp2_with fail;refine cr ⟨h7.2.mono (λb _ h=>by omega),?_⟩;(repeat(first|apply zL rfl rfl rfl|apply zJ rfl rfl rfl);intro K hK;go_big_quiet_op;go_big_quiet_on);obtain⟨Y,b5⟩:=ε (((((((U.setCell ⟨Z,0,G⟩ (af m.p)).setCell ⟨Z,1,G⟩ (af m.i)).setCell ⟨Z,2,G⟩ (E C m.r)).setCell ⟨Z,3,G⟩ (E C m.s)).setCell ⟨Z,4,G⟩ (E C m.t)).setCell ⟨Z,5,G⟩ (E C m.e)).setCell ⟨Z,6,G⟩ (P m.a m.l.length m.c))
     have X:=h7.out;rw[<-b5]at X;rw[<-b5];clear b5 h7;have hT:=(b9.mono (T:=From (W1:Q)) zn).step X.2 (λb A h=>by omega);have HN:ae (Fr No wr Y):=h6.step hT (λb A h=>by omega);have q9:=X.1;have d5:bb=aj->Strs Y m.a m.c m.l:=λA=>(b3.1 A).fr X.2 (λI e hn hs=>by unfold Is at hs;have:=b3.2.1 A I e;omega)
     have a6:bb=aj->∀ I,m.a=B I->m.l≠[]->¬ (aw av L cv).ownBlock=B I.block:=λA I e hn h=>by have:=j0 _ h;have:=b3.2.1 A I e;omega
     have d6:=zg2 d5 a6;clear d5 a6;clear hT X f0 f1 f2 f3 f4 f5 f6 z0 z1 z2 z3 z4 z5 z6;apply zW;rcases Hv.out with⟨A,d7⟩|⟨A,hm⟩
     .subst A;have g5:=zh d7;clear d7;clear q9;have HR:=zg3 (zG b8 HN (λ_ _=>id)) (MOk.no g1 HN) (Hf.step HN zn);have a3:ae (L.map bf=(S.take (j+1)).filterMap λs=>f s.o s.r (tx s.d)):=(by unfold ae;rw[g0.out,bn,HL.out];simp[g5.out]);go_wp2;go_roundw;case rel=>exact⟨j+1,L,av,cv,by omega,by omega,rfl,by go_num,HR.1,a3,HR.2.1,HR.2.2⟩
      case measure=>simp[ba];omega
     .subst A;have g6:=zh hm;clear hm;obtain⟨x0,x1,x2,x3,x4,x5,x6⟩:=cl7 q9;have y:=zG b8 HN (λ_ _=>id);have k3:=HN.size;have b6:=zh y;clear q9;have a3:ae ((L++[m]).map bf=(S.take (j+1)).filterMap λs=>f s.o s.r (tx s.d)):=(by unfold ae;rw[g0.out,bn,cl,HL.out];simp[g6.out]);go_wp2_with (at_builtin;refine cy _ rfl _ _ 172 rfl (w:Q) 226 i0 (am #[ax,ax,E C 0,E C 0,E C 0,E C 0,P G 0 0]) 7 88 cw i6 i7 i8 i9 rfl (by decide) _ _ _ rfl (y.alloc _) ⟨Y,0,G⟩ 1 1 (au m).toList rfl rfl (zl _ (au m) _ rfl) (zCm _) (by unfold bc;omega) (by omega) (by first|omega|(simp;done)|(simp;omega)) ?_;intro v' w9 z J _ a7;obtain⟨g7,g8,rfl⟩:=zI z)
      have d8:Fr (λb=>(aw av L cv).ownBlock=B b) (Y.alloc (R (au m) 226)) w9:=ca J;have d9:Fr No Y (Y.alloc (R (au m) 226)):=(ak _ _).alloc _;have b7:Fr (λb=>(aw av L cv).ownBlock=B b) Y w9:=(d9.mono zn).step d8 (λb _ h=>h);have a8:=((MOk.no g1.out HN.out)).push (d6.1 rfl) (d6.2 rfl) b7 (a7.imp id (λe=>⟨_,e,by simp⟩));have HF:=zg3 z a8 ((Hf.step HN zn).step b7 (λb _ h=>zQ b6 h));clear z d8 d9 b7 a8 a7 J y;go_roundw;case rel=>exact⟨j+1,L++[m],g7,g8,by omega,by simp;omega,by simp,by go_num,by rw[be,zCC];exact HF.1,a3,(by rw[be];exact HF.2.1),HF.2.2⟩
      case measure=>simp[ba];omega
   .skip;obtain⟨d4,V,O,qb⟩:=zy W3 (R #[(),(),E C 0,E C 0,E C 0,E C 0,P G 0 0] 226);have b4:=zh (h9.step O zn);have j9:(W1:Q)<=(W3:Q):=h9.size;have k0:(W3:Q)<(d4:Q):=zC qb;have i4:=O.size;go_wp2_with fail;apply zp;rw[<-V];clear V;apply zH rfl;go_wp2_with fail;apply (j7 d4 (g3.step b4 (λb A h=>h.elim))).mono;rintro e Z ⟨rfl,N⟩;have b1:=zh (b4.step N zi);have j8:=N.size;go_wp2_with fail;have qb:=N.heap qb id;apply zm N;clear N;apply zH rfl;have d2:=j2.out Z (g3.step b1 (λb A h=>h.elim));go_wp2_with (go_at_fn F;refine d2.mono ?_;rintro e U ⟨⟨m,bb,rfl,hv,b2,a4⟩,u⟩)
    have b9:=zh (b1.step u zi);have i3:=u.size;have Hv:=zh hv;have a5:bb=aj->∀ I,m.a=B I->m.l≠[]->I.block<(U:Q):=λA I e hn=>((b2 A).cell I e hn).2.1
    have b3:=zg3 b2 a4 a5;clear hv d2 b2 a4 a5;have qb:=u.heap qb id;apply zm u;clear u;(repeat(first|apply zL rfl rfl rfl|apply zJ rfl rfl rfl);intro K hK;go_big_quiet_op;go_big_quiet_on);apply zH rfl;obtain⟨f0,f1,f2,f3,f4,f5,f6⟩:=fl7 qb;obtain⟨z0,z1,z2,z3,z4,z5,z6⟩:=cl7 qb;have h7:=zh (set7 qb rfl (af m.p) (af m.i) (E C m.r) (E C m.s) (E C m.t) (E C m.e) (P m.a m.l.length m.c));clear qb;go_wp2_with fail;refine cr ⟨h7.2.mono (λb _ h=>by omega),?_⟩;(repeat(first|apply zL rfl rfl rfl|apply zJ rfl rfl rfl);intro K hK;go_big_quiet_op;go_big_quiet_on);obtain⟨Y,b5⟩:=ε (((((((U.setCell ⟨W3,0,G⟩ (af m.p)).setCell ⟨W3,1,G⟩ (af m.i)).setCell ⟨W3,2,G⟩ (E C m.r)).setCell ⟨W3,3,G⟩ (E C m.s)).setCell ⟨W3,4,G⟩ (E C m.t)).setCell ⟨W3,5,G⟩ (E C m.e)).setCell ⟨W3,6,G⟩ (P m.a m.l.length m.c))
    have X:=h7.out;rw[<-b5]at X;rw[<-b5];clear b5 h7;have hT:=(b9.mono (T:=From (W1:Q)) zn).step X.2 (λb A h=>by omega);have HN:ae (Fr No wr Y):=h6.step hT (λb A h=>by omega);have q9:=X.1;have d5:bb=aj->Strs Y m.a m.c m.l:=λA=>(b3.1 A).fr X.2 (λI e hn hs=>by unfold Is at hs;have:=b3.2.1 A I e;omega)
    have a6:bb=aj->∀ I,m.a=B I->m.l≠[]->¬ (aw av L cv).ownBlock=B I.block:=λA I e hn h=>by have:=j0 _ h;have:=b3.2.1 A I e;omega
    have d6:=zg2 d5 a6;clear d5 a6;clear hT X f0 f1 f2 f3 f4 f5 f6 z0 z1 z2 z3 z4 z5 z6;apply zW;rcases Hv.out with⟨A,d7⟩|⟨A,hm⟩
    .subst A;have g5:=zh d7;clear d7;clear q9;have HR:=zg3 (zG b8 HN (λ_ _=>id)) (MOk.no g1 HN) (Hf.step HN zn);have a3:ae (L.map bf=(S.take (j+1)).filterMap λs=>f s.o s.r (tx s.d)):=(by unfold ae;rw[g0.out,bn,HL.out];simp[g5.out]);go_wp2;go_roundw;case rel=>exact⟨j+1,L,av,cv,by omega,by omega,rfl,by go_num,HR.1,a3,HR.2.1,HR.2.2⟩
     case measure=>simp[ba];omega
    .subst A;have g6:=zh hm;clear hm;obtain⟨x0,x1,x2,x3,x4,x5,x6⟩:=cl7 q9;have y:=zG b8 HN (λ_ _=>id);have k3:=HN.size;have b6:=zh y;clear q9;have a3:ae ((L++[m]).map bf=(S.take (j+1)).filterMap λs=>f s.o s.r (tx s.d)):=(by unfold ae;rw[g0.out,bn,cl,HL.out];simp[g6.out]);go_wp2_with (at_builtin;refine cy _ rfl _ _ 172 rfl (w:Q) 226 i0 (am #[ax,ax,E C 0,E C 0,E C 0,E C 0,P G 0 0]) 7 88 cw i6 i7 i8 i9 rfl (by decide) _ _ _ rfl (y.alloc _) ⟨Y,0,G⟩ 1 1 (au m).toList rfl rfl (zl _ (au m) _ rfl) (zCm _) (by unfold bc;omega) (by omega) (by first|omega|(simp;done)|(simp;omega)) ?_;intro v' w9 z J _ a7;obtain⟨g7,g8,rfl⟩:=zI z)
     have d8:Fr (λb=>(aw av L cv).ownBlock=B b) (Y.alloc (R (au m) 226)) w9:=ca J;have d9:Fr No Y (Y.alloc (R (au m) 226)):=(ak _ _).alloc _;have b7:Fr (λb=>(aw av L cv).ownBlock=B b) Y w9:=(d9.mono zn).step d8 (λb _ h=>h);have a8:=((MOk.no g1.out HN.out)).push (d6.1 rfl) (d6.2 rfl) b7 (a7.imp id (λe=>⟨_,e,by simp⟩));have HF:=zg3 z a8 ((Hf.step HN zn).step b7 (λb _ h=>zQ b6 h));clear z d8 d9 b7 a8 a7 J y;go_roundw;case rel=>exact⟨j+1,L++[m],g7,g8,by omega,by simp;omega,by simp,by go_num,by rw[be,zCC];exact HF.1,a3,(by rw[be];exact HF.2.1),HF.2.2⟩
     case measure=>simp[ba];omega
  .obtain rfl:j=(S:Q):=by omega
   have j6:¬ ((S:Q):ab)<(S:Q):=(by omega);obtain⟨a2,c2,hv,hR,i5⟩:=Mems.of_own d0 (λm hm=>(h0 m hm).1);cases hv;have a3:ae (L.map bf=S.filterMap λs=>f s.o s.r (tx s.d)):=(by unfold ae;rw[HL,co]);have H:=zg3 hR i5 (hf.mono (T:=No) (λb A h=>by omega));clear d0 hf hR i5 h0 g9;go_wp2;go_ret;exact⟨⟨L,a3,av,cv,rfl,H.1,H.2.1⟩,H.2.2⟩
def partT (o:D)(k:ab):D:=o++⟨#[112]⟩++⟨(cj k).toArray⟩
def partOk (o:D)(k:ab):Bool:=decide (1<=k)&&decide (k<=16)&&isName o&&isName (partT o k)
theorem zP1 (o:D)(k:ab)(w:ai)(hE:Env w)(ho:o.size<=1000000)(hk:(cp C k).wf=aj):
  ar ap 150 #[.string o,.int C k] w λe w'=>e=.returned (.tuple #[.string (if partOk o k=aj then partT o k else ()),.int C (if partOk o k=aj then 0 else 310)])/\Fr No w w':=by
 have y:-9223372036854775808<=k/\k<=9223372036854775807:=by simp[Lit.wf,IntKind.min,IntKind.max,IntKind.signed,IntKind.bits]at hk;omega
 have N:=Lib.itoa_length_le k y.1 y.2;obtain⟨h,z⟩:=ε (⟨(cj k).toArray⟩:D)
 have a4:h.size<=21:=by rw[z];simpa [ByteArray.size]using N
 have hL:partT o k=o++(⟨#[112]⟩:D)++h:=by rw[z];rfl
 have a3:(o++(⟨#[112]⟩:D)).size=o.size+1:=by rw[ByteArray.size_append];rfl
 have h1:(o++(⟨#[112]⟩:D)).size<=9223372036854775807:=by omega
 have h3:(o++(⟨#[112]⟩:D)++h).size<=9223372036854775807:=by rw[ByteArray.size_append];omega
 have h4:(o++(⟨#[112]⟩:D)++h).size<=maxLen:=by unfold bc;rw[ByteArray.size_append];omega
 have h5:o.size<=maxLen:=by unfold bc;omega
 have a5:¬ 9223372036854775807<(o++(⟨#[112]⟩:D)).size+h.size:=by omega
 have a6:(o++(⟨#[112]⟩:D)).size+h.size<=9223372036854775807:=by omega
 have a7:¬ 9223372036854775807<o.size+1+h.size:=by omega
 obtain⟨A,I⟩:=ε (partOk o k)
 rw[<-I,hL];have J:ae (A=(decide (1<=k)&&decide (k<=16)&&isName o&&isName (o++(⟨#[112]⟩:D)++h))):=by unfold ae;rw[I,<-hL];rfl
 have O:(⟨(cj k).toArray⟩:D)=h:=z.symm;clear I hL N z a3;go_enter Tryz.func150,Tryz.ntmps150;go_wp2_with fail;apply (Tryz.strconv_Itoa k y.1 y.2 _ hE.tab).mono;rintro e w1 ⟨rfl,kk,os,rfl⟩;have u:Fr No w (Go.Sort.grow (w.drewN kk) os):=cz (Lib.below_grow _ w (cq _) kk os);generalize Go.Sort.grow (w.drewN kk) os=w1 at *;rw[O];by_cases a8:k<1
 .have U:A=false:=by rw[J.out];simp[show ¬ 1<=k from by omega]
  subst U;have Hf:=zh u;clear u;go_wp2_with fail;refine ay (v:=.tuple #[.string (),.int C 310]) (by simp[az,bt,go_sem]) rfl ?_;exact⟨by simp,Hf.out⟩
 .by_cases a9:k>16
  .have U:A=false:=by rw[J.out];simp[show ¬ k<=16 from by omega]
   subst U;have Hf:=zh u;clear u;go_wp2_with fail;refine ay (v:=.tuple #[.string (),.int C 310]) (by simp[az,bt,go_sem]) rfl ?_;exact⟨by simp,Hf.out⟩
  .have F:ae (A=(isName o&&isName (o++(⟨#[112]⟩:D)++h))):=by unfold ae;rw[J.out];simp[show 1<=k from by omega,show k<=16 from by omega]
   go_wp2_with fail;apply (zAU _ _ h5).mono;rintro e w2 ⟨rfl,V⟩;have X:=zh (u.step V zi);clear u V;rcases hn:isName o with _|_
   .have U:A=false:=(by rw[F,hn];rfl);subst U;clear hn;go_wp2_with fail;refine ay (v:=.tuple #[.string (),.int C 310]) (by simp[az,bt,go_sem]) rfl ?_;exact⟨by simp,X.out⟩
   .have Y:ae (A=isName (o++(⟨#[112]⟩:D)++h)):=(by unfold ae;rw[F,hn];rfl);clear hn;go_wp2_with fail;apply (zAU _ _ h4).mono;rintro e w3 ⟨rfl,Z⟩;rw[<-Y];have a2:=zh (X.step Z zi);clear Z;cases A
    .go_wp2_with fail;refine ay (v:=.tuple #[.string (),.int C 310]) (by simp[az,bt,go_sem]) rfl ?_;exact⟨by simp,a2.out⟩
    .go_wp2_with fail;refine ay (v:=.tuple #[.string (o++(⟨#[112]⟩:D)++h),.int C 0]) (by simp[az,bt,go_sem]) rfl ?_;exact⟨by simp,a2.out⟩
def zAb (p o s:D)(r k:ab):ah Vir:=if partOk o k=aj then [⟨p,partT o k,s,r⟩]else []
theorem zQl (bd N bp br F:Q)(d:Dev)(p s:D)(r k:ab)(V:ah Vir)(Y:ao aq)(Z:Q)(w:ai)(hE:Env w)(ho:d.orig.size<=1000000)(hk:(cp C k).wf=aj)
  (a3:w.heap[bd]?=B (R d.vals 48)) (X:w.heap[N]?=B (R #[.slice Y V Z] 41)) (a4:w.heap[bp]?=B (R #[.string p] 9)) (a5:w.heap[br]?=B (R #[.int C r] 3))
  (I:w.ownsRow F 52 4 (.slice Y V Z) (V:Q) (vflat V)) (hV:(V:Q)<=100000) (b0:F<=(w:Q)):
  ar ap 149 #[.int C k,.string s,bo (B ⟨bd,0,G⟩),bo (B ⟨N,0,G⟩),bo (B ⟨bp,0,G⟩),bo (B ⟨br,0,G⟩)] w λe w'=>e=.returned (.tuple #[])/\
   (∃ V' y z,V'=V++zAb p d.orig s r k/\w'.heap[N]?=B (R #[.slice y V'.length z] 41)/\w'.ownsRow F 52 4 (.slice y V'.length z) V'.length (vflat V'))/\Fr (λb=>b=N\/(aw Y V Z).ownBlock=B b) w w':=by
 obtain⟨i0,b1,b2,b3,b4⟩:=bv infoV;have u:=zP1 d.orig k w hE ho hk;have x3:=(DevB.of a3).c3;obtain⟨nm,O⟩:=ε (partT d.orig k)
 have HP:ae (zAb p d.orig s r k=if partOk d.orig k=aj then [⟨p,nm,s,r⟩]else []):=by unfold ae;rw[O];rfl
 rw[<-O]at u;generalize zAb p d.orig s r k=PO at *;clear O hE;go_enter Tryz.func149,Tryz.ntmps149;rcases hok:partOk d.orig k with _|_
 .rw[hok]at u HP;simp only[Bool.false_eq_true,if_false]at u HP;clear hok;go_wp2_with fail;apply u.mono;rintro e w1 ⟨rfl,o⟩;clear u x3;have HR:=zg3 (o.heap X id) (zG I o (λ_ _=>id)) o;clear X I o a3 a4 a5;go_wp2;go_end0;exact⟨rfl,⟨V,Y,Z,by rw[HP,List.append_nil],HR.1,HR.2.1⟩,HR.2.2.mono zn⟩
 .rw[hok]at u HP;simp only[if_true]at u HP;clear hok;go_wp2_with fail;apply u.mono;rintro e w1 ⟨rfl,o⟩;have kl:=o.heap X id;have y0:w1 ⟨N,0,G⟩=B (.slice Y V Z):=zB kl 0;have y1:w1 ⟨bp,0,G⟩=B (.string p):=zB (o.heap a4 id) 0;have y2:w1 ⟨br,0,G⟩=B (.int C r):=zB (o.heap a5 id) 0;have A:=zG I o (λ_ _=>id);have a8:=zK A kl (by decide);have b6:=o.size;have b5:=zh o;clear u x3 X I o a3 a4 a5;go_wp2_with (at_builtin;refine cx _ rfl _ _ 41 rfl F 52 i0 (am #[.string ax,.string ax,.string ax,.int C 0]) 4 56 Tryz.underlying41 b1 b2 b3 b4 rfl (by decide) _ _ _ rfl (A.alloc _) ⟨w1,0,G⟩ 1 1 (cf ⟨p,nm,s,r⟩).toList rfl rfl (zl _ (cf ⟨p,nm,s,r⟩) _ rfl) (zCb _) (by unfold bc;omega) (by omega) (by first|omega|(simp;done)|(simp;omega)) ?_;intro v' w9 v J _;obtain⟨y,z,rfl⟩:=zI v;have a6:Fr No w1 (w1.alloc (R (cf ⟨p,nm,s,r⟩) 52)):=(ak _ _).alloc _;have a7:Fr (λb=>(aw Y V Z).ownBlock=B b) (w1.alloc (R (cf ⟨p,nm,s,r⟩) 52)) w9:=ca J;have k9:=a7.heap (a6.heap kl id) (λe=>a8 e);have y9:w9 ⟨N,0,G⟩=B (.slice Y V Z):=zB k9 0;have f9:w9.frozen? ⟨N,0,G⟩=false:=zD k9 0)
  have a2:=zK v k9 (by decide);have f5:Fr (Is N) w9 (w9.setCell ⟨N,0,G⟩ (.slice y ((V:Q)+1) z)):=Fr.setAt (ak _ _) _;have k5:(w9.setCell ⟨N,0,G⟩ (.slice y ((V:Q)+1) z)).heap[N]?=B (R #[.slice y ((V:Q)+1) z] 41):=zE k9 0 _;have U:=zG v f5 (λb hb h=>by unfold Is at h;subst h;exact a2 hb);have a9:Fr (λb=>b=N\/(aw Y V Z).ownBlock=B b) w (w9.setCell ⟨N,0,G⟩ (.slice y ((V:Q)+1) z)):=(((b5.step a6 zi).mono zn).step a7 (λb _ h=>.inr h)).step f5 (λb _ h=>.inl h);have HR:=zg3 k5 U a9;clear v J a7 k9 f5 k5 U a9 a8 a2 A a6;go_end0;exact⟨rfl,⟨V++[⟨p,nm,s,r⟩],y,z,by rw[HP],by rw[be];exact HR.1,by rw[be,zB1];exact HR.2.1⟩,HR.2.2⟩
def pwF (p o:D)(r:ab)(ins:ah D)(k:Q):ah Vir:=(List.range k).flatMap λi:Q=>zAb p o (ins[i]?.getD ⟨#[]⟩) r ((i:ab)+1)
theorem zFp (p o:D)(r:ab)(h:ah D)(k:Q):pwF p o r h (k+1)=pwF p o r h k++zAb p o (h[k]?.getD ⟨#[]⟩) r ((k:ab)+1):=by
 unfold pwF;rw[List.range_succ,List.flatMap_append];simp
theorem zHd (p o s:D)(r k:ab):(zAb p o s r k).length<=1:=by unfold zAb;split<;>simp
theorem zKw (p o:D)(r:ab)(h:ah D)(k:Q):(pwF p o r h k).length<=k:=by
 induction k with
 | zero=>simp[pwF]
 | succ k u=>rw[zFp,be];have:=zHd p o (h[k]?.getD ⟨#[]⟩) r ((k:ab)+1);omega
def pwL (p:D)(d:Dev)(s:D)(r:ab):ah Vir:=match parseC s with
 | some c=>if c.kind=5/\d.kind=2 then pwF p d.orig r (c.inner.map al) (c.inner:Q) else []
 | none=>[]
theorem zN2 (h:∀ c,parseC s=B c->c.kind≠5):pwL p d s r=[]:=by
 unfold pwL;cases hc:parseC s with
 | none=>rfl
 | some c=>exact if_neg (λe=>h c hc e.1)
theorem zI8 (h:parseC s=B c)(y:c.kind=5):(c.inner:Q)<=16:=by
 obtain⟨-,o,-⟩:=(zBI s c).1 h;obtain⟨k,i,l,A,t,e,n⟩:=c;have u:k=5:=y;subst u;unfold ci at o;rw[bw]at o;have v:=o.2;rw[Ct.good,bw]at v;have z:=v.1;simp[alike,someIn]at z;show (n:Q)<=16
 omega
theorem zO1 (d:Dev)(l:ah (D×D))(p:D)(r:ab)(w:ai)(hE:Env w)(hA:Atts w d.aa d.ac l)(b1:d.an=(l:Q))(ho:d.orig.size<=1000000)(hg:(getP l zAQ).size<=100000):
  ar ap 97 #[am d.vals,p,r] w λe w'=>(∃ a' c' V,V=pwL p d (getP l zAQ) r/\e=.returned (P a' (V:ah Vir).length c')/\Virs w' a' c' V/\(∀ J,a'=B J->(w:Q)<=J.block))/\Fr No w w':=by
 obtain⟨W0,o⟩:=ε (((w.alloc (R d.vals 48)).alloc (R #[p] 9)).alloc (R #[r] 3))
 have hx:Fr No w W0:=by rw[o];exact(((ak _ _).alloc _).alloc _).alloc _
 have q0:W0.heap[(w:Q)]?=B (R d.vals 48):=by rw[o];exact(((ak No _).alloc _).alloc _).heap (zF _ _) id
 have q1:W0.heap[(w:Q)+1]?=B (R #[p] 9):=by
  rw[o];have:=zP (w.alloc (R d.vals 48)) (R #[p] 9) (R #[r] 3)
  rwa [ch]at this
 have q2:W0.heap[(w:Q)+2]?=B (R #[r] 3):=by
  rw[o];have:=zF ((w.alloc (R d.vals 48)).alloc (R #[p] 9)) (R #[r] 3)
  rwa [ch,ch]at this
 have s0:(W0:Q)=(w:Q)+3:=by rw[o];simp
 have Z:=zPV d.aa d.ac l zAQ W0 (hA.no hx (λ_=>id));rw[<-b1]at Z;have c9:=(DevB.of q0).c9;unfold zAQ at Z;have b2:ae (zAQ=⟨#[99,111,110,116,101,110,116]⟩):=rfl;rw[b2]at hg;have d4:=zh hg;have N:ae (∀ V,V=pwL p d (getP l zAQ) r↔V=pwL p d (getP l ⟨#[99,111,110,116,101,110,116]⟩) r):=by unfold ae;intro V;rw[b2]
 generalize d5:getP l ⟨#[99,111,110,116,101,110,116]⟩=g at *;have HE:ae (∀ W,Fr No w W->Env W):=λW F=>hE.no F
 have Hx:=zh hx;clear d5 hA b1 hE hg;unfold Dev.vals at o ⊢;go_enter Tryz.func97,Tryz.ntmps97;go_upto_region 1 with(fail)
 rw[<-o];clear o;go_wp2_with fail;apply Z.mono;rintro e w1 ⟨⟨b,rfl⟩,y⟩;have x1:=Hx.step y zi;have b3:=zJK g 5 w1 (HE w1 x1) d4;have k0:=y.heap q0 id;have k1:=y.heap q1 id;have k2:=y.heap q2 id;have s1:=y.size;clear Z c9 q0 q1 q2 hx y;go_wp2_with fail;apply b3.mono;rintro en I ⟨b4,z⟩;have X2:=zh (x1.step z zi);have m0:=z.heap k0 id;have m1:=z.heap k1 id;have m2:=z.heap k2 id;have s2:=z.size;clear b3 k0 k1 k2 x1 z;rcases b4 with⟨b5,rfl⟩|⟨k,sl,t,le,i,lb,n,a,a',a9,e4,O,hk,rfl,b6,a3,a4⟩
 .have Hr:ae ([]=pwL p d (getP l zAQ) r):=by unfold ae;rw[N,zN2 b5]
  have Xf:=zh (X2.alloc (R #[E C 0,(),(),E C 0,E C 0,E C 0,P G 0 0] 218));clear b5 m1 m2;go_wp2;go_ret;exact⟨⟨G,0,[],Hr.out,rfl,Virs.nil _,λ_ e=>by cases e⟩,Xf.out⟩
 .subst hk;obtain⟨Y,A⟩:=ε ((I.alloc (R #[E C 5,i,lb,sl,t,le,P a n a9] 218)).alloc (R #[P G 0 0] 41))
  have a5:Fr No I (I.alloc (R #[E C 5,i,lb,sl,t,le,P a n a9] 218)):=(ak _ _).alloc _;have v:Fr No I Y:=by rw[A];exact a5.alloc _
  have n0:=v.heap m0 id;have n1:=v.heap m1 id;have n2:=v.heap m2 id;have n3:Y.heap[(I:Q)+1]?=B (R #[P G 0 0] 41):=by
   rw[A];have:=zF (I.alloc (R #[E C 5,i,lb,sl,t,le,P a n a9] 218)) (R #[P G 0 0] 41)
   rwa [ch]at this
  have s4:(Y:Q)=(I:Q)+2:=by rw[A];simp
  have z7:=(DevB.of (a5.heap m0 id)).c7;have e5:(n:Q)<=16:=zI8 O rfl;have a6:=a3.no v (λ_=>id);have d6:(n.map al).length=(n:Q):=ck ..;by_cases b7:d.kind=2
  .have Hr:ae (pwF p d.orig r (n.map al) (n:Q)=pwL p d (getP l zAQ) r):=by
    unfold ae;rw[N];unfold pwL;rw[O];exact(if_pos ⟨rfl,b7⟩).symm
   have H4:=zh v;have S4:=zh s4;have d7:∀ J,a'=B J->(n.map al)≠[]->J.block<(I:Q):=λJ e b0=>(a3.cell J e b0).2.1
   clear O b6 m0 m1 m2 a5 v a3 a4;go_upto_region 7 with(fail)
   rw[<-A];clear A z7;go_wp2_with fail;go_loopw [38] (λx wr=>∃ (j:Q) (V:ah Vir) (av:ao aq) (cv:Q),j<=(n:Q)/\x=E C (j:ab)/\ae (V=pwF p d.orig r (n.map al) j)/\wr.heap[(I:Q)+1]?=B (R #[P av V.length cv] 41)/\wr.ownsRow (Y:Q) 52 4 (P av V.length cv) V.length (vflat V)/\Fr (λb=>(I:Q)+1<=b) Y wr) (λx _=>(n:Q)-(ba x).toNat);case atStart=>exact⟨0,[],G,0,by omega,rfl,by unfold ae pwF;simp,n3,cg _ _ _ _,ak _ _⟩
   case round=>
    obtain⟨j,V,av,cv,hj,rfl,HV,kl,u,F⟩:=hrel;have e6:V.length<=16:=(by rw[HV];have:=zKw p d.orig r (n.map al) j;omega);have d8:=F.size;by_cases e7:j<(n:Q)
    .have b8:(j:ab)<(n:Q):=(by omega);obtain⟨bb,e8,x,rfl,b9,hc⟩:=(a6.fr F (λJ e b0 h=>by have:=d7 J e b0;omega)).at (show j<(n.map al).length by omega);have U:Fr No w wr:=(X2.step H4 zi).step F (λb hb h=>by have:=S4.out;omega);have a7:=zQl (w:Q) ((I:Q)+1) ((w:Q)+1) ((w:Q)+2) (Y:Q) d p x r ((j:ab)+1) V av cv wr (HE wr U) ho (WalkArith.wf_i64 (by omega)) (F.heap n0 (λh=>by omega)) kl (F.heap n1 (λh=>by omega)) (F.heap n2 (λh=>by omega)) u (by omega) d8;have d9:ae (V++zAb p d.orig x r ((j:ab)+1)=pwF p d.orig r (n.map al) (j+1)):=(by unfold ae;rw[zFp,<-HV,b9];rfl);have d0:∀ b,(aw av V.length cv).ownBlock=B b->(Y:Q)<=b:=λb h=>zQ u h
     have e0:=zh d0;have Hf:=zh F;generalize zAb p d.orig x r ((j:ab)+1)=PO at *;clear b9 kl u F U d0;go_wp2_with fail;apply a7.mono;rintro e w9 ⟨rfl,⟨V',e1,e2,d1,d2,X⟩,d3⟩;have HF:=zh (And.intro d2 (And.intro X (Hf.step d3 (λb _ h=>by
      rcases h with h|h
      .omega
      .have:=e0.out _ h;omega))))
     have e3:ae (V'=pwF p d.orig r (n.map al) (j+1)):=(by unfold ae;rw[d1,d9]);clear a7 d2 X d3 d1;go_wp2;go_roundw;case rel=>exact⟨j+1,V',e1,e2,by omega,by go_num,e3,HF.1,HF.2.1,HF.2.2⟩
     case measure=>simp[ba];omega
    .obtain rfl:j=(n:Q):=by omega
     have b8:¬ ((n:Q):ab)<(n:Q):=(by omega);have y0:wr ⟨(I:Q)+1,0,G⟩=B (P av V.length cv):=zB kl 0;obtain⟨a2,c2,hv,hR,a8⟩:=Virs.of_own u;cases hv;have U:Fr No w wr:=(X2.step H4 zi).step F (λb hb h=>by have:=S4.out;omega);have H:=zg3 hR a8 U;have S0:ae ((w:Q)<=(Y:Q)):=(by unfold ae;have:=S4.out;omega);clear u F hR a8 kl U;go_wp2;go_ret;exact⟨⟨av,cv,by rw[<-Hr,<-HV];rfl,by rw[<-Hr,<-HV];exact H.1,λJ e=>cd S0 (H.2.1 J e)⟩,H.2.2⟩
  .have Hr:ae ([]=pwL p d (getP l zAQ) r):=by unfold ae;rw[N];unfold pwL;rw[O];exact(if_neg (λe=>b7 e.2)).symm
   have Xf:=zh (X2.step a5 zi);clear O b6 a3 a6 m0 m1 m2 n0 n1 n2 n3 v A d6;go_wp2;go_ret;exact⟨⟨G,0,[],Hr.out,rfl,Virs.nil _,λ_ e=>by cases e⟩,Xf.out⟩
theorem zKv (p:D)(d:Dev)(s:D)(r:ab):(pwL p d s r).length<=16:=by
 unfold pwL;cases hc:parseC s with
 | none=>simp
 | some c=>
  show (if c.kind=5/\d.kind=2 then pwF p d.orig r (c.inner.map al) (c.inner:Q) else []).length<=16
  split
  .rename_i h;have:=zKw p d.orig r (c.inner.map al) (c.inner:Q);have:=zI8 hc h.1;omega
  .simp
theorem zHc {o:D}{v:Vir}(h:v∈zAb p o s r k):v.q=p/\v.o.size<=32:=by
 unfold zAb at h;split at h
 .rename_i u;simp at h;subst h;refine⟨rfl,?_⟩;unfold partOk at u;simp only[bw]at u;have:=u.2;unfold isName at this;simp at this;exact this.1.1.1.2
 .cases h
theorem zOx {v:Vir}(h:v∈pwL p d s r):v.q=p/\v.o.size<=32:=by
 unfold pwL at h;cases hc:parseC s with
 | none=>rw[hc]at h;cases h
 | some c=>
  rw[hc]at h;simp only at h;split at h
  .unfold pwF at h;obtain⟨i,-,u⟩:=List.mem_flatMap.1 h;exact zHc u
  .cases h
def wantS (tx:Dev->D)(S:ah Src)(M:ah Vir)(r:ab)(k:Q):ah Vir:=(S.take k).foldl (λM s=>zg M (pwL s.o s.d (tx s.d) r)) M
theorem zE2 {S:ah Src}{M:ah Vir}{k:Q}{s:Src}(h:S[k]?=B s):wantS tx S M r (k+1)=zg (wantS tx S M r k) (pwL s.o s.d (tx s.d) r):=by
 unfold wantS;rw[cc,h,List.foldl_append];rfl
theorem zGQ (tx:Dev->D)(S:ah Src)(M:ah Vir)(r:ab):∀ k,(wantS tx S M r k).length<=(M:Q)+16*k:=by
 intro k
 induction k with
 | zero=>simp[wantS]
 | succ k u=>
  by_cases h:k<(S:Q)
  .rw[zE2 (bs h)];have v:=zAy (pwL S[k].o S[k].d (tx S[k].d) r) (wantS tx S M r k);have y:=zKv S[k].o S[k].d (tx S[k].d) r;omega
  .have:wantS tx S M r (k+1)=wantS tx S M r k:=by unfold wantS;rw[da (by omega),da (by omega)]
   rw[this];omega
theorem zJB (W:ai)(a:ao aq)(n c:Q):(binOp .eql 30 (P a n c) (P G 0 0)).run ap W=.ok (.bool a.isNone) W:=Lib.run_eql_slice_nil W 30 9 a n c 0 0 ce
theorem Strs.src' {W:ai}{l:ah D}(h:Strs W a y l):∀ v,a=B v->∀ j u,(l.map bg)[j]?=B u->W (v.add j)=B u:=by
 intro v e j u z;rw[List.getElem?_map]at z;obtain⟨x,A,rfl⟩:=Option.map_eq_some_iff.1 z;obtain⟨F,_,I⟩:=h.cell v e (by intro e;subst e;simp at A);obtain⟨b,o,J⟩:=v;simp only at F;subst F;rw[Addr.add_lit];exact I j x A
theorem zAv (a:ao aq)(y:Q)(l:ah D)(w:ai)(V:Strs w a y l)(X:(l:Q)<=1000000):
  ar ap 17 #[P a l y] w λe w'=>(∃ v z,e=.returned (P v l z)/\Strs w' v z l/\BlkT w' v 9/\∀ A,v=B A->(w:Q)<=A.block)/\Fr No w w':=by
 obtain⟨Y,Z,F,I,J⟩:=bv infoS;cases a with
 | none=>
  obtain⟨rfl,rfl⟩:=V.isNil rfl;have hq:=zJB;go_enter dc,dd;go_wp2;go_ret;exact⟨⟨G,0,rfl,Strs.nil _,BlkT.none _ _,λ_ e=>by cases e⟩,ak _ _⟩
 | some A=>
  have hx:Fr No w (w.alloc (R #[] 9)):=(ak _ _).alloc _;have N:=V.no hx (λ_=>id);have hq:=zJB;go_enter dc,dd;have u:(w.alloc (R #[] 9)).ownsRow (w:Q) 9 1 (P (B ⟨w,0,G⟩) 0 0) 0 []:=
   ⟨rfl,.inr ⟨(w:Q),0,#[],rfl,cq _,zF _ _,cq _,by unfold bc;omega,rfl,rfl⟩⟩
  go_wp2_with (at_builtin;refine zAC rfl _ _ 30 rfl (w:Q) 9 Y (af ax) 1 16 ce Z F I J rfl (by decide) _ 0 [] rfl u (B A) (l:Q) _ (l.map bg) rfl (λe=>by cases e) (by simp) (λO e=>N.src' O e) (zBX l) (by unfold bc;omega) (by omega) (by first|omega|(simp;done)|(simp;omega)) ?_;intro v' w1 o U)
  go_ret;simp only[db,List.nil_append]at o;obtain⟨v,z,hv,h1,h2⟩:=ct o;subst hv;exact⟨⟨v,z,rfl,h1,zAI o,h2⟩,((ak No w).alloc _).step (zFB u U) (λb X h=>by omega)⟩
theorem zC3 (w:ai)(o u h:Obj):(((w.alloc o).alloc u).alloc h).heap[(w:Q)]?=B o:=((ak No _).alloc h).heap (zP w o u) id
theorem zC2 (w:ai)(o u h:Obj):(((w.alloc o).alloc u).alloc h).heap[(w:Q)+1]?=B u:=((ak No _).alloc h).heap (zS w o u) id
theorem zC1 (w:ai)(o v u:Obj):(((w.alloc o).alloc v).alloc u).heap[(w:Q)+1+1]?=B u:=by
 have h:=zF ((w.alloc o).alloc v) u;have e:((w.alloc o).alloc v).heap.size=(w:Q)+1+1:=by simp
 rw[e]at h;exact h
def zBz : bj:=am #[(),(),E C 0,E C 0,E C 0,E C 0,P G 0 0]
theorem zIE (w:ai):(zeroValue 226).run ap w=.ok zBz w:=by kernel_rfl
structure MemSmall2 (L:ah Mem):Prop where
 len:(L:Q)<=1000
 p:∀ m∈L,m.p.size<=1000000
 i:∀ m∈L,m.i.size<=1000000
 l:∀ m∈L,m.l.length<=1000000
 s:∀ m∈L,(cp C m.s).wf=aj
def ArrRes (w:ai)(b:D×ab->ao Mem)(e:bi)(w':ai):Prop:=
 ∃ (a':ao aq) (c':Q) (O:ah ArrM) (ids:ah D),e=.returned (P a' O c')/\Arrs w' a' c' O/\(∀ ad,a'=B ad->(w:Q)<=ad.block)/\AFresh w' (w:Q) O/\IsIds2 b ids/\O.map ArrM.toArr=ids.map (buildA b)/\(ids:Q)<=1000/\w'.ownsRow (w:Q) 176 6 (P a' O c') (O:Q) (arflat O)
end Go.Proofs.YtjohgekljmhheaaGreatDoor
