import Derived.Test.YtckkocmhlhefpaaGreatDoorQ2
import Derived.Test.YtckkocmhlhefpaaGreatDoorStrs
import Derived.Lib.IndexAny
import Derived.Laws.Rows
import Derived.Lib.ReplaceLaws
import Derived.Deep.DeepCutAuto
namespace Go.Proofs.YtckkocmhlhefpaaGreatDoor
open Go.RowKit Go.Maps
set_option linter.unusedVariables false
set_option maxRecDepth 100000
set_option maxHeartbeats 2000000
open Dev renaming vals->aq
open Fr renaming refl->ap,of_below_size->bz
open Go renaming World->r,maxLen->af,Calls->ai,bodyPost_ret->be,results_cell_row->cu,wpList_store_row->cw
open Go.Fence renaming wide->bc
open Go.Lib renaming compareBytes->ax,replaceAll->bd,replaceK->bh,replaceNum->bi,hasPrefix->ca
open Go.Proofs renaming intOf->ar
open Go.Proofs.Tryz renaming prog->ae,zeroCells155->au,func39->bp,func78->bq,ntmps39->br,ntmps78->bs,underlying155->bt,func137->cn,func185->co,ntmps137->cp,ntmps185->cq,results142->cr
open Go.RowKit renaming Hid->G
open IntKind renaming i64->ak
open Obj renaming cells->K
open Value renaming string->ab,int->aj,agg->al,slice->am,pointer->aw
open _root_ renaming Nat->C,Int->P,ByteArray->M,UInt8->a1,List->ag,Bool->ao,Option->av,decide_eq_true_eq->bu
open _root_.Array renaming getElem?_eq_getElem->ba,getElem?_toList->bf,replicate_succ->bv,replicate_zero->bw
open _root_.Bool renaming false->a0,true->ah,and_false->bg,not_true->bx
open _root_.List renaming take_of_length_le->ay,length_cons->bj,length_nil->bm,size_toArray->bn,take_add_one->bo,append_toArray->cb,cons_append->cc,getElem?_eq_getElem->cd,mem_of_getElem?->ce,nil_append->cf,push_toArray->cg,take_append_drop->ch,take_prefix->ci
open _root_.Nat renaming le_refl->az,le_of_eq->cj,reduceAdd->ck,reduceSub->cl,sub_zero->cm
open _root_.Option renaming some->E,none->B
open _root_.UInt8 renaming ofNat->ct
variable{α:Type}{L:ag α}{j v k o:C}{x:α}{w w' W:r}{a:av Addr}{l:ag (M×M)}{S:C->Prop}{T:TypeId}
def revR {α:Type}(L:ag α):ag (P×α):=(L.zipIdx.reverse).map λp=>((p.2:P),p.1)
theorem zAV (L:ag α):(revR L).length=L.length:=by unfold revR;simp
theorem zJs (h:j<L.length)(o:L[j]?=E x):(revR L)[L.length-1-j]?=E ((j:P),x):=by
 unfold revR;rw[List.getElem?_map,List.getElem?_reverse (by simp;omega)];have e:L.zipIdx.length-1-(L.length-1-j)=j:=by simp;omega
 rw[e,List.getElem?_zipIdx,o];simp
theorem zGD (h:j<L.length)(u:L[j]?=E x):(revR L).take (L.length-j)=(revR L).take (L.length-(j+1))++[((j:P),x)]:=by
 have e:L.length-j=(L.length-(j+1))+1:=by omega
 have o:=zJs h u;have v:L.length-1-j=L.length-(j+1):=by omega
 rw[v]at o;rw[e,bo,o];rfl
theorem zIX (a:av Addr)(n c:C)(w:r):ai ae 69 #[am a n c] w λe w'=>e=.returned (.func (.func 124) #[] #[aw (E ⟨w,0,B⟩)])/\w'=w.alloc (K #[am a n c] 45):=by
 go_enter Tryz.func69,Tryz.ntmps69
 go_wp2_with fail
 go_ret;exact⟨rfl,rfl⟩
theorem zB8 (n:C)(hn:3<=n)(D:C)(a:av Addr)(o:C)(ds:ag Dev)(w:r)(V0:C->Prop)(R:w.heap[D]?=E (K #[am a ds.length o] 45))(hS:Devs w a o ds)(b4:ds.length<=1000000)
  (hV:¬ V0 D/\∀ u,a=E u->ds≠[]->¬ V0 u.block):
  Gives bc n ae 124 #[aw (E ⟨D,0,B⟩)] (λx:P×Dev=>#[aj ak x.1,al x.2.vals]) (λ_=>False) V0 (revR ds) w:=by
 intro l J W F b5 b6 b0 hJ hY h0;have U:=F.heap R id;have a6:Devs W a o ds:=hS.fr F (λ_ _ _ h=>h);have b7:=F.size;have b8:1<=n:=by omega
 have hm:=hS.lenmax;have b9:=zC R;have a7:∀ u,a=E u->ds≠[]->u.block<(w:C):=λu e v=>(hS.cell u e v).2.1
 show CallsIn bc n ae 124 #[.func (.yield l) #[] #[],aw (E ⟨D,0,B⟩)] W _
 have cv:W.cell? ⟨D,0,B⟩=E (am a ds.length o):=zB U 0;refine callsIn_of_wp Tryz.func124 rfl trivial ?_ rfl;simp only[Tryz.ntmps124,bn,bj,bm,ck,cl,bv,bw,cg,cb,cf,cc]
 gi_wp2
 clear cv
 gi_loopw [3] (λi wr=>∃ (m:C) (V:C->Prop),m<=ds.length/\i=aj ak ((m:P)-1)/\wr.heap[D]?=E (K #[am a ds.length o] 45)/\Devs wr a o ds/\J ((revR ds).take (ds.length-m)) V wr/\(∀ b,V b->V0 b\/(w:C)<=b)/\(W:C)<=(wr:C)) (λi _=>(ar i+1).toNat)
 case atStart=>exact⟨ds.length,V0,az _,rfl,U,a6,by simpa using h0,λb hb=>.inl hb,az _⟩
 case round=>
  obtain⟨m,V,d0,hi,I,N,O,y,d1⟩:=hrel;cases m with
  | succ j=>
   have z:(((j+1:C):P)-1)=(j:P):=by omega
   rw[z]at hi;subst hi;have X:j<ds.length:=by omega
   have d2:(0:P)<=(j:P):=by omega
   have b1:(j:P)<ds.length:=by omega
   have cv:wr.cell? ⟨D,0,B⟩=E (am a ds.length o):=zB I 0;obtain⟨bb,d3,x,rfl,hx,c0,c1,c2,c3,c4,c5,c6,c7,c8,c9⟩:=N.dev X;have Y:=zh (zGD X hx);have a8:=hY _ V ((j:P),x) wr O (by rw[<-Y.out];exact ci _ _);obtain⟨fn,b2,a5,b3,hy,hR⟩:=a8;unfold aq at hy;dsimp only at hy;clear hx z
   gi_wp2
   refine hR.mono ?_;rintro e W3 ⟨rfl,V',Z,a2,A⟩;have a3:=N.fr A (λu e v h=>by
    have h1:=a7 u e v;rcases h with h|h
    .rcases y _ h with h'|h'
     .exact hV.2 u e v h'
     .omega
    .omega)
   have a4:=A.heap I (λh=>by
    rcases h with h|h
    .rcases y _ h with h'|h'
     .exact hV.1 h'
     .omega
    .omega)
   have d4:=A.size;have HF:=zg3 a3 a2 a4;have HV:G (∀ b,V' b->V0 b\/(w:C)<=b):=λb h=>(Z b h).elim (y b) (λh=>.inr (by omega))
   clear a3 a2 Z N O y hR hy A I cv a4
   gi_wp2
   go_roundw
   case rel=>exact⟨j,V',by omega,by first|rfl|(go_num;done),HF.out.2.2,HF.out.1,by rw[Y.out];exact HF.out.2.1,HV.out,by omega⟩
   case measure=>simp[ar]
  | zero=>
   have z:(((0:C):P)-1)=-1:=by omega
   rw[z]at hi;subst hi;have a9:J (revR ds) V wr:=by
    have e:(revR ds).take (ds.length-0)=revR ds:=by rw[cm];exact ay (cj (zAV ds))
    rw[<-e];exact O
   gi_wp2
   go_end0
   exact⟨⟨_,rfl⟩,V,a9⟩
theorem zMY (a:av Addr)(n c:C)(w:r):ai ae 30 #[am a n c] w λe w'=>e=.returned (.func (.func 68) #[] #[aw (E ⟨w,0,B⟩)])/\w'=w.alloc (K #[am a n c] 49):=by
 go_enter Tryz.func30,Tryz.ntmps30
 go_wp2_with fail
 go_ret;exact⟨rfl,rfl⟩
theorem zEW (n:C)(hn:3<=n)(D:C)(a:av Addr)(o:C)(ds:ag Vir)(w:r)(V0:C->Prop)(R:w.heap[D]?=E (K #[am a ds.length o] 49))(hS:Virs w a o ds)(b4:ds.length<=1000000)
  (hV:¬ V0 D/\∀ u,a=E u->ds≠[]->¬ V0 u.block):
  Gives bc n ae 68 #[aw (E ⟨D,0,B⟩)] (λx:P×Vir=>#[aj ak x.1,al x.2.vals]) (λ_=>False) V0 (revR ds) w:=by
 intro l J W F b5 b6 b0 hJ hY h0;have U:=F.heap R id;have a6:Virs W a o ds:=hS.fr F (λ_ _ _ h=>h);have b7:=F.size;have b8:1<=n:=by omega
 have hm:=hS.lenmax;have b9:=zC R;have a7:∀ u,a=E u->ds≠[]->u.block<(w:C):=λu e v=>(hS.cell u e v).2.1
 show CallsIn bc n ae 68 #[.func (.yield l) #[] #[],aw (E ⟨D,0,B⟩)] W _
 have cv:W.cell? ⟨D,0,B⟩=E (am a ds.length o):=zB U 0;refine callsIn_of_wp Tryz.func68 rfl trivial ?_ rfl;simp only[Tryz.ntmps68,bn,bj,bm,ck,cl,bv,bw,cg,cb,cf,cc]
 gi_wp2
 clear cv
 gi_loopw [3] (λi wr=>∃ (m:C) (V:C->Prop),m<=ds.length/\i=aj ak ((m:P)-1)/\wr.heap[D]?=E (K #[am a ds.length o] 49)/\Virs wr a o ds/\J ((revR ds).take (ds.length-m)) V wr/\(∀ b,V b->V0 b\/(w:C)<=b)/\(W:C)<=(wr:C)) (λi _=>(ar i+1).toNat)
 case atStart=>exact⟨ds.length,V0,az _,rfl,U,a6,by simpa using h0,λb hb=>.inl hb,az _⟩
 case round=>
  obtain⟨m,V,d0,hi,I,N,O,y,d1⟩:=hrel;cases m with
  | succ j=>
   have z:(((j+1:C):P)-1)=(j:P):=by omega
   rw[z]at hi;subst hi;have X:j<ds.length:=by omega
   have d2:(0:P)<=(j:P):=by omega
   have b1:(j:P)<ds.length:=by omega
   have cv:wr.cell? ⟨D,0,B⟩=E (am a ds.length o):=zB I 0;obtain⟨bb,d3,x,rfl,hx,⟨c0,c1,c2,c3⟩,d4⟩:=N.elem X;have Y:=zh (zGD X hx);have a8:=hY _ V ((j:P),x) wr O (by rw[<-Y.out];exact ci _ _);obtain⟨fn,b2,a5,b3,hy,hR⟩:=a8;unfold Vir.vals at hy;dsimp only at hy;clear hx z
   gi_wp2
   refine hR.mono ?_;rintro e W3 ⟨rfl,V',Z,a2,A⟩;have a3:=N.fr A (λu e v h=>by
    have h1:=a7 u e v;rcases h with h|h
    .rcases y _ h with h'|h'
     .exact hV.2 u e v h'
     .omega
    .omega)
   have a4:=A.heap I (λh=>by
    rcases h with h|h
    .rcases y _ h with h'|h'
     .exact hV.1 h'
     .omega
    .omega)
   have d5:=A.size;have HF:=zg3 a3 a2 a4;have HV:G (∀ b,V' b->V0 b\/(w:C)<=b):=λb h=>(Z b h).elim (y b) (λh=>.inr (by omega))
   clear a3 a2 Z N O y hR hy A I cv a4
   gi_wp2
   go_roundw
   case rel=>exact⟨j,V',by omega,by first|rfl|(go_num;done),HF.out.2.2,HF.out.1,by rw[Y.out];exact HF.out.2.1,HV.out,by omega⟩
   case measure=>simp[ar]
  | zero=>
   have z:(((0:C):P)-1)=-1:=by omega
   rw[z]at hi;subst hi;have a9:J (revR ds) V wr:=by
    have e:(revR ds).take (ds.length-0)=revR ds:=by rw[cm];exact ay (cj (zAV ds))
    rw[<-e];exact O
   gi_wp2
   go_end0
   exact⟨⟨_,rfl⟩,V,a9⟩
def RetB (e:Ending):Prop:=∃ b,e=.returned (.bool b)
theorem RetB.mk (b:ao):RetB (.returned (.bool b)):=⟨b,rfl⟩
def inSet (s set:M):Bool:=s.data.toList.all set.data.toList.contains
def nameBA : M:=⟨#[65,66,67,68,69,70,71,72,73,74,75,76,77,78,79,80,81,82,83,84,85,86,87,88,89,90,97,98,99,100,101,102,103,104,105,106,107,108,109,110,111,112,113,114,115,116,117,118,119,120,121,122,48,49,50,51,52,53,54,55,56,57,95,46,58,43,45,33]⟩
def isName (s:M):Bool:=!decide (s.toList=[])&&decide (s.size<=32)&&inSet s nameBA&&!decide (s.toList=[46])&&!decide (s.toList=[46,46])
theorem zCr (p:a1->ao)(l:ag a1)(k:C)(x:a1)(h:l[k]?=E x)(o:(l.take k).all p=ah)(u:p x=ah):(l.take (k+1)).all p=true:=by
 rw[bo,h,List.all_append,o];simp[u]
theorem zLF (p:a1->ao)(l:ag a1)(k:C)(x:a1)(h:l[k]?=E x)(o:p x=a0):l.all p=false:=by
 rw[List.all_eq_false];exact⟨x,ce h,by simp[o]⟩
theorem zAW {s:M}(h:isName s=ah):OkN s:=by
 unfold isName at h;simp only[Bool.and_eq_true,bu]at h;obtain⟨⟨⟨⟨_,u⟩,o⟩,_⟩,_⟩:=h;refine⟨u,λb v e=>?_⟩;unfold inSet at o;rw[List.all_eq_true]at o;have:=o b v;subst e;revert this;decide
def bits (f:a1->ao):Array Value:=Array.ofFn (n:=256) λi=>.bool (f (ct i.val))
def allB (f:a1->ao)(s:M):Bool:=s.data.toList.all f
theorem zAC (f:a1->ao):(bits f).size=256:=by simp[bits]
theorem zDT (g:a1->ao):(bits g).all (·.oneCell')=true:=by
 rw[Array.all_eq_true_iff_forall_mem];intro v h;obtain⟨i,rfl⟩:=(Array.mem_ofFn).1 h;rfl
theorem zK6 (f:a1->ao)(c:a1):(bits f)[c.toNat]?=E (.bool (f c)):=by
 have:c.toNat<256:=c.toNat_lt;rw[ba (by rw[zAC];exact this)];simp[bits]
theorem zMX (f:a1->ao)(c:a1):(bits f).setIfInBounds c.toNat (.bool ah)=bits (λx=>f x||x==c):=by
 have:c.toNat<256:=c.toNat_lt;apply Array.ext
 .simp[zAC]
 .intro i u o;rw[zAC]at o;rw[Array.getElem_setIfInBounds (by rw[zAC];exact o)];simp only[bits,Array.getElem_ofFn];by_cases e:c.toNat=i
  .subst e;simp
  .rw[if_neg e];have:(ct i==c)=false:=by
    rw[beq_eq_false_iff_ne];intro h;subst h;apply e;simp;omega
   rw[this,Bool.or_false]
theorem zH0 (f:a1->ao)(s:M)(w:r)(F:s.size<=af):
  ai ae 81 #[al (bits f),ab s] w λe w'=>e=.returned (.bool (allB f s))/\Fr No w w':=by
 have N:s.size<=9223372036854775807:=by unfold af at F;omega
 have z:Fr No w (w.alloc (K (bits f) 155)):=(ap _ _).alloc _;have I:=zF w (K (bits f) 155);have u:∀ c:a1,(w.alloc (K (bits f) 155)).cell? ⟨w,c.toNat,B⟩=E (.bool (f c)):=λc=>(zB I _).trans (zK6 f c)
 go_enter Tryz.func81,Tryz.ntmps81
 go_wp2;generalize w.alloc (K (bits f) 155)=W0 at *
 go_loop [8] (λi=>∃ k:C,k<=s.size/\i=aj ak k/\G ((s.data.toList.take k).all f=ah)) (λi=>s.size-(ar i).toNat)
 case atStart=>exact⟨0,by omega,rfl,by unfold G;simp⟩
 case round=>
  obtain⟨k,O,rfl,o⟩:=hrel;by_cases v:k<s.size
  .have h:s.data.toList[k]?=E s[k]:=by
    rw[bf];exact ba (by simpa using v)
   have A:=zh h;have J:((s[k].toNat:C):P)<256:=by have:=s[k].toNat_lt;omega
   have D:=u s[k];rcases hq:f s[k]with _|_
   .rw[hq]at D;have y:=zh hq;clear hq h u;go_wp2;go_ret;exact⟨zN (zLF _ _ _ _ A.out y.out).symm,z⟩
   .rw[hq]at D;have y:=zh hq;clear hq h u;go_wp2
    go_round
    case rel=>exact⟨k+1,by omega,by go_num,zCr _ _ _ _ A.out o.out y.out⟩
    case measure=>simp[ar];omega
  .go_wp2;go_ret;refine⟨zN ?_,z⟩;have:=o.out;rw[ay (by simp;omega)]at this;unfold allB;rw[this]
theorem zBE (f:a1->ao)(s:M)(w:r)(Y:s.size<=af):
  ai ae 80 #[al (bits f),ab s] w λe w'=>e=.returned (al (bits λc=>f c||s.data.toList.contains c))/\Fr No w w':=by
 have hm:s.size<=9223372036854775807:=by unfold af at Y;omega
 have O:Fr No w (w.alloc (K (bits f) 155)):=(ap _ _).alloc _;have F:=zF w (K (bits f) 155);have I:(Tryz.prog.info? 155).map (·.size)=E 256:=by kernel_rfl
 have Z:Tryz.zeroCells155.size=256:=by kernel_rfl
 have R:=zO w (K (bits f) 155) (K au 155);have U:=zR w (K (bits f) 155) (K au 155);have V:Fr No w ((w.alloc (K (bits f) 155)).alloc (K au 155)):=O.alloc _;clear O F
 go_enter Tryz.func80,Tryz.ntmps80
 go_wp2;generalize (w.alloc (K (bits f) 155)).alloc (K au 155)=W0 at *
 go_loopw [8] (λi wr=>∃ k:C,k<=s.size/\i=aj ak k/\G (wr.heap[(w:C)]?=E (K (bits λc=>f c||(s.data.toList.take k).contains c) 155))/\G (wr.heap[(w:C)+1]?=E (K au 155))/\Fr No w wr) (λi _=>s.size-(ar i).toNat)
 case atStart=>exact⟨0,by omega,rfl,by unfold G;simpa using R,U,V⟩
 case round=>
  obtain⟨k,hk,rfl,o,y,A⟩:=hrel;clear R U V;by_cases J:k<s.size
  .have D:s.data.toList[k]?=E s[k]:=by
    rw[bf];exact ba (by simpa using J)
   have Hx:=zh D;have a2:((s[k].toNat:C):P)<256:=by have:=s[k].toNat_lt;omega
   have c0:=(zB o.out s[k].toNat).trans (zK6 _ _);have f0:=zD o.out s[k].toNat;have u:Fr No w (wr.setCell ⟨w,s[k].toNat,B⟩ (.bool ah)):=A.setCell (by simp) _;have z:=zE o.out s[k].toNat (.bool ah);rw[zMX]at z;have X:=(Fr.setAt (ap (Is (w:C)) wr) (i:=s[k].toNat) (.bool ah)).heap y.out (λe=>by omega);have Q:=zg3 z X u;clear z X u D;go_wp2
   go_roundw
   case rel=>
    refine⟨k+1,by omega,by go_num,?_,Q.out.2.1,Q.out.2.2⟩;unfold G;rw[Q.out.1,bo,Hx.out]
    congr 3
    funext c
    have e:(c==s[k])=decide (c=s[k]):=by by_cases h:c=s[k]<;>simp[h]
    simp[Bool.or_assoc,e]
   case measure=>simp[ar];omega
  .obtain rfl:k=s.size:=by omega
   have z:=o.out;rw[ay (by simp)]at z;have N:=zh z;clear o z
   go_wp2_with (first
    | (refine wpList_load_row rfl 155 _ rfl (w:C) rfl 155 _ (0,0) _ N.out bt rfl (by rw[zAC];exact I) ?_)
    | (refine cw rfl 155 _ _ rfl ((w:C)+1) _ rfl rfl 155 _ y.out (by rw[zAC];exact I) (by rw[zAC];exact Z) (zDT _) ?_))
   have hg:=setRow_heap wr ((w:C)+1) _ (bits λc=>f c||s.data.toList.contains c) 155 (0,0) y.out;refine be (v:=al (bits λc=>f c||s.data.toList.contains c)) (cu rfl _ _ ((w:C)+1) 155 _ (0,0) _ rfl hg bt rfl (by rw[zAC];exact I)) rfl ?_;refine⟨rfl,A.step (T:=Is ((w:C)+1)) ⟨rfl,rfl,rfl,by simp,λb _ F=>setRow_other _ _ _ _ (λe=>F e)⟩ (λb F e=>by omega)⟩
def zAx : a1->Bool:=λc=>((((a0||[65,66,67,68,69,70,71,72,73,74,75,76,77,78,79,80,81,82,83,84,85,86,87,88,89,90].contains c)||[97,98,99,100,101,102,103,104,105,106,107,108,109,110,111,112,113,114,115,116,117,118,119,120,121,122].contains c)||[48,49,50,51,52,53,54,55,56,57].contains c)||[95,46,58,43,45].contains c)
theorem zJP: au=bits (λ_=>a0):=by kernel_rfl
theorem zI1 (s:M)(w:r)(h:s.size<=af):
  ai ae 80 #[al au,ab s] w λe w'=>e=.returned (al (bits λc=>a0||s.data.toList.contains c))/\Fr No w w':=by
 rw[zJP];exact zBE _ s w h
def zJX : M:=⟨#[65,66,67,68,69,70,71,72,73,74,75,76,77,78,79,80,81,82,83,84,85,86,87,88,89,90]⟩
theorem zHB (w:r):
  ai ae 135 #[ab ⟨#[65,66,67,68,69,70,71,72,73,74,75,76,77,78,79,80,81,82,83,84,85,86,87,88,89,90]⟩] w λe w'=>e=.returned (ab ⟨#[97,98,99,100,101,102,103,104,105,106,107,108,109,110,111,112,113,114,115,116,117,118,119,120,121,122]⟩)/\Fr No w w':=by
 have h:∀ b∈zJX.data.toList,b.toNat<128:=by decide
 refine(Tryz.strings_ToLower_ascii zJX w (by decide) (λj b o=>h b (ce o))).mono ?_;rintro e w' ⟨rfl,o⟩;exact⟨by congr 2,bz o⟩
theorem zDv (w:r):
  ai ae 79 #[] w λe w'=>e=.returned (al (bits zAx))/\Fr No w w':=by
 have D:(Tryz.prog.info? 155).map (·.size)=E 256:=by kernel_rfl
 have U:Tryz.zeroCells155.size=256:=by kernel_rfl
 have I:Fr No w (w.alloc (K au 155)):=(ap _ _).alloc _;have J:=zF w (K au 155);have N:=zg2 J I;clear J I
 go_enter Tryz.func79,Tryz.ntmps79
 go_wp2_with fail
 refine(zI1 _ _ (by decide)).mono ?_;rintro e Y ⟨rfl,h⟩
 go_wp2_with fail
 refine(zHB _).mono ?_;rintro e Z ⟨rfl,o⟩
 go_wp2_with fail
 refine(zBE _ _ _ (by decide)).mono ?_;rintro e w3 ⟨rfl,u⟩
 go_wp2_with fail
 refine(zBE _ _ _ (by decide)).mono ?_;rintro e w4 ⟨rfl,y⟩
 go_wp2_with fail
 refine(zBE _ _ _ (by decide)).mono ?_;rintro e V ⟨rfl,z⟩;have A:=((((N.out.2.step h zi).step o zi).step u zi).step y zi).step z zi;have O:=z.heap (y.heap (u.heap (o.heap (h.heap N.out.1 id) id) id) id) id;obtain⟨F,hF⟩:∃ F,F=zAx:=⟨_,rfl⟩
 go_wp2_with (refine cw rfl 155 _ _ rfl (w:C) (bits zAx) rfl rfl 155 _ O (by rw[zAC];exact D) (by rw[zAC];exact U) (zDT _) ?_)
 have X:=setRow_heap V (w:C) _ (bits zAx) 155 (0,0) O;refine be (v:=al (bits zAx)) (cu rfl _ _ (w:C) 155 _ (0,0) _ rfl X bt rfl (by rw[zAC];exact D)) rfl ?_;exact⟨rfl,A.step (T:=Is (w:C)) ⟨rfl,rfl,rfl,by simp,λb _ R=>setRow_other _ _ _ _ (λe=>R e)⟩ (λb R e=>by omega)⟩
theorem zGJ (s:M)(w:r):
  ai ae 78 #[ab s] w λe w'=>e=.returned (.bool (decide (s.toList=[46])||decide (s.toList=[46,46])))/\w=w':=by
 by_cases h:s.toList=[46]
 .have H:G ((decide (s.toList=[46])||decide (s.toList=[46,46]))=ah):=by unfold G;simp[h]
  go_enter bq,bs
  go_wp2_with fail
  all_goals (go_ret;exact⟨zN H.out.symm,rfl⟩)
 .by_cases o:s.toList=[46,46]
  .have H:G ((decide (s.toList=[46])||decide (s.toList=[46,46]))=ah):=by unfold G;simp[o]
   go_enter bq,bs
   go_wp2_with fail
   all_goals (go_ret;exact⟨zN H.out.symm,rfl⟩)
  .have H:G ((decide (s.toList=[46])||decide (s.toList=[46,46]))=a0):=by unfold G;simp[h,o]
   have u:(s.toList==[46])=false:=by simp[h]
   have v:(s.toList==[46,46])=false:=by simp[o]
   clear h o
   go_enter bq,bs
   go_wp2_with fail
   all_goals (go_ret;exact⟨zN H.out.symm,rfl⟩)
theorem zHN (s:M):s.data.toList.all (λc=>zAx c||[33].contains c)=inSet s nameBA:=by
 unfold inSet
 congr 1
 funext c
 have:nameBA.data.toList=(((([65,66,67,68,69,70,71,72,73,74,75,76,77,78,79,80,81,82,83,84,85,86,87,88,89,90]++[97,98,99,100,101,102,103,104,105,106,107,108,109,110,111,112,113,114,115,116,117,118,119,120,121,122])++[48,49,50,51,52,53,54,55,56,57])++[95,46,58,43,45])++[33]):=rfl;rw[this];unfold zAx;simp only[List.contains_eq_mem,List.mem_append,Bool.false_or,Bool.decide_or]
theorem zAN (s:M)(w:r)(D:s.size<=af):
  ai ae 39 #[ab s] w λe w'=>e=.returned (.bool (isName s))/\Fr No w w':=by
 have R:s.size<=9223372036854775807:=by unfold af at D;omega
 by_cases u:s.toList=[]
 .have H:G (isName s=a0):=by unfold G isName;simp[u]
  go_enter bp,br
  go_wp2_with fail
  all_goals (go_ret;exact⟨zN H.out.symm,ap _ _⟩)
 .by_cases F:s.size<=32
  .go_enter bp,br
   go_wp2_with fail
   refine(zGJ s _).mono ?_;rintro e U ⟨rfl,rfl⟩;rcases hd:(decide (s.toList=[46])||decide (s.toList=[46,46]))with _|_
   .have o:s.toList≠[46]/\s.toList≠[46,46]:=by simpa using hd
    have H:G (isName s=inSet s nameBA):=by unfold G isName;simp[u,F,o.1,o.2]
    clear hd o
    go_wp2_with fail
    refine(zDv _).mono ?_;rintro e V ⟨rfl,v⟩
    go_wp2_with fail
    refine(zBE zAx _ _ (by decide)).mono ?_;rintro e X ⟨rfl,y⟩
    go_wp2_with fail
    refine(zH0 _ s _ D).mono ?_;rintro e Y ⟨rfl,z⟩;have A:=(v.step y zi).step z zi;have I:allB (λc=>zAx c||decide (c=33)) s=isName s:=by
     rw[H.out,<-zHN];unfold allB
     congr 1
     funext c
     simp
    have Z:s.toList.isEmpty=false:=by simp[u]
    clear u;have J:=zh I;clear I H;generalize N:allB _ s=q;have O:G (q=isName s):=N.symm.trans J.out;clear N J;cases q
    all_goals
     go_wp2_with fail
     all_goals (go_ret;exact⟨zN O.out,A⟩)
   .have H:G (isName s=a0):=by
     unfold G isName;rw[Bool.or_eq_true,bu,bu]at hd;rcases hd with h|h<;>simp[h]
    clear hd
    go_wp2_with fail
    all_goals (go_ret;exact⟨zN H.out.symm,ap _ _⟩)
  .have H:G (isName s=a0):=by unfold G isName;simp[F]
   go_enter bp,br
   go_wp2_with fail
   all_goals (go_ret;exact⟨zN H.out.symm,ap _ _⟩)
structure Atts (w:r)(a:av Addr)(cap:C)(l:ag (M×M)):Prop where
 len:l.length<=cap
 max:cap<=af
 isNil:a=B->l=[]/\cap=0
 wf:∀ x∈l,x.1.size<=af/\x.2.size<=af
 cell:∀ ad,a=E ad->l≠[]->ad.spot=B/\ad.block<(w:C)/\∀ i x,l[i]?=E x->w.cell? ⟨ad.block,ad.off+i*2,B⟩=E (ab x.1)/\w.cell? ⟨ad.block,ad.off+i*2+1,B⟩=E (ab x.2)
theorem Atts.at (h:Atts w a v l)(u:k<l.length):
  ∃ b o x y,a=E ⟨b,o,B⟩/\l[k]?=E (x,y)/\x.size<=af/\y.size<=af/\w.cell? ⟨b,o+k*2,B⟩=E (ab x)/\w.cell? ⟨b,o+k*2+1,B⟩=E (ab y):=by
 cases a with
 | none=>obtain⟨rfl,_⟩:=h.isNil rfl;simp at u
 | some F=>
  obtain⟨b,o,J⟩:=F;obtain⟨z,N,I⟩:=h.cell _ rfl (by intro e;subst e;simp at u);simp at z;subst z;have A:=I k _ (cd u);have D:=h.wf l[k] (List.getElem_mem u);exact⟨b,o,l[k].1,l[k].2,rfl,cd u,D.1,D.2,A.1,A.2⟩
theorem Atts.lenmax (h:Atts w a o l):l.length<=9223372036854775807:=by
 have v:=h.len;have u:=h.max;unfold af at u;omega
theorem Atts.fr (h:Atts w a v l)(y:Fr S w w')(z:∀ u,a=E u->l≠[]->¬ S u.block):Atts w' a v l:=
 ⟨h.len,h.max,h.isNil,h.wf,λu e o=>by
  obtain⟨F,I,A⟩:=h.cell u e o;exact⟨F,Nat.lt_of_lt_of_le I y.size,λi x D=>⟨y.cell (A i x D).1 (z u e o),y.cell (A i x D).2 (z u e o)⟩⟩⟩
theorem Atts.no (h:Atts w a o l)(u:Fr S w w')(v:∀ k,¬ S k):Atts w' a o l:=h.fr u (λ_ _ _=>v _)
theorem Atts.nil (w:r):Atts w B 0 []:=⟨by simp,by simp,λ_=>⟨rfl,rfl⟩,by simp,λ_ e _=>by cases e⟩
theorem zDD (u o:ag a1):∀ (k:C) (s:ag a1),(bh u o k s).length<=s.length+k*o.length
 | 0,s=>by simp[bh]
 | k+1,s=>by
  unfold bh;split
  .omega
  .have h:=zDD u o k (s.drop ((Lib.index s u).toNat+u.length));simp only[List.length_append,List.length_take,List.length_drop]at h ⊢;have e:(k+1)*o.length=k*o.length+o.length:=Nat.succ_mul _ _;omega
theorem zET (s o u:ag a1):(bd s o u).length<=s.length+(s.length+1)*u.length:=by
 unfold bd Lib.replace;split
 .omega
 .have h:=zDD o u (bi s o (-1)) s;have v:bi s o (-1)<=s.length+1:=by
   unfold bi;rw[if_pos (.inl (by omega))];exact Lib.count_le s o
  have y:=Nat.mul_le_mul_right u.length v;omega
structure Sized (d:Dev):Prop where
 name:d.name.size<=af
 orig:d.orig.size<=af
 sub:d.sub.size<=af
 drv:d.drv.size<=af
 ali:d.ali.size<=af
theorem strEq (x y:M):(x.toList==y.toList)=decide (x=y):=by
 rw[ByteArray.toList_eq,ByteArray.toList_eq,Bool.eq_iff_iff,decide_eq_true_iff];constructor
 .intro h;cases x;cases y;have:=eq_of_beq h;simp only at this
  congr 1
  exact Array.toList_inj.1 this
 .rintro rfl;simp
theorem zAO : ∀ (a b:ag a1),ax a b=0->a=b
 | [],[],_=>rfl
 | [],_::_,h=>by simp[ax]at h
 | _::_,[],h=>by simp[ax]at h
 | a::s,b::t,h=>by
  unfold ax at h;split at h
  .simp at h
  .rename_i o;split at h
   .simp at h
   .rename_i u;have:a=b:=by
     have v:=UInt8.not_lt.1 o;have y:=UInt8.not_lt.1 u;exact UInt8.le_antisymm y v
    rw[this,zAO s t h]
def cmpN : ag M->ag M->P
 | [],[]=>0
 | [],_::_=>-1
 | _::_,[]=>1
 | a::s,b::t=>if a=b then cmpN s t else ax a.data.toList b.data.toList
theorem zGg : ∀ (a b:ag M),cmpN a b=0->a=b
 | [],[],_=>rfl
 | [],_::_,h=>by simp[cmpN]at h
 | _::_,[],h=>by simp[cmpN]at h
 | a::s,b::t,h=>by
  unfold cmpN at h;split at h
  .rename_i e;rw[e,zGg s t h]
  .rename_i e;exfalso;apply e;have o:=zAO _ _ h;cases a;cases b;simp only at o
   congr 1
   exact Array.toList_inj.1 o
theorem zIU : ∀ (p a b:ag M),cmpN (p++a) (p++b)=cmpN a b
 | [],_,_=>rfl
 | x::p,a,b=>by
  show cmpN (x::(p++a)) (x::(p++b))=_
  rw[cmpN,if_pos rfl];exact zIU p a b
theorem zKv {a b:ag M}(h:a.take k=b.take k):cmpN a b=cmpN (a.drop k) (b.drop k):=by
 have o:=zIU (a.take k) (a.drop k) (b.drop k);rw[ch,h,ch]at o;exact o
structure DevB (W:r)(b:C)(d:Dev):Prop where
 c0:W.cell? ⟨b,0,B⟩=E (aj ak d.index)
 c1:W.cell? ⟨b,1,B⟩=E (aj ak d.parent)
 c2:W.cell? ⟨b,2,B⟩=E (ab d.name)
 c3:W.cell? ⟨b,3,B⟩=E (ab d.orig)
 c4:W.cell? ⟨b,4,B⟩=E (ab d.sub)
 c5:W.cell? ⟨b,5,B⟩=E (ab d.drv)
 c6:W.cell? ⟨b,6,B⟩=E (ab d.ali)
 c7:W.cell? ⟨b,7,B⟩=E (aj ak d.kind)
 c8:W.cell? ⟨b,8,B⟩=E (aj ak d.num)
 c9:W.cell? ⟨b,9,B⟩=E (am d.aa d.an d.ac)
theorem DevB.of {b:C}{d:Dev}{o:C×C}(h:W.heap[b]?=E (K d.vals T o)):DevB W b d:=
 ⟨zB h 0,zB h 1,zB h 2,zB h 3,zB h 4,zB h 5,zB h 6,zB h 7,zB h 8,zB h 9⟩
structure DevF (W:r)(b:C):Prop where
 f0:W.frozen? ⟨b,0,B⟩=a0
 f1:W.frozen? ⟨b,1,B⟩=a0
 f2:W.frozen? ⟨b,2,B⟩=a0
 f3:W.frozen? ⟨b,3,B⟩=a0
 f4:W.frozen? ⟨b,4,B⟩=a0
 f5:W.frozen? ⟨b,5,B⟩=a0
 f6:W.frozen? ⟨b,6,B⟩=a0
 f7:W.frozen? ⟨b,7,B⟩=a0
 f8:W.frozen? ⟨b,8,B⟩=a0
 f9:W.frozen? ⟨b,9,B⟩=a0
theorem DevF.of {b:C}{cs:Array Value}(h:W.heap[b]?=E (K cs T)):DevF W b:=
 ⟨zD h 0,zD h 1,zD h 2,zD h 3,zD h 4,zD h 5,zD h 6,zD h 7,zD h 8,zD h 9⟩
theorem zFh (x h u:P)(w:r):
  ai ae 137 #[aj ak x,aj ak h,aj ak u] w λe w'=>e=.returned (.bool (decide (h<=x)&&decide (x<=u)))/\w=w':=by
 by_cases v:h<=x
 .have o:=zh v
  go_enter cn,cp
  go_wp2_with fail
  all_goals (go_ret;exact⟨zN (by rw[decide_eq_true o.out];rfl),rfl⟩)
 .have o:=zh v
  go_enter cn,cp
  go_wp2_with fail
  all_goals (go_ret;exact⟨zN (by rw[decide_eq_false (by have:=o.out;omega)];rfl),rfl⟩)
def numK (k:P):Bool:=k==2||k==3
theorem zEy (k:P)(w:r):
  ai ae 185 #[aj ak k] w λe w'=>e=.returned (.bool (numK k))/\w=w':=by
 rcases h1:(k==2)with _|_
 .have H:G (numK k=(k==3)):=by unfold G numK;rw[h1];rfl
  go_enter co,cq
  go_wp2_with fail
  all_goals (go_ret;exact⟨zN H.out.symm,rfl⟩)
 .have H:G (numK k=ah):=by unfold G numK;rw[h1];rfl
  go_enter co,cq
  go_wp2_with fail
  all_goals (go_ret;exact⟨zN H.out.symm,rfl⟩)
def nodeOf (s:M):M:=⟨(bd s.data.toList [33] [47]).toArray⟩
theorem zDx (s:M)(u:s.size<=1000000):(nodeOf s).size<=3000000:=by
 have h:=zET s.data.toList [33] [47];have o:s.data.toList.length=s.size:=Array.length_toList;rw[o]at h;simp only[bj,bm]at h;show (Array.size (List.toArray _))<=_
 rw[bn];omega
def nodeR (d:Dev):M:=if numK d.kind=ah then nodeOf d.orig else ⟨#[]⟩
theorem zEo (d:Dev)(h:d.orig.size<=1000000):(nodeR d).size<=3000000:=by
 unfold nodeR;split
 .exact zDx _ h
 .show (0:C)<=_;omega
theorem zKp (d:Dev)(m:P)(w:r)(R:d.orig.size<=1000000)(J:w.cell? ⟨0,0,B⟩=E (aj ak m))(U:0<(w:C)):
  ai ae 142 #[al d.vals] w λe w'=>e=.returned (.tuple #[ab (nodeR d),.bool (numK d.kind)])/\Fr No w w':=by
 have A:Fr No w (w.alloc (K d.vals 36)):=(ap _ _).alloc _;have D:=A.cell J id;have o:=Lib.countB_le ⟨#[33]⟩ (by decide) _ d.orig (az _);have h:d.orig.size+Lib.countB d.orig ⟨#[33]⟩*(⟨#[47]⟩:M).size<=140737488355328:=by
  show d.orig.size+Lib.countB d.orig ⟨#[33]⟩*1<=_
  omega
 have u:=zh h;clear o h;obtain⟨rs,y⟩:∃ rs,rs=nodeR d:=⟨_,rfl⟩
 rw[<-y];have z:G (rs=if numK d.kind=ah then nodeOf d.orig else ⟨#[]⟩):=y;clear y;unfold aq at *
 go_enter Tryz.func142,Tryz.ntmps142
 go_wp2_with fail
 refine(zEy _ _).mono ?_;rintro e N ⟨rfl,rfl⟩;rcases hk:numK d.kind with _|_
 .have F:G (rs=⟨#[]⟩):=by unfold G;rw[z.out,hk];rfl
  have I:=zh hk;clear hk
  go_wp2_with fail
  refine be (v:=.tuple #[ab ⟨#[]⟩,.bool a0]) (by simp[results,cr,go_sem]) rfl ?_;exact⟨by rw[F.out,I.out],A⟩
 .have F:G (rs=nodeOf d.orig):=by unfold G;rw[z.out,hk];rfl
  have I:=zh hk;clear hk
  go_wp2_with fail
  refine(Tryz.strings_ReplaceAll d.orig ⟨#[33]⟩ ⟨#[47]⟩ m _ (by omega) D (by decide) u.out).mono ?_;rintro e N ⟨rfl,O⟩
  go_wp2_with fail
  refine be (v:=.tuple #[ab ⟨(bd d.orig.data.toList [33] [47]).toArray⟩,.bool ah]) (by simp[results,cr,go_sem]) rfl ?_;exact⟨by rw[F.out,I.out];rfl,A.step (bz O) zi⟩
def textF : a1->Bool:=λc=>!(decide ((c.toNat:P)<32))&&!(decide (126<(c.toNat:P)))
def zA8 (s:M):Bool:=s.data.toList.all textF&&decide (s.size<=256)
theorem zGI (s:M)(w:r)(R:s.size<=af):
  ai ae 133 #[ab s] w λe w'=>e=.returned (.bool (zA8 s))/\w=w':=by
 have V:s.size<=9223372036854775807:=by unfold af at R;omega
 go_enter Tryz.func133,Tryz.ntmps133
 go_wp2
 go_loop [6] (λi=>∃ k:C,k<=s.size/\i=aj ak k/\G ((s.data.toList.take k).all textF=ah)) (λi=>s.size-(ar i).toNat)
 case atStart=>exact⟨0,by omega,rfl,by unfold G;simp⟩
 case round=>
  obtain⟨k,X,rfl,z⟩:=hrel;by_cases F:k<s.size
  .have A:s.data.toList[k]?=E s[k]:=by
    rw[bf];exact ba (by simpa using F)
   have I:=zh A;clear A;obtain⟨o,u⟩:∃ o,o=s[k]:=⟨_,rfl⟩
   have H:G (textF o=(!(decide ((o.toNat:P)<32))&&!(decide (126<(o.toNat:P))))):=by unfold G;rfl
   have J:=zh u;by_cases v:((o.toNat:C):P)<32
   .have N:((s[k].toNat:C):P)<32:=by rw[<-u];exact v
    have D:G (textF o=a0):=by unfold G;rw[H.out];simp only[v,decide_true,bx,Bool.false_and]
    clear u v;go_wp2;go_ret;exact⟨zN (by unfold zA8;rw[zLF _ _ _ _ I.out (by rw[<-J.out];exact D.out)];rfl),rfl⟩
   .have N:¬ ((s[k].toNat:C):P)<32:=by rw[<-u];exact v
    by_cases y:126<((o.toNat:C):P)
    .have O:126<((s[k].toNat:C):P):=by rw[<-u];exact y
     have D:G (textF o=a0):=by unfold G;rw[H.out];simp only[y,decide_true,bx,bg]
     clear u v y;go_wp2;go_ret;exact⟨zN (by unfold zA8;rw[zLF _ _ _ _ I.out (by rw[<-J.out];exact D.out)];rfl),rfl⟩
    .have O:¬ 126<((s[k].toNat:C):P):=by rw[<-u];exact y
     have D:G (textF o=ah):=by unfold G;rw[H.out];simp only[v,y,decide_false,Bool.not_false,Bool.and_self]
     clear u v y;go_wp2
     go_round
     case rel=>exact⟨k+1,by omega,by go_num,zCr _ _ _ _ I.out z.out (by rw[<-J.out];exact D.out)⟩
     case measure=>simp[ar];omega
  .have h:=z.out;rw[ay (by simp;omega)]at h;have U:=zh h;clear h;go_wp2;go_ret;exact⟨zN (by unfold zA8;rw[U.out];simp;omega),rfl⟩
def benB (s t:M):Bool:=ca t.data.toList (s++⟨#[47]⟩).data.toList
theorem zGK (s u:M)(w:r)(o:s.size<=3000000)(v:u.size<=3000000):
  ai ae 195 #[ab s,ab u] w λe w'=>e=.returned (.bool (benB s u))/\w=w':=by
 have h:G (benB s u=ca u.data.toList (s++⟨#[47]⟩).data.toList):=rfl
 go_enter Tryz.func195,Tryz.ntmps195
 go_wp2_with fail
 refine(Tryz.strings_HasPrefix u _ _).mono ?_;rintro e y ⟨rfl,rfl⟩
 go_wp2_with fail
 go_ret;exact⟨zN h.out.symm,rfl⟩
def namedB (d:Dev):Bool:=isName d.name&&isName d.orig&&isName d.sub&&zA8 d.ali
theorem zN6 (d:Dev)(w:r)(hs:Sized d)(hd:d.drv=⟨#[]⟩):
  ai ae 138 #[al d.vals] w λe w'=>e=.returned (.bool (namedB d))/\Fr No w w':=by
 obtain⟨ix,pa,nm,u,v,dr,y,kd,nu,aa,an,ac⟩:=d;dsimp only at hd;subst hd;obtain⟨s1,s2,s3,-,s5⟩:=hs;have hx:Fr No w (w.alloc (K (aq ⟨ix,pa,nm,u,v,⟨#[]⟩,y,kd,nu,aa,an,ac⟩) 36)):=(ap _ _).alloc _;have q0:=zF w (K (aq ⟨ix,pa,nm,u,v,⟨#[]⟩,y,kd,nu,aa,an,ac⟩) 36);obtain⟨W0,h⟩:∃ W0,W0=w.alloc (K (aq ⟨ix,pa,nm,u,v,⟨#[]⟩,y,kd,nu,aa,an,ac⟩) 36):=⟨_,rfl⟩
 rw[<-h]at hx q0;unfold aq at h ⊢;dsimp only at h;obtain⟨z,A⟩:∃ z,z=namedB ⟨ix,pa,nm,u,v,⟨#[]⟩,y,kd,nu,aa,an,ac⟩:=⟨_,rfl⟩
 rw[<-A];have o:G (z=(isName nm&&isName u&&isName v&&zA8 y)):=A;clear A;obtain⟨F,c1,I,J,N,O,R,U,V,X⟩:=DevB.of q0
 go_enter Tryz.func138,Tryz.ntmps138
 go_upto_region 1 with(fail)
 rw[<-h];clear h
 go_wp2_with fail
 refine(zAN nm _ s1).mono ?_;rintro e w1 ⟨rfl,Y⟩;have q1:=Y.heap q0 id;have Z:=hx.step Y zi;clear F c1 I J N O R U V X q0;obtain⟨F,c1,I,J,N,O,R,U,V,X⟩:=DevB.of q1;rcases hb1:isName nm with _|_
 .have D:G (z=a0):=by unfold G;rw[o.out,hb1];rfl
  clear hb1
  go_wp2_with fail
  go_ret;exact⟨zN D.out.symm,Z⟩
 have H1:=zh hb1;clear hb1
 go_wp2_with fail
 refine(zAN u _ s2).mono ?_;rintro e w2 ⟨rfl,a2⟩;have q2:=a2.heap q1 id;have a3:=Z.step a2 zi;clear F c1 I J N O R U V X q1;obtain⟨F,c1,I,J,N,O,R,U,V,X⟩:=DevB.of q2;rcases hb1:isName u with _|_
 .have D:G (z=a0):=by unfold G;rw[o.out,hb1,bg];rfl
  clear hb1
  go_wp2_with fail
  go_ret;exact⟨zN D.out.symm,a3⟩
 have H2:=zh hb1;clear hb1
 go_wp2_with fail
 refine(zAN v _ s3).mono ?_;rintro e w3 ⟨rfl,a4⟩;have q3:=a4.heap q2 id;have a5:=a3.step a4 zi;clear F c1 I J N O R U V X q2;obtain⟨F,c1,I,J,N,O,R,U,V,X⟩:=DevB.of q3;rcases hb1:isName v with _|_
 .have D:G (z=a0):=by unfold G;rw[o.out,hb1,bg];rfl
  clear hb1
  go_wp2_with fail
  go_ret;exact⟨zN D.out.symm,a5⟩
 have H3:=zh hb1;clear hb1
 go_wp2_with fail
 refine(zGI y _ s5).mono ?_;rintro e w4 ⟨rfl,rfl⟩;have D:G (z=zA8 y):=by unfold G;rw[o.out,H1.out,H2.out,H3.out];rfl
 go_wp2_with fail
 go_ret;exact⟨zN D.out.symm,a5⟩
theorem zN7 (d:Dev)(w:r)(h:d.kind=2):
  ai ae 139 #[al d.vals] w λe w'=>e=.returned (.bool (d.name.toList==d.orig.toList))/\Fr No w w':=by
 obtain⟨ix,u,nm,v,y,z,A,N,D,F,I,J⟩:=d;dsimp only at h;subst h;have o:Fr No w (w.alloc (K (aq ⟨ix,u,nm,v,y,z,A,2,D,F,I,J⟩) 36)):=(ap _ _).alloc _;unfold aq at *;dsimp only at o ⊢
 go_enter Tryz.func139,Tryz.ntmps139
 go_wp2_with fail
 go_ret;exact⟨rfl,o⟩
theorem zKo (d:Dev)(w:r)(h:d.kind=2):
  ai ae 140 #[al d.vals] w λe w'=>e=.returned (.bool (decide (1<=d.num)&&decide (d.num<=1073741824)))/\Fr No w w':=by
 obtain⟨ix,u,nm,v,y,z,A,O,D,F,I,J⟩:=d;dsimp only at h;subst h;have o:Fr No w (w.alloc (K (aq ⟨ix,u,nm,v,y,z,A,2,D,F,I,J⟩) 36)):=(ap _ _).alloc _;unfold aq at *;dsimp only at o ⊢;have H:G (numK 2=ah):=rfl
 go_enter Tryz.func140,Tryz.ntmps140
 go_wp2_with fail
 refine(zEy _ _).mono ?_;rintro e N ⟨rfl,rfl⟩;rw[H.out]
 go_wp2_with fail
 refine(zFh _ _ _ _).mono ?_;rintro e N ⟨rfl,rfl⟩
 go_wp2_with fail
 go_ret;exact⟨rfl,o⟩
end Go.Proofs.YtckkocmhlhefpaaGreatDoor
