import Derived.Test.YtckkocmhlhefpaaGreatDoorQ39
import Derived.Test.YtckkocmhlhefpaaGreatDoorRows
import Derived.Shelf.Vars
import Derived.Stop.LaidErr
import Derived.MakeChecks
import Derived.Lib.LaidTab
import Derived.OpenShut
import Derived.LaidMore
import Derived.Lay
import Derived.HandedShaped
import Derived.Handed
namespace Go.Proofs.YtckkocmhlhefpaaGreatDoor
open Go.RowKit Go.Maps Go.ChangeShapes Go.WideShapes Go
set_option linter.unusedVariables false
set_option maxRecDepth 100000
set_option maxHeartbeats 8000000
open AttOf renaming fr->bh
open Atts renaming nil->bi
open EvF renaming tape->bj
open Fr renaming size->bc,refl->bf
open Go renaming World->al,Addr->ar
open Go.IntKind renaming i64->ai
open Go.Obj renaming cells->ay
open Go.OpenSpec renaming ofChange->br
open Go.Proofs.Tryz renaming prog->ba,underlying249->bz,underlying397->c2,underlying399->c3,underlying9->c4
open Go.RowKit renaming Hid->B
open Go.Value renaming slice->ap,int->ax,string->bd
open Go.World renaming var?_cell->c8
open Rec renaming vals->bg,zero->bs
open Recs renaming of_own->bx
open Strs renaming nil->az
open _root_ renaming Nat->Q,ByteArray->ae,List->af,Int->ag,congrArg->aj,if_pos->ak,Option->aq,if_neg->aw,absurd->bb,of_decide_eq_true->c9
open _root_.Bool renaming true->am,false->ao
open _root_.ByteArray renaming empty->be
open _root_.List renaming mem_of_getElem?->au,filterMap_cons->bm,length->bn,length_map->bo,map_cons->bp,map_nil->bq,append_nil->bu,filter_cons_of_neg->bv,range_succ_eq_map->bw
open _root_.Option renaming none->ab,some->ah
variable{L:af Mem}{u h d:Dev}{o:af ae}{C A:af Src}{p:ae}{rd k r:ag}{tx:Dev->ae}{ds:af Dev}{M:af Vir}{s:Src}{W:al}
def sxT : ae:=⟨#[116,97,98,108,101,58,116,40,114,97,105,100,58,114,58,49,47,49,47,49,40,102,115,58,120,58,41,41]⟩
def sxR : ae:=⟨#[114,97,105,100,58,114,58,49,47,49,47,49,40,102,115,58,120,58,41]⟩
def sxX : ae:=⟨#[102,115,58,120,58]⟩
def sxA : ae:=⟨#[115,100,97]⟩
def sxB : ae:=⟨#[115,100,97,112,49]⟩
def sxPA : ae:=⟨#[47,115,100,97]⟩
def sxPB : ae:=⟨#[47,115,100,97,47,115,100,97,112,49]⟩
def sxI : ae:=⟨#[114]⟩
def sxM : ae:=⟨#[109,100,45,114]⟩
def sxCR : Ct:=.mk 2 sxI ⟨#[]⟩ 1 1 1 [.mk 1 ⟨#[120]⟩ ⟨#[]⟩ 0 0 0 []]
def sxCT : Ct:=.mk 5 ⟨#[116]⟩ ⟨#[]⟩ 0 0 0 [sxCR]
theorem zMm: Lib.itoa 1=[49]:=by kernel_rfl
theorem sxPR: parseC sxR=ah sxCR:=(zBC _ _).2 ⟨by decide,by decide,by rw[sxCR,zIm];simp[zJb,commas,sxR,sxI,zMm];rfl⟩
theorem sxPT: parseC sxT=ah sxCT:=(zBC _ _).2 ⟨by decide,by decide,by rw[sxCT,zJa];simp[sxCR,zIm,zJb,commas,sxT,sxI,zMm];rfl⟩
theorem sx_x: sxCR.inner.map Ct.txt=[sxX]:=by simp[sxCR,Ct.inner,txt1,sxX];rfl
theorem zO7: sxCR.txt=sxR:=zDG (by rw[zB7];exact((zBC _ _).1 sxPR).2.2)
theorem sx_r: sxCT.inner.map Ct.txt=[sxR]:=by simp[sxCT,Ct.inner,zO7]
def sxV (r:ag):Vir:=⟨sxPA,sxB,sxR,r⟩
def sxW (r:ag):Vir:=⟨⟨#[]⟩,sxM,sxX,r⟩
theorem zDO (h:L.map Mem.k=[]):L=[]:=by simpa using h
theorem zIF {u:Mem->Bool}(h:IsIds2 (zv u []) o):o=[]:=by
 cases o with
 | nil=>rfl
 | cons x t=>
  obtain⟨s,v⟩:=(h.mem x).1 (by simp);cases v
theorem zKa (h:IsIds [] o):o=[]:=by
 cases o with
 | nil=>rfl
 | cons x t=>exact bb ((h.mem x).1 (by simp)) (by simp[best])
section
variable {ds:af Dev}{tx:Dev->ae}{E K:af ae}{r:ag}{S:af Src}{M M3:af Vir}{G G2:af (ae×ae)}
theorem zNn (h:MidR ds tx E K r S M G M3 G2)(A:S.filterMap (λs=>ofK 2 mk2 s.o s.r (tx s.d))=[])(D:S.filterMap (λs=>ofK 3 mk3 s.o s.r (tx s.d))=[]):M3=wantS tx S M r S.length/\G2=G:=by
 obtain⟨U,u,F,V,X,v,y,I,J,N,z,O,R⟩:=h;rw[A]at y;obtain rfl:=zDO y;obtain rfl:=zIF I;obtain rfl:F=[]:=by simpa using J
 rw[D]at z;obtain rfl:=zDO z;obtain rfl:=zKa O;injection N with b1 b2
 exact⟨by rw[R,b1];rfl,b2⟩
theorem zH2 {u:af Vir}{v:af (ae×ae)}(h:NextR ds tx E K C r S M G A u v)(D:S.filterMap (λs=>ofK 4 mk4 s.o s.r (tx s.d))=[]):MidR ds tx E K r S M G u v:=by
 obtain⟨⟨R,U,V,y,F,I,z,J,N,O⟩,-⟩:=h;rw[D]at z;obtain rfl:=zDO z;obtain rfl:=zIF J;obtain rfl:F=[]:=by simpa using N
 injection O with b1 b2
 rw[b1,b2];exact I
theorem zLl {u:af ae}{O:af ArrM}(X:p.toList.isEmpty=ao)(F:L.map Mem.k=[mk2 p rd sxCR])(J:IsIds2 (zv soundA L) u)(v:O.map ArrM.toArr=u.map (buildA (zv soundA L))):
  ∃ o,O=[o]/\o.i=sxI/\o.t=1/\o.e=1/\o.n=1/\o.l=[sxX]:=by
 obtain⟨m,rfl⟩:∃ m,L=[m]:=by
  cases L with
  | nil=>simp at F
  | cons m t=>cases t with
   | nil=>exact⟨m,rfl⟩
   | cons m' t=>simp at F
 have y:m.k=mk2 p rd sxCR:=by simpa using F
 have N:m.p=p:=aj Mem.p y;have Y:m.i=sxI:=aj Mem.i y;have R:m.s=1:=aj Mem.s y;have U:m.t=1:=aj Mem.t y;have Z:m.e=1:=aj Mem.e y;have V:m.l=[sxX]:=(aj Mem.l y).trans sx_x;have hs:soundA m=true:=by
  unfold soundA soundB;rw[N,R,U,V,X];decide
 have hb:zv soundA [m]=λx=>if x=(sxI,1)then ah m else none:=by
  show zAl soundA (λ_=>ab) m=_
  rw[zCI hs (λo h=>by cases h),Y,R]
 rw[hb]at J v;have z:u=[sxI]:=J.unique ⟨by unfold AscS;decide,λx=>⟨λh=>by
  obtain rfl:x=sxI:=by simpa using h
  exact⟨1,by rw[ak rfl];rfl⟩,λ⟨s,h⟩=>by
  split at h
  .rename_i e;simp at e;simp[e.1]
  .cases h⟩⟩
 rw[z]at v;have D:(λx:ae×ag=>if x=(sxI,1)then ah m else ab) (sxI,1)=ah m:=ak rfl;obtain⟨b,I⟩:∃ b:ae×ag->aq Mem,b=λx=>if x=(sxI,1)then ah m else none:=⟨_,rfl⟩
 rw[<-I]at v D;have hl:zAw b sxI=1:=by unfold zAw;simp[bw,D]
 have hf:zAX b sxI=m:=by unfold zAX;rw[hl,D];rfl
 have hB:buildA b sxI=⟨sxI,[p],1,1,1,[sxX]⟩:=by
  unfold buildA;rw[hf,U,Z,V];simp[pathAt,D,N,bw]
 simp only[bp,bq,hB]at v;cases O with
 | nil=>simp at v
 | cons o t=>
  cases t with
  | cons o' t=>simp at v
  | nil=>
   have A:o.toArr=⟨sxI,[p],1,1,1,[sxX]⟩:=by simpa using v
   exact⟨o,rfl,aj Arr.i A,aj Arr.t A,aj Arr.e A,aj Arr.n A,aj Arr.l A⟩
theorem zKK (O:p.toList.isEmpty=ao)(h:MidR ds tx E K r S M G M3 G2)(R:S.filterMap (λs=>ofK 2 mk2 s.o s.r (tx s.d))=[mk2 p rd sxCR])(U:S.filterMap (λs=>ofK 3 mk3 s.o s.r (tx s.d))=[]):
  (M3,G2)=(if (G.any λy=>decide (y=(mdK,sxI)))=am then (wantS tx S M r S.length,G++[(mdK,sxI)])else (zAE (wantS tx S M r S.length) (sxW r),G++[(mdK,sxI)])):=by
 obtain⟨L2,z,O2,V,L3,A,D,X,Y,u,F,Z,a3⟩:=h;rw[R]at D;obtain⟨o,rfl,I,q2,q3,q4,q5⟩:=zLl O D X Y;rw[U]at F;obtain rfl:=zDO F;obtain rfl:=zKa Z;have hv:mdOf o.i o.l r=sxW r:=by rw[I,q5];rfl
 have ha:arrAll ds E r (wantS tx S M r S.length,G) [o] [o].length=zA0 ds E r (wantS tx S M r S.length,G) o:=rfl;rw[ha]at u;unfold zA0 at u;have v:∀ J N,mustB o.t o.e o.n J N=true:=λJ N=>by rw[q2,q3,q4];unfold mustB;simp
 rw[ak (v _ _),hv,I]at u;have:M3=V:=by rw[a3];rfl
 rw[this];exact u
end
structure SxD (d0:Dev)(tx:Dev->ae):Prop where
 h0:d0.orig=sxA
 hk:d0.kind=2
 ht:tx d0=sxT
 hp:d0.parent=0
 hi:d0.index=1
structure SxP (d1:Dev)(tx:Dev->ae):Prop where
 g0:d1.orig=sxB
 gt:tx d1=sxR
 gp:d1.parent=1
 gi:d1.index=2
theorem zOY (D:SxD h tx)(r:ag):pwL sxPA h (tx h) r=[sxV r]:=by
 have ⟨u,v,y,A,F⟩:=D;unfold pwL;rw[y,sxPT];show (if sxCT.kind=5/\h.kind=2 then pwF sxPA h.orig r (sxCT.inner.map Ct.txt) sxCT.inner.length else [])=_
 rw[ak ⟨rfl,v⟩,sx_r,u];have:sxCT.inner.length=0+1:=rfl;rw[this,zFK];have o:partOk sxA 1=true:=by kernel_rfl
 have z:partT sxA 1=sxB:=by kernel_rfl
 simp[pwF,zAZ,o,z,sxV]
theorem zO8 {v:Dev}(D:SxD v tx)(u:k≠5)(y:ae->ag->Ct->Mem)(p:ae)(rd:ag):ofK k y p rd (tx v)=none:=by
 have ⟨A,F,z,I,J⟩:=D;refine zHz (λc o=>?_);rw[z,sxPT]at o;injection o with o
 subst o;exact λh=>u h.symm
theorem sx_f {v:Dev}(D:SxD v tx)(h:k≠5)(u:ae->ag->Ct->Mem)(y:ag)(p:ae)(rd:ag)(t:af Src):(⟨y,v,p,rd⟩::t:af Src).filterMap (λs=>ofK k u s.o s.r (tx s.d))=t.filterMap (λs=>ofK k u s.o s.r (tx s.d)):=by
 have ⟨z,A,F,I,J⟩:=D;rw[bm,zO8 D h u p rd]
theorem zNL (D:SxD h tx)(M:af Vir)(r:ag):wantS tx [⟨0,h,sxPA,0⟩] M r [(⟨0,h,sxPA,0⟩:Src)].length=zAE M (sxV r):=by
 have ⟨o,u,v,y,z⟩:=D;show zr M (pwL sxPA h (tx h) r)=_
 rw[zOY D];rfl
theorem zHf (D:SxD u tx){v:af Vir}{y z:af (ae×ae)}(h:NextR ds tx [] [] C r [⟨0,u,sxPA,0⟩] M y A v z):v=zAE M (sxV r)/\z=y:=by
 have ⟨N,O,R,U,V⟩:=D;have F:[(⟨0,u,sxPA,0⟩:Src)].filterMap (λs=>ofK 4 mk4 s.o s.r (tx s.d))=[]:=by rw[sx_f D (by decide)];rfl
 obtain⟨I,J⟩:=zNn (zH2 h F) (by rw[sx_f D (by decide)];rfl) (by rw[sx_f D (by decide)];rfl);exact⟨by rw[I,zNL D],J⟩
theorem zO9: inW [sxV 1] sxPA sxB=true:=by unfold inW sxV;simp
theorem zMk: zAE [] (sxV 1)=[sxV 1]:=by unfold zAE inW;simp
theorem zMj (r:ag):zAE [sxV 1] (sxV r)=[sxV 1]:=by unfold zAE;rw[ak];exact zO9
theorem zLV (r:ag):zAE [sxV 1,sxW 2] (sxV r)=[sxV 1,sxW 2]:=by unfold zAE;rw[ak];unfold inW sxV;simp
theorem zNO: zAE [sxV 1] (sxW 2)=[sxV 1,sxW 2]:=by
 unfold zAE;rw[aw]
 .rfl
 .unfold inW sxV sxW;simp[sxPA]
theorem zJf {a b:Src}{l:af Src}(h:l.Perm [a,b])(A:l.Pairwise λx y=>x.at_<=y.at_)(D:a.at_<b.at_):l=[a,b]:=by
 have F:=h.length_eq
 match l,F with
 | [x,y],_=>
  have u:x∈[a,b]:=h.mem_iff.1 (by simp);have o:y∈[a,b]:=h.mem_iff.1 (by simp);have v:a∈[x,y]:=h.mem_iff.2 (by simp);have z:b∈[x,y]:=h.mem_iff.2 (by simp);have I:x.at_<=y.at_:=by simpa using A
  simp at u o v z;rcases u with rfl|rfl
  .rcases o with rfl|rfl
   .rcases z with rfl|rfl<;>omega
   .rfl
  .rcases o with rfl|rfl
   .omega
   .rcases v with rfl|rfl<;>omega
theorem zNN (h:M.find? (λv=>decide ((v.q,v.o)=(plc ds s.d.parent,s.d.orig)))=ab):againB ds tx M r s=false:=by
 unfold againB;rw[h]
theorem zMl (D:SxD h tx)(ds:af Dev)(u:∀ d∈ds,d.index≠0)(M:af Vir)(y:∀ v∈M,v.o≠sxA)(r:ag)(z:ag)(p:ae)(rd:ag):againB ds tx M r ⟨z,h,p,rd⟩=false:=by
 have ⟨A,I,J,N,O⟩:=D;refine zNN ?_;rw[List.find?_eq_none];intro v F;have:=y v F;rw[A];simp;exact λ_=>this
theorem zNP {o:Dev}(D:SxD o tx){F:af Src}{u:af Vir}{I:af (ae×ae)}(J:M=[]/\r=1\/M=[sxV 1])(h:NextR [o] tx [] [] [⟨0,o,sxPA,0⟩] r [⟨0,o,sxPA,0⟩] M [] F u I):F=[⟨0,o,sxPA,0⟩]/\u=[sxV 1]/\I=[]:=by
 have ⟨R,U,V,X,N⟩:=D;obtain⟨v,O⟩:=zHf D h;have y:u=[sxV 1]:=by
  rcases J with⟨rfl,rfl⟩|rfl
  .rw[v,zMk]
  .rw[v,zMj]
 refine⟨?_,y,O⟩;have z:=h.2.1;have A:=zMl D [o] (by simp[N]) u (by rw[y];unfold sxV sxB sxA;simp) r 0 sxPA 0;have:moreS [o] tx u r [⟨0,o,sxPA,0⟩] [(⟨0,o,sxPA,0⟩:Src)].length=[]:=by
  unfold moreS;simp[A]
 rw[this,bu]at z;exact List.perm_singleton.1 z
theorem zNM {o:Dev}(D:SxD h tx)(P:SxP o tx):plc [h,o] o.parent=sxPA:=by
 have ⟨z,J,N,A,v⟩:=D;have ⟨O,R,F,I⟩:=P;have y:look [h,o] 1=ah h:=by unfold look;simp[v]
 have u:look [h,o] 0=none:=zo.2 (by simp[v,I]);unfold plc origin chain;rw[F,y];show pathOf ((chainK [h,o] (1+1) 1).map Dev.orig).reverse=sxPA
 unfold chainK;rw[y];show pathOf ((h::chainK [h,o] (0+1) h.parent).map Dev.orig).reverse=sxPA
 unfold chainK;rw[A,u];show pathOf [h.orig]=sxPA
 rw[z];kernel_rfl
theorem zLX (D:SxD u tx)(P:SxP h tx)(M:af Vir)(r:ag):againB [u,h] tx (sxV 1::M) r ⟨1,h,sxPB,0⟩=(1==r):=by
 have ⟨A,F,I,J,N⟩:=D;have ⟨y,z,O,R⟩:=P;have e:plc [u,h] (Src.d ⟨1,h,sxPB,0⟩).parent=sxPA:=zNM D P;unfold againB;have:(sxV 1::M).find? (λv=>decide ((v.q,v.o)=(plc [u,h] (Src.d ⟨1,h,sxPB,0⟩).parent,(Src.d ⟨1,h,sxPB,0⟩).orig)))=ah (sxV 1):=by
  rw[List.find?_cons_of_pos];rw[e];show decide ((sxPA,sxB)=(sxPA,h.orig))=am
  rw[y];simp
 rw[this];show ((1==r)&&(sxR.toList==(tx h).toList))=_
 rw[z];simp
theorem zJg {y:Dev}(D:SxD y tx)(P:SxP u tx)(F:∀ v∈M,v.o≠sxA):moreS [y,u] tx (sxV 1::M) r [⟨0,y,sxPA,0⟩,⟨1,u,sxPB,0⟩] [(⟨0,y,sxPA,0⟩:Src),⟨1,u,sxPB,0⟩].length=if r=1 then [⟨1,u,sxPB,r⟩]else []:=by
 have ⟨O,R,U,V,I⟩:=D;have ⟨X,Y,Z,J⟩:=P;have N:=zMl D [y,u] (by simp[I,J]) (sxV 1::M) (by
  intro v z;rcases List.mem_cons.1 z with rfl|z
  .show sxB≠sxA
   decide
  .exact F v z) r 0 sxPA 0
 have a1:=zLX D P M r;unfold moreS;show (([(⟨0,y,sxPA,0⟩:Src),⟨1,u,sxPB,0⟩]).filter _).map _=_
 rw[bv (by rw[N];simp)];by_cases A:r=1
 .subst A;rw[List.filter_cons_of_pos (by rw[a1];rfl),ak rfl];rfl
 .rw[bv (by rw[a1];simpa using λh=>A h.symm),aw A];rfl
theorem zLW {y:Dev}(D:SxD u tx)(P:SxP y tx){z:af Src}{A:af Vir}{F:af (ae×ae)}(h:NextR [u,y] tx [] [] [⟨0,u,sxPA,0⟩,⟨1,y,sxPB,0⟩] 1 [⟨0,u,sxPA,0⟩] [] [] z A F):z=[⟨0,u,sxPA,0⟩,⟨1,y,sxPB,1⟩]/\A=[sxV 1]/\F=[]:=by
 have ⟨J,N,O,R,U⟩:=D;have ⟨V,X,Y,Z⟩:=P;obtain⟨o,I⟩:=zHf D h;rw[zMk]at o;refine⟨?_,o,I⟩;have v:=h.2.1;rw[o,zJg D P (by simp),ak rfl]at v;exact zJf v h.2.2 (by show (0:ag)<1;omega)
theorem zHg {F A:Dev}(D:SxD F tx)(P:SxP A tx){S':af Src}{Y:af Vir}{O Z:af (ae×ae)}(hr:(r=2/\M=[sxV 1]/\O=[])\/(3<=r/\M=[sxV 1,sxW 2]/\(O.any λy=>decide (y=(mdK,sxI)))=am))(h:NextR [F,A] tx [] [] [⟨0,F,sxPA,0⟩,⟨1,A,sxPB,0⟩] r [⟨0,F,sxPA,0⟩,⟨1,A,sxPB,1⟩] M O S' Y Z):
  S'=[⟨0,F,sxPA,0⟩,⟨1,A,sxPB,1⟩]/\Y=[sxV 1,sxW 2]/\Z=O++[(mdK,sxI)]:=by
 have ⟨h0,hk,ht,hp,hi⟩:=D;have ⟨g0,gt,gp,gi⟩:=P;have I:∀ (k:ag) (J:ae->ag->Ct->Mem),[(⟨0,F,sxPA,0⟩:Src),⟨1,A,sxPB,1⟩].filterMap (λs=>ofK k J s.o s.r (tx s.d))=if k=2 then [J sxPB 1 sxCR]else if k=5 then [J sxPA 0 sxCT]else []:=by
  intro k J;have e0:ofK k J sxPA 0 (tx F)=if k=5 then ah (J sxPA 0 sxCT)else none:=by
   unfold ofK;rw[ht,sxPT];show (if (5:ag)=k then ah (J sxPA 0 sxCT)else ab)=_
   by_cases u:k=5
   .rw[ak u.symm,ak u]
   .rw[aw (λh=>u h.symm),aw u]
  have e1:ofK k J sxPB 1 (tx A)=if k=2 then ah (J sxPB 1 sxCR)else none:=by
   unfold ofK;rw[gt,sxPR];show (if (2:ag)=k then ah (J sxPB 1 sxCR)else ab)=_
   by_cases u:k=2
   .rw[ak u.symm,ak u]
   .rw[aw (λh=>u h.symm),aw u]
  rw[bm,e0,bm,e1];by_cases R:k=2
  .subst R;rfl
  .by_cases u:k=5
   .subst u;rfl
   .simp[R,u]
 have U:=zH2 h (by rw[I];rfl);have z:=zKK (p:=sxPB) (rd:=1) (by simp[ByteArray.toList_eq,sxPB]) U (by rw[I];rfl) (by rw[I];rfl);have hw:wantS tx [(⟨0,F,sxPA,0⟩:Src),⟨1,A,sxPB,1⟩] M r [(⟨0,F,sxPA,0⟩:Src),⟨1,A,sxPB,1⟩].length=zAE M (sxV r):=by
  show zr (zr M (pwL sxPA F (tx F) r)) (pwL sxPB A (tx A) r)=_
  rw[zOY D,zMo (s:=tx A) (λc X=>by
   rw[gt,sxPR]at X;injection X with X
   subst X;decide)]
  rfl
 rw[hw]at z;have N:Y=[sxV 1,sxW 2]/\Z=O++[(mdK,sxI)]:=by
  rcases hr with⟨rfl,rfl,rfl⟩|⟨-,rfl,hg⟩
  .rw[aw (by simp),zMj,zNO]at z;injection z with b1 b2
   exact⟨b1,b2⟩
  .rw[ak hg,zLV]at z;injection z with b1 b2
   exact⟨b1,b2⟩
 refine⟨?_,N.1,N.2⟩;have V:=h.2.1;have a2:r≠1:=by rcases hr with⟨h,_⟩|⟨h,_⟩<;>omega
 rw[N.1,zJg D P (by intro v hv;simp at hv;subst hv;show sxM≠sxA;decide),aw a2,bu]at V;exact zJf V h.2.2 (by show (0:ag)<1;omega)
def D0 (aa:aq ar)(an ac:Q):Dev:=⟨1,0,sxA,sxA,zS,⟨#[]⟩,⟨#[]⟩,2,1,aa,an,ac⟩
def D1 (aa:aq ar)(an ac:Q):Dev:=⟨2,1,sxB,sxB,zS,⟨#[]⟩,⟨#[]⟩,2,1048576,aa,an,ac⟩
def sxL0 : Rec:={ bs with path:=sxPA,index:=1 }
def sxL1 : Rec:={ bs with path:=sxPB,index:=2 }
def ct1 : ag->ae:=updC (λ_=>⟨#[]⟩) 1 sxT
def ct2 : ag->ae:=updC ct1 2 sxR
section
variable (a0 a1:aq ar)(n0 c0 n1 c1:Q)
theorem vir0: virB [D0 a0 n0 c0] 1=false:=by kernel_rfl
theorem zO6: virB [D0 a0 n0 c0,D1 a1 n1 c1] 1=false:=by kernel_rfl
theorem vir1: virB [D0 a0 n0 c0,D1 a1 n1 c1] 2=true:=by kernel_rfl
theorem zPC: plc [D0 a0 n0 c0] 1=sxPA:=by kernel_rfl
theorem zPB: plc [D0 a0 n0 c0,D1 a1 n1 c1] 1=sxPA:=by kernel_rfl
theorem zPA: plc [D0 a0 n0 c0,D1 a1 n1 c1] 2=sxPB:=by kernel_rfl
theorem zOC: cntL [D0 a0 n0 c0] [sxL0] 0 [D0 a0 n0 c0]=[⟨0,D0 a0 n0 c0,sxPA,0⟩]:=by
 have h:cntB [D0 a0 n0 c0] [sxL0] 1=true:=by kernel_rfl
 have e:=zBm [D0 a0 n0 c0] [sxL0] [] 0 (D0 a0 n0 c0);rw[show (D0 a0 n0 c0).index=1 from rfl,h,zPC]at e;exact e
theorem zOB: cntL [D0 a0 n0 c0,D1 a1 n1 c1] [sxL0,sxL1] 0 [D0 a0 n0 c0,D1 a1 n1 c1]=[⟨0,D0 a0 n0 c0,sxPA,0⟩,⟨1,D1 a1 n1 c1,sxPB,0⟩]:=by
 have u:cntB [D0 a0 n0 c0,D1 a1 n1 c1] [sxL0,sxL1] 1=true:=by kernel_rfl
 have v:cntB [D0 a0 n0 c0,D1 a1 n1 c1] [sxL0,sxL1] 2=true:=by kernel_rfl
 have o:=zBm [D0 a0 n0 c0,D1 a1 n1 c1] [sxL0,sxL1] [] 0 (D0 a0 n0 c0);rw[show (D0 a0 n0 c0).index=1 from rfl,u,zPB]at o;have h:=zBm [D0 a0 n0 c0,D1 a1 n1 c1] [sxL0,sxL1] [D0 a0 n0 c0] 0 (D1 a1 n1 c1);rw[show (D1 a1 n1 c1).index=2 from rfl,v,zPA]at h;have y:([D0 a0 n0 c0]:af Dev)=[]++[D0 a0 n0 c0]:=rfl;rw[y,o]at h;exact h
theorem src0: (cntL [D0 a0 n0 c0] [sxL0] 0 [D0 a0 n0 c0]).filter (λs=>!virB [D0 a0 n0 c0] s.d.index)=[⟨0,D0 a0 n0 c0,sxPA,0⟩]:=by
 rw[zOC];have h:virB [D0 a0 n0 c0] (D0 a0 n0 c0).index=false:=vir0 a0 n0 c0;simp[h]
theorem src1: (cntL [D0 a0 n0 c0,D1 a1 n1 c1] [sxL0,sxL1] 0 [D0 a0 n0 c0,D1 a1 n1 c1]).filter (λs=>!virB [D0 a0 n0 c0,D1 a1 n1 c1] s.d.index)=[⟨0,D0 a0 n0 c0,sxPA,0⟩]:=by
 rw[zOB];have h:virB [D0 a0 n0 c0,D1 a1 n1 c1] (D0 a0 n0 c0).index=false:=zO6 a0 a1 n0 c0 n1 c1;have o:virB [D0 a0 n0 c0,D1 a1 n1 c1] (D1 a1 n1 c1).index=true:=vir1 a0 a1 n0 c0 n1 c1;simp[h,o]
end
def sxI0 (d:Dev)(r:ag)(S:af Src)(M:af Vir)(G:af (ae×ae)):Prop:=
 S=[⟨0,d,sxPA,0⟩]/\G=[]/\((r=1/\M=[])\/M=[sxV 1])
def sxI1 (d e:Dev)(r:ag)(S:af Src)(M:af Vir)(G:af (ae×ae)):Prop:=
 (r=1/\S=[⟨0,d,sxPA,0⟩]/\M=[]/\G=[])\/
 (r=2/\S=[⟨0,d,sxPA,0⟩,⟨1,e,sxPB,1⟩]/\M=[sxV 1]/\G=[])\/
 (r=3/\S=[⟨0,d,sxPA,0⟩,⟨1,e,sxPB,1⟩]/\M=[sxV 1,sxW 2]/\G=[(mdK,sxI)])
section
variable {d e:Dev}{tx:Dev->ae}{r:ag}{S S':af Src}{M M':af Vir}{G G':af (ae×ae)}
theorem zF3 (D:SxD d tx)(h:sxI0 d r S M G)(o:NextR [d] tx [] [] [⟨0,d,sxPA,0⟩] r S M G S' M' G'):S'=[⟨0,d,sxPA,0⟩]/\M'=[sxV 1]/\G'=[]:=by
 obtain⟨rfl,rfl,u⟩:=h;exact zNP D (u.imp (λh=>⟨h.2,h.1⟩) id) o
theorem zF2 (D:SxD d tx)(P:SxP e tx)(h:sxI1 d e r S M G)(y:NextR [d,e] tx [] [] [⟨0,d,sxPA,0⟩,⟨1,e,sxPB,0⟩] r S M G S' M' G'):(M.length<M'.length->sxI1 d e (r+1) S' M' G')/\(¬ M.length<M'.length->M'=[sxV 1,sxW 2]):=by
 rcases h with⟨rfl,rfl,rfl,rfl⟩|⟨rfl,rfl,rfl,rfl⟩|⟨rfl,rfl,rfl,rfl⟩
 .obtain⟨u,o,v⟩:=zLW D P y;exact⟨λ_=>.inr (.inl ⟨rfl,u,o,v⟩),λh=>bb (by rw[o];simp) h⟩
 .obtain⟨u,o,v⟩:=zHg D P (.inl ⟨rfl,rfl,rfl⟩) y;exact⟨λ_=>.inr (.inr ⟨rfl,u,o,v⟩),λ_=>o⟩
 .obtain⟨u,o,v⟩:=zHg D P (.inr ⟨by omega,rfl,by simp⟩) y;exact⟨λh=>bb h (by rw[o];simp),λ_=>o⟩
theorem zLd (h:s∈[(⟨0,d,sxPA,0⟩:Src),⟨1,e,sxPB,1⟩]):(s.d=d\/s.d=e)/\s.o.size<=1000000:=by
 rcases List.mem_cons.1 h with rfl|h
 .exact⟨.inl rfl,by show sxPA.size<=_;decide⟩
 .obtain rfl:s=⟨1,e,sxPB,1⟩:=by simpa using h
  exact⟨.inr rfl,by show sxPB.size<=_;decide⟩
theorem zNR (h:sxI0 d r S M G):SmR [d] r S M G:=by
 obtain⟨rfl,rfl,o⟩:=h;refine⟨λs u=>?_,by simp,?_,by simp⟩
 .obtain rfl:s=⟨0,d,sxPA,0⟩:=by simpa using u
  exact⟨by simp,by show sxPA.size<=_;decide⟩
 .rcases o with⟨_,rfl⟩|rfl<;>simp
theorem zNQ (h:sxI1 d e r S M G):SmR [d,e] r S M G:=by
 rcases h with⟨rfl,rfl,rfl,rfl⟩|⟨rfl,rfl,rfl,rfl⟩|⟨rfl,rfl,rfl,rfl⟩
 all_goals
  refine⟨λs o=>?_,by simp,by simp,by simp⟩;have h:=zLd (d:=d) (e:=e) (s:=s) (by first|exact o|(simp at o;simp[o]));exact⟨by simpa using h.1,h.2⟩
end
theorem zDf {x:Dev}(h:strip x=strip d):x={ d with aa:=x.aa,an:=x.an,ac:=x.ac }:=by
 obtain⟨z,A,D,F,I,J,N,O,R,U,o,u⟩:=x;obtain⟨V,X,Y,Z,d4,d5,d6,d7,d8,d9,v,y⟩:=d;simp only[strip,Dev.mk.injEq]at h ⊢;simp[h]
theorem zHh (h:ds.map strip=[strip d]):∃ aa an ac,ds=[{ d with aa:=aa,an:=an,ac:=ac }]:=by
 have o:=aj bn h;rw[bo]at o
 match ds,o with
 | [x],_=>
  simp only[bp,bq]at h;injection h with h _
  exact⟨_,_,_,by rw[<-zDf h]⟩
theorem zLa {e:Dev}(h:ds.map strip=[strip d,strip e]):∃ aa an ac u v z,ds=[{ d with aa:=aa,an:=an,ac:=ac },{ e with aa:=u,an:=v,ac:=z }]:=by
 have o:=aj bn h;rw[bo]at o
 match ds,o with
 | [x,y],_=>
  simp only[bp,bq]at h;injection h with h1 h2
  injection h2 with h2 _
  exact⟨_,_,_,_,_,_,by rw[<-zDf h1,<-zDf h2]⟩
theorem zE9: InU sxT:=.inr (.inr ⟨taC ⟨#[116]⟩ [rX1],au (i:=29) rfl,zAc.1 (by kernel_rfl)⟩)
theorem zGt: InU sxR:=.inr (.inr ⟨rX1,au (i:=28) rfl,zAc.1 (by kernel_rfl)⟩)
theorem zF1: NoTab sxR:=λc h=>by rw[sxPR]at h;cases h;decide
theorem zFA: sxA∈rootN:=au (i:=10) rfl
theorem zJi: sxB∈parN sxA:=au (i:=0) (by kernel_rfl)
theorem zJh: sxPA=pathOf [sxA]:=zAc.1 (by kernel_rfl)
theorem zMi (w:al):∀ r∈[sxL0,sxL1],RecOk w r:=λr h=>by
 rcases List.mem_cons.1 h with rfl|h
 .exact⟨bi w,az w⟩
 .obtain rfl:r=sxL1:=by simpa using h
  exact⟨bi w,az w⟩
theorem zOX (o:aq ar)(u y:Q):MustOk [D0 o u y] [sxV 1]:=by
 refine⟨λv z=>?_,by unfold DistP;simp,λv z _=>?_⟩
 .obtain rfl:v=sxV 1:=by simpa using z
  exact⟨zGt,.inr ⟨sxA,zFA,zJh,zJi,zF1⟩⟩
 .obtain rfl:v=sxV 1:=by simpa using z
  refine⟨D0 o u y,by simp,rfl,zJh,λh=>?_⟩;rw[show (D0 o u y).index=1 from rfl,vir0]at h;cases h
def sxQ (j:Q)(L:af Dev)(ops:af OpA):Prop:=(j=0->L=[D0 ab 0 0]/\ops=[])/\(j=1->∃ aa,ops=[⟨1,sxPA,opG sxB 1048576 sxR aa,⟨#[]⟩,⟨#[]⟩,sxR⟩])
theorem zLY (o:aq ar)(u v:Q)(ct:ag->ae):sxQ 0 (remF [sxV 1] [D0 o u v] (revR [D0 o u v])).1 (setF [sxV 1] (remF [sxV 1] [D0 o u v] (revR [D0 o u v])).1 ct (remF [sxV 1] [D0 o u v] (revR [D0 o u v])).2 (remF [sxV 1] [D0 o u v] (revR [D0 o u v])).1.length).2:=by
 have h:=zGE (M:=[sxV 1]) (ds:=[D0 o u v]) (λd y h=>by
  obtain rfl:d=D0 o u v:=by simpa using y
  rw[show (D0 o u v).index=1 from rfl,vir0]at h;cases h) (pre:=revR [D0 o u v]) (λx A=>zBu A)
 rw[h];have D:=zGB (M:=[sxV 1]) (L:=[D0 o u v].map strip) (ct:=ct) (λd y h=>by
  obtain rfl:d=D0 ab 0 0:=by simpa [strip,D0]using y
  have z:virB [D0 ab 0 0] 1=true:=h;rw[vir0]at z;cases z) [] ([D0 o u v].map strip).length
 dsimp only;rw[D];exact⟨λ_=>⟨rfl,rfl⟩,λh=>by cases h⟩
theorem zLZ {j:Q}{v:Vir}{L:af Dev}{ct:ag->ae}{y:af OpA}{I:af Dev}{A:ag->ae}{u:af OpA}(J:[sxV 1][j]?=ah v)(h:sxQ j L y)(O:zCK L ct y v I A u):sxQ (j+1) I u:=by
 have D:j=0:=by have:=(List.getElem?_eq_some_iff.1 J).1;simp at this;exact this
 subst D;obtain rfl:sxV 1=v:=by simpa using J
 obtain⟨rfl,rfl⟩:=h.1 rfl;refine⟨(λh=>by cases h),λ_=>?_⟩;have F:[D0 ab 0 0].find? (atP [D0 ab 0 0] ((sxV 1).q++(⟨#[47]⟩:ae)++(sxV 1).o))=none:=by kernel_rfl
 rcases O with⟨⟨X,z⟩,_⟩|⟨_,k,R,p,U,Y,Z,_,_,rfl⟩
 .rw[F]at z;cases z
 .obtain rfl:k=0:=by
   cases k with
   | zero=>rfl
   | succ k=>
    have N:=U.2 0 (by omega);have V:usedF [D0 ab 0 0] (1048576+((0:Q):ag))=false:=by kernel_rfl
    rw[V]at N;cases N
  exact⟨R,rfl⟩
theorem zNs (w:al)(hE:Env w):Calls ba 14 #[] w λe w'=>e=.returned (.bool am)/\Fr No w w':=by
 have h9:=hE.sz;have HE:=zh hE;clear hE
 go_enter Tryz.func14,Tryz.ntmps14
 go_wp2_with fail
 refine(zOu w).mono ?_;rintro e w1 ⟨rfl,X⟩;have e2:B (KA w1 (w:Q) ((w:Q)+1) [] (λ_=>⟨#[]⟩) 0 0):=⟨ab,0,[],ab,0,0,by rw[X];exact KSt.new w _,rfl,(λd Y=>by simp at Y),by omega⟩
 have j9:B (Fr No w w1):=by unfold B;rw[X];exact(bf _ _).alloc _
 have s1:(w1:Q)=(w:Q)+1:=by rw[X];simp
 obtain⟨o,d2⟩:∃ o,o=(w:Q):=⟨_,rfl⟩
 rw[<-d2]at e2 ⊢;have h8:8<o:=by omega
 have n2:o+1<=(w1:Q):=by omega
 have k0:=zh d2;clear X d2 s1;have e3:=zHD sxA sxT 1 w1 zE9
 go_wp2_with fail
 refine e3.mono ?_;rintro e w2 ⟨⟨aa,ac,rfl,e4⟩,Z⟩;have e5:=zh (j9.out.step Z zi);have s2:=Z.size;have A:=zGR o (o+1) 0 [] (λ_=>⟨#[]⟩) 0 0 ⟨#[]⟩ ⟨#[]⟩ ⟨#[]⟩ sxT ⟨0,0,⟨#[]⟩,sxA,zS,⟨#[]⟩,⟨#[]⟩,2,1,aa,(cAtt sxT).length,ac⟩ w2 (e2.out.no (by omega) Z) (UOk.nil _ _) (HE.out.no e5.out) h8 (by omega) (by omega) (by omega) e4 rfl ⟨rfl,rfl,rfl,by show (1:ag)<=1;decide,by show (1:ag)<=2000000;decide⟩ (.inl ⟨rfl,rfl,rfl⟩) (.inl ⟨rfl,zFA⟩) zE9 (λh=>bb rfl h) (by simp);clear e3 e4 Z;unfold ocs at A
 go_wp2_with fail
 refine A.mono ?_;rintro e J ⟨rfl,e6,e7,d3⟩;have k1:B (KA J o (o+1) [D0 ab 0 0] ct1 1 1):=e6;have e8:B (UOk [D0 ab 0 0] ct1 1):=e7;have s3:=bc d3;have k2:B (Fr (From o) w J):=(e5.out.mono zn).step (EvF.from d3 (by omega) (by omega)) zi;clear A e6 e7 d3;obtain⟨W4,a2,f4,b4⟩:=zy J (ay sxL0.vals 91);unfold sxL0 bg bs sxPA at a2;simp only[List.length_nil]at a2
 go_upto_region 8 with(fail)
 rw[<-a2];clear a2;have N:W4.ownsRow (o+1) 91 12 (ap (ah ⟨J,0,ab⟩) 1 1) [sxL0].length (rflat [sxL0]):=⟨rfl,.inr ⟨(J:Q),1,_,rfl,by omega,b4,Nat.le_refl _,by decide,rfl,rfl⟩⟩
 have k3:=zh N;have k4:B (Fr (From o) w W4):=k2.out.step f4 zn;have a3:B (KA W4 o (o+1) [D0 ab 0 0] ct1 1 1):=k1.out.no (by omega) f4;have e9:B (∀ W,Fr No W4 W->Recs W (ah ⟨J,0,ab⟩) 1 [sxL0]):=λW hW=>by
  obtain⟨x,y,hv,hr,_⟩:=bx (zG N hW (λ_ _=>id)) (λr hr=>zMi W r (by simp at hr;simp[hr]));cases hv;exact hr
 have D:=zD1 o (o+1) 1 [D0 ab 0 0] ct1 1 W4 a3.out (by simp);have s4:=zC b4;clear N f4 b4
 go_wp2_with fail
 refine D.mono ?_;rintro e w5 ⟨⟨a5,c5,n3,rfl,g0,_,g4,b5⟩,a4⟩;obtain⟨x5,n5,y5,rfl⟩:=zHh (d:=D0 ab 0 0) b5;have g5:B (Fr (From o) w w5):=k4.out.step a4 zn;have z:=zHT a5 (ah ⟨J,0,ab⟩) ab ab c5 1 0 0 (W4:Q) 0 [D0 x5 n5 y5] [sxL0] (λd=>ct1 d.index) [] [] w5 g0 (by simp) (e9.out w5 a4) (HE.out.from h8 g5.out) (az _) (az _) (by simp) (by simp) (g4.txs (λd Y=>by
  obtain rfl:d=D0 x5 n5 y5:=List.mem_singleton.1 Y;exact zE9)) (sxI0 (D0 x5 n5 y5))
  (λr S M k5 S' M' G' h1 h2 h3=>by
   rw[zOC]at h2;obtain⟨g1,g2,g3⟩:=zF3 ⟨rfl,rfl,rfl,rfl,rfl⟩ h1 h2;exact⟨g1,g3,.inr g2⟩) (λr S M k5 h=>zNR h) ⟨src0 x5 n5 y5,rfl,.inl ⟨rfl,rfl⟩⟩
 have b6:=zh a4;clear D g0 g4 b5 a4
 go_wp2_with fail
 refine z.mono ?_;rintro e w6 ⟨⟨ma,mc,r6,S6,M6,G6,n4,n6,n8,rfl,g6,_,g7,d4,_⟩,a6⟩;rw[zOC]at d4;obtain⟨-,rfl,-⟩:=zF3 ⟨rfl,rfl,rfl,rfl,rfl⟩ g7 d4;have k6:=zh g6;have b7:=zh (b6.out.step a6 zi);have k7:B (Fr (From o) w w6):=g5.out.step a6 zn;have s6:=a6.size;have s5:=b6.out.size;clear z g6 g7 d4 a6;have D:=zD1 o (o+1) 1 [D0 ab 0 0] ct1 1 w6 (a3.out.no (by omega) b7.out) (by simp)
 go_wp2_with fail
 refine D.mono ?_;rintro e w7 ⟨⟨a7,c7,n9,rfl,g8,b8,g9,b9⟩,O⟩;obtain⟨x7,n7,y7,rfl⟩:=zHh (d:=D0 ab 0 0) b9;have h0:B (Fr (From o) w w7):=k7.out.step O zn;have h4:=zh (b7.out.step O zi);have h5:=zh (k6.out.no O (λ_=>id));have s7:=O.size;have R:=zMh (w6:Q) a7 c7 [D0 x7 n7 y7] ct1 [sxV 1] ma mc 1 w7 g8 e8.out (zOX x7 n7 y7) (by decide) (HE.out.from h8 h0.out) b8 g9 h5.out (by omega) sxQ (zLY x7 n7 y7 ct1) (λj v L ct k8 L' p0 m6 hj h hs=>zLZ hj h hs);clear D g8 b8 g9 b9 O
 go_wp2_with fail
 refine R.mono ?_;rintro e w8 ⟨⟨k8,av,cv,_,_,_,_,_,_,_,⟨_,_,hQ⟩,rfl,h6,h7⟩,U⟩;obtain⟨a9,rfl⟩:=hQ rfl;have i1:B (Fr (From o) w w8):=h0.out.step U zn;have V:=zh (h4.out.step U zi);obtain⟨i2,_⟩:=h7 _ (List.mem_singleton.2 rfl);obtain⟨g,p1,rfl,⟨o0,o1,o2,o3,o4,o5,o6,o7,o8,o9,a8,b0,d5,d6⟩⟩:=zOm (j:=0) h6 rfl rfl;obtain⟨mb,m7,u,rfl,i3,⟨m0,m1,m2,m3⟩,p2⟩:=(h5.out.no U (λ_=>id)).elem (k:=0) (by simp);obtain rfl:u=sxV 1:=by simpa using i3.symm
 simp only[Nat.zero_mul,Nat.add_zero]at m0 m1 m2 m3 o0 o1 o2 o3 o4 o5 o6 o7 o8 o9 a8 b0 d5 d6;unfold sxV sxB at m1;dsimp only at m1;have k9:=zh i2;have s8:=U.size;unfold sxPA at o1;unfold opG at o2 o3 o4 o5 o6 o7 o8 o9 a8 b0;dsimp only at o2 o3 o4 o5 o6 o7 o8 o9 a8 b0 o0 o1 d5 d6;clear R h6 h7 U i3 m0 m2 m3 i2 hQ
 go_upto_region 12 with(fail)
 clear m1;have eL:insAt [D0 ab 0 0] (insK [D0 ab 0 0] (addD (opG sxB 1048576 sxR a9) 1 1)) (strip (addD (opG sxB 1048576 sxR a9) 1 1))=[D0 ab 0 0,D1 ab 0 0]:=by kernel_rfl
 have A:=(zGR o (o+1) 1 [D0 ab 0 0] ct1 1 1 sxPA ⟨#[]⟩ ⟨#[]⟩ sxR (opG sxB 1048576 sxR a9) w8 (a3.out.no (by omega) V.out) e8.out (HE.out.from h8 i1.out) h8 (by omega) (by omega) (by omega) k9.out rfl ⟨rfl,rfl,rfl,by show (1:ag)<=1048576;decide,by show (1048576:ag)<=2000000;decide⟩ (.inr ⟨D0 ab 0 0,by kernel_rfl,rfl⟩) (.inr ⟨D0 ab 0 0,by simp,rfl,rfl,zFA,zJi⟩) zGt (λ_=>zF1) (λe he=>by
  obtain rfl:e=D0 ab 0 0:=List.mem_singleton.1 he;exact⟨by show sxA≠sxB;decide,by show (1:ag)≠1048576;decide⟩)).mono (λe w' h=>(⟨h.1,by have:=h.2.1;rw[eL]at this;exact this,h.2.2.2⟩:e=.returned (.tuple #[ax ai 2,ax ai 0])/\KA w' o (o+1) [D0 ab 0 0,D1 ab 0 0] ct2 2 2/\EvF o (o+1) w8 w'))
 unfold sxPA opG ocs at A;dsimp only at A;clear eL
 go_wp2_with fail
 refine A.mono ?_;rintro e w9 ⟨rfl,i4,b1⟩;have l0:=zh i4;have l1:B (Fr (From o) w w9):=i1.out.step (EvF.from (tb:=o) b1 (by omega) (by omega)) zi;obtain⟨m8,i5⟩:=(a3.out.no (by omega) V.out).blk;have l2:B (w9.ownsRow (o+1) 91 12 (ap (ah ⟨J,0,ab⟩) 1 1) [sxL0].length (rflat [sxL0])):=EvF.own b1 (zG k3.out V.out (λ_ _=>id)) i5 (by decide) (by decide);have s9:=bc b1;clear A i4 b1 i5 o0 o1 o2 o3 o4 o5 o6 o7 o8 o9 a8 b0 d5 d6;have D:=zD1 o (o+1) 2 [D0 ab 0 0,D1 ab 0 0] ct2 2 w9 l0.out (by simp)
 go_wp2_with fail
 refine D.mono ?_;rintro e wA ⟨⟨aA,cA,p3,rfl,i6,_,i7,d0⟩,b2⟩;obtain⟨xA,nA,yA,zA,kA,uA,rfl⟩:=zLa (d:=D0 ab 0 0) (e:=D1 ab 0 0) d0;have d7:=zg2 i6 i7;have l3:B (Fr (From o) w wA):=l1.out.step b2 zn;have l4:=zh (zG l2.out b2 (λ_ _=>id));have sA:=b2.size;clear D i6 i7 d0 b2;obtain⟨i0,l5,l6,l7,l8⟩:=info_parts infoR;have l9:wA.ownsRow (o+1) 91 12 (ap (ah ⟨J,0,ab⟩) 1 1) 1 (rflat [sxL0]):=l4.out;have p4:(J:Q)<(w9:Q):=by omega
 go_wp2_with (at_builtin;refine wpList_append_own_at _ rfl _ _ 51 rfl (o+1) 91 i0 (.agg #[bd be,ax ai 0,ap ab 0 0,ap ab 0 0,ap ab 0 0,ap ab 0 0,ap ab 0 0,bd be,ax ai 0,bd be,bd be,ax ai 0]) 12 208 Tryz.underlying51 l5 l6 l7 l8 rfl (by decide) _ _ _ rfl (l9.alloc _) ⟨wA,0,ab⟩ 1 1 (bg sxL1).toList rfl rfl (zg _ (bg sxL1) _ rfl) (zGC _) (by decide) (by decide) (by rw[World.size_alloc];omega) ?_;intro v' wB F I _ i8;obtain⟨d8,d9,rfl⟩:=zI F)
 have i9:Fr No wA (wA.alloc (ay (bg sxL1) 91)):=(bf _ _).alloc _;have b3:Fr (Is (J:Q)) wA wB:=(i9.mono zn).step (Fr.of_grown I) (λb _ h=>by injection h with h;exact h.symm);have j0:B (Fr (From o) w wB):=l3.out.step b3 (λb hb h=>by omega);have e0:∀ b,(w9:Q)<=b->¬ Is (J:Q) b:=λb hb h=>by omega
 have j1:Tr wB (w9:Q) aA cA [D0 xA nA yA,D1 zA kA uA]:=d7.out.1.fr b3 e0;have j2:CtO wB [D0 xA nA yA,D1 zA kA uA] ct2:=bh d7.out.2 b3 (λd Y ad e=>e0 _ ((d7.out.1.el d Y).fresh ad e));have j3:Recs wB d8 d9 [sxL0,sxL1]:=by
  obtain⟨x,y,hv,hr,_⟩:=bx (l:=[sxL0,sxL1]) (v:=ap d8 2 d9) F (zMi wB);cases hv;exact hr
 have z:=zHT aA d8 ab ab cA d9 0 0 (w9:Q) 0 [D0 xA nA yA,D1 zA kA uA] [sxL0,sxL1] (λd=>ct2 d.index) [] [] wB j1 (by simp) j3 (HE.out.from h8 j0.out) (az _) (az _) (by simp) (by simp) (j2.txs (λd Y=>by
  rcases List.mem_cons.1 Y with rfl|Y
  .exact zE9
  .obtain rfl:=List.mem_singleton.1 Y;exact zGt)) (sxI1 (D0 xA nA yA) (D1 zA kA uA))
  (λr S M k5 S' M' G' h1 h2 h3=>by
   rw[zOB]at h2;exact(zF2 ⟨rfl,rfl,rfl,rfl,rfl⟩ ⟨rfl,rfl,rfl,rfl⟩ h1 h2).1 h3) (λr S M k5 h=>zNQ h) (.inl ⟨rfl,src1 xA zA nA yA kA uA,rfl,rfl⟩)
 clear F I i8 i9 b3 e0 j1 j2 j3;refine z.mono ?_;rintro e wC ⟨⟨mC,cC,rC,SC,MC,GC,p5,p6,p7,rfl,j4,j5,j6,e1,d1⟩,j7⟩;rw[zOB]at e1;obtain rfl:=(zF2 ⟨rfl,rfl,rfl,rfl,rfl⟩ ⟨rfl,rfl,rfl,rfl⟩ j6 e1).2 d1;have m4:B (Fr No w wC):=(j0.out.step j7 zn).mono (λb hb h=>by unfold From at h;have:=k0.out;omega);obtain⟨p8,m5,u2,rfl,j8,⟨m0,m1,m2,m3⟩,m9⟩:=j4.elem (k:=1) (by simp);obtain rfl:u2=sxW 2:=by simpa using j8.symm
 unfold sxW sxM sxX at m0 m1 m2 m3;simp only[Nat.one_mul]at m0 m1 m2 m3;clear z j4 j5 j6 e1 d1 j7 j8
 go_wp2_with fail
 go_ret;exact⟨by simp,m4.out⟩
structure StK (W:al)(tb sb:Q)(ka ea:aq ar)(kc ec:Q)(K E:af ae):Prop where
 box:W.heap[sb]?=ah (ay #[ap ka K.length kc,ax ai 0] 41)
 ks:Strs W ka kc K
 es:Strs W ea ec E
 kt:BlkT W ka 9
 et:BlkT W ea 9
 kf:∀ ad,ka=ah ad->tb<ad.block
 ef:∀ ad,ea=ah ad->tb<ad.block
 sf:tb<sb
section
variable {W W':al}{tb sb:Q}{ka ea:aq ar}{kc ec:Q}{K E:af ae}
theorem StK.fr {S:Q->Prop}(h:StK W tb sb ka ea kc ec K E)(u:Fr S W W')(z:¬ S sb)(v:∀ o,ka=ah o->¬ S o.block)(y:∀ o,ea=ah o->¬ S o.block):StK W' tb sb ka ea kc ec K E:=
 ⟨u.heap h.box z,h.ks.fr u (λo e _=>v o e),h.es.fr u (λo e _=>y o e),h.kt.fr u v,h.et.fr u y,h.kf,h.ef,h.sf⟩
theorem StK.no (h:StK W tb sb ka ea kc ec K E)(o:Fr No W W'):StK W' tb sb ka ea kc ec K E:=h.fr o id (λ_ _=>id) (λ_ _=>id)
theorem StK.tape (h:StK W tb sb ka ea kc ec K E)(u:Fr (Is tb) W W'):StK W' tb sb ka ea kc ec K E:=
 h.fr u (λe=>by have:=h.sf;omega) (λo e v=>by have:=h.kf o e;omega) (λo e v=>by have:=h.ef o e;omega)
theorem StK.ev {y o:Q}(h:StK W tb sb ka ea kc ec K E)(u:EvF y o W W'){cs:Array Value}(v:W.heap[y]?=ah (ay cs 60)):StK W' tb sb ka ea kc ec K E:=by
 refine h.fr u (λz=>?_) (u.bt h.kt v (by decide) (by decide)) (u.bt h.et v (by decide) (by decide));exact u.bt (a:=ah ⟨sb,0,ab⟩) (T:=41) (λA e=>by cases e;exact⟨_,h.box⟩) v (by decide) (by decide) _ rfl z
end
theorem zHx: InU ⟨#[102,115,58,111,108,100,58]⟩:=.inr (.inr ⟨cO,au (i:=18) rfl,zAc.1 (by kernel_rfl)⟩)
theorem zLx: (⟨#[109,100,45,114]⟩:ae)∈rootN:=au (i:=4) rfl
theorem zLh: diskN 1∈rootN:=zEw (by decide) (by decide)
theorem zOi: (⟨#[115,100,98,112,57]⟩:ae)∈parN (diskN 1):=au (i:=2) (by kernel_rfl)
theorem zIQ {k:Q}:diskN k≠⟨#[109,100,45,114]⟩/\diskN k≠⟨#[115,100,98,112,57]⟩:=by
 constructor
 .intro e;have h:=aj (λb:ae=>b.data.toList.length) e;simp[diskN]at h
 .intro e;have h:=aj (λb:ae=>b.data.toList.length) e;simp[diskN]at h
theorem accepted_walk (la:aq ar)(lc:Q)(l:af ag)(w:al)(hl:Ints w la lc l)(hE:Env w):
  Calls ba 3 #[.slice la l.length lc] w λe w'=>e=.returned (.bool am)/\Fr No w w':=by
 have h9:=hE.sz;obtain⟨W1,d7,f1,-⟩:=zy w (ay #[.slice la l.length lc,.int ai 0] 25);have k2:Tape W1 (w:Q) (w:Q) 0:=by rw[d7];exact Tape.make hl 25
 have v2:(W1:Q)=(w:Q)+1:=by rw[d7];simp
 have Y:=zh hE;have k3:B (Fr (From (w:Q)) w W1):=f1.mono zn;have z8:l.length<=9223372036854775807:=by have h1:=hl.len;have h2:=hl.max;unfold maxLen at h2;omega
 clear hl hE f1
 go_enter Tryz.func3,Tryz.ntmps3
 go_upto_region 2 with(fail)
 rw[<-d7];clear d7
 go_wp2_with fail
 refine(zOu W1).mono ?_;rintro e w2 ⟨rfl,d8⟩;have f2:Fr No W1 w2:=by rw[d8];exact(bf _ _).alloc _
 have k4:KSt w2 (W1:Q) ((W1:Q)+1) ab 0 [] ab 0 0 0:=by rw[d8];exact KSt.new W1 _
 have v3:(w2:Q)=(W1:Q)+1:=by rw[d8];simp
 have k6:B (KA w2 (W1:Q) ((W1:Q)+1) [] (λ_=>⟨#[]⟩) 0 0):=⟨ab,0,[],ab,0,0,k4,rfl,(λd hd=>by simp at hd),by omega⟩
 have k7:B (Tape w2 (w:Q) (w:Q) 0):=k2.fr f2 (λ_ _=>id) id;have j0:B (Fr (From (w:Q)) w w2):=k3.out.step f2 zn;obtain⟨z,k9⟩:∃ z,z=(W1:Q):=⟨_,rfl⟩
 obtain⟨tb,j1⟩:∃ tb,tb=(w:Q):=⟨_,rfl⟩
 have v4:z=tb+1:=by omega
 have v5:=zh j1;have v6:z+1<=(w2:Q):=by omega
 have z9:tb<z:=by omega
 have h8:8<tb:=by omega
 rw[<-k9]at k6 ⊢;rw[<-j1]at k7 j0 ⊢;have g8:=j0;clear d8 f2 k4 k2 v3 v2 k9 v4 j1 k3 j0;have N:=zNq z (z+1) tb 0 (λ_=>⟨#[]⟩) w2 k6.out k7.out (by omega) (by omega) v6 (Y.out.from h8 g8.out) h8 (by omega)
 go_wp2_with fail
 refine N.mono ?_;rintro e w3 ⟨⟨sa,sn,sc,L,ct,ix,n,m,kk,rfl,l0,l2,l3,v7,D2,j2,v8,v9,D3,l4⟩,F⟩;have b3:=zg2 l2 l3;have w0:B (Fr (From tb) w w3):=g8.out.step F zi;have s3:=F.size;have l5:=zh l0;have x0:=zh l4;clear N l0 l2 l3 l4 F;have N:=zHD ⟨#[109,100,45,114]⟩ ⟨#[102,115,58,111,108,100,58]⟩ 50 w3 zHx
 go_wp2_with fail
 refine N.mono ?_;rintro e w4 ⟨⟨aa,ac,rfl,hA⟩,A⟩;have s4:=A.size;have l6:B (Fr (From tb) w w4):=w0.out.step A zn;have d9:=zh (λe (he:e∈L)=>b3.out.2.el e he);have I:=zGR z (z+1) n L ct ix 0 ⟨#[]⟩ ⟨#[]⟩ ⟨#[]⟩ ⟨#[102,115,58,111,108,100,58]⟩ ⟨0,0,⟨#[]⟩,⟨#[109,100,45,114]⟩,zS,⟨#[]⟩,⟨#[]⟩,2,50,aa,(cAtt ⟨#[102,115,58,111,108,100,58]⟩).length,ac⟩ w4 (l5.out.no (by omega) A) b3.out.1 (Y.out.from h8 l6.out) (by omega) (by omega) (by omega) (by omega) hA rfl ⟨rfl,rfl,rfl,by show (1:ag)<=50;decide,by show (50:ag)<=2000000;decide⟩ (.inl ⟨zHR b3.out.1,rfl,rfl⟩) (.inl ⟨rfl,zLx⟩) zHx (λh=>bb rfl h) (λe he=>by
  obtain⟨_,k,_,g3,g4,g5⟩:=d9.out e he;exact⟨by rw[g5];exact zIQ.1,by show e.num≠50;omega⟩)
 have x2:B (Tape w4 tb tb kk):=x0.out.fr A (λ_ _=>id) id;clear N hA A;unfold ocs at I
 go_wp2_with fail
 refine I.mono ?_;rintro e w5 ⟨rfl,j3,j4,e0⟩;have x3:B (Tape w5 tb tb kk):=bj e0 (by omega) (by omega) x2.out;have x4:B (Fr (From tb) w w5):=l6.out.step (EvF.from e0 (by omega) (by omega)) zi;have s5:=bc e0;obtain⟨L5,e4⟩:∃ L5,L5=insAt L (insK L (addD ⟨0,0,⟨#[]⟩,⟨#[109,100,45,114]⟩,zS,⟨#[]⟩,⟨#[]⟩,2,50,aa,(cAtt ⟨#[102,115,58,111,108,100,58]⟩).length,ac⟩ ix 0)) (strip (addD ⟨0,0,⟨#[]⟩,⟨#[109,100,45,114]⟩,zS,⟨#[]⟩,⟨#[]⟩,2,50,aa,(cAtt ⟨#[102,115,58,111,108,100,58]⟩).length,ac⟩ ix 0)):=⟨_,rfl⟩
 obtain⟨e5,g9⟩:∃ e5,e5=updC ct (ix+1) ⟨#[102,115,58,111,108,100,58]⟩:=⟨_,rfl⟩
 have l7:B (∀ e∈L5,e.orig≠⟨#[115,100,98,112,57]⟩/\e.num≠51):=λe he=>by
  rw[e4]at he;rcases zX.1 he with rfl|he
  .exact⟨by show (⟨#[109,100,45,114]⟩:ae)≠_;decide,by show (50:ag)≠51;decide⟩
  .obtain⟨_,k,_,g3,g4,g5⟩:=d9.out e he;exact⟨by rw[g5];exact zIQ.2,by omega⟩
 obtain⟨r,l8,l9,j5⟩:∃ r∈L5,r.orig=diskN 1/\r.parent=0:=by
  obtain⟨e,he,ho⟩:=b3.out.2.has 1 (by omega) v7;exact⟨e,by rw[e4];exact zX.2 (.inr he),ho,(d9.out e he).1⟩
 rw[<-e4,<-g9]at j3 j4;have e6:=zh j4;have m1:=zh j3;have V:=zg3 l8 l9 j5;clear I j3 j4 e0 e4 g9 l8 l9 j5;have N:=zKT ⟨#[115,100,98,112,57]⟩ 51 w5;unfold ocs at N;dsimp only at N
 go_upto_region 7 with(fail)
 go_wp2_with fail
 refine N.mono ?_;rintro e w6 ⟨rfl,y⟩;have s6:=y.size;have m2:B (Fr (From tb) w w6):=x4.out.step y zn;have x5:B (Tape w6 tb tb kk):=x3.out.fr y (λ_ _=>id) id;have m3:(⟨#[47,115,100,98]⟩:ae)=plc L5 r.index:=by
  rw[zCR e6.out V.out.1 V.out.2.2,V.out.2.1];kernel_rfl
 have h0:ParIs L5 ⟨#[47,115,100,98]⟩ r.index:=.inr ⟨r,by rw[m3];exact zGi e6.out.wf V.out.1,rfl⟩;have I:=zGR z (z+1) (n+1) L5 e5 (ix+1) r.index ⟨#[47,115,100,98]⟩ ⟨#[]⟩ ⟨#[]⟩ ⟨#[]⟩ ⟨0,0,⟨#[]⟩,⟨#[115,100,98,112,57]⟩,zS,⟨#[]⟩,⟨#[]⟩,2,51,ab,0,0⟩ w6 (m1.out.no (by omega) y) e6.out (Y.out.from h8 m2.out) (by omega) (by omega) (by omega) (by omega) (by have:cAtt ⟨#[]⟩=[]:=(by kernel_rfl);rw[this];exact bi _) (by kernel_rfl) ⟨rfl,rfl,rfl,by show (1:ag)<=51;decide,by show (51:ag)<=2000000;decide⟩ h0 (.inr ⟨r,V.out.1,rfl,V.out.2.2,by rw[V.out.2.1];exact zLh,by rw[V.out.2.1];exact zOi⟩) zBj (λ_=>zDy) l7.out;unfold ocs at I;clear N y h0 m3;have x6:∀ W:al,(Instr.field 38 (.agg #[.int ai 1,.string ⟨#[]⟩,.int ai 0,.int ai 0,.string ⟨#[]⟩,.string ⟨#[115,100,98,112,57]⟩,.string zS,.string ⟨#[]⟩,.string ⟨#[]⟩,.int ai 2,.int ai 51,.slice ab 0 0,.string ⟨#[]⟩,.string ⟨#[]⟩]) 2).run ba W=.ok (.agg #[.int ai 0,.int ai 0,.string ⟨#[]⟩,.string ⟨#[115,100,98,112,57]⟩,.string zS,.string ⟨#[]⟩,.string ⟨#[]⟩,.int ai 2,.int ai 51,.slice ab 0 0]) W:=by intros;kernel_rfl
 go_wp2_with fail
 refine I.mono ?_;rintro e w7 ⟨rfl,e7,e8,e9⟩;have x7:B (Tape w7 tb tb kk):=bj e9 (by omega) (by omega) x5.out;have x8:B (Fr (From tb) w w7):=m2.out.step (EvF.from e9 (by omega) (by omega)) zi;have s7:=bc e9;generalize insAt L5 (insK L5 (addD ⟨0,0,⟨#[]⟩,⟨#[115,100,98,112,57]⟩,zS,⟨#[]⟩,⟨#[]⟩,2,51,ab,0,0⟩ (ix+1) r.index)) (strip (addD ⟨0,0,⟨#[]⟩,⟨#[115,100,98,112,57]⟩,zS,⟨#[]⟩,⟨#[]⟩,2,51,ab,0,0⟩ (ix+1) r.index))=L7 at e7 e8;generalize updC e5 (ix+1+1) ⟨#[]⟩=ct7 at e7 e8;have m4:=zh e8;have x9:=zh e7;clear I e7 e8 e9 x6 b3 l5 d9 l7 V e6 m1;have a3:=zKR tb kk w7 x7.out (by omega)
 go_wp2_with fail
 refine a3.mono ?_;rintro e w8 ⟨⟨ka,ea,kc,ec,k8,b1,E,rfl,m5,m6,m7,m8,m9,n4,n5,D4,D5,n6⟩,O⟩;obtain⟨W9,n7,f9,b9⟩:=zy w8 (ay #[.slice ka b1.length kc,.int ai 0] 41);have s8:=O.size;have s9:=zC b9;have b4:B (StK W9 tb (w8:Q) ka ea kc ec b1 E):=⟨b9,m5.no f9 (λ_=>id),m6.no f9 (λ_=>id),m7.fr f9 (λ_ _=>id),m8.fr f9 (λ_ _=>id),λad e=>by have:=m9 ad e;omega,λad e=>by have:=n4 ad e;omega,by omega⟩
 have g0:B (Tape W9 tb tb k8):=n6.fr f9 (λ_ _=>id) id;have g1:B (KA W9 z (z+1) L7 ct7 (ix+1+1) (n+1+1)):=(x9.out.low (by omega) O (λb hb _ h=>by omega)).no (by omega) f9;have g2:B (Fr (From tb) w W9):=(x8.out.step O (λb _ h=>by omega)).step f9 zn;have y0:=zh n5;obtain⟨sb,j6⟩:∃ sb,sb=(w8:Q):=⟨_,rfl⟩
 have A0:sb<(W9:Q):=by omega
 rw[<-j6]at b4;clear a3 m5 m6 m7 m8 m9 n4 n5 n6 O f9 b9
 go_upto_region 9 with(fail)
 rw[<-n7,<-j6];clear n7 j6;have b5:=zAg tb tb k8 4 W9 g0.out (by omega) (by omega) (by omega)
 go_wp2_with fail
 refine b5.mono ?_;rintro e n8 ⟨A1,rfl,y1,D6,h3,Z⟩;obtain⟨A1,rfl⟩:=Int.eq_ofNat_of_zero_le y1;have D7:=Z.size;have h4:=zh (b4.out.tape Z);have h5:B (KA n8 z (z+1) L7 ct7 (ix+1+1) (n+1+1)):=g1.out.low (by omega) Z (λb hb _ h=>by omega);have h6:=zh h3;have h7:B (Fr (From tb) w n8):=g2.out.step Z (λb _ h=>by omega);obtain⟨m0,y2⟩:∃ m0,m0=A1+1:=⟨_,rfl⟩
 have A2:m0<=4:=by omega
 clear b5 h3 Z b4 g1 g0 g2
 go_wp2_with fail
 go_loopw [8] (λx wr=>∃ (i nn a7:Q) (L:af Dev) (ct:ag->ae) (ix:ag),i<=m0/\x=.int ai (i:ag)/\0<=ix/\ix+44*i<=6+44*m0/\nn+5940*i<=6+5940*m0/\a7+89*i<=k8+1+89*m0/\sb<(wr:Q)/\z+1<=(wr:Q)/\B (KA wr z (z+1) L ct ix nn)/\B (UOk L ct ix)/\B (StK wr tb sb ka ea kc ec b1 E)/\B (Tape wr tb tb a7)/\B (Fr (From tb) w wr)) (λx _=>(intOf x).toNat)
 case atStart=>exact⟨m0,n+1+1,k8+1,L7,ct7,ix+1+1,by omega,by rw[y2];first|rfl|(go_num;done)|(simp;done)|(simp;omega),by omega,by omega,by omega,by omega,by omega,by omega,h5,m4,h4,h6,h7⟩
 case round=>
  clear h5 m4 h4 h6 h7 j2 v8 v9;obtain⟨i,nn,a7,L,ct,ix,D8,rfl,j2,D9,F0,A3,A4,A5,HK,HU,HS,HT,HF⟩:=hrel;obtain⟨wA,rfl⟩:∃ wA,wA=wr:=⟨_,rfl⟩
  by_cases F1:0<i
  .obtain⟨j,rfl⟩:∃ j,i=j+1:=⟨i-1,by omega⟩
   have A6:(0:ag)<((j+1:Q):ag):=by omega
   have I0:=HU.out.len;have J:=zD1 z (z+1) nn L ct ix wA HK.out (by omega)
   go_wp2_with fail
   refine J.mono ?_;rintro e w1 ⟨⟨ta,tc,ds,rfl,n9,p0,p1,a3⟩,a8⟩;have I1:ds.length<=44:=by have h:=aj bn a3;rw[bo]at h;omega
   have p2:B (UOk (ds.map strip) ct ix):=by rw[a3];exact HU.out
   obtain⟨W2,p3,f2,b2⟩:=zy w1 (ay #[.slice ta ds.length tc] 47);have s1:=a8.size;have s2:=zC b2;have F2:=zh (a8.step f2 zi);have g6:=zg4 (n9.no f2) (p0.fr f2 (λ_ _=>id)) (AttOf.no p1 f2) b2;have y3:=zh a3;clear J n9 p0 p1 a3 a8 f2 b2
   go_upto_region 13 with(fail)
   rw[<-p3];clear p3;refine zQ (TB tb (W2:Q)) [(0,ao),(1,ao),(2,ao),(3,ao),(7,ao),(8,ao),(4,am),(5,ao),(6,am),(9,am),(10,ao)] (by kernel_rfl) (by kernel_rfl) (λw3 F=>?_);have F3:=zh (F2.out.step F zi);have S3:B (StK w3 tb sb ka ea kc ec b1 E):=HS.out.no F3.out;have d2:=F.heap g6.out.2.2.2 id;have d3:=S3.out.box;have n2:¬ TB tb (W2:Q) (w1:Q):=by omega
   have n3:¬ TB tb (W2:Q) sb:=by have:=HS.out.sf;omega
   have t2:∀ g:Gr (TB tb (W2:Q)) w3,g.W.cell? ⟨w1,0,ab⟩=ah (.slice ta ds.length tc):=λg=>zB (g.fr.heap d2 n2) 0
   have t4:∀ g:Gr (TB tb (W2:Q)) w3,g.W.cell? ⟨sb,0,ab⟩=ah (.slice ka b1.length kc):=λg=>zB (g.fr.heap d3 n3) 0
   have t5:∀ g:Gr (TB tb (W2:Q)) w3,g.W.cell? ⟨sb,1,ab⟩=ah (.int ai 0):=λg=>zB (g.fr.heap d3 n3) 1
   have T3:B (Tape w3 tb tb a7):=HT.out.fr F3.out (λ_ _=>id) id;have b5:=zAg tb tb a7 2 w3 T3.out (by omega) (by omega) (by omega);have N2:=zh n2;have s3:=F.size;have a9:=zg4 (g6.out.1.no F) (g6.out.2.1.fr F (λ_ _=>id)) (AttOf.no g6.out.2.2.1 F) d2;clear d2 d3 n2 n3 F
   repeat((first|apply zT rfl rfl rfl|apply zU rfl rfl rfl);intro b1 hK;go_big_quiet_op;go_big_quiet_on)
   clear t2 t4 t5;apply zt;exact rfl
   go_wp2_with fail
   refine b5.mono ?_;rintro e w4 ⟨r,rfl,j5,I2,p4,A⟩;have F4:B (Fr (Is tb) wA w4):=(F3.out.mono zn).step A zi;have b6:∀ b,TrF ta ds b->¬ Is tb b:=λb hb h=>by
    unfold Is at h;rcases hb with⟨ad,e,rfl⟩|⟨x,hx,ad,e,rfl⟩
    .have:=a9.out.1.fresh ad e;omega
    .have:=(a9.out.1.el x hx).fresh ad e;omega
   have j7:∀ x∈ds,∀ ad,x.aa=ah ad->¬ Is tb ad.block:=λx hx ad e=>b6 _ (.inr ⟨x,hx,ad,e,rfl⟩)
   have a4:=zg4 (a9.out.1.foot A b6) (a9.out.2.1.fr A b6) (bh a9.out.2.2.1 A j7) (A.heap a9.out.2.2.2 (λh=>by omega));have s4:=A.size;have i0:=zKS tb tb (a7+1) (r==0) ta tc ds w4 p4 (by omega) a4.out.1.dv a4.out.1.wf.ok (by omega) (λad e _ h=>by have:=a4.out.1.fresh ad e;omega);have j8:=zg2 b6 j7;clear b5 p4 b6 j7
   go_wp2_with fail
   refine OnlyN.mk ⟨A.mono (λb _ h=>.inl h),?_⟩;clear A
   repeat((first|apply zT rfl rfl rfl|apply zU rfl rfl rfl);intro b1 hK;go_big_quiet_op;go_big_quiet_on)
   apply zt;exact rfl
   go_wp2_with fail
   refine i0.mono ?_;rintro e w5 ⟨⟨ra,rc,R,k5,rfl,hR,I3,p5⟩,a2⟩;have F5:B (Fr (Is tb) wA w5):=F4.out.step a2 zi;have S5:B (StK w5 tb sb ka ea kc ec b1 E):=HS.out.tape F5.out;have b0:=zg4 (a4.out.1.foot a2 j8.out.1) (a4.out.2.1.fr a2 j8.out.1) (bh a4.out.2.2.1 a2 j8.out.2) (a2.heap a4.out.2.2.2 (λh=>by omega));have p6:B (Fr (From tb) w w5):=HF.out.step F5.out (λb _ h=>by omega);have s5:=a2.size;have T5:=zh p5;have b7:=zOV ta ra ka ea tc rc kc ec (wA:Q) 0 ds R E b1 ct ix w5 b0.out.1 p2.out b0.out.2.2.1 hR (Y.out.from h8 p6.out) S5.out.es S5.out.ks (by omega) (λx hx=>by
    have h1:x.size<=1:=c9 (List.all_eq_true.1 (show (keysS.all λx=>decide (x.size<=1))=am by kernel_rfl) x (y0.out x hx));unfold maxLen;omega)
   clear i0 hR p5
   go_wp2_with fail
   refine OnlyN.mk ⟨a2.mono (λb _ h=>.inl h),?_⟩;clear a2;apply zt;exact rfl
   go_wp2_with fail
   refine b7.mono ?_;rintro e w6 ⟨⟨ma,mc,M,rfl,hV,p7,p8,hM⟩,y⟩;have F6:B (Fr (Is tb) wA w6):=F5.out.step y zn;have d6:=y.heap b0.out.2.2.2 id;have c6:w6.cell? ⟨w1,0,ab⟩=ah (.slice ta ds.length tc):=zB d6 0;have p9:B (Fr (From tb) w w6):=p6.out.step y zn;have s6:=y.size;have r0:=zDN hM.v hM.d;have b8:=zMh (wA:Q) ta tc ds ct M ma mc ix w6 (b0.out.1.no y) p2.out hM ⟨j2,by omega⟩ (Y.out.from h8 p9.out) (b0.out.2.1.fr y (λ_ _=>id)) (AttOf.no b0.out.2.2.1 y) hV (by omega) (λ_ _ _=>True) trivial (λ_ _ _ _ _ _ _ _ _ _ _=>trivial);have HM:=zg5 hV p7 hM p8 r0;have T6:B (Tape w6 tb tb k5):=T5.out.fr y (λ_ _=>id) id;have I4:=zh y;clear b7 hV p7 p8 hM d6 r0
   go_wp2_with fail
   refine zm y ?_;clear y
   repeat((first|apply zT rfl rfl rfl|apply zU rfl rfl rfl);intro b1 hK;go_big_quiet_op;go_big_quiet_on)
   refine zb ?_
   go_wp2_with fail
   refine b8.mono ?_;rintro e w7 ⟨⟨U,av,cv,K2,ck,r1,i1,hD,A7,I5,_,rfl,i2,i3⟩,a5⟩;have F7:B (Fr (Is tb) wA w7):=F6.out.step a5 zn;have y4:B (Fr (From tb) w w7):=p9.out.step a5 zn;have K7:B (KA w7 z (z+1) L ct ix nn):=HK.out.low (by omega) F7.out (λb hb _ h=>by omega);have S7:B (StK w7 tb sb ka ea kc ec b1 E):=HS.out.tape F7.out;have T7:B (Tape w7 tb tb k5):=T6.out.fr a5 (λ_ _=>id) id;have M7:=zg3 (HM.out.1.no a5 (λ_=>id)) (HM.out.2.1.fr a5 (λ_ _=>id)) HM.out.2.2.1;have r2:B (KRun 44 L ct ix (U.drop 0) K2 ck r1):=by rw[List.drop_zero,<-y3.out];exact i1
   have r3:=zh hD;have r4:=zg2 i2 i3;have s7:=a5.size;obtain⟨A8,r5⟩:=K7.out.blk;have a6:=zh r5;clear b8 i1 hD i2 i3 a5 c6 r5
   go_wp2_with fail
   go_loopw [12] (λx wj=>∃ (jj nj:Q) (Lj:af Dev) (cj:ag->ae) (D:ag),jj<=U.length/\x=.int ai (jj:ag)/\nj<=nn+45*jj/\B (KRun 44 Lj cj D (U.drop jj) K2 ck r1)/\B (KA wj z (z+1) Lj cj D nj)/\B (EvF z (z+1) w7 wj)) (λx _=>U.length-(intOf x).toNat)
   case atStart=>exact⟨0,nn,L,ct,ix,by omega,rfl,by omega,r2,K7,EvF.no (bf _ _)⟩
   case round=>
    obtain⟨jj,nj,Lj,cj,D,I6,rfl,I7,r6,j9,X⟩:=hrel;obtain⟨wj,rfl⟩:∃ wj,wj=wr:=⟨_,rfl⟩
    have sj:=bc X.out;have r7:B (Fr (From tb) w wj):=y4.out.step (EvF.from X.out (by omega) (by omega)) zi;by_cases r8:jj<U.length
    .have k0:(jj:ag)<U.length:=by omega
     obtain⟨o,ho⟩:∃ o,U[jj]?=ah o:=⟨_,List.getElem?_eq_getElem r8⟩
     obtain⟨l1,x1,L1,c1,r9,i4,d0⟩:=KRun.step ho r6.out;have d1:=EvF.own X.out r4.out.1 a6.out (by decide) (by decide);have d4:=OpsOk.ev r4.out.2 X.out a6.out;obtain⟨b,I8,y5,⟨o0,o1,o2,o3,o4,o5,o6,o7,o8,o9,y6,y7,y8,y9⟩⟩:=zOm d1 rfl ho;obtain⟨s0,t0,_⟩:=d4 o (au ho);have I:=zPJ z (z+1) nj Lj L1 cj c1 D r9 o wj j9.out (Y.out.from h8 r7.out) (by omega) (by omega) (by omega) x1 (by omega) ⟨s0,t0⟩ i4;have z0:=zh d0;subst y5;unfold OpA.vals ocs at I;clear i4 d0 d1 d4 ho s0 t0
     go_wp2_with fail
     refine I.mono ?_;rintro e w8 ⟨⟨i9,rfl⟩,t7,t8⟩;have z1:=zh t7;have z2:B (EvF z (z+1) w7 w8):=EvF.trans X.out t8;clear I t7 t8 o0 o1 o2 o3 o4 o5 o6 o7 o8 o9 y6 y7 y8 y9
     go_wp2_with fail
     go_roundw
     case rel=>exact⟨jj+1,nj+Lj.length+1,L1,c1,r9,by omega,by go_num,by omega,z0,z1,z2⟩
     case measure=>simp[intOf];omega
    .obtain rfl:jj=U.length:=by omega
     have k0:¬ (U.length:ag)<U.length:=by omega
     obtain⟨e1,e2,e3⟩:=KRun.done r6.out;have J:=zD1 z (z+1) nj Lj cj D wj j9.out (by have:=r3.out.u.len;rw[e1]at this;omega);have k1:B (DoneP M Lj cj D):=by rw[<-e1,<-e2,<-e3];exact r3.out
     have A9:D<=ix+44:=by omega
     clear e1 e2 e3
     go_wp2_with fail
     refine J.mono ?_;rintro e w8 ⟨⟨z3,z4,z5,rfl,i5,i6,i7,i8⟩,O⟩;have t9:B (Fr (From tb) w w8):=r7.out.step O zn;have v0:Virs w8 ma mc M:=(M7.out.1.fr X.out (λad e _=>EvF.bt X.out M7.out.2.1 a6.out (by decide) (by decide) ad e)).no O (λ_=>id);have s8:=O.size;have d5:=zOW (wj:Q) z3 z4 z5 cj M ma mc D w8 i5 (by rw[i8];exact k1.out) M7.out.2.2.v M7.out.2.2.d (by omega) (Y.out.from h8 t9.out) i6 i7 v0 (by omega);have F8:=zh O;clear J i5 i6 i7 i8 O v0
     go_wp2_with fail
     refine d5.mono ?_;rintro e w9 ⟨⟨I9,J0,rfl⟩,g7⟩;have s9:=g7.size;have F9:=zh (F8.out.step g7 zi);have g1:B (KA w9 z (z+1) Lj cj D nj):=j9.out.no (by omega) F9.out;have b4:B (StK w9 tb sb ka ea kc ec b1 E):=(S7.out.ev X.out a6.out).no F9.out;have g0:B (Tape w9 tb tb k5):=(bj X.out (by omega) (by omega) T7.out).fr F9.out (λ_ _=>id) id;have g2:B (Fr (From tb) w w9):=t9.out.step g7 zn;have z6:B (UOk Lj cj D):=k1.out.u;have z7:0<=D:=k1.out.p;clear d5 g7
     go_wp2_with fail
     go_roundw
     case rel=>exact⟨j,nj,k5,Lj,cj,D,by omega,by first|(go_num;done)|(simp;done)|(simp;omega),z7,by omega,by omega,by omega,by omega,by omega,g1,z6,b4,g0,g2⟩
     case measure=>simp[intOf]
  .obtain rfl:i=0:=by omega
   have v1:=zNs wA (Y.out.from h8 HF.out)
   go_wp2_with fail
   refine v1.mono ?_;rintro e w1 ⟨rfl,a8⟩;have HR:B (Fr No w w1):=(HF.out.step a8 zn).mono (λb hb h=>by unfold From at h;have:=v5.out;omega);clear v1 a8
   go_wp2_with fail
   go_ret;exact⟨rfl,HR.out⟩
theorem gES: Tryz.prog.globalNamed "strconv.ErrSyntax" = ah 4:=by kernel_rfl
theorem zN1: (Tryz.prog.globals[4]?).map (·.type)=ah 249:=by kernel_rfl
theorem gER: Tryz.prog.globalNamed "strconv.ErrRange" = ah 5:=by kernel_rfl
theorem zN2: (Tryz.prog.globals[5]?).map (·.type)=ah 249:=by kernel_rfl
theorem cellsE: Tryz.prog.cellsOf 399=1:=by kernel_rfl
theorem cellsS: Tryz.prog.cellsOf 9=1:=by kernel_rfl
theorem starE: "*" ++ "errors.errorString" = "*errors.errorString" := by decide
theorem rowE (u:TypeId)(h:Tryz.prog.typeName? 3 u=ah "*errors.errorString"):u=397:=
 typeName_ptr_named (nm := "errors.errorString") (by rw[starE];kernel_rfl) (by kernel_rfl) (by decide) u (by rw[starE];exact h)
theorem gPow: Tryz.prog.globalNamed "internal/strconv.uint64pow10" = ah 6:=by kernel_rfl
theorem zMF: (Tryz.prog.globals[6]?).map (·.type)=ah 401:=by kernel_rfl
theorem gAcc: Tryz.prog.globalNamed "unicode.CaseRanges" = ah 1:=by kernel_rfl
theorem gD64: Tryz.prog.globalNamed "math/bits.deBruijn64tab" = ah 8:=by kernel_rfl
theorem cellsU: Tryz.prog.cellsOf 300=1:=by kernel_rfl
theorem cellsP: Tryz.prog.cellsOf 401=20:=by kernel_rfl
theorem zKQ {P:Program}{n:String}{d:DataW Unit}{r:af (String×DataW Unit)}{g:Q}(h:laidMet P ((n,d)::r) W)(v:P.globalNamed n=ah g):g<(W:Q):=by
 obtain⟨D,⟨F,I,y,J,N,O,z,A,u,_⟩,_⟩:=h;unfold World.var? at u;rw[v]at u;simp only[Option.bind_some]at u;cases hh:W.heap[g]? with
 | none=>simp[hh]at u
 | some o=>exact(Array.getElem?_eq_some_iff.1 hh).1
theorem env_of (u:W.ShapedOpen ba)(o:laidMet ba Rows.assemblyAcceptedRow.laid W):Env W:=by
 obtain⟨m,D⟩:=cell_of_shapedOpen_int (P:=ba) (g:=0) (t:=3) (zero:=#[ax ai 0]) u (c9 (by kernel_rfl)) (by kernel_rfl) rfl (by kernel_rfl) (by kernel_rfl) Tryz.underlying3;have h:=o.tail.tail.tail.tail;have O:=zKQ o.tail.tail.tail.tail.tail.tail gAcc;have R:=zKQ o.tail gD64;obtain⟨F,U,v,-,-,-⟩:=laid_sentinel h gER zN2 bz rowE c2 c3 rfl rfl c4 cellsE cellsS;obtain⟨y,I,z,-,-,-⟩:=laid_sentinel h.tail gES zN1 bz rowE c2 c3 rfl rfl c4 cellsE cellsS;have J:W.cell? ⟨4,0,ab⟩=ah (.iface 397 (.pointer (ah y))):=by have A:=c8 gES z 0;simpa using A
 have N:W.cell? ⟨5,0,ab⟩=ah (.iface 397 (.pointer (ah F))):=by have A:=c8 gER v 0;simpa using A
 exact⟨⟨m,D⟩,⟨⟨_,J,.inr ⟨_,_,rfl⟩⟩,⟨_,N,.inr ⟨_,_,rfl⟩⟩⟩,Lib.tabIs_of_head gPow zMF Tryz.underlying401 Tryz.underlying300 cellsU cellsP o.tail.tail,by omega⟩
section
variable {H:Type}{enc:TypeId×Value->H}
theorem returns_laid_sized {a:Assume}{C:Checked}{os:Os}{f:FuncId}{fn:Func}{s:ChangeSpec}{A:af PathCond}{h D y F:Bool}{X:al->Array Value->Prop}
  (hX:∀ (w w':al) (args:Array Value),w.heap=w'.heap->X w args->X w' args)
  (a5:ownKnob C.prog.godebug=ab) (I:os.Started) (N:C.prog.inits.idxOf? f=ab) (a6:C.prog.funcs[f]?=ah fn)
  (J:∃ (w:al) (o:Go.Tape) (i:Input),w.os=os/\(w.forCall o i).Shaped C.prog/\i.vars=[]/\Input.okWide C.prog (w.forCall o i) .any (w:Q) f i/\
   ((s.pre enc C.prog fn A h (w.forCall o i).memory i.args/\X (w.forCall o i).memory i.args)/\sizedMet enc C.prog fn (br s) h (w.forCall o i).memory i.args)/\a.holds C.prog (lone (Frame.enter C.prog f i.args .normal) [] (w.forCall o i)))
  (z:∀ (W:al) (U:Q) (args:Array Value) (O R:af (DataW H)) (u:af MemPlace),
   (∀ (j:Q) t v,fn.params[j]?=ah t->args[j]?=ah v->Value.okWide C.prog W .any U t v)->
   DataW.Whole enc C.prog fn.params.toList s.vars h W args.toList O R u->
   (DataW.weightsEach C.prog (fn.params.toList++(br s).bare.plain.varTypes C.prog) (O++R)).all (·<=reachBytes)=am->
   X W args->W.ShapedOpen C.prog->
   Calls C.prog f args W λe W'=>∃ v,e=.returned v/\s.post enc C.prog fn h D y F W args v W'):
  ReturnsInHanded a C os f .any (λw args=>(s.pre enc C.prog fn A h w args/\X w args)/\sizedMet enc C.prog fn (br s) h w args) (s.post enc C.prog fn h D y F):=by
 refine returnsInHanded_of_calls a5 I N J ?_;intro w o i _ a7 _ a8 V a3;obtain⟨_,_,_,a9,Y,_,_,_,_,Z⟩:=a8;have e:a9=fn:=Option.some.inj (Y.symm.trans a6);subst e;obtain⟨⟨⟨ds,gs,a4,hw,hc⟩,hx⟩,_,O,R,u,b0,hz⟩:=V;have a2:=DataW.Whole.of_heap (w':=w.forCall o i) (by rfl) b0;refine(z (w.forCall o i) (w:Q) i.args O R u Z a2 hz (hX _ _ _ (by rfl) hx) a7).mono λe W' ⟨v,he,hp⟩=>?_
 subst he;exact ChangeSpec.post_blind hp
end
end Go.Proofs.YtckkocmhlhefpaaGreatDoor
