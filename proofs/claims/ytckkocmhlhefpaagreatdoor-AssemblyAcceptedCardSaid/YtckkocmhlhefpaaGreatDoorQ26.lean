import Derived.Test.YtckkocmhlhefpaaGreatDoorQ25
import Derived.ArgAppend
import Derived.Test.YtckkocmhlhefpaaGreatDoorQ24
namespace Go.Proofs.YtckkocmhlhefpaaGreatDoor
open Go.RowKit Go.Maps Go.Shelf
set_option linter.unusedVariables false
set_option maxRecDepth 100000
set_option maxHeartbeats 4000000
open Atts renaming of_own->bo
open Dev renaming vals->ay
open Fr renaming refl->ao,putObj->bc
open Go renaming World->ab,maxLen->al,Calls->am,Addr->ar,Value->ax,plainElem->az,Program->bd,info_parts->bn
open Go.Lib renaming compareBytes->bp
open Go.Proofs renaming intOf->au
open Go.Proofs.Tryz renaming prog->ah,underlying34->be,func128->br,func177->bs,ntmps128->bt,ntmps177->bu
open Go.RowKit renaming Hid->ak
open Go.Value renaming agg->bv
open Go.World renaming size_alloc->bf,putObj_heap_other->bm,alloc_heap_new->bw,putObj_heap_same->bx
open IntKind renaming i64->M
open Obj renaming cells->ae
open Value renaming string->q,slice->K,int->L,agg->ap
open _root_ renaming Nat->C,Int->af,ByteArray->ai,List->aj,Option->aq,Array->aw
open _root_.Bool renaming false->ag
open _root_.ByteArray renaming empty->ba
open _root_.List renaming length_set->bg
open _root_.Nat renaming le_refl->bh,le_trans->bi,zero_le->bj,lt_of_lt_of_le->bq
open _root_.Option renaming none->E,some->G
variable{a:Act}{o c1 n N:C}{w W w':ab}{v:ai}{a1 u:aq ar}{P:bd}{Q:Exit->Act->ab->Prop}{H:Type}{f:af->Bool}
def zS : ai:=⟨#[98,108,111,99,107]⟩
def zM : ai:=⟨#[99,111,110,116,101,110,116]⟩
theorem zOq (nm c:ai)(o:af)(w:ab)(hc:c.toList.isEmpty=ag)(a2:c.size<=al):
  am ah 7 #[q nm,L M o,q c] w λe w'=>(∃ b,e=.returned (ap (ocs 1 ⟨#[]⟩ ⟨0,0,⟨#[]⟩,nm,zS,⟨#[]⟩,⟨#[]⟩,2,o,G ⟨b,0,E⟩,1,1⟩ ⟨#[]⟩ ⟨#[]⟩))/\Atts w' (G ⟨b,0,E⟩) 1 [(zM,c)]/\BlkT w' (G ⟨b,0,E⟩) 78/\(w:C)<=b)/\Fr No w w':=by
 obtain⟨W0,z,f0,a0⟩:=zy w (ae (ocs 0 ⟨#[]⟩ ⟨0,0,⟨#[]⟩,⟨#[]⟩,⟨#[]⟩,⟨#[]⟩,⟨#[]⟩,0,0,E,0,0⟩ ⟨#[]⟩ ⟨#[]⟩) 38);obtain⟨W1,u,X,-⟩:=zy W0 (ae (ay ⟨0,0,⟨#[]⟩,nm,zS,⟨#[]⟩,⟨#[]⟩,2,o,E,0,0⟩) 36);obtain⟨Y,A,N,-⟩:=zy W1 (ae #[q zM,q c] 78);obtain⟨D,y⟩:∃ D,D=Y.setCell ⟨(w:C)+1,9,E⟩ (K (G ⟨(w:C)+2,0,E⟩) 1 1):=⟨_,rfl⟩
 have O:(W0:C)=(w:C)+1:=by rw[z];simp
 have Z:(W1:C)=(w:C)+2:=by rw[u,bf,O]
 have R:Fr (Is ((w:C)+1)) Y D:=by rw[y];exact Fr.setAt (ao _ _) _
 have d1:W1.heap[(w:C)+1]?=G (ae (ay ⟨0,0,⟨#[]⟩,nm,zS,⟨#[]⟩,⟨#[]⟩,2,o,E,0,0⟩) 36):=by rw[u,<-O];exact zF _ _
 have e2:Y.heap[(w:C)+2]?=G (ae #[q zM,q c] 78):=by rw[A,<-Z];exact zF _ _
 have d2:=N.heap d1 id;have d3:D.heap[(w:C)+1]?=G (ae (ay ⟨0,0,⟨#[]⟩,nm,zS,⟨#[]⟩,⟨#[]⟩,2,o,G ⟨(w:C)+2,0,E⟩,1,1⟩) 36):=by rw[y];exact zE d2 9 _
 have e3:=R.heap e2 (λh=>by omega);have I:=R.heap (N.heap (X.heap a0 id) id) (λh=>by omega);have z9:Y.cell? ⟨(w:C)+1,9,E⟩=G (K E 0 0):=(DevB.of d2).c9;have y9:=zD d2 9;have HF:ak (∀ U,Fr (Is (w:C)) D U->(∃ b,bv (ocs 1 ⟨#[]⟩ ⟨0,0,⟨#[]⟩,nm,zS,⟨#[]⟩,⟨#[]⟩,2,o,G ⟨(w:C)+2,0,E⟩,1,1⟩ ⟨#[]⟩ ⟨#[]⟩)=bv (ocs 1 ⟨#[]⟩ ⟨0,0,⟨#[]⟩,nm,zS,⟨#[]⟩,⟨#[]⟩,2,o,G ⟨b,0,E⟩,1,1⟩ ⟨#[]⟩ ⟨#[]⟩)/\Atts U (G ⟨b,0,E⟩) 1 [(zM,c)]/\BlkT U (G ⟨b,0,E⟩) 78/\(w:C)<=b)/\Fr No w U):=by
  intro U hf;have e4:=hf.heap e3 (λh=>by omega);refine⟨⟨(w:C)+2,rfl,⟨bh _,by unfold al;omega,(λe=>by cases e),(λx hx=>by simp at hx;subst hx;exact⟨(by decide:zM.size<=al),a2⟩),λad e _=>by
   cases e;refine⟨rfl,zC e4,λi x J=>?_⟩;rcases i with _|i
   .simp at J;subst J;exact⟨zB e4 0,zB e4 1⟩
   .simp at J⟩,λad e=>by cases e;exact⟨_,e4⟩,by omega⟩,?_⟩
  exact((f0.step X zi).step ((N.mono (T:=Is ((w:C)+1)) zn).step R zi) (λb F h=>by omega)).step hf (λb F h=>by omega)
 have H:=zg2 d3 I;have H0:=zh O;have S1:=zh Z;have HX:=zg4 d3 e3 I ((f0.step X zi).step ((N.mono (T:=Is ((w:C)+1)) zn).step R zi) (λb F h=>by omega));unfold ay at u;unfold ocs at z;rw[<-O]at y z9 y9;unfold zS at u;unfold zM at A;rw[<-Z]at y;rw[A]at y z9 y9;dsimp only at z u;clear a0 d1 e2 d2 d3 e3 I f0 X N R O Z
 go_enter Tryz.func7,Tryz.ntmps7
 go_upto_region 1 with(fail)
 rw[<-z];clear z
 go_upto_region 2 with(fail)
 rw[<-u];clear u
 go_upto_region 4 with(fail)
 rw[<-y];clear y A z9 y9 HX;have D3:=H.out.1;rw[<-H0.out]at D3;obtain⟨c0,c1,c2,c3,c4,c5,c6,c7,c8,c9⟩:=DevB.of D3;have I:=H.out.2;clear D3;have J:(Tryz.prog.info? 38).map (·.size)=G 14:=by kernel_rfl
 have hu:=Tryz.underlying38;have A3:=zh I;clear I;have hg:=setRow_heap D (w:C) _ #[L M 1,q ⟨#[]⟩,L M 0,L M 0,q ⟨#[]⟩,q nm,q zS,q ⟨#[]⟩,q ⟨#[]⟩,L M 2,L M o,K (G ⟨(w:C)+2,0,E⟩) 1 1,q ⟨#[]⟩,q ⟨#[]⟩] 38 (0,0) A3.out;have HG:=zh hg;clear hg;have V:Array.all (#[L M 1,q ⟨#[]⟩,L M 0,L M 0,q ⟨#[]⟩,q nm,q zS,q ⟨#[]⟩,q ⟨#[]⟩,L M 2,L M o,K (G ⟨(w:C)+2,0,E⟩) 1 1,q ⟨#[]⟩,q ⟨#[]⟩]:aw ax) (·.oneCell')=true:=by simp[Value.oneCell']
 go_wp2_with (refine wpList_store_row rfl 38 _ _ rfl (w:C) #[L M 1,q ⟨#[]⟩,L M 0,L M 0,q ⟨#[]⟩,q nm,q zS,q ⟨#[]⟩,q ⟨#[]⟩,L M 2,L M o,K (G ⟨(w:C)+2,0,E⟩) 1 1,q ⟨#[]⟩,q ⟨#[]⟩] rfl rfl 38 _ A3.out J rfl V ?_)
 refine bodyPost_ret (v:=ap #[L M 1,q ⟨#[]⟩,L M 0,L M 0,q ⟨#[]⟩,q nm,q zS,q ⟨#[]⟩,q ⟨#[]⟩,L M 2,L M o,K (G ⟨(w:C)+2,0,E⟩) 1 1,q ⟨#[]⟩,q ⟨#[]⟩]) (results_cell_row rfl _ _ (w:C) 38 _ (0,0) _ rfl HG.out hu rfl J) rfl ?_;obtain⟨⟨b,F⟩,h2⟩:=HF.out (D.setRow (w:C) #[L M 1,q ⟨#[]⟩,L M 0,L M 0,q ⟨#[]⟩,q nm,q zS,q ⟨#[]⟩,q ⟨#[]⟩,L M 2,L M o,K (G ⟨(w:C)+2,0,E⟩) 1 1,q ⟨#[]⟩,q ⟨#[]⟩]) ⟨rfl,rfl,rfl,by simp,λb _ F=>setRow_other _ _ _ _ (λe=>F e)⟩;exact⟨⟨b,by rw[<-F.1];rfl,F.2⟩,h2⟩
def cAtt (c:ai):aj (ai×ai):=if c.toList.isEmpty=true then []else [(zM,c)]
theorem zCl (c:ai):(cAtt c).length<=1:=by unfold cAtt;split<;>simp
theorem zOM (w:ab):am ah 177 #[K E 0 0,L M 0] w λe w'=>e=.returned (K E 0 0)/\w'=w:=by
 go_enter bs,bu
 go_wp2;go_ret;exact⟨rfl,rfl⟩
theorem zOL (w:ab):am ah 177 #[K E 0 0,L M 1] w λe w'=>
  (∃ g,e=.returned (K (G ⟨w,0,E⟩) 0 g)/\w'.ownsRow (w:C) 78 2 (K (G ⟨w,0,E⟩) 0 g) 0 [])/\Fr No w w':=by
 obtain⟨z,D,A,F,I⟩:=bn infoA;have o:(Builtin.firstCells z.size 0 (K E 0 0)).run ah w.drew=.ok #[] w.drew:=run_firstCells_none w.drew z.size 0 0 0;have h:=Lib.run_append_grow_zeros (P:=ah) w 34 3 34 78 z _ M M be Tryz.underlying3 D A E 0 0 [] o 1 (by omega) (by omega) (by omega) (by omega) (by omega) (growslice_fits (by omega) (by omega));obtain⟨u,v⟩:∃ u,u=grownCap w 1 0 78:=⟨_,rfl⟩
 have N:1<=u:=by rw[v];exact grownCap_ge w _ _ _
 have y:u<=maxLen:=by rw[v];exact grownCap_le_maxLen w _ _ _ (by unfold al;omega)
 rw[Nat.zero_add,<-v]at h;have O:u<=9223372036854775807:=by unfold al at y;exact y
 have J:=zh y;clear v o y
 go_enter bs,bu
 go_wp2_with (at_builtin;refine Lib.wpList_append_run _ rfl _ _ _ _ rfl _ _ rfl rfl _ _ h ?_)
 go_ret;refine⟨⟨u,rfl,rfl,.inr ⟨(w:C),u,_,rfl,bh _,zF w.drew _,bj _,J.out,?_,rfl⟩⟩,((ao No w).drewN _).alloc _⟩;simp[size_zeroCells];omega
theorem zMg (b c1 c2:C)(a1 a2:aq ar)(o v:aj (ai×ai))(w:ab)(hb:w.heap[b]?=G (ae #[K a1 o.length c1,K a2 v.length c2] 34))(U:Atts w a1 c1 o)(V:Atts w a2 c2 v)(hn:o.length+v.length<=1):
  am ah 131 #[K (G ⟨b,0,E⟩) 2 2] w λe w'=>(∃ a' c',e=.returned (K a' (o++v).length c')/\Atts w' a' c' (o++v)/\BlkT w' a' 78/\∀ ad,a'=G ad->(w:C)<=ad.block)/\Fr No w w':=by
 obtain⟨i0,hi,a3,a4,a5⟩:=bn infoA;obtain⟨q0,q1⟩:=cl2 hb;have HB:=zg3 hb U V;have HN:=zh hn;have b3:o.length<=9223372036854775807:=by omega
 have b4:v.length<=9223372036854775807:=by omega
 obtain⟨N,hN⟩:∃ N,N=o.length+v.length:=⟨_,rfl⟩
 have a6:=zh hN;clear hb U V hn hN
 go_enter Tryz.func131,Tryz.ntmps131
 go_wp2_with fail
 go_loopw [3,11] (λx y wr=>wr=w/\((y=L M 0/\x=L M 0)\/(y=L M 1/\x=L M (o.length:af))\/(y=L M 2/\x=L M (N:af)))) (λ_ y _=>(2-au y).toNat)
 case atStart=>exact⟨rfl,.inl ⟨rfl,rfl⟩⟩
 case round=>
  obtain⟨rfl,⟨rfl,rfl⟩|⟨rfl,rfl⟩|⟨rfl,rfl⟩⟩:=hrel
  .have a8:¬ ((o.length:af)<0):=by omega
   go_wp2
   go_roundw
   case rel=>exact⟨trivial,.inr (.inl ⟨by go_num,by go_num⟩)⟩
   case measure=>simp[au]
  .have a8:¬ ((N:af)<0):=by omega
   have hw:wrap64 ((o.length:af)+(v.length:af))=(N:af):=by have:=HN.out;have:=a6.out;unfold wrap64;omega
   go_wp2
   go_roundw
   case rel=>exact⟨trivial,.inr (.inr ⟨by go_num,by go_num⟩)⟩
   case measure=>simp[au]
  .clear q0 q1;obtain⟨A,rfl⟩:∃ A,A=wr:=⟨_,rfl⟩
   have hg:am ah 177 #[K E 0 0,L M (N:af)] A λe w'=>(∃ a c,e=.returned (K a 0 c)/\w'.ownsRow (A:C) 78 2 (K a 0 c) 0 [])/\Fr No A w':=by
    have U:=a6.out;have V:=HN.out;rcases(by omega:N=0\/N=1)with h|h
    .subst h;exact(zOM A).mono λe w' ⟨U,V⟩=>by subst V;exact⟨⟨E,0,U,World.ownsRow_nil _ _ _ _⟩,ao _ _⟩
    .subst h;exact(zOL A).mono λe w' ⟨⟨g,U,V⟩,h3⟩=>⟨⟨_,g,U,V⟩,h3⟩
   go_wp2_with fail
   refine hg.mono ?_;rintro e w1 ⟨⟨ga,gc,rfl,R⟩,a7⟩;have HO:=zh R;have a9:=zh a7;clear R a7 hg
   go_wp2_with fail
   go_loopw [6,27] (λx y wr=>∃ (k:C) (a:aq ar) (c:C) (l:aj (ai×ai)),y=L M (k:af)/\x=K a l.length c/\ak (wr.ownsRow (A:C) 78 2 (K a l.length c) l.length (aflat l))/\ak (Fr No A wr)/\((k=0/\l=[])\/(k=1/\o=l)\/(k=2/\l=o++v))) (λ_ y _=>(2-au y).toNat)
   case atStart=>exact⟨0,ga,gc,[],rfl,rfl,HO,a9,.inl ⟨rfl,rfl⟩⟩
   case round=>
    obtain⟨k,a,c,l,rfl,rfl,F,z,hk⟩:=hrel;rcases hk with⟨rfl,rfl⟩|⟨rfl,rfl⟩|⟨rfl,rfl⟩
    .have I:=z.out.heap HB.out.1 id;have b0:wr.cell? ⟨b,0,E⟩=G (K a1 o.length c1):=zB I 0;have O:=HB.out.2.1.no z.out (λ_=>id);have b1:=HN.out;have b2:=z.out.size;clear I
     go_wp2_with (at_builtin;(refine zx rfl _ _ 34 rfl (A:C) 78 i0 (ap #[q ba,q ba]) 2 32 be hi a3 a4 a5 rfl (by decide) _ _ _ rfl F.out a1 o.length _ (aflat o) rfl (λe=>⟨by rw[(O.isNil e).1];rfl,(O.isNil e).2⟩) (zBp o) (λX e=>O.src X e) (zBo o) (by unfold al;first|omega|(simp;omega)) (by first|omega|(simp;omega)) (by first|omega|(simp;done)|(simp;omega)) ?_;intro v' w3 u J;obtain⟨av,cv,rfl⟩:=zI u))
     have Y:ak (Fr No A w3):=z.out.step (zEl F.out J) (λb hb h=>by omega);have Z:ak (w3.ownsRow (A:C) 78 2 (K av (o).length cv) (o).length (aflat (o))):=by unfold ak;simpa [aflat]using u
     clear u J O b0;go_wp2
     go_roundw
     case rel=>exact⟨1,av,cv,o,by go_num,by simp,Z,Y,.inr (.inl ⟨rfl,rfl⟩)⟩
     case measure=>simp[au]
    .have I:=z.out.heap HB.out.1 id;have b0:wr.cell? ⟨b,1,E⟩=G (K a2 v.length c2):=zB I 1;have O:=HB.out.2.2.no z.out (λ_=>id);have b1:=HN.out;have b2:=z.out.size;clear I
     go_wp2_with (at_builtin;(refine zx rfl _ _ 34 rfl (A:C) 78 i0 (ap #[q ba,q ba]) 2 32 be hi a3 a4 a5 rfl (by decide) _ _ _ rfl F.out a2 v.length _ (aflat v) rfl (λe=>⟨by rw[(O.isNil e).1];rfl,(O.isNil e).2⟩) (zBp v) (λX e=>O.src X e) (zBo v) (by unfold al;first|omega|(simp;omega)) (by first|omega|(simp;omega)) (by first|omega|(simp;done)|(simp;omega)) ?_;intro v' w3 u J;obtain⟨av,cv,rfl⟩:=zI u))
     have Y:ak (Fr No A w3):=z.out.step (zEl F.out J) (λb hb h=>by omega);have Z:ak (w3.ownsRow (A:C) 78 2 (K av (o++v).length cv) (o++v).length (aflat (o++v))):=by unfold ak;simpa [aflat]using u
     clear u J O b0;go_wp2
     go_roundw
     case rel=>exact⟨2,av,cv,o++v,by go_num,by simp,Z,Y,.inr (.inr ⟨rfl,rfl⟩)⟩
     case measure=>simp[au]
    .have hw:∀ x∈o++v,x.1.size<=al/\x.2.size<=maxLen:=λx hx=>(List.mem_append.1 hx).elim (HB.out.2.1.wf x) (HB.out.2.2.wf x)
     obtain⟨a',c',he,hA,D⟩:=bo F.out hw;have HR:=zg4 he hA (zAG F.out) D;clear he hA D hw;go_wp2;go_ret;refine⟨⟨a,c,rfl,?_,HR.out.2.2.1,?_⟩,z.out⟩
     .have h:=HR.out.1;cases h;exact HR.out.2.1
     .have h:=HR.out.1;cases h;exact HR.out.2.2.2
theorem zNV (x y z:ai)(w:ab):am ah 129 #[ap #[q x,q y],q z] w λe w'=>e=.returned (L M (bp x.data.toList z.data.toList))/\Fr No w w':=by
 have h:Fr No w (w.alloc (ae #[q x,q y] 78)):=(ao _ _).alloc _;have o:=zh h;clear h
 go_enter Tryz.func129,Tryz.ntmps129
 go_wp2_with fail
 refine(Tryz.strings_Compare x z _).mono ?_;rintro e u ⟨rfl,rfl⟩
 go_wp2_with fail
 go_ret;exact⟨rfl,o.out⟩
theorem zLN (a:aq ar)(z:C)(c:ai)(w:ab)(A:Atts w a z (cAtt c)):
  am ah 128 #[K a (cAtt c).length z,q zM,.func (.func 129) #[] #[]] w λe w'=>e=.returned (.tuple #[L M 0,.bool (!c.toList.isEmpty)])/\Fr No w w':=by
 have R:bp zM.data.toList zM.data.toList=0:=by decide
 cases hc:c.toList.isEmpty with
 | true=>
  have e:cAtt c=[]:=by unfold cAtt;rw[if_pos hc]
  rw[e]
  go_enter br,bt
  go_wp2_with fail
  go_loopw [9,10] (λx y wr=>wr=w/\x=L M 0/\y=L M 0) (λ_ _ _=>0)
  case atStart=>exact⟨rfl,rfl,rfl⟩
  case round=>
   obtain⟨rfl,rfl,rfl⟩:=hrel
   go_wp2_with fail
   go_ret2
   exact⟨rfl,ao _ _⟩
 | false=>
  have e:cAtt c=[(zM,c)]:=by unfold cAtt;rw[hc];rfl
  rw[e]at A ⊢;obtain⟨b,U,x,y,rfl,V,-,-,D,F⟩:=A.at (k:=0) (by simp);cases V;simp only[Nat.zero_mul,Nat.add_zero]at D F;have u:=zNV zM c zM;rw[R]at u;have X:IntKind.u64.wrap ((0:af)+1)=1:=by decide
  clear A R e
  go_enter br,bt
  go_wp2_with fail
  go_loopw [9,10] (λx y wr=>Fr No w wr/\x=L M 0/\(y=L M 1\/y=L M 0)) (λ_ y _=>(au y).toNat)
  case atStart=>exact⟨ao _ _,rfl,.inl rfl⟩
  case round=>
   obtain⟨o,rfl,rfl|rfl⟩:=hrel
   .have I:=o.cell D id;have J:=o.cell F id;have N:=zh o;clear o
    go_wp2_with fail
    refine(u _).mono ?_;rintro e O ⟨rfl,h⟩;have v:ak (Fr No w O):=N.out.step h zi;clear I J h
    go_wp2_with fail
    go_roundw
    case rel=>exact⟨v.out,rfl,.inr rfl⟩
    case measure=>simp[au]
   .have I:=o.cell D id;have J:=o.cell F id;have N:=zh o;clear o
    go_wp2_with fail
    refine(u _).mono ?_;rintro e O ⟨rfl,h⟩;have v:ak (Fr No w O):=N.out.step h zi;clear I J h
    go_wp2_with fail
    go_ret2
    exact⟨rfl,v.out⟩
theorem Atts.emp (w:ab){a:aq ar}(h:a=E->o=0)(v:o<=al):Atts w a o []:=⟨bj _,v,λe=>⟨rfl,h e⟩,by simp,λy e u=>absurd rfl u⟩
def SetR (w:ab)(v:ai)(e:Ending)(w':ab):Prop:=(∃ a' c',e=.returned (K a' (cAtt v).length c')/\Atts w' a' c' (cAtt v)/\BlkT w' a' 78/\∀ ad,a'=G ad->(w:C)<=ad.block)/\Fr No w w'
theorem zJo (A:Fr No w W)(D:Atts W a1 c1 (cAtt v))(F:u=E->o=0)(X:o<=9223372036854775807):
  am ah 131 #[K (G ⟨W,0,E⟩) 2 2] (W.alloc (ae #[K a1 (cAtt v).length c1,K u 0 o] 34)) λe w'=>SetR w v e w':=by
 have y:Fr No W (W.alloc (ae #[K a1 (cAtt v).length c1,K u 0 o] 34)):=(ao _ _).alloc _;have h:=zMg (W:C) c1 o a1 u (cAtt v) [] _ (zF W (ae #[K a1 (cAtt v).length c1,K u ([]:aj (ai×ai)).length o] 34)) (D.no y (λ_=>id)) (Atts.emp _ F (by unfold al;omega)) (by have:=zCl v;simp;omega);rw[List.append_nil]at h;refine h.mono λe w' ⟨⟨I,J,N,O,R,z⟩,U⟩=>⟨⟨I,J,N,O,R,λV e=>bi (bi A.size y.size) (z V e)⟩,(A.step y zi).step U zi⟩
theorem zLf {a1:aq ar}(z:Fr No w W)(y:cAtt v=[])(A:u=E->o=0)(D:o<=9223372036854775807):
  am ah 131 #[K (G ⟨W,0,E⟩) 2 2] (W.alloc (ae #[K a1 0 0,K u 0 o] 34)) λe w'=>SetR w v e w':=by
 have h:=zJo (v:=v) (a1:=a1) (c1:=0) z (by rw[y];exact Atts.emp _ (λ_=>rfl) (bj _)) A D;rw[y]at h;exact h
theorem zLe {y:ab}{z:aq ar}{u:C}(I:Fr No w y)(J:v.size<=al)(A:W.ownsRow o 78 2 (K a1 1 c1) 1 ([]++aflat [(zM,v)])/\y.grownBy W E)(D:cAtt v=[(zM,v)])(N:z=E->u=0)(O:u<=9223372036854775807):
  am ah 131 #[K (G ⟨W,0,E⟩) 2 2] (W.alloc (ae #[K a1 1 c1,K z 0 u] 34)) λe w'=>SetR w v e w':=by
 obtain⟨V,X,R,U,_⟩:=bo (l:=[(zM,v)]) A.1 (λx F=>by simp at F;subst F;exact⟨(by decide:zM.size<=al),J⟩);cases R;have h:=zJo (v:=v) (a1:=a1) (c1:=c1) (I.step (Fr.of_grown_none A.2) zi) (by rw[D];exact U) N O;rw[D]at h;exact h
theorem zN5 (a:aq ar)(o:C)(c v:ai)(w:ab)(D:Atts w a o (cAtt c))(hv:v.size<=al):
  am ah 73 #[K a (cAtt c).length o,q zM,q v] w λe w'=>SetR w v e w':=by
 obtain⟨i0,hi,a2,a3,a4⟩:=bn infoA;have hb:=zLN a o c w D;have b0:o<=9223372036854775807:=by have:=D.max;unfold al at this;exact this
 have HA:ak ((a=E->o=0)/\((!c.toList.isEmpty)=true->∃ b z,a=G ⟨b,z,E⟩/\1<=o)):=⟨λe=>(D.isNil e).2,λh=>by
  have e:cAtt c=[(zM,c)]:=by unfold cAtt;simp at h;simp[h]
  rw[e]at D;obtain⟨b,z,x,y,h1,_⟩:=D.at (k:=0) (by simp);exact⟨b,z,h1,D.len⟩⟩
 have HV:=zh hv;obtain⟨F,hF⟩:∃ F,F=!c.toList.isEmpty:=⟨_,rfl⟩
 obtain⟨n,hn⟩:∃ n,n=(cAtt c).length:=⟨_,rfl⟩
 have HN:ak (n=if F=true then 1 else 0):=by
  unfold ak;rw[hn,hF];unfold cAtt;cases c.toList.isEmpty<;>rfl
 rw[<-hn,<-hF]at hb;rw[<-hF]at HA;rw[<-hn];clear D hv hn hF;have HC:ak (v.toList.isEmpty=ag->cAtt v=[(zM,v)]):=λh=>by unfold cAtt;simp[h]
 have a5:ak (v.toList.isEmpty=true->cAtt v=[]):=λh=>by unfold cAtt;simp[h]
 have a6:(F=ag/\n=0/\a=E/\o=0)\/(F=ag/\n=0/\∃ I,a=G I)\/(F=true/\n=1/\(∃ I,a=G I)/\1<=o):=by
  cases F with
  | true=>obtain⟨b,z,e,h⟩:=HA.out.2 rfl;exact .inr (.inr ⟨rfl,HN.out,⟨_,e⟩,h⟩)
  | false=>cases a with
   | none=>exact .inl ⟨rfl,HN.out,rfl,HA.out.1 rfl⟩
   | some I=>exact .inr (.inl ⟨rfl,HN.out,I,rfl⟩)
 clear HA HN;rcases hve:v.toList.isEmpty with _|_
 all_goals
  have J:=zh hve;rcases a6 with⟨rfl,rfl,rfl,rfl⟩|⟨rfl,rfl,⟨I,rfl⟩⟩|⟨rfl,rfl,⟨⟨b,z,sp⟩,rfl⟩,a7⟩
 all_goals
  have b1:¬ ((0:af)<0):=by omega
  try (have a7:¬ ((o:af)<0):=by omega)
  try (have b2:¬ ((o:af)<1):=by omega)
  go_enter Tryz.func73,Tryz.ntmps73
  go_wp2_with fail
  refine hb.mono ?_;rintro e w1 ⟨rfl,N⟩;have a8:=zh N;clear hb N
  go_wp2_with fail
  refine zQ No [(0,ag),(1,ag),(2,ag),(3,ag),(4,ag),(5,ag),(6,ag),(7,ag),(8,ag)] (by kernel_rfl) (by kernel_rfl) (λw2 O=>?_);have R:ak (Fr No w w2):=a8.out.step O zi;clear O
  repeat (apply zT rfl rfl rfl;intro b3 hK;go_big_quiet_op;go_big_quiet_on)
  refine zb ?_;have a9:ak (Fr No w (w2.alloc (ae #[q zM,q v] 78))):=R.out.step ((ao _ _).alloc _) zi
  go_wp2_with (at_builtin;refine wpList_append_grows _ rfl _ _ 34 rfl 78 i0 _ 2 32 be hi a2 a3 a4 rfl (by decide) _ 0 _ [] rfl (λ_=>⟨rfl,rfl⟩) rfl (λ_ _ j u h=>by simp at h) ⟨w2,0,E⟩ 1 1 (aflat [(zM,v)]) rfl rfl (zg _ #[q zM,q v] _ rfl) (zBo _) (by omega) (by unfold al;omega) (by omega) ?_;intro v' w3 A U;obtain⟨av,cv,rfl⟩:=zI A;have HO:=zg2 A U;clear A U)
  all_goals
   refine(by first
    | exact zLe a9.out HV.out HO.out (HC.out J.out) (by first|(intro _;rfl)|(intro e;cases e)) (by omega)
    | exact zLf R.out (a5.out J.out) (by first|(intro _;rfl)|(intro e;cases e)) (by omega):am _ _ _ _ λe w'=>SetR w v e w').mono ?_
   rintro e w4 ⟨⟨a',c',rfl,V,X,Y⟩,Z⟩;have HR:=zg4 V X Y Z;clear V X Y Z;go_wp2;go_ret;exact⟨⟨a',c',rfl,HR.out.1,HR.out.2.1,HR.out.2.2.1⟩,HR.out.2.2.2⟩
theorem zOz (x d:Dev)(b:C)(w:ab)(u:w.heap[b]?=G (ae d.vals 36)):
  am ah 132 #[ap x.vals,.pointer (G ⟨b,0,E⟩)] w λe w'=>e=.returned (.bool (x.index==d.index))/\Fr No w w':=by
 obtain⟨v,h,o,-⟩:=zy w (ae x.vals 36);have z:v.cell? ⟨w,0,E⟩=G (L M x.index):=by rw[h];exact zB (zF _ _) 0
 have A:v.cell? ⟨b,0,E⟩=G (L M d.index):=zB (o.heap u id) 0;have y:=zh o;clear o u;unfold ay at h ⊢
 go_enter Tryz.func132,Tryz.ntmps132
 go_upto_region 1 with(fail)
 rw[<-h];clear h
 go_wp2_with fail
 go_ret;exact⟨rfl,y.out⟩
theorem Cop.set {ds cs:aj Dev}{x v:Dev}(h:Cop w w' o ds cs)(z:Cop1 w w' o x v)(k:C):Cop w w' o (ds.set k x) (cs.set k v):=
 ⟨by rw[bg,bg,h.len],λi d A e u=>by
  rw[List.getElem?_set]at e u;by_cases y:k=i
  .rw[if_pos y]at e u;split at e
   .split at u
    .cases e;cases u;exact z
    .cases u
   .cases e
  .rw[if_neg y]at e u;exact h.el i d A e u⟩
def ChgRes (w w':ab)(ds:aj Dev)(k:C)(x:Dev)(e:Ending):Prop:=
 ∃ a' c' ds',e=.returned (.tuple #[ap #[K a' ds'.length c'],L M 0])/\Devs w' a' c' ds'/\BlkT w' a' 36/\(∀ ad,a'=G ad->(w:C)<=ad.block)/\Cop w w' (w:C) (ds.set k x) ds'
theorem zHe (a:aq ar)(u b9:C)(ds:aj Dev)(k:C)(dn x:Dev)(l:aj (ai×ai))(m:af)(w:ab)(hl:Tr w b9 a u ds)(hn:ds.length<=256)(hk:ds[k]?=G dn)(e0:fidx (λd=>d.index==x.index) ds=(k:af))
  (a5:x.parent=dn.parent/\x.orig=dn.orig/\x.kind=dn.kind) (hs:Sized x) (hA:Atts w x.aa x.ac l) (h1:l.length<=1) (a7:x.an=l.length) (e4:x.kind=2) (hd:x.drv=⟨#[]⟩) (V:Sound x l) (X:ds.any (clP x)=ag)
  (hm:w.cell? ⟨0,0,E⟩=G (L M m)) (h0:0<(w:C)):
  am ah 74 #[ap #[K a ds.length u],ap x.vals] w λe w'=>ChgRes w w' ds k x e/\Fr No w w':=by
 have hT:=hl.wf.ok;obtain⟨W0,O⟩:∃ W0,W0=((w.alloc (ae #[K a ds.length u] 47)).alloc (ae x.vals 36)).alloc (ae #[K E 0 0] 47):=⟨_,rfl⟩
 have fx:Fr No ((w.alloc (ae #[K a ds.length u] 47)).alloc (ae x.vals 36)) W0:=by rw[O];exact(ao _ _).alloc _
 have hx:Fr No w W0:=by rw[O];exact(((ao _ _).alloc _).alloc _).alloc _
 have q0:=fx.heap (zO w (ae #[K a ds.length u] 47) (ae x.vals 36)) id;have q1:=fx.heap (zR w (ae #[K a ds.length u] 47) (ae x.vals 36)) id;have q2:W0.heap[(w:C)+1+1]?=G (ae #[K E 0 0] 47):=by
  have:=zF ((w.alloc (ae #[K a ds.length u] 47)).alloc (ae x.vals 36)) (ae #[K E 0 0] 47);rw[bf,bf]at this;rw[O];exact this
 clear fx;have e5:=V.oklen;have K1:=zh (λ(W:ab) (F:Fr No w W)=>zEz x l m W hs (hA.no F (λ_=>id)) h1 a7 e4 hd V (F.cell hm id) (bq h0 F.size));have K3:=zh (λ(W:ab) (F:Fr No w W)=>zDC a u ds x m W (hl.dv.no F (λ_=>id)) (λx hx=>by have:=hT.sz x hx;omega) (by omega) (F.cell hm id) (bq h0 F.size));have K4:=zh (λ(W:ab) (F:Fr No w W)=>zCC a u ds W (hl.dv.no F (λ_=>id)) (by omega) (λx hx=>by
  obtain⟨l',g1,g2,g3⟩:=(hl.el x hx).att;exact⟨l',g1.no F (λ_=>id),g2,g3⟩))
 have K5:=zh (λ(W:ab) (F:Fr No w W)=>zBX x l W (hA.no F (λ_=>id)) a7 (by omega));have k6:=zBk 132 #[.pointer (G ⟨(w:C)+1,0,E⟩)] (λ_ _=>rfl) (λd=>d.index==x.index) a u ds W0 (hl.dv.no hx (λ_=>id)) (λy hy W F=>zOz y x _ W (F.heap q1 id));rw[e0]at k6;rw[X]at K3;have g9:k<ds.length:=(List.getElem?_eq_some_iff.1 hk).1;have h5:¬ ((k:af)<0):=by omega
 have h3:(k:af)<ds.length:=by omega
 have h7:=hl.dv.lenmax;obtain⟨bb,a8,y,h2,hy,D⟩:=(hl.dv.no hx (λ_=>id)).dev g9;rw[hk]at hy;cases hy;subst h2;have HL:=zh hl;have HA:=zg3 hA h1 a7;have HK:=zh hk;have HX:=zh hx;have t0:W0.cell? ⟨w,0,E⟩=G (K (G ⟨bb,a8,E⟩) ds.length u):=zB q0 0;have e1:(x.parent != dn.parent)=false:=by simp[a5.1]
 have e2:(x.orig.toList==dn.orig.toList)=true:=by simp[a5.2.1]
 have e3:(x.kind != dn.kind)=false:=by simp[a5.2.2]
 obtain⟨d0,d1,d2,d3,d4,d5,d6,d7,d8,d9⟩:=D;clear hl hA h1 a7 hk e0 a5 hs e4 hd V X hm hT hx e5;unfold ay at O K1 K3 K5 ⊢
 go_enter Tryz.func74,Tryz.ntmps74
 go_upto_region 1 with(fail)
 rw[<-O];clear O
 go_wp2_with fail
 refine k6.mono ?_;rintro e w1 ⟨rfl,o⟩;have x1:Fr No w w1:=HX.out.step o zi;have r0:=o.heap q0 id;have r1:=o.heap q1 id;have r2:=o.heap q2 id;replace d0:=o.cell d0 id;replace d1:=o.cell d1 id;replace d2:=o.cell d2 id;replace d3:=o.cell d3 id;replace d4:=o.cell d4 id;replace d5:=o.cell d5 id;replace d6:=o.cell d6 id;replace d7:=o.cell d7 id;replace d8:=o.cell d8 id;replace d9:=o.cell d9 id;clear t0 q0 q1 q2 k6 o;have t0:w1.cell? ⟨w,0,E⟩=G (K (G ⟨bb,a8,E⟩) ds.length u):=zB r0 0;obtain⟨W2,b3,Y,b7⟩:=zy w1 (ae dn.vals 36);have x2:=x1.step Y zi;unfold ay at b3
 go_upto_region 5 with(fail)
 rw[<-b3];have s0:=Y.heap r0 id;have s1:=Y.heap r1 id;have U:=Y.heap r2 id;clear b3 Y r0 r1 r2 t0 d0 d1 d2 d3 d4 d5 d6 d7 d8 d9;obtain⟨c0,c1,c2,c3,c4,c5,c6,c7,c8,c9⟩:=DevB.of s1
 go_wp2_with fail
 refine(K1.out _ x2).mono ?_;rintro e w3 ⟨rfl,R⟩;have x3:Fr No w w3:=x2.step R zi;have r0:=R.heap s0 id;have r1:=R.heap s1 id;have r2:=R.heap U id;have r7:=R.heap b7 id;clear c0 c1 c2 c3 c4 c5 c6 c7 c8 c9 s0 s1 U b7 R;have t0:w3.cell? ⟨w,0,E⟩=G (K (G ⟨bb,a8,E⟩) ds.length u):=zB r0 0;obtain⟨c0,c1,c2,c3,c4,c5,c6,c7,c8,c9⟩:=DevB.of r1;obtain⟨-,d1,-,d3,-,-,-,d7,-,-⟩:=DevB.of r7
 go_wp2_with fail
 refine(K3.out _ x3).mono ?_;rintro e w4 ⟨rfl,Z⟩;have x4:Fr No w w4:=x3.step Z zi;have s0:=Z.heap r0 id;have s1:=Z.heap r1 id;have U:=Z.heap r2 id;clear c0 c1 c2 c3 c4 c5 c6 c7 c8 c9 r0 r1 r2 r7 d1 d3 d7 t0 Z;have t0:w4.cell? ⟨w,0,E⟩=G (K (G ⟨bb,a8,E⟩) ds.length u):=zB s0 0
 go_wp2_with fail
 have h8:=zC U;refine(K4.out _ x4).mono ?_;rintro e w5 ⟨⟨v,cs,rfl,I,a2⟩,a9⟩;obtain⟨av,cv,rfl⟩:=zI I;have x5:Fr No w w5:=x4.step a9 zi;have r1:=a9.heap s1 id;have r2:=a9.heap U id;have X:=a2.len;obtain⟨g,rfl,hg,hD⟩:=DRow.of I (by omega);clear t0 s0 s1 U a9;obtain⟨c0,c1,c2,c3,c4,c5,c6,c7,c8,c9⟩:=DevB.of r1;have h9:(k:af)<cs.length:=by omega
 have HC:=zg2 a2 I;have HD:=zg2 hD hg;have e6:=zh X;clear a2 I hD hg X
 go_wp2_with fail
 refine(K5.out _ x5).mono ?_;rintro e w6 ⟨⟨a6,cc,rfl,e7,e8,z⟩,a3⟩;have x6:Fr No w w6:=x5.step a3 zi;have U:=a3.heap r2 id;have b0:=HD.out.1.fr a3 id;obtain⟨b4,k1,k2,k3⟩:=b0.blk;obtain⟨x',a4⟩:∃ x':Dev,x'={ x with aa:=a6,ac:=cc }:=⟨_,rfl⟩
 have J:=b0.set (i:=k) (by have:=e6.out;omega) x' k1;have e9:k*10+x'.vals.size<=b4.size:=by
  have:=b0.nc;have:=e6.out;rw[k2,show x'.vals.size=10 from rfl];omega
 obtain⟨W7,b1⟩:∃ W7,W7=w6.setRow g (splice b4.toList (k*10) x'.vals.toList).toArray:=⟨_,rfl⟩
 have A:Fr (Is g) w6 W7:=by rw[b1];exact Fr.setRow (S:=Is g) w6 g _ rfl
 rw[<-b1]at J;have i0:=HD.out.2;have h4:=x4.size;have h6:=x6.size;have i1:=zC U;have b5:(w:C)+1+1≠g:=λe=>by
  rw[e,k1]at U;cases U
 have i2:=zC k1;have u2:=A.heap U (λe=>b5 e);have f2:=zD u2 0;have v2:W7.cell? ⟨(w:C)+1+1,0,E⟩=G (K E 0 0):=zB u2 0;have g0:Fr (λb=>(Value.slice (G (⟨g,0,E⟩:ar)) cs.length cv).ownBlock=G b) w5 W7:=(a3.mono zn).step A (λb _ h=>by unfold Is at h;subst h;rfl);have b6:=HC.out.1.own HC.out.2 g0;have g4:Fr No w W7:=x6.step A (λb hb h=>by omega);have i3:=(zAD HC.out.2 (b:=g) rfl).2;have g5:=e7.fr A (λN e _ h=>by have:=z N e;omega);have g6:BlkT W7 a6 78:=e8.fr A (λN e h=>by have:=z N e;omega);obtain⟨W8,b8⟩:∃ W8,W8=W7.setCell ⟨(w:C)+1+1,0,E⟩ (K (G ⟨g,0,E⟩) cs.length cv):=⟨_,rfl⟩
 have f8:Fr (Is ((w:C)+1+1)) W7 W8:=by rw[b8];exact Fr.setAt (ao _ _) _
 have z8:W8.cell? ⟨(w:C)+1+1,0,E⟩=G (K (G ⟨g,0,E⟩) cs.length cv):=by rw[b8];exact zB (zE u2 0 _) 0
 have x8:Fr No w W8:=g4.step f8 (λb hb h=>by omega);have b2:ChgRes w W8 ds k x (.returned (.tuple #[ap #[K (G ⟨g,0,E⟩) cs.length cv],L M 0])):=by
  refine⟨G ⟨g,0,E⟩,cv,cs.set k x',by rw[bg],J.devs.fr f8 (λN e _ h=>by cases e;unfold Is at h;exact b5 h.symm),?_,λN e=>by cases e;show (w:C)<=g;omega,?_⟩
  .obtain⟨g7,j1,_⟩:=J.blk;intro N e;cases e;exact⟨g7,f8.heap j1 (λh=>by unfold Is at h;exact b5 h.symm)⟩
  .refine Cop.set ((b6.fr f8 (λd hd N e h=>by
    obtain⟨y,_,hc⟩:=b6.mem hd;have:=hc.fresh N e;unfold Is at h;omega)).src x4 (λd hd=>by
    obtain⟨l',g1,g2,_⟩:=(HL.out.el d hd).att;exact⟨l',g1,g2⟩) h4) ?_ k
   refine⟨by rw[a4],⟨l,HA.out.1,?_,HA.out.2.2,by have:=HA.out.2.1;omega⟩,?_,λN e=>by rw[a4]at e;have:=z N e;omega⟩
   .rw[a4];exact g5.fr f8 (λN e _ h=>by have:=z N e;omega)
   .rw[a4];exact g6.fr f8 (λN e h=>by have:=z N e;omega)
 have g8:=zg2 b2 x8;clear b2 x8 b6 g4 g6 g5 J A g0 b0 u2 e7 e8 z x6 a3 U r1 r2 c0 c1 c2 c3 c4 c5 c6 c7 c8 c9 f8 k3 k2;subst a4
 go_wp2_with (refine zBc rfl 36 _ _ rfl g (k*10) ({ x with aa:=a6,ac:=cc }:Dev).vals rfl rfl 36 b4 k1 zC6 e9 (zAT { x with aa:=a6,ac:=cc }) ?_;rw[<-b1];clear b1)
 rw[<-b8];refine bodyPost_ret (v:=.tuple #[ap #[K (G ⟨g,0,E⟩) cs.length cv],L M 0]) (by simp[results,Tryz.results74,go_sem,z8]) rfl ?_;exact g8.out
def roundN {α:Type}(I:aj α->(C->Prop)->ab->Prop)(pre:aj α)(V:C->Prop)(W:ab):Exit->Act->ab->Prop
 | .normal,_,W'=>∃ V',(∀ b,V' b->V b\/(W:C)<=b)/\I pre V' W'/\Fr V W W'
 | _,_,_=>False
def GivesN {α:Type}(F:Fence)(n:C)(P:bd)(gf:C)(lb:aw ax)(encs:α->aw ax)(T V0:C->Prop)(xs:aj α)(w:ab):Prop:=
 ∀ (l:C) (J:aj α->(C->Prop)->ab->Prop) (W:ab),Fr No w W->(w:C)<=l->l<(W:C)->
  (∀ s V A,J s V A->∀ b,V b->b<(A:C))->
  (∀ s V A B S,J s V A->Fr S A B->(∀ b,S b->¬ V b/\(T b\/(W:C)<=b))->J s V B)->
  (∀ pre V x A,J pre V A->pre++[x] <+: xs->(W:C)<=(A:C)->YieldAt F (n-1) P l (encs x) A λe B=>e=.returned (.bool true)/\∃ V',(∀ b,V' b->V b\/(A:C)<=b)/\J (pre++[x]) V' B/\Fr (λb=>V b\/b=l) A B)->
  J [] V0 W->CallsIn F n P gf (#[.func (.yield l) #[] #[]]++lb) W λe W'=>(∃ v,e=.returned v)/\∃ V,J xs V W'
theorem zDA {α:Type}{F:Fence}{n:C}{P:bd}{g:Operand}{ps:aw Tmp}{assign body:Code}{Q:Exit->Act->ab->Prop}{a:Act}{w:ab}
  (b9:F.round=E) (h1:1<=n) {gf:C} {lb:aw ax} (hg:a.eval g=.func (.func gf) #[] lb) (d0:F.fn gf) (eg:∀ args w,(callFunc gf args).run P w=.ok (.enter gf args) w)
  {encs:α->aw ax} (d1:∀ x,(encs x).size=ps.size) {T V0:C->Prop} (hT:∀ b,T b->b<(w:C)) (a9:∀ b,V0 b->b<(w:C)) {xs:aj α}
  (b0:GivesN F (n-1) P gf lb encs T V0 xs w)
  (I:aj α->(C->Prop)->ab->Prop) (b1:∀ s V A,I s V A->∀ b,V b->b<(A:C))
  (hI:∀ s V A a8 S,I s V A->Fr S A a8->(∀ b,S b->¬ V b/\(T b\/(w:C)<=b))->I s V a8) (h0:I [] V0 w)
  (Ax:α->(C->Prop)->Act->ab->Prop) (d2:∀ x V U A a8,Ax x V U A->Fr (Is ((w:C)+1)) A a8->Ax x V U a8)
  (D:∀ (l:C) (pre:aj α) (V:C->Prop) (x:α) (W:ab) (e6:Act->ab->Prop),I pre V W->(w:C)+2<=(W:C)->(∀ U W',Fr No W W'->Ax x V U W'->e6 U W')->
   assign.wpIn (F.inRound l) (n-1-1) P (Exit.then e6 (λ_ _ _=>False)) { tmps:=(ps.zip (encs x)).foldl (λt (p,v)=>t.setIfInBounds p v) a.tmps,defers:=[] } W)
  (a4:∀ (l:C) (pre:aj α) (V:C->Prop) (x:α) (U:Act) (W:ab),I pre V W->Ax x V U W->pre++[x] <+: xs->(w:C)+2<=(W:C)->body.wpIn (F.inRound l) (n-1-1) P (roundN I (pre++[x]) V W) U W)
  (a5:∀ (V:C->Prop) (W:ab),I xs V W->W.heap[(w:C)]?=G (.deferred (G []))->¬ V (w:C)->Q .normal { a with defers:={ target:=.collected (w:C),args:=#[] }::a.defers } W):
  (Code.rangeFunc g ps assign body).wpIn F n P Q a w:=by
 refine wpIn_rangeFunc ?_;intro fn d3;rw[b9];obtain⟨u,o⟩:∃ u:LoopState->aq Code->Loop,u=λst pe=>{ state:=st,pending:=pe,fn,tmps:=a.tmps,params:=ps,assign,body,defers:=(w:C) }:=⟨_,rfl⟩
 obtain⟨J,N⟩:∃ J,(w.alloc (.deferred (G []))).alloc (.loop (u .ready E))=J:=⟨_,rfl⟩
 have e7:(J:C)=(w:C)+2:=by rw[<-N];simp
 have d4:J.heap[(w:C)+1]?=G (.loop (u .ready E)):=by
  rw[<-N];have:=bw (w.alloc (.deferred (G []))) (.loop (u .ready E));rwa [bf]at this
 have d5:J.heap[(w:C)]?=G (.deferred (G [])):=by
  rw[<-N];exact(Below.heap_alloc _ _ _ (by simp)).trans (bw w _)
 have Y:Fr No w J:=by rw[<-N];exact((ao _ _).alloc _).alloc _
 have d6:I [] V0 J:=hI _ _ _ _ _ h0 Y (λ_ h=>h.elim);refine⟨(w:C)+1,[{ target:=.collected (w:C),args:=#[] }],J,{ target:=.fn (.func gf) lb,args:=#[.func (.yield ((w:C)+1)) #[] #[]] },J,gf,
  #[.func (.yield ((w:C)+1)) #[] #[]]++lb,J,?_,?_,?_,?_,λ_=>h1,?_⟩
 .rw[<-N,o];exact run_enterLoop_outer _ _ _ _ _
 .simp only[resolve,hg];simp[go_sem]
 .intro f' b2;simp[Target.leads]at b2;subst b2;exact d0
 .simp[invoke,go_sem,eg]
 .refine(b0 ((w:C)+1) (λpre V W=>I pre V W/\¬ V (w:C)/\¬ V ((w:C)+1)/\W.heap[(w:C)+1]?=G (.loop (u .ready E))/\W.heap[(w:C)]?=G (.deferred (G [])))
   J Y (by omega) (by omega) (λs V A h=>b1 s V A h.1) ?_ ?_ ⟨d6,λh=>by have:=a9 _ h;omega,λh=>by have:=a9 _ h;omega,d4,d5⟩).mono ?_
  .rintro s V A a8 S ⟨hi,z,y,hl,hk⟩ hf hS;refine⟨hI _ _ _ _ _ hi hf (λb O=>⟨(hS b O).1,(hS b O).2.imp id (λh=>by omega)⟩),z,y,hf.heap hl (λh=>?_),hf.heap hk (λh=>?_)⟩
   .rcases(hS _ h).2 with h|h
    .have:=hT _ h;omega
    .omega
   .rcases(hS _ h).2 with h|h
    .have:=hT _ h;omega
    .omega
  .rintro pre V x W ⟨hi,z,y,hl,hk⟩ b3 e8;have e9:(w:C)+1<(W:C):=(Array.getElem?_eq_some_iff.1 hl).1;have hy:=run_yield (P:=P) (args:=encs x) hl (by rw[o];exact d1 x);rw[o]at hy;refine⟨fn,_,assign,body,hy,roundIn_of_wpIn d3 (D _ pre V x W _ hi (by omega) ?_)⟩;clear hy;intro U Wa R d7;have b4:=R.heap hl id;have d8:=R.heap hk id;have d9:=hI _ _ _ _ _ hi R (λ_ h=>h.elim);have b5:(w:C)+1<(Wa:C):=(Array.getElem?_eq_some_iff.1 b4).1;have g0:=R.size;refine⟨_,run_beginRound b4 (by rw[o]),?_⟩;have e0:(Wa.putObj ((w:C)+1) (.loop { u .ready E with state:=.busy })).heap[(w:C)+1]?=G (.loop { u .ready E with state:=.busy }):=bx b5;have e1:(Wa.putObj ((w:C)+1) (.loop { u .ready E with state:=.busy })).heap[(w:C)]?=G (.deferred (G [])):=(bm (by omega)).trans d8;have X:Fr (Is ((w:C)+1)) Wa (Wa.putObj ((w:C)+1) (.loop { u .ready E with state:=.busy })):=bc _ _ _ rfl;have e2:=hI _ _ _ _ _ d9 X (λb O=>by unfold Is at O;subst O;exact⟨y,.inr (by omega)⟩);refine wpIn_mono (a4 _ pre V x U _ e2 (d2 _ _ _ _ _ d7 X) b3 (by simp;omega)) ?_;rintro e a3 W3 hp;cases e with
   | normal=>
    obtain⟨V',b6,e3,a6⟩:=hp;have b7:=a6.heap e0 y;have e4:=a6.heap e1 z;have a7:∀ b,V' b->V b\/(Wa:C)<=b:=λb h=>(b6 b h).imp id (λh=>bi X.size h)
    clear b6;have b8:¬ V' (w:C):=λh=>by rcases a7 _ h with h|h;exact z h;omega
    have Z:¬ V' ((w:C)+1):=λh=>by rcases a7 _ h with h|h;exact y h;omega
    have e5:∀ b,V' b->V b\/(W:C)<=b:=λb h=>(a7 b h).imp id (λh=>by omega)
    have a2:=run_endRound (P:=P) E b7;rw[o]at a2;refine⟨_,_,a2,rfl,V',e5,⟨hI _ _ _ _ _ e3 (bc (S:=Is ((w:C)+1)) _ _ _ rfl) (λb O=>by unfold Is at O;subst O;exact⟨Z,.inr (by omega)⟩),b8,Z,?_,?_⟩,?_⟩
    .rw[o];exact bx (Array.getElem?_eq_some_iff.1 b7).1
    .exact(bm (by omega)).trans e4
    .refine(((R.mono zn).step X ?_).step a6 ?_).step (bc (S:=Is ((w:C)+1)) _ _ _ rfl) ?_
     .rintro b _ h;exact .inr h
     .rintro b _ h;exact .inl h
     .rintro b _ h;exact .inr h
   | ret=>exact hp.elim
   | exit id=>exact hp.elim
   | goto t=>exact hp.elim
   | panic ch=>exact hp.elim
   | outgrown=>exact hp.elim
  .rintro e W2 ⟨⟨v,rfl⟩,V,hi,z,y,hl,hk⟩;refine⟨E,_,by have:=run_endLoop (P:=P) hl (by rw[o];simp);rw[o]at this;exact this,a5 V _ (hI _ _ _ _ _ hi (bc (S:=Is ((w:C)+1)) _ _ _ rfl) (λb O=>by unfold Is at O;subst O;exact⟨y,.inr (by omega)⟩)) ((bm (by omega)).trans hk) z⟩
theorem zA4 {e:TypeId}(o:P.underlying e=G .bool){v:ax}{z:DataW H×aj MemPlace}(h:az P e v=G z):∃ b,v=.bool b/\z=(.lit (.bool b),[]):=by
 unfold az at h;rw[o]at h;cases v<;>simp at h;exact⟨_,rfl,h.symm⟩
theorem zBb {H:Type}{P:bd}(w:ab){u:aw Oper}{h:aj Oper}{o:Oper}{a:Act}{Q:Exit->Act->ab->Prop}
  (X:o.guard=E) (m x:Operand) (t:TypeId) (I:o.op=Op.lookup t m x ag)
  (k e:TypeId) (Y:Keyed P k) (Z:P.underlying t=G (.map k e)) (R:P.underlying e=G .bool) (hz:(zeroValue e).run P w=.ok (.bool ag) w) (b n:C) (D:DataW H)
  (hm:a.eval m=.map (G b)) (y:w.ownsMap P k (az P e) b n D) (z:ax) (U:Lit) (hx:a.eval x=z) (A:keyOf P k z=G U)
  (J:Bool) (N:D.atKey U (.lit (.bool ag))=.lit (.bool J))
  (hK:wpList P u Q h (a.put o.dst (.bool J)) w):
  wpList P u Q (o::h) a w:=by
 refine wpList_plain X λK' O=>?_
 obtain⟨v,ps,F,hv⟩:=y.lookup Y Z hz (plainElem_bool R ag) A;obtain⟨c,rfl,V⟩:=zA4 R hv;simp only[Prod.mk.injEq]at V;obtain rfl:c=J:=by
  have:=V.1.symm.trans N
  simpa using this
 unfold Oper.wp;simp[execOp,I,hm,hx,F,Result.andThen];exact O _ _ hK
def BMap (w:ab)(mb:C)(g:af->Bool)(N:C):Prop:=
 ∃ (D:DataW Unit) (n:C),n<=N/\w.ownsMap ah 3 (az ah 4) mb n D/\∀ x,D.atKey (.int M x) (.lit (.bool ag))=.lit (.bool (g x))
theorem BMap.lt (h:BMap w o f N):o<(w:C):=by
 obtain⟨D,n,_,u,_⟩:=h;exact u.lt
theorem BMap.fr {S:C->Prop}(h:BMap w o f N)(u:Fr S w w')(v:¬ S o):BMap w' o f N:=by
 obtain⟨D,n,y,z,r⟩:=h;exact⟨D,n,y,u.ownsMap z v,r⟩
theorem zeroB (w:ab):(zeroValue 4).run ah w=.ok (.bool ag) w:=by kernel_rfl
theorem zEL (w:ab):BMap (w.alloc (.map #[] 0)) (w:C) (λ_=>ag) 0:=
 ⟨.map [],0,bh _,World.ownsMap_made _ _ _ _,λ_=>rfl⟩
theorem BMap.put {v:ab}{D:DataW Unit}{g:af->Bool}(F:n<=N)(z:w.ownsMap ah 3 (az ah 4) o n D)(h:∀ x,D.atKey (.int M x) (.lit (.bool ag))=.lit (.bool (g x)))
  (x:af) (b:Bool) (u:v.ownsMap ah 3 (az ah 4) o (n+1) (D.put (.int M x) (.lit (.bool b)))):BMap v o (upd g x b) (N+1):=by
 refine⟨_,n+1,by omega,u,λy=>?_⟩;unfold upd;split
 .rename_i e;subst e;exact atKey_put_same z.isMap (zCb _) _ _
 .rename_i e;rw[atKey_put_other (by intro A;exact e (by simpa using A))];exact h y
end Go.Proofs.YtckkocmhlhefpaaGreatDoor
