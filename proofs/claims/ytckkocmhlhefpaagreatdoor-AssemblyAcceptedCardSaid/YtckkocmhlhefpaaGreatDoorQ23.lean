import Derived.Test.YtckkocmhlhefpaaGreatDoorQ22
namespace Go.Proofs.YtckkocmhlhefpaaGreatDoor
open Go.RowKit Go.Maps
set_option linter.unusedVariables false
set_option maxRecDepth 100000
set_option maxHeartbeats 8000000
open ArrM renaming toArr->bj
open Fr renaming refl->ai
open Go renaming World->ah,Addr->al,maxLen->ao,Calls->ar,wpList_append_own->bt
open Go.Proofs renaming intOf->ak
open Go.Proofs.Tryz renaming prog->an,underlying283->ax,underlying236->bh,func160->br
open Go.RowKit renaming Hid->ac
open Go.Value renaming slice->ap,agg->bi
open Go.World renaming ownsRow_nil->bs
open IntKind renaming i64->E
open Mem renaming k->am,vals->bf
open Obj renaming cells->P
open Value renaming int->C,string->Q,slice->B,agg->ae
open Vir renaming vals->bb
open _root_ renaming Nat->G,ByteArray->a0,List->aa,Int->ab,Option->aj,congrArg->aq
open _root_.Bool renaming true->af,false->ag,and_eq_true->bc
open _root_.ByteArray renaming empty->aw
open _root_.List renaming mem_of_getElem?->au,length_map->ay,take_add_one->az,take_length->ba,map_append->bd,mem_map_of_mem->be,getElem?_map->bm,length->bn,length_append->bo,map_cons->bp,map_nil->bq
open _root_.Option renaming some->f,none->M,getD_some->bg
variable{m:Mem}{l o u:aa a0}{s:a0}{k:ab}{S:aa Src}{L:aa Mem}{O:aa ArrM}{c:Ct}{y:a0->ab->Ct->Mem}{tx:Dev->a0}{h:Mem->Bool}
def soundA (m:Mem):Bool:=soundB m&&decide (m.l.length=1)
theorem zF9 (h:soundA m=af):soundB m=true:=by
 unfold soundA at h;rw[bc]at h;exact h.1
theorem zO5 (p i:a0)(r s t e:ab)(a:aj al)(l:aa a0)(c:G)(w:ah):
  ar an 160 #[ae #[Q p,Q i,C E r,C E s,C E t,C E e,B a l.length c]] w λF w'=>F=.returned (.bool (soundA ⟨p,i,r,s,t,e,a,l,c⟩))/\Fr No w w':=by
 have I:Fr No w (w.alloc (P #[Q p,Q i,C E r,C E s,C E t,C E e,B a l.length c] 232)):=(ai _ _).alloc _;have J:=zKe p i r s t e (B a l.length c) (w.alloc (P #[Q p,Q i,C E r,C E s,C E t,C E e,B a l.length c] 232));obtain⟨h,o⟩:∃ h,h=soundA ⟨p,i,r,s,t,e,a,l,c⟩:=⟨_,rfl⟩
 rw[<-o];have y:ac (h=((!p.toList.isEmpty&&(decide (1<=s)&&decide (s<=16))&&(decide (1<=t)&&decide (t<=16)))&&decide (l.length=1))):=o;clear o;have N:=zF w (P #[Q p,Q i,C E r,C E s,C E t,C E e,B a l.length c] 232);have O:=zh I;clear I
 go_enter br,Tryz.ntmps160
 go_wp2_with fail
 refine J.mono ?_;rintro F R ⟨rfl,u⟩;have H:=zh (O.out.step u zi);have X:R.cell? ⟨w,6,M⟩=f (B a l.length c):=u.cell (zB N 6) id;clear u J N;obtain⟨b,A⟩:∃ b,b=(!p.toList.isEmpty&&(decide (1<=s)&&decide (s<=16))&&(decide (1<=t)&&decide (t<=16))):=⟨_,rfl⟩
 rw[<-A];have D:ac (h=(b&&decide (l.length=1))):=by unfold ac;rw[y.out,A]
 clear A y;cases b with
 | false=>
  have z:ac (h=ag):=by unfold ac;rw[D.out];rfl
  go_wp2_with fail
  go_ret;exact⟨by rw[z.out];rfl,H.out⟩
 | true=>
  by_cases v:l.length=1
  .have U:((l.length:ab)==1)=true:=by simp[v]
   have z:ac (h=af):=by unfold ac;rw[D.out];simp[v]
   have V:=zh v;clear v
   go_wp2_with fail
   go_ret;exact⟨by rw[z.out];rfl,H.out⟩
  .have U:((l.length:ab)==1)=false:=by simp;omega
   have z:ac (h=ag):=by unfold ac;rw[D.out];simp[v]
   have V:=zh v;clear v
   go_wp2_with fail
   go_ret;exact⟨by rw[z.out];rfl,H.out⟩
def hasS (l:aa a0)(s:a0):Bool:=l.any λx=>x.toList==s.toList
def IdxS (l:aa a0)(s:a0)(e:Ending):Prop:=∃ i:ab,e=.returned (C E i)/\decide (0<=i)=hasS l s
theorem zN0 {k:G}{x:a0}(h:l[k]?=f x)(o:(x.toList==s.toList)=af):hasS l s=true:=by
 unfold hasS;rw[List.any_eq_true];exact⟨x,au h,o⟩
theorem zNz (h:∀ x∈l,(x.toList==s.toList)=ag):hasS l s=false:=by
 unfold hasS;rw[List.any_eq_false];intro x o;simp[h x o]
theorem zON (a:aj al)(o:G)(L:aa Mem)(z:ab)(w:ah)(D:Mems w a o L)(F:MemSmall2 L)(u:w.cell? ⟨0,0,M⟩=f (C E z))(v:0<(w:G)):
  ar an 107 #[B a L.length o] w λe w'=>ArrRes w (zv soundA L) e w'/\Fr No w w':=by
 have h:=zIH 160 soundA (enters_of br (by kernel_rfl) rfl) zO5 (λm h=>zF9 h) a o L z w D F u v
 go_enter Tryz.func107,Tryz.ntmps107
 go_wp2_with fail
 refine h.mono ?_;rintro e N ⟨⟨I,J,O,y,rfl,r⟩,A⟩;have H:=zg2 r A;clear r A h
 go_wp2_with fail
 go_ret;exact⟨⟨I,J,O,y,rfl,H.out.1⟩,H.out.2⟩
theorem zNG (a:aj al)(o:G)(L:aa Mem)(z:ab)(w:ah)(D:Mems w a o L)(F:MemSmall2 L)(u:w.cell? ⟨0,0,M⟩=f (C E z))(v:0<(w:G)):
  ar an 116 #[B a L.length o] w λe w'=>ArrRes w (zv soundB L) e w'/\Fr No w w':=by
 have h:=zIH 166 soundB (enters_of Tryz.func166 (by kernel_rfl) rfl) (λp i r s t e a l c w=>zOU p i r s t e _ w) (λm h=>h) a o L z w D F u v
 go_enter Tryz.func116,Tryz.ntmps116
 go_wp2_with fail
 refine h.mono ?_;rintro e N ⟨⟨I,J,O,y,rfl,r⟩,A⟩;have H:=zg2 r A;clear r A h
 go_wp2_with fail
 go_ret;exact⟨⟨I,J,O,y,rfl,H.out.1⟩,H.out.2⟩
def openT : a0:=⟨#[111,112,101,110,45]⟩
def zKX (L:aa Mem)(x:a0):a0:=((best L (kb x)).getD Mem.zero).l.headD ⟨#[]⟩
def virOf (L:aa Mem)(r:ab)(x:a0):Vir:=⟨⟨#[]⟩,openT++x,zKX L x,r⟩
def opened (ids K:aa a0):aa a0:=ids.filter (hasS K)
theorem AscS.nodup (h:AscS (l.map kb)):l.Nodup:=by
 have o:=List.pairwise_map.1 h;exact o.imp (fun {a b} h e=>h.2 (by rw[e]))
def mapM (g:aa UInt8->aj Mem):aa UInt8->aj Value:=λx=>(g x).map Mem.v
theorem zH8 (g:aa UInt8->aj Mem)(x:aa UInt8)(m:Mem):updS (mapM g) x m.v=mapM (λy=>if y=x then f m else g y):=by
 funext y
 unfold updS mapM;by_cases h:y=x<;>simp[h]
def zB9 : Value:=ae #[Q ⟨#[]⟩,Q ⟨#[]⟩,C E 0,C E 0,C E 0,C E 0,B M 0 0]
theorem zeroM (w:ah):(zeroValue 232).run an w=.ok zB9 w:=by kernel_rfl
structure MemSmall (L:aa Mem):Prop where
 len:L.length<=1000
 p:∀ m∈L,m.p.size<=1000000
 i:∀ m∈L,m.i.size<=1000000
 l:∀ m∈L,m.l.length<=1000000
def OwnRes (w:ah)(L:aa Mem)(e:Ending)(w':ah):Prop:=
 ∃ (a':aj al) (c':G) (O:aa Mem) (ids:aa a0),e=.returned (B a' O.length c')/\Mems w' a' c' O/\(∀ ad,a'=f ad->(w:G)<=ad.block)/\MFresh w' (w:G) O/\IsIds L ids/\O.map am=own1 L ids/\ids.length<=L.length
theorem zMT (a:aj al)(e6:G)(L:aa Mem)(m0:ab)(w:ah)(hl:Mems w a e6 L)(hb:MemSmall L)(j5:w.cell? ⟨0,0,M⟩=f (C E m0))(l6:0<(w:G)):
  ar an 165 #[B a L.length e6] w λe w'=>OwnRes w L e w'/\Fr No w w':=by
 obtain⟨i0,j6,j7,j8,j9⟩:=info_parts infoM;have l7:=hb.len;have k0:=@run_makeMap an;have hx:Fr No w (w.alloc (.map #[] 0)):=(ai _ _).alloc _;have k1:=VMap.made w;have k2:(w:G)<(w.alloc (.map #[] 0)).heap.size:=by simp
 have g7:∀ W:ah,Fr (From (w:G)) w W->Mems W a e6 L:=λW hf=>hl.keep hf (λb hb h=>by omega)
 have g8:=zh g7;have Hb:=zh hb;clear g7 hb hl
 go_enter Tryz.func165,Tryz.ntmps165
 go_wp2_with fail
 clear k0;generalize w.alloc (.map #[] 0)=W0 at *
 go_loopw [16] (λi wr=>∃ k:G,k<=L.length/\i=C E (k:ab)/\VMap wr (w:G) (mapM (best (L.take k))) k/\Fr (From (w:G)) w wr/\(w:G)<(wr:G)) (λi _=>L.length-(ak i).toNat)
 case atStart=>exact⟨0,by omega,rfl,by exact k1,hx.mono zn,k2⟩
 case round=>
  obtain⟨k,hk,rfl,hI,U,l8⟩:=hrel;by_cases e7:k<L.length
  .have g9:(k:ab)<L.length:=by omega
   obtain⟨b,k3,m,rfl,e8,k4,k5,l9⟩:=(g8.out _ U).elem e7;have V:=au e8;have d4:ac (L.take (k+1)=L.take k++[m]):=by unfold ac;rw[az,e8];rfl
   have h0:=Hb.out.p m V;have b5:m.i.size<=maxLen:=by have:=Hb.out.i m V;unfold ao;omega
   have h3:wr.cell? ⟨0,0,M⟩=f (C E m0):=U.cell j5 (by show ¬ From (w:G) 0;omega);obtain⟨Y,y,Z,ms,mt,me,ma,X,mc⟩:=m;obtain⟨c0,c1,c2,c3,c4,c5,c6⟩:=k5;simp only at c0 c1 c2 c3 c4 c5 c6 h0 b5;clear e8 k4 V;by_cases b6:X.length=1
   .have k6:((X.length:ab) != 1)=false:=by simp[b6]
    have h4:=zh b6;clear b6;have u:Fr No wr (wr.alloc (P #[Q Y,Q y,C E Z,C E ms,C E mt,C E me,B ma X.length mc] 232)):=(ai _ _).alloc _;have q1:=zF wr (P #[Q Y,Q y,C E Z,C E ms,C E mt,C E me,B ma X.length mc] 232);have b0:=hI.fr u id;clear hI;rcases hg:best (L.take k) (kb y)with _|o
    .have hv:(mapM (best (L.take k)) (kb y)).getD zB9=ae #[Q ⟨#[]⟩,Q ⟨#[]⟩,C E 0,C E 0,C E 0,C E 0,B M 0 0]:=by unfold mapM;rw[hg];rfl
     have b7:(mapM (best (L.take k)) (kb y)).isSome=false:=by unfold mapM;rw[hg];rfl
     have Hg:ac (∀ o,best (L.take k) (kb y)=f o->ahead ⟨Y,y,Z,ms,mt,me,ma,X,mc⟩ o=af):=λo ho=>by rw[hg]at ho;cases ho
     clear hg
     go_upto_region 8 with(at_lookup;refine zBr rfl _ _ 283 232 zB9 (zeroM _) rfl ax (w:G) _ k y b5 rfl b0 rfl (ae #[Q ⟨#[]⟩,Q ⟨#[]⟩,C E 0,C E 0,C E 0,C E 0,B M 0 0]) hv ag b7 ?_)
     have a2:Fr No wr ((wr.alloc (P #[Q Y,Q y,C E Z,C E ms,C E mt,C E me,B ma X.length mc] 232)).alloc (P #[Q ⟨#[]⟩,Q ⟨#[]⟩,C E 0,C E 0,C E 0,C E 0,B M 0 0] 232)):=u.alloc _;have q2:=zO wr (P #[Q Y,Q y,C E Z,C E ms,C E mt,C E me,B ma X.length mc] 232) (P #[Q ⟨#[]⟩,Q ⟨#[]⟩,C E 0,C E 0,C E 0,C E 0,B M 0 0] 232);have b1:=b0.fr ((ai No _).alloc (P #[Q ⟨#[]⟩,Q ⟨#[]⟩,C E 0,C E 0,C E 0,C E 0,B M 0 0] 232)) id;clear b0 hv b7 c0 c1 c2 c3 c4 c5 c6 q1 u;generalize (wr.alloc (P #[Q Y,Q y,C E Z,C E ms,C E mt,C E me,B ma X.length mc] 232)).alloc (P #[Q ⟨#[]⟩,Q ⟨#[]⟩,C E 0,C E 0,C E 0,C E 0,B M 0 0] 232)=W2 at *;obtain⟨y0,y1,y2,y3,y4,y5,y6⟩:=cl7 q2;have b2:=zh (U.step a2 zn);have h5:=a2.size;clear q2 a2 U
     go_wp2_with (at_mapUpdate;refine zCA rfl _ _ _ 283 232 rfl ax (w:G) _ k (by unfold ao;omega) y b5 (ae #[Q Y,Q y,C E Z,C E ms,C E mt,C E me,B ma X.length mc]) rfl b1 rfl rfl ?_;intro w4 b8 a6)
     have a3:VMap w4 (w:G) (mapM (best (L.take (k+1)))) (k+1):=by rw[d4.out,zBn,zE4 h4.out Hg.out,<-zH8];exact b8
     have H:=zg3 a3 (b2.out.step a6 (λb hb e=>by omega)) a6.size;clear b8 a3 a6
     go_roundw
     case rel=>exact⟨k+1,by omega,by go_num,H.out.1,H.out.2.1,by have:=H.out.2.2;omega⟩
     case measure=>simp[ak];omega
    .obtain⟨D,J,F,os,N,R,oa,z,oc⟩:=o;have hv:(mapM (best (L.take k)) (kb y)).getD zB9=ae #[Q D,Q J,C E F,C E os,C E N,C E R,B oa z.length oc]:=by unfold mapM;rw[hg];rfl
     have b7:(mapM (best (L.take k)) (kb y)).isSome=true:=by unfold mapM;rw[hg];rfl
     have h6:=Hb.out.p _ (List.mem_of_mem_take (zCp _ _ _ hg).1);simp only at h6;have Hg:=zh hg;clear hg
     go_upto_region 8 with(at_lookup;refine zBr rfl _ _ 283 232 zB9 (zeroM _) rfl ax (w:G) _ k y b5 rfl b0 rfl (ae #[Q D,Q J,C E F,C E os,C E N,C E R,B oa z.length oc]) hv af b7 ?_)
     have a2:Fr No wr ((wr.alloc (P #[Q Y,Q y,C E Z,C E ms,C E mt,C E me,B ma X.length mc] 232)).alloc (P #[Q D,Q J,C E F,C E os,C E N,C E R,B oa z.length oc] 232)):=u.alloc _;have q2:=zO wr (P #[Q Y,Q y,C E Z,C E ms,C E mt,C E me,B ma X.length mc] 232) (P #[Q D,Q J,C E F,C E os,C E N,C E R,B oa z.length oc] 232);have q3:=zR wr (P #[Q Y,Q y,C E Z,C E ms,C E mt,C E me,B ma X.length mc] 232) (P #[Q D,Q J,C E F,C E os,C E N,C E R,B oa z.length oc] 232);have b1:=b0.fr ((ai No _).alloc (P #[Q D,Q J,C E F,C E os,C E N,C E R,B oa z.length oc] 232)) id;clear b0 hv b7 c0 c1 c2 c3 c4 c5 c6 q1 u;generalize (wr.alloc (P #[Q Y,Q y,C E Z,C E ms,C E mt,C E me,B ma X.length mc] 232)).alloc (P #[Q D,Q J,C E F,C E os,C E N,C E R,B oa z.length oc] 232)=W2 at *;obtain⟨z0,z1,z2,z3,z4,z5,z6⟩:=cl7 q3;have h7:=a2.cell h3 id;have b2:=zh (U.step a2 zn);have h5:=a2.size;clear q3 a2 U h3
     go_wp2_with fail
     refine(zNr Y y D J Z ms mt me F os N R _ _ m0 _ h0 h6 h7).mono ?_;rintro en w3 ⟨rfl,b9⟩;have q4:=b9.heap q2 id;have b3:=b1.fr b9 id;have h8:=zh (b2.out.step b9 zn);have h9:=b9.size;clear z0 z1 z2 z3 z4 z5 z6 b9 q2 h7 b1;rcases ha:aheadB Y Z D F with _|_
     .have a3:VMap w3 (w:G) (mapM (best (L.take (k+1)))) k:=by rw[d4.out,zBn,zJK (m:=⟨Y,y,Z,ms,mt,me,ma,X,mc⟩) (o:=⟨D,J,F,os,N,R,oa,z,oc⟩) Hg.out ha];exact b3
      have H:=zg2 a3 h8.out;clear a3 b3 q4
      go_wp2_with fail
      go_roundw
      case rel=>exact⟨k+1,by omega,by go_num,H.out.1.mono (by omega),H.out.2,by omega⟩
      case measure=>simp[ak];omega
     .have k7:ac (∀ o,best (L.take k) (kb y)=f o->ahead ⟨Y,y,Z,ms,mt,me,ma,X,mc⟩ o=af):=λo ho=>by rw[Hg.out]at ho;cases ho;exact ha
      obtain⟨y0,y1,y2,y3,y4,y5,y6⟩:=cl7 q4;clear q4 ha
      go_wp2_with (at_mapUpdate;refine zCA rfl _ _ _ 283 232 rfl ax (w:G) _ k (by unfold ao;omega) y b5 (ae #[Q Y,Q y,C E Z,C E ms,C E mt,C E me,B ma X.length mc]) rfl b3 rfl rfl ?_;intro w4 b8 a6)
      have a3:VMap w4 (w:G) (mapM (best (L.take (k+1)))) (k+1):=by rw[d4.out,zBn,zE4 h4.out k7.out,<-zH8];exact b8
      have H:=zg3 a3 (h8.out.step a6 (λb hb e=>by omega)) a6.size;clear b8 a3 a6
      go_roundw
      case rel=>exact⟨k+1,by omega,by go_num,H.out.1,H.out.2.1,by have:=H.out.2.2;omega⟩
      case measure=>simp[ak];omega
   .have k6:((X.length:ab) != 1)=true:=by simp;omega
    have u:Fr No wr (wr.alloc (P #[Q Y,Q y,C E Z,C E ms,C E mt,C E me,B ma X.length mc] 232)):=(ai _ _).alloc _;have b4:VMap (wr.alloc (P #[Q Y,Q y,C E Z,C E ms,C E mt,C E me,B ma X.length mc] 232)) (w:G) (mapM (best (L.take (k+1)))) k:=by rw[d4.out,zBn,zJJ b6];exact hI.fr u id
    have H:=zg3 b4 (U.step u zn) u.size;clear b4 hI u U b6
    go_wp2_with fail
    go_roundw
    case rel=>exact⟨k+1,by omega,by go_num,H.out.1.mono (by omega),H.out.2.1,by have:=H.out.2.2;omega⟩
    case measure=>simp[ak];omega
  .obtain rfl:k=L.length:=by omega
   rw[ba]at hI
   go_wp2_with fail
   refine(zOp _ _).mono ?_;rintro en w1 ⟨rfl,rfl⟩;have u:Fr No wr (wr.alloc (P #[.map (f (w:G))] 283)):=(ai _ _).alloc _;have q1:=zF wr (P #[.map (f (w:G))] 283);have k8:(wr:G)<(wr.alloc (P #[.map (f (w:G))] 283)).heap.size:=by simp
   have b4:=hI.fr u id;have i1:=zh (U.step u zn);clear hI U u
   go_wp2_with fail
   generalize wr.alloc (P #[.map (f (w:G))] 283)=W1 at *;refine(zLy (w:G) (wr:G) _ L.length W1 b4 (by omega) (zB q1 0) k8).mono ?_;rintro en w2 ⟨⟨ia,ic,I,rfl,hS,d9,V,k9,A⟩,d5⟩;have e0:IsIds L I:=⟨d9,λx=>by rw[V];unfold mapM;rw[Option.isSome_map]⟩
   have b1:=b4.fr d5 id;have b2:=zh (i1.out.step d5 zn);have h5:=d5.size;have e1:=zh e0;have m1:=hS.lenmax;clear q1 b4 d5 d9 V e0 A
   go_wp2_with fail
   go_loopw [9,50] (λv i wr=>∃ (j:G) (O:aa Mem) (av:aj al) (cv:G),j<=I.length/\O.length<=j/\v=B av O.length cv/\i=C E (j:ab)/\wr.ownsRow (w2:G) 232 7 (B av O.length cv) O.length (mflat O)/\MFresh wr (w2:G) O/\ac (O.map am=own1 L (I.take j))/\Fr (From (w2:G)) w2 wr) (λ_ i _=>I.length-(ak i).toNat)
   case atStart=>exact⟨0,[],M,0,by omega,by simp,rfl,rfl,bs _ _ _ _,λm hm=>by simp at hm,by unfold ac own1;simp,ai _ _⟩
   case round=>
    obtain⟨j,O,av,cv,hj,m2,rfl,rfl,a4,d0,HO,hf⟩:=hrel;by_cases e7:j<I.length
    .have g9:(j:ab)<I.length:=by omega
     obtain⟨b,k3,x,rfl,e9,hc⟩:=(hS.keep hf (λb hb h=>by omega)).at e7;have i2:=au e9;have l0:ac (I.take (j+1)=I.take j++[x]):=by unfold ac;rw[az,e9];rfl
     obtain⟨o,ho⟩:=Option.isSome_iff_exists.1 ((e1.out.mem x).1 i2);obtain⟨g0,d1,i3⟩:=zCp _ _ _ ho;have i4:=Hb.out.i o g0;have i5:=zGQ i3;have l1:x.size<=maxLen:=by rw[<-i5];unfold ao;omega
     have g1:=b2.out.trans hf (λb hb h=>h) (λb hb h=>by unfold From at h ⊢;omega);have g2:=(g8.out _ g1).ok o g0;have hv:(mapM (best L) (kb x)).getD zB9=o.v:=by unfold mapM;rw[ho];rfl
     have b3:=b1.fr hf (by omega);have m3:=zh g1;have Ho:=zh ho;clear ho g0 i4 i5 i3 i2 e9 g1;obtain⟨D,J,F,os,N,R,oa,z,oc⟩:=o;simp only at g2 d1;unfold Mem.v bf at hv;simp only at hv;have i6:z.length<=1000000:=by omega
     have d6:Fr No wr (wr.alloc (P #[Q D,Q J,C E F,C E os,C E N,C E R,B oa z.length oc] 232)):=(ai _ _).alloc _;have q3:=zF wr (P #[Q D,Q J,C E F,C E os,C E N,C E R,B oa z.length oc] 232);have e2:=g2.no d6 (λ_=>id);have l4:=zh d1;clear g2 d1
     go_upto_region 16 with(at_lookup;refine zM8 rfl _ _ 283 232 zB9 (zeroM _) rfl ax (w:G) _ _ x l1 rfl b3 rfl (ae #[Q D,Q J,C E F,C E os,C E N,C E R,B oa z.length oc]) hv ?_)
     generalize wr.alloc (P #[Q D,Q J,C E F,C E os,C E N,C E R,B oa z.length oc] 232)=W3 at *;have z6:W3.cell? ⟨wr,6,M⟩=f (B oa z.length oc):=zB q3 6;clear b3 hv hc
     go_wp2_with fail
     refine(zAp oa oc z W3 e2 i6).mono ?_;rintro en w4 ⟨⟨a1,c1,rfl,i7,i8,d7⟩,g3⟩;have q4:=g3.heap q3 id;have z7:w4.frozen? ⟨wr,6,M⟩=false:=zD q4 6;have z8:w4.cell? ⟨wr,6,M⟩=f (B oa z.length oc):=zB q4 6;have q5:=zE q4 6 (B a1 z.length c1);have h9:=d6.size;have m4:=zC q3;have e3:Fr No wr w4:=d6.step g3 zi;have d8:Fr (Is (wr:G)) w4 (w4.setCell ⟨wr,6,M⟩ (B a1 z.length c1)):=Fr.setCell (S:=Is (wr:G)) (p:=⟨wr,6,M⟩) (ai _ _) (λ_=>rfl) _;clear z6 q3 q4 e2
     go_upto_region 17 with(fail)
     generalize w4.setCell ⟨wr,6,M⟩ (B a1 z.length c1)=W5 at *;have a5:Fr (λb=>(wr:G)<=b) wr W5:=(e3.mono zn).step d8 (λb _ h=>by omega);have a7:=zG a4 a5 (λb hb h=>by have h1:=zY a4 hb;omega);have e4:=d0.fr a5 (λb _ h1 h2=>by omega);have i9:=i7.fr d8 (λad e _ h=>by have:=d7 ad e;omega);have j0:=i8.fr d8 (λad e h=>by have:=d7 ad e;omega);simp at q5;obtain⟨y0,y1,y2,y3,y4,y5,y6⟩:=cl7 q5;have m5:=a5.size;have l5:=hf.size;have j1:=zh a5;have g4:=zg3 i9 j0 d7;have g5:=zh a7;have j2:=zh e4;clear z7 z8 q5 d8 e3 d6 g3 i7 i8 d7 a4 d0 a5 i9 j0 e4
     go_wp2_with (at_builtin;refine bt _ rfl _ _ 179 rfl (w2:G) 232 i0 (ae #[Q aw,Q aw,C E 0,C E 0,C E 0,C E 0,B M 0 0]) 7 88 Tryz.underlying179 j6 j7 j8 j9 rfl (by decide) _ _ _ rfl (a7.alloc _) ⟨W5,0,M⟩ 1 1 (bf ⟨D,J,F,os,N,R,a1,z,c1⟩).toList rfl rfl (zg _ (bf ⟨D,J,F,os,N,R,a1,z,c1⟩) _ rfl) (zCZ _) (by unfold ao;omega) (by omega) (by first|omega|(simp;done)|(simp;omega)) ?_;intro v' w6 a8 a9 _;obtain⟨l2,l3,rfl⟩:=zI a8)
     have d2:Fr No W5 (W5.alloc (P #[Q D,Q J,C E F,C E os,C E N,C E R,B a1 z.length c1] 232)):=(ai _ _).alloc _;have d3:=g5.out.alloc (P #[Q D,Q J,C E F,C E os,C E N,C E R,B a1 z.length c1] 232);have g6:Fr (λb=>(ap av O.length cv).ownBlock=f b) (W5.alloc (P #[Q D,Q J,C E F,C E os,C E N,C E R,B a1 z.length c1] 232)) w6:=Fr.of_grown a9;have e5:MFresh w6 (w2:G) (O++[⟨D,J,F,os,N,R,a1,z,c1⟩]):=by
      refine MFresh.own (MFresh.snoc (j2.out.fr d2 (λ_ _ _=>id)) (g4.out.1.no d2 (λ_=>id)) (g4.out.2.1.fr d2 (λ_ _=>id)) (λad e=>?_)) d3 g6;have:=g4.out.2.2 ad e;omega
     have j3:(O++[(⟨D,J,F,os,N,R,a1,z,c1⟩:Mem)]).map am=own1 L (I.take (j+1)):=by
      rw[l0.out];unfold own1;rw[bd,bd,HO.out]
      congr 1
      simp only[bp,bq,Ho.out,bg];rfl
     have j4:Fr (From (w2:G)) w2 w6:=((hf.step j1.out (λb _ h=>by omega)).step d2 zn).step g6 (λb _ h=>zP d3 h);have HF:=zg4 a8 e5 j3 j4;clear a8 e5 j3 j4 a9 g6 d3 d2 y0 y1 y2 y3 y4 y5 y6 a7 hf
     go_roundw
     case rel=>exact⟨j+1,O++[⟨D,J,F,os,N,R,a1,z,c1⟩],l2,l3,by omega,by simp;omega,by simp,by go_num,by rw[bo,zB1];exact HF.out.1,HF.out.2.1,zh HF.out.2.2.1,HF.out.2.2.2⟩
     case measure=>simp[ak];omega
    .obtain rfl:j=I.length:=by omega
     obtain⟨a',c',hv,hR,A⟩:=Mems.of_own a4 (λm hm=>(d0 m hm).1);cases hv;have ho:=HO.out;rw[ba]at ho;have h9:=i1.out.size;have m6:=hf.size;have H:=zg5 hR A d0 ho ((b2.out.trans hf (λb hb h=>h) (λb hb h=>by unfold From at h ⊢;omega)).mono (T:=No) (λb hb h=>by omega));clear a4 d0 HO hf hR A ho
     go_wp2_with fail
     go_ret;exact⟨⟨_,_,O,I,rfl,H.out.1,λad e=>by have:=H.out.2.1 ad e;omega,λm hm=>⟨(H.out.2.2.1 m hm).1,(H.out.2.2.1 m hm).2.1,λad e=>by have:=(H.out.2.2.1 m hm).2.2 ad e;omega⟩,e1.out,H.out.2.2.2.1,k9⟩,H.out.2.2.2.2⟩
def KSet (w:ah)(mb:G)(K:aa a0)(N:G):Prop:=VMap w mb (λx=>if hasS K (bk x)=af then f (ae #[])else M) N
theorem KSet.fr {S:G->Prop}{w w':ah}{o:G}{N:G}(h:KSet w o u N)(v:Fr S w w')(y:¬ S o):KSet w' o u N:=VMap.fr h v y
theorem zL2 (o:aa a0)(x:a0):updS (λx=>if hasS o (bk x)=af then f (ae #[])else M) (kb x) (ae #[])=λy=>if hasS (o++[x]) (bk y)=af then f (ae #[])else none:=by
 funext y
 unfold updS;have e:hasS (o++[x]) (bk y)=(hasS o (bk y)||decide (y=kb x)):=by
  unfold hasS;rw[List.any_append];simp only[List.any_cons,List.any_nil,Bool.or_false]
  congr 1
  rw[strEq,decide_eq_decide];constructor
  .intro h;rw[h,zI6]
  .intro h;rw[h,zFo]
 rw[e];by_cases h:y=kb x
 .simp[h]
 .simp[h]
theorem zeroE (w:ah):(zeroValue 239).run an w=.ok (ae #[]) w:=by kernel_rfl
theorem zNt (a:aj al)(A:G)(o:aa a0)(w:ah)(X:Strs w a A o)(I:o.length<=1000000)(hs:∀ x∈o,x.size<=ao):
  ar an 164 #[B a o.length A] w λe w'=>(∃ J,e=.returned (.map (f J))/\KSet w' J o o.length/\(w:G)<=J)/\Fr No w w':=by
 have N:=@run_makeMap an;have Y:Fr No w (w.alloc (.map #[] 0)):=(ai _ _).alloc _;have O:=VMap.made w;have a2:=X.no Y (λ_=>id);have a3:(w:G)<(w.alloc (.map #[] 0)).heap.size:=by simp
 go_enter Tryz.func164,Tryz.ntmps164
 go_wp2_with fail
 clear N;generalize w.alloc (.map #[] 0)=W0 at *
 go_loopw [9] (λi wr=>∃ k:G,k<=o.length/\i=C E (k:ab)/\KSet wr (w:G) (o.take k) k/\Fr (From (w:G)) w wr) (λi _=>o.length-(ak i).toNat)
 case atStart=>exact⟨0,by omega,rfl,by unfold KSet;simpa [hasS]using O,Y.mono zn⟩
 case round=>
  obtain⟨k,hk,rfl,z,u⟩:=hrel;by_cases R:k<o.length
  .have Z:(k:ab)<o.length:=by omega
   obtain⟨b,a4,x,rfl,v,hc⟩:=(X.keep u (λb I h=>by omega)).at R;have U:=hs x (au v);have V:ac (o.take (k+1)=o.take k++[x]):=by unfold ac;rw[az,v];rfl
   clear v;unfold KSet at z
   go_wp2_with (at_mapUpdate;refine zCA rfl _ _ _ 236 239 rfl bh (w:G) _ k (by unfold ao;omega) x U (ae #[]) rfl z rfl rfl ?_;intro w1 y D)
   rw[zL2,<-V.out]at y;have F:Fr (From (w:G)) w w1:=u.step D (λb I e=>by omega);have H:=zg2 y F;clear y F D z u
   go_roundw
   case rel=>exact⟨k+1,by omega,by go_num,H.out.1,H.out.2⟩
   case measure=>simp[ak];omega
  .obtain rfl:k=o.length:=by omega
   rw[ba]at z;have H:=zg2 z (u.mono (T:=No) (λb I h=>by omega));clear z u
   go_wp2_with fail
   go_ret;exact⟨⟨_,rfl,H.out.1,Nat.le_refl _⟩,H.out.2⟩
theorem zOk {O:aa Mem}(v:IsIds L u)(h:O.map am=own1 L u){j:G}(J:O[j]?=f m):
  ∃ o,u[j]?=f m.i/\best L (kb m.i)=f o/\m.k=o.k/\m.l=o.l/\m.l.length=1/\o∈L:=by
 have A:(O.map am)[j]?=f m.k:=by rw[bm,J];rfl
 rw[h,own1,bm]at A;obtain⟨x,D,y⟩:=Option.map_eq_some_iff.1 A;obtain⟨o,z⟩:=Option.isSome_iff_exists.1 ((v.mem x).1 (au D));obtain⟨N,R,U⟩:=zCp _ _ _ z;rw[z,bg]at y;have V:m.i=o.i:=(aq Mem.i y).symm;have F:m.l=o.l:=(aq Mem.l y).symm;have I:m.i=x:=by rw[V];exact zGQ U
 refine⟨o,by rw[I];exact D,by rw[I];exact z,y.symm,F,by rw[F];exact R,N⟩
theorem zNh {O:aa Mem}(h:O.map am=own1 L o):O.length=o.length:=by
 have:=aq bn h
 simpa [own1]using this
theorem zDt (h o:aa a0)(x:a0):opened (h++[x]) o=opened h o++(if hasS o x=af then [x]else []):=by
 unfold opened;rw[List.filter_append]
 congr 1
 rw[List.filter_cons];split<;>rfl
def zOQ (w:ah)(L:aa Mem)(K:aa a0)(r:ab)(e:Ending)(w':ah):Prop:=
 ∃ (a':aj al) (c':G) (V:aa Vir) (ids:aa a0),e=.returned (B a' V.length c')/\Virs w' a' c' V/\(∀ ad,a'=f ad->(w:G)<=ad.block)/\IsIds L ids/\V=(opened ids K).map (virOf L r)/\ids.length<=L.length
theorem zM0 (a:aj al)(b0:G)(L:aa Mem)(ka:aj al)(kc:G)(F:aa a0)(r:ab)(m0:ab)(w:ah)(hl:Mems w a b0 L)(hb:MemSmall L)(hk:Strs w ka kc F)(e5:F.length<=1000000)(b9:∀ x∈F,x.size<=ao)
  (d0:w.cell? ⟨0,0,M⟩=f (C E m0)) (h9:0<(w:G)):
  ar an 114 #[B a L.length b0,B ka F.length kc,C E r] w λe w'=>zOQ w L F r e w'/\Fr No w w':=by
 obtain⟨i0,e6,e7,e8,e9⟩:=info_parts infoV;have i1:=hb.len;have Hb:=zh hb;clear hb
 go_enter Tryz.func114,Tryz.ntmps114
 go_wp2_with fail
 refine(zNt ka kc F w hk e5 b9).mono ?_;rintro e w1 ⟨⟨mb,rfl,b1,i2⟩,Y⟩;have d1:=hl.no Y (λ_=>id);have D:=Y.cell d0 id;have i3:=Y.size;have g0:=zh Y;have h7:mb<(w1:G):=VMap.lt b1;clear hk b9 hl d0 Y
 go_wp2_with fail
 refine(zMT a b0 L m0 w1 d1 Hb.out D (by omega)).mono ?_;rintro e w2 ⟨⟨oa,oc,O,X,rfl,hO,g2,d2,a7,ho,g3⟩,a5⟩;have g4:=zNh ho;have i4:=a5.size;have g5:=b1.fr a5 id;have d3:=zh (g0.out.step a5 zi);have a8:=zh a7;have Ho:=zh ho;have i5:=zh d2;have i6:=hO.lenmax;clear d1 D a5 b1 a7 ho d2 g2
 go_wp2_with fail
 go_loopw [8,18] (λv i wr=>∃ (j:G) (V:aa Vir) (Z:aj al) (cv:G),j<=O.length/\V.length<=j/\v=B Z V.length cv/\i=C E (j:ab)/\wr.ownsRow (w2:G) 97 4 (B Z V.length cv) V.length (vflat V)/\ac (V=(opened (X.take j) F).map (virOf L r))/\Fr (From (w2:G)) w2 wr) (λ_ i _=>O.length-(ak i).toNat)
 case atStart=>exact⟨0,[],M,0,by omega,by simp,rfl,rfl,bs _ _ _ _,by unfold ac;simp[opened],ai _ _⟩
 case round=>
  obtain⟨j,V,Z,cv,hj,i7,rfl,rfl,u,HV,hf⟩:=hrel;have i8:=hf.size;by_cases g7:j<O.length
  .have h8:(j:ab)<O.length:=by omega
   obtain⟨b,i9,m,rfl,b2,d4,g8,j0⟩:=(hO.keep hf (λb hb h=>by omega)).elem g7;obtain⟨o,d5,I,d6,d7,D,d8⟩:=zOk a8.out Ho.out b2;have b3:∀ ad,m.a=f ad->ad.block<(w2:G):=λad e=>((hO.ok m (au b2)).cell ad e (by intro e;rw[e]at D;cases D)).2.1
   have g9:m.i.size<=1000000:=by have h1:=Hb.out.i o d8;have h2:=aq Mem.i d6;have h3:m.i=o.i:=h2;rw[h3];exact h1
   have b4:m.i.size<=maxLen:=by unfold ao;omega
   have b5:ac (X.take (j+1)=X.take j++[m.i]):=by unfold ac;rw[az,d5];rfl
   have h0:=g5.fr hf (by omega);have a9:=d4.at (k:=0) (by omega);have d9:ac (∀ c,m.l[0]?=f c->virOf L r m.i=⟨⟨#[]⟩,openT++m.i,c,r⟩):=λc hc=>by
    unfold virOf zKX;rw[I,bg,<-d7]
    congr 1
    rcases hll:m.l with _|⟨d,t⟩
    .rw[hll]at hc;cases hc
    .rw[hll]at hc;simpa using hc
   have e0:(0:ab)<m.l.length:=by omega
   clear b2 d5 I d6 d7 d8 d4;obtain⟨mp,z,mr,ms,mt,me,ma,ml,mc⟩:=m;obtain⟨c0,c1,c2,c3,c4,c5,c6⟩:=g8;simp only at c0 c1 c2 c3 c4 c5 c6 g9 b4 a9 e0 D b3;obtain⟨ib,io,c,rfl,hc,b6⟩:=a9;rw[Nat.add_zero]at b6;have e1:=b3 _ rfl;simp only at e1;clear b3;have Hc:=zh (d9.out c hc);have j1:=zh D;clear hc d9 D;simp only at Hc b5;have a2:Fr No wr (wr.alloc (P #[Q mp,Q z,C E mr,C E ms,C E mt,C E me,B (f ⟨ib,io,M⟩) ml.length mc] 232)):=(ai _ _).alloc _;have a6:=h0.fr a2 id;unfold KSet at a6;have hv:((λx=>if hasS F (bk x)=af then f (bi #[])else M) (kb z)).getD (ae #[])=ae #[]:=by
    simp only[zFo];cases hasS F z<;>rfl
   rcases hh:hasS F z with _|_
   .have I:((λx=>if hasS F (bk x)=af then f (bi #[])else M) (kb z)).isSome=false:=by simp only[zFo,hh];rfl
    have A:Fr No wr ((wr.alloc (P #[Q mp,Q z,C E mr,C E ms,C E mt,C E me,B (f ⟨ib,io,M⟩) ml.length mc] 232)).alloc (P #[] 239)):=a2.alloc _;have y:=zG u A zi;have b7:ac (V=(opened (X.take (j+1)) F).map (virOf L r)):=by unfold ac;rw[b5.out,zDt,hh];simpa using HV.out
    have HF:=zg2 y (hf.step A zn);clear y u A a2 hf hh HV
    go_wp2_with (at_lookup;refine zBr rfl _ _ 236 239 (ae #[]) (zeroE _) rfl bh mb _ _ z b4 rfl a6 rfl (ae #[]) hv ag I ?_)
    go_roundw
    case rel=>exact⟨j+1,V,Z,cv,by omega,by omega,rfl,by go_num,HF.out.1,b7,HF.out.2⟩
    case measure=>simp[ak];omega
   .have I:((λx=>if hasS F (bk x)=af then f (bi #[])else M) (kb z)).isSome=true:=by simp only[zFo,hh];rfl
    have A:Fr No wr ((wr.alloc (P #[Q mp,Q z,C E mr,C E ms,C E mt,C E me,B (f ⟨ib,io,M⟩) ml.length mc] 232)).alloc (P #[] 239)):=a2.alloc _;have q1:=zO wr (P #[Q mp,Q z,C E mr,C E ms,C E mt,C E me,B (f ⟨ib,io,M⟩) ml.length mc] 232) (P #[] 239);have y:=zG u A zi;have b7:ac ((opened (X.take (j+1)) F).map (virOf L r)=V++[⟨⟨#[]⟩,openT++z,c,r⟩]):=by unfold ac;rw[b5.out,zDt,hh,if_pos rfl,bd,<-HV.out,bp,bq,Hc.out]
    go_upto_region 8 with(at_lookup;refine zBr rfl _ _ 236 239 (ae #[]) (zeroE _) rfl bh mb _ _ z b4 rfl a6 rfl (ae #[]) hv af I ?_)
    have e2:=A.cell b6 id;have j2:=A.size;have e3:=hf.step A zn;have nO:¬ (ap Z V.length cv).ownBlock=f (wr:G):=λh=>by have:=zY u h;omega
    have nI:¬ (ap Z V.length cv).ownBlock=f ib:=λh=>by have:=zP u h;omega
    clear A a2 u b6 hf a6 hv I c0 c1 c2 c3 c4 c5 c6;generalize (wr.alloc (P #[Q mp,Q z,C E mr,C E ms,C E mt,C E me,B (f ⟨ib,io,M⟩) ml.length mc] 232)).alloc (P #[] 239)=W5 at *;refine zQ (λb=>(ap Z V.length cv).ownBlock=f b) [(0,ag),(1,ag),(2,ag),(3,ag),(4,ag),(5,ag),(6,ag),(7,ag),(8,ag),(9,ag),(10,af),(11,af),(12,ag)] (by kernel_rfl) (by kernel_rfl) (λw0 J=>?_);have g1:∀ g:Gr (λb=>(ap Z V.length cv).ownBlock=f b) w0,g.W.cell? ⟨wr,1,M⟩=f (Q z):=λg=>g.fr.cell (J.cell (zB q1 1) id) nO
    have g6:∀ g:Gr (λb=>(ap Z V.length cv).ownBlock=f b) w0,g.W.cell? ⟨wr,6,M⟩=f (B (f ⟨ib,io,M⟩) ml.length mc):=λg=>g.fr.cell (J.cell (zB q1 6) id) nO
    have gc:∀ g:Gr (λb=>(ap Z V.length cv).ownBlock=f b) w0,g.W.cell? ⟨ib,io,M⟩=f (Q c):=λg=>g.fr.cell (J.cell e2 id) nI
    have a3:=zG y J zi;have hz:¬ 9223372036854775807<5+z.size:=by omega
    have j3:=J.size;have h4:=zh (e3.step J zn);have a4:=zh a3;have j4:=zh HV;clear y J e3 q1 e2 nO nI HV a3
    repeat (apply zT rfl rfl rfl;intro F hK;go_big_quiet_op;go_big_quiet_on)
    clear g1 g6 gc;apply zt;exact rfl
    go_wp2_with fail
    refine zp ?_;apply zt;exact rfl
    go_wp2_with (at_builtin;refine bt _ rfl _ _ 49 rfl (w2:G) 97 i0 (ae #[Q aw,Q aw,Q aw,C E 0]) 4 56 Tryz.underlying49 e6 e7 e8 e9 rfl (by decide) _ _ _ rfl (a4.out.alloc _) ⟨w0,0,M⟩ 1 1 (bb ⟨⟨#[]⟩,openT++z,c,r⟩).toList rfl rfl (zg _ (bb ⟨⟨#[]⟩,openT++z,c,r⟩) _ rfl) (zCN _) (by unfold ao;omega) (by omega) (by first|omega|(simp;done)|(simp;omega)) ?_;intro v' w6 N R _;obtain⟨h5,h6,rfl⟩:=zI N)
    have b8:Fr (λb=>(ap Z V.length cv).ownBlock=f b) (w0.alloc (P (bb ⟨⟨#[]⟩,openT++z,c,r⟩) 97)) w6:=Fr.of_grown R;have e4:Fr No w0 (w0.alloc (P (bb ⟨⟨#[]⟩,openT++z,c,r⟩) 97)):=(ai _ _).alloc _;refine zf b8 ?_;have HF:=zg2 N ((h4.out.step e4 zn).step b8 (λb _ h=>zP a4.out h));clear N b8 e4 R
    repeat (apply zT rfl rfl rfl;intro F hK;go_big_quiet_op;go_big_quiet_on)
    refine zb ?_
    go_wp2_with fail
    go_roundw
    case rel=>exact⟨j+1,V++[⟨⟨#[]⟩,openT++z,c,r⟩],h5,h6,by omega,by simp;omega,by simp,by go_num,by rw[bo,zBs];exact HF.out.1,zh b7.out.symm,HF.out.2⟩
    case measure=>simp[ak];omega
  .obtain rfl:j=O.length:=by omega
   obtain⟨a',c',hv,hR,U⟩:=Virs.of_own u;cases hv;have hV:=HV.out;rw[g4,ba]at hV;have H:=zg4 hR U hV ((d3.out.step hf (λb hb h=>by have:=d3.out.size;omega)));clear u HV hf hR U hV
   go_wp2_with fail
   go_ret;exact⟨⟨_,_,V,X,rfl,H.out.1,λad e=>by have:=H.out.2.1 ad e;omega,a8.out,H.out.2.2.1,g3⟩,H.out.2.2.2⟩
theorem zKh (h:parseC s=f c):c.id.size<=100000/\c.inner.length<=10000:=by
 obtain⟨o,-⟩:=zBh h;have u:c∈c.walk:=by
  obtain⟨k,i,l,v,t,e,n⟩:=c;simp[Ct.walk]
 exact⟨(o.small c u).1,Nat.le_trans (zD5 u) o.count⟩
theorem zIN (h:parseC s=f c)(z:c.kind=2\/c.kind=4):1<=c.slot/\c.slot<=16:=by
 obtain⟨A,-⟩:=zBh h;have v:=A.good;obtain⟨k,i,l,o,t,e,n⟩:=c;rw[Ct.good,bc]at v;have y:=v.1;have u:k=2\/k=4:=z;rcases u with rfl|rfl
 .simp[alike,zAP]at y;show 1<=o/\o<=16
  omega
 .simp[alike,zAP]at y;show 1<=o/\o<=16
  omega
theorem zEA (h:parseC s=f c)(y:c.kind=2\/c.kind=3\/c.kind=4):c.inner.length<=16:=by
 obtain⟨z,-⟩:=zBh h;have v:=z.good;obtain⟨k,i,l,A,t,e,n⟩:=c;rw[Ct.good,bc]at v;have o:=v.1;have u:k=2\/k=3\/k=4:=y;show n.length<=16
 rcases u with rfl|rfl|rfl
 .simp[alike]at o;omega
 .simp[alike]at o;omega
 .simp[alike,someIn]at o;omega
structure OneM (m:Mem)(o:a0):Prop where
 p:m.p=o
 i:m.i.size<=100000
 l:m.l.length<=16
 s:0<=m.s/\m.s<=16
theorem zNk {u:a0->ab->Ct->Mem}(o:∀ p rd c,parseC c.txt=f c->c.kind=k->OneM (u p rd c) p){p:a0}{rd:ab}(h:ofK k u p rd s=f m):OneM m p:=by
 unfold ofK at h;cases hc:parseC s with
 | none=>rw[hc]at h;cases h
 | some c=>
  rw[hc]at h;simp only at h;split at h
  .rename_i v;cases h;have:=(zBh hc).2;exact o p rd c (by rw[this];exact hc) v
  .cases h
theorem zKJ (p:a0)(rd:ab)(c:Ct)(h:parseC c.txt=f c)(o:c.kind=2):OneM (mk2 p rd c) p:=by
 have u:=zKh h;have v:=zIN h (.inl o);exact⟨rfl,u.1,by show (c.inner.map Ct.txt).length<=16;rw[ay];exact zEA h (by simp[o]),by show 0<=c.slot/\c.slot<=16;omega⟩
theorem zKI (p:a0)(rd:ab)(c:Ct)(h:parseC c.txt=f c)(o:c.kind=3):OneM (mk3 p rd c) p:=by
 have u:=zKh h;exact⟨rfl,u.1,by show (c.inner.map Ct.txt).length<=16;rw[ay];exact zEA h (by simp[o]),by show (0:ab)<=0/\(0:ab)<=16;omega⟩
theorem zG9 (p:a0)(rd:ab)(c:Ct)(h:parseC c.txt=f c)(o:c.kind=4):OneM (mk4 p rd c) p:=by
 have u:=zKh h;have v:=zIN h (.inr o);exact⟨rfl,u.1,by show (c.inner.map Ct.txt).length<=16;rw[ay];exact zEA h (by simp[o]),by show 0<=c.slot/\c.slot<=16;omega⟩
theorem zH6 (v:∀ p rd c,parseC c.txt=f c->c.kind=k->OneM (y p rd c) p)(h:L.map am=S.filterMap (λs=>ofK k y s.o s.r (tx s.d))):
  L.length<=S.length/\∀ m∈L,∃ s∈S,OneM m s.o:=by
 refine⟨?_,λm A=>?_⟩
 .have:=aq bn h;rw[ay]at this;rw[this];exact List.length_filterMap_le _ _
 .have z:m.k∈L.map Mem.k:=be A;rw[h]at z;obtain⟨s,D,F⟩:=List.mem_filterMap.1 z;have u:=zNk v F;exact⟨s,D,⟨u.p,u.i,u.l,u.s⟩⟩
theorem zAv {D:a0->ab->Ct->Mem}(A:∀ p rd c,parseC c.txt=f c->c.kind=k->OneM (D p rd c) p)(h:L.map am=S.filterMap (λs=>ofK k D s.o s.r (tx s.d)))(I:S.length<=1000)(F:∀ s∈S,s.o.size<=1000000):MemSmall2 L:=by
 obtain⟨J,y⟩:=zH6 A h;refine⟨by omega,λm u=>?_,λm u=>?_,λm u=>?_,λm u=>?_⟩
 .obtain⟨s,z,v⟩:=y m u;rw[v.p];exact F s z
 .obtain⟨s,z,v⟩:=y m u;have:=v.i;omega
 .obtain⟨s,z,v⟩:=y m u;have:=v.l;omega
 .obtain⟨s,z,v⟩:=y m u;have:=v.s;exact WalkArith.wf_i64 (by omega)
theorem zEp (v:∀ p rd c,parseC c.txt=f c->c.kind=k->OneM (y p rd c) p)(h:L.map am=S.filterMap (λs=>ofK k y s.o s.r (tx s.d)))(z:S.length<=1000)(A:∀ s∈S,s.o.size<=1000000):MemSmall L:=
 have u:=zAv v h z A
 ⟨u.len,u.p,u.i,u.l⟩
theorem zIb {m:ArrM}(u:IsIds2 (zv h L) o)(z:O.map bj=o.map (buildA (zv h L)))(A:m∈O)(D:∀ x∈L,x.i.size<=1000000):m.i.size<=1000000:=by
 have y:m.toArr∈O.map ArrM.toArr:=be A;rw[z]at y;obtain⟨v,F,I⟩:=List.mem_map.1 y;have J:m.i=v:=by rw[<-I];rfl
 obtain⟨s,N⟩:=(u.mem v).1 F;obtain⟨x,R⟩:=Option.isSome_iff_exists.1 N;obtain⟨U,-,V⟩:=zAk L _ _ R;have X:x.i=v:=aq Prod.fst V;rw[J,<-X];exact D x U
theorem zGH {z:aa a0}{r:ab}{v:Vir}(y:IsIds L u)(A:v∈(opened u z).map (virOf L r))(D:∀ x∈L,x.i.size<=1000000):v.q.size=0/\v.o.size<=1000005:=by
 obtain⟨x,F,rfl⟩:=List.mem_map.1 A;have I:x∈u:=(List.mem_filter.1 F).1;obtain⟨m,J⟩:=Option.isSome_iff_exists.1 ((y.mem x).1 I);obtain⟨N,-,O⟩:=zCp L _ _ J;have R:m.i=x:=zB3 (l:=[m.i]) (l':=[x]) (by simp[O]) |> λh=>by injection h
 have U:=D m N;rw[R]at U;refine⟨rfl,?_⟩;show (openT++x).size<=_
 rw[ByteArray.size_append];show 5+x.size<=_
 omega
theorem zI4 {v:a0->ab->Ct->Mem}(u:∀ p rd c,parseC c.txt=f c->c.kind=k->OneM (v p rd c) p)(h:L.map am=S.filterMap (λs=>ofK k v s.o s.r (tx s.d))):∀ m∈L,m.l.length<=16:=λm y=>by
 obtain⟨s,A,z⟩:=(zH6 u h).2 m y;exact z.l
theorem zHJ (u:∀ x∈L,x.l.length<=16)(o:a0):(zAX (zv h L) o).l.length<=16:=by
 unfold zAX;cases hq:zv h L (o,zAw (zv h L) o)with
 | none=>simp[Mem.zero]
 | some m=>exact u m (zAk L _ _ hq).1
theorem zLC {m:ArrM}(y:O.map bj=o.map (buildA (zv h L)))(z:m∈O)(A:∀ x∈L,x.l.length<=16):m.l.length<=16:=by
 have u:m.toArr∈O.map ArrM.toArr:=be z;rw[y]at u;obtain⟨v,I,D⟩:=List.mem_map.1 u;have F:m.l=(zAX (zv h L) v).l:=by rw[<-D];rfl
 rw[F];exact zHJ A v
end Go.Proofs.YtckkocmhlhefpaaGreatDoor
