import Derived.Test.YtinfjnndbfahhaaGreatDoorQ29
namespace Go.Proofs.YtinfjnndbfahhaaGreatDoor
open Go.RowKit Go.Maps
set_option linter.unusedVariables false
set_option maxRecDepth 100000
set_option maxHeartbeats 8000000
def soundA (m:Mem):Bool:=soundB m&&decide (m.l.length=1)
theorem zEs {m:Mem}(h:soundA m=true):soundB m=true:=by
 unfold soundA at h;rw[Bool.and_eq_true]at h;exact h.1
theorem zME (p i:ByteArray)(r s t e:Int)(a:Option Addr)(l:List ByteArray)(c:Nat)(w:World):
  Calls Tryz.prog 160 #[.agg #[.string p,.string i,.int .i64 r,.int .i64 s,.int .i64 t,.int .i64 e,.slice a l.length c]] w fun z w'=>z=.returned (.bool (soundA ⟨p,i,r,s,t,e,a,l,c⟩))/\Fr No w w':=by
 have A:Fr No w (w.alloc (.cells #[.string p,.string i,.int .i64 r,.int .i64 s,.int .i64 t,.int .i64 e,.slice a l.length c] 231)):=(Fr.refl _ _).alloc _;have C:=zIY p i r s t e (.slice a l.length c) (w.alloc (.cells #[.string p,.string i,.int .i64 r,.int .i64 s,.int .i64 t,.int .i64 e,.slice a l.length c] 231));obtain⟨f,g⟩:∃ f,f=soundA ⟨p,i,r,s,t,e,a,l,c⟩:=⟨_,rfl⟩
 rw[<-g];have q:Hid (f=((!p.toList.isEmpty&&(decide (1<=s)&&decide (s<=16))&&(decide (1<=t)&&decide (t<=16)))&&decide (l.length=1))):=g;clear g;have D:=zD w (.cells #[.string p,.string i,.int .i64 r,.int .i64 s,.int .i64 t,.int .i64 e,.slice a l.length c] 231);have F:=zh A;clear A
 go_enter Tryz.func160,Tryz.ntmps160
 go_wp2_with fail
 refine C.mono ?_;rintro z I ⟨rfl,h⟩;have H:=zh (F.out.step h zi);have N:I.cell? ⟨w.heap.size,6,none⟩=some (.slice a l.length c):=h.cell (zB D 6) id;clear h C D;obtain⟨b,v⟩:∃ b,b=(!p.toList.isEmpty&&(decide (1<=s)&&decide (s<=16))&&(decide (1<=t)&&decide (t<=16))):=⟨_,rfl⟩
 rw[<-v];have y:Hid (f=(b&&decide (l.length=1))):=by unfold Hid;rw[q.out,v]
 clear v q;cases b with
 | false=>
  have u:Hid (f=false):=by unfold Hid;rw[y.out];rfl
  go_wp2_with fail
  go_ret;exact⟨by rw[u.out];rfl,H.out⟩
 | true=>
  by_cases o:l.length=1
  ·have J:((l.length:Int)==1)=true:=by simp[o]
   have u:Hid (f=true):=by unfold Hid;rw[y.out];simp[o]
   have L:=zh o;clear o
   go_wp2_with fail
   go_ret;exact⟨by rw[u.out];rfl,H.out⟩
  ·have J:((l.length:Int)==1)=false:=by simp;omega
   have u:Hid (f=false):=by unfold Hid;rw[y.out];simp[o]
   have L:=zh o;clear o
   go_wp2_with fail
   go_ret;exact⟨by rw[u.out];rfl,H.out⟩
def hasS (l:List ByteArray)(s:ByteArray):Bool:=l.any fun x=>x.toList==s.toList
def IdxS (l:List ByteArray)(s:ByteArray)(e:Ending):Prop:=∃ i:Int,e=.returned (.int .i64 i)/\decide (0<=i)=hasS l s
theorem zLG {l:List ByteArray}{s:ByteArray}{k:Nat}{x:ByteArray}(h:l[k]?=some x)(f:(x.toList==s.toList)=true):hasS l s=true:=by
 unfold hasS;rw[List.any_eq_true];exact⟨x,List.mem_of_getElem? h,f⟩
theorem zLF {l:List ByteArray}{s:ByteArray}(h:∀ x∈l,(x.toList==s.toList)=false):hasS l s=false:=by
 unfold hasS;rw[List.any_eq_false];intro x f;simp[h x f]
theorem zLb (a:Option Addr)(f:Nat)(L:List Mem)(u:Int)(w:World)(y:Mems w a f L)(z:MemSmall2 L)(g:w.cell? ⟨0,0,none⟩=some (.int .i64 u))(o:0<w.heap.size):
  Calls Tryz.prog 103 #[.slice a L.length f] w fun e w'=>ArrRes w (zo soundA L) e w'/\Fr No w w':=by
 have h:=zGY 160 soundA (enters_of Tryz.func160 (by kernel_rfl) rfl) zME (fun m h=>zEs h) a f L u w y z g o
 go_enter Tryz.func103,Tryz.ntmps103
 go_wp2_with fail
 refine h.mono ?_;rintro e C ⟨⟨A,c',O,q,rfl,r⟩,v⟩;have H:=zh (And.intro r v);clear r v h
 go_wp2_with fail
 go_ret;exact⟨⟨A,c',O,q,rfl,H.out.1⟩,H.out.2⟩
theorem zKf (a:Option Addr)(f:Nat)(L:List Mem)(u:Int)(w:World)(y:Mems w a f L)(z:MemSmall2 L)(g:w.cell? ⟨0,0,none⟩=some (.int .i64 u))(o:0<w.heap.size):
  Calls Tryz.prog 112 #[.slice a L.length f] w fun e w'=>ArrRes w (zo soundB L) e w'/\Fr No w w':=by
 have h:=zGY 166 soundB (enters_of Tryz.func166 (by kernel_rfl) rfl) (fun p i r s t e a l c w=>zLh p i r s t e _ w) (fun m h=>h) a f L u w y z g o
 go_enter Tryz.func112,Tryz.ntmps112
 go_wp2_with fail
 refine h.mono ?_;rintro e C ⟨⟨A,c',O,q,rfl,r⟩,v⟩;have H:=zh (And.intro r v);clear r v h
 go_wp2_with fail
 go_ret;exact⟨⟨A,c',O,q,rfl,H.out.1⟩,H.out.2⟩
def openT : ByteArray:=⟨#[111,112,101,110,45]⟩
def zKP (L:List Mem)(x:ByteArray):ByteArray:=((best L (kb x)).getD Mem.zero).l.headD ⟨#[]⟩
def virOf (L:List Mem)(r:Int)(x:ByteArray):Vir:=⟨⟨#[]⟩,openT++x,zKP L x,r⟩
def opened (ids K:List ByteArray):List ByteArray:=ids.filter (hasS K)
def mapM (g:List UInt8->Option Mem):List UInt8->Option Value:=fun x=>(g x).map Mem.v
theorem zGP (g:List UInt8->Option Mem)(x:List UInt8)(m:Mem):updS (mapM g) x m.v=mapM (fun y=>if y=x then some m else g y):=by
 funext y
 unfold updS mapM;by_cases h:y=x<;>simp[h]
def zBg : Value:=.agg #[.string ⟨#[]⟩,.string ⟨#[]⟩,.int .i64 0,.int .i64 0,.int .i64 0,.int .i64 0,.slice none 0 0]
theorem zeroM (w:World):(zeroValue 231).run Tryz.prog w=.ok zBg w:=by kernel_rfl
structure MemSmall (L:List Mem):Prop where
 len:L.length<=1000
 p:∀ m∈L,m.p.size<=1000000
 i:∀ m∈L,m.i.size<=1000000
 l:∀ m∈L,m.l.length<=1000000
def OwnRes (w:World)(L:List Mem)(e:Ending)(w':World):Prop:=
 ∃ (a':Option Addr) (c':Nat) (O:List Mem) (ids:List ByteArray),e=.returned (.slice a' O.length c')/\Mems w' a' c' O/\(∀ ad,a'=some ad->w.heap.size<=ad.block)/\MFresh w' w.heap.size O/\IsIds L ids/\O.map Mem.k=own1 L ids/\ids.length<=L.length
theorem zJ0 (a:Option Addr)(e3:Nat)(L:List Mem)(m0:Int)(w:World)(hl:Mems w a e3 L)(hb:MemSmall L)(i2:w.cell? ⟨0,0,none⟩=some (.int .i64 m0))(k3:0<w.heap.size):
  Calls Tryz.prog 165 #[.slice a L.length e3] w fun e w'=>OwnRes w L e w'/\Fr No w w':=by
 obtain⟨i0,i3,i4,i5,i6⟩:=info_parts infoM;have k4:=hb.len;have i7:=@run_makeMap Tryz.prog;have hx:Fr No w (w.alloc (.map #[] 0)):=(Fr.refl _ _).alloc _;have i8:=VMap.made w;have i9:w.heap.size<(w.alloc (.map #[] 0)).heap.size:=by simp
 have f4:∀ W:World,Fr (From w.heap.size) w W->Mems W a e3 L:=fun W hf=>hl.keep hf (fun b hb h=>by unfold From at h;omega)
 have f5:=zh f4;have Hb:=zh hb;clear f4 hb hl
 go_enter Tryz.func165,Tryz.ntmps165
 go_wp2_with fail
 clear i7;generalize w.alloc (.map #[] 0)=W0 at *
 go_loopw [16] (fun i wr=>∃ k:Nat,k<=L.length/\i=.int .i64 (k:Int)/\VMap wr w.heap.size (mapM (best (L.take k))) k/\Fr (From w.heap.size) w wr/\w.heap.size<wr.heap.size) (fun i _=>L.length-(intOf i).toNat)
 case atStart=>exact⟨0,by omega,rfl,by exact i8,hx.mono zn,i9⟩
 case round=>
  obtain⟨k,hk,rfl,hI,J,k5⟩:=hrel;by_cases e4:k<L.length
  ·have f6:(k:Int)<L.length:=by omega
   obtain⟨b,j0,m,rfl,e5,j1,j2,k6⟩:=(f5.out _ J).elem e4;have N:=List.mem_of_getElem? e5;have d1:Hid (L.take (k+1)=L.take k++[m]):=by unfold Hid;rw[List.take_add_one,e5];rfl
   have f7:=Hb.out.p m N;have b5:m.i.size<=maxLen:=by have:=Hb.out.i m N;unfold maxLen;omega
   have f8:wr.cell? ⟨0,0,none⟩=some (.int .i64 m0):=J.cell i2 (by show ¬ From w.heap.size 0;unfold From;omega);obtain⟨U,g,V,X,Y,Z,ma,R,mc⟩:=m;obtain⟨c0,c1,c2,c3,c4,c5,c6⟩:=j2;simp only at c0 c1 c2 c3 c4 c5 c6 f7 b5;clear e5 j1 N;by_cases b6:R.length=1
   ·have j3:((R.length:Int) != 1)=false:=by simp[b6]
    have f9:=zh b6;clear b6;have f:Fr No wr (wr.alloc (.cells #[.string U,.string g,.int .i64 V,.int .i64 X,.int .i64 Y,.int .i64 Z,.slice ma R.length mc] 231)):=(Fr.refl _ _).alloc _;have q1:=zD wr (.cells #[.string U,.string g,.int .i64 V,.int .i64 X,.int .i64 Y,.int .i64 Z,.slice ma R.length mc] 231);have b0:=hI.fr f id;clear hI;rcases hg:best (L.take k) (kb g)with _ | o
    ·have hv:(mapM (best (L.take k)) (kb g)).getD zBg=.agg #[.string ⟨#[]⟩,.string ⟨#[]⟩,.int .i64 0,.int .i64 0,.int .i64 0,.int .i64 0,.slice none 0 0]:=by unfold mapM;rw[hg];rfl
     have b7:(mapM (best (L.take k)) (kb g)).isSome=false:=by unfold mapM;rw[hg];rfl
     have Hg:Hid (∀ o,best (L.take k) (kb g)=some o->ahead ⟨U,g,V,X,Y,Z,ma,R,mc⟩ o=true):=fun o ho=>by rw[hg]at ho;cases ho
     clear hg
     go_upto_region 8 with(at_lookup;refine zBT rfl _ _ 283 231 zBg (zeroM _) rfl Tryz.underlying283 w.heap.size _ k g b5 rfl b0 rfl (.agg #[.string ⟨#[]⟩,.string ⟨#[]⟩,.int .i64 0,.int .i64 0,.int .i64 0,.int .i64 0,.slice none 0 0]) hv false b7 ?_)
     have a2:Fr No wr ((wr.alloc (.cells #[.string U,.string g,.int .i64 V,.int .i64 X,.int .i64 Y,.int .i64 Z,.slice ma R.length mc] 231)).alloc (.cells #[.string ⟨#[]⟩,.string ⟨#[]⟩,.int .i64 0,.int .i64 0,.int .i64 0,.int .i64 0,.slice none 0 0] 231)):=f.alloc _;have q2:=zI wr (.cells #[.string U,.string g,.int .i64 V,.int .i64 X,.int .i64 Y,.int .i64 Z,.slice ma R.length mc] 231) (.cells #[.string ⟨#[]⟩,.string ⟨#[]⟩,.int .i64 0,.int .i64 0,.int .i64 0,.int .i64 0,.slice none 0 0] 231);have b1:=b0.fr ((Fr.refl No _).alloc (.cells #[.string ⟨#[]⟩,.string ⟨#[]⟩,.int .i64 0,.int .i64 0,.int .i64 0,.int .i64 0,.slice none 0 0] 231)) id;clear b0 hv b7 c0 c1 c2 c3 c4 c5 c6 q1 f;generalize (wr.alloc (.cells #[.string U,.string g,.int .i64 V,.int .i64 X,.int .i64 Y,.int .i64 Z,.slice ma R.length mc] 231)).alloc (.cells #[.string ⟨#[]⟩,.string ⟨#[]⟩,.int .i64 0,.int .i64 0,.int .i64 0,.int .i64 0,.slice none 0 0] 231)=W2 at *;obtain⟨y0,y1,y2,y3,y4,y5,y6⟩:=cl7 q2;have b2:=zh (J.step a2 zn);have g0:=a2.size;clear q2 a2 J
     go_wp2_with (at_mapUpdate;refine zBh rfl _ _ _ 283 231 rfl Tryz.underlying283 w.heap.size _ k (by unfold maxLen;omega) g b5 (.agg #[.string U,.string g,.int .i64 V,.int .i64 X,.int .i64 Y,.int .i64 Z,.slice ma R.length mc]) rfl b1 rfl rfl ?_;intro w4 b8 a6)
     have a3:VMap w4 w.heap.size (mapM (best (L.take (k+1)))) (k+1):=by rw[d1.out,zBQ,zDv f9.out Hg.out,<-zGP];exact b8
     have H:=zh (And.intro a3 (And.intro (b2.out.step a6 (fun b hb e=>by unfold Is at e;unfold From;omega)) a6.size));clear b8 a3 a6
     go_roundw
     case rel=>exact⟨k+1,by omega,by go_num,H.out.1,H.out.2.1,by have:=H.out.2.2;omega⟩
     case measure=>simp[intOf];omega
    ·obtain⟨y,C,z,D,F,I,oa,q,oc⟩:=o;have hv:(mapM (best (L.take k)) (kb g)).getD zBg=.agg #[.string y,.string C,.int .i64 z,.int .i64 D,.int .i64 F,.int .i64 I,.slice oa q.length oc]:=by unfold mapM;rw[hg];rfl
     have b7:(mapM (best (L.take k)) (kb g)).isSome=true:=by unfold mapM;rw[hg];rfl
     have g1:=Hb.out.p _ (List.mem_of_mem_take (zCi _ _ _ hg).1);simp only at g1;have Hg:=zh hg;clear hg
     go_upto_region 8 with(at_lookup;refine zBT rfl _ _ 283 231 zBg (zeroM _) rfl Tryz.underlying283 w.heap.size _ k g b5 rfl b0 rfl (.agg #[.string y,.string C,.int .i64 z,.int .i64 D,.int .i64 F,.int .i64 I,.slice oa q.length oc]) hv true b7 ?_)
     have a2:Fr No wr ((wr.alloc (.cells #[.string U,.string g,.int .i64 V,.int .i64 X,.int .i64 Y,.int .i64 Z,.slice ma R.length mc] 231)).alloc (.cells #[.string y,.string C,.int .i64 z,.int .i64 D,.int .i64 F,.int .i64 I,.slice oa q.length oc] 231)):=f.alloc _;have q2:=zI wr (.cells #[.string U,.string g,.int .i64 V,.int .i64 X,.int .i64 Y,.int .i64 Z,.slice ma R.length mc] 231) (.cells #[.string y,.string C,.int .i64 z,.int .i64 D,.int .i64 F,.int .i64 I,.slice oa q.length oc] 231);have q3:=zL wr (.cells #[.string U,.string g,.int .i64 V,.int .i64 X,.int .i64 Y,.int .i64 Z,.slice ma R.length mc] 231) (.cells #[.string y,.string C,.int .i64 z,.int .i64 D,.int .i64 F,.int .i64 I,.slice oa q.length oc] 231);have b1:=b0.fr ((Fr.refl No _).alloc (.cells #[.string y,.string C,.int .i64 z,.int .i64 D,.int .i64 F,.int .i64 I,.slice oa q.length oc] 231)) id;clear b0 hv b7 c0 c1 c2 c3 c4 c5 c6 q1 f;generalize (wr.alloc (.cells #[.string U,.string g,.int .i64 V,.int .i64 X,.int .i64 Y,.int .i64 Z,.slice ma R.length mc] 231)).alloc (.cells #[.string y,.string C,.int .i64 z,.int .i64 D,.int .i64 F,.int .i64 I,.slice oa q.length oc] 231)=W2 at *;obtain⟨z0,z1,z2,z3,z4,z5,z6⟩:=cl7 q3;have g2:=a2.cell f8 id;have b2:=zh (J.step a2 zn);have g0:=a2.size;clear q3 a2 J f8
     go_wp2_with fail
     refine(zLA U g y C V X Y Z z D F I _ _ m0 _ f7 g1 g2).mono ?_;rintro en w3 ⟨rfl,b9⟩;have q4:=b9.heap q2 id;have b3:=b1.fr b9 id;have g3:=zh (b2.out.step b9 zn);have g4:=b9.size;clear z0 z1 z2 z3 z4 z5 z6 b9 q2 g2 b1;rcases ha:aheadB U V y z with _ | _
     ·have a3:VMap w3 w.heap.size (mapM (best (L.take (k+1)))) k:=by rw[d1.out,zBQ,zHX (m:=⟨U,g,V,X,Y,Z,ma,R,mc⟩) (o:=⟨y,C,z,D,F,I,oa,q,oc⟩) Hg.out ha];exact b3
      have H:=zh (And.intro a3 g3.out);clear a3 b3 q4
      go_wp2_with fail
      go_roundw
      case rel=>exact⟨k+1,by omega,by go_num,H.out.1.mono (by omega),H.out.2,by omega⟩
      case measure=>simp[intOf];omega
     ·have j4:Hid (∀ o,best (L.take k) (kb g)=some o->ahead ⟨U,g,V,X,Y,Z,ma,R,mc⟩ o=true):=fun o ho=>by rw[Hg.out]at ho;cases ho;exact ha
      obtain⟨y0,y1,y2,y3,y4,y5,y6⟩:=cl7 q4;clear q4 ha
      go_wp2_with (at_mapUpdate;refine zBh rfl _ _ _ 283 231 rfl Tryz.underlying283 w.heap.size _ k (by unfold maxLen;omega) g b5 (.agg #[.string U,.string g,.int .i64 V,.int .i64 X,.int .i64 Y,.int .i64 Z,.slice ma R.length mc]) rfl b3 rfl rfl ?_;intro w4 b8 a6)
      have a3:VMap w4 w.heap.size (mapM (best (L.take (k+1)))) (k+1):=by rw[d1.out,zBQ,zDv f9.out j4.out,<-zGP];exact b8
      have H:=zh (And.intro a3 (And.intro (g3.out.step a6 (fun b hb e=>by unfold Is at e;unfold From;omega)) a6.size));clear b8 a3 a6
      go_roundw
      case rel=>exact⟨k+1,by omega,by go_num,H.out.1,H.out.2.1,by have:=H.out.2.2;omega⟩
      case measure=>simp[intOf];omega
   ·have j3:((R.length:Int) != 1)=true:=by simp;omega
    have f:Fr No wr (wr.alloc (.cells #[.string U,.string g,.int .i64 V,.int .i64 X,.int .i64 Y,.int .i64 Z,.slice ma R.length mc] 231)):=(Fr.refl _ _).alloc _;have b4:VMap (wr.alloc (.cells #[.string U,.string g,.int .i64 V,.int .i64 X,.int .i64 Y,.int .i64 Z,.slice ma R.length mc] 231)) w.heap.size (mapM (best (L.take (k+1)))) k:=by rw[d1.out,zBQ,zHW b6];exact hI.fr f id
    have H:=zh (And.intro b4 (And.intro (J.step f zn) f.size));clear b4 hI f J b6
    go_wp2_with fail
    go_roundw
    case rel=>exact⟨k+1,by omega,by go_num,H.out.1.mono (by omega),H.out.2.1,by have:=H.out.2.2;omega⟩
    case measure=>simp[intOf];omega
  ·obtain rfl:k=L.length:=by omega
   rw[List.take_length]at hI
   go_wp2_with fail
   refine(zLy _ _).mono ?_;rintro en w1 ⟨rfl,rfl⟩;have f:Fr No wr (wr.alloc (.cells #[.map (some w.heap.size)] 283)):=(Fr.refl _ _).alloc _;have q1:=zD wr (.cells #[.map (some w.heap.size)] 283);have j5:wr.heap.size<(wr.alloc (.cells #[.map (some w.heap.size)] 283)).heap.size:=by simp
   have b4:=hI.fr f id;have g5:=zh (J.step f zn);clear hI J f
   go_wp2_with fail
   generalize wr.alloc (.cells #[.map (some w.heap.size)] 283)=W1 at *;refine(zJd w.heap.size wr.heap.size _ L.length W1 b4 (by omega) (zB q1 0) j5).mono ?_;rintro en w2 ⟨⟨ia,ic,A,rfl,hS,d6,N,j6,u⟩,d2⟩;have d7:IsIds L A:=⟨d6,fun x=>by rw[N];unfold mapM;rw[Option.isSome_map]⟩
   have b1:=b4.fr d2 id;have b2:=zh (g5.out.step d2 zn);have g0:=d2.size;have d8:=zh d7;have k7:=hS.lenmax;clear q1 b4 d2 d6 N d7 u
   go_wp2_with fail
   go_loopw [9,50] (fun v i wr=>∃ (j:Nat) (O:List Mem) (av:Option Addr) (cv:Nat),j<=A.length/\O.length<=j/\v=.slice av O.length cv/\i=.int .i64 (j:Int)/\wr.ownsRow w2.heap.size 231 7 (.slice av O.length cv) O.length (mflat O)/\MFresh wr w2.heap.size O/\Hid (O.map Mem.k=own1 L (A.take j))/\Fr (From w2.heap.size) w2 wr) (fun _ i _=>A.length-(intOf i).toNat)
   case atStart=>exact⟨0,[],none,0,by omega,by simp,rfl,rfl,World.ownsRow_nil _ _ _ _,fun m hm=>by simp at hm,by unfold Hid own1;simp,Fr.refl _ _⟩
   case round=>
    obtain⟨j,O,av,cv,hj,k8,rfl,rfl,a4,c7,HO,hf⟩:=hrel;by_cases e4:j<A.length
    ·have f6:(j:Int)<A.length:=by omega
     obtain⟨b,j0,x,rfl,e6,hc⟩:=(hS.keep hf (fun b hb h=>by unfold From at h;omega)).at e4;have g6:=List.mem_of_getElem? e6;have j7:Hid (A.take (j+1)=A.take j++[x]):=by unfold Hid;rw[List.take_add_one,e6];rfl
     obtain⟨o,ho⟩:=Option.isSome_iff_exists.1 ((d8.out.mem x).1 g6);obtain⟨e7,c8,g7⟩:=zCi _ _ _ ho;have g8:=Hb.out.i o e7;have g9:=zE5 g7;have j8:x.size<=maxLen:=by rw[<-g9];unfold maxLen;omega
     have e8:=b2.out.trans hf (fun b hb h=>h) (fun b hb h=>by unfold From at h ⊢;omega);have e9:=(f5.out _ e8).ok o e7;have hv:(mapM (best L) (kb x)).getD zBg=o.v:=by unfold mapM;rw[ho];rfl
     have b3:=b1.fr hf (by unfold From;omega);have k9:=zh e8;have Ho:=zh ho;clear ho e7 g8 g9 g7 g6 e6 e8;obtain⟨y,C,z,D,F,I,oa,q,oc⟩:=o;simp only at e9 c8;unfold Mem.v Mem.vals at hv;simp only at hv;have h0:q.length<=1000000:=by omega
     have d3:Fr No wr (wr.alloc (.cells #[.string y,.string C,.int .i64 z,.int .i64 D,.int .i64 F,.int .i64 I,.slice oa q.length oc] 231)):=(Fr.refl _ _).alloc _;have q3:=zD wr (.cells #[.string y,.string C,.int .i64 z,.int .i64 D,.int .i64 F,.int .i64 I,.slice oa q.length oc] 231);have d9:=e9.no d3 (fun _=>id);have k1:=zh c8;clear e9 c8
     go_upto_region 16 with(at_lookup;refine zKZ rfl _ _ 283 231 zBg (zeroM _) rfl Tryz.underlying283 w.heap.size _ _ x j8 rfl b3 rfl (.agg #[.string y,.string C,.int .i64 z,.int .i64 D,.int .i64 F,.int .i64 I,.slice oa q.length oc]) hv ?_)
     generalize wr.alloc (.cells #[.string y,.string C,.int .i64 z,.int .i64 D,.int .i64 F,.int .i64 I,.slice oa q.length oc] 231)=W3 at *;have z6:W3.cell? ⟨wr.heap.size,6,none⟩=some (.slice oa q.length oc):=zB q3 6;clear b3 hv hc
     go_wp2_with fail
     refine(zAZ oa oc q W3 d9 h0).mono ?_;rintro en w4 ⟨⟨a1,c1,rfl,h3,h4,d4⟩,f0⟩;have q4:=f0.heap q3 id;have z7:w4.frozen? ⟨wr.heap.size,6,none⟩=false:=zE q4 6;have z8:w4.cell? ⟨wr.heap.size,6,none⟩=some (.slice oa q.length oc):=zB q4 6;have q5:=zF q4 6 (.slice a1 q.length c1);have g4:=d3.size;have l0:=zC q3;have e0:Fr No wr w4:=d3.step f0 zi;have d5:Fr (Is wr.heap.size) w4 (w4.setCell ⟨wr.heap.size,6,none⟩ (.slice a1 q.length c1)):=Fr.setCell (S:=Is wr.heap.size) (p:=⟨wr.heap.size,6,none⟩) (Fr.refl _ _) (fun _=>rfl) _;clear z6 q3 q4 d9
     go_upto_region 17 with(fail)
     generalize w4.setCell ⟨wr.heap.size,6,none⟩ (.slice a1 q.length c1)=W5 at *;have a5:Fr (fun b=>wr.heap.size<=b) wr W5:=(e0.mono zn).step d5 (fun b _ h=>by unfold Is at h;omega);have a7:=zG a4 a5 (fun b hb h=>by have h1:=zV a4 hb;omega);have e1:=c7.fr a5 (fun b _ h1 h2=>by omega);have h5:=h3.fr d5 (fun ad e _ h=>by have:=d4 ad e;unfold Is at h;omega);have h6:=h4.fr d5 (fun ad e h=>by have:=d4 ad e;unfold Is at h;omega);simp at q5;obtain⟨y0,y1,y2,y3,y4,y5,y6⟩:=cl7 q5;have l1:=a5.size;have k2:=hf.size;have h7:=zh a5;have f1:=zh (And.intro h5 (And.intro h6 d4));have f2:=zh a7;have h8:=zh e1;clear z7 z8 q5 d5 e0 d3 f0 h3 h4 d4 a4 c7 a5 h5 h6 e1
     go_wp2_with (at_builtin;refine wpList_append_own _ rfl _ _ 172 rfl w2.heap.size 231 i0 (.agg #[.string ByteArray.empty,.string ByteArray.empty,.int .i64 0,.int .i64 0,.int .i64 0,.int .i64 0,.slice none 0 0]) 7 88 Tryz.underlying172 i3 i4 i5 i6 rfl (by decide) _ _ _ rfl (a7.alloc _) ⟨W5.heap.size,0,none⟩ 1 1 (Mem.vals ⟨y,C,z,D,F,I,a1,q,c1⟩).toList rfl rfl (ze _ (Mem.vals ⟨y,C,z,D,F,I,a1,q,c1⟩) _ rfl) (zBy _) (by unfold maxLen;omega) (by omega) (by first | omega | (simp;done) | (simp;omega)) ?_;intro v' w6 a8 a9 _;obtain⟨j9,k0,rfl⟩:=zJ a8)
     have c9:Fr No W5 (W5.alloc (.cells #[.string y,.string C,.int .i64 z,.int .i64 D,.int .i64 F,.int .i64 I,.slice a1 q.length c1] 231)):=(Fr.refl _ _).alloc _;have d0:=f2.out.alloc (.cells #[.string y,.string C,.int .i64 z,.int .i64 D,.int .i64 F,.int .i64 I,.slice a1 q.length c1] 231);have f3:Fr (fun b=>(Value.slice av O.length cv).ownBlock=some b) (W5.alloc (.cells #[.string y,.string C,.int .i64 z,.int .i64 D,.int .i64 F,.int .i64 I,.slice a1 q.length c1] 231)) w6:=Fr.of_grown a9;have e2:MFresh w6 w2.heap.size (O++[⟨y,C,z,D,F,I,a1,q,c1⟩]):=by
      refine MFresh.own (MFresh.snoc (h8.out.fr c9 (fun _ _ _=>id)) (f1.out.1.no c9 (fun _=>id)) (f1.out.2.1.fr c9 (fun _ _=>id)) (fun ad e=>?_)) d0 f3;have:=f1.out.2.2 ad e;omega
     have h9:(O++[(⟨y,C,z,D,F,I,a1,q,c1⟩:Mem)]).map Mem.k=own1 L (A.take (j+1)):=by
      rw[j7.out];unfold own1;rw[List.map_append,List.map_append,HO.out]
      congr 1
      simp only[List.map_cons,List.map_nil,Ho.out,Option.getD_some];rfl
     have i1:Fr (From w2.heap.size) w2 w6:=((hf.step h7.out (fun b _ h=>by unfold From;omega)).step c9 zn).step f3 (fun b _ h=>zP d0 h);have HF:=zh (And.intro a8 (And.intro e2 (And.intro h9 i1)));clear a8 e2 h9 i1 a9 f3 d0 c9 y0 y1 y2 y3 y4 y5 y6 a7 hf
     go_roundw
     case rel=>exact⟨j+1,O++[⟨y,C,z,D,F,I,a1,q,c1⟩],j9,k0,by omega,by simp;omega,by simp,by go_num,by rw[List.length_append,zBa];exact HF.out.1,HF.out.2.1,zh HF.out.2.2.1,HF.out.2.2.2⟩
     case measure=>simp[intOf];omega
    ·obtain rfl:j=A.length:=by omega
     obtain⟨a',c',hv,hR,u⟩:=Mems.of_own a4 (fun m hm=>(c7 m hm).1);cases hv;have ho:=HO.out;rw[List.take_length]at ho;have g4:=g5.out.size;have l2:=hf.size;have H:=zh (And.intro hR (And.intro u (And.intro c7 (And.intro ho ((b2.out.trans hf (fun b hb h=>h) (fun b hb h=>by unfold From at h ⊢;omega)).mono (T:=No) (fun b hb h=>by unfold From at h;omega))))));clear a4 c7 HO hf hR u ho
     go_wp2_with fail
     go_ret;exact⟨⟨_,_,O,A,rfl,H.out.1,fun ad e=>by have:=H.out.2.1 ad e;omega,fun m hm=>⟨(H.out.2.2.1 m hm).1,(H.out.2.2.1 m hm).2.1,fun ad e=>by have:=(H.out.2.2.1 m hm).2.2 ad e;omega⟩,d8.out,H.out.2.2.2.1,j6⟩,H.out.2.2.2.2⟩
def KSet (w:World)(mb:Nat)(K:List ByteArray)(N:Nat):Prop:=VMap w mb (fun x=>if hasS K (bk x)=true then some (.agg #[])else none) N
theorem KSet.fr {S:Nat->Prop}{w w':World}{f:Nat}{K:List ByteArray}{N:Nat}(h:KSet w f K N)(g:Fr S w w')(o:¬ S f):KSet w' f K N:=VMap.fr h g o
theorem zJh (K:List ByteArray)(x:ByteArray):updS (fun x=>if hasS K (bk x)=true then some (.agg #[])else none) (kb x) (.agg #[])=fun y=>if hasS (K++[x]) (bk y)=true then some (.agg #[])else none:=by
 funext y
 unfold updS;have e:hasS (K++[x]) (bk y)=(hasS K (bk y)||decide (y=kb x)):=by
  unfold hasS;rw[List.any_append];simp only[List.any_cons,List.any_nil,Bool.or_false]
  congr 1
  rw[strEq,decide_eq_decide];constructor
  ·intro h;rw[h,zHK]
  ·intro h;rw[h,zEY]
 rw[e];by_cases h:y=kb x
 ·simp[h]
 ·simp[h]
theorem zeroE (w:World):(zeroValue 238).run Tryz.prog w=.ok (.agg #[]) w:=by kernel_rfl
theorem zLC (a:Option Addr)(u:Nat)(K:List ByteArray)(w:World)(L:Strs w a u K)(z:K.length<=1000000)(R:∀ x∈K,x.size<=maxLen):
  Calls Tryz.prog 164 #[.slice a K.length u] w fun e w'=>(∃ A,e=.returned (.map (some A))/\KSet w' A K K.length/\w.heap.size<=A)/\Fr No w w':=by
 have C:=@run_makeMap Tryz.prog;have N:Fr No w (w.alloc (.map #[] 0)):=(Fr.refl _ _).alloc _;have D:=VMap.made w;have U:=L.no N (fun _=>id);have V:w.heap.size<(w.alloc (.map #[] 0)).heap.size:=by simp
 go_enter Tryz.func164,Tryz.ntmps164
 go_wp2_with fail
 clear C;generalize w.alloc (.map #[] 0)=W0 at *
 go_loopw [9] (fun i wr=>∃ k:Nat,k<=K.length/\i=.int .i64 (k:Int)/\KSet wr w.heap.size (K.take k) k/\Fr (From w.heap.size) w wr) (fun i _=>K.length-(intOf i).toNat)
 case atStart=>exact⟨0,by omega,rfl,by unfold KSet;simpa [hasS]using D,N.mono zn⟩
 case round=>
  obtain⟨k,Z,rfl,q,f⟩:=hrel;by_cases F:k<K.length
  ·have O:(k:Int)<K.length:=by omega
   obtain⟨b,X,x,rfl,g,hc⟩:=(L.keep f (fun b z h=>by unfold From at h;omega)).at F;have I:=R x (List.mem_of_getElem? g);have J:Hid (K.take (k+1)=K.take k++[x]):=by unfold Hid;rw[List.take_add_one,g];rfl
   clear g;unfold KSet at q
   go_wp2_with (at_mapUpdate;refine zBh rfl _ _ _ 235 238 rfl Tryz.underlying235 w.heap.size _ k (by unfold maxLen;omega) x I (.agg #[]) rfl q rfl rfl ?_;intro Y o v)
   rw[zJh,<-J.out]at o;have y:Fr (From w.heap.size) w Y:=f.step v (fun b z e=>by unfold Is at e;unfold From;omega);have H:=zh (And.intro o y);clear o y v q f
   go_roundw
   case rel=>exact⟨k+1,by omega,by go_num,H.out.1,H.out.2⟩
   case measure=>simp[intOf];omega
  ·obtain rfl:k=K.length:=by omega
   rw[List.take_length]at q;have H:=zh (And.intro q (f.mono (T:=No) (fun b z h=>by unfold From at h;omega)));clear q f
   go_wp2_with fail
   go_ret;exact⟨⟨_,rfl,H.out.1,Nat.le_refl _⟩,H.out.2⟩
theorem zLs {L O:List Mem}{f:List ByteArray}(g:IsIds L f)(h:O.map Mem.k=own1 L f){j:Nat}{m:Mem}(C:O[j]?=some m):
  ∃ o,f[j]?=some m.i/\best L (kb m.i)=some o/\m.k=o.k/\m.l=o.l/\m.l.length=1/\o∈L:=by
 have v:(O.map Mem.k)[j]?=some m.k:=by rw[List.getElem?_map,C];rfl
 rw[h,own1,List.getElem?_map]at v;obtain⟨x,y,q⟩:=Option.map_eq_some_iff.1 v;obtain⟨o,u⟩:=Option.isSome_iff_exists.1 ((g.mem x).1 (List.mem_of_getElem? y));obtain⟨D,F,I⟩:=zCi _ _ _ u;rw[u,Option.getD_some]at q;have J:m.i=o.i:=(congrArg Mem.i q).symm;have z:m.l=o.l:=(congrArg Mem.l q).symm;have A:m.i=x:=by rw[J];exact zE5 I
 refine⟨o,by rw[A];exact y,by rw[A];exact u,q.symm,z,by rw[z];exact F,D⟩
theorem zK1 {L O:List Mem}{f:List ByteArray}(h:O.map Mem.k=own1 L f):O.length=f.length:=by
 have:=congrArg List.length h
 simpa [own1]using this
theorem zC0 (f K:List ByteArray)(x:ByteArray):opened (f++[x]) K=opened f K++(if hasS K x=true then [x]else []):=by
 unfold opened;rw[List.filter_append]
 congr 1
 rw[List.filter_cons];split<;>rfl
def zLe (w:World)(L:List Mem)(K:List ByteArray)(r:Int)(e:Ending)(w':World):Prop:=
 ∃ (a':Option Addr) (c':Nat) (V:List Vir) (ids:List ByteArray),e=.returned (.slice a' V.length c')/\Virs w' a' c' V/\(∀ ad,a'=some ad->w.heap.size<=ad.block)/\IsIds L ids/\V=(opened ids K).map (virOf L r)/\ids.length<=L.length
theorem zKR (a:Option Addr)(a7:Nat)(L:List Mem)(ka:Option Addr)(kc:Nat)(K:List ByteArray)(r:Int)(m0:Int)(w:World)(hl:Mems w a a7 L)(hb:MemSmall L)(hk:Strs w ka kc K)(d9:K.length<=1000000)(b6:∀ x∈K,x.size<=maxLen)
  (b7:w.cell? ⟨0,0,none⟩=some (.int .i64 m0)) (f8:0<w.heap.size):
  Calls Tryz.prog 110 #[.slice a L.length a7,.slice ka K.length kc,.int .i64 r] w fun e w'=>zLe w L K r e w'/\Fr No w w':=by
 obtain⟨i0,e0,e1,e2,e3⟩:=info_parts infoV;have f9:=hb.len;have Hb:=zh hb;clear hb
 go_enter Tryz.func110,Tryz.ntmps110
 go_wp2_with fail
 refine(zLC ka kc K w hk d9 b6).mono ?_;rintro e w1 ⟨⟨mb,rfl,a8,g0⟩,N⟩;have b8:=hl.no N (fun _=>id);have z:=N.cell b7 id;have g2:=N.size;have e4:=zh N;have f6:mb<w1.heap.size:=VMap.lt a8;clear hk b6 hl b7 N
 go_wp2_with fail
 refine(zJ0 a a7 L m0 w1 b8 Hb.out z (by omega)).mono ?_;rintro e w2 ⟨⟨oa,oc,O,J,rfl,hO,e5,b9,a4,ho,e6⟩,a2⟩;have e7:=zK1 ho;have g3:=a2.size;have e8:=a8.fr a2 id;have c7:=zh (e4.out.step a2 zi);have a5:=zh a4;have Ho:=zh ho;have g4:=zh b9;have g5:=hO.lenmax;clear b8 z a2 a8 a4 ho b9 e5
 go_wp2_with fail
 go_loopw [8,18] (fun v i wr=>∃ (j:Nat) (V:List Vir) (R:Option Addr) (U:Nat),j<=O.length/\V.length<=j/\v=.slice R V.length U/\i=.int .i64 (j:Int)/\wr.ownsRow w2.heap.size 94 4 (.slice R V.length U) V.length (vflat V)/\Hid (V=(opened (J.take j) K).map (virOf L r))/\Fr (From w2.heap.size) w2 wr) (fun _ i _=>O.length-(intOf i).toNat)
 case atStart=>exact⟨0,[],none,0,by omega,by simp,rfl,rfl,World.ownsRow_nil _ _ _ _,by unfold Hid;simp[opened],Fr.refl _ _⟩
 case round=>
  obtain⟨j,V,R,U,hj,g7,rfl,rfl,f,HV,hf⟩:=hrel;have g8:=hf.size;by_cases e9:j<O.length
  ·have f7:(j:Int)<O.length:=by omega
   obtain⟨b,g9,m,rfl,a9,c8,f0,h0⟩:=(hO.keep hf (fun b hb h=>by unfold From at h;omega)).elem e9;obtain⟨o,c9,A,d0,d1,z,d2⟩:=zLs a5.out Ho.out a9;have b0:∀ ad,m.a=some ad->ad.block<w2.heap.size:=fun ad e=>((hO.ok m (List.mem_of_getElem? a9)).cell ad e (by intro e;rw[e]at z;cases z)).2.1
   have f1:m.i.size<=1000000:=by have h1:=Hb.out.i o d2;have h2:=congrArg Mem.i d0;have h3:m.i=o.i:=h2;rw[h3];exact h1
   have b1:m.i.size<=maxLen:=by unfold maxLen;omega
   have b2:Hid (J.take (j+1)=J.take j++[m.i]):=by unfold Hid;rw[List.take_add_one,c9];rfl
   have f2:=e8.fr hf (by unfold From;omega);have a6:=c8.at (k:=0) (by omega);have d3:Hid (∀ c,m.l[0]?=some c->virOf L r m.i=⟨⟨#[]⟩,openT++m.i,c,r⟩):=fun c hc=>by
    unfold virOf zKP;rw[A,Option.getD_some,<-d1]
    congr 1
    rcases hll:m.l with _ | ⟨d,t⟩
    ·rw[hll]at hc;cases hc
    ·rw[hll]at hc;simpa using hc
   have d4:(0:Int)<m.l.length:=by omega
   clear a9 c9 A d0 d1 d2 c8;obtain⟨mp,u,mr,ms,mt,me,ma,ml,mc⟩:=m;obtain⟨c0,c1,c2,c3,c4,c5,c6⟩:=f0;simp only at c0 c1 c2 c3 c4 c5 c6 f1 b1 a6 d4 z b0;obtain⟨ib,io,c,rfl,hc,b3⟩:=a6;rw[Nat.add_zero]at b3;have d5:=b0 _ rfl;simp only at d5;clear b0;have Hc:=zh (d3.out c hc);have h4:=zh z;clear hc d3 z;simp only at Hc b2;have X:Fr No wr (wr.alloc (.cells #[.string mp,.string u,.int .i64 mr,.int .i64 ms,.int .i64 mt,.int .i64 me,.slice (some ⟨ib,io,none⟩) ml.length mc] 231)):=(Fr.refl _ _).alloc _;have a3:=f2.fr X id;unfold KSet at a3;have hv:((fun x=>if hasS K (bk x)=true then some (Value.agg #[])else none) (kb u)).getD (.agg #[])=.agg #[]:=by
    simp only[zEY];cases hasS K u<;>rfl
   rcases hh:hasS K u with _ | _
   ·have A:((fun x=>if hasS K (bk x)=true then some (Value.agg #[])else none) (kb u)).isSome=false:=by simp only[zEY,hh];rfl
    have y:Fr No wr ((wr.alloc (.cells #[.string mp,.string u,.int .i64 mr,.int .i64 ms,.int .i64 mt,.int .i64 me,.slice (some ⟨ib,io,none⟩) ml.length mc] 231)).alloc (.cells #[] 238)):=X.alloc _;have q:=zG f y zi;have b4:Hid (V=(opened (J.take (j+1)) K).map (virOf L r)):=by unfold Hid;rw[b2.out,zC0,hh];simpa using HV.out
    have HF:=zh (And.intro q (hf.step y zn));clear q f y X hf hh HV
    go_wp2_with (at_lookup;refine zBT rfl _ _ 235 238 (.agg #[]) (zeroE _) rfl Tryz.underlying235 mb _ _ u b1 rfl a3 rfl (.agg #[]) hv false A ?_)
    go_roundw
    case rel=>exact⟨j+1,V,R,U,by omega,by omega,rfl,by go_num,HF.out.1,b4,HF.out.2⟩
    case measure=>simp[intOf];omega
   ·have A:((fun x=>if hasS K (bk x)=true then some (Value.agg #[])else none) (kb u)).isSome=true:=by simp only[zEY,hh];rfl
    have y:Fr No wr ((wr.alloc (.cells #[.string mp,.string u,.int .i64 mr,.int .i64 ms,.int .i64 mt,.int .i64 me,.slice (some ⟨ib,io,none⟩) ml.length mc] 231)).alloc (.cells #[] 238)):=X.alloc _;have q1:=zI wr (.cells #[.string mp,.string u,.int .i64 mr,.int .i64 ms,.int .i64 mt,.int .i64 me,.slice (some ⟨ib,io,none⟩) ml.length mc] 231) (.cells #[] 238);have q:=zG f y zi;have b4:Hid ((opened (J.take (j+1)) K).map (virOf L r)=V++[⟨⟨#[]⟩,openT++u,c,r⟩]):=by unfold Hid;rw[b2.out,zC0,hh,if_pos rfl,List.map_append,<-HV.out,List.map_cons,List.map_nil,Hc.out]
    go_upto_region 8 with(at_lookup;refine zBT rfl _ _ 235 238 (.agg #[]) (zeroE _) rfl Tryz.underlying235 mb _ _ u b1 rfl a3 rfl (.agg #[]) hv true A ?_)
    have d6:=y.cell b3 id;have h5:=y.size;have d7:=hf.step y zn;have nO:¬ (Value.slice R V.length U).ownBlock=some wr.heap.size:=fun h=>by have:=zV f h;omega
    have nI:¬ (Value.slice R V.length U).ownBlock=some ib:=fun h=>by have:=zP f h;unfold From at this;omega
    clear y X f b3 hf a3 hv A c0 c1 c2 c3 c4 c5 c6;generalize (wr.alloc (.cells #[.string mp,.string u,.int .i64 mr,.int .i64 ms,.int .i64 mt,.int .i64 me,.slice (some ⟨ib,io,none⟩) ml.length mc] 231)).alloc (.cells #[] 238)=W5 at *;refine zQ (fun b=>(Value.slice R V.length U).ownBlock=some b) [(0,false),(1,false),(2,false),(3,false),(4,false),(5,false),(6,false),(7,false),(8,false),(9,false),(10,true),(11,true),(12,false)] (by kernel_rfl) (by kernel_rfl) (fun w0 C=>?_);have g1:∀ g:Gr (fun b=>(Value.slice R V.length U).ownBlock=some b) w0,g.W.cell? ⟨wr.heap.size,1,none⟩=some (.string u):=fun g=>g.fr.cell (C.cell (zB q1 1) id) nO
    have g6:∀ g:Gr (fun b=>(Value.slice R V.length U).ownBlock=some b) w0,g.W.cell? ⟨wr.heap.size,6,none⟩=some (.slice (some ⟨ib,io,none⟩) ml.length mc):=fun g=>g.fr.cell (C.cell (zB q1 6) id) nO
    have gc:∀ g:Gr (fun b=>(Value.slice R V.length U).ownBlock=some b) w0,g.W.cell? ⟨ib,io,none⟩=some (.string c):=fun g=>g.fr.cell (C.cell d6 id) nI
    have Y:=zG q C zi;have hz:¬ 9223372036854775807<5+u.size:=by omega
    have h6:=C.size;have f3:=zh (d7.step C zn);have Z:=zh Y;have h7:=zh HV;clear q C d7 q1 d6 nO nI HV Y
    repeat (apply zS rfl rfl rfl;intro K hK;go_big_quiet_op;go_big_quiet_on)
    clear g1 g6 gc;apply zk;exact rfl
    go_wp2_with fail
    refine zp ?_;apply zk;exact rfl
    go_wp2_with (at_builtin;refine wpList_append_own _ rfl _ _ 50 rfl w2.heap.size 94 i0 (.agg #[.string ByteArray.empty,.string ByteArray.empty,.string ByteArray.empty,.int .i64 0]) 4 56 Tryz.underlying50 e0 e1 e2 e3 rfl (by decide) _ _ _ rfl (Z.out.alloc _) ⟨w0.heap.size,0,none⟩ 1 1 (Vir.vals ⟨⟨#[]⟩,openT++u,c,r⟩).toList rfl rfl (ze _ (Vir.vals ⟨⟨#[]⟩,openT++u,c,r⟩) _ rfl) (zBr _) (by unfold maxLen;omega) (by omega) (by first | omega | (simp;done) | (simp;omega)) ?_;intro v' w6 D F _;obtain⟨f4,f5,rfl⟩:=zJ D)
    have b5:Fr (fun b=>(Value.slice R V.length U).ownBlock=some b) (w0.alloc (.cells (Vir.vals ⟨⟨#[]⟩,openT++u,c,r⟩) 94)) w6:=Fr.of_grown F;have d8:Fr No w0 (w0.alloc (.cells (Vir.vals ⟨⟨#[]⟩,openT++u,c,r⟩) 94)):=(Fr.refl _ _).alloc _;refine zf b5 ?_;have HF:=zh (And.intro D ((f3.out.step d8 zn).step b5 (fun b _ h=>zP Z.out h)));clear D b5 d8 F
    repeat (apply zS rfl rfl rfl;intro K hK;go_big_quiet_op;go_big_quiet_on)
    refine zY ?_
    go_wp2_with fail
    go_roundw
    case rel=>exact⟨j+1,V++[⟨⟨#[]⟩,openT++u,c,r⟩],f4,f5,by omega,by simp;omega,by simp,by go_num,by rw[List.length_append,zBU];exact HF.out.1,zh b4.out.symm,HF.out.2⟩
    case measure=>simp[intOf];omega
  ·obtain rfl:j=O.length:=by omega
   obtain⟨a',c',hv,hR,I⟩:=Virs.of_own f;cases hv;have hV:=HV.out;rw[e7,List.take_length]at hV;have H:=zh (And.intro hR (And.intro I (And.intro hV ((c7.out.step hf (fun b hb h=>by have:=c7.out.size;unfold From at h;omega))))));clear f HV hf hR I hV
   go_wp2_with fail
   go_ret;exact⟨⟨_,_,V,J,rfl,H.out.1,fun ad e=>by have:=H.out.2.1 ad e;omega,a5.out,H.out.2.2.1,e6⟩,H.out.2.2.2⟩
end Go.Proofs.YtinfjnndbfahhaaGreatDoor
