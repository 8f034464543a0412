import Derived.Test.YtinfjnndbfahhaaGreatDoorQ28
namespace Go.Proofs.YtinfjnndbfahhaaGreatDoor
open Go.RowKit Go.Maps Go.Sort Go.Shelf
set_option linter.unusedVariables false
set_option maxRecDepth 100000
set_option maxHeartbeats 16000000
theorem zGY (F:Nat)(C:Mem->Bool)(eg:∀ args w,(callFunc F args).run Tryz.prog w=.ok (.enter F args) w)
  (i8:∀ (p i:ByteArray) (r s t e:Int) (a:Option Addr) (l:List ByteArray) (c:Nat) (w:World),Calls Tryz.prog F #[.agg #[.string p,.string i,.int .i64 r,.int .i64 s,.int .i64 t,.int .i64 e,.slice a l.length c]] w fun en w'=>en=.returned (.bool (C ⟨p,i,r,s,t,e,a,l,c⟩))/\Fr No w w') (t6:∀ m,C m=true->soundB m=true)
  (a:Option Addr) (p4:Nat) (L:List Mem) (m0:Int) (w:World) (hl:Mems w a p4 L) (hb:MemSmall2 L) (t7:w.cell? ⟨0,0,none⟩=some (.int .i64 m0)) (F7:0<w.heap.size):
  Calls Tryz.prog 159 #[.slice a L.length p4,.func (.func F) #[] #[]] w fun e w'=>ArrRes w (zo C L) e w'/\Fr No w w':=by
 obtain⟨i0,B1,B2,B3,B4⟩:=info_parts infoAr;have F8:=hb.len;have B5:=@run_makeMap Tryz.prog;have hx:Fr No w (w.alloc (.map #[] 0)):=(Fr.refl _ _).alloc _;have B6:=PMap.made w;have d9:w.heap.size<(w.alloc (.map #[] 0)).heap.size:=by simp
 have i9:∀ W:World,Fr (From w.heap.size) w W->Mems W a p4 L:=fun W hf=>hl.keep hf (fun b hb h=>by unfold From at h;omega)
 have j1:=zh i9;have Hb:=zh hb;clear i9 hb hl
 go_enter Tryz.func159,Tryz.ntmps159
 go_wp2_with fail
 generalize w.alloc (.map #[] 0)=W0 at *
 go_loopw [23] (fun i wr=>∃ k:Nat,k<=L.length/\i=.int .i64 (k:Int)/\PMap wr w.heap.size (mapP (zo C (L.take k))) k/\Fr (From w.heap.size) w wr/\w.heap.size<wr.heap.size) (fun i _=>L.length-(intOf i).toNat)
 case atStart=>exact⟨0,by omega,rfl,by exact B6,hx.mono zn,d9⟩
 case round=>
  obtain⟨k,hk,rfl,hI,e0,t8⟩:=hrel;by_cases g6:k<L.length
  ·have t9:(k:Int)<L.length:=by omega
   obtain⟨b,B7,m,rfl,p5,j2,c8,F9⟩:=(j1.out _ e0).elem g6;have b2:=List.mem_of_getElem? p5;have j3:Hid (L.take (k+1)=L.take k++[m]):=by unfold Hid;rw[List.take_add_one,p5];rfl
   have u0:=Hb.out.p m b2;have j4:m.i.size<=maxLen:=by have:=Hb.out.i m b2;unfold maxLen;omega
   have j5:=Hb.out.s m b2;have n1:wr.cell? ⟨0,0,none⟩=some (.int .i64 m0):=e0.cell t7 (by show ¬ From w.heap.size 0;unfold From;omega);obtain⟨mp,Y,mr,Z,mt,me,ma,ml,mc⟩:=m;obtain⟨c0,c1,c2,c3,c4,c5,c6⟩:=c8;simp only at c0 c1 c2 c3 c4 c5 c6 u0 j4 j5;clear p5 j2 b2 B5;have j6:Fr No wr ((wr.alloc (.cells #[.string mp,.string Y,.int .i64 mr,.int .i64 Z,.int .i64 mt,.int .i64 me,.slice ma ml.length mc] 231)).alloc (.cells #[.string Y,.int .i64 Z] 278)):=((Fr.refl _ _).alloc _).alloc _;have g7:=hI.fr j6 id;clear hI;rcases hg:zo C (L.take k) (Y,Z)with _ | o
   ·have hv:(mapP (zo C (L.take k)) (Y,Z)).getD zBS=.agg #[.string ⟨#[]⟩,.string ⟨#[]⟩,.int .i64 0,.int .i64 0,.int .i64 0,.int .i64 0,.slice none 0 0]:=by unfold mapP;rw[hg];rfl
    have j7:(mapP (zo C (L.take k)) (Y,Z)).isSome=false:=by unfold mapP;rw[hg];rfl
    have Hg:Hid (∀ o,zo C (L.take k) (Y,Z)=some o->ahead ⟨mp,Y,mr,Z,mt,me,ma,ml,mc⟩ o=true):=fun o ho=>by rw[hg]at ho;cases ho
    clear hg
    go_upto_region 7 with(at_lookup;refine zDc rfl _ _ 276 231 zBS (zF0 _) rfl Tryz.underlying276 w.heap.size _ k Y Z j4 j5 rfl g7 rfl (.agg #[.string ⟨#[]⟩,.string ⟨#[]⟩,.int .i64 0,.int .i64 0,.int .i64 0,.int .i64 0,.slice none 0 0]) hv false j7 ?_)
    have d4:Fr No wr (((wr.alloc (.cells #[.string mp,.string Y,.int .i64 mr,.int .i64 Z,.int .i64 mt,.int .i64 me,.slice ma ml.length mc] 231)).alloc (.cells #[.string Y,.int .i64 Z] 278)).alloc (.cells #[.string ⟨#[]⟩,.string ⟨#[]⟩,.int .i64 0,.int .i64 0,.int .i64 0,.int .i64 0,.slice none 0 0] 231)):=j6.alloc _;have qm:=zB9 wr (.cells #[.string mp,.string Y,.int .i64 mr,.int .i64 Z,.int .i64 mt,.int .i64 me,.slice ma ml.length mc] 231) (.cells #[.string Y,.int .i64 Z] 278) (.cells #[.string ⟨#[]⟩,.string ⟨#[]⟩,.int .i64 0,.int .i64 0,.int .i64 0,.int .i64 0,.slice none 0 0] 231);have qp:=zB8 wr (.cells #[.string mp,.string Y,.int .i64 mr,.int .i64 Z,.int .i64 mt,.int .i64 me,.slice ma ml.length mc] 231) (.cells #[.string Y,.int .i64 Z] 278) (.cells #[.string ⟨#[]⟩,.string ⟨#[]⟩,.int .i64 0,.int .i64 0,.int .i64 0,.int .i64 0,.slice none 0 0] 231);have qo:=zB7 wr (.cells #[.string mp,.string Y,.int .i64 mr,.int .i64 Z,.int .i64 mt,.int .i64 me,.slice ma ml.length mc] 231) (.cells #[.string Y,.int .i64 Z] 278) (.cells #[.string ⟨#[]⟩,.string ⟨#[]⟩,.int .i64 0,.int .i64 0,.int .i64 0,.int .i64 0,.slice none 0 0] 231);have d5:=g7.fr ((Fr.refl No _).alloc (.cells #[.string ⟨#[]⟩,.string ⟨#[]⟩,.int .i64 0,.int .i64 0,.int .i64 0,.int .i64 0,.slice none 0 0] 231)) id;clear g7 hv j7 c0 c1 c2 c3 c4 c5 c6 j6;generalize ((wr.alloc (.cells #[.string mp,.string Y,.int .i64 mr,.int .i64 Z,.int .i64 mt,.int .i64 me,.slice ma ml.length mc] 231)).alloc (.cells #[.string Y,.int .i64 Z] 278)).alloc (.cells #[.string ⟨#[]⟩,.string ⟨#[]⟩,.int .i64 0,.int .i64 0,.int .i64 0,.int .i64 0,.slice none 0 0] 231)=W2 at *;obtain⟨y0,y1,y2,y3,y4,y5,y6⟩:=cl7 qm;have d6:=d4.cell n1 id;have f2:=zh (e0.step d4 zn);have n2:=d4.size;clear d4 e0 n1;obtain⟨gd,f3⟩:∃ gd,gd=C ⟨mp,Y,mr,Z,mt,me,ma,ml,mc⟩:=⟨_,rfl⟩
    have j8:Hid (C ⟨mp,Y,mr,Z,mt,me,ma,ml,mc⟩=gd):=f3.symm;have b3:=i8 mp Y mr Z mt me ma ml mc W2;rw[<-f3]at b3;clear f3;rcases gd with _ | _
    ·go_wp2_with
      (go_at_fn F
       refine b3.mono ?_;rintro en w3 ⟨rfl,R⟩;have f4:=R.heap qm id;have c9:=R.heap qp id;have g8:=R.heap qo id;have d0:=d5.fr R id;have j9:=R.cell d6 id;have d3:=zh (f2.out.step R zn);have f5:=R.size;clear y0 y1 y2 y3 y4 y5 y6 R qm qp qo d6 d5 b3)
     have d7:PMap w3 w.heap.size (mapP (zo C (L.take (k+1)))) k:=by rw[j3.out,zAb,zDO j8.out];exact d0
     have H:=zh (And.intro d7 d3.out);clear d7 d0
     go_roundw
     case rel=>exact⟨k+1,by omega,by go_num,H.out.1.mono (by omega),H.out.2,by omega⟩
     case measure=>simp[intOf];omega
    ·go_wp2_with (first
      | (go_at_fn F
         refine b3.mono ?_;rintro en w3 ⟨rfl,R⟩;have f4:=R.heap qm id;have c9:=R.heap qp id;have g8:=R.heap qo id;have d0:=d5.fr R id;have j9:=R.cell d6 id;have d3:=zh (f2.out.step R zn);have f5:=R.size;clear y0 y1 y2 y3 y4 y5 y6 R qm qp qo d6 d5 b3;obtain⟨y0,y1,y2,y3,y4,y5,y6⟩:=cl7 f4;have z0:w3.cell? ⟨wr.heap.size+1,0,none⟩=some (.string Y):=zB c9 0;have z1:w3.cell? ⟨wr.heap.size+1,1,none⟩=some (.int .i64 Z):=zB c9 1)
      | (at_mapUpdate;refine zCl rfl _ _ _ 276 231 rfl Tryz.underlying276 w.heap.size _ k (by unfold maxLen;omega) Y Z j4 j5 (.agg #[.string mp,.string Y,.int .i64 mr,.int .i64 Z,.int .i64 mt,.int .i64 me,.slice ma ml.length mc]) rfl d0 rfl rfl ?_;intro w6 k0 f6))
     have k1:PMap w6 w.heap.size (mapP (zo C (L.take (k+1)))) (k+1):=by rw[j3.out,zAb,zBm j8.out Hg.out,<-zGO];exact k0
     have H:=zh (And.intro k1 (And.intro (d3.out.step f6 (fun b hb e=>by unfold Is at e;unfold From;omega)) f6.size));clear k0 k1 f6
     go_roundw
     case rel=>exact⟨k+1,by omega,by go_num,H.out.1,H.out.2.1,by have:=H.out.2.2;omega⟩
     case measure=>simp[intOf];omega
   ·obtain⟨op,oi,or,os,ot,oe,oa,ol,oc⟩:=o;have hv:(mapP (zo C (L.take k)) (Y,Z)).getD zBS=.agg #[.string op,.string oi,.int .i64 or,.int .i64 os,.int .i64 ot,.int .i64 oe,.slice oa ol.length oc]:=by unfold mapP;rw[hg];rfl
    have j7:(mapP (zo C (L.take k)) (Y,Z)).isSome=true:=by unfold mapP;rw[hg];rfl
    have u1:=Hb.out.p _ (List.mem_of_mem_take (zCB _ _ _ hg).1);simp only at u1;have Hg:=zh hg;clear hg
    go_upto_region 7 with(at_lookup;refine zDc rfl _ _ 276 231 zBS (zF0 _) rfl Tryz.underlying276 w.heap.size _ k Y Z j4 j5 rfl g7 rfl (.agg #[.string op,.string oi,.int .i64 or,.int .i64 os,.int .i64 ot,.int .i64 oe,.slice oa ol.length oc]) hv true j7 ?_)
    have d4:Fr No wr (((wr.alloc (.cells #[.string mp,.string Y,.int .i64 mr,.int .i64 Z,.int .i64 mt,.int .i64 me,.slice ma ml.length mc] 231)).alloc (.cells #[.string Y,.int .i64 Z] 278)).alloc (.cells #[.string op,.string oi,.int .i64 or,.int .i64 os,.int .i64 ot,.int .i64 oe,.slice oa ol.length oc] 231)):=j6.alloc _;have qm:=zB9 wr (.cells #[.string mp,.string Y,.int .i64 mr,.int .i64 Z,.int .i64 mt,.int .i64 me,.slice ma ml.length mc] 231) (.cells #[.string Y,.int .i64 Z] 278) (.cells #[.string op,.string oi,.int .i64 or,.int .i64 os,.int .i64 ot,.int .i64 oe,.slice oa ol.length oc] 231);have qp:=zB8 wr (.cells #[.string mp,.string Y,.int .i64 mr,.int .i64 Z,.int .i64 mt,.int .i64 me,.slice ma ml.length mc] 231) (.cells #[.string Y,.int .i64 Z] 278) (.cells #[.string op,.string oi,.int .i64 or,.int .i64 os,.int .i64 ot,.int .i64 oe,.slice oa ol.length oc] 231);have qo:=zB7 wr (.cells #[.string mp,.string Y,.int .i64 mr,.int .i64 Z,.int .i64 mt,.int .i64 me,.slice ma ml.length mc] 231) (.cells #[.string Y,.int .i64 Z] 278) (.cells #[.string op,.string oi,.int .i64 or,.int .i64 os,.int .i64 ot,.int .i64 oe,.slice oa ol.length oc] 231);have d5:=g7.fr ((Fr.refl No _).alloc (.cells #[.string op,.string oi,.int .i64 or,.int .i64 os,.int .i64 ot,.int .i64 oe,.slice oa ol.length oc] 231)) id;clear g7 hv j7 c0 c1 c2 c3 c4 c5 c6 j6;generalize ((wr.alloc (.cells #[.string mp,.string Y,.int .i64 mr,.int .i64 Z,.int .i64 mt,.int .i64 me,.slice ma ml.length mc] 231)).alloc (.cells #[.string Y,.int .i64 Z] 278)).alloc (.cells #[.string op,.string oi,.int .i64 or,.int .i64 os,.int .i64 ot,.int .i64 oe,.slice oa ol.length oc] 231)=W2 at *;obtain⟨y0,y1,y2,y3,y4,y5,y6⟩:=cl7 qm;have d6:=d4.cell n1 id;have f2:=zh (e0.step d4 zn);have n2:=d4.size;clear d4 e0 n1;obtain⟨gd,f3⟩:∃ gd,gd=C ⟨mp,Y,mr,Z,mt,me,ma,ml,mc⟩:=⟨_,rfl⟩
    have j8:Hid (C ⟨mp,Y,mr,Z,mt,me,ma,ml,mc⟩=gd):=f3.symm;have b3:=i8 mp Y mr Z mt me ma ml mc W2;rw[<-f3]at b3;clear f3;rcases gd with _ | _
    ·go_wp2_with
      (go_at_fn F
       refine b3.mono ?_;rintro en w3 ⟨rfl,R⟩;have f4:=R.heap qm id;have c9:=R.heap qp id;have g8:=R.heap qo id;have d0:=d5.fr R id;have j9:=R.cell d6 id;have d3:=zh (f2.out.step R zn);have f5:=R.size;clear y0 y1 y2 y3 y4 y5 y6 R qm qp qo d6 d5 b3)
     have d7:PMap w3 w.heap.size (mapP (zo C (L.take (k+1)))) k:=by rw[j3.out,zAb,zDO j8.out];exact d0
     have H:=zh (And.intro d7 d3.out);clear d7 d0
     go_roundw
     case rel=>exact⟨k+1,by omega,by go_num,H.out.1.mono (by omega),H.out.2,by omega⟩
     case measure=>simp[intOf];omega
    ·go_wp2_with
      (go_at_fn F
       refine b3.mono ?_;rintro en w3 ⟨rfl,R⟩;have f4:=R.heap qm id;have c9:=R.heap qp id;have g8:=R.heap qo id;have d0:=d5.fr R id;have j9:=R.cell d6 id;have d3:=zh (f2.out.step R zn);have f5:=R.size;clear y0 y1 y2 y3 y4 y5 y6 R qm qp qo d6 d5 b3;obtain⟨y0,y1,y2,y3,y4,y5,y6⟩:=cl7 f4;obtain⟨z0,z1,z2,z3,z4,z5⟩:=cl6 g8;have z6:w3.cell? ⟨wr.heap.size+1+1,6,none⟩=some (.slice oa ol.length oc):=zB g8 6)
     refine(zGQ mp Y op oi mr Z mt me or os ot oe _ _ m0 _ u0 u1 j9).mono ?_;rintro en w5 ⟨rfl,g9⟩;have u2:=g9.heap f4 id;have u3:=g9.heap c9 id;have d7:=d0.fr g9 id;have u4:=zh (d3.out.step g9 zn);have G0:=g9.size;clear y0 y1 y2 y3 y4 y5 y6 z0 z1 z2 z3 z4 z5 z6 g9 f4 c9 g8 j9 d0;rcases ha:aheadB mp mr op or with _ | _
     ·clear u2 u3;have u5:PMap w5 w.heap.size (mapP (zo C (L.take (k+1)))) k:=by rw[j3.out,zAb,zFu (m:=⟨mp,Y,mr,Z,mt,me,ma,ml,mc⟩) (o:=⟨op,oi,or,os,ot,oe,oa,ol,oc⟩) Hg.out ha];exact d7
      have H:=zh (And.intro u5 u4.out);clear u5 d7
      go_wp2_with fail
      go_roundw
      case rel=>exact⟨k+1,by omega,by go_num,H.out.1.mono (by omega),H.out.2,by omega⟩
      case measure=>simp[intOf];omega
     ·have B8:Hid (∀ o,zo C (L.take k) (Y,Z)=some o->ahead ⟨mp,Y,mr,Z,mt,me,ma,ml,mc⟩ o=true):=fun o ho=>by rw[Hg.out]at ho;cases ho;exact ha
      clear ha;obtain⟨y0,y1,y2,y3,y4,y5,y6⟩:=cl7 u2;obtain⟨z0,z1⟩:=cl2 u3
      go_wp2_with (at_mapUpdate;refine zCl rfl _ _ _ 276 231 rfl Tryz.underlying276 w.heap.size _ k (by unfold maxLen;omega) Y Z j4 j5 (.agg #[.string mp,.string Y,.int .i64 mr,.int .i64 Z,.int .i64 mt,.int .i64 me,.slice ma ml.length mc]) rfl d7 rfl rfl ?_;intro w6 k0 f6)
      have k1:PMap w6 w.heap.size (mapP (zo C (L.take (k+1)))) (k+1):=by rw[j3.out,zAb,zBm j8.out B8.out,<-zGO];exact k0
      have H:=zh (And.intro k1 (And.intro (u4.out.step f6 (fun b hb e=>by unfold Is at e;unfold From;omega)) f6.size));clear k0 k1 f6
      go_roundw
      case rel=>exact⟨k+1,by omega,by go_num,H.out.1,H.out.2.1,by have:=H.out.2.2;omega⟩
      case measure=>simp[intOf];omega
  ·obtain rfl:k=L.length:=by omega
   rw[List.take_length]at hI;obtain⟨D,n,hn,ho,hh⟩:=hI;have Hh:=zh hh;have n3:=ho.size_le;have k2:Hid (∀ x s m,zo C L (x,s)=some m->(m∈L/\C m=true/\m.i=x/\m.s=s)/\x.size<=maxLen/\(Lit.int .i64 s).wf=true):=fun x s m hm=>by
    obtain⟨h1,h2,h3⟩:=zCB L (x,s) m hm;simp only[Prod.mk.injEq]at h3;obtain⟨rfl,rfl⟩:=h3;exact⟨⟨h1,h2,rfl,rfl⟩,by have:=Hb.out.i m h1;unfold maxLen;omega,Hb.out.s m h1⟩
   obtain⟨j0,u6,u7,u8,u9⟩:=info_parts zL4;have qg:=zD wr (.map #[] 0);have p6:Fr No wr (wr.alloc (.map #[] 0)):=(Fr.refl _ _).alloc _;have v0:=p6.ownsMap ho id;have v1:(wr.alloc (.map #[] 0)).heap.size=wr.heap.size+1:=by simp
   have o2:=e0.step p6 zn;clear hh ho e0 t7
   go_upto_region 11 with(fail)
   generalize wr.alloc (.map #[] 0)=W1 at *;generalize wr.heap.size=gm at *;have v2:GMap W1 (W1.heap.size+1) gm (fun _=>[]) 0:=GMap.made qg (by omega);have p7:Hid (w.heap.size<gm):=t8;have h0:=zh v1;clear p6 v1 qg t8
   go_wp2_with (at_range;refine wpList_range_own _ rfl _ 276 rfl 278 231 lawP Tryz.underlying276 heldV w.heap.size n D rfl v0 ?_;intro w2 o3 p8 n2)
   have v3:=v2.grown p8 (by simp) (fun j e=>by cases e);have v4:=o2.step (Fr.of_grown_none p8) zn;clear o2 v2 p8 v0
   go_frame
   go_loopw [57] (fun v h7=>∃ (e1:Lit->Bool) (p9 N:Nat) (f:List UInt8->List Int),h7.ranges Tryz.prog 278 heldV w.heap.size W1.heap.size n D e1 p9/\N+p9<=Maps.size D/\GMap h7 (W1.heap.size+1) gm f N/\Hid (Grp D e1 f)/\Hid (Fr (From w.heap.size) w h7)/\W1.heap.size+1<=h7.heap.size)
    (fun _ h7=>h7.rangeLeft w.heap.size W1.heap.size)
   case atStart=>exact⟨_,_,0,_,o3,by omega,v3,Grp.start D,v4,by omega⟩
   case round=>
    obtain⟨e1,p9,N,f,k3,G1,hG,HG,Hf,f5⟩:=hrel;clear v3 o3 v4 n2
    go_wp2_with (at_next;refine wpList_next_ranges _ rfl _ rfl 278 lawP heldV (fun x:ByteArray×Int=>.agg #[.string x.1,.int .i64 x.2]) (fun v:Value=>v) (fun G3 kl h=>by obtain⟨s,n,rfl,_⟩:=zGT h;exact⟨(s,n),rfl⟩) (fun v y h=>⟨v,rfl⟩) w.heap.size W1.heap.size n D _ _ rfl k3 ?_ ?_)
    ·intro B9 v5;have v6:PMap wr w.heap.size (mapP (zo C L)) n:=⟨D,n,Nat.le_refl _,k3.owns,Hh.out⟩
     have v7:Hid (∀ x,IsSlots (zo C L) x (f (kb x))):=HG.out.slots v5 (fun x h1 h2=>(Hh.out x h1 h2).1) (fun x s m h=>(k2.out x s m h).2);have hN:N<=1000:=by omega
     clear k3 HG v5 B9 Hh
     go_wp2_with fail
     refine(zG3 gm _ f N _ hG (by omega)).mono ?_;rintro en w4 ⟨⟨ia,ic,a9,rfl,v8,o4,b2,o5,C0⟩,k4⟩;have o6:Hid (IsIds2 (zo C L) a9):=IsIds2.of_slots o4 b2 v7.out;have v9:=zh b2;have k5:=hG.grown (k4.grown (row:=none) (fun _ h=>h.elim)) (by simp) (fun j e=>by cases e);have q1:=v6.fr k4 id;have n4:Hid (Fr (From w.heap.size) w w4):=Hf.out.step k4 zn;have C1:=k4.size;have k6:Hid (a9.length<=N):=o5;have h8:Hid (w.heap.size<=w4.heap.size):=by have:=p7.out;have:=h0.out;unfold Hid;omega
     clear o4 b2 hG v6 k4 Hf o5 C0 f5;obtain⟨s0,d9,e2,e3,e4⟩:=info_parts infoS
     go_wp2_with fail
     go_loopw [13,75] (fun u i q2=>∃ (j:Nat) (O:List ArrM) (av:Option Addr) (cv:Nat),j<=a9.length/\O.length=j/\u=.slice av O.length cv/\i=.int .i64 (j:Int)/\q2.ownsRow w4.heap.size 176 6 (.slice av O.length cv) O.length (arflat O)/\AFresh q2 w4.heap.size O/\Hid (O.map ArrM.toArr=(a9.take j).map (buildA (zo C L)))/\Fr (From w4.heap.size) w4 q2) (fun _ i _=>a9.length-(intOf i).toNat)
     case atStart=>exact⟨0,[],none,0,by omega,rfl,rfl,rfl,World.ownsRow_nil _ _ _ _,fun _ h=>by simp at h,by unfold Hid;simp,Fr.refl _ _⟩
     case round=>
      obtain⟨j,O,av,cv,hj,w1,rfl,rfl,a5,b4,HO,hf⟩:=hrel;have E9:a9.length<=1000:=by have:=k6.out;omega
      have F0:O.length<=1000:=by have:=k6.out;omega
      have C2:=zh w1;clear w1;by_cases g6:j<a9.length
      ·have t9:(j:Int)<a9.length:=by omega
       obtain⟨b,B7,x,rfl,q5,hc⟩:=(v8.fr hf (fun I e q7=>by have:=(v8.cell I e q7).2.1;unfold From;omega)).at g6;have C3:Hid (a9.take (j+1)=a9.take j++[x]):=by unfold Hid;rw[List.take_add_one,q5];rfl
       have q8:=List.mem_of_getElem? q5;have w7:=zh ((v9.out x).1 q8);obtain⟨s9,w8⟩:=(o6.out.mem x).1 q8;obtain⟨m9,w9⟩:=Option.isSome_iff_exists.1 w8;have f7:x.size<=maxLen:=(k2.out x s9 m9 w9).2.1;clear q5 q8 w8 w9;have x0:=Fr.grownF hf;have q9:=k5.grown x0 (by simp) (fun j e=>by cases e);have n5:=q1.fr hf (by unfold From;have:=q1.lt;omega);obtain⟨v,b5,e5,k7,_⟩:=q9.look (by unfold maxLen;omega) f7;obtain⟨za,zc,rfl,hZ,G4⟩:=Ints.of_own e5.1 e5.2;obtain⟨zs,r0⟩:∃ zs,zs=f (kb x):=⟨_,rfl⟩
       rw[<-r0]at b5 e5 k7 hZ w7;have h9:Hid (IsSlots (zo C L) x zs):=by rw[r0];exact v7.out x
       have x5:1<=zs.length:=by have:=w7.out;rcases zs with _ | ⟨_,_⟩;exact absurd rfl this;simp
       clear r0 e5
       go_wp2_with (at_lookup;refine zAc rfl _ _ 281 rfl (.map (some gm)) (.string x) (.slice za zs.length zc) rfl rfl (b5 _ rfl) ?_)
       refine(zLl za zc zs _ hZ x5).mono ?_;rintro en w5 ⟨⟨m,rfl,hm,o7⟩,rfl⟩;obtain⟨o,ho⟩:=Option.isSome_iff_exists.1 ((h9.out.mem m).1 hm);have k8:Hid (∀ s∈zs,1<=s/\s<=16):=fun s hs=>by
        obtain⟨m',C4⟩:=Option.isSome_iff_exists.1 ((h9.out.mem s).1 hs);obtain⟨⟨_,h2,_,h4⟩,_⟩:=k2.out x s m' C4;have h2:=t6 _ h2;unfold soundB at h2;simp only[Bool.and_eq_true,decide_eq_true_eq]at h2;omega
       have C5:Hid (zAW (zo C L) x=o):=by
        have:=zEM h9.out k8.out hm o7;unfold Hid zAW;rw[this,ho];rfl
       obtain⟨⟨r4,k9,x6,x7⟩,_,C6⟩:=k2.out x m o ho;have b6:=n5.look (zF0 wr) Tryz.underlying276 f7 C6;have hv:(mapP (zo C L) (x,m)).getD zBS=o.v:=by unfold mapP;rw[ho];rfl
       rw[hv]at b6;have C7:1<=o.t/\o.t<=16:=by
        have k9:=t6 _ k9;unfold soundB at k9;simp only[Bool.and_eq_true,decide_eq_true_eq]at k9;omega
       have i1:=Hb.out.l o r4;have j2:=((j1.out wr (n4.out.trans hf (fun b hb h=>h) (fun b hb h=>by unfold From at h ⊢;have:=h8.out;omega))).ok o r4)
       have x8:=zh b5;clear hv ho r4 k9 x6 hm o7 b5;obtain⟨op,oi,or,os,ot,oe,oa,ol,oc⟩:=o;simp only at x7 C7 i1 j2;subst x7;obtain⟨T,rfl⟩:∃ T:Nat,ot=(T:Int):=⟨ot.toNat,by omega⟩
       unfold Mem.v Mem.vals at b6;simp only at b6;have n6:Fr No wr (wr.alloc (.cells #[.string op,.string oi,.int .i64 or,.int .i64 os,.int .i64 (T:Int),.int .i64 oe,.slice oa ol.length oc] 231)):=(Fr.refl _ _).alloc _;have q3:=zD wr (.cells #[.string op,.string oi,.int .i64 or,.int .i64 os,.int .i64 (T:Int),.int .i64 oe,.slice oa ol.length oc] 231)
       go_upto_region 20 with(at_lookup;refine zAc rfl _ _ 276 rfl (.map (some w.heap.size)) (.agg #[.string x,.int .i64 os]) (.agg #[.string op,.string oi,.int .i64 or,.int .i64 os,.int .i64 (T:Int),.int .i64 oe,.slice oa ol.length oc]) rfl rfl b6 ?_)
       generalize wr.alloc (.cells #[.string op,.string oi,.int .i64 or,.int .i64 os,.int .i64 (T:Int),.int .i64 oe,.slice oa ol.length oc] 231)=W3 at *;have i2:=j2.no n6 (fun _=>id);have C8:=zh n6;have C9:=zC q3;have f5:=n6.size;clear j2 n6
       go_cut [17] (fun v wx=>∃ (ab pa:Nat) (la:Option Addr) (lc:Nat),v=.pointer (some ⟨ab,0,none⟩)/\wx.heap[ab]?=some (.cells #[.string x,.slice (some ⟨pa,0,none⟩) T T,.int .i64 (T:Int),.int .i64 oe,.int .i64 0,.slice la ol.length lc] 176)/\wx.heap[pa]?=some (.cells ((List.replicate T (⟨#[]⟩:ByteArray)).map Value.string).toArray 9)/\pa≠ab/\Strs wx la lc ol/\BlkT wx la 9/\W3.heap.size<=ab/\W3.heap.size<=pa/\(∀ I,la=some I->I.block≠pa/\W3.heap.size<=I.block)/\Fr No W3 wx)
       case first=>
        refine zb (From W3.heap.size) (.q 0 (.q 1 (.q 2 (.q 4 (.q 5 (.q 6 (.q 7 (.q 8 (.q 9 (.m3 3 (.m2 10 (.q 11 (.m1 12 (.m1 13 .fin))) 12 (.m1 10 (.q 11 (.m1 13 .fin)))) 10 (.m2 3 (.q 11 (.m1 12 (.m1 13 .fin))) 12 (.m1 3 (.q 11 (.m1 13 .fin)))) 12 (.m2 3 (.m1 10 (.q 11 (.m1 13 .fin))) 10 (.m1 3 (.q 11 (.m1 13 .fin)))))))))))))) _ (by kernel_rfl) (by kernel_rfl) (fun w0 a6=>?_) zj;have q0:=a6.heap q3 id;have F1:=a6.size;have nf:¬ From W3.heap.size wr.heap.size:=by unfold From;omega
        have c4:∀ g:Gr (From W3.heap.size) w0,g.W.cell? ⟨wr.heap.size,4,none⟩=some (.int .i64 (T:Int)):=fun g=>g.fr.cell (zB q0 4) nf
        have c5:∀ g:Gr (From W3.heap.size) w0,g.W.cell? ⟨wr.heap.size,5,none⟩=some (.int .i64 oe):=fun g=>g.fr.cell (zB q0 5) nf
        have c6:∀ g:Gr (From W3.heap.size) w0,g.W.cell? ⟨wr.heap.size,6,none⟩=some (.slice oa ol.length oc):=fun g=>g.fr.cell (zB q0 6) nf
        repeat (apply zM rfl rfl rfl;intro K hK;go_big_quiet_op;go_big_quiet_on)
        clear c4 c5 c6;refine zKg rfl rfl rfl ?_ ?_ ?_
        ·go_wp2_with (at_make;refine wpList_make_full _ rfl _ _ 30 rfl W3.heap.size 9 s0 (.string ByteArray.empty) 1 Tryz.underlying30 d9 e2 e3 .i64 .i64 (T:Int) (T:Int) T rfl rfl rfl rfl (by rw[e4];omega) (by unfold maxLen;omega) (by omega) ?_;intro X1 hP a7)
         have b7:Fr No w0 X1:=Fr.of_grown_none a7;have a2:Hid (w0.heap.size<X1.heap.size):=zV hP rfl;have HP:=zh (zAy hP);clear hP a7;have o8:=b7.size;refine zm b7 ?_;have b0:Fr No W3 X1:=a6.step b7 zi;refine zv rfl rfl ?_ ?_
         ·go_wp2_with fail
          refine(zAZ oa oc ol _ (i2.no b0 (fun _=>id)) i1).mono ?_;rintro en V ⟨⟨la,lc,rfl,hL,X,a8⟩,U⟩;have HL:=zh (And.intro hL (And.intro X a8));clear hL X a8
          go_wp2_with fail
          have e6:=U.size;refine zm U ?_;have b1:Fr No W3 V:=b0.step U zi
          repeat (apply zM rfl rfl rfl;intro K hK;go_big_quiet_op;go_big_quiet_on)
          refine zH rfl ?_
          go_wp2_with fail
          have J:Fr No V (V.alloc (.cells #[.string ⟨#[]⟩,.slice none 0 0,.int .i64 0,.int .i64 0,.int .i64 0,.slice none 0 0] 176)):=(Fr.refl _ _).alloc _;have f8:=zD V (.cells #[.string ⟨#[]⟩,.slice none 0 0,.int .i64 0,.int .i64 0,.int .i64 0,.slice none 0 0] 176);generalize V.alloc (.cells #[.string ⟨#[]⟩,.slice none 0 0,.int .i64 0,.int .i64 0,.int .i64 0,.slice none 0 0] 176)=X3 at *;have e7:=J.size;refine zm J ?_;have b8:Fr No W3 X3:=b1.step J zi;refine zH rfl ?_;have qe:=(Fr.refl No X3).heap f8 id;obtain⟨z0,z1,z2,z3,z4,z5⟩:=cl6 qe;obtain⟨y0,y1,y2,y3,y4,y5⟩:=fl6 qe;have b9:=zh qe;clear qe
          go_wp2_with fail
          have h6:=set6 b9.out rfl (.string x) (.slice (some ⟨w0.heap.size,0,none⟩) T T) (.int .i64 (T:Int)) (.int .i64 oe) (.int .i64 0) (.slice la ol.length lc);refine OnlyN.mk ⟨h6.2.mono (fun b _ h=>by unfold Is at h;unfold From;omega),?_⟩;refine zX ?_
          go_wp2_with fail
          go_meet
          have a4:w0.heap.size≠V.heap.size:=by have:=a2.out;have:=zC f8;omega
          have a3:∀ I,la=some I->I.block≠V.heap.size/\I.block≠w0.heap.size/\W3.heap.size<=I.block:=fun I e=>by
           have h1:=HL.out.2.2 I e;obtain⟨cs,h2⟩:=HL.out.2.1 I e;have h3:=zC h2;have h4:=a2.out;have h5:=zC f8;refine⟨?_,?_,?_⟩<;>omega
          exact⟨V.heap.size,w0.heap.size,la,lc,rfl,h6.1,((((Fr.refl No X1).step U zi).step J zi).mono (T:=Is (V.heap.size)) zn).step h6.2 zi |>.heap HP.out a4,a4,(HL.out.1.no ((Fr.refl No V).step J zi) (fun _=>id)).fr h6.2 (fun I e _=>(a3 I e).1),(HL.out.2.1.fr ((Fr.refl No V).step J zi) (fun _ _=>id)).fr h6.2 (fun I e=>(a3 I e).1),by omega,by omega,fun I e=>(a3 I e).2,b8.step h6.2 (fun b hb h=>by unfold Is at h;omega)⟩
         ·go_wp2_with fail
          have U:Fr No X1 (X1.alloc (.cells #[.string ⟨#[]⟩,.slice none 0 0,.int .i64 0,.int .i64 0,.int .i64 0,.slice none 0 0] 176)):=(Fr.refl _ _).alloc _;have f9:=zD X1 (.cells #[.string ⟨#[]⟩,.slice none 0 0,.int .i64 0,.int .i64 0,.int .i64 0,.slice none 0 0] 176);generalize X1.alloc (.cells #[.string ⟨#[]⟩,.slice none 0 0,.int .i64 0,.int .i64 0,.int .i64 0,.slice none 0 0] 176)=V at *;have e6:=U.size;refine zm U ?_;have b1:Fr No W3 V:=b0.step U zi;refine zH rfl ?_
          go_wp2_with fail
          refine(zAZ oa oc ol _ (i2.no b1 (fun _=>id)) i1).mono ?_;rintro en X3 ⟨⟨la,lc,rfl,hL,X,a8⟩,J⟩;have HL:=zh (And.intro hL (And.intro X a8));clear hL X a8
          go_wp2_with fail
          have e7:=J.size;refine zm J ?_;have b8:Fr No W3 X3:=b1.step J zi
          repeat (apply zM rfl rfl rfl;intro K hK;go_big_quiet_op;go_big_quiet_on)
          refine zH rfl ?_;have qe:=((Fr.refl No V).step J zi).heap f9 id;obtain⟨z0,z1,z2,z3,z4,z5⟩:=cl6 qe;obtain⟨y0,y1,y2,y3,y4,y5⟩:=fl6 qe;have b9:=zh qe;clear qe
          go_wp2_with fail
          have h6:=set6 b9.out rfl (.string x) (.slice (some ⟨w0.heap.size,0,none⟩) T T) (.int .i64 (T:Int)) (.int .i64 oe) (.int .i64 0) (.slice la ol.length lc);refine OnlyN.mk ⟨h6.2.mono (fun b _ h=>by unfold Is at h;unfold From;omega),?_⟩;refine zX ?_
          go_wp2_with fail
          go_meet
          have a4:w0.heap.size≠X1.heap.size:=by have:=a2.out;have:=zC f9;omega
          have a3:∀ I,la=some I->I.block≠X1.heap.size/\I.block≠w0.heap.size/\W3.heap.size<=I.block:=fun I e=>by
           have h1:=HL.out.2.2 I e;obtain⟨cs,h2⟩:=HL.out.2.1 I e;have h3:=zC h2;have h4:=a2.out;have h5:=zC f9;refine⟨?_,?_,?_⟩<;>omega
          exact⟨X1.heap.size,w0.heap.size,la,lc,rfl,h6.1,((((Fr.refl No X1).step U zi).step J zi).mono (T:=Is (X1.heap.size)) zn).step h6.2 zi |>.heap HP.out a4,a4,(HL.out.1.no (Fr.refl No X3) (fun _=>id)).fr h6.2 (fun I e _=>(a3 I e).1),(HL.out.2.1.fr (Fr.refl No X3) (fun _ _=>id)).fr h6.2 (fun I e=>(a3 I e).1),by omega,by omega,fun I e=>(a3 I e).2,b8.step h6.2 (fun b hb h=>by unfold Is at h;omega)⟩
        ·go_wp2_with fail
         refine(zAZ oa oc ol _ (i2.no a6 (fun _=>id)) i1).mono ?_;rintro en X1 ⟨⟨la,lc,rfl,hL,X,a8⟩,b7⟩;have HL:=zh (And.intro hL (And.intro X a8));clear hL X a8
         go_wp2_with fail
         have o8:=b7.size;refine zm b7 ?_;have b0:Fr No W3 X1:=a6.step b7 zi;refine zv rfl rfl ?_ ?_
         ·go_wp2_with (at_make;refine wpList_make_full _ rfl _ _ 30 rfl W3.heap.size 9 s0 (.string ByteArray.empty) 1 Tryz.underlying30 d9 e2 e3 .i64 .i64 (T:Int) (T:Int) T rfl rfl rfl rfl (by rw[e4];omega) (by unfold maxLen;omega) (by omega) ?_;intro V hP a7)
          have U:Fr No X1 V:=Fr.of_grown_none a7;have a2:Hid (X1.heap.size<V.heap.size):=zV hP rfl;have HP:=zh (zAy hP);clear hP a7;have e6:=U.size;refine zm U ?_;have b1:Fr No W3 V:=b0.step U zi
          repeat (apply zM rfl rfl rfl;intro K hK;go_big_quiet_op;go_big_quiet_on)
          refine zH rfl ?_
          go_wp2_with fail
          have J:Fr No V (V.alloc (.cells #[.string ⟨#[]⟩,.slice none 0 0,.int .i64 0,.int .i64 0,.int .i64 0,.slice none 0 0] 176)):=(Fr.refl _ _).alloc _;have f8:=zD V (.cells #[.string ⟨#[]⟩,.slice none 0 0,.int .i64 0,.int .i64 0,.int .i64 0,.slice none 0 0] 176);generalize V.alloc (.cells #[.string ⟨#[]⟩,.slice none 0 0,.int .i64 0,.int .i64 0,.int .i64 0,.slice none 0 0] 176)=X3 at *;have e7:=J.size;refine zm J ?_;have b8:Fr No W3 X3:=b1.step J zi;refine zH rfl ?_;have qe:=(Fr.refl No X3).heap f8 id;obtain⟨z0,z1,z2,z3,z4,z5⟩:=cl6 qe;obtain⟨y0,y1,y2,y3,y4,y5⟩:=fl6 qe;have b9:=zh qe;clear qe
          go_wp2_with fail
          have h6:=set6 b9.out rfl (.string x) (.slice (some ⟨X1.heap.size,0,none⟩) T T) (.int .i64 (T:Int)) (.int .i64 oe) (.int .i64 0) (.slice la ol.length lc);refine OnlyN.mk ⟨h6.2.mono (fun b _ h=>by unfold Is at h;unfold From;omega),?_⟩;refine zX ?_
          go_wp2_with fail
          go_meet
          have a4:X1.heap.size≠V.heap.size:=by have:=a2.out;have:=zC f8;omega
          have a3:∀ I,la=some I->I.block≠V.heap.size/\I.block≠X1.heap.size/\W3.heap.size<=I.block:=fun I e=>by
           have h1:=HL.out.2.2 I e;obtain⟨cs,h2⟩:=HL.out.2.1 I e;have h3:=zC h2;have h4:=a2.out;have h5:=zC f8;refine⟨?_,?_,?_⟩<;>omega
          exact⟨V.heap.size,X1.heap.size,la,lc,rfl,h6.1,(((Fr.refl No V).step J zi).mono (T:=Is (V.heap.size)) zn).step h6.2 zi |>.heap HP.out a4,a4,(HL.out.1.no (((Fr.refl No X1).step U zi).step J zi) (fun _=>id)).fr h6.2 (fun I e _=>(a3 I e).1),(HL.out.2.1.fr (((Fr.refl No X1).step U zi).step J zi) (fun _ _=>id)).fr h6.2 (fun I e=>(a3 I e).1),by omega,by omega,fun I e=>(a3 I e).2,b8.step h6.2 (fun b hb h=>by unfold Is at h;omega)⟩
         ·go_wp2_with fail
          have U:Fr No X1 (X1.alloc (.cells #[.string ⟨#[]⟩,.slice none 0 0,.int .i64 0,.int .i64 0,.int .i64 0,.slice none 0 0] 176)):=(Fr.refl _ _).alloc _;have f9:=zD X1 (.cells #[.string ⟨#[]⟩,.slice none 0 0,.int .i64 0,.int .i64 0,.int .i64 0,.slice none 0 0] 176);generalize X1.alloc (.cells #[.string ⟨#[]⟩,.slice none 0 0,.int .i64 0,.int .i64 0,.int .i64 0,.slice none 0 0] 176)=V at *;have e6:=U.size;refine zm U ?_;have b1:Fr No W3 V:=b0.step U zi;refine zH rfl ?_
          go_wp2_with (at_make;refine wpList_make_full _ rfl _ _ 30 rfl W3.heap.size 9 s0 (.string ByteArray.empty) 1 Tryz.underlying30 d9 e2 e3 .i64 .i64 (T:Int) (T:Int) T rfl rfl rfl rfl (by rw[e4];omega) (by unfold maxLen;omega) (by omega) ?_;intro X3 hP a7)
          have J:Fr No V X3:=Fr.of_grown_none a7;have a2:Hid (V.heap.size<X3.heap.size):=zV hP rfl;have HP:=zh (zAy hP);clear hP a7;have e7:=J.size;refine zm J ?_;have b8:Fr No W3 X3:=b1.step J zi
          repeat (apply zM rfl rfl rfl;intro K hK;go_big_quiet_op;go_big_quiet_on)
          refine zH rfl ?_;have qe:=((Fr.refl No V).step J zi).heap f9 id;obtain⟨z0,z1,z2,z3,z4,z5⟩:=cl6 qe;obtain⟨y0,y1,y2,y3,y4,y5⟩:=fl6 qe;have b9:=zh qe;clear qe
          go_wp2_with fail
          have h6:=set6 b9.out rfl (.string x) (.slice (some ⟨V.heap.size,0,none⟩) T T) (.int .i64 (T:Int)) (.int .i64 oe) (.int .i64 0) (.slice la ol.length lc);refine OnlyN.mk ⟨h6.2.mono (fun b _ h=>by unfold Is at h;unfold From;omega),?_⟩;refine zX ?_
          go_wp2_with fail
          go_meet
          have a4:V.heap.size≠X1.heap.size:=by have:=a2.out;have:=zC f9;omega
          have a3:∀ I,la=some I->I.block≠X1.heap.size/\I.block≠V.heap.size/\W3.heap.size<=I.block:=fun I e=>by
           have h1:=HL.out.2.2 I e;obtain⟨cs,h2⟩:=HL.out.2.1 I e;have h3:=zC h2;have h4:=a2.out;have h5:=zC f9;refine⟨?_,?_,?_⟩<;>omega
          exact⟨X1.heap.size,V.heap.size,la,lc,rfl,h6.1,((Fr.refl No X3).mono (T:=Is (X1.heap.size)) zn).step h6.2 zi |>.heap HP.out a4,a4,(HL.out.1.no (((Fr.refl No X1).step U zi).step J zi) (fun _=>id)).fr h6.2 (fun I e _=>(a3 I e).1),(HL.out.2.1.fr (((Fr.refl No X1).step U zi).step J zi) (fun _ _=>id)).fr h6.2 (fun I e=>(a3 I e).1),by omega,by omega,fun I e=>(a3 I e).2,b8.step h6.2 (fun b hb h=>by unfold Is at h;omega)⟩
        ·go_wp2_with fail
         have b7:Fr No w0 (w0.alloc (.cells #[.string ⟨#[]⟩,.slice none 0 0,.int .i64 0,.int .i64 0,.int .i64 0,.slice none 0 0] 176)):=(Fr.refl _ _).alloc _;have i3:=zD w0 (.cells #[.string ⟨#[]⟩,.slice none 0 0,.int .i64 0,.int .i64 0,.int .i64 0,.slice none 0 0] 176);generalize w0.alloc (.cells #[.string ⟨#[]⟩,.slice none 0 0,.int .i64 0,.int .i64 0,.int .i64 0,.slice none 0 0] 176)=X1 at *;have o8:=b7.size;refine zm b7 ?_;have b0:Fr No W3 X1:=a6.step b7 zi;refine zv rfl rfl ?_ ?_
         ·go_wp2_with (at_make;refine wpList_make_full _ rfl _ _ 30 rfl W3.heap.size 9 s0 (.string ByteArray.empty) 1 Tryz.underlying30 d9 e2 e3 .i64 .i64 (T:Int) (T:Int) T rfl rfl rfl rfl (by rw[e4];omega) (by unfold maxLen;omega) (by omega) ?_;intro V hP a7)
          have U:Fr No X1 V:=Fr.of_grown_none a7;have a2:Hid (X1.heap.size<V.heap.size):=zV hP rfl;have HP:=zh (zAy hP);clear hP a7;have e6:=U.size;refine zm U ?_;have b1:Fr No W3 V:=b0.step U zi;refine zH rfl ?_
          go_wp2_with fail
          refine(zAZ oa oc ol _ (i2.no b1 (fun _=>id)) i1).mono ?_;rintro en X3 ⟨⟨la,lc,rfl,hL,X,a8⟩,J⟩;have HL:=zh (And.intro hL (And.intro X a8));clear hL X a8
          go_wp2_with fail
          have e7:=J.size;refine zm J ?_;have b8:Fr No W3 X3:=b1.step J zi
          repeat (apply zM rfl rfl rfl;intro K hK;go_big_quiet_op;go_big_quiet_on)
          refine zH rfl ?_;have qe:=(((Fr.refl No X1).step U zi).step J zi).heap i3 id;obtain⟨z0,z1,z2,z3,z4,z5⟩:=cl6 qe;obtain⟨y0,y1,y2,y3,y4,y5⟩:=fl6 qe;have b9:=zh qe;clear qe
          go_wp2_with fail
          have h6:=set6 b9.out rfl (.string x) (.slice (some ⟨X1.heap.size,0,none⟩) T T) (.int .i64 (T:Int)) (.int .i64 oe) (.int .i64 0) (.slice la ol.length lc);refine OnlyN.mk ⟨h6.2.mono (fun b _ h=>by unfold Is at h;unfold From;omega),?_⟩;refine zX ?_
          go_wp2_with fail
          go_meet
          have a4:X1.heap.size≠w0.heap.size:=by have:=a2.out;have:=zC i3;omega
          have a3:∀ I,la=some I->I.block≠w0.heap.size/\I.block≠X1.heap.size/\W3.heap.size<=I.block:=fun I e=>by
           have h1:=HL.out.2.2 I e;obtain⟨cs,h2⟩:=HL.out.2.1 I e;have h3:=zC h2;have h4:=a2.out;have h5:=zC i3;refine⟨?_,?_,?_⟩<;>omega
          exact⟨w0.heap.size,X1.heap.size,la,lc,rfl,h6.1,(((Fr.refl No V).step J zi).mono (T:=Is (w0.heap.size)) zn).step h6.2 zi |>.heap HP.out a4,a4,(HL.out.1.no (Fr.refl No X3) (fun _=>id)).fr h6.2 (fun I e _=>(a3 I e).1),(HL.out.2.1.fr (Fr.refl No X3) (fun _ _=>id)).fr h6.2 (fun I e=>(a3 I e).1),by omega,by omega,fun I e=>(a3 I e).2,b8.step h6.2 (fun b hb h=>by unfold Is at h;omega)⟩
         ·go_wp2_with fail
          refine(zAZ oa oc ol _ (i2.no b0 (fun _=>id)) i1).mono ?_;rintro en V ⟨⟨la,lc,rfl,hL,X,a8⟩,U⟩;have HL:=zh (And.intro hL (And.intro X a8));clear hL X a8
          go_wp2_with fail
          have e6:=U.size;refine zm U ?_;have b1:Fr No W3 V:=b0.step U zi;refine zH rfl ?_
          go_wp2_with (at_make;refine wpList_make_full _ rfl _ _ 30 rfl W3.heap.size 9 s0 (.string ByteArray.empty) 1 Tryz.underlying30 d9 e2 e3 .i64 .i64 (T:Int) (T:Int) T rfl rfl rfl rfl (by rw[e4];omega) (by unfold maxLen;omega) (by omega) ?_;intro X3 hP a7)
          have J:Fr No V X3:=Fr.of_grown_none a7;have a2:Hid (V.heap.size<X3.heap.size):=zV hP rfl;have HP:=zh (zAy hP);clear hP a7;have e7:=J.size;refine zm J ?_;have b8:Fr No W3 X3:=b1.step J zi
          repeat (apply zM rfl rfl rfl;intro K hK;go_big_quiet_op;go_big_quiet_on)
          refine zH rfl ?_;have qe:=(((Fr.refl No X1).step U zi).step J zi).heap i3 id;obtain⟨z0,z1,z2,z3,z4,z5⟩:=cl6 qe;obtain⟨y0,y1,y2,y3,y4,y5⟩:=fl6 qe;have b9:=zh qe;clear qe
          go_wp2_with fail
          have h6:=set6 b9.out rfl (.string x) (.slice (some ⟨V.heap.size,0,none⟩) T T) (.int .i64 (T:Int)) (.int .i64 oe) (.int .i64 0) (.slice la ol.length lc);refine OnlyN.mk ⟨h6.2.mono (fun b _ h=>by unfold Is at h;unfold From;omega),?_⟩;refine zX ?_
          go_wp2_with fail
          go_meet
          have a4:V.heap.size≠w0.heap.size:=by have:=a2.out;have:=zC i3;omega
          have a3:∀ I,la=some I->I.block≠w0.heap.size/\I.block≠V.heap.size/\W3.heap.size<=I.block:=fun I e=>by
           have h1:=HL.out.2.2 I e;obtain⟨cs,h2⟩:=HL.out.2.1 I e;have h3:=zC h2;have h4:=a2.out;have h5:=zC i3;refine⟨?_,?_,?_⟩<;>omega
          exact⟨w0.heap.size,V.heap.size,la,lc,rfl,h6.1,((Fr.refl No X3).mono (T:=Is (w0.heap.size)) zn).step h6.2 zi |>.heap HP.out a4,a4,(HL.out.1.no ((Fr.refl No V).step J zi) (fun _=>id)).fr h6.2 (fun I e _=>(a3 I e).1),(HL.out.2.1.fr ((Fr.refl No V).step J zi) (fun _ _=>id)).fr h6.2 (fun I e=>(a3 I e).1),by omega,by omega,fun I e=>(a3 I e).2,b8.step h6.2 (fun b hb h=>by unfold Is at h;omega)⟩
       case rest=>
        obtain⟨ab,pa,la,lc,rfl,l0,r5,a4,e8,X,D2,D3,n7,x9⟩:=hcut;have l1:Fr No wr wc:=C8.out.step x9 zi;have D4:=l1.size;have G5:=hZ.no l1 (fun _=>id);have o9:wc.heap[gm]?=wr.heap[gm]?:=l1.block gm q9.lt id;have y7:=x8.out wc o9;have HK:Hid (∀ W:World,Fr (fun b=>b=ab\/b=pa) wc W->(W.ownsRow w4.heap.size 176 6 (.slice av O.length cv) O.length (arflat O)/\AFresh W w4.heap.size O)/\Fr (From w4.heap.size) w4 W/\Strs W la lc ol/\BlkT W la 9/\PMap W w.heap.size (mapP (zo C L)) n/\Ints W za zc zs):=fun W hW=>by
         have l2:Fr (fun b=>wr.heap.size<=b) wr W:=(l1.mono zn).step hW (fun b hb h=>by omega);refine⟨⟨zG a5 l2 (fun b hb h=>by have h1:=zV a5 hb;omega),b4.fr l2 (fun b _ h1 h2=>by omega)⟩,hf.step l2 (fun b hb h=>by have:=hf.size;unfold From;omega),e8.fr hW (fun I e _ h=>?_),X.fr hW (fun I e h=>?_),n5.fr l2 (by have:=n5.lt;omega),hZ.fr l2 (fun I e q7 h=>by have:=(hZ.cell I e q7).2.1;omega)⟩
         ·obtain⟨cs,h2⟩:=X I e;have:=n7 I e;rcases h with h | h
          ·rw[h]at h2;rw[l0]at h2;cases h2
          ·exact this.1 h
         ·obtain⟨cs,h2⟩:=X I e;have:=n7 I e;rcases h with h | h
          ·rw[h]at h2;rw[l0]at h2;cases h2
          ·exact this.1 h
        have r6:Hid ((∀ I,la=some I->w4.heap.size<=I.block)/\w4.heap.size<=pa/\w4.heap.size<=ab/\pa<wc.heap.size/\ab<wc.heap.size):=⟨fun I e=>by have:=n7 I e;have:=hf.size;omega,by have:=hf.size;omega,by have:=hf.size;omega,zC r5,zC l0⟩
        clear hZ x0 q9 n5 q3 i2 C9 f5 e8 X D2 D3 n7 x9 l1 D4 o9 a5 b4 hf b6 hc
        go_wp2_with (at_lookup;refine zAc rfl _ _ 281 rfl (.map (some gm)) (.string x) (.slice za zs.length zc) rfl rfl y7 ?_)
        clear y7
        go_loopw [103] (fun i r7=>∃ q:Nat,q<=zs.length/\i=.int .i64 (q:Int)/\r7.heap[ab]?=some (.cells #[.string x,.slice (some ⟨pa,0,none⟩) T T,.int .i64 (T:Int),.int .i64 oe,.int .i64 ((cntJ T (zs.take q):Nat):Int),.slice la ol.length lc] 176)/\r7.heap[pa]?=some (.cells ((psJ (zo C L) x T (zs.take q)).map Value.string).toArray 9)/\Hid (Fr (fun b=>b=ab\/b=pa) wc r7)) (fun i _=>zs.length-(intOf i).toNat)
        case atStart=>exact⟨0,by omega,rfl,by simpa [cntJ]using l0,by rw[List.take_zero,zKz];exact r5,Fr.refl _ _⟩
        case round=>
         obtain⟨q,hq,rfl,qb,qp,l3⟩:=hrel;clear l0 r5;by_cases y8:q<zs.length
         ·have D5:(q:Int)<zs.length:=by omega
          obtain⟨b',F2,s,e9,r8,G6⟩:=(HK.out _ l3.out).2.2.2.2.2.at y8;have n8:Hid (zs.take (q+1)=zs.take q++[s]):=by unfold Hid;rw[List.take_add_one,r8];rfl
          have n3:=List.mem_of_getElem? r8;obtain⟨G7,n2⟩:=k8.out s n3;obtain⟨⟨mp,Y,mr,Z,mt,me,ma,ml,mc⟩,l4⟩:=Option.isSome_iff_exists.1 ((h9.out.mem s).1 n3);have y9:=zh l4;have i4:=(k2.out x s _ l4).2.2;obtain rfl:=e9;clear r8 n3 l4;obtain⟨-,x1,x2⟩:=cl3 qb;by_cases r9:s<=T
          ·obtain⟨kk,rfl⟩:∃ kk:Nat,s=(kk:Int)+1:=⟨(s-1).toNat,by omega⟩
           have z7:kk<T:=by omega
           have F3:(kk:Int)<T:=by omega
           have D6:Hid (pathAt (zo C L) x kk=mp):=by unfold Hid pathAt;rw[y9.out]
           have l5:∀ W:World,PMap W w.heap.size (mapP (zo C L)) n->(Instr.lookup 276 (.map (some w.heap.size)) (.agg #[.string x,.int .i64 ((kk:Int)+1)]) false).run Tryz.prog W=.ok (.agg #[.string mp,.string Y,.int .i64 mr,.int .i64 Z,.int .i64 mt,.int .i64 me,.slice ma ml.length mc]) W:=fun W hW=>by
            rw[hW.look (zF0 W) Tryz.underlying276 f7 i4];unfold mapP;rw[y9.out];rfl
           have s1:=zh l5;have D7:=hfdM;clear l5
           go_upto_region 25 with(fail)
           refine zQ (Is pa) [(0,false),(1,false),(2,false),(3,false),(4,false),(5,false),(6,false),(7,false),(8,false),(9,false),(10,false),(11,true)] (by kernel_rfl) (by kernel_rfl) (fun w0 a6=>?_);have s2:=a6.heap qb id;have n9:=a6.heap qp id;have d1:∀ g:Gr (Is pa) w0,g.W.cell? ⟨ab,1,none⟩=some (.slice (some ⟨pa,0,none⟩) T T):=fun g=>g.fr.cell (zB s2 1) (fun h=>a4 h.symm)
           have d2:∀ g:Gr (Is pa) w0,(Instr.lookup 276 (.map (some w.heap.size)) (.agg #[.string x,.int .i64 ((kk:Int)+1)]) false).run Tryz.prog g.W=.ok (.agg #[.string mp,.string Y,.int .i64 mr,.int .i64 Z,.int .i64 mt,.int .i64 me,.slice ma ml.length mc]) g.W:=fun g=>s1.out _ (((HK.out _ l3.out).2.2.2.2.1.fr a6 id).fr g.fr (by have:=r6.out.2.1;have:=q1.lt;unfold Is;omega))
           apply zS rfl rfl rfl;intro K hK;go_big_quiet_op;go_big_quiet_on;apply zS rfl rfl rfl;intro K hK;go_big_quiet_op;go_big_quiet_on;apply zS rfl rfl rfl;intro K hK;go_big_quiet_op;go_big_quiet_on;apply zS rfl rfl rfl;intro K hK;go_big_quiet_op;go_big_quiet_on;apply zS rfl rfl rfl;intro K hK;go_big_quiet_op;go_big_quiet_on;apply zS rfl rfl rfl;intro K hK;go_big_quiet_op;go_big_quiet_on;apply zS rfl rfl rfl;intro K hK;go_big_quiet_op;go_big_quiet_on;apply zS rfl rfl rfl;intro K hK;go_big_quiet_op;go_big_quiet_on;apply zS rfl rfl rfl;intro K hK;refine zBV rfl _ _ 276 rfl (.map (some w.heap.size)) (.agg #[.string x,.int .i64 ((kk:Int)+1)]) (.agg #[.string mp,.string Y,.int .i64 mr,.int .i64 Z,.int .i64 mt,.int .i64 me,.slice ma ml.length mc]) rfl rfl (fun W hW=>by obtain⟨g,rfl⟩:=hW;exact d2 g) ?_
           go_frame
           go_big_quiet_on;apply zS rfl rfl rfl;intro K hK;go_big_quiet_op;go_big_quiet_on;apply zS rfl rfl rfl;intro K hK;go_big_quiet_op;go_big_quiet_on;clear d1 d2 x1 x2;have z8:((psJ (zo C L) x T (zs.take q)).map Value.string).toArray.size=T:=by simp[zEC]
           have x3:w0.frozen? ⟨pa,kk,none⟩=false:=zE n9 kk;obtain⟨ov,x4⟩:∃ ov,w0.cell? ⟨pa,kk,none⟩=some ov:=by
            rw[zB n9];exact⟨_,Array.getElem?_eq_getElem (by rw[z8];exact z7)⟩
           apply zk;exact rfl
           go_wp2_with fail
           refine OnlyN.mk ⟨Fr.setCell (S:=Is pa) (p:=⟨pa,kk,none⟩) (Fr.refl _ _) (fun _=>rfl) _,?_⟩;refine zY ?_;have s3:Fr (Is pa) w0 (w0.setCell ⟨pa,kk,none⟩ (.string mp)):=Fr.setCell (S:=Is pa) (p:=⟨pa,kk,none⟩) (Fr.refl _ _) (fun _=>rfl) _;have z9:=zF n9 kk (.string mp);have l6:=s3.heap s2 (fun h=>a4 h.symm);have D8:Hid (Fr (fun b=>b=ab\/b=pa) wc (w0.setCell ⟨pa,kk,none⟩ (.string mp))):=(l3.out.step a6 zn).step s3 (fun b _ h=>.inr h);have D9:Hid (cntJ T (zs.take q)<=1000):=by have h1:=zLT T (zs.take q);have h2:=k7;unfold Hid;rw[List.length_take]at h1;omega
           clear x3 x4 n9 s2 s3 a6 qp qb z8 D7;generalize w0.setCell ⟨pa,kk,none⟩ (.string mp)=W5 at *;obtain⟨cn,f0⟩:∃ cn:Nat,cn=cntJ T (zs.take q):=⟨_,rfl⟩
           have F4:cn<=1000:=by rw[f0];exact D9.out
           rw[<-f0]at l6;have E0:=zh f0;clear f0;have x3:W5.cell? ⟨ab,4,none⟩=some (.int .i64 (cn:Int)):=zB l6 4;have x4:W5.frozen? ⟨ab,4,none⟩=false:=zE l6 4;have q6:=zF l6 4 (.int .i64 ((cn:Int)+1));have s4:Fr (Is ab) W5 (W5.setCell ⟨ab,4,none⟩ (.int .i64 ((cn:Int)+1))):=Fr.setCell (S:=Is ab) (p:=⟨ab,4,none⟩) (Fr.refl _ _) (fun _=>rfl) _;have A0:=s4.heap z9 a4;have f2:Hid (Fr (fun b=>b=ab\/b=pa) wc (W5.setCell ⟨ab,4,none⟩ (.int .i64 ((cn:Int)+1)))):=D8.out.step s4 (fun b _ h=>.inl h);simp only[List.setIfInBounds_toArray,List.set_cons_zero,List.set_cons_succ]at q6;have A1:(W5.setCell ⟨ab,4,none⟩ (.int .i64 ((cn:Int)+1))).heap[ab]?=some (.cells #[.string x,.slice (some ⟨pa,0,none⟩) T T,.int .i64 (T:Int),.int .i64 oe,.int .i64 ((cntJ T (zs.take (q+1)):Nat):Int),.slice la ol.length lc] 176):=by
            rw[n8.out,zFF,if_pos r9,<-E0.out];exact q6
           have c9:(W5.setCell ⟨ab,4,none⟩ (.int .i64 ((cn:Int)+1))).heap[pa]?=some (.cells ((psJ (zo C L) x T (zs.take (q+1))).map Value.string).toArray 9):=by
            rw[n8.out,zKy _ _ _ _ _ z7,D6.out,List.map_set,A0];simp
           have H6:=zh (And.intro A1 c9);clear q6 A1 z9 A0 c9 l6 s4
           go_wp2_with fail
           go_roundw
           case rel=>exact⟨q+1,by omega,by go_num,H6.out.1,H6.out.2,f2⟩
           case measure=>simp[intOf];omega
          ·go_wp2_with fail
           go_roundw
           case rel=>exact⟨q+1,by omega,by go_num,by rw[n8.out,zFF,if_neg r9];exact qb,by rw[n8.out,zJQ _ _ _ _ _ r9];exact qp,l3⟩
           case measure=>simp[intOf];omega
         ·obtain rfl:q=zs.length:=by omega
          rw[List.take_length]at qb qp;obtain⟨cn,f0⟩:∃ cn:Nat,cn=cntJ T zs:=⟨_,rfl⟩
          rw[<-f0]at qb;have s5:Arr.mk x (psJ (zo C L) x T zs) (T:Int) oe (cn:Int) ol=buildA (zo C L) x:=by
           unfold buildA;rw[C5.out,f0,zJR h9.out,zIj h9.out (fun s hs=>(k8.out s hs).1)];rfl
          have G8:=zh s5;obtain⟨⟨a5,b4⟩,hf,e8,X,_,_⟩:=HK.out _ l3.out;have i5:=zD5 qp (by rw[zEC];unfold maxLen;omega);have l7:BlkT wr (some ⟨pa,0,none⟩) 9:=fun I e=>by cases e;exact⟨_,qp⟩
          rw[zEC]at i5;obtain⟨y0,y1,y2,y3,y4,y5⟩:=cl6 qb;obtain⟨A,hA⟩:∃ A:ArrM,A=⟨Arr.mk x (psJ (zo C L) x T zs) (T:Int) oe (cn:Int) ol,some ⟨pa,0,none⟩,T,la,lc⟩:=⟨_,rfl⟩
          have i6:A.vals=#[.string x,.slice (some ⟨pa,0,none⟩) T T,.int .i64 (T:Int),.int .i64 oe,.int .i64 (cn:Int),.slice la ol.length lc]:=by rw[hA];simp[ArrM.vals,zEC]
          have l8:A.toArr=buildA (zo C L) x:=by rw[hA];exact s5
          have p0:∀ u∈(#[.string x,.slice (some ⟨pa,0,none⟩) T T,.int .i64 (T:Int),.int .i64 oe,.int .i64 (cn:Int),.slice la ol.length lc]:Array Value).toList,u.oneCell'=true:=by rw[<-i6];exact zHY A
          have HS:=zh (And.intro b4 (And.intro e8 (And.intro X (And.intro i5 l7))));have HA:=zh (And.intro i6 (And.intro l8 hA));have A2:=zh p0;have A3:=zh a5;have E1:=zh hf;have F5:=hf.size;clear b4 e8 X i5 l7 i6 l8 hA p0 hf qb qp f0 s5
          go_wp2_with (at_builtin;refine wpList_append_own _ rfl _ _ 170 rfl w4.heap.size 176 i0 (.agg #[.string ByteArray.empty,.slice none 0 0,.int .i64 0,.int .i64 0,.int .i64 0,.slice none 0 0]) 6 88 Tryz.underlying170 B1 B2 B3 B4 rfl (by decide) _ _ _ rfl (a5.alloc _) ⟨wr.heap.size,0,none⟩ 1 1 (#[.string x,.slice (some ⟨pa,0,none⟩) T T,.int .i64 (T:Int),.int .i64 oe,.int .i64 (cn:Int),.slice la ol.length lc]:Array Value).toList rfl rfl (ze _ #[.string x,.slice (some ⟨pa,0,none⟩) T T,.int .i64 (T:Int),.int .i64 oe,.int .i64 (cn:Int),.slice la ol.length lc] _ rfl) A2.out (by unfold maxLen;omega) (by omega) (by first | omega | (simp;done) | (simp;omega)) ?_;intro v' w6 d8 g2 _;obtain⟨E2,E3,rfl⟩:=zJ d8)
          have g0:Fr No wr (wr.alloc (.cells #[.string x,.slice (some ⟨pa,0,none⟩) T T,.int .i64 (T:Int),.int .i64 oe,.int .i64 (cn:Int),.slice la ol.length lc] 176)):=(Fr.refl _ _).alloc _;have l9:=A3.out.alloc (.cells #[.string x,.slice (some ⟨pa,0,none⟩) T T,.int .i64 (T:Int),.int .i64 oe,.int .i64 (cn:Int),.slice la ol.length lc] 176);have s6:Fr (fun b=>(Value.slice av O.length cv).ownBlock=some b) (wr.alloc (.cells #[.string x,.slice (some ⟨pa,0,none⟩) T T,.int .i64 (T:Int),.int .i64 oe,.int .i64 (cn:Int),.slice la ol.length lc] 176)) w6:=Fr.of_grown g2;obtain⟨i6,l8,hA⟩:=HA.out;obtain⟨b4,e8,X,i5,l7⟩:=HS.out;have s7:Strs wr A.pa A.pc A.ps/\Strs wr A.la A.lc A.l:=by rw[hA];exact⟨i5,e8⟩
          have s8:BlkT wr A.pa 9/\BlkT wr A.la 9:=by rw[hA];exact⟨l7,X⟩
          have b0:(∀ I,A.pa=some I->w4.heap.size<=I.block)/\∀ I,A.la=some I->w4.heap.size<=I.block:=by
           rw[hA];exact⟨fun I e=>by cases e;exact r6.out.2.1,r6.out.1⟩
          have p1:AFresh w6 w4.heap.size (O++[A]):=AFresh.own (AFresh.snoc (b4.fr g0 (fun _ _ _=>id)) ⟨s7.1.no g0 (fun _=>id),s7.2.no g0 (fun _=>id)⟩ ⟨s8.1.fr g0 (fun _ _=>id),s8.2.fr g0 (fun _ _=>id)⟩ b0) l9 s6;have A4:(O++[A]).map ArrM.toArr=(a9.take (j+1)).map (buildA (zo C L)):=by
           rw[C3.out,List.map_append,List.map_append,HO.out];simp[l8]
          have i7:Fr (From w4.heap.size) w4 w6:=(E1.out.step g0 zn).step s6 (fun b _ h=>zP l9 h);rw[<-i6,<-zFy]at d8;have HF:=zh (And.intro d8 (And.intro p1 (And.intro A4 i7)));clear d8 p1 A4 i7 g2 s6 l9 g0 y0 y1 y2 y3 y4 y5 a5 i6 l8 hA b4 e8 X i5 l7 s7 s8 b0
          go_roundw
          case rel=>exact⟨j+1,O++[A],E2,E3,by omega,by rw[List.length_append,C2.out];rfl,by rw[List.length_append];rfl,by go_num,by rw[List.length_append];exact HF.out.1,HF.out.2.1,zh HF.out.2.2.1,HF.out.2.2.2⟩
          case measure=>simp[intOf];omega
      ·obtain rfl:j=a9.length:=by omega
       obtain⟨a',c',hv,hR,g3⟩:=Arrs.of_own a5 (fun m hm=>(b4 m hm).1);cases hv;have ho:=HO.out;rw[List.take_length]at ho;have m4:=zAT a5 h8.out;have H:=zh (And.intro hR (And.intro g3 (And.intro b4 (And.intro (And.intro ho m4) ((n4.out.trans hf (fun b hb h=>h) (fun b hb h=>by unfold From at h ⊢;have:=h8.out;omega)).mono (T:=No) (fun b hb h=>by unfold From at h;omega))))));clear a5 b4 HO hf hR g3 ho m4
       go_wp2_with fail
       go_ret;exact⟨⟨_,_,O,a9,rfl,H.out.1,fun I e=>by have:=H.out.2.1 I e;have:=h8.out;omega,fun m hm=>⟨(H.out.2.2.1 m hm).1,(H.out.2.2.1 m hm).2.1,fun I e=>by have:=(H.out.2.2.1 m hm).2.2.1 I e;have:=h8.out;omega,fun I e=>by have:=(H.out.2.2.1 m hm).2.2.2 I e;have:=h8.out;omega⟩,o6.out,H.out.2.2.2.1.1,by have:=k6.out;omega,H.out.2.2.2.1.2⟩,H.out.2.2.2.2⟩
    ·intro x s c kl y ps w3 m5 m6 i9 hv c8 p2 g6 t0 p3 E4;obtain⟨x',s',e,f7,i4⟩:=zGT m6;obtain⟨rfl,rfl⟩:x=x'/\s=s':=by simpa using e
     obtain rfl:plL (x,s)=kl:=Option.some.inj ((keyP f7 i4).symm.trans m6);have HD:Hid (has D (plL (x,s))=true):=zIW c8;have j1:=zh i9;have A5:Hid (W1.heap.size≠gm):=by have:=h0.out;unfold Hid;omega
     have E5:Hid (W1.heap.size=gm+1):=h0.out;have G9:=zh p3;have F6:W1.heap.size+1<=w3.heap.size:=by omega
     clear p3;have A6:=hG.grown t0 (fun e=>by have:=Option.some.inj e;exact A5.out this.symm) (fun j e=>by have:=Option.some.inj e;omega);have d3:Hid (Fr (From w.heap.size) w w3):=Hf.out.step (Fr.of_grown_some t0) (fun b hb e=>by unfold Is at e;unfold From;have:=p7.out;have:=h0.out;omega);clear i9 c8 hv e m6 t0 Hf hG;have A7:=p2.alloc (.cells #[.string x,.int .i64 s] 278);have o0:Fr No w3 (w3.alloc (.cells #[.string x,.int .i64 s] 278)):=(Fr.refl _ _).alloc _;have k5:=A6.grown (o0.grown (row:=none) (fun _ h=>h.elim)) (by simp) (fun j e=>by cases e);have E6:Hid ((w3.alloc (.cells #[.string x,.int .i64 s] 278)).heap.size=w3.heap.size+1):=by unfold Hid;simp
     have q4:=zD w3 (.cells #[.string x,.int .i64 s] 278)
     go_upto_region 14 with(fail)
     generalize w3.alloc (.cells #[.string x,.int .i64 s] 278)=W4 at *;have C1:=o0.size;have H0:=zC q4;have n4:Hid (Fr (From w.heap.size) w W4):=d3.out.step o0 zn;clear o0 A6 p2 d3 E4;refine zb (fun b=>b=gm\/(W1.heap.size+1<=b/\b<w3.heap.size)) (.q 0 (.q 1 (.q 2 (.q 3 (.q 4 (.q 5 (.q 7 (.q 8 (.m2 6 (.m1 9 (.m1 10 (.m1 11 .fin))) 9 (.m1 6 (.m1 10 (.m1 11 .fin)))))))))))) _ (by kernel_rfl) (by kernel_rfl) (fun w0 a6=>?_) zj;have g4:=a6.grown (row:=none) (fun _ h=>h.elim);have E7:=k5.grown g4 (by simp) (fun j e=>by cases e);have A8:=A7.kept g4 (by simp) (by simp);have q0:=a6.heap q4 id;have d9:=a6.size;have E8:Hid (Fr (From w.heap.size) w w0):=n4.out.step a6 zn;have c0:∀ g:Gr (fun b=>b=gm\/(W1.heap.size+1<=b/\b<w3.heap.size)) w0,g.W.cell? ⟨w3.heap.size,0,none⟩=some (.string x):=fun g=>g.fr.cell (zB q0 0) (fun h=>by have:=h0.out;rcases h with h | h<;>dsimp only at h<;>omega)
     have c1:∀ g:Gr (fun b=>b=gm\/(W1.heap.size+1<=b/\b<w3.heap.size)) w0,g.W.cell? ⟨w3.heap.size,1,none⟩=some (.int .i64 s):=fun g=>g.fr.cell (zB q0 1) (fun h=>by have:=h0.out;rcases h with h | h<;>dsimp only at h<;>omega)
     obtain⟨v,b5,g5,k7,m7⟩:=k5.look (by unfold maxLen;omega) f7;have e5:=g5.kept g4 (row:=none) (by cases v.ownBlock<;>simp);have A9:gm<w0.heap.size:=E7.lt;have m8:w0.heap[gm]?=W4.heap[gm]?:=a6.block gm k5.lt id;have n0:Hid (∀ b,v.ownBlock=some b->W1.heap.size+1<=b/\b<w3.heap.size):=fun b e=>by
      have h1:=zP g5.1 e;have h2:=zV g5.1 e;have h3:=BlkT.ne g5.1 (a:=some ⟨w3.heap.size,0,none⟩) (T:=278) (fun I e=>by cases e;exact⟨_,q4⟩) (by decide) _ rfl;have h4:=E6.out;have h5:b≠w3.heap.size:=fun e'=>h3 (by rw[e,e'])
      unfold From at h1;omega
     have t1:=zh m7;have HA:Hid (∀ (av:Option Addr) (wb:World) (vb:Value),w0.grownBy wb v.ownBlock->wb.ownsRow (W1.heap.size+1) 3 1 vb ((f (kb x)).length+1) ((f (kb x)).map (Value.int .i64)++[.int .i64 s])->(vb.ownBlock=v.ownBlock\/vb.ownBlock=some (w0.heap.size+1))->
       ∃ w6,(Instr.mapUpdate 281 (.map (some gm)) (.string x) vb).run Tryz.prog wb=.ok () w6/\GMap w6 (W1.heap.size+1) gm (fun z=>if z=kb x then f (kb x)++[s]else f z) (N+1)/\w6.ranges Tryz.prog 278 heldV w.heap.size W1.heap.size n D (fun z=>e1 z&&!z.sameKey (plL (x,s))) m5/\Fr (fun b=>b=gm\/(W1.heap.size+1<=b/\b<w3.heap.size)) wb w6/\Hid (Fr (From w.heap.size) w w6)/\W1.heap.size+1<=w6.heap.size):=by
      intro av wb vb hg a5 c8;obtain⟨w6,r1,r2,r3⟩:=t1.out s i4 wb vb (g4.but _ |>.andThen hg (fun j h=>.inr h)) (e5.appended a5 i4) (c8.imp id (fun h=>⟨_,h,by omega⟩));have H1:=E5.out;have H2:=p7.out;have H3:=hg.size;have o1:=r3.size;refine⟨w6,r1,r2,(A8.kept hg ?_ ?_).kept r3 ?_ ?_,(Fr.of_grown_some r3).mono (fun b _ e=>.inl e),(E8.out.step (Fr.of_grown hg) ?_).step (Fr.of_grown_some r3) ?_,by omega⟩
      ·intro e;have:=n0.out _ e.symm;omega
      ·intro e;have:=n0.out _ e.symm;omega
      ·intro e;have:=Option.some.inj e;omega
      ·intro e;have:=Option.some.inj e;omega
      ·intro b hb e;have:=n0.out _ e;unfold From;omega
      ·intro b hb e;unfold Is at e;unfold From;omega
     have B0:Hid (Grp D (fun z=>e1 z&&!z.sameKey (plL (x,s))) (fun z=>if z=kb x then f (kb x)++[s]else f z)):=HG.out.step f7 i4 j1.out HD.out;clear m7 j1 HG
     repeat (apply zM rfl rfl rfl;intro K hK;go_big_quiet_op;go_big_quiet_on)
     clear c0 c1;refine zv rfl rfl ?_ ?_
     ·go_wp2_with (at_lookup;refine zAc rfl _ _ 281 rfl (.map (some gm)) (.string x) v rfl rfl (b5 _ m8) ?_)
      refine zq ?_;refine zH rfl ?_
      go_wp2_with fail
      refine zp ?_;refine zH rfl ?_
      go_wp2_with (at_builtin;refine wpList_append_own_at _ rfl _ _ 22 rfl (W1.heap.size+1) 3 j0 (.int .i64 0) 1 8 Tryz.underlying22 u6 u7 u8 u9 rfl (by decide) v _ _ rfl (e5.1.alloc _) ⟨w0.heap.size,0,none⟩ 1 1 [.int .i64 s] rfl rfl (cell_one_new _ _ _) (ints_oneCell _ [s]) (by unfold maxLen;omega) (by omega) (by simp;omega) ?_;intro vb wb g1 c7 _ c8)
      have t2:=(World.grownBy_alloc w0 (.cells #[.int .i64 s] 3) v.ownBlock).andThen c7 (fun j h=>.inr h);obtain⟨w6,t3,t4,f1,i7,t5,o1⟩:=HA.out none wb vb t2 g1 (by simpa using c8);refine OnlyN.mk ⟨(Fr.of_grown c7).mono (fun b _ e=>.inr (n0.out b e)),?_⟩;refine zH rfl ?_
      go_wp2_with (at_mapUpdate;refine zDa rfl _ _ _ 281 rfl (.map (some gm)) (.string x) vb rfl rfl rfl t3 ?_)
      refine zf i7 ?_;refine zX ?_
      go_wp2_with fail
      go_roundw
      case rel=>exact⟨_,m5,N+1,_,f1,by omega,t4,B0,t5,o1⟩
      case measure=>rw[f1.left_eq,k3.left_eq];exact g6
     ·go_wp2_with fail
      refine zp ?_;refine zH rfl ?_
      go_wp2_with (at_lookup;refine zAc rfl _ _ 281 rfl (.map (some gm)) (.string x) v rfl rfl (b5 _ ((((Fr.refl No w0).alloc _).block gm A9 id).trans m8)) ?_)
      refine zq ?_;refine zH rfl ?_
      go_wp2_with (at_builtin;refine wpList_append_own_at _ rfl _ _ 22 rfl (W1.heap.size+1) 3 j0 (.int .i64 0) 1 8 Tryz.underlying22 u6 u7 u8 u9 rfl (by decide) v _ _ rfl (e5.1.alloc _) ⟨w0.heap.size,0,none⟩ 1 1 [.int .i64 s] rfl rfl (cell_one_new _ _ _) (ints_oneCell _ [s]) (by unfold maxLen;omega) (by omega) (by simp;omega) ?_;intro vb wb g1 c7 _ c8)
      have t2:=(World.grownBy_alloc w0 (.cells #[.int .i64 s] 3) v.ownBlock).andThen c7 (fun j h=>.inr h);obtain⟨w6,t3,t4,f1,i7,t5,o1⟩:=HA.out none wb vb t2 g1 (by simpa using c8);refine OnlyN.mk ⟨(Fr.of_grown c7).mono (fun b _ e=>.inr (n0.out b e)),?_⟩;refine zH rfl ?_
      go_wp2_with (at_mapUpdate;refine zDa rfl _ _ _ 281 rfl (.map (some gm)) (.string x) vb rfl rfl rfl t3 ?_)
      refine zf i7 ?_;refine zX ?_
      go_wp2_with fail
      go_roundw
      case rel=>exact⟨_,m5,N+1,_,f1,by omega,t4,B0,t5,o1⟩
      case measure=>rw[f1.left_eq,k3.left_eq];exact g6
end Go.Proofs.YtinfjnndbfahhaaGreatDoor
