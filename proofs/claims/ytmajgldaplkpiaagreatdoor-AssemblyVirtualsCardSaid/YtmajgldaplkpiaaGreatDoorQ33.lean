import Derived.Test.YtmajgldaplkpiaaGreatDoorQ32
namespace Go.Proofs.YtmajgldaplkpiaaGreatDoor
open Go.RowKit Go.Maps
set_option linter.unusedVariables false
set_option maxRecDepth 100000
set_option maxHeartbeats 8000000
def soundA (m:Mem):Bool:=soundB m&&decide (m.l.length=1)
theorem zEO {m:Mem}(h:soundA m=true):soundB m=true:=by
 unfold soundA at h;rw[Bool.and_eq_true]at h;exact h.1
theorem zK7 (p i:ByteArray)(r s t e:Int)(a:Option Addr)(l:List ByteArray)(c:Nat)(w:World):
  Calls Tryz.prog 212 #[.agg #[.string p,.string i,.int .i64 r,.int .i64 s,.int .i64 t,.int .i64 e,.slice a l.length c]] w fun en w'=>en=.returned (.bool (soundA ⟨p,i,r,s,t,e,a,l,c⟩))/\Fr No w w':=by
 have hx:Fr No w (w.alloc (.cells #[.string p,.string i,.int .i64 r,.int .i64 s,.int .i64 t,.int .i64 e,.slice a l.length c] 264)):=(Fr.refl _ _).alloc _;have hs:=zHn p i r s t e (.slice a l.length c) (w.alloc (.cells #[.string p,.string i,.int .i64 r,.int .i64 s,.int .i64 t,.int .i64 e,.slice a l.length c] 264));obtain⟨ra,hra⟩:∃ ra,ra=soundA ⟨p,i,r,s,t,e,a,l,c⟩:=⟨_,rfl⟩
 rw[<-hra];have Hra:Hid (ra=((!p.toList.isEmpty&&(decide (1<=s)&&decide (s<=16))&&(decide (1<=t)&&decide (t<=16)))&&decide (l.length=1))):=hra;clear hra;have q1:=zD w (.cells #[.string p,.string i,.int .i64 r,.int .i64 s,.int .i64 t,.int .i64 e,.slice a l.length c] 264);have Hx:=Lib.hid hx;clear hx
 go_enter Tryz.func212,Tryz.ntmps212
 go_wp2_with fail
 refine hs.mono ?_;rintro en w1 ⟨rfl,hf1⟩;have H:=Lib.hid (Hx.out.step hf1 (fun _ _ h=>h));have q6:w1.cell? ⟨w.heap.size,6,none⟩=some (.slice a l.length c):=hf1.cell (zB q1 6) id;clear hf1 hs q1;obtain⟨b,hb⟩:∃ b,b=(!p.toList.isEmpty&&(decide (1<=s)&&decide (s<=16))&&(decide (1<=t)&&decide (t<=16))):=⟨_,rfl⟩
 rw[<-hb];have Hb:Hid (ra=(b&&decide (l.length=1))):=by unfold Hid;rw[Hra.out,hb]
 clear hb Hra;cases b with
 | false=>
  have Hr:Hid (ra=false):=by unfold Hid;rw[Hb.out];rfl
  go_wp2_with fail
  go_ret;exact⟨by rw[Hr.out];rfl,H.out⟩
 | true=>
  by_cases h1:l.length=1
  ·have hq:((l.length:Int)==1)=true:=by simp[h1]
   have Hr:Hid (ra=true):=by unfold Hid;rw[Hb.out];simp[h1]
   have H1:=Lib.hid h1;clear h1
   go_wp2_with fail
   go_ret;exact⟨by rw[Hr.out];rfl,H.out⟩
  ·have hq:((l.length:Int)==1)=false:=by simp;omega
   have Hr:Hid (ra=false):=by unfold Hid;rw[Hb.out];simp[h1]
   have H1:=Lib.hid h1;clear h1
   go_wp2_with fail
   go_ret;exact⟨by rw[Hr.out];rfl,H.out⟩
def hasS (l:List ByteArray)(s:ByteArray):Bool:=l.any fun x=>x.toList==s.toList
def IdxS (l:List ByteArray)(s:ByteArray)(e:Ending):Prop:=∃ i:Int,e=.returned (.int .i64 i)/\decide (0<=i)=hasS l s
theorem zKB {l:List ByteArray}{s:ByteArray}{k:Nat}{x:ByteArray}(h:l[k]?=some x)(h2:(x.toList==s.toList)=true):hasS l s=true:=by
 unfold hasS;rw[List.any_eq_true];exact⟨x,List.mem_of_getElem? h,h2⟩
theorem zKA {l:List ByteArray}{s:ByteArray}(h:∀ x∈l,(x.toList==s.toList)=false):hasS l s=false:=by
 unfold hasS;rw[List.any_eq_false];intro x hx;simp[h x hx]
theorem zKV (a:Option Addr)(cap:Nat)(L:List Mem)(m0:Int)(w:World)(hl:Mems w a cap L)(hb:MemSmall2 L)(hm0:w.cell? ⟨0,0,none⟩=some (.int .i64 m0))(hw0:0<w.heap.size):
  Calls Tryz.prog 150 #[.slice a L.length cap] w fun e w'=>ArrRes w (zk soundA L) e w'/\Fr No w w':=by
 have h:=zFt 212 soundA (enters_of Tryz.func212 (by kernel_rfl) rfl) zK7 (fun m h=>zEO h) a cap L m0 w hl hb hm0 hw0
 go_enter Tryz.func150,Tryz.ntmps150
 go_wp2_with fail
 refine h.mono ?_;rintro e w1 ⟨⟨a',c',O,ids,rfl,r⟩,hf⟩;have H:=Lib.hid (And.intro r hf);clear r hf h
 go_wp2_with fail
 go_ret;exact⟨⟨a',c',O,ids,rfl,H.out.1⟩,H.out.2⟩
theorem zJd (a:Option Addr)(cap:Nat)(L:List Mem)(m0:Int)(w:World)(hl:Mems w a cap L)(hb:MemSmall2 L)(hm0:w.cell? ⟨0,0,none⟩=some (.int .i64 m0))(hw0:0<w.heap.size):
  Calls Tryz.prog 159 #[.slice a L.length cap] w fun e w'=>ArrRes w (zk soundB L) e w'/\Fr No w w':=by
 have h:=zFt 218 soundB (enters_of Tryz.func218 (by kernel_rfl) rfl) (fun p i r s t e a l c w=>zKc p i r s t e _ w) (fun m h=>h) a cap L m0 w hl hb hm0 hw0
 go_enter Tryz.func159,Tryz.ntmps159
 go_wp2_with fail
 refine h.mono ?_;rintro e w1 ⟨⟨a',c',O,ids,rfl,r⟩,hf⟩;have H:=Lib.hid (And.intro r hf);clear r hf h
 go_wp2_with fail
 go_ret;exact⟨⟨a',c',O,ids,rfl,H.out.1⟩,H.out.2⟩
def openT : ByteArray:=⟨#[111,112,101,110,45]⟩
def zJN (L:List Mem)(x:ByteArray):ByteArray:=((best L (kb x)).getD Mem.zero).l.headD ⟨#[]⟩
def virOf (L:List Mem)(r:Int)(x:ByteArray):Vir:=⟨⟨#[]⟩,openT++x,zJN L x,r⟩
def opened (ids K:List ByteArray):List ByteArray:=ids.filter (hasS K)
def mapM (g:List UInt8->Option Mem):List UInt8->Option Value:=fun x=>(g x).map Mem.v
theorem zFl (g:List UInt8->Option Mem)(x:List UInt8)(m:Mem):updS (mapM g) x m.v=mapM (fun y=>if y=x then some m else g y):=by
 funext y
 unfold updS mapM;by_cases h:y=x<;>simp[h]
def zBY : Value:=.agg #[.string ⟨#[]⟩,.string ⟨#[]⟩,.int .i64 0,.int .i64 0,.int .i64 0,.int .i64 0,.slice none 0 0]
theorem zeroM (w:World):(zeroValue 264).run Tryz.prog w=.ok zBY w:=by kernel_rfl
structure MemSmall (L:List Mem):Prop where
 len:L.length<=1000
 p:∀ m∈L,m.p.size<=1000000
 i:∀ m∈L,m.i.size<=1000000
 l:∀ m∈L,m.l.length<=1000000
def OwnRes (w:World)(L:List Mem)(e:Ending)(w':World):Prop:=
 ∃ (a':Option Addr) (c':Nat) (O:List Mem) (ids:List ByteArray),e=.returned (.slice a' O.length c')/\Mems w' a' c' O/\(∀ ad,a'=some ad->w.heap.size<=ad.block)/\MFresh w' w.heap.size O/\IsIds L ids/\O.map Mem.k=own1 L ids/\ids.length<=L.length
theorem zI0 (a:Option Addr)(cap:Nat)(L:List Mem)(m0:Int)(w:World)(hl:Mems w a cap L)(hb:MemSmall L)(hm0:w.cell? ⟨0,0,none⟩=some (.int .i64 m0))(hw0:0<w.heap.size):
  Calls Tryz.prog 217 #[.slice a L.length cap] w fun e w'=>OwnRes w L e w'/\Fr No w w':=by
 obtain⟨i0,hi0,hz0,hz1,hz2⟩:=info_parts infoM;have hlm:=hb.len;have hmm:=@run_makeMap Tryz.prog;have hx:Fr No w (w.alloc (.map #[] 0)):=(Fr.refl _ _).alloc _;have hI0:=VMap.made w;have hs0:w.heap.size<(w.alloc (.map #[] 0)).heap.size:=by simp
 have hlk:∀ W:World,Fr (From w.heap.size) w W->Mems W a cap L:=fun W hf=>hl.keep hf (fun b hb h=>by unfold From at h;omega)
 have Hlk:=Lib.hid hlk;have Hb:=Lib.hid hb;clear hlk hb hl
 go_enter Tryz.func217,Tryz.ntmps217
 go_wp2_with fail
 clear hmm;generalize w.alloc (.map #[] 0)=W0 at *
 go_loopw [16] (fun i wr=>∃ k:Nat,k<=L.length/\i=.int .i64 (k:Int)/\VMap wr w.heap.size (mapM (best (L.take k))) k/\Fr (From w.heap.size) w wr/\w.heap.size<wr.heap.size) (fun i _=>L.length-(intOf i).toNat)
 case atStart=>exact⟨0,by omega,rfl,by exact hI0,hx.mono (fun _ _ h=>h.elim),hs0⟩
 case round=>
  obtain⟨k,hk,rfl,hI,hfr,hsr⟩:=hrel;by_cases hlt:k<L.length
  ·have hlt':(k:Int)<L.length:=by omega
   obtain⟨b,off,m,rfl,hxk,hst,hat,hbl⟩:=(Hlk.out _ hfr).elem hlt;have hmem:=List.mem_of_getElem? hxk;have Htk:Hid (L.take (k+1)=L.take k++[m]):=by unfold Hid;rw[List.take_add_one,hxk];rfl
   have hpm:=Hb.out.p m hmem;have him:m.i.size<=maxLen:=by have:=Hb.out.i m hmem;unfold maxLen;omega
   have hm1:wr.cell? ⟨0,0,none⟩=some (.int .i64 m0):=hfr.cell hm0 (by show ¬ From w.heap.size 0;unfold From;omega);obtain⟨mp,mi,mr,ms,mt,me,ma,ml,mc⟩:=m;obtain⟨c0,c1,c2,c3,c4,c5,c6⟩:=hat;simp only at c0 c1 c2 c3 c4 c5 c6 hpm him;clear hxk hst hmem;by_cases hl1:ml.length=1
   ·have hne:((ml.length:Int) != 1)=false:=by simp[hl1]
    have Hl1:=Lib.hid hl1;clear hl1;have hx1:Fr No wr (wr.alloc (.cells #[.string mp,.string mi,.int .i64 mr,.int .i64 ms,.int .i64 mt,.int .i64 me,.slice ma ml.length mc] 264)):=(Fr.refl _ _).alloc _;have q1:=zD wr (.cells #[.string mp,.string mi,.int .i64 mr,.int .i64 ms,.int .i64 mt,.int .i64 me,.slice ma ml.length mc] 264);have hIx:=hI.fr hx1 id;clear hI;rcases hg:best (L.take k) (kb mi)with _ | o
    ·have hv:(mapM (best (L.take k)) (kb mi)).getD zBY=.agg #[.string ⟨#[]⟩,.string ⟨#[]⟩,.int .i64 0,.int .i64 0,.int .i64 0,.int .i64 0,.slice none 0 0]:=by unfold mapM;rw[hg];rfl
     have hbo:(mapM (best (L.take k)) (kb mi)).isSome=false:=by unfold mapM;rw[hg];rfl
     have Hg:Hid (∀ o,best (L.take k) (kb mi)=some o->ahead ⟨mp,mi,mr,ms,mt,me,ma,ml,mc⟩ o=true):=fun o ho=>by rw[hg]at ho;cases ho
     clear hg
     go_upto_region 8 with(at_lookup;refine zBM rfl _ _ 316 264 zBY (zeroM _) rfl Tryz.underlying316 w.heap.size _ k mi him rfl hIx rfl (.agg #[.string ⟨#[]⟩,.string ⟨#[]⟩,.int .i64 0,.int .i64 0,.int .i64 0,.int .i64 0,.slice none 0 0]) hv false hbo ?_)
     have hx2:Fr No wr ((wr.alloc (.cells #[.string mp,.string mi,.int .i64 mr,.int .i64 ms,.int .i64 mt,.int .i64 me,.slice ma ml.length mc] 264)).alloc (.cells #[.string ⟨#[]⟩,.string ⟨#[]⟩,.int .i64 0,.int .i64 0,.int .i64 0,.int .i64 0,.slice none 0 0] 264)):=hx1.alloc _;have q2:=zL wr (.cells #[.string mp,.string mi,.int .i64 mr,.int .i64 ms,.int .i64 mt,.int .i64 me,.slice ma ml.length mc] 264) (.cells #[.string ⟨#[]⟩,.string ⟨#[]⟩,.int .i64 0,.int .i64 0,.int .i64 0,.int .i64 0,.slice none 0 0] 264);have hI2:=hIx.fr ((Fr.refl No _).alloc (.cells #[.string ⟨#[]⟩,.string ⟨#[]⟩,.int .i64 0,.int .i64 0,.int .i64 0,.int .i64 0,.slice none 0 0] 264)) id;clear hIx hv hbo c0 c1 c2 c3 c4 c5 c6 q1 hx1;generalize (wr.alloc (.cells #[.string mp,.string mi,.int .i64 mr,.int .i64 ms,.int .i64 mt,.int .i64 me,.slice ma ml.length mc] 264)).alloc (.cells #[.string ⟨#[]⟩,.string ⟨#[]⟩,.int .i64 0,.int .i64 0,.int .i64 0,.int .i64 0,.slice none 0 0] 264)=W2 at *;obtain⟨y0,y1,y2,y3,y4,y5,y6⟩:=cl7 q2;have Hf2:=Lib.hid (hfr.step hx2 (fun _ _ h=>h.elim));have hs2:=hx2.size;clear q2 hx2 hfr
     go_wp2_with (at_mapUpdate;refine zBZ rfl _ _ _ 316 264 rfl Tryz.underlying316 w.heap.size _ k (by unfold maxLen;omega) mi him (.agg #[.string mp,.string mi,.int .i64 mr,.int .i64 ms,.int .i64 mt,.int .i64 me,.slice ma ml.length mc]) rfl hI2 rfl rfl ?_;intro w4 hI4 hg4)
     have hI5:VMap w4 w.heap.size (mapM (best (L.take (k+1)))) (k+1):=by rw[Htk.out,zBJ,zDh Hl1.out Hg.out,<-zFl];exact hI4
     have H:=Lib.hid (And.intro hI5 (And.intro (Hf2.out.step hg4 (fun b hb e=>by unfold Is at e;unfold From;omega)) hg4.size));clear hI4 hI5 hg4
     go_roundw
     case rel=>exact⟨k+1,by omega,by go_num,H.out.1,H.out.2.1,by have:=H.out.2.2;omega⟩
     case measure=>simp[intOf];omega
    ·obtain⟨op,oi,or,os,ot,oe,oa,ol,oc⟩:=o;have hv:(mapM (best (L.take k)) (kb mi)).getD zBY=.agg #[.string op,.string oi,.int .i64 or,.int .i64 os,.int .i64 ot,.int .i64 oe,.slice oa ol.length oc]:=by unfold mapM;rw[hg];rfl
     have hbo:(mapM (best (L.take k)) (kb mi)).isSome=true:=by unfold mapM;rw[hg];rfl
     have hop:=Hb.out.p _ (List.mem_of_mem_take (zCW _ _ _ hg).1);simp only at hop;have Hg:=Lib.hid hg;clear hg
     go_upto_region 8 with(at_lookup;refine zBM rfl _ _ 316 264 zBY (zeroM _) rfl Tryz.underlying316 w.heap.size _ k mi him rfl hIx rfl (.agg #[.string op,.string oi,.int .i64 or,.int .i64 os,.int .i64 ot,.int .i64 oe,.slice oa ol.length oc]) hv true hbo ?_)
     have hx2:Fr No wr ((wr.alloc (.cells #[.string mp,.string mi,.int .i64 mr,.int .i64 ms,.int .i64 mt,.int .i64 me,.slice ma ml.length mc] 264)).alloc (.cells #[.string op,.string oi,.int .i64 or,.int .i64 os,.int .i64 ot,.int .i64 oe,.slice oa ol.length oc] 264)):=hx1.alloc _;have q2:=zL wr (.cells #[.string mp,.string mi,.int .i64 mr,.int .i64 ms,.int .i64 mt,.int .i64 me,.slice ma ml.length mc] 264) (.cells #[.string op,.string oi,.int .i64 or,.int .i64 os,.int .i64 ot,.int .i64 oe,.slice oa ol.length oc] 264);have q3:=zP wr (.cells #[.string mp,.string mi,.int .i64 mr,.int .i64 ms,.int .i64 mt,.int .i64 me,.slice ma ml.length mc] 264) (.cells #[.string op,.string oi,.int .i64 or,.int .i64 os,.int .i64 ot,.int .i64 oe,.slice oa ol.length oc] 264);have hI2:=hIx.fr ((Fr.refl No _).alloc (.cells #[.string op,.string oi,.int .i64 or,.int .i64 os,.int .i64 ot,.int .i64 oe,.slice oa ol.length oc] 264)) id;clear hIx hv hbo c0 c1 c2 c3 c4 c5 c6 q1 hx1;generalize (wr.alloc (.cells #[.string mp,.string mi,.int .i64 mr,.int .i64 ms,.int .i64 mt,.int .i64 me,.slice ma ml.length mc] 264)).alloc (.cells #[.string op,.string oi,.int .i64 or,.int .i64 os,.int .i64 ot,.int .i64 oe,.slice oa ol.length oc] 264)=W2 at *;obtain⟨z0,z1,z2,z3,z4,z5,z6⟩:=cl7 q3;have hm2:=hx2.cell hm1 id;have Hf2:=Lib.hid (hfr.step hx2 (fun _ _ h=>h.elim));have hs2:=hx2.size;clear q3 hx2 hfr hm1
     go_wp2_with fail
     refine(zJ5 mp mi op oi mr ms mt me or os ot oe _ _ m0 _ hpm hop hm2).mono ?_;rintro en w3 ⟨rfl,hf3⟩;have q4:=hf3.heap q2 id;have hI3:=hI2.fr hf3 id;have Hf3:=Lib.hid (Hf2.out.step hf3 (fun _ _ h=>h.elim));have hs3:=hf3.size;clear z0 z1 z2 z3 z4 z5 z6 hf3 q2 hm2 hI2;rcases ha:aheadB mp mr op or with _ | _
     ·have hI5:VMap w3 w.heap.size (mapM (best (L.take (k+1)))) k:=by rw[Htk.out,zBJ,zGp (m:=⟨mp,mi,mr,ms,mt,me,ma,ml,mc⟩) (o:=⟨op,oi,or,os,ot,oe,oa,ol,oc⟩) Hg.out ha];exact hI3
      have H:=Lib.hid (And.intro hI5 Hf3.out);clear hI5 hI3 q4
      go_wp2_with fail
      go_roundw
      case rel=>exact⟨k+1,by omega,by go_num,H.out.1.mono (by omega),H.out.2,by omega⟩
      case measure=>simp[intOf];omega
     ·have Hah:Hid (∀ o,best (L.take k) (kb mi)=some o->ahead ⟨mp,mi,mr,ms,mt,me,ma,ml,mc⟩ o=true):=fun o ho=>by rw[Hg.out]at ho;cases ho;exact ha
      obtain⟨y0,y1,y2,y3,y4,y5,y6⟩:=cl7 q4;clear q4 ha
      go_wp2_with (at_mapUpdate;refine zBZ rfl _ _ _ 316 264 rfl Tryz.underlying316 w.heap.size _ k (by unfold maxLen;omega) mi him (.agg #[.string mp,.string mi,.int .i64 mr,.int .i64 ms,.int .i64 mt,.int .i64 me,.slice ma ml.length mc]) rfl hI3 rfl rfl ?_;intro w4 hI4 hg4)
      have hI5:VMap w4 w.heap.size (mapM (best (L.take (k+1)))) (k+1):=by rw[Htk.out,zBJ,zDh Hl1.out Hah.out,<-zFl];exact hI4
      have H:=Lib.hid (And.intro hI5 (And.intro (Hf3.out.step hg4 (fun b hb e=>by unfold Is at e;unfold From;omega)) hg4.size));clear hI4 hI5 hg4
      go_roundw
      case rel=>exact⟨k+1,by omega,by go_num,H.out.1,H.out.2.1,by have:=H.out.2.2;omega⟩
      case measure=>simp[intOf];omega
   ·have hne:((ml.length:Int) != 1)=true:=by simp;omega
    have hx1:Fr No wr (wr.alloc (.cells #[.string mp,.string mi,.int .i64 mr,.int .i64 ms,.int .i64 mt,.int .i64 me,.slice ma ml.length mc] 264)):=(Fr.refl _ _).alloc _;have hI1:VMap (wr.alloc (.cells #[.string mp,.string mi,.int .i64 mr,.int .i64 ms,.int .i64 mt,.int .i64 me,.slice ma ml.length mc] 264)) w.heap.size (mapM (best (L.take (k+1)))) k:=by rw[Htk.out,zBJ,zGo hl1];exact hI.fr hx1 id
    have H:=Lib.hid (And.intro hI1 (And.intro (hfr.step hx1 (fun _ _ h=>h.elim)) hx1.size));clear hI1 hI hx1 hfr hl1
    go_wp2_with fail
    go_roundw
    case rel=>exact⟨k+1,by omega,by go_num,H.out.1.mono (by omega),H.out.2.1,by have:=H.out.2.2;omega⟩
    case measure=>simp[intOf];omega
  ·obtain rfl:k=L.length:=by omega
   rw[List.take_length]at hI
   go_wp2_with fail
   refine(zKt _ _).mono ?_;rintro en w1 ⟨rfl,rfl⟩;have hx1:Fr No wr (wr.alloc (.cells #[.map (some w.heap.size)] 316)):=(Fr.refl _ _).alloc _;have q1:=zD wr (.cells #[.map (some w.heap.size)] 316);have hs1:wr.heap.size<(wr.alloc (.cells #[.map (some w.heap.size)] 316)).heap.size:=by simp
   have hI1:=hI.fr hx1 id;have Hf1:=Lib.hid (hfr.step hx1 (fun _ _ h=>h.elim));clear hI hfr hx1
   go_wp2_with fail
   generalize wr.alloc (.cells #[.map (some w.heap.size)] 316)=W1 at *;refine(zIk w.heap.size wr.heap.size _ L.length W1 hI1 (by omega) (zB q1 0) hs1).mono ?_;rintro en w2 ⟨⟨ia,ic,ids,rfl,hS,hasc,hmem,hln,hfresh⟩,hf2⟩;have hids:IsIds L ids:=⟨hasc,fun x=>by rw[hmem];unfold mapM;rw[Option.isSome_map]⟩
   have hI2:=hI1.fr hf2 id;have Hf2:=Lib.hid (Hf1.out.step hf2 (fun _ _ h=>h.elim));have hs2:=hf2.size;have Hids:=Lib.hid hids;have hil:=hS.lenmax;clear q1 hI1 hf2 hasc hmem hids hfresh
   go_wp2_with fail
   go_loopw [9,50] (fun v i wr=>∃ (j:Nat) (O:List Mem) (av:Option Addr) (cv:Nat),j<=ids.length/\O.length<=j/\v=.slice av O.length cv/\i=.int .i64 (j:Int)/\wr.ownsRow w2.heap.size 264 7 (.slice av O.length cv) O.length (mflat O)/\MFresh wr w2.heap.size O/\Hid (O.map Mem.k=own1 L (ids.take j))/\Fr (From w2.heap.size) w2 wr) (fun _ i _=>ids.length-(intOf i).toNat)
   case atStart=>exact⟨0,[],none,0,by omega,by simp,rfl,rfl,World.ownsRow_nil _ _ _ _,fun m hm=>by simp at hm,by unfold Hid own1;simp,Fr.refl _ _⟩
   case round=>
    obtain⟨j,O,av,cv,hj,hOj,rfl,rfl,hown,hMF,HO,hf⟩:=hrel;by_cases hlt:j<ids.length
    ·have hlt':(j:Int)<ids.length:=by omega
     obtain⟨b,off,x,rfl,hxj,hc⟩:=(hS.keep hf (fun b hb h=>by unfold From at h;omega)).at hlt;have hxi:=List.mem_of_getElem? hxj;have Htj:Hid (ids.take (j+1)=ids.take j++[x]):=by unfold Hid;rw[List.take_add_one,hxj];rfl
     obtain⟨o,ho⟩:=Option.isSome_iff_exists.1 ((Hids.out.mem x).1 hxi);obtain⟨hoL,hol1,hok⟩:=zCW _ _ _ ho;have hosz:=Hb.out.i o hoL;have hoi:=zEZ hok;have hxs:x.size<=maxLen:=by rw[<-hoi];unfold maxLen;omega
     have hfw:=Hf2.out.trans hf (fun b hb h=>h) (fun b hb h=>by unfold From at h ⊢;omega);have hoS:=(Hlk.out _ hfw).ok o hoL;have hv:(mapM (best L) (kb x)).getD zBY=o.v:=by unfold mapM;rw[ho];rfl
     have hI3:=hI2.fr hf (by unfold From;omega);have Hfw:=Lib.hid hfw;have Ho:=Lib.hid ho;clear ho hoL hosz hoi hok hxi hxj hfw;obtain⟨op,oi,or,os,ot,oe,oa,ol,oc⟩:=o;simp only at hoS hol1;unfold Mem.v Mem.vals at hv;simp only at hv;have hol2:ol.length<=1000000:=by omega
     have hx3:Fr No wr (wr.alloc (.cells #[.string op,.string oi,.int .i64 or,.int .i64 os,.int .i64 ot,.int .i64 oe,.slice oa ol.length oc] 264)):=(Fr.refl _ _).alloc _;have q3:=zD wr (.cells #[.string op,.string oi,.int .i64 or,.int .i64 os,.int .i64 ot,.int .i64 oe,.slice oa ol.length oc] 264);have hoS3:=hoS.no hx3 (fun _=>id);have Hol1:=Lib.hid hol1;clear hoS hol1
     go_upto_region 16 with(at_lookup;refine zJX rfl _ _ 316 264 zBY (zeroM _) rfl Tryz.underlying316 w.heap.size _ _ x hxs rfl hI3 rfl (.agg #[.string op,.string oi,.int .i64 or,.int .i64 os,.int .i64 ot,.int .i64 oe,.slice oa ol.length oc]) hv ?_)
     generalize wr.alloc (.cells #[.string op,.string oi,.int .i64 or,.int .i64 os,.int .i64 ot,.int .i64 oe,.slice oa ol.length oc] 264)=W3 at *;have z6:W3.cell? ⟨wr.heap.size,6,none⟩=some (.slice oa ol.length oc):=zB q3 6;clear hI3 hv hc
     go_wp2_with fail
     refine(zAU oa oc ol W3 hoS3 hol2).mono ?_;rintro en w4 ⟨⟨a1,c1,rfl,hS4,hB4,hF4⟩,hf4⟩;have q4:=hf4.heap q3 id;have z7:w4.frozen? ⟨wr.heap.size,6,none⟩=false:=zC q4 6;have z8:w4.cell? ⟨wr.heap.size,6,none⟩=some (.slice oa ol.length oc):=zB q4 6;have q5:=zF q4 6 (.slice a1 ol.length c1);have hs3:=hx3.size;have hlb:=zE q3;have hf34:Fr No wr w4:=hx3.step hf4 (fun _ _ h=>h);have hf5:Fr (Is wr.heap.size) w4 (w4.setCell ⟨wr.heap.size,6,none⟩ (.slice a1 ol.length c1)):=Fr.setCell (S:=Is wr.heap.size) (p:=⟨wr.heap.size,6,none⟩) (Fr.refl _ _) (fun _=>rfl) _;clear z6 q3 q4 hoS3
     go_upto_region 17 with(fail)
     generalize w4.setCell ⟨wr.heap.size,6,none⟩ (.slice a1 ol.length c1)=W5 at *;have hf25:Fr (fun b=>wr.heap.size<=b) wr W5:=(hf34.mono (fun _ _ h=>h.elim)).step hf5 (fun b _ h=>by unfold Is at h;omega);have hown5:=zJ hown hf25 (fun b hb h=>by have h1:=zU hown hb;omega);have hMF5:=hMF.fr hf25 (fun b _ h1 h2=>by omega);have hS5:=hS4.fr hf5 (fun ad e _ h=>by have:=hF4 ad e;unfold Is at h;omega);have hB5:=hB4.fr hf5 (fun ad e h=>by have:=hF4 ad e;unfold Is at h;omega);simp at q5;obtain⟨y0,y1,y2,y3,y4,y5,y6⟩:=cl7 q5;have hsf:=hf25.size;have hsr2:=hf.size;have Hf25:=Lib.hid hf25;have HS5:=Lib.hid (And.intro hS5 (And.intro hB5 hF4));have Hown5:=Lib.hid hown5;have HMF5:=Lib.hid hMF5;clear z7 z8 q5 hf5 hf34 hx3 hf4 hS4 hB4 hF4 hown hMF hf25 hS5 hB5 hMF5
     go_wp2_with (at_builtin;refine wpList_append_own _ rfl _ _ 202 rfl w2.heap.size 264 i0 (.agg #[.string ByteArray.empty,.string ByteArray.empty,.int .i64 0,.int .i64 0,.int .i64 0,.int .i64 0,.slice none 0 0]) 7 88 Tryz.underlying202 hi0 hz0 hz1 hz2 rfl (by decide) _ _ _ rfl (hown5.alloc _) ⟨W5.heap.size,0,none⟩ 1 1 (Mem.vals ⟨op,oi,or,os,ot,oe,a1,ol,c1⟩).toList rfl rfl (zX _ (Mem.vals ⟨op,oi,or,os,ot,oe,a1,ol,c1⟩) _ rfl) (zBt _) (by unfold maxLen;omega) (by omega) (by first | omega | (simp;done) | (simp;omega)) ?_;intro v' w6 hown6 hgrow6 _;obtain⟨av',cv',rfl⟩:=zG hown6)
     have hal:Fr No W5 (W5.alloc (.cells #[.string op,.string oi,.int .i64 or,.int .i64 os,.int .i64 ot,.int .i64 oe,.slice a1 ol.length c1] 264)):=(Fr.refl _ _).alloc _;have howa:=Hown5.out.alloc (.cells #[.string op,.string oi,.int .i64 or,.int .i64 os,.int .i64 ot,.int .i64 oe,.slice a1 ol.length c1] 264);have hgf:Fr (fun b=>(Value.slice av O.length cv).ownBlock=some b) (W5.alloc (.cells #[.string op,.string oi,.int .i64 or,.int .i64 os,.int .i64 ot,.int .i64 oe,.slice a1 ol.length c1] 264)) w6:=Fr.of_grown hgrow6;have hMF6:MFresh w6 w2.heap.size (O++[⟨op,oi,or,os,ot,oe,a1,ol,c1⟩]):=by
      refine MFresh.own (MFresh.snoc (HMF5.out.fr hal (fun _ _ _=>id)) (HS5.out.1.no hal (fun _=>id)) (HS5.out.2.1.fr hal (fun _ _=>id)) (fun ad e=>?_)) howa hgf;have:=HS5.out.2.2 ad e;omega
     have hO6:(O++[(⟨op,oi,or,os,ot,oe,a1,ol,c1⟩:Mem)]).map Mem.k=own1 L (ids.take (j+1)):=by
      rw[Htj.out];unfold own1;rw[List.map_append,List.map_append,HO.out]
      congr 1
      simp only[List.map_cons,List.map_nil,Ho.out,Option.getD_some];rfl
     have hf6:Fr (From w2.heap.size) w2 w6:=((hf.step Hf25.out (fun b _ h=>by unfold From;omega)).step hal (fun _ _ h=>h.elim)).step hgf (fun b _ h=>zN howa h);have HF:=Lib.hid (And.intro hown6 (And.intro hMF6 (And.intro hO6 hf6)));clear hown6 hMF6 hO6 hf6 hgrow6 hgf howa hal y0 y1 y2 y3 y4 y5 y6 hown5 hf
     go_roundw
     case rel=>exact⟨j+1,O++[⟨op,oi,or,os,ot,oe,a1,ol,c1⟩],av',cv',by omega,by simp;omega,by simp,by go_num,by rw[List.length_append,zBT];exact HF.out.1,HF.out.2.1,Lib.hid HF.out.2.2.1,HF.out.2.2.2⟩
     case measure=>simp[intOf];omega
    ·obtain rfl:j=ids.length:=by omega
     obtain⟨a',c',hv,hR,hfresh⟩:=Mems.of_own hown (fun m hm=>(hMF m hm).1);cases hv;have ho:=HO.out;rw[List.take_length]at ho;have hs3:=Hf1.out.size;have hs4:=hf.size;have H:=Lib.hid (And.intro hR (And.intro hfresh (And.intro hMF (And.intro ho ((Hf2.out.trans hf (fun b hb h=>h) (fun b hb h=>by unfold From at h ⊢;omega)).mono (T:=No) (fun b hb h=>by unfold From at h;omega))))));clear hown hMF HO hf hR hfresh ho
     go_wp2_with fail
     go_ret;exact⟨⟨_,_,O,ids,rfl,H.out.1,fun ad e=>by have:=H.out.2.1 ad e;omega,fun m hm=>⟨(H.out.2.2.1 m hm).1,(H.out.2.2.1 m hm).2.1,fun ad e=>by have:=(H.out.2.2.1 m hm).2.2 ad e;omega⟩,Hids.out,H.out.2.2.2.1,hln⟩,H.out.2.2.2.2⟩
def KSet (w:World)(mb:Nat)(K:List ByteArray)(N:Nat):Prop:=VMap w mb (fun x=>if hasS K (bk x)=true then some (.agg #[])else none) N
theorem KSet.fr {S:Nat->Prop}{w w':World}{mb:Nat}{K:List ByteArray}{N:Nat}(h:KSet w mb K N)(hf:Fr S w w')(hS:¬ S mb):KSet w' mb K N:=VMap.fr h hf hS
theorem zIo (K:List ByteArray)(x:ByteArray):updS (fun x=>if hasS K (bk x)=true then some (.agg #[])else none) (kb x) (.agg #[])=fun y=>if hasS (K++[x]) (bk y)=true then some (.agg #[])else none:=by
 funext y
 unfold updS;have e:hasS (K++[x]) (bk y)=(hasS K (bk y)||decide (y=kb x)):=by
  unfold hasS;rw[List.any_append];simp only[List.any_cons,List.any_nil,Bool.or_false]
  congr 1
  rw[strEq,decide_eq_decide];constructor
  ·intro h;rw[h,zGd]
  ·intro h;rw[h,zEB]
 rw[e];by_cases h:y=kb x
 ·simp[h]
 ·simp[h]
theorem zeroE (w:World):(zeroValue 271).run Tryz.prog w=.ok (.agg #[]) w:=by kernel_rfl
theorem zJ7 (a:Option Addr)(cap:Nat)(K:List ByteArray)(w:World)(hl:Strs w a cap K)(hb:K.length<=1000000)(hs:∀ x∈K,x.size<=maxLen):
  Calls Tryz.prog 216 #[.slice a K.length cap] w fun e w'=>(∃ mb,e=.returned (.map (some mb))/\KSet w' mb K K.length/\w.heap.size<=mb)/\Fr No w w':=by
 have hmm:=@run_makeMap Tryz.prog;have hx:Fr No w (w.alloc (.map #[] 0)):=(Fr.refl _ _).alloc _;have hI0:=VMap.made w;have hlx:=hl.no hx (fun _=>id);have hs0:w.heap.size<(w.alloc (.map #[] 0)).heap.size:=by simp
 go_enter Tryz.func216,Tryz.ntmps216
 go_wp2_with fail
 clear hmm;generalize w.alloc (.map #[] 0)=W0 at *
 go_loopw [9] (fun i wr=>∃ k:Nat,k<=K.length/\i=.int .i64 (k:Int)/\KSet wr w.heap.size (K.take k) k/\Fr (From w.heap.size) w wr) (fun i _=>K.length-(intOf i).toNat)
 case atStart=>exact⟨0,by omega,rfl,by unfold KSet;simpa [hasS]using hI0,hx.mono (fun _ _ h=>h.elim)⟩
 case round=>
  obtain⟨k,hk,rfl,hI,hfr⟩:=hrel;by_cases hlt:k<K.length
  ·have hlt':(k:Int)<K.length:=by omega
   obtain⟨b,off,x,rfl,hxk,hc⟩:=(hl.keep hfr (fun b hb h=>by unfold From at h;omega)).at hlt;have hxw:=hs x (List.mem_of_getElem? hxk);have Hup:Hid (K.take (k+1)=K.take k++[x]):=by unfold Hid;rw[List.take_add_one,hxk];rfl
   clear hxk;unfold KSet at hI
   go_wp2_with (at_mapUpdate;refine zBZ rfl _ _ _ 268 271 rfl Tryz.underlying268 w.heap.size _ k (by unfold maxLen;omega) x hxw (.agg #[]) rfl hI rfl rfl ?_;intro w1 hI1 hg1)
   rw[zIo,<-Hup.out]at hI1;have hf1:Fr (From w.heap.size) w w1:=hfr.step hg1 (fun b hb e=>by unfold Is at e;unfold From;omega);have H:=Lib.hid (And.intro hI1 hf1);clear hI1 hf1 hg1 hI hfr
   go_roundw
   case rel=>exact⟨k+1,by omega,by go_num,H.out.1,H.out.2⟩
   case measure=>simp[intOf];omega
  ·obtain rfl:k=K.length:=by omega
   rw[List.take_length]at hI;have H:=Lib.hid (And.intro hI (hfr.mono (T:=No) (fun b hb h=>by unfold From at h;omega)));clear hI hfr
   go_wp2_with fail
   go_ret;exact⟨⟨_,rfl,H.out.1,Nat.le_refl _⟩,H.out.2⟩
end Go.Proofs.YtmajgldaplkpiaaGreatDoor
