import Derived.Test.YtmajgldaplkpiaaGreatDoorQ15
namespace Go.Proofs.YtmajgldaplkpiaaGreatDoor
open Go.RowKit Go.Maps
set_option linter.unusedVariables false
set_option maxRecDepth 100000
set_option maxHeartbeats 2000000
def goodF : UInt8->Bool:=fun c=>zAc c||(⟨#[64,35,61,37]⟩:ByteArray).data.toList.contains c
theorem zJ2 (w:World):
  Calls Tryz.prog 251 #[] w fun e w'=>e=.returned (.agg (bits goodF))/\Fr No w w':=by
 have hi:(Tryz.prog.info? 190).map (·.size)=some 256:=by kernel_rfl
 have hz:Tryz.zeroCells190.size=256:=by kernel_rfl
 have h0:Fr No w (w.alloc (.cells Tryz.zeroCells190 190)):=(Fr.refl _ _).alloc _;have p0:=zD w (.cells Tryz.zeroCells190 190);have P0:=Lib.hid (And.intro p0 h0);clear p0 h0;have hp:=fun W=>zAn zAc ⟨#[64,35,61,37]⟩ W (by decide)
 have Hp:=Lib.hid hp;clear hp
 go_enter Tryz.func251,Tryz.ntmps251
 go_wp2_with fail
 refine(zCt _).mono ?_;rintro e w1 ⟨rfl,hf1⟩
 go_wp2_with fail
 refine(Hp.out _).mono ?_;rintro e w2 ⟨rfl,hf2⟩;have hfr:=(P0.out.2.step hf1 (fun _ _ h=>h)).step hf2 (fun _ _ h=>h);have p5:=hf2.heap (hf1.heap P0.out.1 id) id
 go_wp2_with (refine wpList_store_row rfl 190 _ _ rfl w.heap.size (bits goodF) rfl rfl 190 _ p5 (by rw[zl];exact hi) (by rw[zl];exact hz) (zCV _) ?_)
 have hg:=setRow_heap w2 w.heap.size _ (bits goodF) 190 (0,0) p5;refine bodyPost_ret (v:=.agg (bits goodF)) (results_cell_row rfl _ _ w.heap.size 190 _ (0,0) _ rfl hg Tryz.underlying190 rfl (by rw[zl];exact hi)) rfl ?_;exact⟨rfl,hfr.step (T:=Is w.heap.size) ⟨rfl,rfl,rfl,by simp,fun b _ hb=>setRow_other _ _ _ _ (fun e=>hb e)⟩ (fun b hb e=>by unfold Is at e;omega)⟩
def dotsB (s:ByteArray):Bool:=decide (s.toList=[46])||decide (s.toList=[46,46])
def zA5 (s:ByteArray):Bool:=!s.toList.isEmpty&&!dotsB s&&allB goodF s
theorem zHd (bt:Nat)(s:ByteArray)(w:World)(hb:w.heap[bt]?=some (.cells (bits goodF) 190))(hs:s.size<=maxLen):
  Calls Tryz.prog 253 #[.string s,.pointer (some ⟨bt,0,none⟩)] w fun e w'=>e=.returned (.bool (zA5 s))/\Fr No w w':=by
 have hi:(Tryz.prog.info? 190).map (·.size)=some 256:=by kernel_rfl
 obtain⟨rb,hrb⟩:∃ rb,rb=zA5 s:=⟨_,rfl⟩
 rw[<-hrb];have Hrb:Hid (rb=(!s.toList.isEmpty&&!dotsB s&&allB goodF s)):=hrb;have Hb:=Lib.hid hb;clear hrb hb;rcases he:s.toList.isEmpty with _ | _
 ·have hd:=zEU s w;have Hdd:Hid ((decide (s.toList=[46])||decide (s.toList=[46,46]))=dotsB s):=rfl;rw[Hdd.out]at hd;have He:=Lib.hid he
  go_enter Tryz.func253,Tryz.ntmps253
  go_wp2_with fail
  refine hd.mono ?_;rintro e w1 ⟨rfl,rfl⟩;clear hd;rcases hq:dotsB s with _ | _
  ·have Hv:Hid (rb=allB goodF s):=by unfold Hid;rw[Hrb.out,He.out,hq];rfl
   clear hq;have hh:=zFf goodF s w hs
   go_wp2_with fail
   rename_i hK;refine wp_load_row 190 _ rfl bt rfl 190 _ (0,0) _ Hb.out Tryz.underlying190 rfl (by rw[zl];exact hi) ?_;refine hK _ _ ?_
   go_wp2_with fail
   refine hh.mono ?_;rintro e w2 ⟨rfl,hf2⟩;have Hf:=Lib.hid hf2;clear hf2 hh
   go_wp2_with fail
   go_ret;exact⟨zK Hv.out.symm,Hf.out⟩
  ·have Hv:Hid (rb=false):=by unfold Hid;rw[Hrb.out,hq];simp
   clear hq
   go_wp2_with fail
   go_ret;exact⟨zK Hv.out.symm,Fr.refl _ _⟩
 ·have Hv:Hid (rb=false):=by unfold Hid;rw[Hrb.out,he];rfl
  go_enter Tryz.func253,Tryz.ntmps253
  go_wp2_with fail
  go_ret;exact⟨zK Hv.out.symm,Fr.refl _ _⟩
theorem zJA (bt bg:Nat)(s:ByteArray)(w:World)(hb:w.cell? ⟨bt,0,none⟩=some (.func (.func 253) #[] #[.pointer (some ⟨bg,0,none⟩)]))(hg:w.heap[bg]?=some (.cells (bits goodF) 190))(hs:s.size<=maxLen):
  Calls Tryz.prog 294 #[.string s,.pointer (some ⟨bt,0,none⟩)] w fun e w'=>e=.returned (.bool (!zA5 s))/\Fr No w w':=by
 have h:=zHd bg s w hg hs;clear hg
 go_enter Tryz.func294,Tryz.ntmps294
 go_wp2_with fail
 refine h.mono ?_;rintro e w1 ⟨rfl,hf1⟩
 go_wp2_with fail
 go_ret;exact⟨rfl,hf1⟩
theorem zGt (bt bg:Nat)(la:Option Addr)(lc:Nat)(l:List ByteArray)(w:World)(hb:w.cell? ⟨bt,0,none⟩=some (.func (.func 253) #[] #[.pointer (some ⟨bg,0,none⟩)]))(hg:w.heap[bg]?=some (.cells (bits goodF) 190))(hi:Strs w la lc l)(hs:∀ x∈l,x.size<=maxLen):
  Calls Tryz.prog 45 #[.slice la l.length lc,.func (.func 294) #[] #[.pointer (some ⟨bt,0,none⟩)]] w fun e w'=>(∃ r:Int,e=.returned (.int .i64 r)/\decide (0<=r)=!l.all zA5)/\Fr No w w':=by
 have hm:=hi.lenmax;have Hg:=Lib.hid hg;clear hg
 go_enter Tryz.func45,Tryz.ntmps45
 go_wp2_with fail
 go_loopw [8] (fun i wr=>∃ k:Nat,k<=l.length/\i=.int .i64 k/\Hid ((l.take k).all zA5=true)/\Fr No w wr) (fun i _=>l.length-(intOf i).toNat)
 case atStart=>exact⟨0,by omega,rfl,by unfold Hid;simp,Fr.refl _ _⟩
 case round=>
  obtain⟨k,hk,rfl,hno,hfr⟩:=hrel;by_cases hlt:k<l.length
  ·have hlt':(k:Int)<l.length:=by omega
   obtain⟨bb,off,x,rfl,hx,hc⟩:=(hi.no hfr (fun _=>id)).at hlt;have hxs:=hs x (List.mem_of_getElem? hx);have Htk:Hid (l.take (k+1)=l.take k++[x]):=by unfold Hid;rw[List.take_add_one,hx];rfl
   have Hmem:=Lib.hid (List.mem_of_getElem? hx);clear hx;have hp:=zJA bt bg x wr (hfr.cell hb id) (hfr.heap Hg.out id) hxs
   go_wp2_with fail
   refine hp.mono ?_;rintro e w1 ⟨rfl,hf1⟩;have hfr1:=hfr.step hf1 (fun _ _ h=>h);clear hc hp;cases hp:zA5 x
   ·have Hr:Hid (l.all zA5=false):=by unfold Hid;rw[List.all_eq_false];exact⟨x,Hmem.out,by rw[hp];simp⟩
    clear hp
    go_wp2_with fail
    go_ret;exact⟨⟨(k:Int),rfl,by rw[Hr.out];simp⟩,hfr1⟩
   ·have Hn:Hid ((l.take (k+1)).all zA5=true):=by unfold Hid;rw[Htk.out,List.all_append,hno.out];simp[hp]
    clear hp
    go_wp2_with fail
    go_roundw
    case rel=>exact⟨k+1,by omega,by go_num,Hn,hfr1⟩
    case measure=>simp[intOf];omega
  ·have h:=hno.out;rw[List.take_of_length_le (by omega)]at h;have Hp:=Lib.hid h;clear h
   go_wp2_with fail
   go_ret;exact⟨⟨-1,rfl,by rw[Hp.out];rfl⟩,hfr⟩
theorem zIn (bg:Nat)(la:Option Addr)(lc:Nat)(l:List ByteArray)(w:World)(hg:w.heap[bg]?=some (.cells (bits goodF) 190))(hi:Strs w la lc l)(hs:∀ x∈l,x.size<=maxLen):
  Calls Tryz.prog 252 #[.slice la l.length lc,.func (.func 253) #[] #[.pointer (some ⟨bg,0,none⟩)]] w fun e w'=>e=.returned (.bool (l.all zA5))/\Fr No w w':=by
 have hx:Fr No w (w.alloc (.cells #[.func (.func 253) #[] #[.pointer (some ⟨bg,0,none⟩)]] 57)):=(Fr.refl _ _).alloc _;have q3:=zD w (.cells #[.func (.func 253) #[] #[.pointer (some ⟨bg,0,none⟩)]] 57);have hi0:=hi.no hx (fun _=>id);have Hg:=Lib.hid (hx.heap hg id);clear hg
 go_enter Tryz.func252,Tryz.ntmps252
 go_wp2_with fail
 generalize w.alloc (.cells #[.func (.func 253) #[] #[.pointer (some ⟨bg,0,none⟩)]] 57)=W0 at *;refine(show Calls Tryz.prog 18 _ _ (fun e w'=>e=.returned (.bool (!l.all zA5))/\Fr No W0 w')from ?_).mono ?_
 ·go_enter Tryz.func18,Tryz.ntmps18
  go_wp2_with fail
  refine(zGt w.heap.size bg la lc l _ (zB q3 0) Hg.out hi0 hs).mono ?_;rintro e w1 ⟨⟨r,rfl,hr⟩,hf1⟩;have Hr:=Lib.hid hr;clear hr
  go_wp2_with fail
  go_ret;exact⟨zK Hr.out,hf1⟩
 ·rintro e w1 ⟨rfl,hf1⟩
  go_wp2_with fail
  go_ret;exact⟨zK (by simp),hx.step hf1 (fun _ _ h=>h)⟩
def lparts (s:ByteArray):List ByteArray:=(spl 47 s.data.toList).map fun x=>⟨x.toArray⟩
def zE9 (s:ByteArray):Bool:=decide (s.size<=256)&&(lparts s).all zA5
theorem zE6 (s:ByteArray):∀ x∈lparts s,x.size<=s.size:=by
 intro x hx;unfold lparts at hx;obtain⟨y,hy,rfl⟩:=List.mem_map.1 hx;have:=zHC 47 s.data.toList y hy;have e:s.data.toList.length=s.size:=Array.length_toList;show (y.toArray).size<=_
 rw[List.size_toArray];omega
theorem zKr (s:ByteArray)(m:Int)(w:World)(hs:s.size<=3000000)(hm:w.cell? ⟨0,0,none⟩=some (.int .i64 m))(h0:0<w.heap.size):
  Calls Tryz.prog 199 #[.string s] w fun e w'=>e=.returned (.bool (zE9 s))/\Fr No w w':=by
 have hi:(Tryz.prog.info? 190).map (·.size)=some 256:=by kernel_rfl
 have hz:Tryz.zeroCells190.size=256:=by kernel_rfl
 obtain⟨rb,hrb⟩:∃ rb,rb=zE9 s:=⟨_,rfl⟩
 rw[<-hrb];have Hrb:Hid (rb=(decide (s.size<=256)&&(lparts s).all zA5)):=hrb;clear hrb;have hlen:Lib.countB s ⟨#[47]⟩+1=(lparts s).length:=zEN s;have hall:Lib.splitB ⟨#[47]⟩ 0 (Lib.countB s ⟨#[47]⟩) s=lparts s:=zBc s;have hcnt:=Lib.countB_le ⟨#[47]⟩ (by decide) s.size s (Nat.le_refl _);have hl1:(lparts s).length<=maxLen:=by unfold maxLen;omega
 have hsz:=zE6 s;have hp:∀ W:World,W.cell? ⟨0,0,none⟩=some (.int .i64 m)->_:=fun W h=>Tryz.strings_Split s ⟨#[47]⟩ m W (by omega) h (by decide)
 rw[hall,hlen]at hp;have Hp:=Lib.hid hp;have Hl1:=Lib.hid hl1;have Hsz:=Lib.hid hsz;clear hp hl1 hsz hall hlen hcnt;generalize lparts s=L at *
 go_enter Tryz.func199,Tryz.ntmps199
 go_wp2_with fail
 refine(zJ2 _).mono ?_;rintro e w1 ⟨rfl,hf1⟩;have hm1:=hf1.cell hm id;have x1:Fr No w (w1.alloc (.cells Tryz.zeroCells190 190)):=hf1.alloc _;have p1:=zD w1 (.cells Tryz.zeroCells190 190);have hsz1:=hf1.size;have hm2:(w1.alloc (.cells Tryz.zeroCells190 190)).cell? ⟨0,0,none⟩=some (.int .i64 m):=((Fr.refl No w1).alloc _).cell hm1 id;obtain⟨W2,hW2⟩:∃ W2,W2=(w1.alloc (.cells Tryz.zeroCells190 190)).setRow w1.heap.size (bits goodF):=⟨_,rfl⟩
 have hg:W2.heap[w1.heap.size]?=some (.cells (bits goodF) 190):=by rw[hW2];exact setRow_heap _ w1.heap.size _ (bits goodF) 190 (0,0) p1
 have x2:Fr (Is w1.heap.size) (w1.alloc (.cells Tryz.zeroCells190 190)) W2:=by rw[hW2];exact⟨rfl,rfl,rfl,by simp,fun b _ hb=>setRow_other _ _ _ _ (fun e=>hb e)⟩
 have x12:=Lib.hid (x1.step x2 (fun b hb e=>by unfold Is at e;omega));have hm3:=x2.cell hm2 (fun e=>by unfold Is at e;dsimp only at e;omega)
 go_upto_region 2 with(refine wpList_store_row rfl 190 _ _ rfl w1.heap.size (bits goodF) rfl rfl 190 _ p1 (by rw[zl];exact hi) (by rw[zl];exact hz) (zCV _) ?_)
 rw[<-hW2];clear hW2 p1 x1 x2 hm2;by_cases h256:s.size<=256
 ·have h256':(s.size:Int)<=256:=by omega
  have Hv:Hid (rb=L.all zA5):=by unfold Hid;rw[Hrb.out,decide_eq_true h256];rfl
  have hp2:=Hp.out W2 hm3;obtain⟨W4,hW4⟩:∃ W4,W4=W2.alloc (.cells (L.map Value.string).toArray 9):=⟨_,rfl⟩
  have x4:Fr No W2 W4:=by rw[hW4];exact(Fr.refl _ _).alloc _
  have hS4:Strs W4 (some ⟨W2.heap.size,0,none⟩) L.length L:=by rw[hW4];exact Strs.new W2 L 9 Hl1.out
  rw[<-hW4]at hp2;have hall:=zIn w1.heap.size _ _ L W4 (x4.heap hg id) hS4 (fun x hx=>Nat.le_trans (Hsz.out x hx) (by unfold maxLen;omega));clear hW4 hg
  go_wp2_with fail
  refine hp2.mono ?_;rintro e w3 ⟨rfl,rfl⟩;clear hp2
  go_wp2_with fail
  refine hall.mono ?_;rintro e w4 ⟨rfl,hf4⟩;clear hall;have Hf:=Lib.hid ((x12.out.step x4 (fun _ _ h=>h)).step hf4 (fun _ _ h=>h));clear hf4 x4
  go_wp2_with fail
  go_ret;exact⟨zK Hv.out.symm,Hf.out⟩
 ·have h256':¬ (s.size:Int)<=256:=by omega
  have Hv:Hid (rb=false):=by unfold Hid;rw[Hrb.out,decide_eq_false h256];rfl
  clear hg
  go_wp2_with fail
  go_ret;exact⟨zK Hv.out.symm,x12.out⟩
def attrOk (x:ByteArray×ByteArray):Bool:=isName x.1&&!x.2.toList.isEmpty&&zAk x.2
theorem zI7 (x y:ByteArray)(w:World)(hx:x.size<=maxLen)(hy:y.size<=maxLen):
  Calls Tryz.prog 250 #[.agg #[.string x,.string y]] w fun e w'=>e=.returned (.bool (!attrOk (x,y)))/\Fr No w w':=by
 obtain⟨W0,hW0⟩:∃ W0,W0=w.alloc (.cells #[.string x,.string y] 50):=⟨_,rfl⟩
 have hx0:Fr No w W0:=by rw[hW0];exact(Fr.refl _ _).alloc _
 have q0:W0.heap[w.heap.size]?=some (.cells #[.string x,.string y] 50):=by rw[hW0];exact zD _ _
 obtain⟨c0,c1⟩:=cl2 q0;have hv:=zAF x W0 hx;obtain⟨rb,hrb⟩:∃ rb,rb=attrOk (x,y):=⟨_,rfl⟩
 rw[<-hrb];have Hrb:Hid (rb=(isName x&&!y.toList.isEmpty&&zAk y)):=hrb;clear hrb
 go_enter Tryz.func250,Tryz.ntmps250
 go_upto_region 1 with(fail)
 rw[<-hW0];clear hW0
 go_wp2_with fail
 refine hv.mono ?_;rintro e w1 ⟨rfl,hf1⟩;have q1:=hf1.heap q0 id;have x1:=hx0.step hf1 (fun _ _ h=>h);clear c0 c1 q0 hv;obtain⟨c0,c1⟩:=cl2 q1;rcases h1:isName x with _ | _
 ·have Hv:Hid (rb=false):=by unfold Hid;rw[Hrb.out,h1];rfl
  clear h1
  go_wp2_with fail
  go_ret;exact⟨zK (by rw[Hv.out];rfl),x1⟩
 have H1:=Lib.hid h1;clear h1;rcases h2:y.toList.isEmpty with _ | _
 ·have Hv:Hid (rb=zAk y):=by unfold Hid;rw[Hrb.out,H1.out,h2];rfl
  go_wp2_with fail
  refine(zET y _ hy).mono ?_;rintro e w2 ⟨rfl,rfl⟩
  go_wp2_with fail
  go_ret;exact⟨zK (by rw[Hv.out]),x1⟩
 ·have Hv:Hid (rb=false):=by unfold Hid;rw[Hrb.out,H1.out,h2];rfl
  go_wp2_with fail
  go_ret;exact⟨zK (by rw[Hv.out];rfl),x1⟩
theorem zH7 (a:Option Addr)(cap:Nat)(l:List (ByteArray×ByteArray))(w:World)(hl:Atts w a cap l):
  Calls Tryz.prog 249 #[.slice a l.length cap,.func (.func 250) #[] #[]] w fun e w'=>e=.returned (.bool (!l.all attrOk))/\Fr No w w':=by
 have hm:=hl.lenmax;have hidx:Calls Tryz.prog 293 #[.slice a l.length cap,.func (.func 250) #[] #[]] w fun e w'=>(∃ r:Int,e=.returned (.int .i64 r)/\decide (0<=r)=!l.all attrOk)/\Fr No w w':=by
  go_enter Tryz.func293,Tryz.ntmps293
  go_wp2_with fail
  go_loopw [8] (fun i wr=>∃ k:Nat,k<=l.length/\i=.int .i64 k/\Hid ((l.take k).all attrOk=true)/\Fr No w wr) (fun i _=>l.length-(intOf i).toNat)
  case atStart=>exact⟨0,by omega,rfl,by unfold Hid;simp,Fr.refl _ _⟩
  case round=>
   obtain⟨k,hk,rfl,hno,hfr⟩:=hrel;by_cases hlt:k<l.length
   ·have hlt':(k:Int)<l.length:=by omega
    obtain⟨bb,off,x,y,rfl,hx,hxs,hys,hc,hd⟩:=(hl.no hfr (fun _=>id)).at hlt;have Htk:Hid (l.take (k+1)=l.take k++[(x,y)]):=by unfold Hid;rw[List.take_add_one,hx];rfl
    have Hmem:=Lib.hid (List.mem_of_getElem? hx);clear hx;have hp:=zI7 x y wr hxs hys
    go_wp2_with fail
    refine hp.mono ?_;rintro e w1 ⟨rfl,hf1⟩;have hfr1:=hfr.step hf1 (fun _ _ h=>h);clear hc hd hp;cases hp:attrOk (x,y)
    ·have Hr:Hid (l.all attrOk=false):=by unfold Hid;rw[List.all_eq_false];exact⟨_,Hmem.out,by rw[hp];simp⟩
     clear hp
     go_wp2_with fail
     go_ret;exact⟨⟨(k:Int),rfl,by rw[Hr.out];simp⟩,hfr1⟩
    ·have Hn:Hid ((l.take (k+1)).all attrOk=true):=by unfold Hid;rw[Htk.out,List.all_append,hno.out];simp[hp]
     clear hp
     go_wp2_with fail
     go_roundw
     case rel=>exact⟨k+1,by omega,by go_num,Hn,hfr1⟩
     case measure=>simp[intOf];omega
   ·have h:=hno.out;rw[List.take_of_length_le (by omega)]at h;have Hp:=Lib.hid h;clear h
    go_wp2_with fail
    go_ret;exact⟨⟨-1,rfl,by rw[Hp.out];rfl⟩,hfr⟩
 go_enter Tryz.func249,Tryz.ntmps249
 go_wp2_with fail
 refine hidx.mono ?_;rintro e w1 ⟨⟨r,rfl,hr⟩,hf1⟩;have Hr:=Lib.hid hr;clear hr
 go_wp2_with fail
 go_ret;exact⟨zK Hr.out,hf1⟩
theorem zHr (a:Option Addr)(cap:Nat)(l:List (ByteArray×ByteArray))(w:World)(hl:Atts w a cap l)(h1:l.length<=1):
  Calls Tryz.prog 248 #[.slice a l.length cap] w fun e w'=>e=.returned (.bool true)/\Fr No w w':=by
 have h1':¬ (1:Int)<l.length:=by omega
 go_enter Tryz.func248,Tryz.ntmps248
 go_wp2_with fail
 go_loopw [3] (fun i wr=>i=.int .i64 1/\wr=w) (fun i _=>0)
 case atStart=>exact⟨rfl,rfl⟩
 case round=>
  obtain⟨rfl,rfl⟩:=hrel
  go_wp2_with fail
  go_ret;exact⟨rfl,Fr.refl _ _⟩
theorem zD5 (a:Option Addr)(cap:Nat)(l:List (ByteArray×ByteArray))(w:World)(hl:Atts w a cap l)(h1:l.length<=1):
  Calls Tryz.prog 197 #[.slice a l.length cap] w fun e w'=>e=.returned (.bool (l.all attrOk))/\Fr No w w':=by
 have hs:=zHr a cap l w hl h1
 go_enter Tryz.func197,Tryz.ntmps197
 go_wp2_with fail
 refine hs.mono ?_;rintro e w1 ⟨rfl,hf1⟩;have ha:=zH7 a cap l w1 (hl.no hf1 (fun _=>id));clear hs
 go_wp2_with fail
 refine ha.mono ?_;rintro e w2 ⟨rfl,hf2⟩
 go_wp2_with fail
 go_ret;exact⟨zK (by simp),hf1.step hf2 (fun _ _ h=>h)⟩
theorem zCY {w:World}{ops:Array Oper}{rest:List Oper}{o:Oper}{a:Act}{Q:Exit->Act->World->Prop}(hg:o.guard=none)(m x:Operand)(t:TypeId)(hop:o.op=Op.lookup t m x true)(ht:Tryz.prog.underlying t=some (.map 3 9))
  (mb:Nat) (g:Int->Option ByteArray) (N:Nat) (k:Int) (hk:(Lit.int .i64 k).wf=true) (hm:a.eval m=.map (some mb)) (hown:SMap w mb g N) (hx:a.eval x=.int .i64 k)
  (s:ByteArray) (hs:(g k).getD ⟨#[]⟩=s) (b:Bool) (hb:(g k).isSome=b)
  (hK:wpList Tryz.prog ops Q rest (a.put o.dst (.tuple #[.string s,.bool b])) w):wpList Tryz.prog ops Q (o::rest) a w:=by
 subst hs hb;exact zDQ hg m x t hop ht mb g N k hk hm hown hx hK
theorem zDw {ds:List Dev}(hT:TreeOk ds)(n:Int):ogs ds n=(look ds n).map fun _=>pathOf (origin ds n):=by
 have:=zFc hT ds.length (Nat.le_refl _) n
 rwa [List.take_of_length_le (Nat.le_refl _)]at this
def newO (ds:List Dev)(d:Dev):ByteArray:=plc ds d.parent++⟨#[47]⟩++d.orig
def zA1 (ds:List Dev)(og:ByteArray)(x:Dev):Bool:=decide (0<=(cmpP (plc ds x.index) og).1)
theorem zFa {ds:List Dev}(hT:TreeOk ds)(hn:ds.length<=1000)(n:Int):(plc ds n).size<=33000:=by
 have h:=zBS hT.sz ds.length n;rw[List.take_of_length_le (Nat.le_refl _),zCs hT]at h;omega
theorem zHh (d:Dev)(ds:List Dev)(a:Option Addr)(cap m1 m2 bv bs:Nat)(s:ByteArray)(m:Int)(w:World)(hT:TreeOk ds)(hn:ds.length<=1000)(hs:s.size<=1000000)(hd:d∈ds)(hv:w.heap[bv]?=some (.cells #[.slice a ds.length cap,.map (some m1),.map (some m2)] 97))(hS:SMap w m2 (ogs ds) ds.length)(hb:w.cell? ⟨bs,0,none⟩=some (.string s))(hm:w.cell? ⟨0,0,none⟩=some (.int .i64 m)):
  Calls Tryz.prog 134 #[.agg d.vals,.pointer (some ⟨bv,0,none⟩),.pointer (some ⟨bs,0,none⟩)] w fun e w'=>e=.returned (.bool (zA1 ds s d))/\Fr No w w':=by
 obtain⟨W0,hW0⟩:∃ W0,W0=w.alloc (.cells d.vals 34):=⟨_,rfl⟩
 have hx:Fr No w W0:=by rw[hW0];exact(Fr.refl _ _).alloc _
 have q0:W0.heap[w.heap.size]?=some (.cells d.vals 34):=by rw[hW0];exact zD _ _
 have hbx:=hx.cell hb id;have hvx:=hx.heap hv id;have v2:=zB hvx 2;have c0:=(DevB.of q0).c0;have hSx:=hS.fr hx id;have hiw:=hT.iwf hd;have hp:(ogs ds d.index).getD ⟨#[]⟩=plc ds d.index:=zCs hT d.index;have hc:=zGJ (plc ds d.index) s m W0 (by have:=zFa hT hn d.index;omega) hs (hx.cell hm id);have Hr:Hid (zA1 ds s d=decide (0<=(cmpP (plc ds d.index) s).1)):=rfl;generalize zA1 ds s d=rb at *;generalize hz:(cmpP (plc ds d.index) s).1=z at *;generalize plc ds d.index=P at *;clear hz;clear hb hv hS hvx q0 hm;unfold Dev.vals at hW0 ⊢
 go_enter Tryz.func134,Tryz.ntmps134
 go_upto_region 1 with(fail)
 rw[<-hW0];clear hW0
 go_wp2_with (at_lookup;refine zEp rfl _ _ 95 rfl rfl m2 _ _ d.index hiw rfl hSx rfl ?_)
 refine hc.mono ?_;rintro e w1 ⟨rfl,hf1⟩
 go_wp2_with fail
 go_ret;exact⟨zK Hr.out.symm,hx.step hf1 (fun _ _ h=>h)⟩
theorem zDL (base b:Nat)(a:Option Addr)(n cap:Nat)(xs:List Value)(d:Dev)(w:World)(hown:w.ownsRow base 34 10 (.slice a n cap) n xs)(hn:n<=100000)(hb:w.heap[b]?=some (.cells d.vals 34))(hbase:base<=w.heap.size):
  Calls Tryz.prog 139 #[.slice a n cap,.int .i64 (n:Int),.slice (some ⟨b,0,none⟩) 1 1] w fun e w'=>(∃ a' c',e=.returned (.slice a' (n+1) c')/\w'.ownsRow base 34 10 (.slice a' (n+1) c') (n+1) (xs++d.vals.toList))/\Fr (fun b=>(Value.slice a n cap).ownBlock=some b) w w':=by
 obtain⟨i0,hi0,hz0,hz1,hz2⟩:=info_parts infoD;have hcells:∀ j u,d.vals.toList[j]?=some u->w.cell? ((⟨b,0,none⟩:Addr).add j)=some u:=by
  intro j u hu;rw[Addr.add_lit,zB hb]
  simpa using hu
 have hcap:n<=cap:=by
  obtain⟨_,⟨h1,h2⟩ | ⟨g,c,cur,h1,_,_,h3,_⟩⟩:=hown
  ·cases h1;omega
  ·cases h1;exact h3
 have hcm:cap<=9223372036854775807:=by
  obtain⟨_,⟨h1,h2⟩ | ⟨g,c,cur,h1,_,_,h3,h4,_⟩⟩:=hown
  ·cases h1;omega
  ·cases h1;unfold maxLen at h4;omega
 have hcap':(n:Int)<=cap:=by omega
 go_enter Tryz.func139,Tryz.ntmps139
 go_wp2_with (at_builtin;refine zI rfl _ _ 26 rfl base 34 i0 (.agg #[.int .i64 0,.int .i64 0,.string ByteArray.empty,.string ByteArray.empty,.string ByteArray.empty,.string ByteArray.empty,.string ByteArray.empty,.int .i64 0,.int .i64 0,.slice none 0 0]) 10 136 Tryz.underlying26 hi0 hz0 hz1 hz2 rfl (by decide) _ _ _ rfl hown (some ⟨b,0,none⟩) 1 1 d.vals.toList rfl (fun e=>by cases e) rfl (fun ad' e=>by cases e;exact hcells) (zv _) (by unfold maxLen;omega) (by omega) hbase ?_;intro v3 w3 own3 gr3;have gr4:w.grownBy w3 (Value.slice a n cap).ownBlock:=gr3;obtain⟨av,cv,rfl⟩:=zG own3)
 all_goals (go_ret;subst_vars;exact⟨⟨av,cv,rfl,own3⟩,Fr.of_grown gr4⟩)
def rngB (d:Dev):Bool:=decide (1<=d.index)&&decide (d.index<=1073741824)&&(decide (0<=d.parent)&&decide (d.parent<=1073741824))&&!(d.parent==d.index)
structure Sound (d:Dev)(l:List (ByteArray×ByteArray)):Prop where
 rng:rngB d=true
 named:namedB d=true
 same:(d.name.toList==d.orig.toList)=true
 num:(decide (1<=d.num)&&decide (d.num<=1073741824))=true
 attrs:l.all attrOk=true
 link:zE9 (nodeOf d.orig)=true
theorem Sound.orig {d:Dev}{l:List (ByteArray×ByteArray)}(h:Sound d l):isName d.orig=true:=by
 have:=h.named;unfold namedB at this;simp only[Bool.and_eq_true]at this;exact this.1.1.2
theorem Sound.oklen {d:Dev}{l:List (ByteArray×ByteArray)}(h:Sound d l):d.orig.size<=32:=(zEa h.orig).1
theorem zGj (d:Dev)(l:List (ByteArray×ByteArray))(m:Int)(w:World)(hs:Sized d)(hl:Atts w d.aa d.ac l)(h1:l.length<=1)(han:d.an=l.length)(hk:d.kind=2)(hd:d.drv=⟨#[]⟩)(hok:Sound d l)(hm:w.cell? ⟨0,0,none⟩=some (.int .i64 m))(h0:0<w.heap.size):
  Calls Tryz.prog 136 #[.agg d.vals] w fun e w'=>e=.returned (.int .i64 0)/\Fr No w w':=by
 obtain⟨W0,hW0⟩:∃ W0,W0=w.alloc (.cells d.vals 34):=⟨_,rfl⟩
 have hx:Fr No w W0:=by rw[hW0];exact(Fr.refl _ _).alloc _
 have q0:W0.heap[w.heap.size]?=some (.cells d.vals 34):=by rw[hW0];exact zD _ _
 have hog:=hok.oklen;have K1:=Lib.hid (fun W=>zKH d W hs hd);have K2:=Lib.hid (fun W=>zKI d W hk);have K3:=Lib.hid (fun W=>zHs d W hk);have K4:=Lib.hid (fun (W:World) (hf:Fr No w W)=>zD5 d.aa d.ac l W (hl.no hf (fun _=>id)) h1);have K5:=Lib.hid (fun (W:World) (hf:Fr No w W)=>zHt d m W (by omega) (hf.cell hm id) (Nat.lt_of_lt_of_le h0 hf.size));have K6:=Lib.hid (fun (W:World) (hf:Fr No w W)=>zKr (nodeOf d.orig) m W (zCu _ (by omega)) (hf.cell hm id) (Nat.lt_of_lt_of_le h0 hf.size));have hnk:numK d.kind=true:=by rw[hk];rfl
 have hnr:nodeR d=nodeOf d.orig:=by unfold nodeR;rw[hnk];rfl
 rw[hnr,hnk]at K5;rw[hok.named]at K1;rw[hok.same]at K2;rw[hok.num]at K3;rw[hok.attrs]at K4;rw[hok.link]at K6;have hr:=hok.rng;unfold rngB at hr;simp only[Bool.and_eq_true]at hr;have hr1:(decide (1<=d.index)&&decide (d.index<=1073741824))=true:=by simp only[Bool.and_eq_true];exact hr.1.1
 have hr2:(decide (0<=d.parent)&&decide (d.parent<=1073741824))=true:=by simp only[Bool.and_eq_true];exact hr.1.2
 have hr3:(d.parent==d.index)=false:=by simpa using hr.2
 have K7:=Lib.hid (fun W=>zD4 d.index 1 1073741824 W);have K8:=Lib.hid (fun W=>zD4 d.parent 0 1073741824 W);rw[hr1]at K7;rw[hr2]at K8;have hlm:=hl.lenmax;have h24:¬ (24:Int)<l.length:=by omega
 generalize nodeOf d.orig=nd at *;obtain⟨c0,c1,c2,c3,c4,c5,c6,c7,c8,c9⟩:=DevB.of q0;have HAN:=Lib.hid han;rw[han]at c9;unfold Dev.vals at hW0 K1 K2 K3 K5 ⊢;rw[han]at hW0 K1 K2 K3 K5 ⊢;clear hr hr1 hr2 hok hnk hnr hm hl hs hk hd han
 go_enter Tryz.func136,Tryz.ntmps136
 go_upto_region 1 with(fail)
 rw[<-hW0];clear hW0
 go_wp2_with fail
 refine(K7.out _).mono ?_;rintro e w1 ⟨rfl,rfl⟩
 go_wp2_with fail
 refine(K8.out _).mono ?_;rintro e w1 ⟨rfl,rfl⟩
 go_wp2_with fail
 refine(K1.out _).mono ?_;rintro e w1 ⟨rfl,hf1⟩;have q1:=hf1.heap q0 id;have x1:=hx.step hf1 (fun _ _ h=>h);clear c0 c1 c2 c3 c4 c5 c6 c7 c8 c9 q0;obtain⟨c0,c1,c2,c3,c4,c5,c6,c7,c8,c9⟩:=DevB.of q1;rw[HAN.out]at c9
 go_wp2_with fail
 refine(K2.out _).mono ?_;rintro e w2 ⟨rfl,hf2⟩;have q2:=hf2.heap q1 id;have x2:=x1.step hf2 (fun _ _ h=>h);clear c0 c1 c2 c3 c4 c5 c6 c7 c8 c9 q1;obtain⟨c0,c1,c2,c3,c4,c5,c6,c7,c8,c9⟩:=DevB.of q2;rw[HAN.out]at c9
 go_wp2_with fail
 refine(K3.out _).mono ?_;rintro e w3 ⟨rfl,hf3⟩;have q3:=hf3.heap q2 id;have x3:=x2.step hf3 (fun _ _ h=>h);clear c0 c1 c2 c3 c4 c5 c6 c7 c8 c9 q2;obtain⟨c0,c1,c2,c3,c4,c5,c6,c7,c8,c9⟩:=DevB.of q3;rw[HAN.out]at c9
 go_wp2_with fail
 refine(K4.out _ x3).mono ?_;rintro e w4 ⟨rfl,hf4⟩;have q4:=hf4.heap q3 id;have x4:=x3.step hf4 (fun _ _ h=>h);clear c0 c1 c2 c3 c4 c5 c6 c7 c8 c9 q3;obtain⟨c0,c1,c2,c3,c4,c5,c6,c7,c8,c9⟩:=DevB.of q4;rw[HAN.out]at c9
 go_wp2_with fail
 refine(K5.out _ x4).mono ?_;rintro e w5 ⟨rfl,hf5⟩;have q5:=hf5.heap q4 id;have x5:=x4.step hf5 (fun _ _ h=>h);clear c0 c1 c2 c3 c4 c5 c6 c7 c8 c9 q4
 go_wp2_with fail
 refine(K6.out _ x5).mono ?_;rintro e w6 ⟨rfl,hf6⟩;have x6:=x5.step hf6 (fun _ _ h=>h)
 go_wp2_with fail
 go_ret;exact⟨rfl,x6⟩
end Go.Proofs.YtmajgldaplkpiaaGreatDoor
