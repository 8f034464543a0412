import Derived.Test.YtmajgldaplkpiaaGreatDoorQ2
import Derived.Lib.ReplaceLaws
import Derived.Deep.DeepCutAuto
namespace Go.Proofs.YtmajgldaplkpiaaGreatDoor
open Go.RowKit
set_option linter.unusedVariables false
set_option maxRecDepth 100000
set_option maxHeartbeats 8000000
structure Atts (w:World)(a:Option Addr)(cap:Nat)(l:List (ByteArray×ByteArray)):Prop where
 len:l.length<=cap
 max:cap<=maxLen
 isNil:a=none->l=[]/\cap=0
 wf:∀ x∈l,x.1.size<=maxLen/\x.2.size<=maxLen
 cell:∀ ad,a=some ad->l≠[]->ad.spot=none/\ad.block<w.heap.size/\∀ i x,l[i]?=some x->w.cell? ⟨ad.block,ad.off+i*2,none⟩=some (.string x.1)/\w.cell? ⟨ad.block,ad.off+i*2+1,none⟩=some (.string x.2)
theorem Atts.at {w:World}{a:Option Addr}{cap:Nat}{l:List (ByteArray×ByteArray)}(h:Atts w a cap l){k:Nat}(hk:k<l.length):
  ∃ b off x y,a=some ⟨b,off,none⟩/\l[k]?=some (x,y)/\x.size<=maxLen/\y.size<=maxLen/\w.cell? ⟨b,off+k*2,none⟩=some (.string x)/\w.cell? ⟨b,off+k*2+1,none⟩=some (.string y):=by
 cases a with
 | none=>obtain⟨rfl,_⟩:=h.isNil rfl;simp at hk
 | some ad=>
  obtain⟨b,off,sp⟩:=ad;obtain⟨h1,h2,h3⟩:=h.cell _ rfl (by intro e;subst e;simp at hk);simp at h1;subst h1;have h4:=h3 k _ (List.getElem?_eq_getElem hk);have h5:=h.wf l[k] (List.getElem_mem hk);exact⟨b,off,l[k].1,l[k].2,rfl,List.getElem?_eq_getElem hk,h5.1,h5.2,h4.1,h4.2⟩
theorem Atts.lenmax {w:World}{a:Option Addr}{cap:Nat}{l:List (ByteArray×ByteArray)}(h:Atts w a cap l):l.length<=9223372036854775807:=by
 have h1:=h.len;have h2:=h.max;unfold maxLen at h2;omega
theorem Atts.fr {S:Nat->Prop}{w w':World}{a:Option Addr}{cap:Nat}{l:List (ByteArray×ByteArray)}(h:Atts w a cap l)(hf:Fr S w w')(hS:∀ ad,a=some ad->l≠[]->¬ S ad.block):Atts w' a cap l:=
 ⟨h.len,h.max,h.isNil,h.wf,fun ad e hne=>by
  obtain⟨h1,h2,h3⟩:=h.cell ad e hne;exact⟨h1,Nat.lt_of_lt_of_le h2 hf.size,fun i x hi=>⟨hf.cell (h3 i x hi).1 (hS ad e hne),hf.cell (h3 i x hi).2 (hS ad e hne)⟩⟩⟩
theorem Atts.no {S:Nat->Prop}{w w':World}{a:Option Addr}{cap:Nat}{l:List (ByteArray×ByteArray)}(h:Atts w a cap l)(hf:Fr S w w')(hS:∀ k,¬ S k):Atts w' a cap l:=h.fr hf (fun _ _ _=>hS _)
theorem Atts.nil (w:World):Atts w none 0 []:=⟨by simp,by simp,fun _=>⟨rfl,rfl⟩,by simp,fun _ e _=>by cases e⟩
theorem zIM (a:Option Addr)(cap:Nat)(l:List (ByteArray×ByteArray))(w:World)(hl:Atts w a cap l):
  Calls Tryz.prog 71 #[.slice a l.length cap] w fun e w'=>RetB e/\Fr No w w':=by
 have hm:=hl.lenmax
 go_enter Tryz.func71,Tryz.ntmps71
 go_wp2_with fail
 go_loopw [3] (fun i wr=>∃ k:Nat,1<=k/\k<=l.length+1/\i=.int .i64 (k:Int)/\Fr No w wr) (fun i _=>l.length-(intOf i).toNat)
 case atStart=>exact⟨1,by omega,by omega,rfl,Fr.refl _ _⟩
 case round=>
  obtain⟨k,hk1,hk2,rfl,hf⟩:=hrel;by_cases hlt:k<l.length
  ·obtain⟨j,rfl⟩:∃ j,k=j+1:=⟨k-1,by omega⟩
   go_wp2_with fail
   refine zR No [(0,false),(1,false),(2,false),(3,false),(4,false),(5,false),(6,false),(7,false),(8,false),(9,false),(10,false),(11,false)] (by kernel_rfl) (by kernel_rfl) (fun w0 hf0=>?_);have hl0:=(hl.no hf (fun _=>id)).no hf0 (fun _=>id);have hf1:=hf.step hf0 (fun _ _ h=>h);obtain⟨b,off,x,y,rfl,-,-,-,c0,-⟩:=hl0.at (by omega:j<l.length);obtain⟨b',off',x',y',e',-,-,-,c1,-⟩:=hl0.at hlt;cases e';have g0:∀ g:Gr No w0,g.W.cell? ⟨b,off+j*2,none⟩=some (.string x):=fun g=>g.fr.cell c0 id
   have g1:∀ g:Gr No w0,g.W.cell? ⟨b,off+(j+1)*2,none⟩=some (.string x'):=fun g=>g.fr.cell c1 id
   clear c0 c1
   repeat (apply zT;exact rfl;exact rfl;exact rfl;intro K hK;go_big_quiet_op;go_big_quiet_on)
   refine zb ?_
   go_wp2_with fail
   all_goals first
    | (go_ret;exact⟨RetB.mk false,hf1⟩)
    | (go_roundw
       case rel=>exact⟨j+1+1,by omega,by omega,by congr 1,hf1⟩
       case measure=>simp[intOf];omega)
  ·go_wp2_with fail
   go_ret;exact⟨RetB.mk true,hf⟩
theorem zCJ (old new:List UInt8):∀ (k:Nat) (s:List UInt8),(Lib.replaceK old new k s).length<=s.length+k*new.length
 | 0,s=>by simp[Lib.replaceK]
 | k+1,s=>by
  unfold Lib.replaceK;split
  ·omega
  ·have h:=zCJ old new k (s.drop ((Lib.index s old).toNat+old.length));simp only[List.length_append,List.length_take,List.length_drop]at h ⊢;have e:(k+1)*new.length=k*new.length+new.length:=Nat.succ_mul _ _;omega
theorem zBX (s old new:List UInt8):(Lib.replaceAll s old new).length<=s.length+(s.length+1)*new.length:=by
 unfold Lib.replaceAll Lib.replace;split
 ·omega
 ·have h:=zCJ old new (Lib.replaceNum s old (-1)) s;have h2:Lib.replaceNum s old (-1)<=s.length+1:=by
   unfold Lib.replaceNum;rw[if_pos (.inl (by omega))];exact Lib.count_le s old
  have h3:=Nat.mul_le_mul_right new.length h2;omega
theorem zG8 (d:Dev)(m:Int)(w:World)(hs:d.orig.size<=1000000)(hm:w.cell? ⟨0,0,none⟩=some (.int .i64 m))(h0:0<w.heap.size):
  Calls Tryz.prog 70 #[.agg d.vals] w fun e w'=>(∃ s,s.size<=3000000/\e=.returned (.tuple #[.string s,.bool (decide (d.kind=2)||decide (d.kind=3))]))/\Fr No w w':=by
 have hx:Fr No w (w.alloc (.cells d.vals 34)):=(Fr.refl _ _).alloc _;have hmx:=hx.cell hm id;have hcount:=Lib.countB_le ⟨#[33]⟩ (by decide) _ d.orig (Nat.le_refl _);have hcount2:d.orig.size+Lib.countB d.orig ⟨#[33]⟩*(⟨#[47]⟩:ByteArray).size<=140737488355328:=by
  show d.orig.size+Lib.countB d.orig ⟨#[33]⟩*1<=_
  omega
 have hsz:(⟨(Lib.replaceAll d.orig.data.toList (⟨#[33]⟩:ByteArray).data.toList (⟨#[47]⟩:ByteArray).data.toList).toArray⟩:ByteArray).size<=3000000:=by
  have h:=zBX d.orig.data.toList (⟨#[33]⟩:ByteArray).data.toList (⟨#[47]⟩:ByteArray).data.toList;have e1:d.orig.data.toList.length=d.orig.size:=Array.length_toList;have e2:(⟨#[47]⟩:ByteArray).data.toList.length=1:=rfl;rw[e1,e2]at h;show (Array.size (List.toArray _))<=_
  rw[List.size_toArray];omega
 have Hcount:=Lib.hid hcount2;have Hsz:=Lib.hid hsz;clear hcount hcount2 hsz;unfold Dev.vals at *;by_cases h2:d.kind=2
 all_goals first | (have b2:(d.kind != 2)=false:=by simp[h2]) | (have b2:(d.kind != 2)=true:=by simp[h2])
 all_goals by_cases h3:d.kind=3
 all_goals first | (have b3:(d.kind != 3)=false:=by simp[h3]) | (have b3:(d.kind != 3)=true:=by simp[h3])
 all_goals
  have H2:=Lib.hid h2;have H3:=Lib.hid h3;clear h2 h3
  go_enter Tryz.func70,Tryz.ntmps70
  go_wp2_with fail
 all_goals first
  | (refine bodyPost_ret (v:=.tuple #[.string ⟨#[]⟩,.bool false]) (by simp[results,Tryz.results70,go_sem]) rfl ?_
     exact⟨⟨⟨#[]⟩,by decide,by rw[show (decide (d.kind=2)||decide (d.kind=3))=false from by simp[H2.out,H3.out]]⟩,hx⟩)
  | (refine(Tryz.strings_ReplaceAll d.orig ⟨#[33]⟩ ⟨#[47]⟩ m _ (by omega) hmx (by decide) Hcount.out).mono ?_
     rintro e w1 ⟨rfl,hb⟩
     go_wp2_with fail
     refine bodyPost_ret (v:=.tuple #[.string ⟨(Lib.replaceAll d.orig.data.toList [33] [47]).toArray⟩,.bool true]) (by simp[results,Tryz.results70,go_sem]) rfl ?_;exact⟨⟨_,Hsz.out,by rw[show (decide (d.kind=2)||decide (d.kind=3))=true from by first | (simp[H2.out];done) | (simp[H3.out];done)]⟩,hx.step (Fr.of_below_size hb) (fun _ _ h=>h)⟩)
theorem zCg (sep:ByteArray):∀ (k:Nat) (s x:ByteArray),x∈Lib.splitB sep 0 k s->x.size<=s.size
 | 0,s,x,h=>by
  rw[Lib.splitB_zero]at h;simp at h;subst h;exact Nat.le_refl _
 | k+1,s,x,h=>by
  unfold Lib.splitB at h;split at h
  ·simp at h;subst h;exact Nat.le_refl _
  ·rcases List.mem_cons.1 h with h | h
   ·subst h;rw[ByteArray.size_extract];omega
   ·have h1:=zCg sep k _ x h;rw[ByteArray.size_extract]at h1;omega
theorem zKd (s:ByteArray)(m:Int)(w:World)(hs:s.size<=3000000)(hm:w.cell? ⟨0,0,none⟩=some (.int .i64 m)):
  Calls Tryz.prog 72 #[.string s] w fun e w'=>RetB e/\Fr No w w':=by
 go_enter Tryz.func72,Tryz.ntmps72
 go_wp2_with fail
 refine(Tryz.strings_Split s ⟨#[47]⟩ m _ (by omega) hm (by decide)).mono ?_;rintro e w1 ⟨rfl,rfl⟩;have hlen:=Lib.splitB_all ⟨#[47]⟩ (by decide) 0 _ s rfl;have hcnt:=Lib.countB_le ⟨#[47]⟩ (by decide) _ s (Nat.le_refl _);have hsize:=zCg ⟨#[47]⟩ (Lib.countB s ⟨#[47]⟩) s;generalize hN:Lib.countB s ⟨#[47]⟩=N at *;generalize hL:Lib.splitB ⟨#[47]⟩ 0 N s=L at *;have Hlen:=Lib.hid hlen;have Hsize:=Lib.hid hsize;have hblk:=zD w (.cells (L.map Value.string).toArray 9);have hf1:Fr No w (w.alloc (.cells (L.map Value.string).toArray 9)):=(Fr.refl _ _).alloc _;generalize hW:w.alloc (.cells (L.map Value.string).toArray 9)=W at *;have hcell:Hid (∀ (i:Nat) x,L[i]?=some x->W.cell? ⟨w.heap.size,i,none⟩=some (.string x)):=by
  intro i x hx;rw[zB hblk];simp[hx]
 clear hW hN hL hlen hsize hblk
 go_wp2_with fail
 go_loopw [4] (fun i wr=>∃ k:Nat,k<=N+1/\i=.int .i64 (k:Int)/\wr=W) (fun i _=>N+1-(intOf i).toNat)
 case atStart=>exact⟨0,by omega,rfl,rfl⟩
 case round=>
  obtain⟨k,hk,rfl,rfl⟩:=hrel;by_cases hlt:k<N+1
  ·obtain⟨x,hx⟩:∃ x,L[k]?=some x:=⟨_,List.getElem?_eq_getElem (by rw[Hlen.out];exact hlt)⟩
   have hc:=hcell.out k x hx;have hxs:x.size<=maxLen:=by have:=Hsize.out x (List.mem_of_getElem? hx);unfold maxLen;omega
   clear hx
   go_wp2_with fail
   all_goals first
    | (go_ret;exact⟨RetB.mk false,hf1⟩)
    | (refine(t_in x _ _ hxs).mono ?_
       rintro e w2 ⟨⟨b,rfl⟩,rfl⟩;cases b
       ·go_wp2_with fail
        go_ret;exact⟨RetB.mk false,hf1⟩
       ·go_wp2_with fail
        all_goals first
         | (go_ret;exact⟨RetB.mk false,hf1⟩)
         | exact⟨⟨k+1,by omega,by congr 1,trivial⟩,by simp[intOf];omega⟩)
  ·go_wp2_with fail
   go_ret;exact⟨RetB.mk _,hf1⟩
theorem cl2 {W:World}{b:Nat}{v0 v1:Value}{t:List Value}{T:TypeId}{fz:Nat×Nat}(h:W.heap[b]?=some (.cells (List.toArray (v0::v1::t)) T fz)):W.cell? ⟨b,0,none⟩=some v0/\W.cell? ⟨b,1,none⟩=some v1:=⟨zB h 0,zB h 1⟩
theorem fl2 {W:World}{b:Nat}{cs:Array Value}{T:TypeId}(h:W.heap[b]?=some (.cells cs T)):W.frozen? ⟨b,0,none⟩=false/\W.frozen? ⟨b,1,none⟩=false:=⟨zC h 0,zC h 1⟩
theorem cl3 {W:World}{b:Nat}{v0 v1 v2:Value}{t:List Value}{T:TypeId}{fz:Nat×Nat}(h:W.heap[b]?=some (.cells (List.toArray (v0::v1::v2::t)) T fz)):W.cell? ⟨b,0,none⟩=some v0/\W.cell? ⟨b,1,none⟩=some v1/\W.cell? ⟨b,2,none⟩=some v2:=⟨zB h 0,zB h 1,zB h 2⟩
theorem fl3 {W:World}{b:Nat}{cs:Array Value}{T:TypeId}(h:W.heap[b]?=some (.cells cs T)):W.frozen? ⟨b,0,none⟩=false/\W.frozen? ⟨b,1,none⟩=false/\W.frozen? ⟨b,2,none⟩=false:=⟨zC h 0,zC h 1,zC h 2⟩
theorem cl4 {W:World}{b:Nat}{v0 v1 v2 v3:Value}{t:List Value}{T:TypeId}{fz:Nat×Nat}(h:W.heap[b]?=some (.cells (List.toArray (v0::v1::v2::v3::t)) T fz)):W.cell? ⟨b,0,none⟩=some v0/\W.cell? ⟨b,1,none⟩=some v1/\W.cell? ⟨b,2,none⟩=some v2/\W.cell? ⟨b,3,none⟩=some v3:=⟨zB h 0,zB h 1,zB h 2,zB h 3⟩
theorem fl4 {W:World}{b:Nat}{cs:Array Value}{T:TypeId}(h:W.heap[b]?=some (.cells cs T)):W.frozen? ⟨b,0,none⟩=false/\W.frozen? ⟨b,1,none⟩=false/\W.frozen? ⟨b,2,none⟩=false/\W.frozen? ⟨b,3,none⟩=false:=⟨zC h 0,zC h 1,zC h 2,zC h 3⟩
theorem cl5 {W:World}{b:Nat}{v0 v1 v2 v3 v4:Value}{t:List Value}{T:TypeId}{fz:Nat×Nat}(h:W.heap[b]?=some (.cells (List.toArray (v0::v1::v2::v3::v4::t)) T fz)):W.cell? ⟨b,0,none⟩=some v0/\W.cell? ⟨b,1,none⟩=some v1/\W.cell? ⟨b,2,none⟩=some v2/\W.cell? ⟨b,3,none⟩=some v3/\W.cell? ⟨b,4,none⟩=some v4:=⟨zB h 0,zB h 1,zB h 2,zB h 3,zB h 4⟩
theorem fl5 {W:World}{b:Nat}{cs:Array Value}{T:TypeId}(h:W.heap[b]?=some (.cells cs T)):W.frozen? ⟨b,0,none⟩=false/\W.frozen? ⟨b,1,none⟩=false/\W.frozen? ⟨b,2,none⟩=false/\W.frozen? ⟨b,3,none⟩=false/\W.frozen? ⟨b,4,none⟩=false:=⟨zC h 0,zC h 1,zC h 2,zC h 3,zC h 4⟩
theorem cl6 {W:World}{b:Nat}{v0 v1 v2 v3 v4 v5:Value}{t:List Value}{T:TypeId}{fz:Nat×Nat}(h:W.heap[b]?=some (.cells (List.toArray (v0::v1::v2::v3::v4::v5::t)) T fz)):W.cell? ⟨b,0,none⟩=some v0/\W.cell? ⟨b,1,none⟩=some v1/\W.cell? ⟨b,2,none⟩=some v2/\W.cell? ⟨b,3,none⟩=some v3/\W.cell? ⟨b,4,none⟩=some v4/\W.cell? ⟨b,5,none⟩=some v5:=⟨zB h 0,zB h 1,zB h 2,zB h 3,zB h 4,zB h 5⟩
theorem fl6 {W:World}{b:Nat}{cs:Array Value}{T:TypeId}(h:W.heap[b]?=some (.cells cs T)):W.frozen? ⟨b,0,none⟩=false/\W.frozen? ⟨b,1,none⟩=false/\W.frozen? ⟨b,2,none⟩=false/\W.frozen? ⟨b,3,none⟩=false/\W.frozen? ⟨b,4,none⟩=false/\W.frozen? ⟨b,5,none⟩=false:=⟨zC h 0,zC h 1,zC h 2,zC h 3,zC h 4,zC h 5⟩
theorem cl7 {W:World}{b:Nat}{v0 v1 v2 v3 v4 v5 v6:Value}{t:List Value}{T:TypeId}{fz:Nat×Nat}(h:W.heap[b]?=some (.cells (List.toArray (v0::v1::v2::v3::v4::v5::v6::t)) T fz)):W.cell? ⟨b,0,none⟩=some v0/\W.cell? ⟨b,1,none⟩=some v1/\W.cell? ⟨b,2,none⟩=some v2/\W.cell? ⟨b,3,none⟩=some v3/\W.cell? ⟨b,4,none⟩=some v4/\W.cell? ⟨b,5,none⟩=some v5/\W.cell? ⟨b,6,none⟩=some v6:=⟨zB h 0,zB h 1,zB h 2,zB h 3,zB h 4,zB h 5,zB h 6⟩
theorem fl7 {W:World}{b:Nat}{cs:Array Value}{T:TypeId}(h:W.heap[b]?=some (.cells cs T)):W.frozen? ⟨b,0,none⟩=false/\W.frozen? ⟨b,1,none⟩=false/\W.frozen? ⟨b,2,none⟩=false/\W.frozen? ⟨b,3,none⟩=false/\W.frozen? ⟨b,4,none⟩=false/\W.frozen? ⟨b,5,none⟩=false/\W.frozen? ⟨b,6,none⟩=false:=⟨zC h 0,zC h 1,zC h 2,zC h 3,zC h 4,zC h 5,zC h 6⟩
theorem cl8 {W:World}{b:Nat}{v0 v1 v2 v3 v4 v5 v6 v7:Value}{t:List Value}{T:TypeId}{fz:Nat×Nat}(h:W.heap[b]?=some (.cells (List.toArray (v0::v1::v2::v3::v4::v5::v6::v7::t)) T fz)):W.cell? ⟨b,0,none⟩=some v0/\W.cell? ⟨b,1,none⟩=some v1/\W.cell? ⟨b,2,none⟩=some v2/\W.cell? ⟨b,3,none⟩=some v3/\W.cell? ⟨b,4,none⟩=some v4/\W.cell? ⟨b,5,none⟩=some v5/\W.cell? ⟨b,6,none⟩=some v6/\W.cell? ⟨b,7,none⟩=some v7:=⟨zB h 0,zB h 1,zB h 2,zB h 3,zB h 4,zB h 5,zB h 6,zB h 7⟩
theorem cl9 {W:World}{b:Nat}{v0 v1 v2 v3 v4 v5 v6 v7 v8:Value}{t:List Value}{T:TypeId}{fz:Nat×Nat}(h:W.heap[b]?=some (.cells (List.toArray (v0::v1::v2::v3::v4::v5::v6::v7::v8::t)) T fz)):W.cell? ⟨b,0,none⟩=some v0/\W.cell? ⟨b,1,none⟩=some v1/\W.cell? ⟨b,2,none⟩=some v2/\W.cell? ⟨b,3,none⟩=some v3/\W.cell? ⟨b,4,none⟩=some v4/\W.cell? ⟨b,5,none⟩=some v5/\W.cell? ⟨b,6,none⟩=some v6/\W.cell? ⟨b,7,none⟩=some v7/\W.cell? ⟨b,8,none⟩=some v8:=⟨zB h 0,zB h 1,zB h 2,zB h 3,zB h 4,zB h 5,zB h 6,zB h 7,zB h 8⟩
theorem cl10 {W:World}{b:Nat}{v0 v1 v2 v3 v4 v5 v6 v7 v8 v9:Value}{t:List Value}{T:TypeId}{fz:Nat×Nat}(h:W.heap[b]?=some (.cells (List.toArray (v0::v1::v2::v3::v4::v5::v6::v7::v8::v9::t)) T fz)):W.cell? ⟨b,0,none⟩=some v0/\W.cell? ⟨b,1,none⟩=some v1/\W.cell? ⟨b,2,none⟩=some v2/\W.cell? ⟨b,3,none⟩=some v3/\W.cell? ⟨b,4,none⟩=some v4/\W.cell? ⟨b,5,none⟩=some v5/\W.cell? ⟨b,6,none⟩=some v6/\W.cell? ⟨b,7,none⟩=some v7/\W.cell? ⟨b,8,none⟩=some v8/\W.cell? ⟨b,9,none⟩=some v9:=⟨zB h 0,zB h 1,zB h 2,zB h 3,zB h 4,zB h 5,zB h 6,zB h 7,zB h 8,zB h 9⟩
theorem fl10 {W:World}{b:Nat}{cs:Array Value}{T:TypeId}(h:W.heap[b]?=some (.cells cs T)):W.frozen? ⟨b,0,none⟩=false/\W.frozen? ⟨b,1,none⟩=false/\W.frozen? ⟨b,2,none⟩=false/\W.frozen? ⟨b,3,none⟩=false/\W.frozen? ⟨b,4,none⟩=false/\W.frozen? ⟨b,5,none⟩=false/\W.frozen? ⟨b,6,none⟩=false/\W.frozen? ⟨b,7,none⟩=false/\W.frozen? ⟨b,8,none⟩=false/\W.frozen? ⟨b,9,none⟩=false:=⟨zC h 0,zC h 1,zC h 2,zC h 3,zC h 4,zC h 5,zC h 6,zC h 7,zC h 8,zC h 9⟩
theorem cl12 {W:World}{b:Nat}{v0 v1 v2 v3 v4 v5 v6 v7 v8 v9 v10 v11:Value}{t:List Value}{T:TypeId}{fz:Nat×Nat}(h:W.heap[b]?=some (.cells (List.toArray (v0::v1::v2::v3::v4::v5::v6::v7::v8::v9::v10::v11::t)) T fz)):W.cell? ⟨b,0,none⟩=some v0/\W.cell? ⟨b,1,none⟩=some v1/\W.cell? ⟨b,2,none⟩=some v2/\W.cell? ⟨b,3,none⟩=some v3/\W.cell? ⟨b,4,none⟩=some v4/\W.cell? ⟨b,5,none⟩=some v5/\W.cell? ⟨b,6,none⟩=some v6/\W.cell? ⟨b,7,none⟩=some v7/\W.cell? ⟨b,8,none⟩=some v8/\W.cell? ⟨b,9,none⟩=some v9/\W.cell? ⟨b,10,none⟩=some v10/\W.cell? ⟨b,11,none⟩=some v11:=⟨zB h 0,zB h 1,zB h 2,zB h 3,zB h 4,zB h 5,zB h 6,zB h 7,zB h 8,zB h 9,zB h 10,zB h 11⟩
theorem fl12 {W:World}{b:Nat}{cs:Array Value}{T:TypeId}(h:W.heap[b]?=some (.cells cs T)):W.frozen? ⟨b,0,none⟩=false/\W.frozen? ⟨b,1,none⟩=false/\W.frozen? ⟨b,2,none⟩=false/\W.frozen? ⟨b,3,none⟩=false/\W.frozen? ⟨b,4,none⟩=false/\W.frozen? ⟨b,5,none⟩=false/\W.frozen? ⟨b,6,none⟩=false/\W.frozen? ⟨b,7,none⟩=false/\W.frozen? ⟨b,8,none⟩=false/\W.frozen? ⟨b,9,none⟩=false/\W.frozen? ⟨b,10,none⟩=false/\W.frozen? ⟨b,11,none⟩=false:=⟨zC h 0,zC h 1,zC h 2,zC h 3,zC h 4,zC h 5,zC h 6,zC h 7,zC h 8,zC h 9,zC h 10,zC h 11⟩
structure Okay (d:Dev):Prop where
 lo:1<=d.index
 hi:d.index<=1073741824
 plo:0<=d.parent
 ne:d.parent≠d.index
 orig:OkN d.orig
def RetE (p:Prop)(e:Ending):Prop:=∃ er,e=.returned (.int .i64 er)/\(er=0->p)
theorem RetE.no {p:Prop}{er:Int}(h:er≠0):RetE p (.returned (.int .i64 er)):=⟨er,rfl,fun e=>absurd e h⟩
structure Sized (d:Dev):Prop where
 name:d.name.size<=maxLen
 orig:d.orig.size<=maxLen
 sub:d.sub.size<=maxLen
 drv:d.drv.size<=maxLen
 ali:d.ali.size<=maxLen
theorem zJi (d:Dev)(l:List (ByteArray×ByteArray))(m:Int)(w:World)(hs:Sized d)(hl:Atts w d.aa d.ac l)(han:d.an=l.length)(hd:d.drv=⟨#[]⟩)(hm:w.cell? ⟨0,0,none⟩=some (.int .i64 m))(h0:0<w.heap.size):
  Calls Tryz.prog 33 #[.agg d.vals] w fun e w'=>RetE (Okay d) e/\Fr No w w':=by
 obtain⟨ix,pa,nm,og,sb,dr,al,kd,nu,aa,an,ac⟩:=d;dsimp only at han hd hl;subst han hd;generalize hdd:(⟨ix,pa,nm,og,sb,⟨#[]⟩,al,kd,nu,aa,l.length,ac⟩:Dev)=d at hs ⊢;have hd0:d.vals=#[.int .i64 ix,.int .i64 pa,.string nm,.string og,.string sb,.string ⟨#[]⟩,.string al,.int .i64 kd,.int .i64 nu,.slice aa l.length ac]:=by rw[<-hdd];rfl
 have hok:(1<=ix/\ix<=1073741824/\0<=pa/\pa≠ix)->OkN og->Okay d:=fun h1 h2=>by rw[<-hdd];exact⟨h1.1,h1.2.1,h1.2.2.1,h1.2.2.2,h2⟩
 have hvn:#[Value.agg d.vals]=#[.agg #[.int .i64 ix,.int .i64 pa,.string nm,.string og,.string sb,.string ⟨#[]⟩,.string al,.int .i64 kd,.int .i64 nu,.slice aa l.length ac]]:=by rw[hd0]
 have hnode:∀ W:World,OkN og->W.cell? ⟨0,0,none⟩=some (.int .i64 m)->0<W.heap.size->Calls Tryz.prog 70 #[.agg #[.int .i64 ix,.int .i64 pa,.string nm,.string og,.string sb,.string ⟨#[]⟩,.string al,.int .i64 kd,.int .i64 nu,.slice aa l.length ac]] W fun e w'=>(∃ s,s.size<=3000000/\e=.returned (.tuple #[.string s,.bool (decide (kd=2)||decide (kd=3))]))/\Fr No W w':=fun W h1 h2 h3=>by
  have:=zG8 ⟨ix,pa,nm,og,sb,⟨#[]⟩,al,kd,nu,aa,l.length,ac⟩ m W (by show og.size<=_;have:=h1.1;omega) h2 h3;exact this
 have Hok:=Lib.hid hok;have Hnode:=Lib.hid hnode;have Hs:Hid (nm.size<=maxLen/\og.size<=maxLen/\sb.size<=maxLen/\al.size<=maxLen):=by rw[<-hdd]at hs;exact⟨hs.name,hs.orig,hs.sub,hs.ali⟩
 rw[hvn];clear hok hnode hd0 hvn hdd hs;have hx:Fr No w (w.alloc (.cells #[.int .i64 ix,.int .i64 pa,.string nm,.string og,.string sb,.string ⟨#[]⟩,.string al,.int .i64 kd,.int .i64 nu,.slice aa l.length ac] 34)):=(Fr.refl _ _).alloc _;have hbx:=zD w (.cells #[.int .i64 ix,.int .i64 pa,.string nm,.string og,.string sb,.string ⟨#[]⟩,.string al,.int .i64 kd,.int .i64 nu,.slice aa l.length ac] 34);have hmx:=hx.cell hm id;have hlx:=hl.no hx (fun _=>id);have h0x:0<(w.alloc (.cells #[.int .i64 ix,.int .i64 pa,.string nm,.string og,.string sb,.string ⟨#[]⟩,.string al,.int .i64 kd,.int .i64 nu,.slice aa l.length ac] 34)).heap.size:=by simp
 have hlm:=hl.lenmax;clear hm hl
 go_enter Tryz.func33,Tryz.ntmps33
 go_upto_region 1 with(fail)
 generalize w.alloc (.cells #[.int .i64 ix,.int .i64 pa,.string nm,.string og,.string sb,.string ⟨#[]⟩,.string al,.int .i64 kd,.int .i64 nu,.slice aa l.length ac] 34)=W0 at *;obtain⟨c0,c1,c2,c3,c4,c5,c6,c7,c8,c9⟩:=cl10 hbx
 go_cut [30] (fun v wx=>(∃ b,v=.bool b/\(b=false->1<=ix/\ix<=1073741824/\0<=pa/\pa≠ix))/\W0=wx)
 case first=>
  go_wp2_with fail
  all_goals
   go_meet
   exact⟨⟨_,rfl,fun h=>⟨by first | omega | simp_all,by first | omega | simp_all,by first | omega | simp_all,by simp_all⟩⟩,rfl⟩
 case rest=>
  obtain⟨⟨b,rfl,hnum⟩,rfl⟩:=hcut;have Hnum0:=Lib.hid hnum;clear hnum;cases b
  case true=>
   go_wp2_with fail
   go_ret;exact⟨RetE.no (by decide),hx⟩
  have Hnum:Hid (1<=ix/\ix<=1073741824/\0<=pa/\pa≠ix):=Hnum0.out rfl;clear Hnum0
  go_wp2_with fail
  refine(zCc nm _ Hs.out.1).mono ?_;rintro e w1 ⟨⟨b,rfl,-⟩,rfl⟩;cases b
  ·go_wp2_with fail
   go_ret;exact⟨RetE.no (by decide),hx⟩
  go_wp2_with fail
  refine(zCc og _ Hs.out.2.1).mono ?_;rintro e w1 ⟨⟨b,rfl,ho⟩,rfl⟩;have Ho:=Lib.hid ho;clear ho;cases b
  ·go_wp2_with fail
   go_ret;exact⟨RetE.no (by decide),hx⟩
  have Horig:Hid (OkN og):=Ho.out rfl;clear Ho
  go_wp2_with fail
  refine(zCc sb _ Hs.out.2.2.1).mono ?_;rintro e w1 ⟨⟨b,rfl,-⟩,rfl⟩;cases b
  ·go_wp2_with fail
   go_ret;exact⟨RetE.no (by decide),hx⟩
  go_wp2_with fail
  refine(zJD al _ Hs.out.2.2.2).mono ?_;rintro e w1 ⟨⟨b,rfl⟩,rfl⟩;cases b
  ·go_wp2_with fail
   go_ret;exact⟨RetE.no (by decide),hx⟩
  go_upto_region 5 with(fail)
  go_cut [71] (fun v wx=>(∃ b,v=.bool b)/\W0=wx)
  case first=>
   go_wp2_with fail
   all_goals
    go_meet
    exact⟨⟨_,rfl⟩,rfl⟩
  case rest=>
   obtain⟨⟨b,rfl⟩,rfl⟩:=hcut;cases b
   case true=>
    go_wp2_with fail
    go_ret;exact⟨RetE.no (by decide),hx⟩
   go_upto_region 7 with(fail)
   go_cut [98] (fun v wx=>(∃ b,v=.bool b)/\W0=wx)
   case first=>
    by_cases kn:kd=4
    ·subst kn
     go_wp2_with fail
     refine(zCd nm _ Hs.out.1).mono ?_;rintro e w1 ⟨⟨b,rfl⟩,rfl⟩;cases b
     ·go_wp2_with fail
      go_meet
      exact⟨⟨_,rfl⟩,rfl⟩
     ·go_wp2_with fail
      refine(zCd og _ Hs.out.2.1).mono ?_;rintro e w1 ⟨⟨b,rfl⟩,rfl⟩;cases b
      all_goals
       go_wp2_with fail
       go_meet
       exact⟨⟨_,rfl⟩,rfl⟩
    ·have kb:(kd==4)=false:=by simpa using kn
     have kb':(kd != 4)=true:=by simpa using kn
     go_wp2_with fail
     all_goals
      go_meet
      exact⟨⟨_,rfl⟩,rfl⟩
   case rest=>
    obtain⟨⟨b,rfl⟩,rfl⟩:=hcut;cases b
    case true=>
     go_wp2_with fail
     go_ret;exact⟨RetE.no (by decide),hx⟩
    go_wp2_with fail
    refine(Hnode.out _ Horig.out hmx h0x).mono ?_;rintro e w2 ⟨⟨node,hns,rfl⟩,hf2⟩;generalize (decide (kd=2)||decide (kd=3))=has;have hx2:=hx.step hf2 (fun _ _ h=>h);have hb2:=hf2.heap hbx id;have hl2:=hlx.no hf2 (fun _=>id);have hm2:=hf2.cell hmx id;obtain⟨-,-,-,-,-,-,-,-,e8,e9⟩:=cl10 hb2;clear c0 c1 c2 c3 c4 c5 c6 c7 c8 c9 hbx hlx hmx hx hf2 h0x
    go_upto_region 10 with(fail)
    go_cut [123] (fun v wx=>(∃ b,v=.bool b)/\w2=wx)
    case first=>
     cases has
     all_goals
      go_wp2_with fail
      all_goals
       go_meet
       exact⟨⟨_,rfl⟩,rfl⟩
    case rest=>
     obtain⟨⟨b,rfl⟩,rfl⟩:=hcut;cases b
     case true=>
      go_wp2_with fail
      go_ret;exact⟨RetE.no (by decide),hx2⟩
     by_cases h24:24<l.length
     ·have h24':(24:Int)<l.length:=by omega
      go_wp2_with fail
      go_ret;exact⟨RetE.no (by decide),hx2⟩
     have h24':¬ (24:Int)<l.length:=by omega
     go_wp2_with fail
     go_loop [5] (fun i=>∃ k:Nat,k<=l.length/\i=.int .i64 k) (fun i=>l.length-(intOf i).toNat)
     case atStart=>exact⟨0,by omega,rfl⟩
     case round=>
      obtain⟨k,hk,rfl⟩:=hrel;by_cases hlt:k<l.length
      ·obtain⟨b,off,x,y,rfl,-,sx,sy,d0,d1⟩:=hl2.at hlt
       go_wp2_with fail
       refine(zCc x _ sx).mono ?_;rintro e w3 ⟨⟨b,rfl,-⟩,rfl⟩;cases b
       ·go_wp2_with fail
        go_ret;exact⟨RetE.no (by decide),hx2⟩
       go_wp2_with fail
       refine(zJD y _ sy).mono ?_;rintro e w3 ⟨⟨b,rfl⟩,rfl⟩;cases b
       ·go_wp2_with fail
        go_ret;exact⟨RetE.no (by decide),hx2⟩
       go_wp2_with fail
       all_goals first
        | (go_ret;exact⟨RetE.no (by decide),hx2⟩)
        | (go_round
           case rel=>exact⟨k+1,by omega,by go_num⟩
           case measure=>simp[intOf];omega)
      ·go_wp2_with fail
       refine(zIM aa ac l _ hl2).mono ?_;rintro e w3 ⟨⟨b,rfl⟩,hf3⟩;have hx3:=hx2.step hf3 (fun _ _ h=>h);have hm3:=hf3.cell hm2 id;cases b
       ·go_wp2_with fail
        go_ret;exact⟨RetE.no (by decide),hx3⟩
       cases has
       ·go_wp2_with fail
        go_ret;exact⟨⟨0,rfl,fun _=>Hok.out Hnum.out Horig.out⟩,hx3⟩
       ·go_wp2_with fail
        refine(zKd node m _ hns hm3).mono ?_;rintro e w4 ⟨⟨b,rfl⟩,hf4⟩;have hx4:=hx3.step hf4 (fun _ _ h=>h);cases b
        ·go_wp2_with fail
         go_ret;exact⟨RetE.no (by decide),hx4⟩
        ·go_wp2_with fail
         go_ret;exact⟨⟨0,rfl,fun _=>Hok.out Hnum.out Horig.out⟩,hx4⟩
end Go.Proofs.YtmajgldaplkpiaaGreatDoor
