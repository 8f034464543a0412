import Derived.TacticsIn
import Derived.Test.YtmajgldaplkpiaaGreatDoorQ13
import Derived.Lib.SplitLaws
import Derived.Laws.EntriesVeiled
namespace Go.Proofs.YtmajgldaplkpiaaGreatDoor
open Go.RowKit Go.Maps Go.Shelf
set_option linter.unusedVariables false
set_option maxRecDepth 100000
set_option maxHeartbeats 4000000
def zFg (l:List Oper):Bool:=l.all fun o=>match o.op with | .defer _=>false | _=>true
theorem zJ0 {P:Program}{r n:Nat}{o:Oper}{a:Act}{w:World}{K K' K0:Act->World->Prop}(hd:∀ c,o.op≠.defer c)(h:o.wp P a w K (OnlyN K0))(hK:∀ a w,K a w->K' a w):o.wpIn (Fence.wide.inRound r) n P a w K' (OnlyN K0):=by
 refine⟨fun _ _=>trivial,?_⟩;unfold Oper.wp at h;rw[show (Fence.wide.inRound r).round=some r from rfl,Oper.semAt_some r _ _ hd];generalize (execOp a.eval o).run P w=x at *;cases x with
 | ok x w'=>
  cases x with
  | value v=>exact hK _ _ h
  | skip=>exact hK _ _ h
  | defer d=>exact hK _ _ h
  | enter f args=>
   refine⟨(fun e=>by cases e),(show CallsIn (Fence.wide.inRound r) (n-1) P f args w' _ from(callsIn_wide.2 (Calls.mono h (fun e w'' he=>?_)):CallsIn Fence.wide (n-1) P f args w' _))⟩;cases e with
   | returned v=>exact hK _ _ he
   | panicked c=>exact he
   | outgrown=>exact he
  | row row args=>
   refine⟨(fun e=>by cases e),(show RowsIn (Fence.wide.inRound r) (n-1) P row args w' _ from fun c cs _=>?_)⟩;obtain⟨v,w'',hv,hs⟩:=h c cs;exact⟨v,w'',hK _ _ hv,stepsIn_wide.2 hs⟩
  | _=>exact h.elim
 | halt x w'=>cases x<;>first | exact h | exact h.elim
theorem zBp {P:Program}{r n:Nat}{ops:Array Oper}{K0:Act->World->Prop}(hd:∀ (i:Nat) (o:Oper),ops[i]?=some o->∀ c,o.op≠Op.defer c):∀ (is:List Nat) (a:Act) (w:World),wpOps P ops (OnlyN K0) is a w->wpOpsIn (Fence.wide.inRound r) n P ops (OnlyN K0) is a w
 | [],a,w,h=>h
 | i::rest,a,w,h=>by
  unfold wpOps at h;unfold wpOpsIn;split
  ·rename_i hi;rw[hi]at h;exact zBp hd rest _ _ h
  ·rename_i o hi;rw[hi]at h;simp only at h;split
   ·rename_i hw;rw[if_pos hw]at h;rcases h with h | ⟨_,_,_,h⟩
    ·exact zJ0 (hd i o hi) h (fun a w h=>zBp hd rest a w h)
    ·exact h.elim
   ·rename_i hw;rw[if_neg hw]at h;exact⟨fun _ _=>trivial,zBp hd rest _ _ h⟩
theorem zDp {P:Program}{Q:Exit->Act->World->Prop}{l:List Oper}{a:Act}{w:World}{r n:Nat}{id:Nat}(T:Nat->Prop)(σ:List (Nat×Bool))(hm:P.follows .mixedOrders=true)
  (hB:(Region.noSelect l.toArray&&(σ.length==l.length)&&schedB l.toArray σ (Array.replicate l.toArray.size false)&&zFg l)=true)
  (h:∀ w0,Fr No w w0->wpSig P l Q T σ a w0):(Code.region id l.toArray true).wpIn (Fence.wide.inRound r) n P Q a w:=by
 simp only[Bool.and_eq_true,beq_iff_eq]at hB;have h1:=zAf (Q:=Q) hB.1.1.1 σ _ a w.drew hB.1.2 (h _ ((Fr.refl No w).drew));have h2:l.toArray.size=σ.length:=by simp[hB.1.1.2]
 rw[<-h2]at h1;have h3:=wpAny_of_held _ _ _ _ h1;have hd:∀ (i:Nat) (o:Oper),l.toArray[i]?=some o->∀ c,o.op≠Op.defer c:=fun i o hi c hc=>by
  have hm:o∈l:=by rw[List.getElem?_toArray]at hi;exact List.mem_of_getElem? hi
  have h5:=List.all_eq_true.1 hB.2 o hm;rw[hc]at h5;cases h5
 refine wpIn_mono (Q:=OnlyN (Q .normal)) (wpIn_region_draw fun t=>?_) fun e a w h=>?_
 ·simp only[Region.schedule,hm,Bool.true_or,if_true];exact zBp hd _ _ _ (wpAny_sound l.toArray.size t _ a _ h3)
 ·cases e<;>first | exact h | exact h.elim
theorem zDK {P:Program}{l:List Oper}{a:Act}{w:World}{r n:Nat}{id:Nat}{Q:Exit->Act->World->Prop}(T:Nat->Prop)(σ:Sg)(M:Act->World->Prop)(hm:P.follows .mixedOrders=true)
  (hB:(Region.noSelect l.toArray&&(σ.size==l.length)&&schedT l.toArray σ (Array.replicate l.toArray.size false)&&zFg l)=true)
  (h:∀ w0,Fr No w w0->wpSg P l M T σ a w0) (hM:∀ a' w',M a' w'->Q .normal a' w'):(Code.region id l.toArray true).wpIn (Fence.wide.inRound r) n P Q a w:=by
 simp only[Bool.and_eq_true,beq_iff_eq]at hB;have h1:=anyT (M:=M) hB.1.1.1 σ _ a w.drew hB.1.2 (h _ ((Fr.refl No w).drew));have h2:l.toArray.size=σ.size:=by simp[hB.1.1.2]
 rw[<-h2]at h1;have h3:=wpAny_of_held _ _ _ _ h1;have hd:∀ (i:Nat) (o:Oper),l.toArray[i]?=some o->∀ c,o.op≠Op.defer c:=fun i o hi c hc=>by
  have hm:o∈l:=by rw[List.getElem?_toArray]at hi;exact List.mem_of_getElem? hi
  have h5:=List.all_eq_true.1 hB.2 o hm;rw[hc]at h5;cases h5
 refine wpIn_mono (Q:=OnlyN M) (wpIn_region_draw fun t=>?_) fun e a w h=>?_
 ·simp only[Region.schedule,hm,Bool.true_or,if_true];exact zBp hd _ _ _ (wpAny_sound l.toArray.size t _ a _ h3)
 ·cases e<;>first | exact hM _ _ h | exact h.elim
attribute [local go_sem] Oper.semAt_some
attribute [local go_sem] Oper.semAt_some
structure PathI (w0:World)(B6:Nat)(pre:List Dev)(V:Nat->Prop)(W:World):Prop where
 txt:∃ s,W.heap[B6]?=some (.cells #[.string s] 9)/\s.size<=1001*pre.length
 foot:∀ b,V b↔b=B6
 fr:Fr (From w0.heap.size) w0 W
theorem zG3 (a:Option Addr)(cap base:Nat)(ds:List Dev)(n:Int)(w:World)(hl:Tr w base a cap ds)(hn:ds.length<=1000)(hx:(Lit.int .i64 n).wf=true)(hnm:∀ d∈ds,d.name.size<=1000):
  Calls Tryz.prog 141 #[.agg #[.slice a ds.length cap],.int .i64 n] w fun e w'=>(∃ s b,e=.returned (.tuple #[.string s,.bool b]))/\Fr No w w':=by
 have hT:=hl.wf.1;refine(callsIn_wide (n:=12)).1 (callsIn_of_wp_marks Tryz.func141 rfl trivial (wpIn_wide.2 ?_));simp only[Tryz.ntmps141,List.size_toArray,List.length_cons,List.length_nil,Nat.reduceAdd,Nat.reduceSub,Array.replicate_succ,Array.replicate_zero,List.push_toArray,List.append_toArray,List.nil_append,List.cons_append];obtain⟨W0,hW0⟩:∃ W0,W0=(w.alloc (.cells #[.slice a ds.length cap] 28)).alloc (.cells #[.string ⟨#[]⟩] 9):=⟨_,rfl⟩
 have hW:Fr No w W0:=by rw[hW0];exact((Fr.refl _ _).alloc _).alloc _
 have b2:W0.heap[w.heap.size]?=some (.cells #[.slice a ds.length cap] 28):=by rw[hW0];exact zL _ _ _
 have b6:W0.heap[w.heap.size+1]?=some (.cells #[.string ⟨#[]⟩] 9):=by rw[hW0];exact zP _ _ _
 have t2:W0.cell? ⟨w.heap.size,0,none⟩=some (.slice a ds.length cap):=zB b2 0
 go_upto_region 2 with(fail)
 rw[<-hW0];clear hW0;have hlook:=zBi a cap ds W0 (hl.dv.no hW (fun _=>id)) hT hn
 go_wp2_with fail
 refine hlook.mono ?_;rintro e w1 ⟨⟨m1,m2,rfl,hm1,hm2,hm12,hI,hS⟩,hf1⟩;clear hlook t2
 go_wp2_with fail
 refine(zJa _ _ _ _ _).mono ?_;rintro e w2 ⟨rfl,rfl⟩;have hs1:=hf1.size;have hs0:=zE b6;have hf2:Fr No w1 ((w1.alloc (.cells #[.slice a ds.length cap,.map (some m1),.map (some m2)] 97)).alloc (.cells #[.int .i64 n] 3)):=((Fr.refl _ _).alloc _).alloc _;have hUp:UpAt ((w1.alloc (.cells #[.slice a ds.length cap,.map (some m1),.map (some m2)] 97)).alloc (.cells #[.int .i64 n] 3)) a cap ds m1 m2 w1.heap.size (w1.heap.size+1):=
  ⟨((hl.dv.no hW (fun _=>id)).no hf1 (fun _=>id)).no hf2 (fun _=>id),VAt.fr ⟨hI,hS⟩ hf2 id id,zL _ _ _⟩
 have hbn:=zP w1 (.cells #[.slice a ds.length cap,.map (some m1),.map (some m2)] 97) (.cells #[.int .i64 n] 3);have hsz:((w1.alloc (.cells #[.slice a ds.length cap,.map (some m1),.map (some m2)] 97)).alloc (.cells #[.int .i64 n] 3)).heap.size=w1.heap.size+2:=by simp
 have d6:=hf2.heap (hf1.heap b6 id) id;have hfw:=(hW.step hf1 (fun _ _ h=>h)).step hf2 (fun _ _ h=>h);have hm1l:m1<w1.heap.size:=hI.lt;have hm2l:m2<w1.heap.size:=hS.lt;have hal:∀ ad,a=some ad->ds≠[]->ad.block<w.heap.size:=fun ad e hne=>(hl.dv.cell ad e hne).2.1
 have hww:=hW.size;clear hI hS b2 b6 hf2 hf1 hW
 go_wp2_with fail
 generalize (w1.alloc (.cells #[.slice a ds.length cap,.map (some m1),.map (some m2)] 97)).alloc (.cells #[.int .i64 n] 3)=W2 at *;refine(wpIn_wide (n:=12)).1 (zAw (α:=Dev) (T:=Is (w1.heap.size+1)) (V0:=Is (w.heap.size+1)) rfl (by omega) (gf:=256) (lb:=#[.pointer (some ⟨w1.heap.size,0,none⟩),.pointer (some ⟨w1.heap.size+1,0,none⟩)]) rfl trivial (enters_of Tryz.func256 (by kernel_rfl) rfl) (encs:=fun d:Dev=>#[.agg d.vals]) (fun _=>rfl) (fun b h=>by unfold Is at h;omega) (fun b h=>by unfold Is at h;omega)
  (zIH 11 (by omega) a cap ds m1 m2 w1.heap.size (w1.heap.size+1) n W2 (Is (w.heap.size+1)) hUp hT hbn hx ⟨by omega,by omega,by omega,fun ad e hne h=>by have:=hal ad e hne;omega⟩ ⟨by omega,by omega⟩ ⟨fun h=>by unfold Is at h;omega,fun h=>by unfold Is at h;omega,fun h=>by unfold Is at h;omega,fun h=>by unfold Is at h;omega,fun ad e hne h=>by have:=hal ad e hne;unfold Is at h;omega⟩)
  (PathI w (w.heap.size+1)) (fun _ _ _ h b hb=>by obtain⟨s,h1,_⟩:=h.txt;rw[(h.foot b).1 hb];exact zE h1) (fun s V A B S h hf hS=>by
   obtain⟨t,h1,h2⟩:=h.txt;exact⟨⟨t,hf.heap h1 (fun hb=>(hS _ hb).1 ((h.foot _).2 rfl)),h2⟩,h.foot,h.fr.step hf (fun b hb hs=>by
    rcases(hS b hs).2 with h' | h'
    ·unfold Is at h';unfold From;omega
    ·unfold From;omega)⟩)
  ⟨⟨⟨#[]⟩,d6,Nat.zero_le _⟩,fun b=>Iff.rfl,hfw.mono (fun _ _ h=>h.elim)⟩
  (fun x V a' W=>∃ Bx,W2.heap.size+2<=Bx/\W.heap[Bx]?=some (.cells x.vals 34)/\¬ V Bx/\a'={ tmps:=#[.agg #[.slice a ds.length cap],.int .i64 n,.pointer (some ⟨w.heap.size,0,none⟩),undef,.string ⟨#[]⟩,.bool false,.pointer (some ⟨w.heap.size+1,0,none⟩),.pointer (some ⟨Bx,0,none⟩),.agg #[.slice a ds.length cap],.agg #[.slice a ds.length cap,.map (some m1),.map (some m2)],.int .i64 n,.func (.func 256) #[] #[.pointer (some ⟨w1.heap.size,0,none⟩),.pointer (some ⟨w1.heap.size+1,0,none⟩)],.agg x.vals,undef,undef,undef,undef,undef,undef,undef,undef],defers:=[] })
  (fun x V a' A B h hf=>by obtain⟨Bx,h1,h2,h3,h4⟩:=h;exact⟨Bx,h1,hf.heap h2 (fun e=>by unfold Is at e;omega),h3,h4⟩)
  ?assign ?body ?done)
 case assign=>
  intro l pre V x W K hi hsz2 hK;have hlt:∀ b,V b->b<W.heap.size:=fun b hb=>by obtain⟨s,h1,_⟩:=hi.txt;rw[(hi.foot b).1 hb];exact zE h1
  have hK':=fun a' W' (h1:Fr No W W') h2=>hK a' W' h1 h2
  clear hnm hal hsz hbn hUp hfw hww d6 hl hT;unfold Dev.vals
  gi_wp2
  exact hK _ _ ((Fr.refl _ _).alloc _) ⟨W.heap.size,hsz2,zD _ _,fun h=>by have:=hlt _ h;omega,rfl⟩
 case body=>
  rintro l pre V x a' W hi ⟨Bx,hBx,hbx,hVx,rfl⟩ hpre hsz2;obtain⟨s,h1,h2⟩:=hi.txt;have x2:W.cell? ⟨Bx,2,none⟩=some (.string x.name):=zB hbx 2;have x6:W.cell? ⟨w.heap.size+1,0,none⟩=some (.string s):=zB h1 0;have y6:W.frozen? ⟨w.heap.size+1,0,none⟩=false:=zC h1 0;have hxd:x∈chain ds n:=List.IsPrefix.subset hpre (by simp);have hxn:=hnm x (zEj hxd);have hpl:pre.length<=1000:=by
   have h7:=hpre.length_le;have h8:=zAu ds n;simp at h7;omega
  have hss:s.size<=1001000:=by omega
  have h3:Fr V W (W.setCell ⟨w.heap.size+1,0,none⟩ (.string ((⟨#[47]⟩:ByteArray)++x.name++s))):=Fr.setCell (Fr.refl _ _) (fun _=>(hi.foot _).2 rfl) _;have h4:=zF h1 0 (.string ((⟨#[47]⟩:ByteArray)++x.name++s));have h5:((⟨#[47]⟩:ByteArray)++x.name++s).size<=1001*(pre++[x]).length:=by
   rw[ByteArray.size_append,ByteArray.size_append,List.length_append];show 1+x.name.size+s.size<=1001*(pre.length+1)
   omega
  have H:=Lib.hid (And.intro h3 (And.intro h4 (And.intro h5 hi)));clear h3 h4 h5 hi hpre hxd h1 hbx hnm hal hsz hbn hUp hfw hww d6 hl hT
  gi_wp2
  refine⟨V,fun b h=>.inl h,⟨⟨_,H.out.2.1,H.out.2.2.1⟩,H.out.2.2.2.foot,H.out.2.2.2.fr.step H.out.1 (fun b hb h=>by rw[(H.out.2.2.2.foot b).1 h];unfold From;omega)⟩,H.out.1⟩
 case done=>
  rintro V W hi hK hnV;obtain⟨s,h1,h2⟩:=hi.txt;have hww2:=hfw.size;have hfr:=Lib.hid hi.fr;clear hi hfw
  go_wp2_with fail
  refine zR No [(0,false),(1,false),(2,false),(3,false),(4,false)] (by kernel_rfl) (by kernel_rfl) (fun W3 hf3=>?_);have c6:∀ g:Gr No W3,g.W.cell? ⟨w.heap.size+1,0,none⟩=some (.string s):=fun g=>g.fr.cell (zB (hf3.heap h1 id) 0) id
  have hput:Fr (Is W2.heap.size) W3 (W3.putObj W2.heap.size (.deferred none)):=Fr.putObj _ _ _ rfl;have Hfin:Hid (Fr No w (W3.putObj W2.heap.size (.deferred none))):=((hfr.out.step hf3 (fun _ _ h=>h.elim)).step hput (fun b hb e=>by unfold Is at e;omega)).mono (fun b hb h=>by unfold From at h;omega);have hK3:=hf3.heap hK id;clear hput
  repeat (first | (apply zT;exact rfl;exact rfl;exact rfl;intro K hK;go_big_quiet_op;go_big_quiet_on) | (apply zW;exact rfl;exact rfl;exact rfl;intro K hK;go_big_quiet_op;go_big_quiet_on))
  refine zb ?_
  go_wp2_with fail
  refine⟨by simp,.inl ⟨_,_,rfl,run_takeDeferred hK3,?_⟩⟩;refine⟨.tuple #[.string s,.bool (!s.toList.isEmpty)],by simp[results,Tryz.results141,go_sem],⟨_,_,rfl⟩,Hfin.out⟩
def spl (c:UInt8):List UInt8->List (List UInt8)
 | []=>[[]]
 | x::t=>if x=c then []::spl c t else match spl c t with
  | []=>[[x]]
  | h::r=>(x::h)::r
theorem zDX (c:UInt8):∀ s:List UInt8,Lib.splitK [c] 0 (s.count c) s=spl c s
 | []=>rfl
 | x::t=>by
  have ih:=zDX c t;by_cases hx:x=c
  ·subst hx;have hi:Lib.index (x::t) [x]=0:=by
    unfold Lib.index;rw[if_pos (by simp)]
   have e:spl x (x::t)=[]::spl x t:=by rw[spl,if_pos rfl]
   rw[List.count_cons_self,Lib.splitK,hi,e,<-ih];rfl
  ·have hc:(x::t).count c=t.count c:=List.count_cons_of_ne hx;have hp:([c].isPrefixOf (x::t))=false:=by
    have h1:(c==x)=false:=by simpa using fun h=>hx h.symm
    simp[List.isPrefixOf,h1]
   have hs:spl c (x::t)=(match spl c t with | []=>[[x]] | h::r=>(x::h)::r):=by
    rw[spl,if_neg hx]
   rw[hc,hs,<-ih];cases hk:t.count c with
   | zero=>simp[Lib.splitK]
   | succ k=>
    have hi:Lib.index (x::t) [c]=if Lib.index t [c]==-1 then -1 else Lib.index t [c]+1:=by
     rw[Lib.index,if_neg (by rw[hp];simp)]
    rw[Lib.splitK,Lib.splitK,hi];by_cases h1:(Lib.index t [c]==-1)=true
    ·simp[h1]
    ·have h2:=Lib.index_ge t [c];have h3:Lib.index t [c]≠-1:=by simpa using h1
     obtain⟨n,hn⟩:=Int.eq_ofNat_of_zero_le (show 0<=Lib.index t [c] by omega);rw[if_neg h1,if_neg h1,hn];rw[if_neg (by simp;omega)];rw[show ((n:Int)+1).toNat=n+1 by omega,show ((n:Int)).toNat=n by omega];simp
def sparts (s:ByteArray):List ByteArray:=(spl 47 (Lib.trimPrefix s.data.toList [47])).map fun x=>⟨x.toArray⟩
def zt (s:ByteArray):Bool:=Lib.hasPrefix s.data.toList [47]&&(sparts s).all isName
theorem zHC (c:UInt8):∀ (s:List UInt8),∀ x∈spl c s,x.length<=s.length
 | [],x,h=>by simp[spl]at h;subst h;simp
 | y::t,x,h=>by
  have ih:=zHC c t;unfold spl at h;split at h
  ·rcases List.mem_cons.1 h with rfl | h
   ·simp
   ·have:=ih x h;simp;omega
  ·split at h
   ·simp at h;subst h;simp
   ·rename_i a r e;rcases List.mem_cons.1 h with rfl | h
    ·have:=ih a (by rw[e];simp);simp;omega
    ·have:=ih x (by rw[e];simp[h]);simp;omega
theorem zG2 (s p:List UInt8):(Lib.trimPrefix s p).length<=s.length:=by
 unfold Lib.trimPrefix;split<;>simp
theorem zEw (s:ByteArray):∀ x∈sparts s,x.size<=s.size:=by
 intro x hx;obtain⟨y,hy,rfl⟩:=List.mem_map.1 hx;have h1:=zHC 47 _ y hy;have h2:=zG2 s.data.toList [47];have h3:s.data.toList.length=s.size:=(Lib.size_eq s).symm;simp only[ByteArray.size,List.size_toArray]at h3 ⊢;omega
theorem zBc (s:ByteArray):Lib.splitB ⟨#[47]⟩ 0 (Lib.countB s ⟨#[47]⟩) s=(spl 47 s.data.toList).map fun x=>⟨x.toArray⟩:=by
 have h1:=Lib.splitB_data ⟨#[47]⟩ 0 (Lib.countB s ⟨#[47]⟩) s;have h2:Lib.countB s ⟨#[47]⟩=s.data.toList.count 47:=Lib.count_one 47 s.data.toList;have h3:(⟨#[47]⟩:ByteArray).data.toList=[47]:=rfl;rw[h3]at h1;rw[h2]at h1 ⊢;rw[zDX]at h1;rw[<-h1,List.map_map];symm;rw[List.map_congr_left (g:=id)]
 ·simp
 ·intro x _;simp
theorem zEN (s:ByteArray):Lib.countB s ⟨#[47]⟩+1=((spl 47 s.data.toList).map fun x=>(⟨x.toArray⟩:ByteArray)).length:=by
 rw[<-zBc,Lib.splitB_all ⟨#[47]⟩ (by decide) 0 _ _ rfl]
theorem Strs.new (w:World)(l:List ByteArray)(T:TypeId)(hl:l.length<=maxLen):Strs (w.alloc (.cells (l.map Value.string).toArray T)) (some ⟨w.heap.size,0,none⟩) l.length l:=by
 refine⟨Nat.le_refl _,hl,(fun e=>by cases e),?_⟩;intro ad e hne;cases e;refine⟨rfl,by simp,fun i x hi=>?_⟩;rw[zB (zD _ _)];simp[hi]
theorem zI9 (bt:Nat)(s:ByteArray)(w:World)(hb:w.cell? ⟨bt,0,none⟩=some (.func (.func 86) #[] #[]))(hs:s.size<=maxLen):
  Calls Tryz.prog 294 #[.string s,.pointer (some ⟨bt,0,none⟩)] w fun e w'=>e=.returned (.bool (!isName s))/\Fr No w w':=by
 go_enter Tryz.func294,Tryz.ntmps294
 go_wp2_with fail
 refine(zAF s _ hs).mono ?_;rintro e w1 ⟨rfl,hf1⟩
 go_wp2_with fail
 go_ret;exact⟨rfl,hf1⟩
theorem zGs (bt:Nat)(la:Option Addr)(lc:Nat)(l:List ByteArray)(w:World)(hb:w.cell? ⟨bt,0,none⟩=some (.func (.func 86) #[] #[]))(hi:Strs w la lc l)(hs:∀ x∈l,x.size<=maxLen):
  Calls Tryz.prog 45 #[.slice la l.length lc,.func (.func 294) #[] #[.pointer (some ⟨bt,0,none⟩)]] w fun e w'=>(∃ r:Int,e=.returned (.int .i64 r)/\decide (0<=r)=!l.all isName)/\Fr No w w':=by
 have hm:=hi.lenmax
 go_enter Tryz.func45,Tryz.ntmps45
 go_wp2_with fail
 go_loopw [8] (fun i wr=>∃ k:Nat,k<=l.length/\i=.int .i64 k/\Hid ((l.take k).all isName=true)/\Fr No w wr) (fun i _=>l.length-(intOf i).toNat)
 case atStart=>exact⟨0,by omega,rfl,by unfold Hid;simp,Fr.refl _ _⟩
 case round=>
  obtain⟨k,hk,rfl,hno,hfr⟩:=hrel;by_cases hlt:k<l.length
  ·have hlt':(k:Int)<l.length:=by omega
   obtain⟨bb,off,x,rfl,hx,hc⟩:=(hi.no hfr (fun _=>id)).at hlt;have hxs:=hs x (List.mem_of_getElem? hx);have Htk:Hid (l.take (k+1)=l.take k++[x]):=by unfold Hid;rw[List.take_add_one,hx];rfl
   have Hmem:=Lib.hid (List.mem_of_getElem? hx);clear hx
   go_wp2_with fail
   refine(zI9 bt x _ (hfr.cell hb id) hxs).mono ?_;rintro e w1 ⟨rfl,hf1⟩;have hfr1:=hfr.step hf1 (fun _ _ h=>h);clear hc;cases hp:isName x
   ·have Hr:Hid (l.all isName=false):=by unfold Hid;rw[List.all_eq_false];exact⟨x,Hmem.out,by rw[hp];simp⟩
    clear hp
    go_wp2_with fail
    go_ret;exact⟨⟨(k:Int),rfl,by rw[Hr.out];simp⟩,hfr1⟩
   ·have Hn:Hid ((l.take (k+1)).all isName=true):=by unfold Hid;rw[Htk.out,List.all_append,hno.out];simp[hp]
    clear hp
    go_wp2_with fail
    go_roundw
    case rel=>exact⟨k+1,by omega,by go_num,Hn,hfr1⟩
    case measure=>simp[intOf];omega
  ·have h:=hno.out;rw[List.take_of_length_le (by omega)]at h;have Hp:=Lib.hid h;clear h
   go_wp2_with fail
   go_ret;exact⟨⟨-1,rfl,by rw[Hp.out];rfl⟩,hfr⟩
theorem zIj (la:Option Addr)(lc:Nat)(l:List ByteArray)(w:World)(hi:Strs w la lc l)(hs:∀ x∈l,x.size<=maxLen):
  Calls Tryz.prog 252 #[.slice la l.length lc,.func (.func 86) #[] #[]] w fun e w'=>e=.returned (.bool (l.all isName))/\Fr No w w':=by
 have hx:Fr No w (w.alloc (.cells #[.func (.func 86) #[] #[]] 57)):=(Fr.refl _ _).alloc _;have q3:=zD w (.cells #[.func (.func 86) #[] #[]] 57);have hi0:=hi.no hx (fun _=>id)
 go_enter Tryz.func252,Tryz.ntmps252
 go_wp2_with fail
 generalize w.alloc (.cells #[.func (.func 86) #[] #[]] 57)=W0 at *;refine(show Calls Tryz.prog 18 _ _ (fun e w'=>e=.returned (.bool (!l.all isName))/\Fr No W0 w')from ?_).mono ?_
 ·go_enter Tryz.func18,Tryz.ntmps18
  go_wp2_with fail
  refine(zGs w.heap.size la lc l _ (zB q3 0) hi0 hs).mono ?_;rintro e w1 ⟨⟨r,rfl,hr⟩,hf1⟩;have Hr:=Lib.hid hr;clear hr
  go_wp2_with fail
  go_ret;exact⟨zK Hr.out,hf1⟩
 ·rintro e w1 ⟨rfl,hf1⟩
  go_wp2_with fail
  go_ret;exact⟨zK (by simp),hx.step hf1 (fun _ _ h=>h)⟩
def SplitR (s:ByteArray)(e:Ending)(w':World)(B:Nat):Prop:=
 (zt s=false/\e=.returned (.tuple #[.slice none 0 0,.int .i64 10]))\/
 (zt s=true/\∃ ad,e=.returned (.tuple #[.slice (some ad) (sparts s).length (sparts s).length,.int .i64 0])/\Strs w' (some ad) (sparts s).length (sparts s)/\B<=ad.block)
theorem zBE (s:ByteArray)(m:Int)(w:World)(hs:s.size<=1000000)(hm:w.cell? ⟨0,0,none⟩=some (.int .i64 m)):
  Calls Tryz.prog 200 #[.string s] w fun e w'=>SplitR s e w' w.heap.size/\Fr No w w':=by
 have hml:(1000001:Nat)<=maxLen:=by unfold maxLen;omega
 have hcut:=Tryz.strings_CutPrefix s ⟨#[47]⟩ w;obtain⟨rest,hrest⟩:∃ r,r=(⟨(Lib.trimPrefix s.data.toList [47]).toArray⟩:ByteArray):=⟨_,rfl⟩
 have hrs:rest.size<=1000000:=by
  rw[hrest];have h2:=zG2 s.data.toList [47];simp only[ByteArray.size,List.size_toArray];simp at h2;omega
 have hps:sparts s=(spl 47 rest.data.toList).map fun x=>⟨x.toArray⟩:=by rw[hrest];rfl
 obtain⟨pp,hpp⟩:∃ pp,pp=sparts s:=⟨_,rfl⟩
 have hg:zt s=(Lib.hasPrefix s.data.toList [47]&&pp.all isName):=by rw[hpp];rfl
 have hsz:∀ x∈pp,x.size<=maxLen:=fun x hx=>by rw[hpp]at hx;have:=zEw s x hx;omega
 have hcnt:=zEN rest;have hspl:=zBc rest;rw[<-hps,<-hpp]at hcnt hspl;have hle:=Lib.countB_le ⟨#[47]⟩ (by decide) rest.size rest (Nat.le_refl _);have hpl:pp.length<=maxLen:=by omega
 have hcut':Calls Tryz.prog 80 #[.string s,.string ⟨#[47]⟩] w fun e w'=>e=.returned (.tuple #[.string rest,.bool (Lib.hasPrefix s.data.toList [47])])/\w'=w:=by rw[hrest];exact hcut
 have Hg:=Lib.hid hg;have Hpp:=Lib.hid hpp;have Hspl:=Lib.hid hspl;have Hcnt:=Lib.hid hcnt;clear hcut hrest hps hpp hg hcnt hspl;generalize Lib.hasPrefix s.data.toList [47]=pre at *
 go_enter Tryz.func200,Tryz.ntmps200
 go_wp2_with fail
 refine hcut'.mono ?_;rintro e w1 ⟨rfl,rfl⟩
 go_wp2_with fail
 refine(Tryz.strings_Split rest ⟨#[47]⟩ m _ (by omega) hm (by decide)).mono ?_;rintro e w2 ⟨rfl,rfl⟩;rw[Hspl.out,Hcnt.out];have hx:Fr No w1 (w1.alloc (.cells ((pp.map Value.string).toArray) 9)):=(Fr.refl _ _).alloc _;have hS:=Strs.new w1 pp 9 hpl;have hb0:w1.heap.size<(w1.alloc (.cells ((pp.map Value.string).toArray) 9)).heap.size:=by simp
 clear hm hle;generalize w1.alloc (.cells ((pp.map Value.string).toArray) 9)=W2 at *;cases pre with
 | false=>
  have Hb:Hid (zt s=false):=by unfold Hid;rw[Hg.out];rfl
  go_wp2_with fail
  go_ret2
  exact⟨.inl ⟨Hb.out,rfl⟩,hx⟩
 | true=>
  have Hx:=Lib.hid hx;have HS:=Lib.hid hS;clear hx
  go_wp2_with fail
  refine(zIj _ _ pp _ hS hsz).mono ?_;rintro e w3 ⟨rfl,hf3⟩;have HS3:=Lib.hid (HS.out.no hf3 (fun _=>id));have Hf3:=Lib.hid (Hx.out.step hf3 (fun _ _ h=>h));clear hS hsz hf3;cases hal:pp.all isName with
  | false=>
   have Hb:Hid (zt s=false):=by unfold Hid;rw[Hg.out,hal];rfl
   clear hal
   go_wp2_with fail
   go_ret2
   exact⟨.inl ⟨Hb.out,rfl⟩,Hf3.out⟩
  | true=>
   have Hb:Hid (zt s=true):=by unfold Hid;rw[Hg.out,hal];rfl
   clear hal
   go_wp2_with fail
   go_ret2
   refine⟨.inr ⟨Hb.out,⟨w1.heap.size,0,none⟩,?_,?_,Nat.le_refl _⟩,Hf3.out⟩
   ·rw[<-Hpp.out];rfl
   ·rw[<-Hpp.out];exact HS3.out
def cmpI (x y:Int):Int:=if x<y then -1 else if y<x then 1 else 0
theorem zHV (x:Int)(w:World):Calls Tryz.prog 222 #[.int .i64 x] w fun e w'=>e=.returned (.bool false)/\w=w':=by
 go_enter Tryz.func222,Tryz.ntmps222
 go_wp2_with fail
 go_ret;simp
theorem zHU (x:ByteArray)(w:World):Calls Tryz.prog 313 #[.string x] w fun e w'=>e=.returned (.bool false)/\w=w':=by
 have hb:(!x.toList==x.toList)=false:=by simp
 go_enter Tryz.func313,Tryz.ntmps313
 go_wp2_with fail
 go_ret;simp
theorem zHw (x y:Int)(w:World):Calls Tryz.prog 164 #[.int .i64 x,.int .i64 y] w fun e w'=>e=.returned (.int .i64 (cmpI x y))/\w=w':=by
 obtain⟨r,hr⟩:∃ r,r=cmpI x y:=⟨_,rfl⟩
 rw[<-hr];have Hr:=Lib.hid hr;clear hr
 go_enter Tryz.func164,Tryz.ntmps164
 go_wp2_with fail
 refine(zHV x _).mono ?_;rintro e w1 ⟨rfl,rfl⟩
 go_wp2_with fail
 refine(zHV y _).mono ?_;rintro e w1 ⟨rfl,rfl⟩;by_cases h1:x<y
 ·have H1:=Lib.hid h1
  go_wp2_with fail
  go_ret;exact⟨by rw[Hr.out,cmpI,if_pos H1.out];rfl,rfl⟩
 ·by_cases h2:y<x
  ·have H1:=Lib.hid h1;have H2:=Lib.hid h2
   go_wp2_with fail
   go_ret;exact⟨by rw[Hr.out,cmpI,if_neg (by have:=H1.out;omega),if_pos H2.out];rfl,rfl⟩
  ·have H1:=Lib.hid h1;have H2:=Lib.hid h2
   go_wp2_with fail
   go_ret;exact⟨by rw[Hr.out,cmpI,if_neg (by have:=H1.out;omega),if_neg (by have:=H2.out;omega)];rfl,rfl⟩
def orI (x y:Int):Int:=if x=0 then y else x
theorem zKo (b:Nat)(x y:Int)(w:World)(h0:w.cell? ⟨b,0,none⟩=some (.int .i64 x))(h1:w.cell? ⟨b,1,none⟩=some (.int .i64 y)):Calls Tryz.prog 299 #[.slice (some ⟨b,0,none⟩) 2 2] w fun e w'=>e=.returned (.int .i64 (orI x y))/\w=w':=by
 obtain⟨r,hr⟩:∃ r,r=orI x y:=⟨_,rfl⟩
 rw[<-hr];have Hr:=Lib.hid hr;clear hr
 go_enter Tryz.func299,Tryz.ntmps299
 go_wp2_with fail
 go_loop [8] (fun i=>i=.int .i64 0\/(i=.int .i64 1/\Hid (x=0))\/(i=.int .i64 2/\Hid (x=0/\y=0))) (fun i=>2-(intOf i).toNat)
 case atStart=>exact .inl rfl
 case round=>
  rcases hrel with rfl | ⟨rfl,hx⟩ | ⟨rfl,hxy⟩
  ·by_cases hx:x=0
   ·have Hx:=Lib.hid hx
    go_wp2_with fail
    go_round
    case rel=>exact .inr (.inl ⟨rfl,Hx⟩)
    case measure=>decide
   ·have Hx:=Lib.hid hx
    go_wp2_with fail
    go_ret;exact⟨by rw[Hr.out,orI,if_neg Hx.out];rfl,rfl⟩
  ·by_cases hy:y=0
   ·have Hy:=Lib.hid hy
    go_wp2_with fail
    go_round
    case rel=>exact .inr (.inr ⟨rfl,hx.out,Hy.out⟩)
    case measure=>decide
   ·have Hy:=Lib.hid hy
    go_wp2_with fail
    go_ret;exact⟨by rw[Hr.out,orI,if_pos hx.out];rfl,rfl⟩
  ·go_wp2_with fail
   go_ret;exact⟨by rw[Hr.out,orI,if_pos hxy.out.1,hxy.out.2];rfl,rfl⟩
theorem zAt : ∀ a:List UInt8,Lib.compareBytes a a=0
 | []=>rfl
 | a::s=>by unfold Lib.compareBytes;rw[if_neg (UInt8.lt_irrefl _),if_neg (UInt8.lt_irrefl _)];exact zAt s
theorem zCL : ∀ a b:List UInt8,Lib.compareBytes a b=if Op.bytesLess a b=true then -1 else if a=b then 0 else 1
 | [],[]=>by simp[Lib.compareBytes,Op.bytesLess]
 | [],_::_=>by simp[Lib.compareBytes,Op.bytesLess]
 | _::_,[]=>by simp[Lib.compareBytes,Op.bytesLess]
 | a::s,b::t=>by
  have ih:=zCL s t;by_cases h1:a<b
  ·simp[Lib.compareBytes,Op.bytesLess,h1]
  ·by_cases h2:b<a
   ·have h3:a≠b:=fun e=>by subst e;exact absurd h2 (UInt8.lt_irrefl _)
    simp[Lib.compareBytes,Op.bytesLess,h1,h2,h3]
   ·have h3:a=b:=UInt8.le_antisymm (UInt8.not_lt.1 h2) (UInt8.not_lt.1 h1);subst h3;simp only[Lib.compareBytes,Op.bytesLess,if_neg h1,ih];simp[h1]
theorem zHv (x y:ByteArray)(w:World):Calls Tryz.prog 291 #[.string x,.string y] w fun e w'=>e=.returned (.int .i64 (Lib.compareBytes x.data.toList y.data.toList))/\w=w':=by
 obtain⟨r,hr⟩:∃ r,r=Lib.compareBytes x.data.toList y.data.toList:=⟨_,rfl⟩
 rw[<-hr];have Hr:=Lib.hid hr;clear hr
 go_enter Tryz.func291,Tryz.ntmps291
 go_wp2_with fail
 refine(zHU x _).mono ?_;rintro e w1 ⟨rfl,rfl⟩
 go_wp2_with fail
 refine(zHU y _).mono ?_;rintro e w1 ⟨rfl,rfl⟩;have hc:=zCL x.toList y.toList;rw[ByteArray.toList_eq,ByteArray.toList_eq,<-Hr.out,<-ByteArray.toList_eq,<-ByteArray.toList_eq]at hc;have Hc:=Lib.hid hc;clear hc;cases hb:Op.bytesLess x.toList y.toList with
 | true=>
  have Hb:=Lib.hid hb
  go_wp2_with fail
  go_ret;exact⟨by rw[Hc.out,if_pos Hb.out];rfl,rfl⟩
 | false=>
  have Hb:=Lib.hid hb;cases he:(x.toList==y.toList)with
  | true=>
   have He:=Lib.hid he
   go_wp2_with fail
   go_ret;exact⟨by rw[Hc.out,if_neg (by rw[Hb.out];simp),if_pos (eq_of_beq He.out)];rfl,rfl⟩
  | false=>
   have He:=Lib.hid he
   go_wp2_with fail
   go_ret;exact⟨by rw[Hc.out,if_neg (by rw[Hb.out];simp),if_neg (fun e=>by have h:=He.out;rw[e]at h;simp at h)];rfl,rfl⟩
theorem zEM (a:Option Addr)(cap:Nat)(l:List ByteArray)(a':Option Addr)(cap':Nat)(l':List ByteArray)(w:World)(hl:Strs w a cap l)(hl':Strs w a' cap' l'):
  Calls Tryz.prog 245 #[.slice a l.length cap,.slice a' l'.length cap'] w fun e w'=>e=.returned (.int .i64 (cmpN l l'))/\w=w':=by
 have hm:=hl.lenmax;have hm':=hl'.lenmax;obtain⟨r,hr⟩:∃ r,r=cmpN l l':=⟨_,rfl⟩
 rw[<-hr];have Hr:=Lib.hid hr;clear hr
 go_enter Tryz.func245,Tryz.ntmps245
 go_wp2_with fail
 go_loop [11] (fun i=>∃ k:Nat,k<=l.length/\k<=l'.length/\i=.int .i64 (k:Int)/\Hid (l.take k=l'.take k)) (fun i=>l.length-(intOf i).toNat)
 case atStart=>exact⟨0,by omega,by omega,rfl,by unfold Hid;simp⟩
 case round=>
  obtain⟨k,hk,hk',rfl,Ht⟩:=hrel;have Hd:=Lib.hid (zBI Ht.out);by_cases hlt:k<l.length
  ·have hlt1:(k:Int)<l.length:=by omega
   obtain⟨b,off,x,rfl,hx,c0⟩:=hl.at hlt;have hdx:l.drop k=x::l.drop (k+1):=by
    obtain⟨h1,h2⟩:=List.getElem?_eq_some_iff.1 hx;rw[<-h2];exact List.drop_eq_getElem_cons h1
   by_cases hlt':k<l'.length
   ·have hlt2:¬ (l'.length:Int)<=(k:Int):=by omega
    have hlt3:(k:Int)<l'.length:=by omega
    obtain⟨b',off',x',rfl,hx',c1⟩:=hl'.at hlt';have hdx':l'.drop k=x'::l'.drop (k+1):=by
     obtain⟨h1,h2⟩:=List.getElem?_eq_some_iff.1 hx';rw[<-h2];exact List.drop_eq_getElem_cons h1
    have Hdx:=Lib.hid hdx;have Hdx':=Lib.hid hdx';have Htk:Hid (x=x'->l.take (k+1)=l'.take (k+1)):=fun e=>by rw[List.take_add_one,List.take_add_one,hx,hx',Ht.out,e]
    clear hdx hdx' hx hx'
    go_wp2_with fail
    refine(zHv x x' _).mono ?_;rintro e w1 ⟨rfl,rfl⟩;by_cases hz:Lib.compareBytes x.data.toList x'.data.toList=0
    ·have hxx:x=x':=by
      have h1:=zAs _ _ hz;cases x;cases x';simp only at h1
      congr 1
      exact Array.toList_inj.1 h1
     have Hn:=Lib.hid (Htk.out hxx);rw[hz];clear hz
     go_wp2_with fail
     go_round
     case rel=>exact⟨k+1,by omega,by omega,by go_num,Hn⟩
     case measure=>simp[intOf];omega
    ·have Hres:Hid (r=Lib.compareBytes x.data.toList x'.data.toList):=by
      unfold Hid;rw[Hr.out,Hd.out,Hdx.out,Hdx'.out,cmpN,if_neg (fun e=>hz (by rw[e];exact zAt _))]
     generalize Lib.compareBytes x.data.toList x'.data.toList=cb at *
     go_wp2_with fail
     go_ret;exact⟨by rw[Hres.out];rfl,rfl⟩
   ·have hlt2:(l'.length:Int)<=(k:Int):=by omega
    have Hres:Hid (r=1):=by
     unfold Hid;rw[Hr.out,Hd.out,hdx,List.drop_eq_nil_of_le (by omega:l'.length<=k)];rfl
    clear hdx hx
    go_wp2_with fail
    go_ret;exact⟨by rw[Hres.out];rfl,rfl⟩
  ·have hlt1:¬ (k:Int)<l.length:=by omega
   obtain rfl:k=l.length:=by omega
   by_cases hll:l.length<l'.length
   ·have hll':(l.length:Int)<l'.length:=by omega
    have Hres:Hid (r=-1):=by
     unfold Hid;rw[Hr.out,Hd.out,List.drop_length,List.drop_eq_getElem_cons hll];rfl
    go_wp2_with fail
    go_ret;exact⟨by rw[Hres.out];rfl,rfl⟩
   ·have hll':¬ (l.length:Int)<l'.length:=by omega
    have Hres:Hid (r=0):=by
     unfold Hid;rw[Hr.out,Hd.out,List.drop_length,List.drop_eq_nil_of_le (by omega:l'.length<=l.length)];rfl
    go_wp2_with fail
    go_ret;exact⟨by rw[Hres.out];rfl,rfl⟩
end Go.Proofs.YtmajgldaplkpiaaGreatDoor
