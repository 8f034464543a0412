/- Package relate: sets; partitions. relate.partition, relate.Partition. The parser's cursor: until, skip, want, number. volume.Name, volume.Want. volume.Want. -/
import Derived.Test.YtmieegcgeolckaaGreatDoorStrs2
import Derived.Test.YtmieegcgeolckaaGreatDoorZV12
import Derived.Test.YtmieegcgeolckaaGreatDoorZV1
import Derived.Test.YtmieegcgeolckaaGreatDoorZV10
import Derived.Test.YtmieegcgeolckaaGreatDoorStrs3
import Derived.Test.YtmieegcgeolckaaGreatDoorZV2
import Derived.Lib.AtoiAllCases
import Derived.Lib.AppendIntMem
import Derived.Test.YtmieegcgeolckaaGreatDoorZV4
import Derived.Test.YtmieegcgeolckaaGreatDoorZV11
import Derived.Test.YtmieegcgeolckaaGreatDoorZV7
import Derived.Lib.ItoaNum
import Derived.Lib.ItoaLen
namespace Go.Proofs.YtmieegcgeolckaaGreatDoor
open Go.RowKit Go.Maps
set_option linter.unusedVariables false

theorem ISet.put {w w1 : World} {mb : Nat} {D : DataW Unit} {n N : Nat} {f : Int → Bool} (hn : n ≤ N) (ho : w.ownsMap Tryz.prog 3 unitElem mb n D) (h : ∀ x, has D (.int .i64 x) = f x) (x : Int) {v : DataW Unit} (ho1 : w1.ownsMap Tryz.prog 3 unitElem mb (n + 1) (D.put (.int .i64 x) v)) : ISet w1 mb (upd f x true) (N + 1) := by
  refine ⟨_, n + 1, by omega, ho1, fun y => ?_⟩
  unfold upd
  split
  · rename_i h; subst h; exact has_put_same ho.isMap (isKeyInt _) _
  · rename_i h2; rw [has_put_other (by intro e; exact h2 (by simpa using e))]; exact h y
theorem upd_take {l : List Int} {k : Nat} {x : Int} (h : l[k]? = some x) : upd (fun y => decide (y ∈ l.take k)) x true = fun y => decide (y ∈ l.take (k + 1)) := by
  funext y
  unfold upd
  rw [List.take_add_one, h]
  by_cases e : y = x
  · subst e; simp
  · simp [e]
theorem rset_made (w : World) : ISet (w.alloc (.map #[] 0)) w.heap.size (fun _ => false) 0 :=
  ⟨.map [], 0, Nat.le_refl _, World.ownsMap_made _ _ _ _, fun _ => rfl⟩

/-- The variables ErrSyntax (its block) and ErrRange (its block) hold errors. -/
structure ErrV (w : World) : Prop where
  s : ∃ ev, w.cell? ⟨2, 0, none⟩ = some ev ∧ (ev = .nilIface ∨ ∃ te pe, ev = .iface te pe)
  r : ∃ ev, w.cell? ⟨3, 0, none⟩ = some ev ∧ (ev = .nilIface ∨ ∃ te pe, ev = .iface te pe)
theorem ErrV.fr {S : Nat → Prop} {w w' : World} (h : ErrV w) (hf : Fr S w w') (h5 : ¬ S 2) (h6 : ¬ S 3) : ErrV w' := by
  obtain ⟨e5, c5, k5⟩ := h.s
  obtain ⟨e6, c6, k6⟩ := h.r
  exact ⟨⟨e5, hf.cell c5 h5, k5⟩, ⟨e6, hf.cell c6 h6, k6⟩⟩
theorem ErrV.no {w w' : World} (h : ErrV w) (hf : Fr No w w') : ErrV w' := h.fr hf id id

/-- What follows the parent's original and a p in a device's original. -/
def digitsB (p d : Dev) : ByteArray := ⟨(Lib.trimPrefix d.orig.data.toList (p.orig ++ ⟨#[112]⟩).data.toList).toArray⟩
/-- The number of a partition. -/
def partB (p d : Dev) : Option Int := match Lib.atoiAll (digitsB p d).data.toList with
  | .ok v => if Lib.hasPrefix d.orig.data.toList (p.orig ++ ⟨#[112]⟩).data.toList = true ∧ 1 ≤ v ∧ v ≤ 16 ∧ (Lib.decDigits v.toNat) = (digitsB p d).data.toList ∧ d.kind = 2 ∧ p.kind = 2 then some v else none
  | _ => none
def PartRes (o : Option Int) (e : Ending) : Prop := e = .returned (.tuple #[.int .i64 (o.getD 0), .bool o.isSome])
theorem digits_size {p d : Dev} (h : d.orig.size ≤ 32) : (digitsB p d).size ≤ 32 := by
  unfold digitsB Lib.trimPrefix
  have h2 : d.orig.data.toList.length ≤ 32 := by rw [← Lib.size_eq]; exact h
  split
  · simp only [ByteArray.size, List.size_toArray, List.length_drop]; omega
  · simp only [ByteArray.size, List.size_toArray]; exact h2
end Go.Proofs.YtmieegcgeolckaaGreatDoor
namespace Go.Proofs.YtmieegcgeolckaaGreatDoor
open Go.RowKit Go.Maps
set_option linter.unusedVariables false

def cutB (p d : Dev) : Bool := Lib.hasPrefix d.orig.data.toList (p.orig ++ ⟨#[112]⟩).data.toList
theorem cut_gen (s q : ByteArray) (w : World) : Calls Tryz.prog 173 #[.string s, .string q] w fun e w' => e = .returned (.tuple #[.string ⟨(Lib.trimPrefix s.data.toList q.data.toList).toArray⟩, .bool (Lib.hasPrefix s.data.toList q.data.toList)]) ∧ w = w' :=
  (Tryz.strings_CutPrefix s q w).mono fun e w' h => ⟨h.1, h.2.symm⟩
theorem cut_digits (p d : Dev) (w : World) : Calls Tryz.prog 173 #[.string d.orig, .string (p.orig ++ ⟨#[112]⟩)] w fun e w' => e = .returned (.tuple #[.string (digitsB p d), .bool (cutB p d)]) ∧ w = w' := by
  unfold digitsB cutB
  exact cut_gen _ _ w
def AtoiR (s : ByteArray) (e : Ending) : Prop :=
  (∃ v, Lib.atoiAll s.data.toList = .ok v ∧ e = .returned (.tuple #[.int .i64 v, .nilIface])) ∨ ((∀ v, Lib.atoiAll s.data.toList ≠ .ok v) ∧ ∃ (k : Int) (te : TypeId) (N : Nat), e = .returned (.tuple #[.int .i64 k, .iface te (.pointer (some ⟨N, 0, none⟩))]))
theorem atoi_any (s : ByteArray) (w : World) (hs : s.size ≤ 1000) (hE : ErrV w) : Calls Tryz.prog 111 #[.string s] w fun e w' => AtoiR s e ∧ Fr No w w' := by
  obtain ⟨e5, c5, k5⟩ := hE.s
  obtain ⟨e6, c6, k6⟩ := hE.r
  rcases h : Lib.atoiAll s.data.toList with v | _ | _
  · refine (Tryz.strconv_Atoi_ok s (by omega) v h w).mono ?_
    rintro e w' ⟨rfl, hw⟩
    refine ⟨.inl ⟨v, h, rfl⟩, ?_⟩
    rcases hw with rfl | ⟨t, rfl⟩
    · exact Fr.refl _ _
    · exact Fr.of_below_size (Lib.bytesWorld_below _ _ _)
  · refine (Any.strconv_Atoi_syntax Tryz.laysC172 s (by omega) h e5 w c5 k5).mono ?_
    rintro e w' ⟨N, rfl, _, _, hb⟩
    exact ⟨.inr ⟨fun v e => (by rw [h] at e; cases e), 0, _, N, rfl⟩, Fr.of_below_size hb⟩
  · refine (Tryz.strconv_Atoi_range s (by omega) h e6 w c6 k6).mono ?_
    rintro e w' ⟨N, rfl, _, _, hb⟩
    exact ⟨.inr ⟨fun v e => (by rw [h] at e; cases e), _, _, N, rfl⟩, Fr.of_below_size hb⟩
theorem partB_cut {p d : Dev} (h : cutB p d = false) : partB p d = none := by
  unfold cutB at h
  unfold partB
  split
  · rw [if_neg (by rw [h]; simp)]
  · rfl
theorem partB_err {p d : Dev} (h : ∀ v, Lib.atoiAll (digitsB p d).data.toList ≠ .ok v) : partB p d = none := by
  unfold partB
  split
  · rename_i v e; exact absurd e (h v)
  · rfl
theorem partB_ok {p d : Dev} {v : Int} (h : Lib.atoiAll (digitsB p d).data.toList = .ok v) : partB p d = if cutB p d = true ∧ 1 ≤ v ∧ v ≤ 16 ∧ (Lib.decDigits v.toNat) = (digitsB p d).data.toList ∧ d.kind = 2 ∧ p.kind = 2 then some v else none := by
  unfold partB cutB
  rw [h]

/-- The number of the partition that a device is. -/
def partOf (ds : List Dev) (n : Int) : Option Int := match look ds n with
  | none => none
  | some d => match look ds d.parent with
    | none => none
    | some p => partB p d

end Go.Proofs.YtmieegcgeolckaaGreatDoor
namespace Go.Proofs.YtmieegcgeolckaaGreatDoor
open Go.RowKit Go.Maps
set_option linter.unusedVariables false

def Ascii (s : ByteArray) : Prop := ∀ (j : Nat) b, s.data.toList[j]? = some b → b.toNat < 128
/-- The variables of the library that the parser's callees read. -/
structure Env (w : World) : Prop where
  len : ∃ m, w.cell? ⟨0, 0, none⟩ = some (.int .i64 m)
  err : ErrV w
  tab : Lib.TabIs Tryz.prog w "internal/strconv.uint64pow10" .u64 Lib.pow10Tab
  sz : 9 ≤ w.heap.size
theorem tabNamed : Tryz.prog.globalNamed "internal/strconv.uint64pow10" = some 1 := by kernel_rfl
theorem Env.fr {S : Nat → Prop} {w w' : World} (h : Env w) (hf : Fr S w w') (hS : ∀ b, b < 9 → ¬ S b) : Env w' := by
  obtain ⟨m, hm⟩ := h.len
  have hs := h.sz
  have hs' := hf.size
  refine ⟨⟨m, hf.cell hm (hS 0 (by decide))⟩, h.err.fr hf (hS _ (by decide)) (hS _ (by decide)), ?_, by omega⟩
  have h1 := h.tab
  have h2 := hf.block 1 (by omega) (hS _ (by decide))
  have e : w'.var? Tryz.prog "internal/strconv.uint64pow10" = w.var? Tryz.prog "internal/strconv.uint64pow10" := by
    unfold World.var?
    rw [tabNamed]
    simp only [Option.bind_some, h2]
  unfold Lib.TabIs at *
  rw [e]
  exact h1
theorem Env.no {w w' : World} (h : Env w) (hf : Fr No w w') : Env w' := h.fr hf (fun _ _ => id)

/-- Block pb is a parser of the text s: r is what remains to be read. -/
structure Cur (w : World) (pb : Nat) (s : ByteArray) (r : List UInt8) (bad : Bool) : Prop where
  blk : ∃ at_ : Nat, w.heap[pb]? = some (.cells #[.string s, .int .i64 (at_ : Int), .bool bad] 96 (0, 0)) ∧ at_ ≤ s.size ∧ s.data.toList.drop at_ = r
theorem Cur.fr {S : Nat → Prop} {w w' : World} {pb : Nat} {s : ByteArray} {r : List UInt8} {bad : Bool} (h : Cur w pb s r bad) (hf : Fr S w w') (hS : ¬ S pb) : Cur w' pb s r bad := by
  obtain ⟨a, hb, h1, h2⟩ := h.blk
  exact ⟨a, hf.heap hb hS, h1, h2⟩
theorem Cur.no {w w' : World} {pb : Nat} {s : ByteArray} {r : List UInt8} {bad : Bool} (h : Cur w pb s r bad) (hf : Fr No w w') : Cur w' pb s r bad := h.fr hf id
theorem Cur.lt {w : World} {pb : Nat} {s : ByteArray} {r : List UInt8} {bad : Bool} (h : Cur w pb s r bad) : pb < w.heap.size := by
  obtain ⟨a, hb, h1, h2⟩ := h.blk; exact lt_of_block hb
theorem Cur.le {w : World} {pb : Nat} {s : ByteArray} {r : List UInt8} {bad : Bool} (h : Cur w pb s r bad) : r.length ≤ s.size := by
  obtain ⟨a, hb, h1, rfl⟩ := h.blk
  have : s.data.toList.length = s.size := (Lib.size_eq s).symm
  simp only [List.length_drop]; omega

theorem any_upto (ends : List UInt8) : ∀ r : List UInt8, (Lib.indexAny r ends = -1 ∧ upto ends r = r ∧ past ends r = []) ∨ ∃ k : Nat, Lib.indexAny r ends = (k : Int) ∧ k < r.length ∧ upto ends r = r.take k ∧ past ends r = r.drop k
  | [] => .inl ⟨rfl, rfl, rfl⟩
  | b :: l => by
    rw [Lib.indexAny]
    by_cases h : ends.contains b = true
    · rw [if_pos h]
      refine .inr ⟨0, rfl, by simp, ?_, ?_⟩
      · simp only [upto, List.takeWhile_cons, h]; simp
      · simp only [past, List.dropWhile_cons, h]; simp
    · have h' : ends.contains b = false := by simpa using h
      rw [if_neg h]
      rcases any_upto ends l with ⟨h1, h2, h3⟩ | ⟨k, h1, h2, h3, h4⟩
      · rw [h1]
        refine .inl ⟨rfl, ?_, ?_⟩
        · simp only [upto, List.takeWhile_cons, h', Bool.not_false, if_true] at h2 ⊢; rw [h2]
        · simp only [past, List.dropWhile_cons, h', Bool.not_false, if_true] at h3 ⊢; rw [h3]
      · rw [h1]
        refine .inr ⟨k + 1, ?_, by simp; omega, ?_, ?_⟩
        · rw [if_neg (by simp)]; rfl
        · simp only [upto, List.takeWhile_cons, h', Bool.not_false, if_true] at h3 ⊢; rw [h3]; rfl
        · simp only [past, List.dropWhile_cons, h', Bool.not_false, if_true] at h4 ⊢; rw [h4]; rfl

theorem zero256 (w : World) : (zeroValue 183).run Tryz.prog w = .ok (.agg (Array.replicate 256 (.bool false))) w := by kernel_rfl

set_option maxRecDepth 100000 in
set_option maxHeartbeats 1000000 in
theorem c_until (pb : Nat) (s ends : ByteArray) (r : List UInt8) (bad : Bool) (w : World) (hc : Cur w pb s r bad) (ha : Ascii s) (he : Ascii ends) (hs : s.size ≤ 1000000) (hes : ends.size ≤ 1000) :
    Calls Tryz.prog 77 #[.pointer (some ⟨pb, 0, none⟩), .string ends] w fun e w' => e = .returned (.string ⟨(upto ends.data.toList r).toArray⟩) ∧ Cur w' pb s (past ends.data.toList r) bad ∧ Fr (Is pb) w w' := by
  obtain ⟨a, hb, hal, hr⟩ := hc.blk
  have hal' : (a : Int) ≤ s.size := by omega
  have hsz : s.data.toList.length = s.size := (Lib.size_eq s).symm
  have hext : (s.extract a s.size).data.toList = r := by rw [Lib.extract_to_end]; exact hr
  obtain ⟨q, hq⟩ : ∃ q, q = s.extract a s.size := ⟨_, rfl⟩
  have hqr : q.data.toList = r := by rw [hq]; exact hext
  have hqs : q.size ≤ 1000000 := by
    have h1 : q.data.toList.length = q.size := (Lib.size_eq q).symm
    have h2 := hc.le
    rw [hqr] at h1; omega
  have hqa : Ascii q := fun j b hb => by
    rw [hqr, ← hr, List.getElem?_drop] at hb
    exact ha _ b hb
  have hany := any_upto ends.data.toList r
  have Hq := Lib.hid hq
  have Hqr := Lib.hid hqr
  have Hr := Lib.hid hr
  clear hext hq hqr hr
  go_enter Tryz.func77, Tryz.ntmps77
  go_wp2_with fail
  refine region_sig No [(0, false), (1, false), (2, false), (3, false), (4, false), (5, false), (6, false), (7, false), (8, false), (9, false)] (by kernel_rfl) (by kernel_rfl) (fun w0 hf0 => ?_)
  have hb0 := hf0.heap hb id
  have g0 : ∀ g : Gr No w0, g.W.cell? ⟨pb, 0, none⟩ = some (.string s) := fun g => g.fr.cell (cell_of_block hb0 0) id
  have g1 : ∀ g : Gr No w0, g.W.cell? ⟨pb, 1, none⟩ = some (.int .i64 (a : Int)) := fun g => g.fr.cell (cell_of_block hb0 1) id
  repeat (apply sig_q; exact rfl; exact rfl; exact rfl; intro K hK; go_big_quiet_op; go_big_quiet_on)
  refine sig_end ?_
  clear g0 g1
  rw [← Hq.out]
  have hfr0 : Fr No w w0 := hf0
  go_wp2_with fail
  refine (Tryz.strings_IndexAny zero256 q ends _ (by omega) (by omega) hqa he).mono ?_
  rintro e w1 ⟨rfl, hbel⟩
  have hf1 : Fr No w w1 := hfr0.step (Fr.of_below_size hbel) (fun _ _ h => h)
  have hb1 := hf1.heap hb id
  have c1 : w1.cell? ⟨pb, 1, none⟩ = some (.int .i64 (a : Int)) := cell_of_block hb1 1
  have z1 : w1.frozen? ⟨pb, 1, none⟩ = false := free_of_block hb1 1
  have hql : q.data.toList.length = q.size := (Lib.size_eq q).symm
  have hrl : r.length = q.size := by rw [← Hqr.out]; exact hql
  have haq : a + q.size = s.size := by
    have h1 := congrArg List.length Hr.out
    rw [List.length_drop] at h1; omega
  rw [Hqr.out]
  have key : ∀ k : Nat, k ≤ q.size → Hid (q.extract 0 k = ⟨(r.take k).toArray⟩ ∧ ∀ W, Fr No w W → W.heap[pb]? = some (.cells #[.string s, .int .i64 (a : Int), .bool bad] 96 (0, 0)) → Cur (W.setCell ⟨pb, 1, none⟩ (.int .i64 ((a : Int) + k))) pb s (r.drop k) bad ∧ Fr (Is pb) w (W.setCell ⟨pb, 1, none⟩ (.int .i64 ((a : Int) + k)))) := by
    intro k hk
    refine ⟨?_, fun W hW hbW => ⟨⟨a + k, ?_, by omega, ?_⟩, ?_⟩⟩
    · apply ByteArray.ext
      apply Array.ext'
      rw [Lib.extract_from_zero, Hqr.out]
    · rw [block_setCell hbW]; rfl
    · rw [← Hr.out, List.drop_drop]
    · exact (hW.mono (T := Is pb) (fun _ _ h => h.elim)).setAt _
  have Hkey := Lib.hid key
  clear hbel hfr0 hf0 hb0 hql key
  rcases hany with ⟨h1, h2, h3⟩ | ⟨k, h1, h2, h3, h4⟩
  · rw [h1]
    have hlen : ((q.size : Nat) : Int) ≤ q.size := Int.le_refl _
    have Hk := Lib.hid ((Hkey.out q.size (Nat.le_refl _)).out)
    have He : Hid (q = ⟨(upto ends.data.toList r).toArray⟩ ∧ r.drop q.size = past ends.data.toList r) := by
      unfold Hid
      refine ⟨?_, by rw [h3, ← hrl, List.drop_length]⟩
      rw [h2, ← Hqr.out]
    have Hf1 := Lib.hid (And.intro hf1 hb1)
    clear h1 h2 h3 hf1 hb1 Hkey hrl
    go_wp2_with fail
    go_ret
    have h5 := Hk.out.2 w1 Hf1.out.1 Hf1.out.2
    rw [He.out.2] at h5
    exact ⟨by show Ending.returned (.string q) = _; rw [← He.out.1], h5.1, h5.2⟩
  · rw [h1]
    have hkq : k < q.size := by omega
    have hk' : (k : Int) ≤ q.size := by omega
    have Hk := Lib.hid ((Hkey.out k (by omega)).out)
    have He : Hid (q.extract 0 k = ⟨(upto ends.data.toList r).toArray⟩ ∧ r.drop k = past ends.data.toList r) := by
      unfold Hid
      rw [Hk.out.1, h3, h4]
      exact ⟨rfl, rfl⟩
    have Hf1 := Lib.hid (And.intro hf1 hb1)
    clear h1 h2 h3 h4 hf1 hb1 Hkey hrl
    go_wp2_with fail
    go_ret
    have h5 := Hk.out.2 w1 Hf1.out.1 Hf1.out.2
    rw [He.out.2] at h5
    exact ⟨by show Ending.returned (.string (q.extract 0 k)) = _; rw [He.out.1], h5.1, h5.2⟩

theorem skip_prefix (b : UInt8) (r : List UInt8) : Lib.hasPrefix r [b] = (skip1 b r).isSome := by
  cases r with
  | nil => rfl
  | cons x t =>
    simp only [Lib.hasPrefix, skip1, List.isPrefixOf]
    by_cases h : x = b
    · subst h; simp
    · have h2 : (b == x) = false := by simpa using fun e => h e.symm
      simp [h, h2]
theorem skip_drop {b : UInt8} {r t : List UInt8} (h : skip1 b r = some t) : t = r.drop 1 := by rw [skip1_some h]; rfl

set_option maxRecDepth 100000 in
set_option maxHeartbeats 1000000 in
theorem c_skip (pb : Nat) (s : ByteArray) (b : UInt8) (r : List UInt8) (bad : Bool) (w : World) (hc : Cur w pb s r bad) (hs : s.size ≤ 1000000) :
    Calls Tryz.prog 110 #[.pointer (some ⟨pb, 0, none⟩), .string ⟨#[b]⟩] w fun e w' => e = .returned (.bool (skip1 b r).isSome) ∧ Cur w' pb s ((skip1 b r).getD r) bad ∧ Fr (Is pb) w w' := by
  obtain ⟨a, hb, hal, hr⟩ := hc.blk
  have hal' : (a : Int) ≤ s.size := by omega
  have hcl := hc.le
  have hsz : s.data.toList.length = s.size := (Lib.size_eq s).symm
  obtain ⟨q, hq⟩ : ∃ q, q = s.extract a s.size := ⟨_, rfl⟩
  have hqr : q.data.toList = r := by rw [hq, Lib.extract_to_end]; exact hr
  have hpre : Lib.hasPrefix q.data.toList (⟨#[b]⟩ : ByteArray).data.toList = (skip1 b r).isSome := by rw [hqr]; exact skip_prefix b r
  have hlen : r.length = s.size - a := by rw [← hr, List.length_drop]; omega
  have Hq := Lib.hid hq
  have Hr := Lib.hid hr
  have Hpre := Lib.hid hpre
  have Hc := Lib.hid hc
  clear hq hqr hr hpre hc
  go_enter Tryz.func110, Tryz.ntmps110
  go_wp2_with fail
  refine region_sig No [(0, false), (1, false), (2, false), (3, false), (4, false), (5, false), (6, false), (7, false), (8, false), (9, false), (10, true), (11, false)] (by kernel_rfl) (by kernel_rfl) (fun w0 hf0 => ?_)
  have hb0 := hf0.heap hb id
  have g0 : ∀ g : Gr No w0, g.W.cell? ⟨pb, 0, none⟩ = some (.string s) := fun g => g.fr.cell (cell_of_block hb0 0) id
  have g1 : ∀ g : Gr No w0, g.W.cell? ⟨pb, 1, none⟩ = some (.int .i64 (a : Int)) := fun g => g.fr.cell (cell_of_block hb0 1) id
  repeat (apply sig_q; exact rfl; exact rfl; exact rfl; intro K hK; go_big_quiet_op; go_big_quiet_on)
  clear g0 g1
  rw [← Hq.out]
  apply sig_m
  exact rfl
  go_wp2_with fail
  refine (Tryz.strings_HasPrefix q ⟨#[b]⟩ _).mono ?_
  rintro e w1 ⟨rfl, rfl⟩
  rw [Hpre.out]
  have c1 : w1.cell? ⟨pb, 1, none⟩ = some (.int .i64 (a : Int)) := cell_of_block hb0 1
  have z1 : w1.frozen? ⟨pb, 1, none⟩ = false := free_of_block hb0 1
  cases hk : skip1 b r with
  | none =>
    have H := Lib.hid (And.intro (Hc.out.no hf0) (hf0.mono (T := Is pb) (fun _ _ h => h.elim)))
    have Hk := Lib.hid hk
    clear hk hb0 hf0
    simp only [Option.isSome_none]
    go_wp2_with fail
    refine OnlyN.mk ⟨Fr.refl _ _, ?_⟩
    repeat (apply sig_q; exact rfl; exact rfl; exact rfl; intro K hK; go_big_quiet_op; go_big_quiet_on)
    refine sig_end ?_
    go_wp2_with fail
    go_ret
    rw [Hk.out]
    exact ⟨rfl, H.out.1, H.out.2⟩
  | some t =>
    have hrl : 1 ≤ r.length := by rw [skip1_some hk]; simp
    have H : Hid (Cur (w1.setCell ⟨pb, 1, none⟩ (.int .i64 ((a : Int) + 1))) pb s t bad ∧ Fr (Is pb) w (w1.setCell ⟨pb, 1, none⟩ (.int .i64 ((a : Int) + 1)))) := by
      refine ⟨⟨a + 1, ?_, by omega, ?_⟩, ?_⟩
      · rw [block_setCell hb0]; rfl
      · rw [skip_drop hk, ← Hr.out, List.drop_drop]
      · exact (hf0.mono (T := Is pb) (fun _ _ h => h.elim)).setAt _
    have Hk := Lib.hid hk
    clear hk hb0 hf0
    simp only [Option.isSome_some]
    go_wp2_with fail
    refine OnlyN.mk ⟨Fr.refl _ _, ?_⟩
    repeat (apply sig_q; exact rfl; exact rfl; exact rfl; intro K hK; go_big_quiet_op; go_big_quiet_on)
    refine sig_end ?_
    go_wp2_with fail
    go_ret
    rw [Hk.out]
    exact ⟨rfl, H.out.1, H.out.2⟩

set_option maxRecDepth 100000 in
set_option maxHeartbeats 1000000 in
theorem c_want (pb : Nat) (s : ByteArray) (b : UInt8) (r : List UInt8) (bad : Bool) (w : World) (hc : Cur w pb s r bad) (hs : s.size ≤ 1000000) :
    Calls Tryz.prog 78 #[.pointer (some ⟨pb, 0, none⟩), .string ⟨#[b]⟩] w fun e w' => e = .returned (.tuple #[]) ∧ Cur w' pb s ((skip1 b r).getD r) (bad || (skip1 b r).isNone) ∧ Fr (Is pb) w w' := by
  go_enter Tryz.func78, Tryz.ntmps78
  go_wp2_with fail
  refine (c_skip pb s b r bad _ hc hs).mono ?_
  rintro e w1 ⟨rfl, hc1, hf1⟩
  generalize hrr : (skip1 b r).getD r = r' at *
  have Hrr := Lib.hid hrr
  clear hrr
  obtain ⟨a, hb1, hal, hr⟩ := hc1.blk
  have c2 : w1.cell? ⟨pb, 2, none⟩ = some (.bool bad) := cell_of_block hb1 2
  have z2 : w1.frozen? ⟨pb, 2, none⟩ = false := free_of_block hb1 2
  have H : Hid (∀ v : Bool, Cur (w1.setCell ⟨pb, 2, none⟩ (.bool v)) pb s r' v ∧ Fr (Is pb) w (w1.setCell ⟨pb, 2, none⟩ (.bool v))) := by
    intro v
    refine ⟨⟨a, ?_, hal, hr⟩, hf1.setAt _⟩
    rw [block_setCell hb1]; rfl
  clear hb1 hc1 hf1 hr hc
  cases hk : skip1 b r with
  | none =>
    have Hk := Lib.hid hk
    clear hk
    simp only [Option.isSome_none]
    go_wp2_with fail
    go_end0
    rw [Hk.out]
    have h := H.out true
    exact ⟨rfl, by have e := Hrr.out; rw [Hk.out] at e; rw [e]; show Cur _ pb s r' (bad || true); rw [Bool.or_true]; exact h.1, h.2⟩
  | some t =>
    have Hk := Lib.hid hk
    clear hk
    simp only [Option.isSome_some]
    go_wp2_with fail
    go_end0
    rw [Hk.out]
    have h := H.out bad
    exact ⟨rfl, by have e := Hrr.out; rw [Hk.out] at e; rw [e]; show Cur _ pb s r' (bad || false); rw [Bool.or_false]; exact h.1, h.2⟩

/-- What number leaves. -/
def NumIs (r r' : List UInt8) (bad bad' : Bool) (n : Int) : Prop := (bad = true → bad' = true) ∧ (bad = false → (pNum r = none ∧ bad' = true) ∨ (pNum r = some (n, r') ∧ bad' = false))
theorem num_ascii : Ascii ⟨#[47, 40, 44, 41, 58]⟩ := fun j b hb => by
  have h : ∀ x ∈ ([47, 40, 44, 41, 58] : List UInt8), x.toNat < 128 := by decide
  exact h b (List.mem_of_getElem? hb)

set_option maxRecDepth 100000 in
set_option maxHeartbeats 1000000 in
theorem c_number (pb : Nat) (s : ByteArray) (r : List UInt8) (bad : Bool) (w : World) (hc : Cur w pb s r bad) (ha : Ascii s) (hs : s.size ≤ 900) (hE : Env w) (h9 : 9 ≤ pb) :
    Calls Tryz.prog 79 #[.pointer (some ⟨pb, 0, none⟩)] w fun e w' => ∃ n r' bad', e = .returned (.int .i64 n) ∧ r'.length ≤ r.length ∧ Cur w' pb s r' bad' ∧ NumIs r r' bad bad' n ∧ Fr (Is pb) w w' := by
  go_enter Tryz.func79, Tryz.ntmps79
  go_wp2_with fail
  refine (c_until pb s ⟨#[47, 40, 44, 41, 58]⟩ r bad _ hc ha num_ascii (by omega) (by decide)).mono ?_
  rintro e w1 ⟨rfl, hc1, hf1⟩
  have hup := upto_past [47, 40, 44, 41, 58] r
  have hpn : pNum r = (match Lib.atoiAll (upto [47, 40, 44, 41, 58] r) with | .ok v => if Lib.itoa v = upto [47, 40, 44, 41, 58] r then some (v, past [47, 40, 44, 41, 58] r) else none | _ => none) := rfl
  have e5 : (⟨#[47, 40, 44, 41, 58]⟩ : ByteArray).data.toList = [47, 40, 44, 41, 58] := rfl
  rw [e5] at hc1 ⊢
  generalize upto [47, 40, 44, 41, 58] r = dl at *
  generalize past [47, 40, 44, 41, 58] r = r' at *
  have hrl := hc.le
  have hdl : dl.length ≤ 900 ∧ r'.length ≤ r.length := by
    have := congrArg List.length hup; rw [List.length_append] at this; omega
  obtain ⟨dg, hdg⟩ : ∃ dg, dg = (⟨dl.toArray⟩ : ByteArray) := ⟨_, rfl⟩
  rw [← hdg]
  have hdd : dg.data.toList = dl := by rw [hdg]
  have hds : dg.size ≤ 1000 := by
    have h1 : dg.data.toList.length = dg.size := (Lib.size_eq dg).symm
    rw [hdd] at h1; omega
  have hE1 := hE.fr hf1 (fun b hb h => by unfold Is at h; omega)
  have Hdd := Lib.hid hdd
  have Hpn := Lib.hid hpn
  have Hlen := Lib.hid hdl.2
  clear hdg hup e5 hc hdd hpn hdl
  go_wp2_with fail
  refine (atoi_any dg _ hds hE1.err).mono ?_
  rintro e w2 ⟨hR, hf2⟩
  unfold AtoiR at hR
  rw [Hdd.out] at hR
  have hc2 := hc1.no hf2
  have hE2 := hE1.no hf2
  obtain ⟨a, hb2, hal, hr⟩ := hc2.blk
  have hf12 := hf1.step hf2 (fun _ _ h => h.elim)
  have H : Hid (∀ (W : World) (v : Bool), Fr No w2 W → Cur (W.setCell ⟨pb, 2, none⟩ (.bool v)) pb s r' v ∧ Fr (Is pb) w (W.setCell ⟨pb, 2, none⟩ (.bool v))) := by
    intro W v hW
    refine ⟨⟨a, ?_, hal, hr⟩, (hf12.step hW (fun _ _ h => h.elim)).setAt _⟩
    rw [block_setCell (hW.heap hb2 id)]; rfl
  have c2 : w2.cell? ⟨pb, 2, none⟩ = some (.bool bad) := cell_of_block hb2 2
  have z2 : w2.frozen? ⟨pb, 2, none⟩ = false := free_of_block hb2 2
  have Hb2 := Lib.hid hb2
  clear hc1 hc2 hf1 hf2 hf12 hE1 hr hb2
  cases bad with
  | true =>
    rcases hR with ⟨v, hv, rfl⟩ | ⟨hv, k, te, N, rfl⟩
    all_goals
      clear hv
      go_wp2_with fail
      go_ret
      have h := H.out w2 true (Fr.refl _ _)
      exact ⟨_, r', true, rfl, Hlen.out, h.1, ⟨(fun _ => rfl), (fun h => by cases h)⟩, h.2⟩
  | false =>
    rcases hR with ⟨v, hv, rfl⟩ | ⟨hv, k, te, N, rfl⟩
    · have hbd := Lib.atoiAll_bounds hv
      have Hn : Hid (pNum r = if Lib.itoa v = dl then some (v, r') else none) := by unfold Hid; rw [Hpn.out, hv]
      clear hv
      go_wp2_with fail
      refine (Tryz.strconv_Itoa v hbd.1 hbd.2 _ hE2.tab).mono ?_
      rintro e w3 ⟨rfl, kk, os, rfl⟩
      have hf3 : Fr No w2 (Go.Sort.grow (w2.drewN kk) os) := Fr.of_below_size (Lib.below_grow _ w2 (Nat.le_refl _) kk os)
      generalize Go.Sort.grow (w2.drewN kk) os = w3 at *
      have c3 : w3.cell? ⟨pb, 2, none⟩ = some (.bool false) := hf3.cell c2 id
      have z3 : w3.frozen? ⟨pb, 2, none⟩ = false := free_of_block (hf3.heap Hb2.out id) 2
      obtain ⟨it, hit⟩ : ∃ it, it = (⟨(Lib.itoa v).toArray⟩ : ByteArray) := ⟨_, rfl⟩
      rw [← hit]
      have Hit : Hid ((it.toList == dg.toList) = decide (Lib.itoa v = dl)) := by
        unfold Hid
        rw [hit, Bool.eq_iff_iff, beq_iff_eq, decide_eq_true_iff, ByteArray.toList_eq, ByteArray.toList_eq, Hdd.out]
      have Hf3 := Lib.hid hf3
      clear hit hf3 c2 z2
      rcases hie : (it.toList == dg.toList) with _ | _
      · have Hno : Hid (pNum r = none) := by
          unfold Hid
          have h1 := Hit.out
          rw [hie] at h1
          rw [Hn.out, if_neg (of_decide_eq_false h1.symm)]
        go_wp2_with fail
        go_ret
        have h := H.out w3 true Hf3.out
        exact ⟨_, r', true, rfl, Hlen.out, h.1, ⟨fun _ => rfl, fun _ => .inl ⟨Hno.out, rfl⟩⟩, h.2⟩
      · have Hyes : Hid (pNum r = some (v, r')) := by
          unfold Hid
          have h1 := Hit.out
          rw [hie] at h1
          rw [Hn.out, if_pos (of_decide_eq_true h1.symm)]
        go_wp2_with fail
        go_ret
        have h := H.out w3 false Hf3.out
        exact ⟨_, r', false, rfl, Hlen.out, h.1, ⟨(fun h => by cases h), (fun _ => .inr ⟨Hyes.out, rfl⟩)⟩, h.2⟩
    · have Hno : Hid (pNum r = none) := by
        unfold Hid
        rw [Hpn.out]
        split
        · rename_i v e; exact absurd e (hv v)
        · rfl
      clear hv
      go_wp2_with fail
      go_ret
      have h := H.out w2 true (Fr.refl _ _)
      exact ⟨_, r', true, rfl, Hlen.out, h.1, ⟨fun _ => rfl, fun _ => .inl ⟨Hno.out, rfl⟩⟩, h.2⟩
end Go.Proofs.YtmieegcgeolckaaGreatDoor
namespace Go.Proofs.YtmieegcgeolckaaGreatDoor
open Go.RowKit Go.Maps
set_option linter.unusedVariables false

/-- The text of a logical volume's name. -/
def lvT (id : ByteArray) (k : Int) : ByteArray := (⟨#[108, 118, 45]⟩ : ByteArray) ++ id ++ (⟨#[45]⟩ : ByteArray) ++ (⟨(Lib.itoa k).toArray⟩ : ByteArray)
def lvOk (id : ByteArray) (k : Int) : Bool := decide (1 ≤ k) && decide (k ≤ 16) && isName (lvT id k)
theorem lvT_size (id : ByteArray) (k : Int) : (lvT id k).size = id.size + 4 + (Lib.itoa k).length := by
  unfold lvT
  rw [ByteArray.size_append, ByteArray.size_append, ByteArray.size_append]
  show 3 + id.size + 1 + (Lib.itoa k).toArray.size = _
  simp; omega

set_option maxRecDepth 100000 in
set_option maxHeartbeats 2000000 in
theorem v_name (id : ByteArray) (k : Int) (w : World) (hE : Env w) (hid : id.size ≤ 1000000) (hk : (Lit.int .i64 k).wf = true) :
    Calls Tryz.prog 39 #[.string id, .int .i64 k] w fun e w' => e = .returned (.tuple #[.string (if lvOk id k = true then lvT id k else ⟨#[]⟩), .int .i64 (if lvOk id k = true then 0 else 340)]) ∧ Fr No w w' := by
  have hkb : -9223372036854775808 ≤ k ∧ k ≤ 9223372036854775807 := by simp [Lit.wf, IntKind.min, IntKind.max, IntKind.signed, IntKind.bits] at hk; omega
  have hil := Lib.itoa_length_le k hkb.1 hkb.2
  have hsz := lvT_size id k
  have h1 : ((⟨#[108, 118, 45]⟩ : ByteArray) ++ id).size ≤ 9223372036854775807 := by rw [ByteArray.size_append]; show 3 + id.size ≤ _; omega
  have h2 : ((⟨#[108, 118, 45]⟩ : ByteArray) ++ id ++ (⟨#[45]⟩ : ByteArray)).size ≤ 9223372036854775807 := by rw [ByteArray.size_append, ByteArray.size_append]; show 3 + id.size + 1 ≤ _; omega
  obtain ⟨it, hit⟩ : ∃ it, it = (⟨(Lib.itoa k).toArray⟩ : ByteArray) := ⟨_, rfl⟩
  have hL : lvT id k = (⟨#[108, 118, 45]⟩ : ByteArray) ++ id ++ (⟨#[45]⟩ : ByteArray) ++ it := by rw [hit]; rfl
  have h3 : ((⟨#[108, 118, 45]⟩ : ByteArray) ++ id ++ (⟨#[45]⟩ : ByteArray) ++ it).size ≤ 9223372036854775807 := by rw [← hL, hsz]; omega
  have h4 : ((⟨#[108, 118, 45]⟩ : ByteArray) ++ id ++ (⟨#[45]⟩ : ByteArray) ++ it).size ≤ maxLen := by unfold maxLen; rw [← hL, hsz]; omega
  have hits : it.size ≤ 21 := by rw [hit]; simpa [ByteArray.size] using hil
  have hz3 : ¬ 9223372036854775807 < 3 + id.size + 1 + it.size := by omega
  have hz4 : ¬ 9223372036854775807 < ((⟨#[108, 118, 45]⟩ : ByteArray) ++ id ++ (⟨#[45]⟩ : ByteArray)).size + it.size := by rw [← ByteArray.size_append]; omega
  have hz5 : ((⟨#[108, 118, 45]⟩ : ByteArray) ++ id ++ (⟨#[45]⟩ : ByteArray)).size + it.size ≤ 9223372036854775807 := by omega
  obtain ⟨bo, hbo⟩ : ∃ bo, bo = lvOk id k := ⟨_, rfl⟩
  rw [← hbo, hL]
  have Hbo := Lib.hid hbo
  have HL := Lib.hid hL
  have hit2 : (⟨(Lib.itoa k).toArray⟩ : ByteArray) = it := hit.symm
  clear hbo hL hsz hil hit
  go_enter Tryz.func39, Tryz.ntmps39
  go_wp2_with fail
  refine (Tryz.strconv_Itoa k hkb.1 hkb.2 _ hE.tab).mono ?_
  rintro e w1 ⟨rfl, kk, os, rfl⟩
  have hf1 : Fr No w (Go.Sort.grow (w.drewN kk) os) := Fr.of_below_size (Lib.below_grow _ w (Nat.le_refl _) kk os)
  generalize Go.Sort.grow (w.drewN kk) os = w1 at *
  rw [hit2]
  by_cases hk1 : 1 ≤ k
  · by_cases hk2 : k ≤ 16
    · go_wp2_with fail
      refine (name_valid _ _ h4).mono ?_
      rintro e w2 ⟨rfl, hf2⟩
      have hf12 := hf1.step hf2 (fun _ _ h => h)
      have hb : bo = isName ((⟨#[108, 118, 45]⟩ : ByteArray) ++ id ++ (⟨#[45]⟩ : ByteArray) ++ it) := by rw [Hbo.out, ← HL.out]; unfold lvOk; simp [hk1, hk2]
      rw [← hb]
      have Hf := Lib.hid hf12
      clear hf1 hf2 hf12 hb
      cases bo
      · go_wp2_with fail
        refine bodyPost_ret (v := .tuple #[.string ⟨#[]⟩, .int .i64 340]) (by simp [results, Tryz.results39, go_sem]) rfl ?_
        exact ⟨by simp, Hf.out⟩
      · go_wp2_with fail
        refine bodyPost_ret (v := .tuple #[.string ((⟨#[108, 118, 45]⟩ : ByteArray) ++ id ++ (⟨#[45]⟩ : ByteArray) ++ it), .int .i64 0]) (by simp [results, Tryz.results39, go_sem]) rfl ?_
        exact ⟨by simp, Hf.out⟩
    · have hb : bo = false := by rw [Hbo.out]; unfold lvOk; simp [hk2]
      subst hb
      have Hf := Lib.hid hf1
      clear hf1
      go_wp2_with fail
      refine bodyPost_ret (v := .tuple #[.string ⟨#[]⟩, .int .i64 340]) (by simp [results, Tryz.results39, go_sem]) rfl ?_
      exact ⟨by simp, Hf.out⟩
  · have hb : bo = false := by rw [Hbo.out]; unfold lvOk; simp [hk1]
    subst hb
    have Hf := Lib.hid hf1
    clear hf1
    go_wp2_with fail
    refine bodyPost_ret (v := .tuple #[.string ⟨#[]⟩, .int .i64 340]) (by simp [results, Tryz.results39, go_sem]) rfl ?_
    exact ⟨by simp, Hf.out⟩
end Go.Proofs.YtmieegcgeolckaaGreatDoor
namespace Go.Proofs.YtmieegcgeolckaaGreatDoor
open Go.RowKit Go.Maps
set_option linter.unusedVariables false

def wantAt (gi : ByteArray) (ins : List ByteArray) (r : Int) (i : Nat) : Vir := ⟨⟨#[]⟩, lvT gi ((i : Int) + 1), ins[i]?.getD ⟨#[]⟩, r⟩
/-- The logical volumes of the first k inner ones. -/
def wantF (gi : ByteArray) (ins : List ByteArray) (r : Int) (k : Nat) : List Vir := ((List.range k).filter fun i : Nat => lvOk gi ((i : Int) + 1)).map (wantAt gi ins r)
theorem wantF_succ (gi : ByteArray) (ins : List ByteArray) (r : Int) (k : Nat) : wantF gi ins r (k + 1) = wantF gi ins r k ++ (if lvOk gi ((k : Int) + 1) = true then [wantAt gi ins r k] else []) := by
  unfold wantF
  rw [List.range_succ, List.filter_append, List.map_append]
  cases h : lvOk gi ((k : Int) + 1) <;> simp [h]
theorem wantF_len (gi : ByteArray) (ins : List ByteArray) (r : Int) (k : Nat) : (wantF gi ins r k).length ≤ k := by
  unfold wantF
  rw [List.length_map]
  exact Nat.le_trans (List.length_filter_le _ _) (by simp)
def wantL (gi : ByteArray) (t n : Int) (ins : List ByteArray) (r : Int) : List Vir := if n = t then wantF gi ins r ins.length else []

set_option maxRecDepth 100000 in
set_option maxHeartbeats 4000000 in
theorem v_want (gi : ByteArray) (t e n rd : Int) (pa : Option Addr) (pn pc : Nat) (la : Option Addr) (lc : Nat) (ins : List ByteArray) (w : World) (hE : Env w) (hid : gi.size ≤ 1000000) (hS : Strs w la lc ins) (hil : ins.length ≤ 1000000) :
    Calls Tryz.prog 42 #[.agg #[.string gi, .slice pa pn pc, .int .i64 t, .int .i64 e, .int .i64 n, .slice la ins.length lc], .int .i64 rd] w fun en w' => (∃ a' c' V, en = .returned (.slice a' (V : List Vir).length c') ∧ Virs w' a' c' V ∧ V = wantL gi t n ins rd) ∧ Fr No w w' := by
  obtain ⟨i0, hi0, hz0, hz1, hz2⟩ := info_parts infoV
  have hx : Fr No w (w.alloc (.cells #[.string gi, .slice pa pn pc, .int .i64 t, .int .i64 e, .int .i64 n, .slice la ins.length lc] 70)) := (Fr.refl _ _).alloc _
  have q0 := block_alloc w (.cells #[.string gi, .slice pa pn pc, .int .i64 t, .int .i64 e, .int .i64 n, .slice la ins.length lc] 70)
  have hm := hS.lenmax
  have hS0 := hS.no hx (fun _ => id)
  have hE0 := hE.no hx
  have hl0 := lt_of_block q0
  obtain ⟨W0, hW0⟩ : ∃ W0, W0 = w.alloc (.cells #[.string gi, .slice pa pn pc, .int .i64 t, .int .i64 e, .int .i64 n, .slice la ins.length lc] 70) := ⟨_, rfl⟩
  rw [← hW0] at hx q0 hS0 hE0 hl0
  have x0 : W0.cell? ⟨w.heap.size, 0, none⟩ = some (.string gi) := cell_of_block q0 0
  have x2 : W0.cell? ⟨w.heap.size, 2, none⟩ = some (.int .i64 t) := cell_of_block q0 2
  have x4 : W0.cell? ⟨w.heap.size, 4, none⟩ = some (.int .i64 n) := cell_of_block q0 4
  have x5 : W0.cell? ⟨w.heap.size, 5, none⟩ = some (.slice la ins.length lc) := cell_of_block q0 5
  have Hx := Lib.hid hx
  clear hx hS hE
  go_enter Tryz.func42, Tryz.ntmps42
  go_upto_region 1 with (fail)
  rw [← hW0]
  clear hW0
  by_cases hnt : n = t
  · subst hnt
    go_wp2_with fail
    go_loopw [5, 18] (fun u i wr => ∃ (j : Nat) (V : List Vir) (av : Option Addr) (cv : Nat), j ≤ ins.length ∧ V.length ≤ j ∧ u = .slice av V.length cv ∧ i = .int .i64 (j : Int) ∧ wr.ownsRow W0.heap.size 44 4 (.slice av V.length cv) V.length (vflat V) ∧ Hid (V = wantF gi ins rd j) ∧ Fr (From W0.heap.size) W0 wr) (fun _ i _ => ins.length - (intOf i).toNat)
    case atStart => exact ⟨0, [], none, 0, by omega, by simp, rfl, rfl, World.ownsRow_nil _ _ _ _, by unfold Hid wantF; simp, Fr.refl _ _⟩
    case round =>
      obtain ⟨j, V, av, cv, hj, hVl, rfl, rfl, hown, HV, hf⟩ := hrel
      have hVle : V.length ≤ 1000000 := by omega
      by_cases hlt : j < ins.length
      · have hlt' : (j : Int) < ins.length := by omega
        obtain ⟨b, off, x, rfl, hxj, hc⟩ := (hS0.fr hf (fun ad e hne => by have := (hS0.cell ad e hne).2.1; unfold From; omega)).at hlt
        have y0 : wr.cell? ⟨w.heap.size, 0, none⟩ = some (.string gi) := hf.cell x0 (by show ¬ From W0.heap.size w.heap.size; unfold From; omega)
        have hnm := v_name gi ((j : Int) + 1) wr (hE0.no (hf.mono (fun b hb h => by unfold From at h; omega))) hid (WalkArith.wf_i64 (by omega))
        have Hxj := Lib.hid hxj
        have hsr := hf.size
        clear hxj
        rcases hok : lvOk gi ((j : Int) + 1) with _ | _
        · rw [hok] at hnm
          simp only [Bool.false_eq_true, if_false] at hnm
          have HV2 : Hid (V = wantF gi ins rd (j + 1)) := by unfold Hid; rw [wantF_succ, hok]; simpa using HV.out
          clear hok
          go_wp2_with fail
          refine hnm.mono ?_
          rintro en w1 ⟨rfl, hf1⟩
          have H := Lib.hid (And.intro (ownsRow_at hown hf1 (fun _ _ h => h)) (hf.step hf1 (fun _ _ h => h.elim)))
          clear hown hf hf1 hnm HV
          go_wp2_with fail
          go_roundw
          case rel => exact ⟨j + 1, V, av, cv, by omega, by omega, rfl, by go_num, H.out.1, HV2, H.out.2⟩
          case measure => simp [intOf]; omega
        · rw [hok] at hnm
          simp only [if_true] at hnm
          have HV2 : Hid (wantF gi ins rd (j + 1) = V ++ [⟨⟨#[]⟩, lvT gi ((j : Int) + 1), x, rd⟩]) := by
            unfold Hid; rw [wantF_succ, hok, ← HV.out, if_pos rfl]
            unfold wantAt; rw [Hxj.out]; rfl
          clear hok
          go_wp2_with fail
          refine hnm.mono ?_
          rintro en w1 ⟨rfl, hf1⟩
          have hown1 := ownsRow_at hown hf1 (fun _ _ h => h)
          have hf01 := hf.step hf1 (fun _ _ h => h.elim)
          have hs1 := hf1.size
          have Hown1 := Lib.hid hown1
          have Hf01 := Lib.hid hf01
          obtain ⟨nm, hnm2⟩ : ∃ nm, nm = lvT gi ((j : Int) + 1) := ⟨_, rfl⟩
          rw [← hnm2] at HV2 ⊢
          clear hown hf hf1 hnm HV hf01 hnm2
          go_wp2_with (at_builtin; refine wpList_append_own _ rfl _ _ 40 rfl W0.heap.size 44 i0 (.agg #[.string ByteArray.empty, .string ByteArray.empty, .string ByteArray.empty, .int .i64 0]) 4 56 Tryz.underlying40 hi0 hz0 hz1 hz2 rfl (by decide) _ _ _ rfl (hown1.alloc _) ⟨w1.heap.size, 0, none⟩ 1 1 (Vir.vals ⟨⟨#[]⟩, nm, x, rd⟩).toList rfl rfl (cells_new _ (Vir.vals ⟨⟨#[]⟩, nm, x, rd⟩) _ rfl) (vvals_one _) (by unfold maxLen; omega) (by omega) (by first | omega | (simp; done) | (simp; omega)) ?_; intro v' w6 hown6 hgrow6 _; obtain ⟨av', cv', rfl⟩ := ownsRow_slice hown6)
          have hgf : Fr (fun b => (Value.slice av V.length cv).ownBlock = some b) (w1.alloc (.cells (Vir.vals ⟨⟨#[]⟩, nm, x, rd⟩) 44)) w6 := Fr.of_grown hgrow6
          have hal : Fr No w1 (w1.alloc (.cells (Vir.vals ⟨⟨#[]⟩, nm, x, rd⟩) 44)) := (Fr.refl _ _).alloc _
          have HF := Lib.hid (And.intro hown6 ((Hf01.out.step hal (fun _ _ h => h.elim)).step hgf (fun b _ h => ownsRow_blk Hown1.out h)))
          clear hown6 hgf hal hgrow6 hown1
          go_roundw
          case rel => exact ⟨j + 1, V ++ [⟨⟨#[]⟩, nm, x, rd⟩], av', cv', by omega, by simp; omega, by simp, by go_num, by rw [List.length_append, vflat_snoc]; exact HF.out.1, Lib.hid HV2.out.symm, HF.out.2⟩
          case measure => simp [intOf]; omega
      · obtain rfl : j = ins.length := by omega
        obtain ⟨a', c', hv, hR, hfresh⟩ := Virs.of_own hown
        cases hv
        have H := Lib.hid (And.intro hR (Hx.out.step (hf.mono (T := No) (fun b hb h => by unfold From at h; omega)) (fun _ _ h => h)))
        clear hown hf hR hfresh
        go_wp2_with fail
        go_ret
        exact ⟨⟨_, _, V, rfl, H.out.1, by unfold wantL; rw [if_pos rfl]; exact HV.out⟩, H.out.2⟩
  · have hb : (n != t) = true := by simpa using hnt
    have Hnt := Lib.hid hnt
    clear hnt
    go_wp2_with fail
    go_ret
    exact ⟨⟨none, 0, [], rfl, Virs.nil _, by unfold wantL; rw [if_neg Hnt.out]⟩, Hx.out⟩
end Go.Proofs.YtmieegcgeolckaaGreatDoor
