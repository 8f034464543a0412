/- name.Split, name.Under, exactly. cmp.Compare, cmp.Or. cmp.Compare of strings. Attributes in memory; Sorted, Node. Node, Link. Check of a device. Compare, Beneath, clash. slices.Compare of strings. name.Compare. gather.ComparePaths. gather.Before. -/
import Derived.Test.YtbblkknndaoefaaGreatDoorZV1
import Derived.Test.YtbblkknndaoefaaGreatDoorZV2
import Derived.Test.YtbblkknndaoefaaGreatDoorStrs2
import Derived.Lib.SplitLaws
import Derived.Laws.EntriesVeiled
import Derived.Lib.ReplaceLaws
import Derived.Deep.DeepCutAuto
namespace Go.Proofs.YtbblkknndaoefaaGreatDoor
open Go.RowKit Go.Maps
set_option linter.unusedVariables false

/-! ### Cut at a byte -/
def spl (c : UInt8) : List UInt8 → List (List UInt8)
  | [] => [[]]
  | x :: t => if x = c then [] :: spl c t else match spl c t with
    | [] => [[x]]
    | h :: r => (x :: h) :: r
theorem spl_ne (c : UInt8) : ∀ s, spl c s ≠ []
  | [] => by simp [spl]
  | x :: t => by
    unfold spl
    split
    · simp
    · split <;> simp
theorem splitK_spl (c : UInt8) : ∀ s : List UInt8, Lib.splitK [c] 0 (s.count c) s = spl c s
  | [] => rfl
  | x :: t => by
    have ih := splitK_spl c t
    by_cases hx : x = c
    · subst hx
      have hi : Lib.index (x :: t) [x] = 0 := by
        unfold Lib.index
        rw [if_pos (by simp)]
      have e : spl x (x :: t) = [] :: spl x t := by rw [spl, if_pos rfl]
      rw [List.count_cons_self, Lib.splitK, hi, e, ← ih]
      rfl
    · have hc : (x :: t).count c = t.count c := List.count_cons_of_ne hx
      have hp : ([c].isPrefixOf (x :: t)) = false := by
        have h1 : (c == x) = false := by simpa using fun h => hx h.symm
        simp [List.isPrefixOf, h1]
      have hs : spl c (x :: t) = (match spl c t with | [] => [[x]] | h :: r => (x :: h) :: r) := by
        rw [spl, if_neg hx]
      rw [hc, hs, ← ih]
      cases hk : t.count c with
      | zero => simp [Lib.splitK]
      | succ k =>
        have hi : Lib.index (x :: t) [c] = if Lib.index t [c] == -1 then -1 else Lib.index t [c] + 1 := by
          rw [Lib.index, if_neg (by rw [hp]; simp)]
        rw [Lib.splitK, Lib.splitK, hi]
        by_cases h1 : (Lib.index t [c] == -1) = true
        · simp [h1]
        · have h2 := Lib.index_ge t [c]
          have h3 : Lib.index t [c] ≠ -1 := by simpa using h1
          obtain ⟨n, hn⟩ := Int.eq_ofNat_of_zero_le (show 0 ≤ Lib.index t [c] by omega)
          rw [if_neg h1, if_neg h1, hn]
          rw [if_neg (by simp; omega)]
          rw [show ((n : Int) + 1).toNat = n + 1 by omega, show ((n : Int)).toNat = n by omega]
          simp
theorem spl_none {c : UInt8} : ∀ {s : List UInt8}, (∀ x ∈ s, x ≠ c) → spl c s = [s]
  | [], _ => rfl
  | x :: t, h => by
    rw [spl, if_neg (h x (by simp)), spl_none (fun y hy => h y (by simp [hy]))]
theorem spl_app {c : UInt8} : ∀ {s : List UInt8} {t : List UInt8}, (∀ x ∈ s, x ≠ c) → spl c (s ++ c :: t) = s :: spl c t
  | [], t, _ => by simp [spl]
  | x :: s, t, h => by
    rw [List.cons_append, spl, if_neg (h x (by simp)), spl_app (fun y hy => h y (by simp [hy]))]
theorem spl_join {c : UInt8} : ∀ (l : List (List UInt8)), l ≠ [] → (∀ x ∈ l, ∀ b ∈ x, b ≠ c) → spl c (Lib.join l [c]) = l
  | [], h, _ => absurd rfl h
  | [x], _, h => by simp [Lib.join]; exact spl_none (h x (by simp))
  | x :: y :: t, _, h => by
    have ih := spl_join (y :: t) (by simp) (fun z hz => h z (by simp [hz]))
    have e : Lib.join (x :: y :: t) [c] = x ++ c :: Lib.join (y :: t) [c]   := by simp [Lib.join]
    rw [e, spl_app (h x (by simp)), ih]

/-- The names of a path. -/
def sparts (s : ByteArray) : List ByteArray := (spl 47 (Lib.trimPrefix s.data.toList [47])).map fun x => ⟨x.toArray⟩
def goodPath (s : ByteArray) : Bool := Lib.hasPrefix s.data.toList [47] && (sparts s).all isName
theorem sparts_ne (s : ByteArray) : sparts s ≠ [] := by
  unfold sparts
  intro h
  exact spl_ne _ _ (List.map_eq_nil_iff.1 h)
theorem spl_le (c : UInt8) : ∀ (s : List UInt8), ∀ x ∈ spl c s, x.length ≤ s.length
  | [], x, h => by simp [spl] at h; subst h; simp
  | y :: t, x, h => by
    have ih := spl_le c t
    unfold spl at h
    split at h
    · rcases List.mem_cons.1 h with rfl | h
      · simp
      · have := ih x h; simp; omega
    · split at h
      · simp at h; subst h; simp
      · rename_i a r e
        rcases List.mem_cons.1 h with rfl | h
        · have := ih a (by rw [e]; simp); simp; omega
        · have := ih x (by rw [e]; simp [h]); simp; omega
theorem trim_le (s p : List UInt8) : (Lib.trimPrefix s p).length ≤ s.length := by
  unfold Lib.trimPrefix
  split <;> simp
theorem sparts_size (s : ByteArray) : ∀ x ∈ sparts s, x.size ≤ s.size := by
  intro x hx
  obtain ⟨y, hy, rfl⟩ := List.mem_map.1 hx
  have h1 := spl_le 47 _ y hy
  have h2 := trim_le s.data.toList [47]
  have h3 : s.data.toList.length = s.size := (Lib.size_eq s).symm
  simp only [ByteArray.size, List.size_toArray] at h3 ⊢
  omega
theorem split_parts (s : ByteArray) : Lib.splitB ⟨#[47]⟩ 0 (Lib.countB s ⟨#[47]⟩) s = (spl 47 s.data.toList).map fun x => ⟨x.toArray⟩ := by
  have h1 := Lib.splitB_data ⟨#[47]⟩ 0 (Lib.countB s ⟨#[47]⟩) s
  have h2 : Lib.countB s ⟨#[47]⟩ = s.data.toList.count 47 := Lib.count_one 47 s.data.toList
  have h3 : (⟨#[47]⟩ : ByteArray).data.toList = [47] := rfl
  rw [h3] at h1
  rw [h2] at h1 ⊢
  rw [splitK_spl] at h1
  rw [← h1, List.map_map]
  symm
  rw [List.map_congr_left (g := id)]
  · simp
  · intro x _; simp
theorem split_len (s : ByteArray) : Lib.countB s ⟨#[47]⟩ + 1 = ((spl 47 s.data.toList).map fun x => (⟨x.toArray⟩ : ByteArray)).length := by
  rw [← split_parts, Lib.splitB_all ⟨#[47]⟩ (by decide) 0 _ _ rfl]

/-! ### The walks -/
theorem Strs.new (w : World) (l : List ByteArray) (T : TypeId) (hl : l.length ≤ maxLen) : Strs (w.alloc (.cells (l.map Value.string).toArray T)) (some ⟨w.heap.size, 0, none⟩) l.length l := by
  refine ⟨Nat.le_refl _, hl, (fun e => by cases e), ?_⟩
  intro ad e hne
  cases e
  refine ⟨rfl, by simp, fun i x hi => ?_⟩
  rw [cell_of_block (block_alloc _ _)]
  simp [hi]

set_option maxRecDepth 100000 in
set_option maxHeartbeats 1000000 in
theorem allv_has (bt : Nat) (s : ByteArray) (w : World) (hb : w.cell? ⟨bt, 0, none⟩ = some (.func (.func 82) #[] #[])) (hs : s.size ≤ maxLen) :
    Calls Tryz.prog 226 #[.string s, .pointer (some ⟨bt, 0, none⟩)] w fun e w' => e = .returned (.bool (!isName s)) ∧ Fr No w w' := by
  go_enter Tryz.func226, Tryz.ntmps226
  go_wp2_with fail
  refine (name_valid s _ hs).mono ?_
  rintro e w1 ⟨rfl, hf1⟩
  go_wp2_with fail
  go_ret
  exact ⟨rfl, hf1⟩

set_option maxHeartbeats 1000000 in
theorem allv_index (bt : Nat) (la : Option Addr) (lc : Nat) (l : List ByteArray) (w : World) (hb : w.cell? ⟨bt, 0, none⟩ = some (.func (.func 82) #[] #[])) (hi : Strs w la lc l) (hs : ∀ x ∈ l, x.size ≤ maxLen) :
    Calls Tryz.prog 240 #[.slice la l.length lc, .func (.func 226) #[] #[.pointer (some ⟨bt, 0, none⟩)]] w fun e w' => (∃ r : Int, e = .returned (.int .i64 r) ∧ decide (0 ≤ r) = !l.all isName) ∧ Fr No w w' := by
  have hm := hi.lenmax
  go_enter Tryz.func240, Tryz.ntmps240
  go_wp2_with fail
  go_loopw [8] (fun i wr => ∃ k : Nat, k ≤ l.length ∧ i = .int .i64 k ∧ Hid ((l.take k).all isName = true) ∧ Fr No w wr) (fun i _ => l.length - (intOf i).toNat)
  case atStart => exact ⟨0, by omega, rfl, by unfold Hid; simp, Fr.refl _ _⟩
  case round =>
    obtain ⟨k, hk, rfl, hno, hfr⟩ := hrel
    by_cases hlt : k < l.length
    · have hlt' : (k : Int) < l.length := by omega
      obtain ⟨bb, off, x, rfl, hx, hc⟩ := (hi.no hfr (fun _ => id)).at hlt
      have hxs := hs x (List.mem_of_getElem? hx)
      have Htk : Hid (l.take (k + 1) = l.take k ++ [x]) := by unfold Hid; rw [List.take_add_one, hx]; rfl
      have Hmem := Lib.hid (List.mem_of_getElem? hx)
      clear hx
      go_wp2_with fail
      refine (allv_has bt x _ (hfr.cell hb id) hxs).mono ?_
      rintro e w1 ⟨rfl, hf1⟩
      have hfr1 := hfr.step hf1 (fun _ _ h => h)
      clear hc
      cases hp : isName x
      · have Hr : Hid (l.all isName = false) := by unfold Hid; rw [List.all_eq_false]; exact ⟨x, Hmem.out, by rw [hp]; simp⟩
        clear hp
        go_wp2_with fail
        go_ret
        exact ⟨⟨(k : Int), rfl, by rw [Hr.out]; simp⟩, hfr1⟩
      · have Hn : Hid ((l.take (k + 1)).all isName = true) := by unfold Hid; rw [Htk.out, List.all_append, hno.out]; simp [hp]
        clear hp
        go_wp2_with fail
        go_roundw
        case rel => exact ⟨k + 1, by omega, by go_num, Hn, hfr1⟩
        case measure => simp [intOf]; omega
    · have h := hno.out
      rw [List.take_of_length_le (by omega)] at h
      have Hp := Lib.hid h
      clear h
      go_wp2_with fail
      go_ret
      exact ⟨⟨-1, rfl, by rw [Hp.out]; rfl⟩, hfr⟩

set_option maxRecDepth 100000 in
set_option maxHeartbeats 1000000 in
theorem name_all (la : Option Addr) (lc : Nat) (l : List ByteArray) (w : World) (hi : Strs w la lc l) (hs : ∀ x ∈ l, x.size ≤ maxLen) :
    Calls Tryz.prog 194 #[.slice la l.length lc, .func (.func 82) #[] #[]] w fun e w' => e = .returned (.bool (l.all isName)) ∧ Fr No w w' := by
  have hx : Fr No w (w.alloc (.cells #[.func (.func 82) #[] #[]] 109)) := (Fr.refl _ _).alloc _
  have q3 := block_alloc w (.cells #[.func (.func 82) #[] #[]] 109)
  have hi0 := hi.no hx (fun _ => id)
  go_enter Tryz.func194, Tryz.ntmps194
  go_wp2_with fail
  generalize w.alloc (.cells #[.func (.func 82) #[] #[]] 109) = W0 at *
  refine (show Calls Tryz.prog 225 _ _ (fun e w' => e = .returned (.bool (!l.all isName)) ∧ Fr No W0 w') from ?_).mono ?_
  · go_enter Tryz.func225, Tryz.ntmps225
    go_wp2_with fail
    refine (allv_index w.heap.size la lc l _ (cell_of_block q3 0) hi0 hs).mono ?_
    rintro e w1 ⟨⟨r, rfl, hr⟩, hf1⟩
    have Hr := Lib.hid hr
    clear hr
    go_wp2_with fail
    go_ret
    exact ⟨ret_bool Hr.out, hf1⟩
  · rintro e w1 ⟨rfl, hf1⟩
    go_wp2_with fail
    go_ret
    exact ⟨ret_bool (by simp), hx.step hf1 (fun _ _ h => h)⟩

def SplitR (s : ByteArray) (e : Ending) (w' : World) (B : Nat) : Prop :=
  (goodPath s = false ∧ e = .returned (.tuple #[.slice none 0 0, .int .i64 10])) ∨
  (goodPath s = true ∧ ∃ ad, e = .returned (.tuple #[.slice (some ad) (sparts s).length (sparts s).length, .int .i64 0]) ∧ Strs w' (some ad) (sparts s).length (sparts s) ∧ B ≤ ad.block)

set_option maxRecDepth 100000 in
set_option maxHeartbeats 1000000 in
theorem n_split (s : ByteArray) (m : Int) (w : World) (hs : s.size ≤ 1000000) (hm : w.cell? ⟨1, 0, none⟩ = some (.int .i64 m)) :
    Calls Tryz.prog 157 #[.string s] w fun e w' => SplitR s e w' w.heap.size ∧ Fr No w w' := by
  have hml : (1000001 : Nat) ≤ maxLen := by unfold maxLen; omega
  have hcut := Tryz.strings_CutPrefix s ⟨#[47]⟩ w
  obtain ⟨rest, hrest⟩ : ∃ r, r = (⟨(Lib.trimPrefix s.data.toList [47]).toArray⟩ : ByteArray) := ⟨_, rfl⟩
  have hrs : rest.size ≤ 1000000 := by
    rw [hrest]
    have h2 := trim_le s.data.toList [47]
    simp only [ByteArray.size, List.size_toArray]
    simp at h2
    omega
  have hps : sparts s = (spl 47 rest.data.toList).map fun x => ⟨x.toArray⟩ := by rw [hrest]; rfl
  obtain ⟨pp, hpp⟩ : ∃ pp, pp = sparts s := ⟨_, rfl⟩
  have hg : goodPath s = (Lib.hasPrefix s.data.toList [47] && pp.all isName) := by rw [hpp]; rfl
  have hsz : ∀ x ∈ pp, x.size ≤ maxLen := fun x hx => by rw [hpp] at hx; have := sparts_size s x hx; omega
  have hcnt := split_len rest
  have hspl := split_parts rest
  rw [← hps, ← hpp] at hcnt hspl
  have hle := Lib.countB_le ⟨#[47]⟩ (by decide) rest.size rest (Nat.le_refl _)
  have hpl : pp.length ≤ maxLen := by omega
  have hcut' : Calls Tryz.prog 193 #[.string s, .string ⟨#[47]⟩] w fun e w' => e = .returned (.tuple #[.string rest, .bool (Lib.hasPrefix s.data.toList [47])]) ∧ w' = w := by rw [hrest]; exact hcut
  have Hg := Lib.hid hg
  have Hpp := Lib.hid hpp
  have Hspl := Lib.hid hspl
  have Hcnt := Lib.hid hcnt
  clear hcut hrest hps hpp hg hcnt hspl
  generalize Lib.hasPrefix s.data.toList [47] = pre at *
  go_enter Tryz.func157, Tryz.ntmps157
  go_wp2_with fail
  refine hcut'.mono ?_
  rintro e w1 ⟨rfl, rfl⟩
  go_wp2_with fail
  refine (Tryz.strings_Split rest ⟨#[47]⟩ m _ (by omega) hm (by decide)).mono ?_
  rintro e w2 ⟨rfl, rfl⟩
  rw [Hspl.out, Hcnt.out]
  have hx : Fr No w1 (w1.alloc (.cells ((pp.map Value.string).toArray) 9)) := (Fr.refl _ _).alloc _
  have hS := Strs.new w1 pp 9 hpl
  have hb0 : w1.heap.size < (w1.alloc (.cells ((pp.map Value.string).toArray) 9)).heap.size := by simp
  clear hm hle
  generalize w1.alloc (.cells ((pp.map Value.string).toArray) 9) = W2 at *
  cases pre with
  | false =>
    have Hb : Hid (goodPath s = false) := by unfold Hid; rw [Hg.out]; rfl
    go_wp2_with fail
    go_ret2
    exact ⟨.inl ⟨Hb.out, rfl⟩, hx⟩
  | true =>
    have Hx := Lib.hid hx
    have HS := Lib.hid hS
    clear hx
    go_wp2_with fail
    refine (name_all _ _ pp _ hS hsz).mono ?_
    rintro e w3 ⟨rfl, hf3⟩
    have HS3 := Lib.hid (HS.out.no hf3 (fun _ => id))
    have Hf3 := Lib.hid (Hx.out.step hf3 (fun _ _ h => h))
    clear hS hsz hf3
    cases hal : pp.all isName with
    | false =>
      have Hb : Hid (goodPath s = false) := by unfold Hid; rw [Hg.out, hal]; rfl
      clear hal
      go_wp2_with fail
      go_ret2
      exact ⟨.inl ⟨Hb.out, rfl⟩, Hf3.out⟩
    | true =>
      have Hb : Hid (goodPath s = true) := by unfold Hid; rw [Hg.out, hal]; rfl
      clear hal
      go_wp2_with fail
      go_ret2
      refine ⟨.inr ⟨Hb.out, ⟨w1.heap.size, 0, none⟩, ?_, ?_, Nat.le_refl _⟩, Hf3.out⟩
      · rw [← Hpp.out]; rfl
      · rw [← Hpp.out]; exact HS3.out

def errP (b : Bool) : Int := if b = true then 0 else 10
/-- A path lies below another one. -/
def underB (d p : ByteArray) : Bool := goodPath d && goodPath p && decide ((sparts d).length < (sparts p).length) && decide ((sparts p).take (sparts d).length = sparts d)

end Go.Proofs.YtbblkknndaoefaaGreatDoor
namespace Go.Proofs.YtbblkknndaoefaaGreatDoor
open Go.RowKit Go.Maps
set_option linter.unusedVariables false

/-- The order of two ints. -/
def cmpI (x y : Int) : Int := if x < y then -1 else if y < x then 1 else 0
set_option maxHeartbeats 1000000 in
theorem nan_int (x : Int) (w : World) : Calls Tryz.prog 155 #[.int .i64 x] w fun e w' => e = .returned (.bool false) ∧ w = w' := by
  go_enter Tryz.func155, Tryz.ntmps155
  go_wp2_with fail
  go_ret
  simp
set_option maxHeartbeats 1000000 in
theorem nan_str (x : ByteArray) (w : World) : Calls Tryz.prog 195 #[.string x] w fun e w' => e = .returned (.bool false) ∧ w = w' := by
  have hb : (!x.toList == x.toList) = false := by simp
  go_enter Tryz.func195, Tryz.ntmps195
  go_wp2_with fail
  go_ret
  simp
set_option maxHeartbeats 1000000 in
theorem cmp_int (x y : Int) (w : World) : Calls Tryz.prog 132 #[.int .i64 x, .int .i64 y] w fun e w' => e = .returned (.int .i64 (cmpI x y)) ∧ w = w' := by
  obtain ⟨r, hr⟩ : ∃ r, r = cmpI x y := ⟨_, rfl⟩
  rw [← hr]
  have Hr := Lib.hid hr
  clear hr
  go_enter Tryz.func132, Tryz.ntmps132
  go_wp2_with fail
  refine (nan_int x _).mono ?_
  rintro e w1 ⟨rfl, rfl⟩
  go_wp2_with fail
  refine (nan_int y _).mono ?_
  rintro e w1 ⟨rfl, rfl⟩
  by_cases h1 : x < y
  · have H1 := Lib.hid h1
    go_wp2_with fail
    go_ret
    exact ⟨by rw [Hr.out, cmpI, if_pos H1.out]; rfl, rfl⟩
  · by_cases h2 : y < x
    · have H1 := Lib.hid h1
      have H2 := Lib.hid h2
      go_wp2_with fail
      go_ret
      exact ⟨by rw [Hr.out, cmpI, if_neg (by have := H1.out; omega), if_pos H2.out]; rfl, rfl⟩
    · have H1 := Lib.hid h1
      have H2 := Lib.hid h2
      go_wp2_with fail
      go_ret
      exact ⟨by rw [Hr.out, cmpI, if_neg (by have := H1.out; omega), if_neg (by have := H2.out; omega)]; rfl, rfl⟩
/-- The first that is not zero. -/
def orI (x y : Int) : Int := if x = 0 then y else x
set_option maxRecDepth 100000 in
set_option maxHeartbeats 2000000 in
theorem or_int (b : Nat) (x y : Int) (w : World) (h0 : w.cell? ⟨b, 0, none⟩ = some (.int .i64 x)) (h1 : w.cell? ⟨b, 1, none⟩ = some (.int .i64 y)) : Calls Tryz.prog 131 #[.slice (some ⟨b, 0, none⟩) 2 2] w fun e w' => e = .returned (.int .i64 (orI x y)) ∧ w = w' := by
  obtain ⟨r, hr⟩ : ∃ r, r = orI x y := ⟨_, rfl⟩
  rw [← hr]
  have Hr := Lib.hid hr
  clear hr
  go_enter Tryz.func131, Tryz.ntmps131
  go_wp2_with fail
  go_loop [8] (fun i => i = .int .i64 0 ∨ (i = .int .i64 1 ∧ Hid (x = 0)) ∨ (i = .int .i64 2 ∧ Hid (x = 0 ∧ y = 0))) (fun i => 2 - (intOf i).toNat)
  case atStart => exact .inl rfl
  case round =>
    rcases hrel with rfl | ⟨rfl, hx⟩ | ⟨rfl, hxy⟩
    · by_cases hx : x = 0
      · have Hx := Lib.hid hx
        go_wp2_with fail
        go_round
        case rel => exact .inr (.inl ⟨rfl, Hx⟩)
        case measure => decide
      · have Hx := Lib.hid hx
        go_wp2_with fail
        go_ret
        exact ⟨by rw [Hr.out, orI, if_neg Hx.out]; rfl, rfl⟩
    · by_cases hy : y = 0
      · have Hy := Lib.hid hy
        go_wp2_with fail
        go_round
        case rel => exact .inr (.inr ⟨rfl, hx.out, Hy.out⟩)
        case measure => decide
      · have Hy := Lib.hid hy
        go_wp2_with fail
        go_ret
        exact ⟨by rw [Hr.out, orI, if_pos hx.out]; rfl, rfl⟩
    · go_wp2_with fail
      go_ret
      exact ⟨by rw [Hr.out, orI, if_pos hxy.out.1, hxy.out.2]; rfl, rfl⟩
end Go.Proofs.YtbblkknndaoefaaGreatDoor
namespace Go.Proofs.YtbblkknndaoefaaGreatDoor
open Go.RowKit Go.Maps
set_option linter.unusedVariables false
theorem compareBytes_self : ∀ a : List UInt8, Lib.compareBytes a a = 0
  | [] => rfl
  | a :: s => by unfold Lib.compareBytes; rw [if_neg (UInt8.lt_irrefl _), if_neg (UInt8.lt_irrefl _)]; exact compareBytes_self s
theorem compare_less : ∀ a b : List UInt8, Lib.compareBytes a b = if Op.bytesLess a b = true then -1 else if a = b then 0 else 1
  | [], [] => by simp [Lib.compareBytes, Op.bytesLess]
  | [], _ :: _ => by simp [Lib.compareBytes, Op.bytesLess]
  | _ :: _, [] => by simp [Lib.compareBytes, Op.bytesLess]
  | a :: s, b :: t => by
    have ih := compare_less s t
    by_cases h1 : a < b
    · simp [Lib.compareBytes, Op.bytesLess, h1]
    · by_cases h2 : b < a
      · have h3 : a ≠ b := fun e => by subst e; exact absurd h2 (UInt8.lt_irrefl _)
        simp [Lib.compareBytes, Op.bytesLess, h1, h2, h3]
      · have h3 : a = b := UInt8.le_antisymm (UInt8.not_lt.1 h2) (UInt8.not_lt.1 h1)
        subst h3
        simp only [Lib.compareBytes, Op.bytesLess, if_neg h1, ih]
        simp [h1]
set_option maxHeartbeats 1000000 in
theorem cmp_str (x y : ByteArray) (w : World) : Calls Tryz.prog 158 #[.string x, .string y] w fun e w' => e = .returned (.int .i64 (Lib.compareBytes x.data.toList y.data.toList)) ∧ w = w' := by
  obtain ⟨r, hr⟩ : ∃ r, r = Lib.compareBytes x.data.toList y.data.toList := ⟨_, rfl⟩
  rw [← hr]
  have Hr := Lib.hid hr
  clear hr
  go_enter Tryz.func158, Tryz.ntmps158
  go_wp2_with fail
  refine (nan_str x _).mono ?_
  rintro e w1 ⟨rfl, rfl⟩
  go_wp2_with fail
  refine (nan_str y _).mono ?_
  rintro e w1 ⟨rfl, rfl⟩
  have hc := compare_less x.toList y.toList
  rw [ByteArray.toList_eq, ByteArray.toList_eq, ← Hr.out, ← ByteArray.toList_eq, ← ByteArray.toList_eq] at hc
  have Hc := Lib.hid hc
  clear hc
  cases hb : Op.bytesLess x.toList y.toList with
  | true =>
    have Hb := Lib.hid hb
    go_wp2_with fail
    go_ret
    exact ⟨by rw [Hc.out, if_pos Hb.out]; rfl, rfl⟩
  | false =>
    have Hb := Lib.hid hb
    cases he : (x.toList == y.toList) with
    | true =>
      have He := Lib.hid he
      go_wp2_with fail
      go_ret
      exact ⟨by rw [Hc.out, if_neg (by rw [Hb.out]; simp), if_pos (eq_of_beq He.out)]; rfl, rfl⟩
    | false =>
      have He := Lib.hid he
      go_wp2_with fail
      go_ret
      exact ⟨by rw [Hc.out, if_neg (by rw [Hb.out]; simp), if_neg (fun e => by have h := He.out; rw [e] at h; simp at h)]; rfl, rfl⟩
end Go.Proofs.YtbblkknndaoefaaGreatDoor
namespace Go.Proofs.YtbblkknndaoefaaGreatDoor
open Go.RowKit
set_option linter.unusedVariables false

/-- A slice of attributes: its elements are 'l' (name, value). -/
structure Atts (w : World) (a : Option Addr) (cap : Nat) (l : List (ByteArray × ByteArray)) : Prop where
  len : l.length ≤ cap
  max : cap ≤ maxLen
  isNil : a = none → l = [] ∧ cap = 0
  wf : ∀ x ∈ l, x.1.size ≤ maxLen ∧ x.2.size ≤ maxLen
  cell : ∀ ad, a = some ad → l ≠ [] → ad.spot = none ∧ ad.block < w.heap.size ∧ ∀ i x, l[i]? = some x → w.cell? ⟨ad.block, ad.off + i * 2, none⟩ = some (.string x.1) ∧ w.cell? ⟨ad.block, ad.off + i * 2 + 1, none⟩ = some (.string x.2)

theorem Atts.at {w : World} {a : Option Addr} {cap : Nat} {l : List (ByteArray × ByteArray)} (h : Atts w a cap l) {k : Nat} (hk : k < l.length) :
    ∃ b off x y, a = some ⟨b, off, none⟩ ∧ l[k]? = some (x, y) ∧ x.size ≤ maxLen ∧ y.size ≤ maxLen ∧ w.cell? ⟨b, off + k * 2, none⟩ = some (.string x) ∧ w.cell? ⟨b, off + k * 2 + 1, none⟩ = some (.string y) := by
  cases a with
  | none => obtain ⟨rfl, _⟩ := h.isNil rfl; simp at hk
  | some ad =>
    obtain ⟨b, off, sp⟩ := ad
    obtain ⟨h1, h2, h3⟩ := h.cell _ rfl (by intro e; subst e; simp at hk)
    simp at h1; subst h1
    have h4 := h3 k _ (List.getElem?_eq_getElem hk)
    have h5 := h.wf l[k] (List.getElem_mem hk)
    exact ⟨b, off, l[k].1, l[k].2, rfl, List.getElem?_eq_getElem hk, h5.1, h5.2, h4.1, h4.2⟩
theorem Atts.lenmax {w : World} {a : Option Addr} {cap : Nat} {l : List (ByteArray × ByteArray)} (h : Atts w a cap l) : l.length ≤ 9223372036854775807 := by
  have h1 := h.len; have h2 := h.max; unfold maxLen at h2; omega
theorem Atts.fr {S : Nat → Prop} {w w' : World} {a : Option Addr} {cap : Nat} {l : List (ByteArray × ByteArray)} (h : Atts w a cap l) (hf : Fr S w w') (hS : ∀ ad, a = some ad → l ≠ [] → ¬ S ad.block) : Atts w' a cap l :=
  ⟨h.len, h.max, h.isNil, h.wf, fun ad e hne => by
    obtain ⟨h1, h2, h3⟩ := h.cell ad e hne
    exact ⟨h1, Nat.lt_of_lt_of_le h2 hf.size, fun i x hi => ⟨hf.cell (h3 i x hi).1 (hS ad e hne), hf.cell (h3 i x hi).2 (hS ad e hne)⟩⟩⟩
theorem Atts.no {S : Nat → Prop} {w w' : World} {a : Option Addr} {cap : Nat} {l : List (ByteArray × ByteArray)} (h : Atts w a cap l) (hf : Fr S w w') (hS : ∀ k, ¬ S k) : Atts w' a cap l := h.fr hf (fun _ _ _ => hS _)
theorem Atts.nil (w : World) : Atts w none 0 [] := ⟨by simp, by simp, fun _ => ⟨rfl, rfl⟩, by simp, fun _ e _ => by cases e⟩

end Go.Proofs.YtbblkknndaoefaaGreatDoor
namespace Go.Proofs.YtbblkknndaoefaaGreatDoor
open Go.RowKit
set_option linter.unusedVariables false

theorem replaceK_len (old new : List UInt8) : ∀ (k : Nat) (s : List UInt8), (Lib.replaceK old new k s).length ≤ s.length + k * new.length
  | 0, s => by simp [Lib.replaceK]
  | k + 1, s => by
    unfold Lib.replaceK
    split
    · omega
    · have h := replaceK_len old new k (s.drop ((Lib.index s old).toNat + old.length))
      simp only [List.length_append, List.length_take, List.length_drop] at h ⊢
      have e : (k + 1) * new.length = k * new.length + new.length := Nat.succ_mul _ _
      omega
theorem replaceAll_len (s old new : List UInt8) : (Lib.replaceAll s old new).length ≤ s.length + (s.length + 1) * new.length := by
  unfold Lib.replaceAll Lib.replace
  split
  · omega
  · have h := replaceK_len old new (Lib.replaceNum s old (-1)) s
    have h2 : Lib.replaceNum s old (-1) ≤ s.length + 1 := by
      unfold Lib.replaceNum
      rw [if_pos (.inl (by omega))]
      exact Lib.count_le s old
    have h3 := Nat.mul_le_mul_right new.length h2
    omega

theorem splitB_size (sep : ByteArray) : ∀ (k : Nat) (s x : ByteArray), x ∈ Lib.splitB sep 0 k s → x.size ≤ s.size
  | 0, s, x, h => by
    rw [Lib.splitB_zero] at h
    simp at h; subst h; exact Nat.le_refl _
  | k + 1, s, x, h => by
    unfold Lib.splitB at h
    split at h
    · simp at h; subst h; exact Nat.le_refl _
    · rcases List.mem_cons.1 h with h | h
      · subst h; rw [ByteArray.size_extract]; omega
      · have h1 := splitB_size sep k _ x h
        rw [ByteArray.size_extract] at h1
        omega

end Go.Proofs.YtbblkknndaoefaaGreatDoor
namespace Go.Proofs.YtbblkknndaoefaaGreatDoor
open Go.RowKit
set_option linter.unusedVariables false

/-- What Check's 0 says (as far as it is used). -/
structure Okay (d : Dev) : Prop where
  lo : 1 ≤ d.index
  hi : d.index ≤ 1073741824
  plo : 0 ≤ d.parent
  ne : d.parent ≠ d.index
  orig : OkN d.orig
/-- An error number is returned; 0 only for what is okay. -/
def RetE (p : Prop) (e : Ending) : Prop := ∃ er, e = .returned (.int .i64 er) ∧ (er = 0 → p)
theorem RetE.no {p : Prop} {er : Int} (h : er ≠ 0) : RetE p (.returned (.int .i64 er)) := ⟨er, rfl, fun e => absurd e h⟩
/-- The texts of a device are no longer than any text. -/
structure Sized (d : Dev) : Prop where
  name : d.name.size ≤ maxLen
  orig : d.orig.size ≤ maxLen
  sub : d.sub.size ≤ maxLen
  drv : d.drv.size ≤ maxLen
  ali : d.ali.size ≤ maxLen

end Go.Proofs.YtbblkknndaoefaaGreatDoor
namespace Go.Proofs.YtbblkknndaoefaaGreatDoor
open Go.RowKit Go.Maps
set_option linter.unusedVariables false

theorem strEq (x y : ByteArray) : (x.toList == y.toList) = decide (x = y) := by
  rw [ByteArray.toList_eq, ByteArray.toList_eq, Bool.eq_iff_iff, decide_eq_true_iff]
  constructor
  · intro h
    cases x; cases y
    have := eq_of_beq h
    simp only at this
    congr 1
    exact Array.toList_inj.1 this
  · rintro rfl; simp
theorem compareBytes_zero : ∀ (a b : List UInt8), Lib.compareBytes a b = 0 → a = b
  | [], [], _ => rfl
  | [], _ :: _, h => by simp [Lib.compareBytes] at h
  | _ :: _, [], h => by simp [Lib.compareBytes] at h
  | a :: s, b :: t, h => by
    unfold Lib.compareBytes at h
    split at h
    · simp at h
    · rename_i h1
      split at h
      · simp at h
      · rename_i h2
        have : a = b := by
          have h3 := UInt8.not_lt.1 h1
          have h4 := UInt8.not_lt.1 h2
          exact UInt8.le_antisymm h4 h3
        rw [this, compareBytes_zero s t h]

/-- The order of two lists of names. -/
def cmpN : List ByteArray → List ByteArray → Int
  | [], [] => 0
  | [], _ :: _ => -1
  | _ :: _, [] => 1
  | a :: s, b :: t => if a = b then cmpN s t else Lib.compareBytes a.data.toList b.data.toList

theorem cmpN_zero : ∀ (a b : List ByteArray), cmpN a b = 0 → a = b
  | [], [], _ => rfl
  | [], _ :: _, h => by simp [cmpN] at h
  | _ :: _, [], h => by simp [cmpN] at h
  | a :: s, b :: t, h => by
    unfold cmpN at h
    split at h
    · rename_i e; rw [e, cmpN_zero s t h]
    · rename_i e
      exfalso; apply e
      have h1 := compareBytes_zero _ _ h
      cases a; cases b
      simp only at h1
      congr 1
      exact Array.toList_inj.1 h1
theorem cmpN_snoc : ∀ (a : List ByteArray) (x : ByteArray), cmpN a (a ++ [x]) = -1
  | [], _ => rfl
  | a :: s, x => by
    show cmpN (a :: s) (a :: (s ++ [x])) = -1
    unfold cmpN
    rw [if_pos rfl]; exact cmpN_snoc s x
theorem cmpN_app : ∀ (p a b : List ByteArray), cmpN (p ++ a) (p ++ b) = cmpN a b
  | [], _, _ => rfl
  | x :: p, a, b => by
    show cmpN (x :: (p ++ a)) (x :: (p ++ b)) = _
    rw [cmpN, if_pos rfl]; exact cmpN_app p a b
theorem cmpN_drop {a b : List ByteArray} {k : Nat} (h : a.take k = b.take k) : cmpN a b = cmpN (a.drop k) (b.drop k) := by
  have h1 := cmpN_app (a.take k) (a.drop k) (b.drop k)
  rw [List.take_append_drop, h, List.take_append_drop] at h1
  exact h1

set_option maxHeartbeats 2000000 in
theorem ref_compare (a : Option Addr) (cap : Nat) (l : List ByteArray) (a' : Option Addr) (cap' : Nat) (l' : List ByteArray) (w : World) (hl : Strs w a cap l) (hl' : Strs w a' cap' l') :
    Calls Tryz.prog 138 #[.slice a l.length cap, .slice a' l'.length cap'] w fun e w' => e = .returned (.int .i64 (cmpN l l')) ∧ Fr No w w' := by
  have hm := hl.lenmax
  have hm' := hl'.lenmax
  go_enter Tryz.func138, Tryz.ntmps138
  go_wp2
  go_loopw [5] (fun i wr => ∃ k : Nat, k ≤ l.length ∧ k ≤ l'.length ∧ i = .int .i64 k ∧ Hid (l.take k = l'.take k) ∧ Fr No w wr) (fun i _ => l.length - (intOf i).toNat)
  case atStart => exact ⟨0, by omega, by omega, rfl, by unfold Hid; simp, Fr.refl _ _⟩
  case round =>
    obtain ⟨k, hk, hk', rfl, hno, hfr⟩ := hrel
    by_cases hlt : k < l.length
    · by_cases hlt' : k < l'.length
      · have hlr := hl.no hfr (fun _ h => h)
        have hlr' := hl'.no hfr (fun _ h => h)
        obtain ⟨b, off, x, rfl, hx, hc⟩ := hlr.at hlt
        have Hx := Lib.hid hx
        clear hx
        obtain ⟨b', off', x', rfl, hx', hc'⟩ := hlr'.at hlt'
        have Hx' := Lib.hid hx'
        clear hx'
        have hd : Hid (l.drop k = x :: l.drop (k + 1)) := by
          have := Hx.out; unfold Hid; rw [List.drop_eq_getElem_cons hlt]; rw [List.getElem?_eq_getElem hlt] at this; rw [Option.some.inj this]
        have hd' : Hid (l'.drop k = x' :: l'.drop (k + 1)) := by
          have := Hx'.out; unfold Hid; rw [List.drop_eq_getElem_cons hlt']; rw [List.getElem?_eq_getElem hlt'] at this; rw [Option.some.inj this]
        by_cases hxn : x = x'
        · subst hxn
          have hn : Hid (l.take (k + 1) = l'.take (k + 1)) := by
            unfold Hid; rw [List.take_add_one, List.take_add_one, hno.out, Hx.out, Hx'.out]
          go_wp2
          go_quiet (fail)
          go_wp2
          go_roundw
          case rel => exact ⟨k + 1, by omega, by omega, by go_num, hn, hfr.drewN _⟩
          case measure => simp [intOf]; omega
        · have hres : Hid (Lib.compareBytes x.data.toList x'.data.toList = cmpN l l') := by
            unfold Hid; rw [cmpN_drop hno.out, hd.out, hd'.out, cmpN, if_neg hxn]
          have hb : (!x.toList == x'.toList) = true := by rw [strEq, decide_eq_false hxn]; rfl
          clear hxn
          go_wp2
          go_quiet (fail)
          go_wp2
          refine region_sig No [(0, false), (1, false), (2, false), (3, false), (4, false), (5, false), (6, false), (7, false), (8, true), (9, false)] (by kernel_rfl) (by kernel_rfl) (fun w0 hf0 => ?_)
          have hf1 := (hfr.drewN _).step hf0 (fun _ _ h => h)
          have c0 : ∀ g : Gr No w0, g.W.cell? ⟨b, off + k, none⟩ = some (.string x) := fun g => g.fr.cell (hf0.cell hc id) id
          have c1 : ∀ g : Gr No w0, g.W.cell? ⟨b', off' + k, none⟩ = some (.string x') := fun g => g.fr.cell (hf0.cell hc' id) id
          repeat (apply sig_q; exact rfl; exact rfl; exact rfl; intro K hK; go_big_quiet_op; go_big_quiet_on)
          apply sig_m
          exact rfl
          go_wp2_with fail
          refine (Tryz.strings_Compare x x' _).mono ?_
          rintro e w1 ⟨rfl, rfl⟩
          go_wp2_with fail
          refine OnlyN.mk ⟨Fr.refl _ _, ?_⟩
          repeat (apply sig_q; exact rfl; exact rfl; exact rfl; intro K hK; go_big_quiet_op; go_big_quiet_on)
          refine sig_end ?_
          go_wp2_with fail
          go_ret
          exact ⟨ret_int hres.out, hf1⟩
      · have h := hno.out
        have he : k = l'.length := by omega
        have hres : Hid ((1 : Int) = cmpN l l') := by
          unfold Hid
          rw [cmpN_drop h, List.drop_eq_getElem_cons hlt, List.drop_of_length_le (by omega : l'.length ≤ k)]
          simp [cmpN]
        have hgt : l'.length < l.length := by omega
        clear h he
        go_wp2
        go_ret
        exact ⟨ret_int hres.out, hfr⟩
    · have h := hno.out
      have he : k = l.length := by omega
      by_cases hlt' : k < l'.length
      · have hres : Hid ((-1 : Int) = cmpN l l') := by
          unfold Hid
          rw [cmpN_drop h, List.drop_eq_getElem_cons hlt', List.drop_of_length_le (by omega : l.length ≤ k)]
          simp [cmpN]
        have hgt : l.length < l'.length := by omega
        clear h he
        go_wp2
        go_ret
        exact ⟨ret_int hres.out, hfr⟩
      · have hres : Hid ((0 : Int) = cmpN l l') := by
          unfold Hid
          rw [cmpN_drop h, List.drop_of_length_le (by omega), List.drop_of_length_le (by omega)]
          simp [cmpN]
        have hgt : ¬ l.length < l'.length := by omega
        have hgt' : ¬ l'.length < l.length := by omega
        clear h he
        go_wp2
        go_ret
        exact ⟨ret_int hres.out, hfr⟩

end Go.Proofs.YtbblkknndaoefaaGreatDoor
namespace Go.Proofs.YtbblkknndaoefaaGreatDoor
open Go.RowKit Go.Maps
set_option linter.unusedVariables false
set_option maxRecDepth 100000 in
set_option maxHeartbeats 2000000 in
theorem strs_compare (a : Option Addr) (cap : Nat) (l : List ByteArray) (a' : Option Addr) (cap' : Nat) (l' : List ByteArray) (w : World) (hl : Strs w a cap l) (hl' : Strs w a' cap' l') :
    Calls Tryz.prog 192 #[.slice a l.length cap, .slice a' l'.length cap'] w fun e w' => e = .returned (.int .i64 (cmpN l l')) ∧ w = w' := by
  have hm := hl.lenmax
  have hm' := hl'.lenmax
  obtain ⟨r, hr⟩ : ∃ r, r = cmpN l l' := ⟨_, rfl⟩
  rw [← hr]
  have Hr := Lib.hid hr
  clear hr
  go_enter Tryz.func192, Tryz.ntmps192
  go_wp2_with fail
  go_loop [11] (fun i => ∃ k : Nat, k ≤ l.length ∧ k ≤ l'.length ∧ i = .int .i64 (k : Int) ∧ Hid (l.take k = l'.take k)) (fun i => l.length - (intOf i).toNat)
  case atStart => exact ⟨0, by omega, by omega, rfl, by unfold Hid; simp⟩
  case round =>
    obtain ⟨k, hk, hk', rfl, Ht⟩ := hrel
    have Hd := Lib.hid (cmpN_drop Ht.out)
    by_cases hlt : k < l.length
    · have hlt1 : (k : Int) < l.length := by omega
      obtain ⟨b, off, x, rfl, hx, c0⟩ := hl.at hlt
      have hdx : l.drop k = x :: l.drop (k + 1) := by
        obtain ⟨h1, h2⟩ := List.getElem?_eq_some_iff.1 hx
        rw [← h2]; exact List.drop_eq_getElem_cons h1
      by_cases hlt' : k < l'.length
      · have hlt2 : ¬ (l'.length : Int) ≤ (k : Int) := by omega
        have hlt3 : (k : Int) < l'.length := by omega
        obtain ⟨b', off', x', rfl, hx', c1⟩ := hl'.at hlt'
        have hdx' : l'.drop k = x' :: l'.drop (k + 1) := by
          obtain ⟨h1, h2⟩ := List.getElem?_eq_some_iff.1 hx'
          rw [← h2]; exact List.drop_eq_getElem_cons h1
        have Hdx := Lib.hid hdx
        have Hdx' := Lib.hid hdx'
        have Htk : Hid (x = x' → l.take (k + 1) = l'.take (k + 1)) := fun e => by rw [List.take_add_one, List.take_add_one, hx, hx', Ht.out, e]
        clear hdx hdx' hx hx'
        go_wp2_with fail
        refine (cmp_str x x' _).mono ?_
        rintro e w1 ⟨rfl, rfl⟩
        by_cases hz : Lib.compareBytes x.data.toList x'.data.toList = 0
        · have hxx : x = x' := by
            have h1 := compareBytes_zero _ _ hz
            cases x; cases x'
            simp only at h1
            congr 1
            exact Array.toList_inj.1 h1
          have Hn := Lib.hid (Htk.out hxx)
          rw [hz]
          clear hz
          go_wp2_with fail
          go_round
          case rel => exact ⟨k + 1, by omega, by omega, by go_num, Hn⟩
          case measure => simp [intOf]; omega
        · have Hres : Hid (r = Lib.compareBytes x.data.toList x'.data.toList) := by
            unfold Hid
            rw [Hr.out, Hd.out, Hdx.out, Hdx'.out, cmpN, if_neg (fun e => hz (by rw [e]; exact compareBytes_self _))]
          generalize Lib.compareBytes x.data.toList x'.data.toList = cb at *
          go_wp2_with fail
          go_ret
          exact ⟨by rw [Hres.out]; rfl, rfl⟩
      · have hlt2 : (l'.length : Int) ≤ (k : Int) := by omega
        have Hres : Hid (r = 1) := by
          unfold Hid
          rw [Hr.out, Hd.out, hdx, List.drop_eq_nil_of_le (by omega : l'.length ≤ k)]
          rfl
        clear hdx hx
        go_wp2_with fail
        go_ret
        exact ⟨by rw [Hres.out]; rfl, rfl⟩
    · have hlt1 : ¬ (k : Int) < l.length := by omega
      obtain rfl : k = l.length := by omega
      by_cases hll : l.length < l'.length
      · have hll' : (l.length : Int) < l'.length := by omega
        have Hres : Hid (r = -1) := by
          unfold Hid
          rw [Hr.out, Hd.out, List.drop_length, List.drop_eq_getElem_cons hll]
          rfl
        go_wp2_with fail
        go_ret
        exact ⟨by rw [Hres.out]; rfl, rfl⟩
      · have hll' : ¬ (l.length : Int) < l'.length := by omega
        have Hres : Hid (r = 0) := by
          unfold Hid
          rw [Hr.out, Hd.out, List.drop_length, List.drop_eq_nil_of_le (by omega : l'.length ≤ l.length)]
          rfl
        go_wp2_with fail
        go_ret
        exact ⟨by rw [Hres.out]; rfl, rfl⟩
end Go.Proofs.YtbblkknndaoefaaGreatDoor
namespace Go.Proofs.YtbblkknndaoefaaGreatDoor
open Go.RowKit Go.Maps
set_option linter.unusedVariables false
/-- What name.Compare answers. -/
def cmpP (s t : ByteArray) : Int × Int := if goodPath s && goodPath t then (cmpN (sparts s) (sparts t), 0) else (0, 10)
set_option maxRecDepth 100000 in
set_option maxHeartbeats 2000000 in
theorem name_compare (s t : ByteArray) (m : Int) (w : World) (hs : s.size ≤ 1000000) (ht : t.size ≤ 1000000) (hm : w.cell? ⟨1, 0, none⟩ = some (.int .i64 m)) :
    Calls Tryz.prog 156 #[.string s, .string t] w fun e w' => e = .returned (.tuple #[.int .i64 (cmpP s t).1, .int .i64 (cmpP s t).2]) ∧ Fr No w w' := by
  obtain ⟨r1, h1⟩ : ∃ r, r = (cmpP s t).1 := ⟨_, rfl⟩
  obtain ⟨r2, h2⟩ : ∃ r, r = (cmpP s t).2 := ⟨_, rfl⟩
  rw [← h1, ← h2]
  have H1 := Lib.hid h1
  have H2 := Lib.hid h2
  clear h1 h2
  go_enter Tryz.func156, Tryz.ntmps156
  go_wp2_with fail
  refine (n_split s m _ hs hm).mono ?_
  rintro e w1 ⟨hr1, hf1⟩
  have hm1 := hf1.cell hm id
  have Hf1 := Lib.hid hf1
  clear hm hf1
  rcases hr1 with ⟨hg1, rfl⟩ | ⟨hg1, ad1, rfl, hS1, _⟩
  · have G1 := Lib.hid hg1
    clear hg1
    go_wp2_with fail
    refine (n_split t m _ ht hm1).mono ?_
    rintro e w2 ⟨hr2, hf2⟩
    have Hf2 := Lib.hid (Hf1.out.step hf2 (fun _ _ h => h))
    clear hm1 hf2
    rcases hr2 with ⟨hg2, rfl⟩ | ⟨hg2, ad2, rfl, hS2, _⟩
    · clear hg2
      go_wp2_with fail
      go_ret2
      exact ⟨by rw [H1.out, H2.out, cmpP, G1.out]; rfl, Hf2.out⟩
    · clear hg2 hS2
      go_wp2_with fail
      go_ret2
      exact ⟨by rw [H1.out, H2.out, cmpP, G1.out]; rfl, Hf2.out⟩
  · have G1 := Lib.hid hg1
    clear hg1
    go_wp2_with fail
    refine (n_split t m _ ht hm1).mono ?_
    rintro e w2 ⟨hr2, hf2⟩
    have Hf2 := Lib.hid (Hf1.out.step hf2 (fun _ _ h => h))
    have hS1' := hS1.no hf2 (fun _ => id)
    clear hm1 hf2 hS1
    rcases hr2 with ⟨hg2, rfl⟩ | ⟨hg2, ad2, rfl, hS2, _⟩
    · have G2 := Lib.hid hg2
      clear hg2 hS1'
      go_wp2_with fail
      go_ret2
      exact ⟨by rw [H1.out, H2.out, cmpP, G1.out, G2.out]; rfl, Hf2.out⟩
    · have G2 := Lib.hid hg2
      have hsc := strs_compare (some ad1) _ _ (some ad2) _ _ w2 hS1' hS2
      clear hg2 hS1' hS2
      obtain ⟨p1, e1⟩ : ∃ p, p = sparts s := ⟨_, rfl⟩
      obtain ⟨p2, e2⟩ : ∃ p, p = sparts t := ⟨_, rfl⟩
      rw [← e1, ← e2] at hsc ⊢
      have E1 := Lib.hid e1
      have E2 := Lib.hid e2
      clear e1 e2
      go_wp2_with fail
      refine hsc.mono ?_
      rintro e w3 ⟨rfl, rfl⟩
      have Hr : Hid (r1 = cmpN p1 p2 ∧ r2 = 0) := by unfold Hid; rw [H1.out, H2.out, cmpP, G1.out, G2.out, ← E1.out, ← E2.out]; exact ⟨rfl, rfl⟩
      generalize cmpN p1 p2 = cn at *
      go_wp2_with fail
      go_ret2
      exact ⟨by rw [Hr.out.1, Hr.out.2]; rfl, Hf2.out⟩
end Go.Proofs.YtbblkknndaoefaaGreatDoor
namespace Go.Proofs.YtbblkknndaoefaaGreatDoor
open Go.RowKit Go.Maps
set_option linter.unusedVariables false
/-- The order of two paths. -/
def pathO (s t : ByteArray) : Int := if goodPath s then (if goodPath t then cmpN (sparts s) (sparts t) else -1) else if goodPath t then 1 else Lib.compareBytes s.data.toList t.data.toList
set_option maxRecDepth 100000 in
set_option maxHeartbeats 2000000 in
theorem path_order (s t : ByteArray) (m : Int) (w : World) (hs : s.size ≤ 1000000) (ht : t.size ≤ 1000000) (hm : w.cell? ⟨1, 0, none⟩ = some (.int .i64 m)) :
    Calls Tryz.prog 133 #[.string s, .string t] w fun e w' => e = .returned (.int .i64 (pathO s t)) ∧ Fr No w w' := by
  obtain ⟨r, h1⟩ : ∃ r, r = pathO s t := ⟨_, rfl⟩
  rw [← h1]
  have Hr := Lib.hid h1
  clear h1
  have hnc := name_compare s t m w hs ht hm
  cases hg1 : goodPath s with
  | true =>
    have G1 := Lib.hid hg1
    clear hg1
    cases hg2 : goodPath t with
    | true =>
      have G2 := Lib.hid hg2
      clear hg2
      have e1 : cmpP s t = (r, 0) := by rw [cmpP, Hr.out, pathO, G1.out, G2.out]; rfl
      rw [e1] at hnc
      clear e1
      go_enter Tryz.func133, Tryz.ntmps133
      go_wp2_with fail
      refine hnc.mono ?_
      rintro e w1 ⟨rfl, hf1⟩
      have Hf1 := Lib.hid hf1
      clear hf1
      go_wp2_with fail
      go_ret
      exact ⟨rfl, Hf1.out⟩
    | false =>
      have G2 := Lib.hid hg2
      clear hg2
      have e1 : cmpP s t = (0, 10) := by rw [cmpP, G1.out, G2.out]; rfl
      rw [e1] at hnc
      clear e1
      have Hr1 : Hid (r = -1) := by unfold Hid; rw [Hr.out, pathO, G1.out, G2.out]; rfl
      go_enter Tryz.func133, Tryz.ntmps133
      go_wp2_with fail
      refine hnc.mono ?_
      rintro e w1 ⟨rfl, hf1⟩
      have hm1 := hf1.cell hm id
      have Hf1 := Lib.hid hf1
      clear hf1 hm
      go_wp2_with fail
      refine (n_split s m _ hs hm1).mono ?_
      rintro e w2 ⟨hr2, hf2⟩
      have hm2 := hf2.cell hm1 id
      have Hf2 := Lib.hid (Hf1.out.step hf2 (fun _ _ h => h))
      clear hf2 hm1
      rcases hr2 with ⟨hg, rfl⟩ | ⟨hg, ad1, rfl, _, _⟩
      · rw [G1.out] at hg; cases hg
      · clear hg
        go_wp2_with fail
        refine (n_split t m _ ht hm2).mono ?_
        rintro e w3 ⟨hr3, hf3⟩
        have Hf3 := Lib.hid (Hf2.out.step hf3 (fun _ _ h => h))
        clear hf3 hm2
        rcases hr3 with ⟨hg, rfl⟩ | ⟨hg, ad2, rfl, _, _⟩
        · clear hg
          go_wp2_with fail
          go_ret
          exact ⟨by rw [Hr1.out]; rfl, Hf3.out⟩
        · rw [G2.out] at hg; cases hg
  | false =>
    have G1 := Lib.hid hg1
    clear hg1
    have e1 : cmpP s t = (0, 10) := by rw [cmpP, G1.out]; rfl
    rw [e1] at hnc
    clear e1
    go_enter Tryz.func133, Tryz.ntmps133
    go_wp2_with fail
    refine hnc.mono ?_
    rintro e w1 ⟨rfl, hf1⟩
    have hm1 := hf1.cell hm id
    have Hf1 := Lib.hid hf1
    clear hf1 hm
    go_wp2_with fail
    refine (n_split s m _ hs hm1).mono ?_
    rintro e w2 ⟨hr2, hf2⟩
    have hm2 := hf2.cell hm1 id
    have Hf2 := Lib.hid (Hf1.out.step hf2 (fun _ _ h => h))
    clear hf2 hm1
    rcases hr2 with ⟨hg, rfl⟩ | ⟨hg, ad1, rfl, _, _⟩
    · clear hg
      go_wp2_with fail
      refine (n_split t m _ ht hm2).mono ?_
      rintro e w3 ⟨hr3, hf3⟩
      have Hf3 := Lib.hid (Hf2.out.step hf3 (fun _ _ h => h))
      clear hf3 hm2
      rcases hr3 with ⟨hg, rfl⟩ | ⟨hg, ad2, rfl, _, _⟩
      · have Hr1 : Hid (r = Lib.compareBytes s.data.toList t.data.toList) := by unfold Hid; rw [Hr.out, pathO, G1.out, hg]; rfl
        clear hg
        go_wp2_with fail
        refine (cmp_str s t _).mono ?_
        rintro e w4 ⟨rfl, rfl⟩
        rw [← Hr1.out]
        go_wp2_with fail
        go_ret
        exact ⟨rfl, Hf3.out⟩
      · have Hr1 : Hid (r = 1) := by unfold Hid; rw [Hr.out, pathO, G1.out, hg]; rfl
        clear hg
        go_wp2_with fail
        go_ret
        exact ⟨by rw [Hr1.out]; rfl, Hf3.out⟩
    · rw [G1.out] at hg; cases hg
end Go.Proofs.YtbblkknndaoefaaGreatDoor
namespace Go.Proofs.YtbblkknndaoefaaGreatDoor
open Go.RowKit Go.Maps
set_option linter.unusedVariables false
/-- A member of round r at path p comes ahead of one of round r' at path p'. -/
def aheadB (p : ByteArray) (r : Int) (p' : ByteArray) (r' : Int) : Bool := decide (orI (cmpI r r') (pathO p p') < 0)
set_option maxRecDepth 100000 in
set_option maxHeartbeats 2000000 in
theorem m_before (p i p' i' : ByteArray) (r s t e r' s' t' e' : Int) (v v' : Value) (m : Int) (w : World) (hs : p.size ≤ 1000000) (ht : p'.size ≤ 1000000) (hm : w.cell? ⟨1, 0, none⟩ = some (.int .i64 m)) :
    Calls Tryz.prog 104 #[.agg #[.string p, .string i, .int .i64 r, .int .i64 s, .int .i64 t, .int .i64 e, v], .agg #[.string p', .string i', .int .i64 r', .int .i64 s', .int .i64 t', .int .i64 e', v']] w fun en w' => en = .returned (.bool (aheadB p r p' r')) ∧ Fr No w w' := by
  have h0 : Fr No w ((w.alloc (.cells #[.string p, .string i, .int .i64 r, .int .i64 s, .int .i64 t, .int .i64 e, v] 58)).alloc (.cells #[.string p', .string i', .int .i64 r', .int .i64 s', .int .i64 t', .int .i64 e', v'] 58)) := ((Fr.refl _ _).alloc _).alloc _
  have q1 := block_alloc1 w (.cells #[.string p, .string i, .int .i64 r, .int .i64 s, .int .i64 t, .int .i64 e, v] 58) (.cells #[.string p', .string i', .int .i64 r', .int .i64 s', .int .i64 t', .int .i64 e', v'] 58)
  have q2 := block_alloc2 w (.cells #[.string p, .string i, .int .i64 r, .int .i64 s, .int .i64 t, .int .i64 e, v] 58) (.cells #[.string p', .string i', .int .i64 r', .int .i64 s', .int .i64 t', .int .i64 e', v'] 58)
  obtain ⟨W0, hW0⟩ : ∃ W0, W0 = (w.alloc (.cells #[.string p, .string i, .int .i64 r, .int .i64 s, .int .i64 t, .int .i64 e, v] 58)).alloc (.cells #[.string p', .string i', .int .i64 r', .int .i64 s', .int .i64 t', .int .i64 e', v'] 58) := ⟨_, rfl⟩
  rw [← hW0] at h0 q1 q2
  have hm0 := h0.cell hm id
  have H0 := Lib.hid h0
  obtain ⟨rb, hrb⟩ : ∃ rb, rb = aheadB p r p' r' := ⟨_, rfl⟩
  rw [← hrb]
  have Hrb := Lib.hid hrb
  clear h0 hm hrb
  go_enter Tryz.func104, Tryz.ntmps104
  go_upto_region 1 with (fail)
  rw [← hW0]
  clear hW0
  refine region_sig No [(0, false), (1, false), (2, false), (3, false), (5, false), (6, false), (7, false), (8, false), (4, true), (9, true), (10, true), (11, true), (12, false), (13, false)] (by kernel_rfl) (by kernel_rfl) (fun w0 hf0 => ?_)
  have g0 : ∀ g : Gr No w0, g.W.cell? ⟨w.heap.size, 0, none⟩ = some (.string p) := fun g => g.fr.cell (hf0.cell (cell_of_block q1 0) id) id
  have g2 : ∀ g : Gr No w0, g.W.cell? ⟨w.heap.size, 2, none⟩ = some (.int .i64 r) := fun g => g.fr.cell (hf0.cell (cell_of_block q1 2) id) id
  have k0 : ∀ g : Gr No w0, g.W.cell? ⟨w.heap.size + 1, 0, none⟩ = some (.string p') := fun g => g.fr.cell (hf0.cell (cell_of_block q2 0) id) id
  have k2 : ∀ g : Gr No w0, g.W.cell? ⟨w.heap.size + 1, 2, none⟩ = some (.int .i64 r') := fun g => g.fr.cell (hf0.cell (cell_of_block q2 2) id) id
  have hm1 := hf0.cell hm0 id
  have Hf0 := Lib.hid (H0.out.step hf0 (fun _ _ h => h))
  clear q1 q2 hm0 hf0
  repeat (apply sig_q; exact rfl; exact rfl; exact rfl; intro K hK; go_big_quiet_op; go_big_quiet_on)
  clear g0 g2 k0 k2
  apply sig_m
  exact rfl
  go_wp2_with fail
  refine (cmp_int r r' _).mono ?_
  rintro en w1 ⟨rfl, rfl⟩
  generalize hc1 : cmpI r r' = c1
  go_wp2_with fail
  refine OnlyN.mk ⟨Fr.refl _ _, ?_⟩
  apply sig_m
  exact rfl
  go_wp2_with fail
  refine (path_order p p' m _ hs ht hm1).mono ?_
  rintro en w2 ⟨rfl, hf2⟩
  generalize hc2 : pathO p p' = c2
  have Hf2 := Lib.hid (Hf0.out.step hf2 (fun _ _ h => h))
  have Hc : Hid (rb = decide (orI c1 c2 < 0)) := by unfold Hid; rw [Hrb.out, aheadB, hc1, hc2]
  clear hc1 hc2 hm1
  go_wp2_with fail
  refine OnlyN.mk ⟨hf2, ?_⟩
  clear hf2
  apply sig_m
  exact rfl
  go_wp2_with fail
  have hx : Fr No w2 (w2.alloc (.cells #[.int .i64 c1, .int .i64 c2] 3)) := (Fr.refl _ _).alloc _
  have qx := block_alloc w2 (.cells #[.int .i64 c1, .int .i64 c2] 3)
  refine OnlyN.mk ⟨hx, ?_⟩
  have Hf3 := Lib.hid (Hf2.out.step hx (fun _ _ h => h))
  clear hx
  apply sig_m
  exact rfl
  go_wp2_with fail
  refine (or_int _ c1 c2 _ (cell_of_block qx 0) (cell_of_block qx 1)).mono ?_
  rintro en w3 ⟨rfl, rfl⟩
  generalize orI c1 c2 = o at *
  go_wp2_with fail
  refine OnlyN.mk ⟨Fr.refl _ _, ?_⟩
  repeat (apply sig_q; exact rfl; exact rfl; exact rfl; intro K hK; go_big_quiet_op; go_big_quiet_on)
  refine sig_end ?_
  go_wp2_with fail
  go_ret
  exact ⟨by rw [Hc.out]; rfl, Hf3.out⟩
end Go.Proofs.YtbblkknndaoefaaGreatDoor
