/- name.Split, name.Under, exactly. -/
import Derived.Test.YtanaompgapiikaaGreatDoorK2
import Derived.Test.YtanaompgapiikaaGreatDoorT5
import Derived.Test.YtanaompgapiikaaGreatDoorReg
import Derived.Test.YtanaompgapiikaaGreatDoorStrs2
import Derived.Lib.SplitLaws
import Derived.Laws.EntriesVeiled
namespace Go.Proofs.YtanaompgapiikaaGreatDoor
open Go.RowKit Go.Maps
set_option linter.unusedVariables false

/-! ### Cut at a byte -/
def spl (c : UInt8) : List UInt8 → List (List UInt8)
  | [] => [[]]
  | x :: t => if x = c then [] :: spl c t else match spl c t with
    | [] => [[x]]
    | h :: r => (x :: h) :: r
theorem spl_ne (c : UInt8) : ∀ s, spl c s ≠ []
  | [] => by simp [spl]
  | x :: t => by
    unfold spl
    split
    · simp
    · split <;> simp
theorem splitK_spl (c : UInt8) : ∀ s : List UInt8, Lib.splitK [c] 0 (s.count c) s = spl c s
  | [] => rfl
  | x :: t => by
    have ih := splitK_spl c t
    by_cases hx : x = c
    · subst hx
      have hi : Lib.index (x :: t) [x] = 0 := by
        unfold Lib.index
        rw [if_pos (by simp)]
      have e : spl x (x :: t) = [] :: spl x t := by rw [spl, if_pos rfl]
      rw [List.count_cons_self, Lib.splitK, hi, e, ← ih]
      rfl
    · have hc : (x :: t).count c = t.count c := List.count_cons_of_ne hx
      have hp : ([c].isPrefixOf (x :: t)) = false := by
        have h1 : (c == x) = false := by simpa using fun h => hx h.symm
        simp [List.isPrefixOf, h1]
      have hs : spl c (x :: t) = (match spl c t with | [] => [[x]] | h :: r => (x :: h) :: r) := by
        rw [spl, if_neg hx]
      rw [hc, hs, ← ih]
      cases hk : t.count c with
      | zero => simp [Lib.splitK]
      | succ k =>
        have hi : Lib.index (x :: t) [c] = if Lib.index t [c] == -1 then -1 else Lib.index t [c] + 1 := by
          rw [Lib.index, if_neg (by rw [hp]; simp)]
        rw [Lib.splitK, Lib.splitK, hi]
        by_cases h1 : (Lib.index t [c] == -1) = true
        · simp [h1]
        · have h2 := Lib.index_ge t [c]
          have h3 : Lib.index t [c] ≠ -1 := by simpa using h1
          obtain ⟨n, hn⟩ := Int.eq_ofNat_of_zero_le (show 0 ≤ Lib.index t [c] by omega)
          rw [if_neg h1, if_neg h1, hn]
          rw [if_neg (by simp; omega)]
          rw [show ((n : Int) + 1).toNat = n + 1 by omega, show ((n : Int)).toNat = n by omega]
          simp
theorem spl_none {c : UInt8} : ∀ {s : List UInt8}, (∀ x ∈ s, x ≠ c) → spl c s = [s]
  | [], _ => rfl
  | x :: t, h => by
    rw [spl, if_neg (h x (by simp)), spl_none (fun y hy => h y (by simp [hy]))]
theorem spl_app {c : UInt8} : ∀ {s : List UInt8} {t : List UInt8}, (∀ x ∈ s, x ≠ c) → spl c (s ++ c :: t) = s :: spl c t
  | [], t, _ => by simp [spl]
  | x :: s, t, h => by
    rw [List.cons_append, spl, if_neg (h x (by simp)), spl_app (fun y hy => h y (by simp [hy]))]
theorem spl_join {c : UInt8} : ∀ (l : List (List UInt8)), l ≠ [] → (∀ x ∈ l, ∀ b ∈ x, b ≠ c) → spl c (Lib.join l [c]) = l
  | [], h, _ => absurd rfl h
  | [x], _, h => by simp [Lib.join]; exact spl_none (h x (by simp))
  | x :: y :: t, _, h => by
    have ih := spl_join (y :: t) (by simp) (fun z hz => h z (by simp [hz]))
    have e : Lib.join (x :: y :: t) [c] = x ++ c :: Lib.join (y :: t) [c]   := by simp [Lib.join]
    rw [e, spl_app (h x (by simp)), ih]

/-- The names of a path. -/
def sparts (s : ByteArray) : List ByteArray := (spl 47 (Lib.trimPrefix s.data.toList [47])).map fun x => ⟨x.toArray⟩
def goodPath (s : ByteArray) : Bool := Lib.hasPrefix s.data.toList [47] && (sparts s).all isName
theorem sparts_ne (s : ByteArray) : sparts s ≠ [] := by
  unfold sparts
  intro h
  exact spl_ne _ _ (List.map_eq_nil_iff.1 h)
theorem spl_le (c : UInt8) : ∀ (s : List UInt8), ∀ x ∈ spl c s, x.length ≤ s.length
  | [], x, h => by simp [spl] at h; subst h; simp
  | y :: t, x, h => by
    have ih := spl_le c t
    unfold spl at h
    split at h
    · rcases List.mem_cons.1 h with rfl | h
      · simp
      · have := ih x h; simp; omega
    · split at h
      · simp at h; subst h; simp
      · rename_i a r e
        rcases List.mem_cons.1 h with rfl | h
        · have := ih a (by rw [e]; simp); simp; omega
        · have := ih x (by rw [e]; simp [h]); simp; omega
theorem trim_le (s p : List UInt8) : (Lib.trimPrefix s p).length ≤ s.length := by
  unfold Lib.trimPrefix
  split <;> simp
theorem sparts_size (s : ByteArray) : ∀ x ∈ sparts s, x.size ≤ s.size := by
  intro x hx
  obtain ⟨y, hy, rfl⟩ := List.mem_map.1 hx
  have h1 := spl_le 47 _ y hy
  have h2 := trim_le s.data.toList [47]
  have h3 : s.data.toList.length = s.size := (Lib.size_eq s).symm
  simp only [ByteArray.size, List.size_toArray] at h3 ⊢
  omega
theorem split_parts (s : ByteArray) : Lib.splitB ⟨#[47]⟩ 0 (Lib.countB s ⟨#[47]⟩) s = (spl 47 s.data.toList).map fun x => ⟨x.toArray⟩ := by
  have h1 := Lib.splitB_data ⟨#[47]⟩ 0 (Lib.countB s ⟨#[47]⟩) s
  have h2 : Lib.countB s ⟨#[47]⟩ = s.data.toList.count 47 := Lib.count_one 47 s.data.toList
  have h3 : (⟨#[47]⟩ : ByteArray).data.toList = [47] := rfl
  rw [h3] at h1
  rw [h2] at h1 ⊢
  rw [splitK_spl] at h1
  rw [← h1, List.map_map]
  symm
  rw [List.map_congr_left (g := id)]
  · simp
  · intro x _; simp
theorem split_len (s : ByteArray) : Lib.countB s ⟨#[47]⟩ + 1 = ((spl 47 s.data.toList).map fun x => (⟨x.toArray⟩ : ByteArray)).length := by
  rw [← split_parts, Lib.splitB_all ⟨#[47]⟩ (by decide) 0 _ _ rfl]

/-! ### The walks -/
theorem Strs.new (w : World) (l : List ByteArray) (T : TypeId) (hl : l.length ≤ maxLen) : Strs (w.alloc (.cells (l.map Value.string).toArray T)) (some ⟨w.heap.size, 0, none⟩) l.length l := by
  refine ⟨Nat.le_refl _, hl, (fun e => by cases e), ?_⟩
  intro ad e hne
  cases e
  refine ⟨rfl, by simp, fun i x hi => ?_⟩
  rw [cell_of_block (block_alloc _ _)]
  simp [hi]

set_option maxRecDepth 100000 in
set_option maxHeartbeats 1000000 in
theorem allv_has (bt : Nat) (s : ByteArray) (w : World) (hb : w.cell? ⟨bt, 0, none⟩ = some (.func (.func 207) #[] #[])) (hs : s.size ≤ maxLen) :
    Calls Tryz.prog 254 #[.string s, .pointer (some ⟨bt, 0, none⟩)] w fun e w' => e = .returned (.bool (!isName s)) ∧ Fr No w w' := by
  go_enter Tryz.func254, Tryz.ntmps254
  go_wp2_with fail
  refine (name_valid s _ hs).mono ?_
  rintro e w1 ⟨rfl, hf1⟩
  go_wp2_with fail
  go_ret
  exact ⟨rfl, hf1⟩

set_option maxHeartbeats 1000000 in
theorem allv_index (bt : Nat) (la : Option Addr) (lc : Nat) (l : List ByteArray) (w : World) (hb : w.cell? ⟨bt, 0, none⟩ = some (.func (.func 207) #[] #[])) (hi : Strs w la lc l) (hs : ∀ x ∈ l, x.size ≤ maxLen) :
    Calls Tryz.prog 282 #[.slice la l.length lc, .func (.func 254) #[] #[.pointer (some ⟨bt, 0, none⟩)]] w fun e w' => (∃ r : Int, e = .returned (.int .i64 r) ∧ decide (0 ≤ r) = !l.all isName) ∧ Fr No w w' := by
  have hm := hi.lenmax
  go_enter Tryz.func282, Tryz.ntmps282
  go_wp2_with fail
  go_loopw [8] (fun i wr => ∃ k : Nat, k ≤ l.length ∧ i = .int .i64 k ∧ Hid ((l.take k).all isName = true) ∧ Fr No w wr) (fun i _ => l.length - (intOf i).toNat)
  case atStart => exact ⟨0, by omega, rfl, by unfold Hid; simp, Fr.refl _ _⟩
  case round =>
    obtain ⟨k, hk, rfl, hno, hfr⟩ := hrel
    by_cases hlt : k < l.length
    · have hlt' : (k : Int) < l.length := by omega
      obtain ⟨bb, off, x, rfl, hx, hc⟩ := (hi.no hfr (fun _ => id)).at hlt
      have hxs := hs x (List.mem_of_getElem? hx)
      have Htk : Hid (l.take (k + 1) = l.take k ++ [x]) := by unfold Hid; rw [List.take_add_one, hx]; rfl
      have Hmem := Lib.hid (List.mem_of_getElem? hx)
      clear hx
      go_wp2_with fail
      refine (allv_has bt x _ (hfr.cell hb id) hxs).mono ?_
      rintro e w1 ⟨rfl, hf1⟩
      have hfr1 := hfr.step hf1 (fun _ _ h => h)
      clear hc
      cases hp : isName x
      · have Hr : Hid (l.all isName = false) := by unfold Hid; rw [List.all_eq_false]; exact ⟨x, Hmem.out, by rw [hp]; simp⟩
        clear hp
        go_wp2_with fail
        go_ret
        exact ⟨⟨(k : Int), rfl, by rw [Hr.out]; simp⟩, hfr1⟩
      · have Hn : Hid ((l.take (k + 1)).all isName = true) := by unfold Hid; rw [Htk.out, List.all_append, hno.out]; simp [hp]
        clear hp
        go_wp2_with fail
        go_roundw
        case rel => exact ⟨k + 1, by omega, by go_num, Hn, hfr1⟩
        case measure => simp [intOf]; omega
    · have h := hno.out
      rw [List.take_of_length_le (by omega)] at h
      have Hp := Lib.hid h
      clear h
      go_wp2_with fail
      go_ret
      exact ⟨⟨-1, rfl, by rw [Hp.out]; rfl⟩, hfr⟩

set_option maxRecDepth 100000 in
set_option maxHeartbeats 1000000 in
theorem name_all (la : Option Addr) (lc : Nat) (l : List ByteArray) (w : World) (hi : Strs w la lc l) (hs : ∀ x ∈ l, x.size ≤ maxLen) :
    Calls Tryz.prog 206 #[.slice la l.length lc, .func (.func 207) #[] #[]] w fun e w' => e = .returned (.bool (l.all isName)) ∧ Fr No w w' := by
  have hx : Fr No w (w.alloc (.cells #[.func (.func 207) #[] #[]] 189)) := (Fr.refl _ _).alloc _
  have q3 := block_alloc w (.cells #[.func (.func 207) #[] #[]] 189)
  have hi0 := hi.no hx (fun _ => id)
  go_enter Tryz.func206, Tryz.ntmps206
  go_wp2_with fail
  generalize w.alloc (.cells #[.func (.func 207) #[] #[]] 189) = W0 at *
  refine (show Calls Tryz.prog 253 _ _ (fun e w' => e = .returned (.bool (!l.all isName)) ∧ Fr No W0 w') from ?_).mono ?_
  · go_enter Tryz.func253, Tryz.ntmps253
    go_wp2_with fail
    refine (allv_index w.heap.size la lc l _ (cell_of_block q3 0) hi0 hs).mono ?_
    rintro e w1 ⟨⟨r, rfl, hr⟩, hf1⟩
    have Hr := Lib.hid hr
    clear hr
    go_wp2_with fail
    go_ret
    exact ⟨ret_bool Hr.out, hf1⟩
  · rintro e w1 ⟨rfl, hf1⟩
    go_wp2_with fail
    go_ret
    exact ⟨ret_bool (by simp), hx.step hf1 (fun _ _ h => h)⟩

def SplitR (s : ByteArray) (e : Ending) (w' : World) (B : Nat) : Prop :=
  (goodPath s = false ∧ e = .returned (.tuple #[.slice none 0 0, .int .i64 10])) ∨
  (goodPath s = true ∧ ∃ ad, e = .returned (.tuple #[.slice (some ad) (sparts s).length (sparts s).length, .int .i64 0]) ∧ Strs w' (some ad) (sparts s).length (sparts s) ∧ B ≤ ad.block)

set_option maxRecDepth 100000 in
set_option maxHeartbeats 1000000 in
theorem n_split (s : ByteArray) (m : Int) (w : World) (hs : s.size ≤ 1000000) (hm : w.cell? ⟨0, 0, none⟩ = some (.int .i64 m)) :
    Calls Tryz.prog 168 #[.string s] w fun e w' => SplitR s e w' w.heap.size ∧ Fr No w w' := by
  have hml : (1000001 : Nat) ≤ maxLen := by unfold maxLen; omega
  have hcut := Tryz.strings_CutPrefix s ⟨#[47]⟩ w
  obtain ⟨rest, hrest⟩ : ∃ r, r = (⟨(Lib.trimPrefix s.data.toList [47]).toArray⟩ : ByteArray) := ⟨_, rfl⟩
  have hrs : rest.size ≤ 1000000 := by
    rw [hrest]
    have h2 := trim_le s.data.toList [47]
    simp only [ByteArray.size, List.size_toArray]
    simp at h2
    omega
  have hps : sparts s = (spl 47 rest.data.toList).map fun x => ⟨x.toArray⟩ := by rw [hrest]; rfl
  obtain ⟨pp, hpp⟩ : ∃ pp, pp = sparts s := ⟨_, rfl⟩
  have hg : goodPath s = (Lib.hasPrefix s.data.toList [47] && pp.all isName) := by rw [hpp]; rfl
  have hsz : ∀ x ∈ pp, x.size ≤ maxLen := fun x hx => by rw [hpp] at hx; have := sparts_size s x hx; omega
  have hcnt := split_len rest
  have hspl := split_parts rest
  rw [← hps, ← hpp] at hcnt hspl
  have hle := Lib.countB_le ⟨#[47]⟩ (by decide) rest.size rest (Nat.le_refl _)
  have hpl : pp.length ≤ maxLen := by omega
  have hcut' : Calls Tryz.prog 200 #[.string s, .string ⟨#[47]⟩] w fun e w' => e = .returned (.tuple #[.string rest, .bool (Lib.hasPrefix s.data.toList [47])]) ∧ w' = w := by rw [hrest]; exact hcut
  have Hg := Lib.hid hg
  have Hpp := Lib.hid hpp
  have Hspl := Lib.hid hspl
  have Hcnt := Lib.hid hcnt
  clear hcut hrest hps hpp hg hcnt hspl
  generalize Lib.hasPrefix s.data.toList [47] = pre at *
  go_enter Tryz.func168, Tryz.ntmps168
  go_wp2_with fail
  refine hcut'.mono ?_
  rintro e w1 ⟨rfl, rfl⟩
  go_wp2_with fail
  refine (Tryz.strings_Split rest ⟨#[47]⟩ m _ (by omega) hm (by decide)).mono ?_
  rintro e w2 ⟨rfl, rfl⟩
  rw [Hspl.out, Hcnt.out]
  have hx : Fr No w1 (w1.alloc (.cells ((pp.map Value.string).toArray) 9)) := (Fr.refl _ _).alloc _
  have hS := Strs.new w1 pp 9 hpl
  have hb0 : w1.heap.size < (w1.alloc (.cells ((pp.map Value.string).toArray) 9)).heap.size := by simp
  clear hm hle
  generalize w1.alloc (.cells ((pp.map Value.string).toArray) 9) = W2 at *
  cases pre with
  | false =>
    have Hb : Hid (goodPath s = false) := by unfold Hid; rw [Hg.out]; rfl
    go_wp2_with fail
    go_ret2
    exact ⟨.inl ⟨Hb.out, rfl⟩, hx⟩
  | true =>
    have Hx := Lib.hid hx
    have HS := Lib.hid hS
    clear hx
    go_wp2_with fail
    refine (name_all _ _ pp _ hS hsz).mono ?_
    rintro e w3 ⟨rfl, hf3⟩
    have HS3 := Lib.hid (HS.out.no hf3 (fun _ => id))
    have Hf3 := Lib.hid (Hx.out.step hf3 (fun _ _ h => h))
    clear hS hsz hf3
    cases hal : pp.all isName with
    | false =>
      have Hb : Hid (goodPath s = false) := by unfold Hid; rw [Hg.out, hal]; rfl
      clear hal
      go_wp2_with fail
      go_ret2
      exact ⟨.inl ⟨Hb.out, rfl⟩, Hf3.out⟩
    | true =>
      have Hb : Hid (goodPath s = true) := by unfold Hid; rw [Hg.out, hal]; rfl
      clear hal
      go_wp2_with fail
      go_ret2
      refine ⟨.inr ⟨Hb.out, ⟨w1.heap.size, 0, none⟩, ?_, ?_, Nat.le_refl _⟩, Hf3.out⟩
      · rw [← Hpp.out]; rfl
      · rw [← Hpp.out]; exact HS3.out

set_option maxHeartbeats 1000000 in
theorem strs_equal (la ma : Option Addr) (lc mc : Nat) (l m : List ByteArray) (w : World) (hl : Strs w la lc l) (hr : Strs w ma mc m) :
    Calls Tryz.prog 169 #[.slice la l.length lc, .slice ma m.length mc] w fun e w' => e = .returned (.bool (decide (l = m))) ∧ Fr No w w' := by
  have hm := hl.lenmax
  have hm' := hr.lenmax
  by_cases hne : l.length = m.length
  · have hb : ((l.length : Int) != (m.length : Int)) = false := by simp [hne]
    go_enter Tryz.func169, Tryz.ntmps169
    have Hne := Lib.hid hne
    clear hne
    go_wp2_with fail
    go_loopw [13] (fun i wr => ∃ k : Nat, k ≤ l.length ∧ i = .int .i64 k ∧ Hid (l.take k = m.take k) ∧ Fr No w wr) (fun i _ => l.length - (intOf i).toNat)
    case atStart => exact ⟨0, by omega, rfl, by unfold Hid; simp, Fr.refl _ _⟩
    case round =>
      obtain ⟨k, hk, rfl, hno, hfr⟩ := hrel
      by_cases hlt : k < l.length
      · have hlt' : (k : Int) < l.length := by omega
        have hl2 : k < m.length := by have := Hne.out; omega
        have hl2' : (k : Int) < m.length := by omega
        go_wp2_with fail
        refine region_sig No [(0, false), (1, false), (2, false), (3, false), (4, false), (5, false), (6, false), (7, false), (8, false)] (by kernel_rfl) (by kernel_rfl) (fun w0 hf0 => ?_)
        have hfr0 := hfr.step hf0 (fun _ _ h => h)
        obtain ⟨b, off, x, rfl, hx, hc⟩ := (hl.no hfr0 (fun _ => id)).at hlt
        obtain ⟨b', off', y, rfl, hy, hc'⟩ := (hr.no hfr0 (fun _ => id)).at hl2
        have g0 : ∀ g : Gr No w0, g.W.cell? ⟨b, off + k, none⟩ = some (.string x) := fun g => g.fr.cell hc id
        have g1 : ∀ g : Gr No w0, g.W.cell? ⟨b', off' + k, none⟩ = some (.string y) := fun g => g.fr.cell hc' id
        have Hx : Hid (l.take (k + 1) = l.take k ++ [x]) := by unfold Hid; rw [List.take_add_one, hx]; rfl
        have Hy : Hid (m.take (k + 1) = m.take k ++ [y]) := by unfold Hid; rw [List.take_add_one, hy]; rfl
        have Hfr := Lib.hid hfr0
        clear hx hy hc hc' hfr hfr0 hf0
        repeat (apply sig_q; exact rfl; exact rfl; exact rfl; intro K hK; go_big_quiet_op; go_big_quiet_on)
        refine sig_end ?_
        clear g0 g1
        rcases hxy : (x.toList == y.toList) with _ | _
        · have Hn : Hid (l ≠ m) := by
            intro e
            have h1 : l.take (k + 1) = m.take (k + 1) := by rw [e]
            rw [Hx.out, Hy.out, hno.out] at h1
            have h2 := List.append_cancel_left h1
            simp at h2
            rw [h2] at hxy
            simp at hxy
          go_wp2_with fail
          go_ret
          exact ⟨ret_bool (decide_eq_false Hn.out).symm, Hfr.out⟩
        · have Hn : Hid (l.take (k + 1) = m.take (k + 1)) := by
            have e : x = y := by
              rw [beq_iff_eq, ByteArray.toList_eq, ByteArray.toList_eq] at hxy
              exact ByteArray.ext (Array.ext' hxy)
            unfold Hid; rw [Hx.out, Hy.out, hno.out, e]
          go_wp2_with fail
          go_roundw
          case rel => exact ⟨k + 1, by omega, by go_num, Hn, Hfr.out⟩
          case measure => simp [intOf]; omega
      · have h := hno.out
        rw [List.take_of_length_le (by omega), List.take_of_length_le (by have := Hne.out; omega)] at h
        have Hn := Lib.hid h
        clear h
        go_wp2_with fail
        go_ret
        exact ⟨ret_bool (decide_eq_true Hn.out).symm, hfr⟩
  · have hb : ((l.length : Int) != (m.length : Int)) = true := by simp; omega
    have Hn : Hid (l ≠ m) := fun e => hne (by rw [e])
    go_enter Tryz.func169, Tryz.ntmps169
    go_wp2_with fail
    go_ret
    exact ⟨ret_bool (decide_eq_false Hn.out).symm, Fr.refl _ _⟩

def errP (b : Bool) : Int := if b = true then 0 else 10
/-- A path lies below another one. -/
def underB (d p : ByteArray) : Bool := goodPath d && goodPath p && decide ((sparts d).length < (sparts p).length) && decide ((sparts p).take (sparts d).length = sparts d)

set_option maxRecDepth 100000 in
set_option maxHeartbeats 1000000 in
theorem n_under (d p : ByteArray) (m : Int) (w : World) (hd : d.size ≤ 1000000) (hp : p.size ≤ 1000000) (hm : w.cell? ⟨0, 0, none⟩ = some (.int .i64 m)) :
    Calls Tryz.prog 126 #[.string d, .string p] w fun e w' => (e = .returned (.tuple #[.bool (underB d p), .int .i64 (errP (goodPath d && goodPath p))])) ∧ Fr No w w' := by
  have hu : underB d p = (goodPath d && goodPath p && decide ((sparts d).length < (sparts p).length) && decide ((sparts p).take (sparts d).length = sparts d)) := rfl
  have Hu := Lib.hid hu
  clear hu
  go_enter Tryz.func126, Tryz.ntmps126
  go_wp2_with fail
  refine (n_split d m _ hd hm).mono ?_
  rintro e w1 ⟨hR1, hf1⟩
  have hm1 := hf1.cell hm id
  rcases hR1 with ⟨hg1, rfl⟩ | ⟨hg1, ad1, rfl, hS1, hb1⟩
  · have Hr : Hid (underB d p = false ∧ (goodPath d && goodPath p) = false) := by unfold Hid; rw [Hu.out, hg1]; simp
    clear hg1
    go_wp2_with fail
    refine (n_split p m _ hp hm1).mono ?_
    rintro e w2 ⟨hR2, hf2⟩
    have Hf := Lib.hid (hf1.step hf2 (fun _ _ h => h))
    clear hf1 hf2
    rcases hR2 with ⟨-, rfl⟩ | ⟨-, ad2, rfl, -, -⟩
    all_goals
      go_wp2_with fail
      go_ret2
      exact ⟨by rw [Hr.out.1, Hr.out.2]; rfl, Hf.out⟩
  · go_wp2_with fail
    refine (n_split p m _ hp hm1).mono ?_
    rintro e w2 ⟨hR2, hf2⟩
    have Hf := Lib.hid (hf1.step hf2 (fun _ _ h => h))
    have hS12 := hS1.no hf2 (fun _ => id)
    have Hg1 := Lib.hid hg1
    clear hf1 hf2 hS1 hg1
    rcases hR2 with ⟨hg2, rfl⟩ | ⟨hg2, ad2, rfl, hS2, hb2⟩
    · have Hr : Hid (underB d p = false ∧ (goodPath d && goodPath p) = false) := by unfold Hid; rw [Hu.out, hg2]; simp
      clear hg2
      go_wp2_with fail
      go_ret2
      exact ⟨by rw [Hr.out.1, Hr.out.2]; rfl, Hf.out⟩
    · have Hr : Hid ((goodPath d && goodPath p) = true ∧ underB d p = (decide ((sparts d).length < (sparts p).length) && decide ((sparts p).take (sparts d).length = sparts d))) := by unfold Hid; rw [Hu.out, Hg1.out, hg2]; simp
      clear hg2
      have hne1 := sparts_ne d
      generalize sparts d = D at *
      generalize sparts p = Q at *
      by_cases hlt : D.length < Q.length
      · have hlt' : (D.length : Int) < Q.length := by omega
        have htl : (Q.take D.length).length = D.length := by simp; omega
        have hS3 : Strs w2 (some ad2) Q.length (Q.take D.length) := ⟨by omega, hS2.max, (fun e => by cases e), fun ad e hne => by
          obtain ⟨h1, h2, h3⟩ := hS2.cell ad e (fun h => by rw [h] at hlt; simp at hlt)
          exact ⟨h1, h2, fun i x hi => h3 i x (by
            have hi2 : i < D.length := by have := (List.getElem?_eq_some_iff.1 hi).1; omega
            rw [List.getElem?_take_of_lt hi2] at hi; exact hi)⟩⟩
        have hEq := strs_equal (some ad2) (some ad1) Q.length D.length (Q.take D.length) D w2 hS3 hS12
        rw [htl] at hEq
        have Htl := Lib.hid htl
        have hmx := hS2.max
        unfold maxLen at hmx
        have Hlt := Lib.hid hlt
        clear htl hS3 hS2 hS12
        go_wp2_with fail
        refine hEq.mono ?_
        rintro e w3 ⟨rfl, hf3⟩
        have Hf3 := Lib.hid (Hf.out.step hf3 (fun _ _ h => h))
        clear hf3 hEq
        go_wp2_with fail
        go_ret2
        exact ⟨by rw [Hr.out.1, Hr.out.2, decide_eq_true Hlt.out]; rfl, Hf3.out⟩
      · have hlt' : ¬ (D.length : Int) < Q.length := by omega
        have Hlt := Lib.hid hlt
        go_wp2_with fail
        go_ret2
        exact ⟨by rw [Hr.out.1, Hr.out.2, decide_eq_false Hlt.out]; rfl, Hf.out⟩
end Go.Proofs.YtanaompgapiikaaGreatDoor
