/- name.Split, name.Under, exactly. The reference's parser: what it reads, and that it reads the texts of valid contents. Plain. -/
import Derived.Test.YtcibciippghooaaGreatDoorZL3
import Derived.Test.YtcibciippghooaaGreatDoorZL4
import Derived.Test.YtcibciippghooaaGreatDoorStrs2
import Derived.Lib.SplitLaws
import Derived.Laws.EntriesVeiled
import Derived.Test.YtcibciippghooaaGreatDoorZL2
namespace Go.Proofs.YtcibciippghooaaGreatDoor
open Go.RowKit Go.Maps
set_option linter.unusedVariables false

/-! ### Cut at a byte -/
def spl (c : UInt8) : List UInt8 → List (List UInt8)
  | [] => [[]]
  | x :: t => if x = c then [] :: spl c t else match spl c t with
    | [] => [[x]]
    | h :: r => (x :: h) :: r
theorem spl_ne (c : UInt8) : ∀ s, spl c s ≠ []
  | [] => by simp [spl]
  | x :: t => by
    unfold spl
    split
    · simp
    · split <;> simp
theorem splitK_spl (c : UInt8) : ∀ s : List UInt8, Lib.splitK [c] 0 (s.count c) s = spl c s
  | [] => rfl
  | x :: t => by
    have ih := splitK_spl c t
    by_cases hx : x = c
    · subst hx
      have hi : Lib.index (x :: t) [x] = 0 := by
        unfold Lib.index
        rw [if_pos (by simp)]
      have e : spl x (x :: t) = [] :: spl x t := by rw [spl, if_pos rfl]
      rw [List.count_cons_self, Lib.splitK, hi, e, ← ih]
      rfl
    · have hc : (x :: t).count c = t.count c := List.count_cons_of_ne hx
      have hp : ([c].isPrefixOf (x :: t)) = false := by
        have h1 : (c == x) = false := by simpa using fun h => hx h.symm
        simp [List.isPrefixOf, h1]
      have hs : spl c (x :: t) = (match spl c t with | [] => [[x]] | h :: r => (x :: h) :: r) := by
        rw [spl, if_neg hx]
      rw [hc, hs, ← ih]
      cases hk : t.count c with
      | zero => simp [Lib.splitK]
      | succ k =>
        have hi : Lib.index (x :: t) [c] = if Lib.index t [c] == -1 then -1 else Lib.index t [c] + 1 := by
          rw [Lib.index, if_neg (by rw [hp]; simp)]
        rw [Lib.splitK, Lib.splitK, hi]
        by_cases h1 : (Lib.index t [c] == -1) = true
        · simp [h1]
        · have h2 := Lib.index_ge t [c]
          have h3 : Lib.index t [c] ≠ -1 := by simpa using h1
          obtain ⟨n, hn⟩ := Int.eq_ofNat_of_zero_le (show 0 ≤ Lib.index t [c] by omega)
          rw [if_neg h1, if_neg h1, hn]
          rw [if_neg (by simp; omega)]
          rw [show ((n : Int) + 1).toNat = n + 1 by omega, show ((n : Int)).toNat = n by omega]
          simp
theorem spl_none {c : UInt8} : ∀ {s : List UInt8}, (∀ x ∈ s, x ≠ c) → spl c s = [s]
  | [], _ => rfl
  | x :: t, h => by
    rw [spl, if_neg (h x (by simp)), spl_none (fun y hy => h y (by simp [hy]))]
theorem spl_app {c : UInt8} : ∀ {s : List UInt8} {t : List UInt8}, (∀ x ∈ s, x ≠ c) → spl c (s ++ c :: t) = s :: spl c t
  | [], t, _ => by simp [spl]
  | x :: s, t, h => by
    rw [List.cons_append, spl, if_neg (h x (by simp)), spl_app (fun y hy => h y (by simp [hy]))]
theorem spl_join {c : UInt8} : ∀ (l : List (List UInt8)), l ≠ [] → (∀ x ∈ l, ∀ b ∈ x, b ≠ c) → spl c (Lib.join l [c]) = l
  | [], h, _ => absurd rfl h
  | [x], _, h => by simp [Lib.join]; exact spl_none (h x (by simp))
  | x :: y :: t, _, h => by
    have ih := spl_join (y :: t) (by simp) (fun z hz => h z (by simp [hz]))
    have e : Lib.join (x :: y :: t) [c] = x ++ c :: Lib.join (y :: t) [c]   := by simp [Lib.join]
    rw [e, spl_app (h x (by simp)), ih]

/-- The names of a path. -/
def sparts (s : ByteArray) : List ByteArray := (spl 47 (Lib.trimPrefix s.data.toList [47])).map fun x => ⟨x.toArray⟩
def goodPath (s : ByteArray) : Bool := Lib.hasPrefix s.data.toList [47] && (sparts s).all isName
theorem sparts_ne (s : ByteArray) : sparts s ≠ [] := by
  unfold sparts
  intro h
  exact spl_ne _ _ (List.map_eq_nil_iff.1 h)
theorem spl_le (c : UInt8) : ∀ (s : List UInt8), ∀ x ∈ spl c s, x.length ≤ s.length
  | [], x, h => by simp [spl] at h; subst h; simp
  | y :: t, x, h => by
    have ih := spl_le c t
    unfold spl at h
    split at h
    · rcases List.mem_cons.1 h with rfl | h
      · simp
      · have := ih x h; simp; omega
    · split at h
      · simp at h; subst h; simp
      · rename_i a r e
        rcases List.mem_cons.1 h with rfl | h
        · have := ih a (by rw [e]; simp); simp; omega
        · have := ih x (by rw [e]; simp [h]); simp; omega
theorem trim_le (s p : List UInt8) : (Lib.trimPrefix s p).length ≤ s.length := by
  unfold Lib.trimPrefix
  split <;> simp
theorem sparts_size (s : ByteArray) : ∀ x ∈ sparts s, x.size ≤ s.size := by
  intro x hx
  obtain ⟨y, hy, rfl⟩ := List.mem_map.1 hx
  have h1 := spl_le 47 _ y hy
  have h2 := trim_le s.data.toList [47]
  have h3 : s.data.toList.length = s.size := (Lib.size_eq s).symm
  simp only [ByteArray.size, List.size_toArray] at h3 ⊢
  omega
theorem split_parts (s : ByteArray) : Lib.splitB ⟨#[47]⟩ 0 (Lib.countB s ⟨#[47]⟩) s = (spl 47 s.data.toList).map fun x => ⟨x.toArray⟩ := by
  have h1 := Lib.splitB_data ⟨#[47]⟩ 0 (Lib.countB s ⟨#[47]⟩) s
  have h2 : Lib.countB s ⟨#[47]⟩ = s.data.toList.count 47 := Lib.count_one 47 s.data.toList
  have h3 : (⟨#[47]⟩ : ByteArray).data.toList = [47] := rfl
  rw [h3] at h1
  rw [h2] at h1 ⊢
  rw [splitK_spl] at h1
  rw [← h1, List.map_map]
  symm
  rw [List.map_congr_left (g := id)]
  · simp
  · intro x _; simp
theorem split_len (s : ByteArray) : Lib.countB s ⟨#[47]⟩ + 1 = ((spl 47 s.data.toList).map fun x => (⟨x.toArray⟩ : ByteArray)).length := by
  rw [← split_parts, Lib.splitB_all ⟨#[47]⟩ (by decide) 0 _ _ rfl]

/-! ### The walks -/
theorem Strs.new (w : World) (l : List ByteArray) (T : TypeId) (hl : l.length ≤ maxLen) : Strs (w.alloc (.cells (l.map Value.string).toArray T)) (some ⟨w.heap.size, 0, none⟩) l.length l := by
  refine ⟨Nat.le_refl _, hl, (fun e => by cases e), ?_⟩
  intro ad e hne
  cases e
  refine ⟨rfl, by simp, fun i x hi => ?_⟩
  rw [cell_of_block (block_alloc _ _)]
  simp [hi]

set_option maxRecDepth 100000 in
set_option maxHeartbeats 1000000 in
theorem allv_has (bt : Nat) (s : ByteArray) (w : World) (hb : w.cell? ⟨bt, 0, none⟩ = some (.func (.func 75) #[] #[])) (hs : s.size ≤ maxLen) :
    Calls Tryz.prog 176 #[.string s, .pointer (some ⟨bt, 0, none⟩)] w fun e w' => e = .returned (.bool (!isName s)) ∧ Fr No w w' := by
  go_enter Tryz.func176, Tryz.ntmps176
  go_wp2_with fail
  refine (name_valid s _ hs).mono ?_
  rintro e w1 ⟨rfl, hf1⟩
  go_wp2_with fail
  go_ret
  exact ⟨rfl, hf1⟩

set_option maxHeartbeats 1000000 in
theorem allv_index (bt : Nat) (la : Option Addr) (lc : Nat) (l : List ByteArray) (w : World) (hb : w.cell? ⟨bt, 0, none⟩ = some (.func (.func 75) #[] #[])) (hi : Strs w la lc l) (hs : ∀ x ∈ l, x.size ≤ maxLen) :
    Calls Tryz.prog 193 #[.slice la l.length lc, .func (.func 176) #[] #[.pointer (some ⟨bt, 0, none⟩)]] w fun e w' => (∃ r : Int, e = .returned (.int .i64 r) ∧ decide (0 ≤ r) = !l.all isName) ∧ Fr No w w' := by
  have hm := hi.lenmax
  go_enter Tryz.func193, Tryz.ntmps193
  go_wp2_with fail
  go_loopw [8] (fun i wr => ∃ k : Nat, k ≤ l.length ∧ i = .int .i64 k ∧ Hid ((l.take k).all isName = true) ∧ Fr No w wr) (fun i _ => l.length - (intOf i).toNat)
  case atStart => exact ⟨0, by omega, rfl, by unfold Hid; simp, Fr.refl _ _⟩
  case round =>
    obtain ⟨k, hk, rfl, hno, hfr⟩ := hrel
    by_cases hlt : k < l.length
    · have hlt' : (k : Int) < l.length := by omega
      obtain ⟨bb, off, x, rfl, hx, hc⟩ := (hi.no hfr (fun _ => id)).at hlt
      have hxs := hs x (List.mem_of_getElem? hx)
      have Htk : Hid (l.take (k + 1) = l.take k ++ [x]) := by unfold Hid; rw [List.take_add_one, hx]; rfl
      have Hmem := Lib.hid (List.mem_of_getElem? hx)
      clear hx
      go_wp2_with fail
      refine (allv_has bt x _ (hfr.cell hb id) hxs).mono ?_
      rintro e w1 ⟨rfl, hf1⟩
      have hfr1 := hfr.step hf1 (fun _ _ h => h)
      clear hc
      cases hp : isName x
      · have Hr : Hid (l.all isName = false) := by unfold Hid; rw [List.all_eq_false]; exact ⟨x, Hmem.out, by rw [hp]; simp⟩
        clear hp
        go_wp2_with fail
        go_ret
        exact ⟨⟨(k : Int), rfl, by rw [Hr.out]; simp⟩, hfr1⟩
      · have Hn : Hid ((l.take (k + 1)).all isName = true) := by unfold Hid; rw [Htk.out, List.all_append, hno.out]; simp [hp]
        clear hp
        go_wp2_with fail
        go_roundw
        case rel => exact ⟨k + 1, by omega, by go_num, Hn, hfr1⟩
        case measure => simp [intOf]; omega
    · have h := hno.out
      rw [List.take_of_length_le (by omega)] at h
      have Hp := Lib.hid h
      clear h
      go_wp2_with fail
      go_ret
      exact ⟨⟨-1, rfl, by rw [Hp.out]; rfl⟩, hfr⟩

set_option maxRecDepth 100000 in
set_option maxHeartbeats 1000000 in
theorem name_all (la : Option Addr) (lc : Nat) (l : List ByteArray) (w : World) (hi : Strs w la lc l) (hs : ∀ x ∈ l, x.size ≤ maxLen) :
    Calls Tryz.prog 149 #[.slice la l.length lc, .func (.func 75) #[] #[]] w fun e w' => e = .returned (.bool (l.all isName)) ∧ Fr No w w' := by
  have hx : Fr No w (w.alloc (.cells #[.func (.func 75) #[] #[]] 102)) := (Fr.refl _ _).alloc _
  have q3 := block_alloc w (.cells #[.func (.func 75) #[] #[]] 102)
  have hi0 := hi.no hx (fun _ => id)
  go_enter Tryz.func149, Tryz.ntmps149
  go_wp2_with fail
  generalize w.alloc (.cells #[.func (.func 75) #[] #[]] 102) = W0 at *
  refine (show Calls Tryz.prog 175 _ _ (fun e w' => e = .returned (.bool (!l.all isName)) ∧ Fr No W0 w') from ?_).mono ?_
  · go_enter Tryz.func175, Tryz.ntmps175
    go_wp2_with fail
    refine (allv_index w.heap.size la lc l _ (cell_of_block q3 0) hi0 hs).mono ?_
    rintro e w1 ⟨⟨r, rfl, hr⟩, hf1⟩
    have Hr := Lib.hid hr
    clear hr
    go_wp2_with fail
    go_ret
    exact ⟨ret_bool Hr.out, hf1⟩
  · rintro e w1 ⟨rfl, hf1⟩
    go_wp2_with fail
    go_ret
    exact ⟨ret_bool (by simp), hx.step hf1 (fun _ _ h => h)⟩

def SplitR (s : ByteArray) (e : Ending) (w' : World) (B : Nat) : Prop :=
  (goodPath s = false ∧ e = .returned (.tuple #[.slice none 0 0, .int .i64 10])) ∨
  (goodPath s = true ∧ ∃ ad, e = .returned (.tuple #[.slice (some ad) (sparts s).length (sparts s).length, .int .i64 0]) ∧ Strs w' (some ad) (sparts s).length (sparts s) ∧ B ≤ ad.block)

set_option maxRecDepth 100000 in
set_option maxHeartbeats 1000000 in
theorem n_split (s : ByteArray) (m : Int) (w : World) (hs : s.size ≤ 1000000) (hm : w.cell? ⟨3, 0, none⟩ = some (.int .i64 m)) :
    Calls Tryz.prog 116 #[.string s] w fun e w' => SplitR s e w' w.heap.size ∧ Fr No w w' := by
  have hml : (1000001 : Nat) ≤ maxLen := by unfold maxLen; omega
  have hcut := Tryz.strings_CutPrefix s ⟨#[47]⟩ w
  obtain ⟨rest, hrest⟩ : ∃ r, r = (⟨(Lib.trimPrefix s.data.toList [47]).toArray⟩ : ByteArray) := ⟨_, rfl⟩
  have hrs : rest.size ≤ 1000000 := by
    rw [hrest]
    have h2 := trim_le s.data.toList [47]
    simp only [ByteArray.size, List.size_toArray]
    simp at h2
    omega
  have hps : sparts s = (spl 47 rest.data.toList).map fun x => ⟨x.toArray⟩ := by rw [hrest]; rfl
  obtain ⟨pp, hpp⟩ : ∃ pp, pp = sparts s := ⟨_, rfl⟩
  have hg : goodPath s = (Lib.hasPrefix s.data.toList [47] && pp.all isName) := by rw [hpp]; rfl
  have hsz : ∀ x ∈ pp, x.size ≤ maxLen := fun x hx => by rw [hpp] at hx; have := sparts_size s x hx; omega
  have hcnt := split_len rest
  have hspl := split_parts rest
  rw [← hps, ← hpp] at hcnt hspl
  have hle := Lib.countB_le ⟨#[47]⟩ (by decide) rest.size rest (Nat.le_refl _)
  have hpl : pp.length ≤ maxLen := by omega
  have hcut' : Calls Tryz.prog 148 #[.string s, .string ⟨#[47]⟩] w fun e w' => e = .returned (.tuple #[.string rest, .bool (Lib.hasPrefix s.data.toList [47])]) ∧ w' = w := by rw [hrest]; exact hcut
  have Hg := Lib.hid hg
  have Hpp := Lib.hid hpp
  have Hspl := Lib.hid hspl
  have Hcnt := Lib.hid hcnt
  clear hcut hrest hps hpp hg hcnt hspl
  generalize Lib.hasPrefix s.data.toList [47] = pre at *
  go_enter Tryz.func116, Tryz.ntmps116
  go_wp2_with fail
  refine hcut'.mono ?_
  rintro e w1 ⟨rfl, rfl⟩
  go_wp2_with fail
  refine (Tryz.strings_Split rest ⟨#[47]⟩ m _ (by omega) hm (by decide)).mono ?_
  rintro e w2 ⟨rfl, rfl⟩
  rw [Hspl.out, Hcnt.out]
  have hx : Fr No w1 (w1.alloc (.cells ((pp.map Value.string).toArray) 9)) := (Fr.refl _ _).alloc _
  have hS := Strs.new w1 pp 9 hpl
  have hb0 : w1.heap.size < (w1.alloc (.cells ((pp.map Value.string).toArray) 9)).heap.size := by simp
  clear hm hle
  generalize w1.alloc (.cells ((pp.map Value.string).toArray) 9) = W2 at *
  cases pre with
  | false =>
    have Hb : Hid (goodPath s = false) := by unfold Hid; rw [Hg.out]; rfl
    go_wp2_with fail
    go_ret2
    exact ⟨.inl ⟨Hb.out, rfl⟩, hx⟩
  | true =>
    have Hx := Lib.hid hx
    have HS := Lib.hid hS
    clear hx
    go_wp2_with fail
    refine (name_all _ _ pp _ hS hsz).mono ?_
    rintro e w3 ⟨rfl, hf3⟩
    have HS3 := Lib.hid (HS.out.no hf3 (fun _ => id))
    have Hf3 := Lib.hid (Hx.out.step hf3 (fun _ _ h => h))
    clear hS hsz hf3
    cases hal : pp.all isName with
    | false =>
      have Hb : Hid (goodPath s = false) := by unfold Hid; rw [Hg.out, hal]; rfl
      clear hal
      go_wp2_with fail
      go_ret2
      exact ⟨.inl ⟨Hb.out, rfl⟩, Hf3.out⟩
    | true =>
      have Hb : Hid (goodPath s = true) := by unfold Hid; rw [Hg.out, hal]; rfl
      clear hal
      go_wp2_with fail
      go_ret2
      refine ⟨.inr ⟨Hb.out, ⟨w1.heap.size, 0, none⟩, ?_, ?_, Nat.le_refl _⟩, Hf3.out⟩
      · rw [← Hpp.out]; rfl
      · rw [← Hpp.out]; exact HS3.out

def errP (b : Bool) : Int := if b = true then 0 else 10
/-- A path lies below another one. -/
def underB (d p : ByteArray) : Bool := goodPath d && goodPath p && decide ((sparts d).length < (sparts p).length) && decide ((sparts p).take (sparts d).length = sparts d)

end Go.Proofs.YtcibciippghooaaGreatDoor
namespace Go.Proofs.YtcibciippghooaaGreatDoor
open Go
set_option linter.unusedVariables false

def stopR (r : List UInt8) : Bool := match r with | [] => true | b :: _ => decide (b = 44) || decide (b = 41)
/-- A decimal number of at most two digits. -/
def rNum (l : List UInt8) : Int :=
  if 2 < l.length then 0 else match l with
  | [] => 0
  | b :: t => if b = 48 then 0 else if (b :: t).all (fun x => decide (48 ≤ x) && decide (x ≤ 57)) = true then (b :: t).foldl (fun (n : Int) x => 10 * n + ((x.toNat : Int) - 48)) 0 else 0
def baL (l : List UInt8) : ByteArray := ⟨l.toArray⟩
/-- What stands ahead of the brackets. -/
def rHead (ps : List (List UInt8)) : Option Ct :=
  if ps.length < 2 then none
  else if ps.getD 0 [] = [102, 115] ∧ ps.length = 3 then some (.mk 1 (baL (ps.getD 1 [])) (baL (ps.getD 2 [])) 0 0 0 [])
  else if ps.getD 0 [] = [114, 97, 105, 100] ∧ ps.length = 3 ∧ (spl 47 (ps.getD 2 [])).length = 3 then some (.mk 2 (baL (ps.getD 1 [])) ⟨#[]⟩ (rNum ((spl 47 (ps.getD 2 [])).getD 0 [])) (rNum ((spl 47 (ps.getD 2 [])).getD 1 [])) (rNum ((spl 47 (ps.getD 2 [])).getD 2 [])) [])
  else if ps.getD 0 [] = [99, 114, 121, 112, 116] ∧ ps.length = 2 then some (.mk 3 (baL (ps.getD 1 [])) ⟨#[]⟩ 0 0 0 [])
  else if ps.getD 0 [] = [112, 118] ∧ ps.length = 3 ∧ (spl 47 (ps.getD 2 [])).length = 2 then some (.mk 4 (baL (ps.getD 1 [])) ⟨#[]⟩ (rNum ((spl 47 (ps.getD 2 [])).getD 0 [])) (rNum ((spl 47 (ps.getD 2 [])).getD 1 [])) 0 [])
  else if ps.getD 0 [] = [116, 97, 98, 108, 101] ∧ ps.length = 2 then some (.mk 5 (baL (ps.getD 1 [])) ⟨#[]⟩ 0 0 0 [])
  else none
/-- What stands in the brackets. -/
def rL (f : List UInt8 → Option (Ct × List UInt8)) : Nat → List Ct → List UInt8 → Option (List Ct × List UInt8)
  | 0, _, _ => none
  | k + 1, acc, r => match r with
    | [] => none
    | b :: t => if b = 41 then some (acc, t) else (f t).bind fun p => if p.2 = [] then none else rL f k (acc ++ [p.1]) p.2
def Ct.withIn (c : Ct) (n : List Ct) : Ct := .mk c.kind c.id c.label c.slot c.total c.least n
def rBox (g : List UInt8 → Option (List Ct × List UInt8)) (c : Ct) (rest : List UInt8) : Option (Ct × List UInt8) :=
  if c.kind = 1 then some (c, rest) else if rest.head? = some 40 then (g rest).bind fun p => some (c.withIn p.1, p.2) else none
def rd : Nat → List UInt8 → Option (Ct × List UInt8)
  | 0, r => if stopR r = true then some (Ct.zero, r) else none
  | d + 1, r => if stopR r = true then some (Ct.zero, r) else
    (rHead (spl 58 (upto [40, 44, 41] r))).bind fun c => rBox (fun x => rL (rd d) (x.length + 1) [] x) c (past [40, 44, 41] r)
def rParse (s : ByteArray) : Option Ct :=
  if 256 < (bl s).length then none else
  match rd 6 (bl s) with
  | some (c, []) => if c.valid = true ∧ c.text = bl s then some c else none
  | _ => none

/-! ### Sizes -/
theorem baL_size (l : List UInt8) : (baL l).size = l.length := by show l.toArray.size = _; simp
theorem spl_mem {c : UInt8} : ∀ {s x : List UInt8}, x ∈ spl c s → x.length ≤ s.length
  | [], x, h => by simp [spl] at h; subst h; simp
  | b :: t, x, h => by
    rw [spl] at h
    split at h
    · rcases List.mem_cons.1 h with rfl | h
      · simp
      · have := spl_mem h; simp; omega
    · have ih := fun y hy => spl_mem (c := c) (s := t) (x := y) hy
      split at h
      · simp at h; subst h; simp
      · rename_i hd r hsp
        rw [hsp] at ih
        rcases List.mem_cons.1 h with rfl | h
        · have := ih hd (by simp); simp; omega
        · have := ih x (by simp [h]); simp; omega
theorem getD_len {l : List (List UInt8)} {m : Nat} (h : ∀ x ∈ l, x.length ≤ m) (i : Nat) : (l.getD i []).length ≤ m := by
  rw [List.getD_eq_getElem?_getD]
  cases hi : l[i]? with
  | none => simp
  | some x => exact h x (List.mem_of_getElem? hi)
theorem rHead_some {ps : List (List UInt8)} {c : Ct} {m : Nat} (hm : ∀ x ∈ ps, x.length ≤ m) (h : rHead ps = some c) : c.inner = [] ∧ SmallC m c ∧ 1 ≤ c.kind := by
  have h1 := getD_len hm 1
  have h2 := getD_len hm 2
  unfold rHead at h
  have e0 : (⟨#[]⟩ : ByteArray).size ≤ m := Nat.zero_le _
  have e1 : (baL (ps.getD 1 [])).size ≤ m := by rw [baL_size]; exact h1
  have e2 : (baL (ps.getD 2 [])).size ≤ m := by rw [baL_size]; exact h2
  split at h
  · cases h
  split at h
  · injection h with h; subst h; exact ⟨rfl, ⟨e1, e2⟩, by simp [Ct.kind]⟩
  split at h
  · injection h with h; subst h; exact ⟨rfl, ⟨e1, e0⟩, by simp [Ct.kind]⟩
  split at h
  · injection h with h; subst h; exact ⟨rfl, ⟨e1, e0⟩, by simp [Ct.kind]⟩
  split at h
  · injection h with h; subst h; exact ⟨rfl, ⟨e1, e0⟩, by simp [Ct.kind]⟩
  split at h
  · injection h with h; subst h; exact ⟨rfl, ⟨e1, e0⟩, by simp [Ct.kind]⟩
  · cases h
/-- What is read is small. -/
structure RdOk (m : Nat) (c : Ct) (r' r : List UInt8) : Prop where
  count : c.count + r'.length ≤ r.length + 1
  small : ∀ d ∈ c.walk, SmallC m d
theorem rL_ok {f : List UInt8 → Option (Ct × List UInt8)} {m : Nat} (hf : ∀ r c r', r.length ≤ m → f r = some (c, r') → RdOk m c r' r) : ∀ k acc r l r', r.length ≤ m → rL f k acc r = some (l, r') → (∀ d ∈ Ct.walks acc, SmallC m d) → Ct.counts l + r'.length + 1 ≤ Ct.counts acc + r.length ∧ ∀ d ∈ Ct.walks l, SmallC m d
  | 0, acc, r, l, r', _, h, _ => by simp [rL] at h
  | k + 1, acc, r, l, r', hr, h, ha => by
    cases r with
    | nil => simp [rL] at h
    | cons b t =>
      rw [rL] at h
      simp only [List.length_cons] at hr ⊢
      split at h
      · injection h with h
        injection h with h1 h2
        subst h1; subst h2
        exact ⟨by omega, ha⟩
      · obtain ⟨p, hp, h⟩ := Option.bind_eq_some_iff.1 h
        split at h
        · cases h
        · have h1 := hf t p.1 p.2 (by omega) hp
          have h2 := h1.count
          have h3 := count_pos p.1
          have h4 := rL_ok hf k (acc ++ [p.1]) p.2 l r' (by omega) h (fun d hd => by
            rw [walks_append] at hd
            rcases List.mem_append.1 hd with hd | hd
            · exact ha d hd
            · exact h1.small d (by simpa [Ct.walks] using hd))
          refine ⟨?_, h4.2⟩
          have h5 := h4.1
          rw [counts_append] at h5
          simp only [Ct.counts] at h5
          omega
theorem rd_ok (m : Nat) : ∀ d r c r', r.length ≤ m → rd d r = some (c, r') → RdOk m c r' r := by
  have hz : ∀ r : List UInt8, RdOk m Ct.zero r r := fun r => ⟨by simp [Ct.zero, Ct.count, Ct.counts]; omega, fun d hd => by
    simp [Ct.zero, Ct.walk, Ct.walks] at hd; subst hd; exact ⟨Nat.zero_le _, Nat.zero_le _⟩⟩
  intro d
  induction d with
  | zero =>
    intro r c r' hr h
    rw [rd] at h
    split at h
    · injection h with h; injection h with h1 h2; subst h1; subst h2; exact hz r
    · cases h
  | succ d ih =>
    intro r c r' hr h
    rw [rd] at h
    split at h
    · injection h with h; injection h with h1 h2; subst h1; subst h2; exact hz r
    · obtain ⟨q, hq, h⟩ := Option.bind_eq_some_iff.1 h
      have hu := upto_len [40, 44, 41] r
      have hp := past_len [40, 44, 41] r
      obtain ⟨q1, q2, q3⟩ := rHead_some (m := m) (fun x hx => Nat.le_trans (spl_mem hx) (by omega)) hq
      obtain ⟨k, i, l, s, t, e, n⟩ := q
      unfold rBox at h
      split at h
      · injection h with h; injection h with h1 h2; subst h1; subst h2
        have q1' : n = [] := q1
        subst q1'
        exact ⟨by simp [Ct.count, Ct.counts]; omega, fun d hd => by simp [Ct.walk, Ct.walks] at hd; subst hd; exact q2⟩
      split at h
      · obtain ⟨p, hp2, h⟩ := Option.bind_eq_some_iff.1 h
        injection h with h; injection h with h1 h2; subst h1; subst h2
        have h4 := rL_ok (fun r c r' hr h => ih r c r' hr h) _ [] _ p.1 p.2 (by omega) hp2 (fun d hd => by simp [Ct.walks] at hd)
        have h5 := h4.1
        simp only [Ct.counts] at h5
        refine ⟨by simp [Ct.withIn, Ct.count]; omega, fun d hd => ?_⟩
        simp only [Ct.withIn, Ct.walk] at hd
        rcases List.mem_cons.1 hd with rfl | hd
        · exact q2
        · exact h4.2 d hd
      · cases h

/-! ### Texts of valid contents are read -/
theorem Stop.stopR_of {r : List UInt8} (h : Stop r) : stopR r = true := by
  rcases h with rfl | ⟨b, t, rfl, rfl | rfl⟩ <;> rfl
theorem rNum_itoa {v : Int} (h1 : 1 ≤ v) (h2 : v ≤ 16) : rNum (Lib.itoa v) = v := by
  obtain ⟨k, rfl⟩ := Int.eq_ofNat_of_zero_le (show 0 ≤ v by omega)
  have e1 : 1 ≤ k := by omega
  have e2 : k ≤ 16 := by omega
  have e3 : Lib.itoa (k : Int) = Lib.decDigits k := itoa_nat k
  rw [e3, dec_small k e1 e2]
  have : k = 1 ∨ k = 2 ∨ k = 3 ∨ k = 4 ∨ k = 5 ∨ k = 6 ∨ k = 7 ∨ k = 8 ∨ k = 9 ∨ k = 10 ∨ k = 11 ∨ k = 12 ∨ k = 13 ∨ k = 14 ∨ k = 15 ∨ k = 16 := by omega
  rcases this with rfl | rfl | rfl | rfl | rfl | rfl | rfl | rfl | rfl | rfl | rfl | rfl | rfl | rfl | rfl | rfl <;> decide
theorem itoa_bytes {v : Int} (h1 : 1 ≤ v) (h2 : v ≤ 16) : ∀ x ∈ Lib.itoa v, 48 ≤ x ∧ x ≤ 57 := by
  obtain ⟨k, rfl⟩ := Int.eq_ofNat_of_zero_le (show 0 ≤ v by omega)
  have e1 : 1 ≤ k := by omega
  have e2 : k ≤ 16 := by omega
  rw [itoa_nat k, dec_small k e1 e2]
  have : k = 1 ∨ k = 2 ∨ k = 3 ∨ k = 4 ∨ k = 5 ∨ k = 6 ∨ k = 7 ∨ k = 8 ∨ k = 9 ∨ k = 10 ∨ k = 11 ∨ k = 12 ∨ k = 13 ∨ k = 14 ∨ k = 15 ∨ k = 16 := by omega
  rcases this with rfl | rfl | rfl | rfl | rfl | rfl | rfl | rfl | rfl | rfl | rfl | rfl | rfl | rfl | rfl | rfl <;> decide

theorem rL_comp (f : List UInt8 → Option (Ct × List UInt8)) (rest : List UInt8) : ∀ (cs : List Ct) (k : Nat) (acc : List Ct) (b : UInt8), cs ≠ [] → b ≠ 41 → cs.length < k → (∀ c ∈ cs, ∀ t, Stop t → f (c.text ++ t) = some (c, t)) → rL f k acc (b :: (commas (cs.map Ct.text) ++ 41 :: rest)) = some (acc ++ cs, rest)
  | [], k, acc, b, h, _, _, _ => absurd rfl h
  | [c], k, acc, b, _, hb, hk, hf => by
    simp only [List.length_cons, List.length_nil] at hk
    obtain ⟨k, rfl⟩ : ∃ j, k = j + 2 := ⟨k - 2, by omega⟩
    rw [rL]
    simp only [if_neg hb]
    have e : commas ([c].map Ct.text) ++ 41 :: rest = c.text ++ 41 :: rest := by simp [commas]
    rw [e, hf c (by simp) _ (.inr ⟨_, _, rfl, .inr rfl⟩)]
    simp [rL]
  | c :: d :: u, k, acc, b, _, hb, hk, hf => by
    simp only [List.length_cons] at hk
    obtain ⟨k, rfl⟩ : ∃ j, k = j + 1 := ⟨k - 1, by omega⟩
    rw [rL]
    simp only [if_neg hb]
    have e : commas ((c :: d :: u).map Ct.text) ++ 41 :: rest = c.text ++ 44 :: (commas ((d :: u).map Ct.text) ++ 41 :: rest) := by simp [commas]
    rw [e, hf c (by simp) _ (.inr ⟨_, _, rfl, .inl rfl⟩)]
    simp only [Option.bind_some, if_neg (List.cons_ne_nil _ _)]
    rw [rL_comp f rest (d :: u) k (acc ++ [c]) 44 (by simp) (by decide) (by simp; omega) (fun x hx => hf x (by simp [hx]))]
    simp
theorem rHead1 (i l : List UInt8) : rHead [[102, 115], i, l] = some (.mk 1 (baL i) (baL l) 0 0 0 []) := by simp [rHead]
theorem rHead2 (i x a b c : List UInt8) (h : spl 47 x = [a, b, c]) : rHead [[114, 97, 105, 100], i, x] = some (.mk 2 (baL i) ⟨#[]⟩ (rNum a) (rNum b) (rNum c) []) := by simp [rHead, h]
theorem rHead3 (i : List UInt8) : rHead [[99, 114, 121, 112, 116], i] = some (.mk 3 (baL i) ⟨#[]⟩ 0 0 0 []) := by simp [rHead]
theorem rHead4 (i x a b : List UInt8) (h : spl 47 x = [a, b]) : rHead [[112, 118], i, x] = some (.mk 4 (baL i) ⟨#[]⟩ (rNum a) (rNum b) 0 []) := by simp [rHead, h]
theorem rHead5 (i : List UInt8) : rHead [[116, 97, 98, 108, 101], i] = some (.mk 5 (baL i) ⟨#[]⟩ 0 0 0 []) := by simp [rHead]
theorem baL_bl (s : ByteArray) : baL (bl s) = s := mk_bl s

theorem rd_open {d : Nat} {h tl : List UInt8} {b : UInt8} {c : Ct} (hh : ∀ x ∈ h, x ≠ 40 ∧ x ≠ 44 ∧ x ≠ 41) (hne : ∃ x y, h = x :: y) (hb : b = 40 ∨ b = 44 ∨ b = 41) (hc : rHead (spl 58 h) = some c) :
    rd (d + 1) (h ++ b :: tl) = rBox (fun x => rL (rd d) (x.length + 1) [] x) c (b :: tl) := by
  obtain ⟨x, y, rfl⟩ := hne
  have h1 := hh x (by simp)
  have u := upto_stop (ends := [40, 44, 41]) (w := x :: y) (b := b) (t := tl) (fun z hz => by
    obtain ⟨a1, a2, a3⟩ := hh z hz; simp [a1, a2, a3]) (by rcases hb with rfl | rfl | rfl <;> rfl)
  rw [rd, if_neg (by simp [stopR, h1.2.1, h1.2.2]), u.1, u.2, hc]
  rfl
theorem rd_open_end {d : Nat} {h : List UInt8} {c : Ct} (hh : ∀ x ∈ h, x ≠ 40 ∧ x ≠ 44 ∧ x ≠ 41) (hne : ∃ x y, h = x :: y) (hc : rHead (spl 58 h) = some c) :
    rd (d + 1) h = rBox (fun x => rL (rd d) (x.length + 1) [] x) c [] := by
  obtain ⟨x, y, rfl⟩ := hne
  have h1 := hh x (by simp)
  have u := upto_end (ends := [40, 44, 41]) (w := x :: y) (fun z hz => by
    obtain ⟨a1, a2, a3⟩ := hh z hz; simp [a1, a2, a3])
  rw [rd, if_neg (by simp [stopR, h1.2.1, h1.2.2]), u.1, u.2, hc]
  rfl
theorem box_comp {d : Nat} {c : Ct} {n : List Ct} {rest : List UInt8} (hk : c.kind ≠ 1) (hn : n ≠ []) (hf : ∀ x ∈ n, ∀ t, Stop t → rd d (x.text ++ t) = some (x, t)) :
    rBox (fun x => rL (rd d) (x.length + 1) [] x) c (40 :: (commas (n.map Ct.text) ++ 41 :: rest)) = some (c.withIn n, rest) := by
  unfold rBox
  rw [if_neg hk, if_pos (show (40 :: (commas (n.map Ct.text) ++ 41 :: rest)).head? = some 40 from rfl)]
  have hl : n.length ≤ (40 :: (commas (n.map Ct.text) ++ 41 :: rest)).length := by
    have : ∀ (l : List (List UInt8)), l.length ≤ (commas l).length + 1 := by
      intro l
      induction l with
      | nil => simp
      | cons x t ih => cases t with
        | nil => simp
        | cons y u => simp only [commas, List.length_append, List.length_cons] at ih ⊢; omega
    have h1 := this (n.map Ct.text)
    rw [List.length_map] at h1
    simp; omega
  show (rL (rd d) _ [] _).bind _ = _
  rw [rL_comp (rd d) rest n _ [] 40 hn (by decide) (by omega) hf]
  rfl

theorem idOk_id {s : ByteArray} (h : isId s = true) : (∀ x ∈ bl s, x ≠ 58) ∧ ∀ x ∈ bl s, x ≠ 40 ∧ x ≠ 44 ∧ x ≠ 41 :=
  ⟨fun x hx => (id_stop h x hx).1, fun x hx => ⟨(id_stop h x hx).2.1, (id_stop h x hx).2.2.1, (id_stop h x hx).2.2.2.1⟩⟩
theorem idOk_label {s : ByteArray} (h : ((bl s).isEmpty || isId s) = true) : (∀ x ∈ bl s, x ≠ 58) ∧ ∀ x ∈ bl s, x ≠ 40 ∧ x ≠ 44 ∧ x ≠ 41 := by
  rw [Bool.or_eq_true] at h
  rcases h with h | h
  · rw [List.isEmpty_iff] at h; rw [h]; exact ⟨by simp, by simp⟩
  · exact idOk_id h
theorem dig_ne {v : Int} (h1 : 1 ≤ v) (h2 : v ≤ 16) : ∀ x ∈ Lib.itoa v, x ≠ 58 ∧ x ≠ 47 ∧ x ≠ 40 ∧ x ≠ 44 ∧ x ≠ 41 := by
  intro x hx
  obtain ⟨h3, h4⟩ := itoa_bytes h1 h2 x hx
  refine ⟨?_, ?_, ?_, ?_, ?_⟩ <;> (rintro rfl; revert h3 h4; decide)

set_option maxHeartbeats 1000000 in
theorem rd_comp : ∀ (d : Nat) (c : Ct) (rest : List UInt8), c.good = true → c.depth ≤ d → Stop rest → rd d (c.text ++ rest) = some (c, rest) := by
  intro d
  induction d with
  | zero =>
    intro c rest hg hd hs
    obtain ⟨k, i, l, s, t, e, n⟩ := c
    rw [Ct.depth] at hd
    by_cases k0 : k = 0
    · subst k0
      have ha := (good_alike hg).1
      simp only [alike, noNum, if_true, Bool.and_eq_true, decide_eq_true_eq, List.isEmpty_iff] at ha
      obtain ⟨⟨⟨h1, h2⟩, ⟨h3, h4⟩, h5⟩, h6⟩ := ha
      have e1 := ba_empty (by rw [List.isEmpty_iff]; exact h1)
      have e2 := ba_empty (by rw [List.isEmpty_iff]; exact h2)
      subst e1; subst e2; subst h3; subst h4; subst h5; subst h6
      rw [text0, List.nil_append, rd, if_pos hs.stopR_of]; rfl
    · rw [if_neg k0] at hd; omega
  | succ d ih =>
    intro c rest hg hd hs
    obtain ⟨k, i, l, s, t, e, n⟩ := c
    have ha := (good_alike hg).1
    have hall := (good_alike hg).2
    rw [Ct.depth] at hd
    have hin : k ≠ 0 → ∀ x ∈ n, ∀ t, Stop t → rd d (x.text ++ t) = some (x, t) := by
      intro hk x hx u hu
      rw [if_neg hk] at hd
      have := mem_depth hx
      exact ih x u (List.all_eq_true.1 hall x hx) (by omega) hu
    simp only [alike, noNum, slotsOk, someIn] at ha
    by_cases k0 : k = 0
    · subst k0
      simp only [if_true, Bool.and_eq_true, decide_eq_true_eq, List.isEmpty_iff] at ha
      obtain ⟨⟨⟨h1, h2⟩, ⟨h3, h4⟩, h5⟩, h6⟩ := ha
      have e1 := ba_empty (by rw [List.isEmpty_iff]; exact h1)
      have e2 := ba_empty (by rw [List.isEmpty_iff]; exact h2)
      subst e1; subst e2; subst h3; subst h4; subst h5; subst h6
      rw [text0, List.nil_append, rd, if_pos hs.stopR_of]; rfl
    rw [if_neg k0] at ha
    by_cases k1 : k = 1
    · subst k1
      simp only [if_true, Bool.and_eq_true, decide_eq_true_eq, List.isEmpty_iff] at ha
      obtain ⟨⟨⟨h1, h2⟩, ⟨h3, h4⟩, h5⟩, h6⟩ := ha
      subst h3; subst h4; subst h5; subst h6
      obtain ⟨i1, i2⟩ := idOk_id h1
      obtain ⟨l1, l2⟩ := idOk_label (s := l) (by rw [Bool.or_eq_true]; simpa using h2)
      have hsp : spl 58 ([102, 115] ++ 58 :: (bl i ++ 58 :: bl l)) = [[102, 115], bl i, bl l] := by
        rw [spl_app (by decide), spl_app i1, spl_none l1]
      have hc : rHead (spl 58 ([102, 115] ++ 58 :: (bl i ++ 58 :: bl l))) = some (.mk 1 i l 0 0 0 []) := by rw [hsp, rHead1, baL_bl, baL_bl]
      have hh : ∀ x ∈ [102, 115] ++ 58 :: (bl i ++ 58 :: bl l), x ≠ 40 ∧ x ≠ 44 ∧ x ≠ 41 := by
        intro x hx
        simp only [List.mem_append, List.mem_cons, List.not_mem_nil, or_false] at hx
        rcases hx with (rfl | rfl) | rfl | hx | rfl | hx
        · decide
        · decide
        · decide
        · exact i2 x hx
        · decide
        · exact l2 x hx
      rw [text1]
      rcases hs with rfl | ⟨b, u, rfl, hb⟩
      · rw [List.append_nil, rd_open_end hh ⟨_, _, rfl⟩ hc]; rfl
      · rw [rd_open hh ⟨_, _, rfl⟩ (.inr hb) hc]; rfl
    rw [if_neg k1] at ha
    by_cases k2 : k = 2
    · subst k2
      simp only [if_true, Bool.and_eq_true, decide_eq_true_eq, List.isEmpty_iff] at ha
      obtain ⟨⟨⟨⟨⟨h1, h2⟩, ⟨⟨h3, h4⟩, h5⟩, h6⟩, h7⟩, h8⟩, h9⟩ := ha
      obtain ⟨i1, i2⟩ := idOk_id h1
      have el := ba_empty (by rw [List.isEmpty_iff]; exact h2)
      subst el
      have ds := dig_ne h5 (by omega : s ≤ 16)
      have dt := dig_ne h3 h4
      have de := dig_ne h7 (by omega : e ≤ 16)
      have hsl : spl 47 (Lib.itoa s ++ 47 :: (Lib.itoa t ++ 47 :: Lib.itoa e)) = [Lib.itoa s, Lib.itoa t, Lib.itoa e] := by
        rw [spl_app (fun x hx => (ds x hx).2.1), spl_app (fun x hx => (dt x hx).2.1), spl_none (fun x hx => (de x hx).2.1)]
      have hx58 : ∀ x ∈ Lib.itoa s ++ 47 :: (Lib.itoa t ++ 47 :: Lib.itoa e), x ≠ 58 := by
        intro x hx
        simp only [List.mem_append, List.mem_cons] at hx
        rcases hx with hx | rfl | hx | rfl | hx
        · exact (ds x hx).1
        · decide
        · exact (dt x hx).1
        · decide
        · exact (de x hx).1
      have hc : rHead (spl 58 ([114, 97, 105, 100] ++ 58 :: (bl i ++ 58 :: (Lib.itoa s ++ 47 :: (Lib.itoa t ++ 47 :: Lib.itoa e))))) = some (.mk 2 i ⟨#[]⟩ s t e []) := by
        rw [spl_app (by decide), spl_app i1, spl_none hx58, rHead2 _ _ _ _ _ hsl, baL_bl, rNum_itoa h5 (by omega), rNum_itoa h3 h4, rNum_itoa h7 (by omega)]
      have hh : ∀ x ∈ [114, 97, 105, 100] ++ 58 :: (bl i ++ 58 :: (Lib.itoa s ++ 47 :: (Lib.itoa t ++ 47 :: Lib.itoa e))), x ≠ 40 ∧ x ≠ 44 ∧ x ≠ 41 := by
        intro x hx
        simp only [List.mem_append, List.mem_cons, List.not_mem_nil, or_false] at hx
        rcases hx with (rfl | rfl | rfl | rfl) | rfl | hx | rfl | hx | rfl | hx | rfl | hx
        · decide
        · decide
        · decide
        · decide
        · decide
        · exact i2 x hx
        · decide
        · exact (ds x hx).2.2
        · decide
        · exact (dt x hx).2.2
        · decide
        · exact (de x hx).2.2
      have ht : (Ct.mk 2 i ⟨#[]⟩ s t e n).text ++ rest = ([114, 97, 105, 100] ++ 58 :: (bl i ++ 58 :: (Lib.itoa s ++ 47 :: (Lib.itoa t ++ 47 :: Lib.itoa e)))) ++ 40 :: (commas (n.map Ct.text) ++ 41 :: rest) := by
        rw [text2]; simp
      rw [ht, rd_open hh ⟨_, _, rfl⟩ (.inl rfl) hc, box_comp (by simp [Ct.kind]) (by rintro rfl; simp at h9) (hin (by decide))]
      rfl
    rw [if_neg k2] at ha
    by_cases k3 : k = 3
    · subst k3
      simp only [if_true, Bool.and_eq_true, decide_eq_true_eq, List.isEmpty_iff] at ha
      obtain ⟨⟨⟨h1, h2⟩, ⟨h3, h4⟩, h5⟩, h9⟩ := ha
      subst h3; subst h4; subst h5
      obtain ⟨i1, i2⟩ := idOk_id h1
      have el := ba_empty (by rw [List.isEmpty_iff]; exact h2)
      subst el
      have hc : rHead (spl 58 ([99, 114, 121, 112, 116] ++ 58 :: bl i)) = some (.mk 3 i ⟨#[]⟩ 0 0 0 []) := by
        rw [spl_app (by decide), spl_none i1, rHead3, baL_bl]
      have hh : ∀ x ∈ [99, 114, 121, 112, 116] ++ 58 :: bl i, x ≠ 40 ∧ x ≠ 44 ∧ x ≠ 41 := by
        intro x hx
        simp only [List.mem_append, List.mem_cons, List.not_mem_nil, or_false] at hx
        rcases hx with (rfl | rfl | rfl | rfl | rfl) | rfl | hx
        · decide
        · decide
        · decide
        · decide
        · decide
        · decide
        · exact i2 x hx
      have ht : (Ct.mk 3 i ⟨#[]⟩ 0 0 0 n).text ++ rest = ([99, 114, 121, 112, 116] ++ 58 :: bl i) ++ 40 :: (commas (n.map Ct.text) ++ 41 :: rest) := by
        rw [text3]; simp
      rw [ht, rd_open hh ⟨_, _, rfl⟩ (.inl rfl) hc, box_comp (by simp [Ct.kind]) (by rintro rfl; simp at h9) (hin (by decide))]
      rfl
    rw [if_neg k3] at ha
    by_cases k4 : k = 4
    · subst k4
      simp only [if_true, Bool.and_eq_true, decide_eq_true_eq, List.isEmpty_iff] at ha
      obtain ⟨⟨⟨⟨h1, h2⟩, ⟨⟨h3, h4⟩, h5⟩, h6⟩, h7⟩, h9, h10⟩ := ha
      subst h7
      obtain ⟨i1, i2⟩ := idOk_id h1
      have el := ba_empty (by rw [List.isEmpty_iff]; exact h2)
      subst el
      have ds := dig_ne h5 (by omega : s ≤ 16)
      have dt := dig_ne h3 h4
      have hsl : spl 47 (Lib.itoa s ++ 47 :: Lib.itoa t) = [Lib.itoa s, Lib.itoa t] := by
        rw [spl_app (fun x hx => (ds x hx).2.1), spl_none (fun x hx => (dt x hx).2.1)]
      have hx58 : ∀ x ∈ Lib.itoa s ++ 47 :: Lib.itoa t, x ≠ 58 := by
        intro x hx
        simp only [List.mem_append, List.mem_cons] at hx
        rcases hx with hx | rfl | hx
        · exact (ds x hx).1
        · decide
        · exact (dt x hx).1
      have hc : rHead (spl 58 ([112, 118] ++ 58 :: (bl i ++ 58 :: (Lib.itoa s ++ 47 :: Lib.itoa t)))) = some (.mk 4 i ⟨#[]⟩ s t 0 []) := by
        rw [spl_app (by decide), spl_app i1, spl_none hx58, rHead4 _ _ _ _ hsl, baL_bl, rNum_itoa h5 (by omega), rNum_itoa h3 h4]
      have hh : ∀ x ∈ [112, 118] ++ 58 :: (bl i ++ 58 :: (Lib.itoa s ++ 47 :: Lib.itoa t)), x ≠ 40 ∧ x ≠ 44 ∧ x ≠ 41 := by
        intro x hx
        simp only [List.mem_append, List.mem_cons, List.not_mem_nil, or_false] at hx
        rcases hx with (rfl | rfl) | rfl | hx | rfl | hx | rfl | hx
        · decide
        · decide
        · decide
        · exact i2 x hx
        · decide
        · exact (ds x hx).2.2
        · decide
        · exact (dt x hx).2.2
      have ht : (Ct.mk 4 i ⟨#[]⟩ s t 0 n).text ++ rest = ([112, 118] ++ 58 :: (bl i ++ 58 :: (Lib.itoa s ++ 47 :: Lib.itoa t))) ++ 40 :: (commas (n.map Ct.text) ++ 41 :: rest) := by
        rw [text4]; simp
      rw [ht, rd_open hh ⟨_, _, rfl⟩ (.inl rfl) hc, box_comp (by simp [Ct.kind]) (by rintro rfl; simp at h9) (hin (by decide))]
      rfl
    rw [if_neg k4] at ha
    by_cases k5 : k = 5
    · subst k5
      simp only [if_true, Bool.and_eq_true, decide_eq_true_eq, List.isEmpty_iff] at ha
      obtain ⟨⟨⟨h1, h2⟩, ⟨h3, h4⟩, h5⟩, h9, h10⟩ := ha
      subst h3; subst h4; subst h5
      obtain ⟨i1, i2⟩ := idOk_id h1
      have el := ba_empty (by rw [List.isEmpty_iff]; exact h2)
      subst el
      have hc : rHead (spl 58 ([116, 97, 98, 108, 101] ++ 58 :: bl i)) = some (.mk 5 i ⟨#[]⟩ 0 0 0 []) := by
        rw [spl_app (by decide), spl_none i1, rHead5, baL_bl]
      have hh : ∀ x ∈ [116, 97, 98, 108, 101] ++ 58 :: bl i, x ≠ 40 ∧ x ≠ 44 ∧ x ≠ 41 := by
        intro x hx
        simp only [List.mem_append, List.mem_cons, List.not_mem_nil, or_false] at hx
        rcases hx with (rfl | rfl | rfl | rfl | rfl) | rfl | hx
        · decide
        · decide
        · decide
        · decide
        · decide
        · decide
        · exact i2 x hx
      have ht : (Ct.mk 5 i ⟨#[]⟩ 0 0 0 n).text ++ rest = ([116, 97, 98, 108, 101] ++ 58 :: bl i) ++ 40 :: (commas (n.map Ct.text) ++ 41 :: rest) := by
        rw [text5]; simp
      rw [ht, rd_open hh ⟨_, _, rfl⟩ (.inl rfl) hc, box_comp (by simp [Ct.kind]) (by rintro rfl; simp at h9) (hin (by decide))]
      rfl
    rw [if_neg k5] at ha
    cases ha

theorem rParse_eq (s : ByteArray) : rParse s = parseC s := by
  apply Option.ext
  intro c
  show rParse s = some c ↔ parseC s = some c
  rw [parse_iff]
  unfold rParse
  constructor
  · intro h
    split at h
    · cases h
    · split at h
      · split at h
        · rename_i hv
          injection h with h; subst h
          exact ⟨by omega, hv.1, hv.2⟩
        · cases h
      · cases h
  · rintro ⟨h1, h2, h3⟩
    have hv := h2
    unfold Ct.valid at hv
    rw [Bool.and_eq_true, decide_eq_true_eq] at hv
    have := rd_comp 6 c [] hv.2 hv.1 (.inl rfl)
    rw [List.append_nil, h3] at this
    rw [if_neg (by omega), this]
    simp [h2, h3]
end Go.Proofs.YtcibciippghooaaGreatDoor
