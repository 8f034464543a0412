/- (*Queue).Free's closures; DeleteFunc over the second. -/
import Derived.Test.YtanaompgapiikaaGreatDoorP5
import Derived.Test.YtanaompgapiikaaGreatDoorL1
import Derived.Deep.Upon
namespace Go.Proofs.YtanaompgapiikaaGreatDoor
open Go.RowKit Go.Maps
set_option linter.unusedVariables false

/-- Where the first number stands of which p holds, or -1. -/
def fidx (p : Int → Bool) : List Int → Int
  | [] => -1
  | x :: t => if p x then 0 else if fidx p t < 0 then -1 else fidx p t + 1
theorem fidx_lo (p : Int → Bool) : ∀ l, -1 ≤ fidx p l ∧ fidx p l < l.length
  | [] => by simp [fidx]
  | x :: t => by
    have := fidx_lo p t
    unfold fidx
    split
    · simp only [List.length_cons]; omega
    · split <;> simp only [List.length_cons] <;> omega
theorem fidx_at (p : Int → Bool) : ∀ (l : List Int) (k : Nat) (x : Int), l[k]? = some x → p x = true → (∀ y ∈ l.take k, p y = false) → fidx p l = k
  | [], k, x, h, _, _ => by simp at h
  | y :: t, 0, x, h, e, _ => by simp at h; subst h; simp [fidx, e]
  | y :: t, k + 1, x, h, e, hn => by
    have h1 : p y = false := hn y (by simp)
    have h2 := fidx_at p t k x (by simpa using h) e (fun z hz => hn z (by simp [hz]))
    unfold fidx
    rw [h1, h2]
    simp; omega
theorem fidx_none (p : Int → Bool) : ∀ l : List Int, (∀ y ∈ l, p y = false) → fidx p l = -1
  | [], _ => rfl
  | y :: t, h => by
    unfold fidx
    rw [h y (by simp), fidx_none p t (fun z hz => h z (by simp [hz]))]
    simp

set_option maxHeartbeats 1000000 in
theorem free_index (p : Int → Bool) (bt bf : Nat) (la : Option Addr) (lc : Nat) (l : List Int) (w : World) (hc : ∀ (x : Int) (W : World), x ∈ l → Fr No w W → Calls Tryz.prog 64 #[.int .i64 x, .pointer (some ⟨bt, 0, none⟩), .pointer (some ⟨bf, 0, none⟩)] W fun e w' => e = .returned (.bool (p x)) ∧ Fr No W w') (hi : Ints w la lc l) :
    Calls Tryz.prog 108 #[.slice la l.length lc, .func (.func 64) #[] #[.pointer (some ⟨bt, 0, none⟩), .pointer (some ⟨bf, 0, none⟩)]] w fun e w' => e = .returned (.int .i64 (fidx p l)) ∧ Fr No w w' := by
  have hm := hi.lenmax
  have Hc := Lib.hid hc
  clear hc
  go_enter Tryz.func108, Tryz.ntmps108
  go_wp2_with fail
  go_loopw [8] (fun i wr => ∃ k : Nat, k ≤ l.length ∧ i = .int .i64 k ∧ Hid (∀ x ∈ l.take k, p x = false) ∧ Fr No w wr) (fun i _ => l.length - (intOf i).toNat)
  case atStart => exact ⟨0, by omega, rfl, by unfold Hid; simp, Fr.refl _ _⟩
  case round =>
    obtain ⟨k, hk, rfl, hno, hfr⟩ := hrel
    by_cases hlt : k < l.length
    · have hlt' : (k : Int) < l.length := by omega
      obtain ⟨bb, off, x, rfl, hx, hcx⟩ := (hi.no hfr (fun _ => id)).at hlt
      have Hx := Lib.hid hx
      clear hx
      go_wp2_with fail
      refine (Hc.out x _ (List.mem_of_getElem? Hx.out) hfr).mono ?_
      rintro e w1 ⟨rfl, hf1⟩
      have hfr1 := hfr.step hf1 (fun _ _ h => h)
      clear hcx
      cases hp : p x
      · have Hp := Lib.hid hp
        clear hp
        go_wp2_with fail
        go_roundw
        case rel =>
          refine ⟨k + 1, by omega, by go_num, ?_, hfr1⟩
          unfold Hid
          intro y hy
          rw [take_succ_mem Hx.out] at hy
          rcases List.mem_append.1 hy with h | h
          · exact hno.out y h
          · simp at h; subst h; exact Hp.out
        case measure => simp [intOf]; omega
      · have Hp := Lib.hid hp
        clear hp
        go_wp2_with fail
        go_ret
        exact ⟨ret_int (fidx_at _ l k x Hx.out Hp.out hno.out).symm, hfr1⟩
    · have h := hno.out
      rw [List.take_of_length_le (by omega)] at h
      have Hp : Hid (fidx p l = -1) := fidx_none _ _ h
      clear h
      go_wp2_with fail
      go_ret
      exact ⟨ret_int Hp.out.symm, hfr⟩

/-- What is no device of the tree. -/
def keepP (p : Int → Bool) (l : List Int) : List Int := l.filter fun x => !p x
theorem keepP_snoc {p : Int → Bool} {l : List Int} {k : Nat} {x : Int} (h : l[k]? = some x) : keepP p (l.take (k + 1)) = keepP p (l.take k) ++ (if p x then [] else [x]) := by
  unfold keepP
  rw [take_succ_mem h, List.filter_append]
  cases hp : p x <;> simp [hp]
theorem keepP_len (p : Int → Bool) (l : List Int) (k : Nat) : (keepP p (l.take k)).length ≤ k := Nat.le_trans (List.length_filter_le _ _) (List.length_take_le _ _)
theorem keepP_all {p : Int → Bool} {l : List Int} (h : ∀ y ∈ l, p y = false) : keepP p l = l := by
  unfold keepP; rw [List.filter_eq_self]; intro y hy; simp [h y hy]

/-- A store into a row of ints of the call's own. -/
theorem own_set {w : World} {base : Nat} {e : TypeId} {g n c i : Nat} {m : List Int} (h : w.ownsRow base e 1 (.slice (some ⟨g, 0, none⟩) n c) n (m.map (Value.int .i64))) (x : Int) :
    (w.setCell ⟨g, i, none⟩ (.int .i64 x)).ownsRow base e 1 (.slice (some ⟨g, 0, none⟩) n c) n (if i < n then (m.set i x).map (Value.int .i64) else m.map (Value.int .i64)) := by
  obtain ⟨h0, ⟨h1, _⟩ | ⟨g', cap, cur, h1, hg, hb, h2, h3, h4, h5⟩⟩ := h
  · cases h1
  · cases h1
    simp only [Nat.mul_one] at *
    have hl : m.length = n := by simpa using h0
    refine ⟨by split <;> simp [hl], .inr ⟨g, c, cur.setIfInBounds i (.int .i64 x), rfl, hg, block_setCell hb i _, h2, h3, by simpa using h4, ?_⟩⟩
    rw [Array.toList_setIfInBounds, Nat.mul_one]
    split
    · rename_i hi
      rw [List.map_set, ← h5, List.take_set]
    · rename_i hi
      rw [List.take_set_of_le (by omega), h5]
theorem Fr.setCells {b : Nat} {a : World} : ∀ {w : World} (h : Fr (Is b) a w) (vs : List Value) (o : Nat), Fr (Is b) a (w.setCells b o vs)
  | _, h, [], _ => h
  | _, h, v :: vs, o => Fr.setCells (h.setCell (p := ⟨b, o, none⟩) (fun _ => rfl) v) vs (o + 1)

theorem fidx_spec (p : Int → Bool) : ∀ l, (fidx p l = -1 ∧ ∀ y ∈ l, p y = false) ∨ ∃ (k : Nat) (x : Int), fidx p l = k ∧ l[k]? = some x ∧ p x = true ∧ ∀ y ∈ l.take k, p y = false
  | [] => .inl ⟨rfl, by simp⟩
  | x :: t => by
    cases hp : p x
    · rcases fidx_spec p t with ⟨h1, h2⟩ | ⟨k, y, h1, h2, h3, h4⟩
      · exact .inl ⟨by simp [fidx, hp, h1], fun y hy => by rcases List.mem_cons.1 hy with rfl | hy; exact hp; exact h2 y hy⟩
      · refine .inr ⟨k + 1, y, ?_, by simpa using h2, h3, fun z hz => ?_⟩
        · have : ¬ ((k : Int) < 0) := by omega
          simp [fidx, hp, h1, this]
        · simp only [List.take_succ_cons, List.mem_cons] at hz
          rcases hz with rfl | hz
          · exact hp
          · exact h4 z hz
    · exact .inr ⟨0, x, by simp [fidx, hp], rfl, hp, by simp⟩

theorem own_some {w : World} {base : Nat} {e : TypeId} {la : Option Addr} {n c : Nat} {xs : List Value} (h : w.ownsRow base e 1 (.slice la n c) n xs) (hn : 0 < n) : ∃ g, la = some ⟨g, 0, none⟩ ∧ base ≤ g ∧ n ≤ c ∧ c ≤ maxLen := by
  obtain ⟨_, ⟨h1, h2⟩ | ⟨g, cap, cur, h1, hg, hb, h2, h3, _⟩⟩ := h
  · omega
  · cases h1; exact ⟨g, rfl, hg, h2, h3⟩
theorem own_at {w : World} {base : Nat} {e : TypeId} {g n c j : Nat} {m : List Int} {x : Int} (h : w.ownsRow base e 1 (.slice (some ⟨g, 0, none⟩) n c) n (m.map (Value.int .i64))) (hx : m[j]? = some x) : w.cell? ⟨g, j, none⟩ = some (.int .i64 x) ∧ w.frozen? ⟨g, j, none⟩ = false := by
  obtain ⟨h0, ⟨h1, _⟩ | ⟨g', cap, cur, h1, hg, hb, h2, h3, h4, h5⟩⟩ := h
  · cases h1
  · cases h1
    have hl : m.length = n := by simpa using h0
    have hj : j < n := by rw [← hl]; exact (List.getElem?_eq_some_iff.1 hx).1
    refine ⟨?_, free_of_block hb j⟩
    rw [cell_of_block hb, ← Array.getElem?_toList]
    have e1 : (cur.toList.take (n * 1))[j]? = (m.map (Value.int .i64))[j]? := by rw [h5]
    rw [List.getElem?_take_of_lt (by omega)] at e1
    rw [e1]; simp [hx]

/-- What the loop of DeleteFunc has made of the row. -/
structure DInvP (p : Int → Bool) (l m : List Int) (i j : Nat) : Prop where
  len : m.length = l.length
  lo : m.take i = keepP p (l.take j)
  hi : m.drop j = l.drop j
  il : i = (keepP p (l.take j)).length
theorem DInvP.start {p : Int → Bool} {l : List Int} {k : Nat} {x : Int} (hx : l[k]? = some x) (hp : p x = true) (hn : ∀ y ∈ l.take k, p y = false) : DInvP p l l k (k + 1) := by
  have h1 : keepP p (l.take (k + 1)) = l.take k := by rw [keepP_snoc hx, keepP_all hn, hp]; simp
  have hk : k < l.length := (List.getElem?_eq_some_iff.1 hx).1
  exact ⟨rfl, h1.symm, rfl, by rw [h1]; simp; omega⟩
theorem drop_next {m l : List Int} {j : Nat} (h : m.drop j = l.drop j) : m.drop (j + 1) = l.drop (j + 1) := by
  have := congrArg (List.drop 1) h
  simpa [List.drop_drop] using this
theorem DInvP.at {p : Int → Bool} {l m : List Int} {i j : Nat} (h : DInvP p l m i j) {x : Int} (hx : l[j]? = some x) : m[j]? = some x := by
  have e : (m.drop j)[0]? = (l.drop j)[0]? := by rw [h.hi]
  simpa [hx] using e
theorem DInvP.skip {p : Int → Bool} {l m : List Int} {i j : Nat} (h : DInvP p l m i j) {x : Int} (hx : l[j]? = some x) (hp : p x = true) : DInvP p l m i (j + 1) := by
  have h1 : keepP p (l.take (j + 1)) = keepP p (l.take j) := by rw [keepP_snoc hx, hp]; simp
  exact ⟨h.len, by rw [h1]; exact h.lo, drop_next h.hi, by rw [h1]; exact h.il⟩
theorem DInvP.put {p : Int → Bool} {l m : List Int} {i j : Nat} (h : DInvP p l m i j) {x : Int} (hx : l[j]? = some x) (hp : p x = false) (hij : i < j) : DInvP p l (m.set i x) (i + 1) (j + 1) := by
  have hj : j < l.length := (List.getElem?_eq_some_iff.1 hx).1
  have h1 : keepP p (l.take (j + 1)) = keepP p (l.take j) ++ [x] := by rw [keepP_snoc hx, hp]; simp
  have hl := h.len
  refine ⟨by simp [hl], ?_, ?_, by rw [h1, List.length_append, ← h.il]; rfl⟩
  · rw [h1, ← h.lo, List.take_add_one, List.getElem?_set_self (by omega), List.take_set_of_le (Nat.le_refl i)]
    rfl
  · rw [List.drop_set, if_pos (by omega)]
    exact drop_next h.hi

set_option maxRecDepth 100000 in
set_option maxHeartbeats 2000000 in
theorem free_delete (p : Int → Bool) (bt bf B : Nat) (v : Value) (l : List Int) (w : World) (hc : ∀ (x : Int) (W : World), x ∈ l → Fr (From B) w W → Calls Tryz.prog 64 #[.int .i64 x, .pointer (some ⟨bt, 0, none⟩), .pointer (some ⟨bf, 0, none⟩)] W fun e w' => e = .returned (.bool (p x)) ∧ Fr No W w')
    (hown : w.ownsRow B 3 1 v l.length (l.map (Value.int .i64))) (hwf : ∀ x ∈ l, (Lit.int .i64 x).wf = true) (hln : l.length ≤ 1000000) :
    Calls Tryz.prog 62 #[v, .func (.func 64) #[] #[.pointer (some ⟨bt, 0, none⟩), .pointer (some ⟨bf, 0, none⟩)]] w fun e w' => (∃ a' c', e = .returned (.slice a' (keepP p l).length c') ∧ Ints w' a' c' (keepP p l) ∧ ∀ ad, a' = some ad → B ≤ ad.block) ∧ Fr (From B) w w' := by
  obtain ⟨la, lc, rfl, hI, hfresh⟩ := Ints.of_own hown hwf
  have Hc := Lib.hid hc
  clear hc
  go_enter Tryz.func62, Tryz.ntmps62
  go_wp2_with fail
  refine (free_index p bt bf la lc l _ (fun x W hx hW => Hc.out x W hx (hW.mono (fun _ _ h => h.elim))) hI).mono ?_
  rintro e w1 ⟨rfl, hf1⟩
  have hf1' : Fr (From B) w w1 := hf1.mono (fun _ _ h => h.elim)
  rcases fidx_spec (p) l with ⟨hfi, hall⟩ | ⟨k, x0, hfi, hx0, hp0, hn0⟩
  · rw [hfi]
    have Hal := Lib.hid (keepP_all hall)
    clear hfi hall
    go_wp2_with fail
    go_ret
    rw [Hal.out]
    exact ⟨⟨la, lc, rfl, hI.no hf1 (fun _ => id), hfresh⟩, hf1'⟩
  · rw [hfi]
    have hkl : k < l.length := (List.getElem?_eq_some_iff.1 hx0).1
    have hD0 := Lib.hid (DInvP.start hx0 hp0 hn0)
    obtain ⟨g, rfl, hg, hlc, hcm⟩ := own_some hown (by omega)
    have hown1 := ownsRow_fr hown hf1 (fun _ _ => id)
    have hkb : ((k : Int) == -1) = false := by simp
    clear hfi hx0 hp0 hn0 hown
    go_wp2_with fail
    go_loopw [5, 6] (fun iv jv wr => ∃ (i j : Nat) (m : List Int), iv = .int .i64 i ∧ jv = .int .i64 j ∧ i < j ∧ j ≤ l.length ∧ Hid (DInvP p l m i j) ∧ wr.ownsRow B 3 1 (.slice (some ⟨g, 0, none⟩) l.length lc) l.length (m.map (Value.int .i64)) ∧ Fr (From B) w wr) (fun _ jv _ => l.length - (intOf jv).toNat)
    case atStart => exact ⟨k, k + 1, l, rfl, by congr 1, by omega, by omega, hD0.out, hown1, hf1'⟩
    case round =>
      clear hown1 hD0 hkb hI
      obtain ⟨i, j, m, rfl, rfl, hij, hjl, HD, hown, hfr⟩ := hrel
      by_cases hlt : j < l.length
      · have hlt' : (j : Int) < l.length := by omega
        obtain ⟨x, hx⟩ : ∃ x, l[j]? = some x := ⟨l[j], List.getElem?_eq_getElem hlt⟩
        have hmx := own_at hown (HD.out.at hx)
        have hc := hmx.1
        have Hx := Lib.hid hx
        clear hx hmx
        go_wp2_with fail
        refine (Hc.out x wr (List.mem_of_getElem? Hx.out) hfr).mono ?_
        rintro e w2 ⟨rfl, hf2⟩
        have hfr2 := hfr.step hf2 (fun _ _ h => h.elim)
        have hown2 := ownsRow_fr hown hf2 (fun _ _ => id)
        clear hc hown
        cases hp : p x
        · have HD' := Lib.hid (HD.out.put Hx.out hp hij)
          have hml : i < m.length := by rw [HD.out.len]; omega
          obtain ⟨y, hy⟩ : ∃ y, m[i]? = some y := ⟨m[i], List.getElem?_eq_getElem hml⟩
          have hci := own_at hown2 hy
          have ci := hci.1
          have fi := hci.2
          have hos := own_set (i := i) hown2 x
          rw [if_pos (by omega)] at hos
          have hil : (i : Int) < l.length := by omega
          clear hp hy hci hown2
          go_wp2_with fail
          go_roundw
          case rel => exact ⟨i + 1, j + 1, _, by congr 1, by congr 1, by omega, by omega, HD'.out, hos, hfr2.step (Fr.setCell (S := Is g) (p := ⟨g, i, none⟩) (Fr.refl _ _) (fun _ => rfl) _) (fun b hb e => by unfold Is at e; unfold From; omega)⟩
          case measure => simp [intOf]; omega
        · have HD' := Lib.hid (HD.out.skip Hx.out hp)
          clear hp
          go_wp2_with fail
          go_roundw
          case rel => exact ⟨i, j + 1, m, rfl, by congr 1, by omega, by omega, HD'.out, hown2, hfr2⟩
          case measure => simp [intOf]; omega
      · obtain rfl : j = l.length := by omega
        have hcl : ∀ q, q < l.length → (wr.cell? ⟨g, q, none⟩).isSome = true ∧ wr.frozen? ⟨g, q, none⟩ = false := fun q hq => by
          have hq' : q < m.length := by rw [HD.out.len]; exact hq
          have := own_at hown (List.getElem?_eq_getElem hq')
          exact ⟨by rw [this.1]; rfl, this.2⟩
        have hclr : ∀ ty, (Builtin.clear_ #[22] ty #[.slice (some ⟨g, i, none⟩) (l.length - i) (lc - i)]).run Tryz.prog wr = .ok (.tuple #[]) (wr.setCells g i (List.replicate (l.length - i) (.int .i64 0))) := fun ty =>
          Lib.run_clear_slice wr 22 3 ty (.int .i64 0) Tryz.underlying22 (fun w => by kernel_rfl) rfl rfl g i (l.length - i) (lc - i) (by omega) (fun q hq => (hcl (i + q) (by omega)).1) (fun q hq => (hcl (i + q) (by omega)).2)
        have hne : ¬ lc = i := by omega
        have hil : i ≤ lc := by omega
        have hfin : Hid (Ints (wr.setCells g i (List.replicate (l.length - i) (.int .i64 0))) (some ⟨g, 0, none⟩) lc (keepP p l) ∧ i = (keepP p l).length ∧ Fr (From B) wr (wr.setCells g i (List.replicate (l.length - i) (.int .i64 0)))) := by
          have htk : l.take l.length = l := List.take_of_length_le (Nat.le_refl _)
          have hlo := HD.out.lo
          have hle := HD.out.il
          rw [htk] at hlo hle
          have hfx : Fr (Is g) wr (wr.setCells g i (List.replicate (l.length - i) (.int .i64 0))) := Fr.setCells (Fr.refl _ _) _ _
          refine ⟨⟨by omega, hcm, fun x hx => hwf x (List.mem_filter.1 hx).1, (fun e => by cases e), fun ad e hne => ?_⟩, hle, hfx.mono (fun b hb e => by unfold Is at e; unfold From; omega)⟩
          cases e
          have hgl : g < wr.heap.size := by
            obtain ⟨_, ⟨h1, _⟩ | ⟨g', cp, cur, h1, _, hb, _⟩⟩ := hown
            · cases h1
            · cases h1; exact lt_of_block hb
          refine ⟨rfl, Nat.lt_of_lt_of_le hgl hfx.size, fun q x hx => ?_⟩
          have hqi : q < i := by rw [hle]; exact (List.getElem?_eq_some_iff.1 hx).1
          rw [Nat.zero_add, World.cell?_setCells_out _ _ _ _ _ (fun _ _ => .inl hqi)]
          rw [← hlo, List.getElem?_take_of_lt hqi] at hx
          exact (own_at hown hx).1
        clear hcl hown
        go_wp2_with fail
        go_ret
        exact ⟨⟨some ⟨g, 0, none⟩, lc, by rw [← hfin.out.2.1]; rfl, hfin.out.1, fun ad e => by cases e; exact hg⟩, hfr.step hfin.out.2.2 (fun _ _ h => h)⟩
end Go.Proofs.YtanaompgapiikaaGreatDoor
