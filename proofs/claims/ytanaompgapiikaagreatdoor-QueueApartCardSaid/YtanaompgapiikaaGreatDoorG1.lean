/- maps.Clone, maps.Copy of sets. -/
import Derived.Test.YtanaompgapiikaaGreatDoorQ5
import Derived.Maps.RangeWalk
import Derived.Test.YtanaompgapiikaaGreatDoorG3
import Derived.Test.YtanaompgapiikaaGreatDoorI1
import Derived.Lib.SliceRun
import Derived.Test.YtanaompgapiikaaGreatDoorTB
import Derived.Deep.Upon
namespace Go.Proofs.YtanaompgapiikaaGreatDoor
open Go.RowKit Go.Maps Go.Sort Go.Shelf
set_option linter.unusedVariables false

theorem set_clone' (mb : Nat) (f : Int → Bool) (N : Nat) (w : World) (hs : ISet w mb f N) :
    Calls Tryz.prog 79 #[.map (some mb)] w fun e w' => ∃ b, e = .returned (.map (some b)) ∧ w.heap.size ≤ b ∧ ISet w' b f N ∧ Fr No w w' := by
  obtain ⟨D, n, hn, ⟨es, clock, hb, r⟩, hf⟩ := hs
  have hcon := AnyW.maps_Clone Tryz.cloneQ mb es clock w hb
  change Calls Tryz.prog 79 _ _ _ at hcon
  refine hcon.mono ?_
  rintro e w' ⟨rfl, rfl⟩
  exact ⟨_, rfl, Nat.le_refl _, ⟨D, n, hn, ⟨es, clock, block_alloc _ _, r⟩, hf⟩, (Fr.refl _ _).alloc _⟩

set_option maxRecDepth 100000 in
set_option maxHeartbeats 1000000 in
theorem set_copy (m1 m2 : Nat) (f1 f2 : Int → Bool) (N1 N2 : Nat) (w : World) (h1 : ISet w m1 f1 N1) (h2 : ISet w m2 f2 N2) (hne : m1 ≠ m2) (hN : N1 + N2 < maxLen) :
    Calls Tryz.prog 80 #[.map (some m1), .map (some m2)] w fun e w' => e = .returned (.tuple #[]) ∧ ISet w' m1 (fun x => f1 x || f2 x) (N1 + N2) ∧ Fr (Is m1) w w' := by
  obtain ⟨D, n, hn, ho, hf⟩ := h2
  have hsz := ho.size_le
  have hl1 := h1.lt
  have hl2 := ho.lt
  have Hf := Lib.hid hf
  clear hf
  go_enter Tryz.func80, Tryz.ntmps80
  go_wp2_with (at_range; refine wpList_range_own _ rfl _ 98 rfl 3 121 lawI Tryz.underlying98 _ m2 n _ rfl ho ?_; intro w0 hrg0 hg0 hs0)
  go_frame
  go_loopw [4] (fun _ wr => ∃ (left : Lit → Bool) (cnt : Nat) (g : Int → Bool), wr.ranges Tryz.prog 3 unitElem m2 w.heap.size n D left cnt ∧ cnt ≤ Maps.size D ∧ ISet wr m1 g (N1 + (Maps.size D - cnt)) ∧ Hid (∀ x, g x = (f1 x || (f2 x && !left (.int .i64 x)))) ∧ Hid (∀ z, left z = true → has D z = true) ∧ Fr (Is m1) w wr)
    (fun _ wr => wr.rangeLeft m2 w.heap.size)
  case atStart =>
    refine ⟨_, _, f1, hrg0, Nat.le_refl _, (h1.fr (Fr.of_grown_none hg0) id).mono (by omega), ?_, fun z hz => hz, (Fr.of_grown_none hg0).mono (fun _ _ h => h.elim)⟩
    intro x
    rw [Hf.out x]
    cases f1 x <;> cases f2 x <;> rfl
  case round =>
    obtain ⟨left, cnt, g, hrg, hcs, hS, Hg, Hl, hfr⟩ := hrel
    obtain ⟨D1, n1, hn1, ho1, hf1⟩ := hS
    have Hf1 := Lib.hid hf1
    clear hf1
    go_wp2_with (at_next; refine wpList_next_ranges _ rfl _ rfl 3 lawI unitElem (Value.int .i64) (fun (_ : Unit) => Value.agg #[]) (fun key kl h => by obtain ⟨x, rfl, _⟩ := Maps.keyOf_int_inv Tryz.underlying3 h; exact ⟨x, rfl⟩) (fun v y h => ⟨(), (unitElem_inv h).1⟩) m2 w.heap.size n D _ _ rfl hrg ?_ ?_)
    · intro hc0 hl0
      have Hl0 := Lib.hid hl0
      clear hl0 hc0
      go_wp2_with fail
      go_end0
      refine ⟨rfl, ⟨D1, n1, by omega, ho1, fun x => ?_⟩, hfr⟩
      rw [Hf1.out, Hg.out, Hl0.out]; simp
    · intro x c kl y w1 cnt1 hkey hlk hv hat hrg1 hlt hg1 hs1 hen
      obtain ⟨x', e1, rfl, hwx⟩ := Maps.keyOf_int_inv Tryz.underlying3 hkey
      obtain rfl : x = x' := by simpa using e1
      have Hlk := Lib.hid hlk
      have hrk := hrg1.alloc (.cells #[] 121)
      have ho2 := (ho1.kept hg1 (fun e => by have := Option.some.inj e; omega)).alloc (.cells #[] 121)
      have hfa : Fr (Is w.heap.size) wr (w1.alloc (.cells #[] 121)) := (Fr.of_grown_some hg1).alloc _
      have Hfa := Lib.hid hfa
      clear hlk hat hv e1 hfa
      go_wp2_with (at_mapUpdate; refine wpList_mapUpdate_own _ rfl _ _ _ 98 rfl 3 121 lawI Tryz.underlying98 _ m1 _ D1 rfl ho2 (by omega) _ _ _ rfl rfl hkey _ [] unitElem_mk ?_; intro w2 hown2 hg2; go_frame)
      have hrg2 := hrk.kept hg2 (fun e => by have := Option.some.inj e; omega) (fun e => by have := Option.some.inj e; omega)
      go_roundw
      case rel =>
        refine ⟨_, cnt1, fun y => g y || decide (y = x), hrg2, by omega, ⟨_, n1 + 1, by omega, hown2, fun y => ?_⟩, ?_, ?_, ?_⟩
        · by_cases hy : y = x
          · subst hy; rw [has_put_same ho1.isMap (isKeyInt _) _]; simp
          · rw [has_put_other (by intro e; exact hy (by simpa using e)), Hf1.out]; simp [hy]
        · intro y
          dsimp only
          rw [Hg.out]
          by_cases hy : y = x
          · subst hy
            have h1 : f2 y = true := by rw [← Hf.out]; exact Hl.out _ Hlk.out
            simp [h1, Lit.sameKey]
          · have h2 : (Lit.int .i64 y).sameKey (.int .i64 x) = false := by simp [Lit.sameKey, hy]
            rw [h2]; simp [hy]
        · intro z hz
          simp only [Bool.and_eq_true] at hz
          exact Hl.out z hz.1
        · exact (hfr.step Hfa.out (fun b hb e => by unfold Is at e; omega)).step (Fr.of_grown_some hg2) (fun b hb e => by unfold Is at *; omega)
      case measure => rw [hrg2.left_eq, hrg.left_eq]; exact hlt
end Go.Proofs.YtanaompgapiikaaGreatDoor
/- The closure of Gone; IndexFunc, DeleteFunc over it. -/
namespace Go.Proofs.YtanaompgapiikaaGreatDoor
open Go.RowKit Go.Maps
set_option linter.unusedVariables false

/-- Is there a device with this Index? -/
def hasD (ds : List Dev) (n : Int) : Bool := (look ds n).isSome

set_option maxRecDepth 100000 in
set_option maxHeartbeats 1000000 in
theorem gone_has (a : Option Addr) (cap : Nat) (ds : List Dev) (bt base : Nat) (n : Int) (w : World) (hl : Tr w base a cap ds) (hb : w.cell? ⟨bt, 0, none⟩ = some (.slice a ds.length cap)) :
    Calls Tryz.prog 81 #[.int .i64 n, .pointer (some ⟨bt, 0, none⟩)] w fun e w' => e = .returned (.bool (hasD ds n)) ∧ Fr No w w' := by
  go_enter Tryz.func81, Tryz.ntmps81
  go_wp2_with fail
  refine (tree_find a cap ds base n _ hl).mono ?_
  rintro e w1 ⟨⟨hlk, rfl⟩ | ⟨d, a', c', l, hlk, rfl, -, -, -, -⟩, hf1⟩
  · have H : Hid (hasD ds n = false) := by unfold Hid hasD; rw [hlk]; rfl
    clear hlk
    unfold Dev.vals Dev.zero
    go_wp2_with fail
    go_ret
    exact ⟨ret_bool H.out.symm, hf1.alloc _⟩
  · have H : Hid (hasD ds n = true) := by unfold Hid hasD; rw [hlk]; rfl
    clear hlk
    unfold Dev.vals
    go_wp2_with fail
    go_ret
    exact ⟨ret_bool H.out.symm, hf1.alloc _⟩

/-- Where the first number stands of which p holds, or -1. -/
def gidx (p : Int → Bool) : List Int → Int
  | [] => -1
  | x :: t => if p x then 0 else if gidx p t < 0 then -1 else gidx p t + 1
theorem gidx_lo (p : Int → Bool) : ∀ l, -1 ≤ gidx p l ∧ gidx p l < l.length
  | [] => by simp [gidx]
  | x :: t => by
    have := gidx_lo p t
    unfold gidx
    split
    · simp only [List.length_cons]; omega
    · split <;> simp only [List.length_cons] <;> omega
theorem gidx_at (p : Int → Bool) : ∀ (l : List Int) (k : Nat) (x : Int), l[k]? = some x → p x = true → (∀ y ∈ l.take k, p y = false) → gidx p l = k
  | [], k, x, h, _, _ => by simp at h
  | y :: t, 0, x, h, e, _ => by simp at h; subst h; simp [gidx, e]
  | y :: t, k + 1, x, h, e, hn => by
    have h1 : p y = false := hn y (by simp)
    have h2 := gidx_at p t k x (by simpa using h) e (fun z hz => hn z (by simp [hz]))
    unfold gidx
    rw [h1, h2]
    simp; omega
theorem gidx_none (p : Int → Bool) : ∀ l : List Int, (∀ y ∈ l, p y = false) → gidx p l = -1
  | [], _ => rfl
  | y :: t, h => by
    unfold gidx
    rw [h y (by simp), gidx_none p t (fun z hz => h z (by simp [hz]))]
    simp

set_option maxHeartbeats 1000000 in
theorem gone_index (a : Option Addr) (cap : Nat) (ds : List Dev) (bt base : Nat) (la : Option Addr) (lc : Nat) (l : List Int) (w : World) (hl : Tr w base a cap ds) (hb : w.cell? ⟨bt, 0, none⟩ = some (.slice a ds.length cap)) (hi : Ints w la lc l) :
    Calls Tryz.prog 108 #[.slice la l.length lc, .func (.func 81) #[] #[.pointer (some ⟨bt, 0, none⟩)]] w fun e w' => e = .returned (.int .i64 (gidx (hasD ds) l)) ∧ Fr No w w' := by
  have hm := hi.lenmax
  go_enter Tryz.func108, Tryz.ntmps108
  go_wp2_with fail
  go_loopw [8] (fun i wr => ∃ k : Nat, k ≤ l.length ∧ i = .int .i64 k ∧ Hid (∀ x ∈ l.take k, hasD ds x = false) ∧ Fr No w wr) (fun i _ => l.length - (intOf i).toNat)
  case atStart => exact ⟨0, by omega, rfl, by unfold Hid; simp, Fr.refl _ _⟩
  case round =>
    obtain ⟨k, hk, rfl, hno, hfr⟩ := hrel
    by_cases hlt : k < l.length
    · have hlt' : (k : Int) < l.length := by omega
      obtain ⟨bb, off, x, rfl, hx, hc⟩ := (hi.no hfr (fun _ => id)).at hlt
      have Hx := Lib.hid hx
      clear hx
      go_wp2_with fail
      refine (gone_has a cap ds bt base x _ (hl.no hfr) (hfr.cell hb id)).mono ?_
      rintro e w1 ⟨rfl, hf1⟩
      have hfr1 := hfr.step hf1 (fun _ _ h => h)
      clear hc
      cases hp : hasD ds x
      · have Hp := Lib.hid hp
        clear hp
        go_wp2_with fail
        go_roundw
        case rel =>
          refine ⟨k + 1, by omega, by go_num, ?_, hfr1⟩
          unfold Hid
          intro y hy
          rw [take_succ_mem Hx.out] at hy
          rcases List.mem_append.1 hy with h | h
          · exact hno.out y h
          · simp at h; subst h; exact Hp.out
        case measure => simp [intOf]; omega
      · have Hp := Lib.hid hp
        clear hp
        go_wp2_with fail
        go_ret
        exact ⟨ret_int (gidx_at _ l k x Hx.out Hp.out hno.out).symm, hfr1⟩
    · have h := hno.out
      rw [List.take_of_length_le (by omega)] at h
      have Hp : Hid (gidx (hasD ds) l = -1) := gidx_none _ _ h
      clear h
      go_wp2_with fail
      go_ret
      exact ⟨ret_int Hp.out.symm, hfr⟩

/-- What is no device of the tree. -/
def keepN (ds : List Dev) (l : List Int) : List Int := l.filter fun x => !hasD ds x
theorem keepN_snoc {ds : List Dev} {l : List Int} {k : Nat} {x : Int} (h : l[k]? = some x) : keepN ds (l.take (k + 1)) = keepN ds (l.take k) ++ (if hasD ds x then [] else [x]) := by
  unfold keepN
  rw [take_succ_mem h, List.filter_append]
  cases hp : hasD ds x <;> simp [hp]
theorem keepN_len (ds : List Dev) (l : List Int) (k : Nat) : (keepN ds (l.take k)).length ≤ k := Nat.le_trans (List.length_filter_le _ _) (List.length_take_le _ _)
theorem keepN_all {ds : List Dev} {l : List Int} (h : ∀ y ∈ l, hasD ds y = false) : keepN ds l = l := by
  unfold keepN; rw [List.filter_eq_self]; intro y hy; simp [h y hy]

/-- A store into a row of ints of the call's own. -/
theorem gown_set {w : World} {base : Nat} {e : TypeId} {g n c i : Nat} {m : List Int} (h : w.ownsRow base e 1 (.slice (some ⟨g, 0, none⟩) n c) n (m.map (Value.int .i64))) (x : Int) :
    (w.setCell ⟨g, i, none⟩ (.int .i64 x)).ownsRow base e 1 (.slice (some ⟨g, 0, none⟩) n c) n (if i < n then (m.set i x).map (Value.int .i64) else m.map (Value.int .i64)) := by
  obtain ⟨h0, ⟨h1, _⟩ | ⟨g', cap, cur, h1, hg, hb, h2, h3, h4, h5⟩⟩ := h
  · cases h1
  · cases h1
    simp only [Nat.mul_one] at *
    have hl : m.length = n := by simpa using h0
    refine ⟨by split <;> simp [hl], .inr ⟨g, c, cur.setIfInBounds i (.int .i64 x), rfl, hg, block_setCell hb i _, h2, h3, by simpa using h4, ?_⟩⟩
    rw [Array.toList_setIfInBounds, Nat.mul_one]
    split
    · rename_i hi
      rw [List.map_set, ← h5, List.take_set]
    · rename_i hi
      rw [List.take_set_of_le (by omega), h5]
end Go.Proofs.YtanaompgapiikaaGreatDoor
/- DeleteFunc over the closure of Gone; Gone. -/
namespace Go.Proofs.YtanaompgapiikaaGreatDoor
open Go.RowKit Go.Maps
set_option linter.unusedVariables false

theorem Fr.gsetCells {b : Nat} {a : World} : ∀ {w : World} (h : Fr (Is b) a w) (vs : List Value) (o : Nat), Fr (Is b) a (w.setCells b o vs)
  | _, h, [], _ => h
  | _, h, v :: vs, o => Fr.gsetCells (h.setCell (p := ⟨b, o, none⟩) (fun _ => rfl) v) vs (o + 1)

theorem gidx_spec (p : Int → Bool) : ∀ l, (gidx p l = -1 ∧ ∀ y ∈ l, p y = false) ∨ ∃ (k : Nat) (x : Int), gidx p l = k ∧ l[k]? = some x ∧ p x = true ∧ ∀ y ∈ l.take k, p y = false
  | [] => .inl ⟨rfl, by simp⟩
  | x :: t => by
    cases hp : p x
    · rcases gidx_spec p t with ⟨h1, h2⟩ | ⟨k, y, h1, h2, h3, h4⟩
      · exact .inl ⟨by simp [gidx, hp, h1], fun y hy => by rcases List.mem_cons.1 hy with rfl | hy; exact hp; exact h2 y hy⟩
      · refine .inr ⟨k + 1, y, ?_, by simpa using h2, h3, fun z hz => ?_⟩
        · have : ¬ ((k : Int) < 0) := by omega
          simp [gidx, hp, h1, this]
        · simp only [List.take_succ_cons, List.mem_cons] at hz
          rcases hz with rfl | hz
          · exact hp
          · exact h4 z hz
    · exact .inr ⟨0, x, by simp [gidx, hp], rfl, hp, by simp⟩

theorem gown_some {w : World} {base : Nat} {e : TypeId} {la : Option Addr} {n c : Nat} {xs : List Value} (h : w.ownsRow base e 1 (.slice la n c) n xs) (hn : 0 < n) : ∃ g, la = some ⟨g, 0, none⟩ ∧ base ≤ g ∧ n ≤ c ∧ c ≤ maxLen := by
  obtain ⟨_, ⟨h1, h2⟩ | ⟨g, cap, cur, h1, hg, hb, h2, h3, _⟩⟩ := h
  · omega
  · cases h1; exact ⟨g, rfl, hg, h2, h3⟩
theorem gown_at {w : World} {base : Nat} {e : TypeId} {g n c j : Nat} {m : List Int} {x : Int} (h : w.ownsRow base e 1 (.slice (some ⟨g, 0, none⟩) n c) n (m.map (Value.int .i64))) (hx : m[j]? = some x) : w.cell? ⟨g, j, none⟩ = some (.int .i64 x) ∧ w.frozen? ⟨g, j, none⟩ = false := by
  obtain ⟨h0, ⟨h1, _⟩ | ⟨g', cap, cur, h1, hg, hb, h2, h3, h4, h5⟩⟩ := h
  · cases h1
  · cases h1
    have hl : m.length = n := by simpa using h0
    have hj : j < n := by rw [← hl]; exact (List.getElem?_eq_some_iff.1 hx).1
    refine ⟨?_, free_of_block hb j⟩
    rw [cell_of_block hb, ← Array.getElem?_toList]
    have e1 : (cur.toList.take (n * 1))[j]? = (m.map (Value.int .i64))[j]? := by rw [h5]
    rw [List.getElem?_take_of_lt (by omega)] at e1
    rw [e1]; simp [hx]

/-- What the loop of DeleteFunc has made of the row. -/
structure DInv (ds : List Dev) (l m : List Int) (i j : Nat) : Prop where
  len : m.length = l.length
  lo : m.take i = keepN ds (l.take j)
  hi : m.drop j = l.drop j
  il : i = (keepN ds (l.take j)).length
theorem DInv.start {ds : List Dev} {l : List Int} {k : Nat} {x : Int} (hx : l[k]? = some x) (hp : hasD ds x = true) (hn : ∀ y ∈ l.take k, hasD ds y = false) : DInv ds l l k (k + 1) := by
  have h1 : keepN ds (l.take (k + 1)) = l.take k := by rw [keepN_snoc hx, keepN_all hn, hp]; simp
  have hk : k < l.length := (List.getElem?_eq_some_iff.1 hx).1
  exact ⟨rfl, h1.symm, rfl, by rw [h1]; simp; omega⟩
theorem gdrop_next {m l : List Int} {j : Nat} (h : m.drop j = l.drop j) : m.drop (j + 1) = l.drop (j + 1) := by
  have := congrArg (List.drop 1) h
  simpa [List.drop_drop] using this
theorem DInv.at {ds : List Dev} {l m : List Int} {i j : Nat} (h : DInv ds l m i j) {x : Int} (hx : l[j]? = some x) : m[j]? = some x := by
  have e : (m.drop j)[0]? = (l.drop j)[0]? := by rw [h.hi]
  simpa [hx] using e
theorem DInv.skip {ds : List Dev} {l m : List Int} {i j : Nat} (h : DInv ds l m i j) {x : Int} (hx : l[j]? = some x) (hp : hasD ds x = true) : DInv ds l m i (j + 1) := by
  have h1 : keepN ds (l.take (j + 1)) = keepN ds (l.take j) := by rw [keepN_snoc hx, hp]; simp
  exact ⟨h.len, by rw [h1]; exact h.lo, gdrop_next h.hi, by rw [h1]; exact h.il⟩
theorem DInv.put {ds : List Dev} {l m : List Int} {i j : Nat} (h : DInv ds l m i j) {x : Int} (hx : l[j]? = some x) (hp : hasD ds x = false) (hij : i < j) : DInv ds l (m.set i x) (i + 1) (j + 1) := by
  have hj : j < l.length := (List.getElem?_eq_some_iff.1 hx).1
  have h1 : keepN ds (l.take (j + 1)) = keepN ds (l.take j) ++ [x] := by rw [keepN_snoc hx, hp]; simp
  have hl := h.len
  refine ⟨by simp [hl], ?_, ?_, by rw [h1, List.length_append, ← h.il]; rfl⟩
  · rw [h1, ← h.lo, List.take_add_one, List.getElem?_set_self (by omega), List.take_set_of_le (Nat.le_refl i)]
    rfl
  · rw [List.drop_set, if_pos (by omega)]
    exact gdrop_next h.hi

set_option maxRecDepth 100000 in
set_option maxHeartbeats 2000000 in
theorem gone_delete (a : Option Addr) (cap : Nat) (ds : List Dev) (bt base B : Nat) (v : Value) (l : List Int) (w : World) (hkeep : ∀ W, Fr (From B) w W → Tr W base a cap ds ∧ W.cell? ⟨bt, 0, none⟩ = some (.slice a ds.length cap))
    (hown : w.ownsRow B 3 1 v l.length (l.map (Value.int .i64))) (hwf : ∀ x ∈ l, (Lit.int .i64 x).wf = true) (hln : l.length ≤ 1000000) :
    Calls Tryz.prog 62 #[v, .func (.func 81) #[] #[.pointer (some ⟨bt, 0, none⟩)]] w fun e w' => (∃ a' c', e = .returned (.slice a' (keepN ds l).length c') ∧ Ints w' a' c' (keepN ds l) ∧ ∀ ad, a' = some ad → B ≤ ad.block) ∧ Fr (From B) w w' := by
  obtain ⟨la, lc, rfl, hI, hfresh⟩ := Ints.of_own hown hwf
  have Hk := Lib.hid hkeep
  have hk0 := hkeep w (Fr.refl _ _)
  clear hkeep
  go_enter Tryz.func62, Tryz.ntmps62
  go_wp2_with fail
  refine (gone_index a cap ds bt base la lc l _ hk0.1 hk0.2 hI).mono ?_
  rintro e w1 ⟨rfl, hf1⟩
  have hf1' : Fr (From B) w w1 := hf1.mono (fun _ _ h => h.elim)
  rcases gidx_spec (hasD ds) l with ⟨hfi, hall⟩ | ⟨k, x0, hfi, hx0, hp0, hn0⟩
  · rw [hfi]
    have Hal := Lib.hid (keepN_all hall)
    clear hfi hall hk0
    go_wp2_with fail
    go_ret
    rw [Hal.out]
    exact ⟨⟨la, lc, rfl, hI.no hf1 (fun _ => id), hfresh⟩, hf1'⟩
  · rw [hfi]
    have hkl : k < l.length := (List.getElem?_eq_some_iff.1 hx0).1
    have hD0 := Lib.hid (DInv.start hx0 hp0 hn0)
    obtain ⟨g, rfl, hg, hlc, hcm⟩ := gown_some hown (by omega)
    have hown1 := ownsRow_fr hown hf1 (fun _ _ => id)
    have hkb : ((k : Int) == -1) = false := by simp
    clear hfi hx0 hp0 hn0 hk0 hown
    go_wp2_with fail
    go_loopw [5, 6] (fun iv jv wr => ∃ (i j : Nat) (m : List Int), iv = .int .i64 i ∧ jv = .int .i64 j ∧ i < j ∧ j ≤ l.length ∧ Hid (DInv ds l m i j) ∧ wr.ownsRow B 3 1 (.slice (some ⟨g, 0, none⟩) l.length lc) l.length (m.map (Value.int .i64)) ∧ Fr (From B) w wr) (fun _ jv _ => l.length - (intOf jv).toNat)
    case atStart => exact ⟨k, k + 1, l, rfl, by congr 1, by omega, by omega, hD0.out, hown1, hf1'⟩
    case round =>
      clear hown1 hD0 hkb hI
      obtain ⟨i, j, m, rfl, rfl, hij, hjl, HD, hown, hfr⟩ := hrel
      by_cases hlt : j < l.length
      · have hlt' : (j : Int) < l.length := by omega
        obtain ⟨x, hx⟩ : ∃ x, l[j]? = some x := ⟨l[j], List.getElem?_eq_getElem hlt⟩
        have hmx := gown_at hown (HD.out.at hx)
        have hc := hmx.1
        have Hx := Lib.hid hx
        have hk1 := Hk.out wr hfr
        clear hx hmx
        go_wp2_with fail
        refine (gone_has a cap ds bt base x _ hk1.1 hk1.2).mono ?_
        rintro e w2 ⟨rfl, hf2⟩
        have hfr2 := hfr.step hf2 (fun _ _ h => h.elim)
        have hown2 := ownsRow_fr hown hf2 (fun _ _ => id)
        clear hc hk1 hown
        cases hp : hasD ds x
        · have HD' := Lib.hid (HD.out.put Hx.out hp hij)
          have hml : i < m.length := by rw [HD.out.len]; omega
          obtain ⟨y, hy⟩ : ∃ y, m[i]? = some y := ⟨m[i], List.getElem?_eq_getElem hml⟩
          have hci := gown_at hown2 hy
          have ci := hci.1
          have fi := hci.2
          have hos := gown_set (i := i) hown2 x
          rw [if_pos (by omega)] at hos
          have hil : (i : Int) < l.length := by omega
          clear hp hy hci hown2
          go_wp2_with fail
          go_roundw
          case rel => exact ⟨i + 1, j + 1, _, by congr 1, by congr 1, by omega, by omega, HD'.out, hos, hfr2.step (Fr.setCell (S := Is g) (p := ⟨g, i, none⟩) (Fr.refl _ _) (fun _ => rfl) _) (fun b hb e => by unfold Is at e; unfold From; omega)⟩
          case measure => simp [intOf]; omega
        · have HD' := Lib.hid (HD.out.skip Hx.out hp)
          clear hp
          go_wp2_with fail
          go_roundw
          case rel => exact ⟨i, j + 1, m, rfl, by congr 1, by omega, by omega, HD'.out, hown2, hfr2⟩
          case measure => simp [intOf]; omega
      · obtain rfl : j = l.length := by omega
        have hcl : ∀ q, q < l.length → (wr.cell? ⟨g, q, none⟩).isSome = true ∧ wr.frozen? ⟨g, q, none⟩ = false := fun q hq => by
          have hq' : q < m.length := by rw [HD.out.len]; exact hq
          have := gown_at hown (List.getElem?_eq_getElem hq')
          exact ⟨by rw [this.1]; rfl, this.2⟩
        have hclr : ∀ ty, (Builtin.clear_ #[22] ty #[.slice (some ⟨g, i, none⟩) (l.length - i) (lc - i)]).run Tryz.prog wr = .ok (.tuple #[]) (wr.setCells g i (List.replicate (l.length - i) (.int .i64 0))) := fun ty =>
          Lib.run_clear_slice wr 22 3 ty (.int .i64 0) Tryz.underlying22 (fun w => by kernel_rfl) rfl rfl g i (l.length - i) (lc - i) (by omega) (fun q hq => (hcl (i + q) (by omega)).1) (fun q hq => (hcl (i + q) (by omega)).2)
        have hne : ¬ lc = i := by omega
        have hil : i ≤ lc := by omega
        have hfin : Hid (Ints (wr.setCells g i (List.replicate (l.length - i) (.int .i64 0))) (some ⟨g, 0, none⟩) lc (keepN ds l) ∧ i = (keepN ds l).length ∧ Fr (From B) wr (wr.setCells g i (List.replicate (l.length - i) (.int .i64 0)))) := by
          have htk : l.take l.length = l := List.take_of_length_le (Nat.le_refl _)
          have hlo := HD.out.lo
          have hle := HD.out.il
          rw [htk] at hlo hle
          have hfx : Fr (Is g) wr (wr.setCells g i (List.replicate (l.length - i) (.int .i64 0))) := Fr.gsetCells (Fr.refl _ _) _ _
          refine ⟨⟨by omega, hcm, fun x hx => hwf x (List.mem_filter.1 hx).1, (fun e => by cases e), fun ad e hne => ?_⟩, hle, hfx.mono (fun b hb e => by unfold Is at e; unfold From; omega)⟩
          cases e
          have hgl : g < wr.heap.size := by
            obtain ⟨_, ⟨h1, _⟩ | ⟨g', cp, cur, h1, _, hb, _⟩⟩ := hown
            · cases h1
            · cases h1; exact lt_of_block hb
          refine ⟨rfl, Nat.lt_of_lt_of_le hgl hfx.size, fun q x hx => ?_⟩
          have hqi : q < i := by rw [hle]; exact (List.getElem?_eq_some_iff.1 hx).1
          rw [Nat.zero_add, World.cell?_setCells_out _ _ _ _ _ (fun _ _ => .inl hqi)]
          rw [← hlo, List.getElem?_take_of_lt hqi] at hx
          exact (gown_at hown hx).1
        clear hcl hown
        go_wp2_with fail
        go_ret
        exact ⟨⟨some ⟨g, 0, none⟩, lc, by rw [← hfin.out.2.1]; rfl, hfin.out.1, fun ad e => by cases e; exact hg⟩, hfr.step hfin.out.2.2 (fun _ _ h => h)⟩
end Go.Proofs.YtanaompgapiikaaGreatDoor
/- Gone: the walk. -/
namespace Go.Proofs.YtanaompgapiikaaGreatDoor
open Go.RowKit Go.Maps Go.Sort Go.Shelf
set_option linter.unusedVariables false

set_option maxRecDepth 100000 in
set_option maxHeartbeats 2000000 in
theorem q_gone (qb b1 b2 : Nat) (f g : Int → Bool) (N : Nat) (a : Option Addr) (cap : Nat) (ds : List Dev) (base : Nat) (w : World) (hq : Que w qb b1 b2 f g N) (hN : N ≤ 100000) (hl : Tr w base a cap ds) :
    Calls Tryz.prog 30 #[.pointer (some ⟨qb, 0, none⟩), .agg #[.slice a ds.length cap]] w fun e w' => (∃ a' c' m, e = .returned (.slice a' m.length c') ∧ Ints w' a' c' m ∧ Asc m ∧ (∀ x, x ∈ m ↔ (f x || g x) = true ∧ hasD ds x = false)) ∧ Fr No w w' := by
  have hx : Fr No w (w.alloc (.cells #[.slice a ds.length cap] 25)) := (Fr.refl _ _).alloc _
  have hbx := block_alloc w (.cells #[.slice a ds.length cap] 25)
  have hqx := hq.fr hx id id id
  go_enter Tryz.func30, Tryz.ntmps30
  go_upto_region 1 with (fail)
  generalize w.alloc (.cells #[.slice a ds.length cap] 25) = W0 at *
  have hb0 := lt_of_block hbx
  have c0 := hqx.c0
  go_wp2_with fail
  refine (set_clone' b1 f N _ hqx.dirty).mono ?_
  rintro e w1 ⟨b, rfl, hle, hs1, hf1⟩
  have hq1 := hqx.fr hf1 id id id
  have c1 := hq1.c1
  have hb2 := hqx.busy.lt
  clear c0
  go_wp2_with fail
  refine (set_copy b b2 f g N N _ hs1 hq1.busy (by omega) (by unfold maxLen; omega)).mono ?_
  rintro e w2 ⟨rfl, hs2, hf2⟩
  have hfr2 : Fr No w w2 := (hx.step hf1 (fun _ _ h => h)).step hf2 (fun k hk e => by unfold Is at e; omega)
  have hbk2 := hf2.heap (hf1.heap hbx id) (fun e => by unfold Is at e; omega)
  clear c1
  go_wp2_with fail
  refine (set_list_own b _ _ _ hs2 (by omega)).mono ?_
  rintro e w3 ⟨v, l, rfl, hown, hasc, hmem, hwf, hlen, hf3⟩
  have hfr3 := hfr2.step hf3 (fun _ _ h => h)
  have hbk3 := hf3.heap hbk2 id
  have hw2 : w.heap.size < w2.heap.size := lt_of_block hbk2
  go_wp2_with fail
  refine (gone_delete a cap ds w.heap.size base w2.heap.size v l _ (fun W hW => ⟨hl.no (hfr3.step hW (fun k hk e => by unfold From at e; omega)), cell_of_block (hW.heap hbk3 (by unfold From; omega)) 0⟩) hown hwf (by omega)).mono ?_
  rintro e w4 ⟨⟨a', c', rfl, hI, hfresh⟩, hf4⟩
  go_wp2_with fail
  go_ret
  refine ⟨⟨a', c', keepN ds l, rfl, hI, List.Pairwise.sublist List.filter_sublist hasc, fun x => ?_⟩, hfr3.step hf4 (fun k hk e => by unfold From at e; omega)⟩
  unfold keepN
  rw [List.mem_filter, hmem]
  simp
end Go.Proofs.YtanaompgapiikaaGreatDoor
