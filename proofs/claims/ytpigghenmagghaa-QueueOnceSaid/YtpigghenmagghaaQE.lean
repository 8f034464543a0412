/- QueueOnce: the walk. -/
import Derived.Test.YtpigghenmagghaaQB
import Derived.Test.YtpigghenmagghaaBM
namespace Go.Proofs.Ytpigghenmagghaa
open Go.RowKit Go.Maps Go.Sort Go.Shelf
set_option linter.unusedVariables false

/-- Every number of f lies in 1 to 6. -/
def Six (f : Int → Bool) : Prop := ∀ x, f x = true → 1 ≤ x ∧ x ≤ 6
theorem Six.upd {f : Int → Bool} (h : Six f) {x : Int} (b : Bool) (h1 : 1 ≤ x) (h2 : x ≤ 6) : Six (upd f x b) := by
  intro y hy
  unfold Go.Proofs.Ytpigghenmagghaa.upd at hy
  split at hy
  · omega
  · exact h y hy
theorem Six.mark {f f' : Int → Bool} {x er : Int} (h : Six f) (h1 : 1 ≤ x) (h2 : x ≤ 6) (m : MarkTo f x er f') : Six f' := by
  rcases m with ⟨_, _, _, rfl⟩ | ⟨_, _, rfl⟩
  · exact h.upd _ h1 h2
  · exact h
theorem upd_id {f : Int → Bool} {x : Int} {b : Bool} (h : f x = b) : upd f x b = f := by
  funext y
  unfold upd
  split
  · rename_i e; subst e; exact h.symm
  · rfl

/-- What the loops keep. -/
structure Sx (w W : World) (k qb b1 b2 mb : Nat) (f g : Int → Bool) (N M : Nat) : Prop where
  que : Que W qb b1 b2 f g N
  tape : Tape W w.heap.size w.heap.size k
  map : BMap W mb g M
  fr : Fr (From w.heap.size) w W
  six1 : Six f
  six2 : Six g
  t0 : w.heap.size ≠ qb
  t1 : w.heap.size < b1
  t2 : w.heap.size < b2
  m0 : mb ≠ qb
  m1 : mb ≠ b1
  m2 : mb ≠ b2
  m3 : w.heap.size < mb

theorem Sx.next {w W W' : World} {k qb b1 b2 mb N M : Nat} {f g : Int → Bool} (h : Sx w W k qb b1 b2 mb f g N M) (ht : Tape W' w.heap.size w.heap.size (k + 1)) (hf : Fr (Is w.heap.size) W W') : Sx w W' (k + 1) qb b1 b2 mb f g N M := by
  have h0 := h.t0; have h1 := h.t1; have h2 := h.t2; have h3 := h.m3
  exact ⟨h.que.fr hf (fun e => by unfold Is at e; omega) (fun e => by unfold Is at e; omega) (fun e => by unfold Is at e; omega), ht, h.map.fr hf (fun e => by unfold Is at e; omega), h.fr.step hf (fun b _ e => by unfold Is at e; unfold From; omega), h.six1, h.six2, h0, h1, h2, h.m0, h.m1, h.m2, h3⟩
/-- Behind a method of the queue that leaves busy as it was. -/
theorem Sx.two {w W W' : World} {k qb b1 b2 mb N M N' : Nat} {f g f' : Int → Bool} (h : Sx w W k qb b1 b2 mb f g N M) (hq : Que W' qb b1 b2 f' g N') (hf : Fr (Two b1 b2) W W') (s1 : Six f') : Sx w W' k qb b1 b2 mb f' g N' M := by
  have h0 := h.t0; have h1 := h.t1; have h2 := h.t2; have h3 := h.m3; have e1 := h.m1; have e2 := h.m2
  exact ⟨hq, h.tape.fr hf (fun b hb e => by unfold Two at e; omega) (fun e => by unfold Two at e; omega), h.map.fr hf (fun e => by unfold Two at e; omega), h.fr.step hf (fun b _ e => by unfold Two at e; unfold From; omega), s1, h.six2, h0, h1, h2, h.m0, h.m1, h.m2, h3⟩
/-- .. and one that turns busy, with the map turned behind it. -/
theorem Sx.three {w W W' W'' : World} {k qb b1 b2 mb N M N' M' : Nat} {f g f' g' : Int → Bool} (h : Sx w W k qb b1 b2 mb f g N M) (hq : Que W' qb b1 b2 f' g' N') (hf : Fr (Two b1 b2) W W') (s1 : Six f') (s2 : Six g')
    (hb : BMap W'' mb g' M') (hx : Fr (Is mb) W' W'') : Sx w W'' k qb b1 b2 mb f' g' N' M' := by
  have h0 := h.t0; have h1 := h.t1; have h2 := h.t2; have h3 := h.m3; have e0 := h.m0; have e1 := h.m1; have e2 := h.m2
  exact ⟨hq.fr hx (fun e => by unfold Is at e; omega) (fun e => by unfold Is at e; omega) (fun e => by unfold Is at e; omega), (h.tape.fr hf (fun b hb e => by unfold Two at e; omega) (fun e => by unfold Two at e; omega)).fr hx (fun b hb e => by unfold Is at e; omega) (fun e => by unfold Is at e; omega),
    hb, (h.fr.step hf (fun b _ e => by unfold Two at e; unfold From; omega)).step hx (fun b _ e => by unfold Is at e; unfold From; omega), s1, s2, h0, h1, h2, e0, e1, e2, h3⟩

theorem asc_inj {l : List Int} (h : Asc l) {i k : Nat} {x : Int} (h1 : l[i]? = some x) (h2 : l[k]? = some x) : i = k := by
  have hn : l.Nodup := h.imp (fun h => by omega)
  have hi : i < l.length := by
    rcases Nat.lt_or_ge i l.length with h | h
    · exact h
    · rw [List.getElem?_eq_none h] at h1; cases h1
  exact (List.getElem?_inj hi hn).1 (h1.trans h2.symm)
theorem asc_len (hi : Int) : ∀ (l : List Int) (lo : Int), Asc l → (∀ x ∈ l, lo ≤ x ∧ x ≤ hi) → lo ≤ hi + 1 → (l.length : Int) ≤ hi + 1 - lo
  | [], lo, _, _, h => by simp; omega
  | x :: t, lo, ha, hb, h => by
    have h1 := hb x (by simp)
    have h2 := asc_len hi t (x + 1) (List.Pairwise.of_cons ha) (fun y hy => by
      have h3 := List.rel_of_pairwise_cons ha hy
      have h4 := hb y (by simp [hy])
      omega) (by omega)
    simp only [List.length_cons]
    omega
theorem drop_step {l : List Int} {f : Int → Bool} {j : Nat} {x : Int} (h : Asc l) (hx : l[j]? = some x) (hf : ∀ y, f y = true ↔ ∃ i, j ≤ i ∧ l[i]? = some y) : ∀ y, upd f x false y = true ↔ ∃ i, j + 1 ≤ i ∧ l[i]? = some y := by
  intro y
  unfold upd
  split
  · rename_i e; subst e
    simp only [Bool.false_eq_true, false_iff]
    rintro ⟨i, hi, h2⟩
    have := asc_inj h hx h2
    omega
  · rename_i e
    rw [hf y]
    constructor
    · rintro ⟨i, hi, h2⟩
      refine ⟨i, ?_, h2⟩
      rcases Nat.lt_or_ge j i with h3 | h3
      · omega
      · have e2 : i = j := by omega
        subst e2; rw [hx] at h2; cases h2; exact (e rfl).elim
    · rintro ⟨i, hi, h2⟩; exact ⟨i, by omega, h2⟩
theorem take_step {l : List Int} {f : Int → Bool} {j : Nat} {x : Int} (hx : l[j]? = some x) (hf : ∀ y, f y = true ↔ ∃ i, i < j ∧ l[i]? = some y) : ∀ y, upd f x true y = true ↔ ∃ i, i < j + 1 ∧ l[i]? = some y := by
  intro y
  unfold upd
  split
  · rename_i e; subst e
    simp only [true_iff]
    exact ⟨j, by omega, hx⟩
  · rename_i e
    rw [hf y]
    constructor
    · rintro ⟨i, hi, h2⟩; exact ⟨i, by omega, h2⟩
    · rintro ⟨i, hi, h2⟩
      refine ⟨i, ?_, h2⟩
      rcases Nat.lt_or_ge i j with h3 | h3
      · exact h3
      · have e2 : i = j := by omega
        subst e2; rw [hx] at h2; cases h2; exact (e rfl).elim

set_option maxRecDepth 100000 in
set_option maxHeartbeats 8000000 in
theorem once_walk (a : Option Addr) (cap : Nat) (l : List Int) (w : World) (hl : Ints w a cap l) :
    Calls Try.prog 4 #[.slice a l.length cap] w fun e w' => e = .returned (.bool true) ∧ Fr (From w.heap.size) w w' := by
  have hmm := @run_makeMap Try.prog
  have HT := Lib.hid (Tape.new hl 25)
  have hf0 := (Fr.refl (From w.heap.size) w).alloc (.cells #[.slice a l.length cap, .int .i64 0] 25)
  go_enter Try.func4, Try.ntmps4
  go_wp2_with fail
  refine (q_new _).mono ?_
  rintro e w1 ⟨qb, b1, b2, rfl, h0, h1, h2, hq1, hf1⟩
  have hsz : (w.alloc (.cells #[.slice a l.length cap, .int .i64 0] 25)).heap.size = w.heap.size + 1 := by simp
  rw [hsz] at h0 h1 h2
  have hst : Sx w (w1.alloc (.map #[] 0)) 0 qb b1 b2 w1.heap.size (fun _ => false) (fun _ => false) 0 0 := by
    have hw1 : w.heap.size + 1 ≤ w1.heap.size := by have := hf1.size; rwa [World.size_alloc] at this
    have hx : Fr No w1 (w1.alloc (.map #[] 0)) := (Fr.refl _ _).alloc _
    have e0 : qb < w1.heap.size := by obtain ⟨T, hb⟩ := hq1.blk; exact lt_of_block hb
    have e1 := hq1.dirty.lt
    have e2 := hq1.busy.lt
    exact ⟨hq1.fr hx id id id, (HT.out.fr hf1 (fun _ _ h => h) id).fr hx (fun _ _ h => h) id, bmap_made w1, (hf0.step hf1 (fun _ _ h => h.elim)).step hx (fun _ _ h => h.elim), fun x h => by simp at h, fun x h => by simp at h, by omega, by omega, by omega, by omega, by omega, by omega, by omega⟩
  clear h0 h1 h2 hq1 hf1 hsz hf0
  go_wp2_with fail
  refine (tape_next w.heap.size w.heap.size 0 20 _ hst.tape (by omega) (by omega) (by omega)).mono ?_
  rintro e w2 ⟨r, rfl, hr1, hr2, ht2, hf2⟩
  have hs2 := hst.next ht2 hf2
  clear hst ht2 hf2
  obtain ⟨r, rfl⟩ := Int.eq_ofNat_of_zero_le hr1
  go_wp2_with fail
  go_loopw [6] (fun i wr => ∃ (j k : Nat) (f g : Int → Bool) (N M : Nat), i = .int .i64 (j : Int) ∧ j ≤ 20 ∧ k + 2 * j ≤ 100 ∧ N + j ≤ 50 ∧ M + j ≤ 50 ∧ Sx w wr k qb b1 b2 w1.heap.size f g N M) (fun i _ => (intOf i).toNat)
  case atStart => exact ⟨r, 1, _, _, 0, 0, rfl, by omega, by omega, by omega, by omega, hs2⟩
  case round =>
    obtain ⟨j, k, f, g, N, M, rfl, hj, hk, hN, hM, hS⟩ := hrel
    by_cases hpos : 0 < j
    · go_wp2_with fail
      refine (tape_next w.heap.size w.heap.size k 6 _ hS.tape (by omega) (by omega) (by omega)).mono ?_
      rintro e w3 ⟨x, rfl, hx1, hx2, ht3, hf3⟩
      have hS3 := hS.next ht3 hf3
      obtain ⟨y, hy⟩ : ∃ y, y = 1 + x := ⟨_, rfl⟩
      have hyw : (Lit.int .i64 y).wf = true := WalkArith.wf_i64 (by omega)
      have hkey := keyOf_int_mk Try.underlying3 hyw
      go_wp2_with fail
      rw [← hy]
      refine (tape_next w.heap.size w.heap.size (k + 1) 3 _ hS3.tape (by omega) (by omega) (by omega)).mono ?_
      rintro e w4 ⟨z, rfl, hz1, hz2, ht4, hf4⟩
      have hS4 := hS3.next ht4 hf4
      clear ht3 hf3 ht4 hf4 hS3 hS
      have y1 : 1 ≤ y := by omega
      have y6 : y ≤ 6 := by omega
      clear hy hx1 hx2
      by_cases hz0 : z = 0
      · subst hz0
        go_wp2_with fail
        refine (q_mark_any qb b1 b2 f g N y _ hS4.que (by unfold maxLen; omega)).mono ?_
        rintro e w5 ⟨er, f', rfl, hmk, hq5, hf5⟩
        have hS5 := hS4.two hq5 hf5 (hS4.six1.mark y1 y6 hmk)
        go_wp2_with fail
        go_roundw
        case rel => exact ⟨j - 1, k + 2, f', g, N + 1, M, by congr 1; omega, by omega, by omega, by omega, by omega, hS5⟩
        case measure => simp [intOf]; omega
      · by_cases hz1' : z = 1
        · subst hz1'
          go_wp2_with fail
          refine (q_take_any qb b1 b2 f g N y _ hS4.que (by unfold maxLen; omega) hyw).mono ?_
          rintro e w5 ⟨er, f', g', rfl, htk, hq5, hf5⟩
          rcases htk with ⟨rfl, k1, k2, rfl, rfl⟩ | ⟨rfl, k1, rfl, rfl⟩ | ⟨rfl, k1, k2, rfl, rfl⟩
          · obtain ⟨D, n, hn, ho, hD⟩ := hS4.map.fr hf5 (fun e => by have := hS4.m1; have := hS4.m2; unfold Two at e; omega)
            have hc0 := hD y
            rw [k2] at hc0
            have HD := Lib.hid hD
            clear hD
            go_wp2_with (first | (at_lookup; refine wpList_lookup_own_bool _ rfl _ _ 37 rfl 3 4 lawI Try.underlying37 Try.underlying4 (zeroB _) w1.heap.size n D rfl ho _ _ rfl hkey _ hc0 ?_) | (at_mapUpdate; refine wpList_mapUpdate_own _ rfl _ _ _ 37 rfl 3 4 lawI Try.underlying37 _ w1.heap.size n D rfl ho (by unfold maxLen; omega) _ _ _ rfl rfl hkey _ [] (plainElem_bool Try.underlying4 _) ?_; intro w6 ho6 hg6))
            have hS6 := hS4.three hq5 hf5 (hS4.six1.upd false y1 y6) (hS4.six2.upd true y1 y6) (BMap.put hn ho HD.out y true ho6) (Fr.of_grown_some hg6)
            clear HD hc0 ho
            go_wp2_with fail
            go_roundw
            case rel => exact ⟨j - 1, k + 2, _, _, N + 1, M + 1, by congr 1; omega, by omega, by omega, by omega, by omega, hS6⟩
            case measure => simp [intOf]; omega
          · have hS5 := hS4.two hq5 hf5 hS4.six1
            go_wp2_with fail
            go_roundw
            case rel => exact ⟨j - 1, k + 2, _, _, N + 1, M, by congr 1; omega, by omega, by omega, by omega, by omega, hS5⟩
            case measure => simp [intOf]; omega
          · have hS5 := hS4.two hq5 hf5 hS4.six1
            go_wp2_with fail
            go_roundw
            case rel => exact ⟨j - 1, k + 2, _, _, N + 1, M, by congr 1; omega, by omega, by omega, by omega, by omega, hS5⟩
            case measure => simp [intOf]; omega
        · have hz1b : (z == 1) = false := by simpa using hz1'
          have hz0b : (z == 0) = false := by simpa using hz0
          go_wp2_with fail
          refine (q_done_any qb b1 b2 f g N y _ hS4.que hyw).mono ?_
          rintro e w5 ⟨ok, er, g', rfl, hdn, hq5, hf5⟩
          obtain ⟨D, n, hn, ho, hD⟩ := hS4.map.fr hf5 (fun e => by have := hS4.m1; have := hS4.m2; unfold Two at e; omega)
          have hc0 := hD y
          have HD := Lib.hid hD
          clear hD
          have hg' : g' = upd g y false := by
            rcases hdn with ⟨_, _, _, rfl⟩ | ⟨_, k2, _, rfl⟩
            · rfl
            · exact (upd_id k2).symm
          subst hg'
          have hee : (er == 0) = g y := by
            rcases hdn with ⟨rfl, k2, _, _⟩ | ⟨rfl, k2, _, _⟩ <;> simp [k2]
          have hq5' := Lib.hid hq5
          have hf5' := Lib.hid hf5
          clear hdn
          go_wp2_with (first | (at_lookup; refine wpList_lookup_own_bool _ rfl _ _ 37 rfl 3 4 lawI Try.underlying37 Try.underlying4 (zeroB _) w1.heap.size n D rfl ho _ _ rfl hkey _ hc0 ?_) | (at_mapUpdate; refine wpList_mapUpdate_own _ rfl _ _ _ 37 rfl 3 4 lawI Try.underlying37 _ w1.heap.size n D rfl ho (by unfold maxLen; omega) _ _ _ rfl rfl hkey _ [] (plainElem_bool Try.underlying4 _) ?_; intro w6 ho6 hg6))
          have hS6 := hS4.three hq5 hf5 hS4.six1 (hS4.six2.upd false y1 y6) (BMap.put hn ho HD.out y false ho6) (Fr.of_grown_some hg6)
          clear HD hc0 ho
          go_wp2_with fail
          go_roundw
          case rel => exact ⟨j - 1, k + 2, _, _, N, M + 1, by congr 1; omega, by omega, by omega, by omega, by omega, hS6⟩
          case measure => simp [intOf]; omega
    · obtain rfl : j = 0 := by omega
      go_wp2_with fail
      have hN50 : N ≤ 50 := by omega
      clear hk hN hM hj
      rw [show ((0 : Nat) : Int) = 0 from rfl]
      go_loopw [10] (fun i wz => ∃ (j : Nat) (g : Int → Bool), i = .int .i64 (j : Int) ∧ 1 ≤ j ∧ j ≤ 7 ∧ Que wz qb b1 b2 f g N ∧ Hid (∀ x, g x = true → j ≤ x ∧ x ≤ 6) ∧ Fr (From w.heap.size) w wz) (fun i _ => (7 - intOf i).toNat)
      case atStart => exact ⟨1, g, rfl, by omega, by omega, hS.que, hS.six2, hS.fr⟩
      case round =>
        obtain ⟨j, g', rfl, hj1, hj2, hq, Hg, hfr⟩ := hrel
        have ht1 := hS.t1
        have ht2 := hS.t2
        by_cases hlt : j ≤ 6
        · go_wp2_with fail
          refine (q_done_any qb b1 b2 f g' N _ _ hq (WalkArith.wf_i64 (by omega))).mono ?_
          rintro e w5 ⟨ok, er, g'', rfl, hdn, hq5, hf5⟩
          have hg'' : g'' = upd g' j false := by
            rcases hdn with ⟨_, _, _, rfl⟩ | ⟨_, k2, _, rfl⟩
            · rfl
            · exact (upd_id k2).symm
          subst hg''
          clear hdn
          have Hg2 : Hid (∀ x, upd g' j false x = true → ((j + 1 : Nat) : Int) ≤ x ∧ x ≤ 6) := by
            intro x hx
            unfold upd at hx
            split at hx
            · cases hx
            · have := Hg.out x hx; omega
          have hfr5 := hfr.step hf5 (fun b _ e => by unfold Two at e; unfold From; omega)
          go_wp2_with fail
          go_roundw
          case rel => exact ⟨j + 1, _, by congr 1, by omega, by omega, hq5, Hg2, hfr5⟩
          case measure => simp [intOf]; omega
        · have hj7 : (j : Int) = 7 := by omega
          obtain rfl : j = 7 := by omega
          have Hg0 : Hid (∀ x, g' x = false) := by
            intro x
            cases hx : g' x
            · rfl
            · have := Hg.out x hx; omega
          go_wp2_with fail
          refine (q_dirty qb b1 b2 f g' N _ hq (by omega)).mono ?_
          rintro e w5 ⟨a5, c5, l5, rfl, hI5, asc5, mem5, fre5, hf5⟩
          have hq5 := hq.fr hf5 id id id
          have hfr5 := hfr.step hf5 (fun _ _ e => e.elim)
          have hm5 := hI5.lenmax
          have hb1 : b1 < wr.heap.size := hq.dirty.lt
          have hb2 : b2 < wr.heap.size := hq.busy.lt
          have Asc5 := Lib.hid asc5
          have Mem5 := Lib.hid mem5
          have Fre5 := Lib.hid fre5
          have len5 : l5.length ≤ 6 := by
            have := asc_len 6 l5 1 asc5 (fun x hx => hS.six1 x ((mem5 x).1 hx)) (by omega)
            omega
          clear asc5 mem5 fre5
          go_wp2_with fail
          go_loopw [11] (fun i wy => ∃ (j : Nat) (f' g2 : Int → Bool) (N' : Nat), i = .int .i64 (j : Int) ∧ j ≤ l5.length ∧ N' ≤ N + j ∧ Que wy qb b1 b2 f' g2 N' ∧ Hid (∀ x, f' x = true ↔ ∃ i, j ≤ i ∧ l5[i]? = some x) ∧ Hid (∀ x, g2 x = true ↔ ∃ i, i < j ∧ l5[i]? = some x) ∧ Ints wy a5 c5 l5 ∧ Fr (From w.heap.size) w wy) (fun i _ => l5.length - (intOf i).toNat)
          case atStart => exact ⟨0, f, g', N, rfl, by omega, by omega, hq5, fun x => by rw [← Mem5.out x, List.mem_iff_getElem?]; simp, fun x => by rw [Hg0.out x]; simp, hI5, hfr5⟩
          case round =>
            obtain ⟨j, f', g2, N', rfl, hj, hN', hq6, Hf6, Hg6, hI6, hfr6⟩ := hrel
            by_cases hlt' : j < l5.length
            · obtain ⟨b, off, x, rfl, hx, hc⟩ := hI6.at hlt'
              have Hx := Lib.hid hx
              have hxw : (Lit.int .i64 x).wf = true := hI6.wf x (List.mem_of_getElem? hx)
              clear hx
              go_wp2_with fail
              refine (q_take qb b1 b2 f' g2 N' x _ hq6 (by unfold maxLen; omega) hxw ((Hf6.out x).2 ⟨j, Nat.le_refl _, Hx.out⟩) ?_).mono ?_
              · cases hgx : g2 x
                · rfl
                · obtain ⟨i, hi, h2⟩ := (Hg6.out x).1 hgx
                  have := asc_inj Asc5.out h2 Hx.out
                  omega
              rintro e w7 ⟨rfl, hq7, hf7⟩
              have hI7 := hI6.fr hf7 (fun ad e hne hS => by have := Fre5.out ad e; unfold Two at hS; omega)
              have hfr7 := hfr6.step hf7 (fun b _ e => by unfold Two at e; unfold From; omega)
              go_wp2_with fail
              go_roundw
              case rel => exact ⟨j + 1, _, _, N' + 1, by congr 1, by omega, by omega, hq7, drop_step Asc5.out Hx.out Hf6.out, take_step Hx.out Hg6.out, hI7, hfr7⟩
              case measure => simp [intOf]; omega
            · obtain rfl : j = l5.length := by omega
              go_wp2_with fail
              refine (q_dirty qb b1 b2 f' g2 N' _ hq6 (by omega)).mono ?_
              rintro e w7 ⟨a7, c7, l7, rfl, hI7, asc7, mem7, fre7, hf7⟩
              obtain rfl : l7 = [] := by
                refine Asc.ext asc7 List.Pairwise.nil fun x => ?_
                rw [mem7, Hf6.out x]
                simp only [List.not_mem_nil, iff_false]
                rintro ⟨i, hi, h2⟩
                rw [List.getElem?_eq_none hi] at h2
                cases h2
              have hq7 := hq6.fr hf7 id id id
              have hfr7 := hfr6.step hf7 (fun _ _ e => e.elim)
              go_wp2_with fail
              refine (q_busy qb b1 b2 f' g2 N' _ hq7 (by omega)).mono ?_
              rintro e w8 ⟨a8, c8, l8, rfl, hI8, asc8, mem8, fre8, hf8⟩
              have hfr8 := hfr7.step hf8 (fun _ _ e => e.elim)
              have hl8 : l8 = l5 := by
                refine Asc.ext asc8 Asc5.out fun x => ?_
                rw [mem8, Hg6.out x, List.mem_iff_getElem?]
                constructor
                · rintro ⟨i, hi, h2⟩; exact ⟨i, h2⟩
                · rintro ⟨i, h2⟩
                  refine ⟨i, ?_, h2⟩
                  rcases Nat.lt_or_ge i l5.length with h | h
                  · exact h
                  · rw [List.getElem?_eq_none h] at h2; cases h2
              subst hl8
              go_wp2_with fail
              refine (ints_same a8 a5 c8 c5 _ _ _ hI8 ((hI6.no hf7 (fun _ => id)).no hf8 (fun _ => id))).mono ?_
              rintro e w9 ⟨rfl, hf9⟩
              have hfr9 := hfr8.step hf9 (fun _ _ e => e.elim)
              rw [decide_eq_true rfl]
              go_wp2_with fail
              refine (known_true _).mono ?_
              rintro e w10 ⟨rfl, hf10⟩
              go_wp2_with fail
              go_ret
              exact ⟨rfl, hfr9.step hf10 (fun _ _ e => e.elim)⟩
end Go.Proofs.Ytpigghenmagghaa
