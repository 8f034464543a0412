/- Rows of records (as in the text of chapter 36; here for chapter 28, which does not import that one). -/
import Derived.Test.YtanaompgapiikaaGreatDoorPA
import Derived.Test.YtanaompgapiikaaGreatDoorQ4
namespace Go.Proofs.YtanaompgapiikaaGreatDoor
open Go.RowKit Go.Maps
set_option linter.unusedVariables false

theorem infoR : (Tryz.prog.info? 46).map (fun i => (i.zero, i.size, i.bytes)) = some (some (.agg #[.string ByteArray.empty, .int .i64 0, .slice none 0 0, .slice none 0 0, .slice none 0 0, .slice none 0 0, .slice none 0 0, .string ByteArray.empty, .int .i64 0, .string ByteArray.empty, .string ByteArray.empty, .int .i64 0]), 12, 208) := by kernel_rfl
def rflat (l : List Rec) : List Value := l.flatMap (fun r => r.vals.toList)
theorem rflat_snoc (l : List Rec) (r : Rec) : rflat (l ++ [r]) = rflat l ++ r.vals.toList := by simp [rflat]
theorem rflat_len (l : List Rec) : (rflat l).length = l.length * 12 := by
  induction l with
  | nil => rfl
  | cons d t ih =>
    have : rflat (d :: t) = d.vals.toList ++ rflat t := by simp [rflat]
    rw [this, List.length_append, ih]
    simp [Rec.vals]; omega
theorem rvals_at (r : Rec) (j : Nat) (hj : j < 12) : r.vals.toList[j]? = some (r.cell j) := by
  unfold Rec.vals
  match j, hj with
  | 0, _ => rfl
  | 1, _ => rfl
  | 2, _ => rfl
  | 3, _ => rfl
  | 4, _ => rfl
  | 5, _ => rfl
  | 6, _ => rfl
  | 7, _ => rfl
  | 8, _ => rfl
  | 9, _ => rfl
  | 10, _ => rfl
  | 11, _ => rfl
theorem rflat_at : ∀ (l : List Rec) (i : Nat) (r : Rec), l[i]? = some r → ∀ j, j < 12 → (rflat l)[i * 12 + j]? = some (r.cell j)
  | [], i, d, h, j, hj => by simp at h
  | x :: t, 0, d, h, j, hj => by
    simp at h; subst h
    have : rflat (x :: t) = x.vals.toList ++ rflat t := by simp [rflat]
    rw [this, List.getElem?_append_left (by simp [Rec.vals]; omega)]
    simpa using rvals_at x j hj
  | x :: t, i + 1, d, h, j, hj => by
    have : rflat (x :: t) = x.vals.toList ++ rflat t := by simp [rflat]
    rw [this, List.getElem?_append_right (by simp [Rec.vals]; omega)]
    have h1 := rflat_at t i d (by simpa using h) j hj
    rw [show (i + 1) * 12 + j - x.vals.toList.length = i * 12 + j from by simp [Rec.vals]; omega]
    exact h1
theorem rvals_one (r : Rec) : ∀ u ∈ r.vals.toList, u.oneCell' = true := by
  intro u hu
  simp [Rec.vals] at hu
  rcases hu with rfl | rfl | rfl | rfl | rfl | rfl | rfl | rfl | rfl | rfl | rfl | rfl <;> rfl
theorem Recs.of_own {w : World} {base : Nat} {e : TypeId} {v : Value} {l : List Rec} (h : w.ownsRow base e 12 v l.length (rflat l)) (hok : ∀ r ∈ l, RecOk w r) :
    ∃ a cap, v = .slice a l.length cap ∧ Recs w a cap l ∧ ∀ ad, a = some ad → base ≤ ad.block := by
  obtain ⟨_, ⟨rfl, h2⟩ | ⟨g, cap, cur, rfl, hg, hb, h1, h2, h3, h4⟩⟩ := h
  · have : l = [] := List.eq_nil_of_length_eq_zero h2
    subst this
    exact ⟨none, 0, rfl, Recs.nil w, fun _ e => by cases e⟩
  · refine ⟨some ⟨g, 0, none⟩, cap, rfl, ⟨h1, h2, (fun e => by cases e), hok, ?_⟩, fun ad e => by cases e; exact hg⟩
    intro ad e hne
    cases e
    refine ⟨rfl, lt_of_block hb, fun i d hi j hj => ?_⟩
    rw [cell_of_block hb]
    simp only [Nat.zero_add]
    have hlt : i < l.length := (List.getElem?_eq_some_iff.1 hi).1
    have e1 : (cur.toList.take (l.length * 12))[i * 12 + j]? = (rflat l)[i * 12 + j]? := by rw [h4]
    rw [List.getElem?_take_of_lt (by omega), rflat_at l i d hi j hj] at e1
    rw [← Array.getElem?_toList, e1]


/-- The record that QueueEnds makes for a device. -/
def mkR (ds : List Dev) (x : Int) : Rec := ⟨pathOf (origin ds x), x, [], [], none, 0, none, 0, none, 0, 0, none, 0, 0, none, 0, 0, ⟨#[]⟩, 0, ⟨#[]⟩, ⟨#[]⟩, 0⟩
theorem mkR_ok (ds : List Dev) (x : Int) (w : World) : RecOk w (mkR ds x) := ⟨Atts.nil w, Strs.nil w⟩
theorem recs_mk {w : World} {base : Nat} {v : Value} {ds : List Dev} {L : List Int} (h : w.ownsRow base 46 12 v (L.map (mkR ds)).length (rflat (L.map (mkR ds)))) : ∃ a cap, v = .slice a (L.map (mkR ds)).length cap ∧ Recs w a cap (L.map (mkR ds)) ∧ ∀ ad, a = some ad → base ≤ ad.block :=
  Recs.of_own h (fun r hr => by obtain ⟨x, _, rfl⟩ := List.mem_map.1 hr; exact mkR_ok ds x w)
theorem recB_mk {ds : List Dev} {L M : List Int} {n : Int} (h : recB ds (L.map (mkR ds)) n = true) : recB ds ((L ++ M).map (mkR ds)) n = true := by
  unfold recB at *
  rw [List.map_append, List.any_append, h, Bool.true_or]
/-- What is dirty: the devices without a record that were not taken. -/
def dirtyF (D L F : List Int) (x : Int) : Bool := decide (x ∈ D) && !decide (x ∈ L) && !decide (x ∈ F)
theorem Que.eqf {w : World} {qb b1 b2 : Nat} {f f' g g' : Int → Bool} {N : Nat} (h : Que w qb b1 b2 f g N) (e1 : f = f') (e2 : g = g') : Que w qb b1 b2 f' g' N := by subst e1; subst e2; exact h
theorem dirty_take {D L F : List Int} {j : Nat} {x : Int} (h : F[j]? = some x) : upd (dirtyF D L (F.take j)) x false = dirtyF D L (F.take (j + 1)) := by
  funext y
  unfold upd dirtyF
  rw [List.take_add_one, h]
  by_cases e : y = x
  · subst e; simp
  · simp [e]
theorem busy_take {F : List Int} {j : Nat} {x : Int} (h : F[j]? = some x) : upd (fun y => decide (y ∈ F.take j)) x true = fun y => decide (y ∈ F.take (j + 1)) := upd_take h
theorem busy_done {F : List Int} {j : Nat} {x : Int} (hn : F.Nodup) (h : F[j]? = some x) : upd (fun y => decide (y ∈ F.drop j)) x false = fun y => decide (y ∈ F.drop (j + 1)) := by
  have hj : j < F.length := (List.getElem?_eq_some_iff.1 h).1
  have hd : F.drop j = x :: F.drop (j + 1) := by
    have e : F[j] = x := by rw [List.getElem?_eq_getElem hj] at h; exact Option.some.inj h
    rw [List.drop_eq_getElem_cons hj, e]
  have hx : x ∉ F.drop (j + 1) := by
    have h2 : (F.drop j).Nodup := hn.sublist (List.drop_sublist _ _)
    rw [hd, List.nodup_cons] at h2
    exact h2.1
  funext y
  unfold upd
  rw [hd]
  by_cases e : y = x
  · subst e; simp [hx]
  · simp [e]
theorem not_take {F : List Int} {j : Nat} {x : Int} (hn : F.Nodup) (h : F[j]? = some x) : x ∉ F.take j := by
  intro hx
  have hj : j < F.length := (List.getElem?_eq_some_iff.1 h).1
  have e : F[j] = x := by rw [List.getElem?_eq_getElem hj] at h; exact Option.some.inj h
  have hd : x ∈ F.drop j := by rw [List.drop_eq_getElem_cons hj, e]; exact List.mem_cons_self
  have h2 : (F.take j ++ F.drop j).Nodup := by rw [List.take_append_drop]; exact hn
  exact (List.pairwise_append.1 h2).2.2 x hx x hd rfl
theorem dirty_next (D L F : List Int) : dirtyF D L F = dirtyF D (L ++ F) [] := by
  funext y
  unfold dirtyF
  by_cases h1 : y ∈ L <;> by_cases h2 : y ∈ F <;> simp [h1, h2]
theorem nodup_sub_len : ∀ {L D : List Int}, L.Nodup → (∀ x ∈ L, x ∈ D) → L.length ≤ D.length
  | [], D, _, _ => by simp
  | x :: t, D, hn, hs => by
    rw [List.nodup_cons] at hn
    have hx := hs x (by simp)
    have h1 : t.length ≤ (D.erase x).length := nodup_sub_len hn.2 (fun y hy => by
      rw [List.mem_erase_of_ne (fun (e : y = x) => hn.1 (by rw [← e]; exact hy))]
      exact hs y (by simp [hy]))
    have h2 := List.length_erase_of_mem hx
    have h3 : 0 < D.length := List.length_pos_of_mem hx
    simp only [List.length_cons]
    omega
end Go.Proofs.YtanaompgapiikaaGreatDoor
