/- Rows of records; Seated; site. -/
import Derived.Test.YtpnpjaemlflplaaGreatDoorK8
namespace Go.Proofs.YtpnpjaemlflplaaGreatDoor
open Go.RowKit Go.Maps
set_option linter.unusedVariables false

theorem infoR : (Tryz.prog.info? 42).map (fun i => (i.zero, i.size, i.bytes)) = some (some (.agg #[.string ByteArray.empty, .int .i64 0, .slice none 0 0, .slice none 0 0, .slice none 0 0, .slice none 0 0, .slice none 0 0, .string ByteArray.empty, .int .i64 0, .string ByteArray.empty, .string ByteArray.empty, .int .i64 0]), 12, 208) := by kernel_rfl
def rflat (l : List Rec) : List Value := l.flatMap (fun r => r.vals.toList)
theorem rflat_snoc (l : List Rec) (r : Rec) : rflat (l ++ [r]) = rflat l ++ r.vals.toList := by simp [rflat]
theorem rflat_len (l : List Rec) : (rflat l).length = l.length * 12 := by
  induction l with
  | nil => rfl
  | cons d t ih =>
    have : rflat (d :: t) = d.vals.toList ++ rflat t := by simp [rflat]
    rw [this, List.length_append, ih]
    simp [Rec.vals]; omega
theorem rvals_at (r : Rec) (j : Nat) (hj : j < 12) : r.vals.toList[j]? = some (r.cell j) := by
  unfold Rec.vals
  match j, hj with
  | 0, _ => rfl
  | 1, _ => rfl
  | 2, _ => rfl
  | 3, _ => rfl
  | 4, _ => rfl
  | 5, _ => rfl
  | 6, _ => rfl
  | 7, _ => rfl
  | 8, _ => rfl
  | 9, _ => rfl
  | 10, _ => rfl
  | 11, _ => rfl
theorem rflat_at : ∀ (l : List Rec) (i : Nat) (r : Rec), l[i]? = some r → ∀ j, j < 12 → (rflat l)[i * 12 + j]? = some (r.cell j)
  | [], i, d, h, j, hj => by simp at h
  | x :: t, 0, d, h, j, hj => by
    simp at h; subst h
    have : rflat (x :: t) = x.vals.toList ++ rflat t := by simp [rflat]
    rw [this, List.getElem?_append_left (by simp [Rec.vals]; omega)]
    simpa using rvals_at x j hj
  | x :: t, i + 1, d, h, j, hj => by
    have : rflat (x :: t) = x.vals.toList ++ rflat t := by simp [rflat]
    rw [this, List.getElem?_append_right (by simp [Rec.vals]; omega)]
    have h1 := rflat_at t i d (by simpa using h) j hj
    rw [show (i + 1) * 12 + j - x.vals.toList.length = i * 12 + j from by simp [Rec.vals]; omega]
    exact h1
theorem rvals_one (r : Rec) : ∀ u ∈ r.vals.toList, u.oneCell' = true := by
  intro u hu
  simp [Rec.vals] at hu
  rcases hu with rfl | rfl | rfl | rfl | rfl | rfl | rfl | rfl | rfl | rfl | rfl | rfl <;> rfl
theorem Recs.of_own {w : World} {base : Nat} {e : TypeId} {v : Value} {l : List Rec} (h : w.ownsRow base e 12 v l.length (rflat l)) (hok : ∀ r ∈ l, RecOk w r) :
    ∃ a cap, v = .slice a l.length cap ∧ Recs w a cap l ∧ ∀ ad, a = some ad → base ≤ ad.block := by
  obtain ⟨_, ⟨rfl, h2⟩ | ⟨g, cap, cur, rfl, hg, hb, h1, h2, h3, h4⟩⟩ := h
  · have : l = [] := List.eq_nil_of_length_eq_zero h2
    subst this
    exact ⟨none, 0, rfl, Recs.nil w, fun _ e => by cases e⟩
  · refine ⟨some ⟨g, 0, none⟩, cap, rfl, ⟨h1, h2, (fun e => by cases e), hok, ?_⟩, fun ad e => by cases e; exact hg⟩
    intro ad e hne
    cases e
    refine ⟨rfl, lt_of_block hb, fun i d hi j hj => ?_⟩
    rw [cell_of_block hb]
    simp only [Nat.zero_add]
    have hlt : i < l.length := (List.getElem?_eq_some_iff.1 hi).1
    have e1 : (cur.toList.take (l.length * 12))[i * 12 + j]? = (rflat l)[i * 12 + j]? := by rw [h4]
    rw [List.getElem?_take_of_lt (by omega), rflat_at l i d hi j hj] at e1
    rw [← Array.getElem?_toList, e1]

/-- A record of the call's own: its properties and tags lie in blocks of their types. -/
structure RecT (w : World) (base tb : Nat) (r : Rec) : Prop where
  ok : RecOk w r
  tt : BlkT w r.ta 9
  tp : BlkT w r.pa 45
  ft : ∀ ad, r.ta = some ad → base ≤ ad.block
  fp : ∀ ad, r.pa = some ad → base ≤ ad.block
theorem RecT.fr {S : Nat → Prop} {w w' : World} {base tb : Nat} {r : Rec} (h : RecT w base tb r) (hf : Fr S w w') (h1 : ∀ ad, r.ta = some ad → ¬ S ad.block) (h2 : ∀ ad, r.pa = some ad → ¬ S ad.block) : RecT w' base tb r :=
  ⟨⟨h.ok.props.fr hf (fun ad e _ => h2 ad e), h.ok.tags.fr hf (fun ad e _ => h1 ad e)⟩, h.tt.fr hf h1, h.tp.fr hf h2, h.ft, h.fp⟩
theorem RecT.low {S : Nat → Prop} {w w' : World} {base tb : Nat} {r : Rec} (h : RecT w base tb r) (hf : Fr S w w') (hS : ∀ b, base ≤ b → b < w.heap.size → ¬ S b) : RecT w' base tb r :=
  h.fr hf (fun ad e => by obtain ⟨cs, hc⟩ := h.tt ad e; exact hS _ (h.ft ad e) (lt_of_block hc)) (fun ad e => by obtain ⟨cs, hc⟩ := h.tp ad e; exact hS _ (h.fp ad e) (lt_of_block hc))
theorem RecT.own {w w' : World} {base b0 tb : Nat} {r : Rec} {v : Value} {n : Nat} {xs : List Value} (h : RecT w base tb r) (ho : w.ownsRow b0 42 12 v n xs) (hf : Fr (fun b => v.ownBlock = some b) w w') : RecT w' base tb r :=
  h.fr hf (BlkT.ne ho h.tt (by decide)) (BlkT.ne ho h.tp (by decide))
end Go.Proofs.YtpnpjaemlflplaaGreatDoor
