/- coldplugmade.some, Seated; site. -/
import Derived.Test.YtpnpjaemlflplaaGreatDoorK7
namespace Go.Proofs.YtpnpjaemlflplaaGreatDoor
open Go.RowKit Go.Maps
set_option linter.unusedVariables false

/-- A slice's block holds cells of a type. -/
def BlkT (w : World) (a : Option Addr) (T : TypeId) : Prop := ∀ ad, a = some ad → ∃ cs, w.heap[ad.block]? = some (.cells cs T (0, 0))
theorem BlkT.none (w : World) (T : TypeId) : BlkT w none T := fun _ e => by cases e
theorem own_typ {w : World} {base : Nat} {e : TypeId} {size : Nat} {a : Option Addr} {n m c : Nat} {xs : List Value} (h : w.ownsRow base e size (.slice a n c) m xs) : BlkT w a e := by
  obtain ⟨_, ⟨h1, _⟩ | ⟨g, cap, cur, h1, hg, hb, _⟩⟩ := h
  · cases h1; exact BlkT.none _ _
  · cases h1; exact fun ad e => by cases e; exact ⟨cur, hb⟩
/-- What lies in blocks of another type than the own row's block is not touched by what writes that block. -/
theorem BlkT.fr {S : Nat → Prop} {w w' : World} {a : Option Addr} {T : TypeId} (h : BlkT w a T) (hf : Fr S w w') (hS : ∀ ad, a = some ad → ¬ S ad.block) : BlkT w' a T := fun ad e => by
  obtain ⟨cs, hc⟩ := h ad e
  exact ⟨cs, hf.heap hc (hS ad e)⟩
theorem BlkT.ne {w : World} {base : Nat} {e T : TypeId} {size : Nat} {v : Value} {n : Nat} {xs : List Value} (ho : w.ownsRow base e size v n xs) {a : Option Addr} (h : BlkT w a T) (hne : T ≠ e) : ∀ ad, a = some ad → ¬ v.ownBlock = some ad.block := by
  intro ad e' hb
  obtain ⟨cs, hc⟩ := h ad e'
  obtain ⟨_, ⟨rfl, _⟩ | ⟨g, cap, cur, rfl, hg, hbl, _⟩⟩ := ho
  · cases hb
  · cases hb
    rw [hc] at hbl
    cases hbl
    exact hne rfl
/-- Some texts, in memory of the call's own. -/
def SomeS (w w' : World) (e : Ending) : Prop := ∃ (q : List ByteArray) (a' : Option Addr) (c' : Nat), e = .returned (.slice a' q.length c') ∧ Strs w' a' c' q ∧ (∀ ad, a' = some ad → w.heap.size ≤ ad.block) ∧ BlkT w' a' 9

set_option maxRecDepth 100000 in
set_option maxHeartbeats 1000000 in
theorem made_some (B tb k : Nat) (a : Option Addr) (cap : Nat) (l : List ByteArray) (w : World) (ht : Tape w B tb k) (hk : k + l.length ≤ 1000000000000) (hl : Strs w a cap l) (hll : l.length ≤ 1000) (htb : ∀ ad, a = some ad → ad.block ≠ tb) :
    Calls Tryz.prog 94 #[.pointer (some ⟨tb, 0, none⟩), .slice a l.length cap] w fun e w' => SomeS w w' e ∧ Tape w' B tb (k + l.length) ∧ Fr (Is tb) w w' := by
  obtain ⟨i0, hi0, hz0, hz1, hz2⟩ := info_parts infoS
  have hm := hl.lenmax
  have htl := ht.lt
  have hBt := ht.le
  go_enter Tryz.func94, Tryz.ntmps94
  go_wp2_with fail
  go_loopw [5, 10] (fun v i wr => ∃ (j : Nat) (q : List ByteArray) (av : Option Addr) (cv : Nat), j ≤ l.length ∧ q.length ≤ j ∧ v = .slice av q.length cv ∧ i = .int .i64 (j : Int) ∧ wr.ownsRow w.heap.size 9 1 (.slice av q.length cv) q.length (q.map Value.string) ∧ Tape wr B tb (k + j) ∧ Fr (TB tb w.heap.size) w wr) (fun _ i _ => l.length - (intOf i).toNat)
  case atStart => exact ⟨0, [], none, 0, by omega, by simp, rfl, rfl, World.ownsRow_nil _ _ _ _, by simpa using ht, Fr.refl _ _⟩
  case round =>
    obtain ⟨j, q, av, cv, hj, hq, rfl, rfl, hown, htr, hfr⟩ := hrel
    have hlr := hl.fr hfr (fun ad e hne h => by have h1 := (hl.cell ad e hne).2.1; have h2 := htb ad e; unfold TB at h; omega)
    by_cases hlt : j < l.length
    · have hlt' : (j : Int) < l.length := by omega
      obtain ⟨b, off, x, rfl, hx, hc⟩ := hlr.at hlt
      clear hx
      go_wp2_with fail
      refine (tape_next B tb (k + j) 3 _ htr (by omega) (by omega) (by omega)).mono ?_
      rintro e w1 ⟨r, rfl, hr1, hr2, ht1, hf1⟩
      have hown1 := ownsRow_fr hown hf1 (fun b hb h => by unfold Is at h; omega)
      have Hfr1 := Lib.hid (hfr.step hf1 (fun b _ h => .inl h))
      have hsz1 := Hfr1.out.size
      clear hown hfr htr hlr hc
      rcases hr : (r == 0) with _ | _
      · have Hown1 := Lib.hid hown1
        clear hown1
        go_wp2_with fail
        go_roundw
        case rel => exact ⟨j + 1, q, av, cv, by omega, by omega, rfl, by go_num, Hown1.out, by rw [show k + (j + 1) = k + j + 1 by omega]; exact ht1, Hfr1.out⟩
        case measure => simp [intOf]; omega
      · go_wp2_with (at_builtin; refine wpList_append_own _ rfl _ _ 35 rfl w.heap.size 9 i0 (.string ByteArray.empty) 1 16 Tryz.underlying35 hi0 hz0 hz1 hz2 rfl (by decide) _ _ _ rfl (hown1.alloc _) ⟨w1.heap.size, 0, none⟩ 1 1 [.string x] rfl rfl (cell_one_new _ _ _) (strs_one [x]) (by unfold maxLen; omega) (by omega) (by simp; omega) ?_; intro v' w2 hown2 hgrow2 _; obtain ⟨av', cv', rfl⟩ := ownsRow_slice hown2)
        have hg2 : Fr (From w.heap.size) w1 w2 := grown_fr hown1 hgrow2
        have hg3 : Fr (fun b => (Value.slice av q.length cv).ownBlock = some b) w1 w2 := ((Fr.refl _ w1).alloc _).step (Fr.of_grown hgrow2) (fun _ _ h => h)
        have ht2 := ht1.fr hg3 (fun b hb h => by have := ownsRow_blk hown1 h; unfold From at this; omega) (fun h => by have := ownsRow_blk hown1 h; unfold From at this; omega)
        have Hg2 := Lib.hid (Hfr1.out.step hg2 (fun b _ h => .inr h))
        have Hown2 := Lib.hid hown2
        clear hg2 hown2 hgrow2 hown1 hg3 ht1
        go_roundw
        case rel => exact ⟨j + 1, q ++ [x], av', cv', by omega, by simp; omega, by simp, by go_num, by rw [List.length_append, List.map_append]; exact Hown2.out, by rw [show k + (j + 1) = k + j + 1 by omega]; exact ht2, Hg2.out⟩
        case measure => simp [intOf]; omega
    · obtain rfl : j = l.length := by omega
      have htyp := own_typ hown
      obtain ⟨a', c', hv, hS, hfresh⟩ := Strs.of_own hown
      cases hv
      have H := Lib.hid (And.intro hS (And.intro (And.intro hfresh htyp) (And.intro htr (hfr.mono (T := Is tb) (fun b hb h => by unfold TB at h; unfold Is; omega)))))
      clear hown hfr hS hfresh htr htyp
      go_wp2_with fail
      go_ret
      exact ⟨⟨q, _, _, rfl, H.out.1, H.out.2.1⟩, H.out.2.2.1, H.out.2.2.2⟩
end Go.Proofs.YtpnpjaemlflplaaGreatDoor
/- Rows of records; Seated; site. -/
namespace Go.Proofs.YtpnpjaemlflplaaGreatDoor
open Go.RowKit Go.Maps
set_option linter.unusedVariables false

theorem infoR : (Tryz.prog.info? 42).map (fun i => (i.zero, i.size, i.bytes)) = some (some (.agg #[.string ByteArray.empty, .int .i64 0, .slice none 0 0, .slice none 0 0, .slice none 0 0, .slice none 0 0, .slice none 0 0, .string ByteArray.empty, .int .i64 0, .string ByteArray.empty, .string ByteArray.empty, .int .i64 0]), 12, 208) := by kernel_rfl
def rflat (l : List Rec) : List Value := l.flatMap (fun r => r.vals.toList)
theorem rflat_snoc (l : List Rec) (r : Rec) : rflat (l ++ [r]) = rflat l ++ r.vals.toList := by simp [rflat]
theorem rflat_len (l : List Rec) : (rflat l).length = l.length * 12 := by
  induction l with
  | nil => rfl
  | cons d t ih =>
    have : rflat (d :: t) = d.vals.toList ++ rflat t := by simp [rflat]
    rw [this, List.length_append, ih]
    simp [Rec.vals]; omega
theorem rvals_at (r : Rec) (j : Nat) (hj : j < 12) : r.vals.toList[j]? = some (r.cell j) := by
  unfold Rec.vals
  match j, hj with
  | 0, _ => rfl
  | 1, _ => rfl
  | 2, _ => rfl
  | 3, _ => rfl
  | 4, _ => rfl
  | 5, _ => rfl
  | 6, _ => rfl
  | 7, _ => rfl
  | 8, _ => rfl
  | 9, _ => rfl
  | 10, _ => rfl
  | 11, _ => rfl
theorem rflat_at : ∀ (l : List Rec) (i : Nat) (r : Rec), l[i]? = some r → ∀ j, j < 12 → (rflat l)[i * 12 + j]? = some (r.cell j)
  | [], i, d, h, j, hj => by simp at h
  | x :: t, 0, d, h, j, hj => by
    simp at h; subst h
    have : rflat (x :: t) = x.vals.toList ++ rflat t := by simp [rflat]
    rw [this, List.getElem?_append_left (by simp [Rec.vals]; omega)]
    simpa using rvals_at x j hj
  | x :: t, i + 1, d, h, j, hj => by
    have : rflat (x :: t) = x.vals.toList ++ rflat t := by simp [rflat]
    rw [this, List.getElem?_append_right (by simp [Rec.vals]; omega)]
    have h1 := rflat_at t i d (by simpa using h) j hj
    rw [show (i + 1) * 12 + j - x.vals.toList.length = i * 12 + j from by simp [Rec.vals]; omega]
    exact h1
theorem rvals_one (r : Rec) : ∀ u ∈ r.vals.toList, u.oneCell' = true := by
  intro u hu
  simp [Rec.vals] at hu
  rcases hu with rfl | rfl | rfl | rfl | rfl | rfl | rfl | rfl | rfl | rfl | rfl | rfl <;> rfl
theorem Recs.of_own {w : World} {base : Nat} {e : TypeId} {v : Value} {l : List Rec} (h : w.ownsRow base e 12 v l.length (rflat l)) (hok : ∀ r ∈ l, RecOk w r) :
    ∃ a cap, v = .slice a l.length cap ∧ Recs w a cap l ∧ ∀ ad, a = some ad → base ≤ ad.block := by
  obtain ⟨_, ⟨rfl, h2⟩ | ⟨g, cap, cur, rfl, hg, hb, h1, h2, h3, h4⟩⟩ := h
  · have : l = [] := List.eq_nil_of_length_eq_zero h2
    subst this
    exact ⟨none, 0, rfl, Recs.nil w, fun _ e => by cases e⟩
  · refine ⟨some ⟨g, 0, none⟩, cap, rfl, ⟨h1, h2, (fun e => by cases e), hok, ?_⟩, fun ad e => by cases e; exact hg⟩
    intro ad e hne
    cases e
    refine ⟨rfl, lt_of_block hb, fun i d hi j hj => ?_⟩
    rw [cell_of_block hb]
    simp only [Nat.zero_add]
    have hlt : i < l.length := (List.getElem?_eq_some_iff.1 hi).1
    have e1 : (cur.toList.take (l.length * 12))[i * 12 + j]? = (rflat l)[i * 12 + j]? := by rw [h4]
    rw [List.getElem?_take_of_lt (by omega), rflat_at l i d hi j hj] at e1
    rw [← Array.getElem?_toList, e1]

/-- A record of the call's own: its properties and tags lie in blocks of their types. -/
structure RecT (w : World) (base tb : Nat) (r : Rec) : Prop where
  ok : RecOk w r
  tt : BlkT w r.ta 9
  tp : BlkT w r.pa 45
  ft : ∀ ad, r.ta = some ad → base ≤ ad.block
  fp : ∀ ad, r.pa = some ad → base ≤ ad.block
theorem RecT.fr {S : Nat → Prop} {w w' : World} {base tb : Nat} {r : Rec} (h : RecT w base tb r) (hf : Fr S w w') (h1 : ∀ ad, r.ta = some ad → ¬ S ad.block) (h2 : ∀ ad, r.pa = some ad → ¬ S ad.block) : RecT w' base tb r :=
  ⟨⟨h.ok.props.fr hf (fun ad e _ => h2 ad e), h.ok.tags.fr hf (fun ad e _ => h1 ad e)⟩, h.tt.fr hf h1, h.tp.fr hf h2, h.ft, h.fp⟩
theorem RecT.low {S : Nat → Prop} {w w' : World} {base tb : Nat} {r : Rec} (h : RecT w base tb r) (hf : Fr S w w') (hS : ∀ b, base ≤ b → b < w.heap.size → ¬ S b) : RecT w' base tb r :=
  h.fr hf (fun ad e => by obtain ⟨cs, hc⟩ := h.tt ad e; exact hS _ (h.ft ad e) (lt_of_block hc)) (fun ad e => by obtain ⟨cs, hc⟩ := h.tp ad e; exact hS _ (h.fp ad e) (lt_of_block hc))
theorem RecT.own {w w' : World} {base b0 tb : Nat} {r : Rec} {v : Value} {n : Nat} {xs : List Value} (h : RecT w base tb r) (ho : w.ownsRow b0 42 12 v n xs) (hf : Fr (fun b => v.ownBlock = some b) w w') : RecT w' base tb r :=
  h.fr hf (BlkT.ne ho h.tt (by decide)) (BlkT.ne ho h.tp (by decide))
end Go.Proofs.YtpnpjaemlflplaaGreatDoor
