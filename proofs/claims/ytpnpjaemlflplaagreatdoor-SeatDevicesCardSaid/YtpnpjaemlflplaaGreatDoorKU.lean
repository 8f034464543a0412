/- coldplugref32.With on ascending texts. -/
import Derived.Test.YtpnpjaemlflplaaGreatDoorKP
namespace Go.Proofs.YtpnpjaemlflplaaGreatDoor
open Go.RowKit Go.Maps
set_option linter.unusedVariables false

theorem wStep_t {s x : ByteArray} (o : List ByteArray) (h : (x.toList == s.toList) = false) : wStep s (o, true) x = (o ++ [x], true) := by simp [wStep, h]
theorem wStep_lt {s x : ByteArray} (o : List ByteArray) (h1 : Op.bytesLess x.toList s.toList = true) (h : (x.toList == s.toList) = false) : wStep s (o, false) x = (o ++ [x], false) := by simp [wStep, h, h1]
theorem wStep_eq (s : ByteArray) (o : List ByteArray) (h1 : Op.bytesLess s.toList s.toList = false) : wStep s (o, false) s = (o ++ [s], true) := by simp [wStep, h1]
theorem wStep_gt {s x : ByteArray} (o : List ByteArray) (h1 : Op.bytesLess x.toList s.toList = false) (h : (x.toList == s.toList) = false) : wStep s (o, false) x = (o ++ [s] ++ [x], true) := by simp [wStep, h, h1]
theorem wStep_len (s : ByteArray) (o : List ByteArray × Bool) (x : ByteArray) : (wStep s o x).1.length ≤ o.1.length + 2 := by
  unfold wStep
  split <;> split <;> simp
theorem foldl_wlen (s : ByteArray) : ∀ (l : List ByteArray) (o : List ByteArray × Bool), (l.foldl (wStep s) o).1.length ≤ o.1.length + 2 * l.length
  | [], o => by simp
  | x :: t, o => by
    have h1 := foldl_wlen s t (wStep s o x)
    have h2 := wStep_len s o x
    simp only [List.foldl_cons, List.length_cons]
    omega
theorem wFold_len (s : ByteArray) (l : List ByteArray) : (wFold s l).1.length ≤ 2 * l.length := by
  have := foldl_wlen s l ([], false)
  simpa [wFold] using this
def wPot (o : List ByteArray × Bool) : Nat := o.1.length + if o.2 = true then 0 else 1
theorem wStep_pot (s : ByteArray) (o : List ByteArray × Bool) (x : ByteArray) : wPot (wStep s o x) ≤ wPot o + 1 := by
  obtain ⟨o, d⟩ := o
  unfold wStep wPot
  cases d <;> cases Op.bytesLess x.toList s.toList <;> cases (x.toList == s.toList) <;> simp
theorem foldl_pot (s : ByteArray) : ∀ (l : List ByteArray) (o : List ByteArray × Bool), wPot (l.foldl (wStep s) o) ≤ wPot o + l.length
  | [], o => by simp
  | x :: t, o => by
    have h1 := foldl_pot s t (wStep s o x)
    have h2 := wStep_pot s o x
    simp only [List.foldl_cons, List.length_cons]
    omega
theorem with32_len (l : List ByteArray) (s : ByteArray) : (with32 l s).length ≤ l.length + 1 := by
  have h : wPot (wFold s l) ≤ wPot ([], false) + l.length := foldl_pot s l ([], false)
  unfold wPot at h
  unfold with32
  cases hd : (wFold s l).2 with
  | true => simp [hd] at h ⊢; omega
  | false => simp [hd] at h ⊢; omega
theorem shSeats_len (ds : List Dev) (l : List Rec) : ∀ (q : List Dev) (o : List ByteArray), (q.foldl (fun o x => with32 o (seatOf ds l x.index)) o).length ≤ o.length + q.length
  | [], o => by simp
  | x :: t, o => by
    have h1 := shSeats_len ds l t (with32 o (seatOf ds l x.index))
    have h2 := with32_len o (seatOf ds l x.index)
    simp only [List.foldl_cons, List.length_cons]
    omega
theorem shSeats_le (ds : List Dev) (l : List Rec) (q : List Dev) : (shSeats ds l q).length ≤ q.length := by
  have := shSeats_len ds l q []
  simpa [shSeats] using this
theorem wFold_sinv {s : ByteArray} {l : List ByteArray} (hs : l.Pairwise ltS) : SInv s l (wFold s l) := by
  have hw := wFold_inv s l [] ([], false) (by simpa using hs) (SInv.nil s)
  rwa [List.nil_append] at hw
theorem lt_false {x y : ByteArray} (h : ¬ ltS x y) : Op.bytesLess x.toList y.toList = false := by unfold ltS at h; simpa using h
theorem ne_false {x s : ByteArray} (h : x ≠ s) : (x.toList == s.toList) = false := by rw [strEq]; exact decide_eq_false h
theorem sorted_front {l : List ByteArray} {k : Nat} {x : ByteArray} (h : l.Pairwise ltS) (hk : l[k]? = some x) : ∀ y ∈ l.take k, ltS y x := by
  intro y hy
  have h2 : (l.take (k + 1)).Pairwise ltS := List.Pairwise.sublist (List.take_sublist _ _) h
  rw [List.take_add_one, hk] at h2
  exact (List.pairwise_append.1 h2).2.2 y hy x (by simp)

set_option maxRecDepth 100000 in
set_option maxHeartbeats 4000000 in
theorem ref_with32 (a : Option Addr) (cap : Nat) (l : List ByteArray) (s : ByteArray) (w : World) (hl : Strs w a cap l) (hs : l.Pairwise ltS) (hb : l.length ≤ 1000000) :
    Calls Tryz.prog 27 #[.slice a l.length cap, .string s] w fun e w' => (∃ a' cap', e = .returned (.slice a' (with32 l s).length cap') ∧ Strs w' a' cap' (with32 l s) ∧ ∀ ad, a' = some ad → w.heap.size ≤ ad.block) ∧ Fr No w w' := by
  obtain ⟨i0, hi, hz0, hz1, hz2⟩ := info_parts infoS
  go_enter Tryz.func27, Tryz.ntmps27
  go_wp2_with fail
  go_loopw [5, 6, 7] (fun v dn i wr => ∃ (k : Nat) (m : List ByteArray) (d : Bool), k ≤ l.length ∧ i = .int .i64 (k : Int) ∧ dn = .bool d ∧ Hid (wFold s (l.take k) = (m, d)) ∧ wr.ownsRow w.heap.size 9 1 v m.length (m.map Value.string) ∧ Fr (From w.heap.size) w wr) (fun _ _ i _ => l.length - (intOf i).toNat)
  case atStart => exact ⟨0, [], false, by omega, rfl, rfl, by unfold Hid; rfl, World.ownsRow_nil _ _ _ _, Fr.refl _ _⟩
  case round =>
    obtain ⟨k, m, d, hk, rfl, rfl, HW, hown, hfr⟩ := hrel
    have hsz := hfr.size
    have hml : m.length ≤ 2000000 := by have := wFold_len s (l.take k); rw [HW.out] at this; simp at this; omega
    by_cases hlt : k < l.length
    · have hlt' : (k : Int) < l.length := by omega
      obtain ⟨b, off, x, rfl, hx, hc⟩ := (hl.keep hfr (fun b hb h => by unfold From at h; omega)).at hlt
      have hbB : ¬ From w.heap.size b := by
        have := (hl.cell _ rfl (by intro e; rw [e] at hlt; simp at hlt)).2.1
        simp only at this
        unfold From; omega
      have Hst : Hid (wFold s (l.take (k + 1)) = wStep s (m, d) x) := by unfold Hid; rw [wFold_take hx, HW.out]
      have Hin : Hid (SInv s (l.take k) (m, d)) := by unfold Hid; rw [← HW.out]; exact wFold_sinv (hs.sublist (List.take_sublist _ _))
      have Hfr : Hid (∀ y ∈ l.take k, ltS y x) := sorted_front hs hx
      clear hx
      cases d with
      | true =>
        have hne : (x.toList == s.toList) = false := by
          obtain ⟨-, -, z, hz, hzs⟩ := Hin.out.yes rfl
          exact ne_false (fun e => by subst e; exact hzs (Hfr.out z hz))
        have HW' : Hid (wFold s (l.take (k + 1)) = (m ++ [x], true)) := by unfold Hid; rw [Hst.out, wStep_t m hne]
        go_wp2_with (at_builtin; refine wpList_append_own _ rfl _ _ 35 rfl w.heap.size 9 i0 (.string ByteArray.empty) 1 16 Tryz.underlying35 hi hz0 hz1 hz2 rfl (by decide) _ _ _ rfl (hown.alloc _) ⟨wr.heap.size, 0, none⟩ 1 1 [.string x] rfl rfl (cell_one_new _ _ _) (strs_one [x]) (by unfold maxLen; omega) (by omega) (by simp; omega) ?_; intro v' w1 hown1 hgrow1 _)
        go_roundw
        case rel => exact ⟨k + 1, m ++ [x], true, by omega, by go_num, rfl, HW', by simpa using hown1, hfr.step (grown_fr hown hgrow1) (fun _ _ h => h)⟩
        case measure => simp [intOf]; omega
      | false =>
        by_cases hxs : ltS x s
        · have hne : (x.toList == s.toList) = false := ne_false (fun e => by subst e; exact ltS_irrefl _ hxs)
          have hb2 : Op.bytesLess x.toList s.toList = true := hxs
          have HW' : Hid (wFold s (l.take (k + 1)) = (m ++ [x], false)) := by unfold Hid; rw [Hst.out, wStep_lt m hb2 hne]
          have hq1 : Op.bytesLess s.toList x.toList = false := lt_false (fun h => ltS_irrefl _ (ltS_trans hxs h))
          have hq2 : (s.toList == x.toList) = false := ne_false (fun e => by subst e; exact ltS_irrefl _ hxs)
          clear hxs
          go_wp2_with (at_builtin; refine wpList_append_own _ rfl _ _ 35 rfl w.heap.size 9 i0 (.string ByteArray.empty) 1 16 Tryz.underlying35 hi hz0 hz1 hz2 rfl (by decide) _ _ _ rfl (hown.alloc _) ⟨wr.heap.size, 0, none⟩ 1 1 [.string x] rfl rfl (cell_one_new _ _ _) (strs_one [x]) (by unfold maxLen; omega) (by omega) (by simp; omega) ?_; intro v' w1 hown1 hgrow1 _)
          go_roundw
          case rel => exact ⟨k + 1, m ++ [x], false, by omega, by go_num, rfl, HW', by simpa using hown1, hfr.step (grown_fr hown hgrow1) (fun _ _ h => h)⟩
          case measure => simp [intOf]; omega
        · have hb2 := lt_false hxs
          by_cases hxe : x = s
          · subst hxe
            have hb : (x.toList == x.toList) = true := by simp
            have HW' : Hid (wFold x (l.take (k + 1)) = (m ++ [x], true)) := by unfold Hid; rw [Hst.out, wStep_eq x m hb2]
            clear hxs
            go_wp2_with (at_builtin; refine wpList_append_own _ rfl _ _ 35 rfl w.heap.size 9 i0 (.string ByteArray.empty) 1 16 Tryz.underlying35 hi hz0 hz1 hz2 rfl (by decide) _ _ _ rfl (hown.alloc _) ⟨wr.heap.size, 0, none⟩ 1 1 [.string x] rfl rfl (cell_one_new _ _ _) (strs_one [x]) (by unfold maxLen; omega) (by omega) (by simp; omega) ?_; intro v' w1 hown1 hgrow1 _; have hc1 := (grown_fr hown hgrow1).cell hc hbB)
            go_roundw
            case rel => exact ⟨k + 1, m ++ [x], true, by omega, by go_num, rfl, HW', by simpa using hown1, hfr.step (grown_fr hown hgrow1) (fun _ _ h => h)⟩
            case measure => simp [intOf]; omega
          · have hne := ne_false hxe
            have HW' : Hid (wFold s (l.take (k + 1)) = (m ++ [s] ++ [x], true)) := by unfold Hid; rw [Hst.out, wStep_gt m hb2 hne]
            have hq1 : Op.bytesLess s.toList x.toList = true := ltS_of_ge hxs hxe
            clear hxs hxe
            go_wp2_with (first
              | (at_builtin; refine wpList_append_own _ rfl (.tmp 24) (.tmp 26) 35 rfl w.heap.size 9 i0 (.string ByteArray.empty) 1 16 Tryz.underlying35 hi hz0 hz1 hz2 rfl (by decide) _ _ _ rfl (hown.alloc _) ⟨wr.heap.size, 0, none⟩ 1 1 [.string s] rfl rfl (cell_one_new _ _ _) (strs_one [s]) (by unfold maxLen; omega) (by omega) (by simp; omega) ?_; intro v' w1 hown1 hgrow1 _; have hc1 := (grown_fr hown hgrow1).cell hc hbB; have hsz1 := hgrow1.size; rw [World.size_alloc] at hsz1)
              | (at_builtin; refine wpList_append_own _ rfl (.tmp 34) (.tmp 39) 35 rfl w.heap.size 9 i0 (.string ByteArray.empty) 1 16 Tryz.underlying35 hi hz0 hz1 hz2 rfl (by decide) _ _ _ rfl (hown1.alloc _) ⟨w1.heap.size, 0, none⟩ 1 1 [.string x] rfl rfl (cell_one_new _ _ _) (strs_one [x]) (by unfold maxLen; omega) (by omega) (by simp; omega) ?_; intro v'' w2 hown2 hgrow2 _))
            go_roundw
            case rel => exact ⟨k + 1, m ++ [s] ++ [x], true, by omega, by go_num, rfl, HW', by simpa using hown2, (hfr.step (grown_fr hown hgrow1) (fun _ _ h => h)).step (grown_fr hown1 hgrow2) (fun _ _ h => h)⟩
            case measure => simp [intOf]; omega
    · have hout := HW.out
      rw [List.take_of_length_le (by omega)] at hout
      have Hout := Lib.hid hout
      clear hout
      cases d with
      | true =>
        have He : Hid (with32 l s = m) := by unfold Hid with32; rw [Hout.out]; rfl
        go_wp2_with fail
        go_ret
        obtain ⟨a', cap', hv, hI, hfresh⟩ := Strs.of_own hown
        rw [He.out]
        exact ⟨⟨a', cap', by rw [← hv]; rfl, hI, hfresh⟩, hfr.mono (fun b hb h => by unfold From at h; omega)⟩
      | false =>
        have He : Hid (with32 l s = m ++ [s]) := by unfold Hid with32; rw [Hout.out]; rfl
        go_wp2_with (at_builtin; refine wpList_append_own _ rfl _ _ 35 rfl w.heap.size 9 i0 (.string ByteArray.empty) 1 16 Tryz.underlying35 hi hz0 hz1 hz2 rfl (by decide) _ _ _ rfl (hown.alloc _) ⟨wr.heap.size, 0, none⟩ 1 1 [.string s] rfl rfl (cell_one_new _ _ _) (strs_one [s]) (by unfold maxLen; omega) (by omega) (by simp; omega) ?_; intro v' w1 hown1 hgrow1 _)
        go_ret
        have hown2 : w1.ownsRow w.heap.size 9 1 v' (m ++ [s]).length ((m ++ [s]).map Value.string) := by simpa using hown1
        obtain ⟨a', cap', hv, hI, hfresh⟩ := Strs.of_own hown2
        rw [He.out]
        exact ⟨⟨a', cap', by rw [← hv]; rfl, hI, hfresh⟩, (hfr.step (grown_fr hown hgrow1) (fun _ _ h => h)).mono (fun b hb h => by unfold From at h; omega)⟩
end Go.Proofs.YtpnpjaemlflplaaGreatDoor
