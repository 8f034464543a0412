/- The law CryptEarlier returns true at every input and leaves its argument as it was. Conditions: none beyond the given statement's own. -/
import Derived.Test.YtmieegcgeolckaaGreatDoorZ14
import Derived.Test.YtmieegcgeolckaaGreatDoorCards
import Derived.Test.YtmieegcgeolckaaGreatDoorTie
import Derived.WalkKit
import Derived.ProofKit
import Derived.OpenShut
import Derived.ChangeOld
import Derived.Below
import Derived.LaidMore
import Derived.Lay
import Derived.SevenTiedAt
import Derived.Shelf.Vars
import Derived.Stop.LaidErr
import Derived.MakeChecks
namespace Go.Proofs.YtmieegcgeolckaaGreatDoor
open Go.RowKit Go.Maps
set_option linter.unusedVariables false

set_option maxRecDepth 100000 in
set_option maxHeartbeats 8000000 in
theorem earlier_walk (la : Option Addr) (lc : Nat) (l : List Int) (w : World) (hl : Ints w la lc l) (hE : Env w) :
    Calls Tryz.prog 7 #[.slice la l.length lc] w fun e w' => e = .returned (.bool true) ∧ Fr No w w' := by
  have hx : Fr No w (w.alloc (.cells #[.slice la l.length lc, .int .i64 0] 26)) := (Fr.refl _ _).alloc _
  have ht := Tape.make hl 26
  have hE0 := hE.no hx
  have hs0 : (w.alloc (.cells #[.slice la l.length lc, .int .i64 0] 26)).heap.size = w.heap.size + 1 := by simp
  have hsz := hE.sz
  go_enter Tryz.func7, Tryz.ntmps7
  go_upto_region 2 with (fail)
  generalize w.alloc (.cells #[.slice la l.length lc, .int .i64 0] 26) = W0 at *
  have hlay := made_layers w.heap.size w.heap.size 0 W0 ht (by omega)
  go_wp2_with fail
  refine hlay.mono ?_
  rintro e w1 ⟨⟨L, a1, c1, k1, rfl, hL, hLf, hLm, hLo, hLl, hk1, ht1⟩, hf1⟩
  have hs1 := hf1.size
  have hE1 := hE0.fr hf1 (fun b hb h => by unfold Is at h; omega)
  have hfw1 : Fr No w w1 := (hx.mono (fun _ _ h => h)).trans hf1 (fun _ _ h => h) (fun b hb h => by unfold Is at h; omega)
  have hsm := lay_small hLo hLl
  obtain ⟨m0, hm1⟩ := hE1.len
  clear hlay ht ht1 hf1 hx hE0 hE
  have how := c_owners a1 c1 L m0 w1 hL hsm hm1 (by omega)
  go_wp2_with fail
  refine how.mono ?_
  rintro e w3 ⟨⟨oa, oc, O, ids, rfl, hO, _, _, hids, hOe, hil⟩, hf3⟩
  have HOe := Lib.hid hOe
  have Hids := Lib.hid hids
  have HOl : Hid (O.length = ids.length) := own_len hOe
  have hL3 := hL.no hf3 (fun _ => id)
  have hm3 := hf3.cell hm1 id
  have hE3 := hE1.no hf3
  have hs3 := hf3.size
  have hfw3 := hfw1.step hf3 (fun _ _ h => h)
  have hO8 : O.length ≤ 8 := by have := HOl.out; omega
  clear how hL hm1 hf3 hfw1 hE1 hOe hids
  go_wp2_with fail
  go_loopw [6] (fun i wr => ∃ q : Nat, q ≤ L.length ∧ i = .int .i64 (q : Int) ∧ Fr No w3 wr) (fun i _ => L.length - (intOf i).toNat)
  case atStart => exact ⟨0, by omega, rfl, Fr.refl _ _⟩
  case round =>
    obtain ⟨q, hq, rfl, hfr⟩ := hrel
    by_cases hlt : q < L.length
    · have hlt' : (q : Int) < L.length := by omega
      obtain ⟨lb, lo, m, rfl, hm, _, ⟨_, _, _, _, _, _, m6⟩, _⟩ := (hL3.no hfr (fun _ => id)).elem hlt
      have hmL := List.mem_of_getElem? hm
      have Hm := Lib.hid hm
      clear hm
      obtain ⟨f0, hf0⟩ : ∃ f0, f0 = ((m.l.length : Int) != 1) := ⟨_, rfl⟩
      have Hf0 : Hid (f0 = true ∨ m.l.length = 1) := by
        unfold Hid
        by_cases h : m.l.length = 1
        · exact .inr h
        · left; rw [hf0]; simp; omega
      go_wp2_with fail
      rw [← hf0]
      clear hf0 m6
      go_loopw [7, 8] (fun v i wr1 => ∃ (j : Nat) (f : Bool), j ≤ O.length ∧ v = .bool f ∧ i = .int .i64 (j : Int) ∧ Hid (f = true ∨ m.l.length = 1 ∧ ∀ (k : Nat) (p : Mem), k < j → O[k]? = some p → p.i ≠ m.i) ∧ Fr No w3 wr1) (fun _ i _ => O.length - (intOf i).toNat)
      case atStart => exact ⟨0, f0, by omega, rfl, rfl, by have := Hf0.out; unfold Hid; rcases this with h | h; exact .inl h; exact .inr ⟨h, fun k p hk => absurd hk (Nat.not_lt_zero _)⟩, hfr⟩
      case round =>
        obtain ⟨j, f, hj, rfl, rfl, Hf, hfr1⟩ := hrel
        by_cases hlt : j < O.length
        · have hlt2 : (j : Int) < O.length := by omega
          go_wp2_with fail
          refine region_sig No [(0, false), (1, false), (2, false), (3, false), (4, false), (5, false), (6, false), (7, false), (8, false), (9, false), (10, false)] (by kernel_rfl) (by kernel_rfl) (fun w0 hf0 => ?_)
          have hfr2 := hfr1.step hf0 (fun _ _ h => h)
          obtain ⟨ob, oo, p, rfl, hp, _, ⟨_, p1, _, _, _, _, _⟩, _⟩ := (hO.no hfr2 (fun _ => id)).elem hlt
          obtain ⟨lb', lo', m', e1, hm', _, ⟨_, m1, _, _, _, _, _⟩, _⟩ := (hL3.no hfr2 (fun _ => id)).elem (show q < L.length by omega)
          cases e1
          obtain rfl : m = m' := by rw [Hm.out] at hm'; exact Option.some.inj hm'
          have g0 : ∀ g : Gr No w0, g.W.cell? ⟨ob, oo + j * 7 + 1, none⟩ = some (.string p.i) := fun g => g.fr.cell p1 id
          have g1 : ∀ g : Gr No w0, g.W.cell? ⟨lb, lo + q * 7 + 1, none⟩ = some (.string m.i) := fun g => g.fr.cell m1 id
          clear p1 m1 hm'
          repeat (apply sig_q; exact rfl; exact rfl; exact rfl; intro K hK; go_big_quiet_op; go_big_quiet_on)
          clear g0 g1
          refine sig_end ?_
          have Hp := Lib.hid hp
          clear hp
          rcases hc : (p.i.toList == m.i.toList) with _ | _
          · have Hn : Hid (f = true ∨ m.l.length = 1 ∧ ∀ (k : Nat) (p : Mem), k < j + 1 → O[k]? = some p → p.i ≠ m.i) := by
              unfold Hid
              rcases Hf.out with h | ⟨h1, h2⟩
              · exact .inl h
              · refine .inr ⟨h1, fun k p' hk hp' => ?_⟩
                by_cases hkj : k = j
                · subst hkj
                  rw [Hp.out] at hp'; cases hp'
                  rintro e
                  rw [e] at hc; simp at hc
                · exact h2 k p' (by omega) hp'
            go_wp2_with fail
            go_roundw
            case rel => exact ⟨j + 1, f, by omega, rfl, by go_num, Hn, hfr2⟩
            case measure => simp [intOf]; omega
          · have hpi : p.i = m.i := by
              rw [strEq] at hc; exact of_decide_eq_true hc
            have Hrd : Hid (m.l.length = 1 → ¬ m.r < p.r) := fun h1 => own_round Hids.out HOe.out Hp.out hmL h1 hpi
            obtain ⟨c, hc0, hop⟩ := open_one Hids.out HOe.out Hp.out 2
            have hp1 : p.l.length = 1 := by obtain ⟨o, _, _, _, _, h, _⟩ := own_at Hids.out HOe.out Hp.out; exact h
            have hpn : ((p.l.length : Int) != 1) = false := by simp [hp1]
            have hpl : (0 : Int) < p.l.length := by omega
            have Hop := Lib.hid hop
            have Hc0 := Lib.hid hc0
            have Hpi := Lib.hid hpi
            have Hp1 := Lib.hid hp1
            clear hc hpi hc0 hop hp1 hfr1 hf0
            by_cases hm1 : m.l.length = 1
            · have hml : ((m.l.length : Int) == 1) = true := by simp [hm1]
              have hrd := Hrd.out hm1
              clear hm1
              go_wp2_with fail
              refine region_sig No [(0, false), (1, false), (2, false), (3, false), (4, false), (5, false), (6, false), (7, false), (8, false), (9, false), (10, false), (11, false), (12, false), (13, false), (14, false), (15, false), (16, false), (17, false), (18, false), (19, false)] (by kernel_rfl) (by kernel_rfl) (fun w5 hf5 => ?_)
              have hfr5 := hfr2.step hf5 (fun _ _ h => h)
              obtain ⟨ob', oo', p', e1, hp', _, ⟨_, p1, p2, _, _, _, _⟩, _⟩ := (hO.no hfr5 (fun _ => id)).elem hlt
              cases e1
              obtain rfl : p = p' := by rw [Hp.out] at hp'; exact Option.some.inj hp'
              obtain ⟨lb', lo', m', e1, hm', _, ⟨_, _, m2, _, _, _, m6⟩, _⟩ := (hL3.no hfr5 (fun _ => id)).elem (show q < L.length by omega)
              cases e1
              obtain rfl : m = m' := by rw [Hm.out] at hm'; exact Option.some.inj hm'
              have g0 : ∀ g : Gr No w5, g.W.cell? ⟨ob, oo + j * 7 + 2, none⟩ = some (.int .i64 p.r) := fun g => g.fr.cell p2 id
              have g1 : ∀ g : Gr No w5, g.W.cell? ⟨lb, lo + q * 7 + 2, none⟩ = some (.int .i64 m.r) := fun g => g.fr.cell m2 id
              have g2 : ∀ g : Gr No w5, g.W.cell? ⟨lb, lo + q * 7 + 6, none⟩ = some (.slice m.a m.l.length m.c) := fun g => g.fr.cell m6 id
              clear p2 m2 m6 hp' hm'
              repeat (first | (apply sig_q; exact rfl; exact rfl; exact rfl; intro K hK; go_big_quiet_op; go_big_quiet_on) | (apply sig_skip; exact rfl; exact rfl; exact rfl; intro K hK; go_big_quiet_op; go_big_quiet_on))
              clear g0 g1 g2
              refine sig_end ?_
              have hx6 : Fr No w5 (w5.alloc (.cells #[.string p.i] 9)) := (Fr.refl _ _).alloc _
              have hS6 : Strs (w5.alloc (.cells #[.string p.i] 9)) (some ⟨w5.heap.size, 0, none⟩) 1 [p.i] := Strs.of_block (l := [p.i]) (block_alloc _ _) (by unfold maxLen; simp)
              have hf36 := hfr5.step hx6 (fun _ _ h => h)
              have hpz : ∀ x ∈ [p.i], x.size ≤ maxLen := fun x hx => by
                obtain rfl : x = p.i := by simpa using hx
                rw [Hpi.out]; have := (hLo m hmL).i; unfold maxLen; omega
              have hopn := c_open (some ⟨lb, lo, none⟩) c1 L (some ⟨w5.heap.size, 0, none⟩) 1 [p.i] 2 m0 _ (hL3.no hf36 (fun _ => id)) hsm hS6 (by simp) hpz (hf36.cell hm3 id) (by have := hf36.size; omega)
              go_wp2_with fail
              refine hopn.mono ?_
              rintro e w8 ⟨⟨va, vc, V, ids', rfl, hV, _, hids', hVe, _⟩, hf8⟩
              obtain rfl := Hids.out.unique hids' (fun _ => rfl)
              rw [Hop.out] at hVe
              subst hVe
              have hfr8 := hf36.step hf8 (fun _ _ h => h)
              clear hopn hpz hS6 hx6 hf36 hids' hf8 p1
              go_wp2_with fail
              refine region_sig No [(0, false), (1, false), (2, false), (3, false), (4, false), (5, false), (6, false), (7, false), (8, false), (9, false), (10, false), (11, false), (12, false), (13, false), (14, false), (15, false), (16, false), (17, false), (18, false), (19, false), (20, false), (21, false), (22, false), (23, false), (24, false), (25, false)] (by kernel_rfl) (by kernel_rfl) (fun w9 hf9 => ?_)
              have hfr9 := hfr8.step hf9 (fun _ _ h => h)
              obtain ⟨vb, vo, v0, rfl, hv0, ⟨_, _, v2, _⟩, _⟩ := (hV.no hf9 (fun _ => id)).elem (k := 0) (by simp)
              obtain rfl : v0 = ⟨⟨#[]⟩, openT ++ p.i, c, 2⟩ := by simpa using hv0.symm
              simp only [Nat.zero_mul, Nat.add_zero] at v2
              obtain ⟨ob', oo', p', e1, hp', hst, ⟨_, _, _, _, _, _, p6⟩, _⟩ := (hO.no hfr9 (fun _ => id)).elem hlt
              cases e1
              obtain rfl : p = p' := by rw [Hp.out] at hp'; exact Option.some.inj hp'
              obtain ⟨ib, io, c', hpa, hc', hcc⟩ := hst.at (k := 0) (by omega)
              obtain rfl : c = c' := by rw [Hc0.out] at hc'; exact Option.some.inj hc'
              rw [Nat.add_zero] at hcc
              rw [hpa] at p6
              have g0 : ∀ g : Gr No w9, g.W.cell? ⟨vb, vo + 2, none⟩ = some (.string c) := fun g => g.fr.cell v2 id
              have g1 : ∀ g : Gr No w9, g.W.cell? ⟨ob, oo + j * 7 + 6, none⟩ = some (.slice (some ⟨ib, io, none⟩) p.l.length p.c) := fun g => g.fr.cell p6 id
              have g2 : ∀ g : Gr No w9, g.W.cell? ⟨ib, io, none⟩ = some (.string c) := fun g => g.fr.cell hcc id
              clear v2 p6 hcc hp' hc' hv0 hV hpa hst
              repeat (first | (apply sig_q; exact rfl; exact rfl; exact rfl; intro K hK; go_big_quiet_op; go_big_quiet_on) | (apply sig_skip; exact rfl; exact rfl; exact rfl; intro K hK; go_big_quiet_op; go_big_quiet_on))
              clear g0 g1 g2
              refine sig_end ?_
              go_wp2_with fail
              go_roundw
              case rel => exact ⟨j + 1, true, by omega, rfl, by go_num, Lib.hid (.inl rfl), hfr9⟩
              case measure => simp [intOf]; omega
            · have hml : ((m.l.length : Int) == 1) = false := by simp; omega
              clear hm1
              go_wp2_with fail
              refine region_sig No [(0, false), (1, false), (2, false), (3, false), (4, false), (5, false), (6, false), (7, false), (8, false), (9, false), (10, false), (11, false), (12, false), (13, false), (14, false), (15, false), (16, false), (17, false), (18, false), (19, false)] (by kernel_rfl) (by kernel_rfl) (fun w5 hf5 => ?_)
              have hfr5 := hfr2.step hf5 (fun _ _ h => h)
              obtain ⟨ob', oo', p', e1, hp', _, ⟨_, p1, p2, _, _, _, _⟩, _⟩ := (hO.no hfr5 (fun _ => id)).elem hlt
              cases e1
              obtain rfl : p = p' := by rw [Hp.out] at hp'; exact Option.some.inj hp'
              obtain ⟨lb', lo', m', e1, hm', _, ⟨_, _, m2, _, _, _, m6⟩, _⟩ := (hL3.no hfr5 (fun _ => id)).elem (show q < L.length by omega)
              cases e1
              obtain rfl : m = m' := by rw [Hm.out] at hm'; exact Option.some.inj hm'
              have g0 : ∀ g : Gr No w5, g.W.cell? ⟨ob, oo + j * 7 + 2, none⟩ = some (.int .i64 p.r) := fun g => g.fr.cell p2 id
              have g1 : ∀ g : Gr No w5, g.W.cell? ⟨lb, lo + q * 7 + 2, none⟩ = some (.int .i64 m.r) := fun g => g.fr.cell m2 id
              have g2 : ∀ g : Gr No w5, g.W.cell? ⟨lb, lo + q * 7 + 6, none⟩ = some (.slice m.a m.l.length m.c) := fun g => g.fr.cell m6 id
              clear p2 m2 m6 hp' hm'
              repeat (first | (apply sig_q; exact rfl; exact rfl; exact rfl; intro K hK; go_big_quiet_op; go_big_quiet_on) | (apply sig_skip; exact rfl; exact rfl; exact rfl; intro K hK; go_big_quiet_op; go_big_quiet_on))
              clear g0 g1 g2
              refine sig_end ?_
              have hx6 : Fr No w5 (w5.alloc (.cells #[.string p.i] 9)) := (Fr.refl _ _).alloc _
              have hS6 : Strs (w5.alloc (.cells #[.string p.i] 9)) (some ⟨w5.heap.size, 0, none⟩) 1 [p.i] := Strs.of_block (l := [p.i]) (block_alloc _ _) (by unfold maxLen; simp)
              have hf36 := hfr5.step hx6 (fun _ _ h => h)
              have hpz : ∀ x ∈ [p.i], x.size ≤ maxLen := fun x hx => by
                obtain rfl : x = p.i := by simpa using hx
                rw [Hpi.out]; have := (hLo m hmL).i; unfold maxLen; omega
              have hopn := c_open (some ⟨lb, lo, none⟩) c1 L (some ⟨w5.heap.size, 0, none⟩) 1 [p.i] 2 m0 _ (hL3.no hf36 (fun _ => id)) hsm hS6 (by simp) hpz (hf36.cell hm3 id) (by have := hf36.size; omega)
              go_wp2_with fail
              refine hopn.mono ?_
              rintro e w8 ⟨⟨va, vc, V, ids', rfl, hV, _, hids', hVe, _⟩, hf8⟩
              obtain rfl := Hids.out.unique hids' (fun _ => rfl)
              rw [Hop.out] at hVe
              subst hVe
              have hfr8 := hf36.step hf8 (fun _ _ h => h)
              clear hopn hpz hS6 hx6 hf36 hids' hf8 p1
              go_wp2_with fail
              refine region_sig No [(0, false), (1, false), (2, false), (3, false), (4, false), (5, false), (6, false), (7, false), (8, false), (9, false), (10, false), (11, false), (12, false), (13, false), (14, false), (15, false), (16, false), (17, false), (18, false), (19, false), (20, false), (21, false), (22, false), (23, false), (24, false), (25, false)] (by kernel_rfl) (by kernel_rfl) (fun w9 hf9 => ?_)
              have hfr9 := hfr8.step hf9 (fun _ _ h => h)
              obtain ⟨vb, vo, v0, rfl, hv0, ⟨_, _, v2, _⟩, _⟩ := (hV.no hf9 (fun _ => id)).elem (k := 0) (by simp)
              obtain rfl : v0 = ⟨⟨#[]⟩, openT ++ p.i, c, 2⟩ := by simpa using hv0.symm
              simp only [Nat.zero_mul, Nat.add_zero] at v2
              obtain ⟨ob', oo', p', e1, hp', hst, ⟨_, _, _, _, _, _, p6⟩, _⟩ := (hO.no hfr9 (fun _ => id)).elem hlt
              cases e1
              obtain rfl : p = p' := by rw [Hp.out] at hp'; exact Option.some.inj hp'
              obtain ⟨ib, io, c', hpa, hc', hcc⟩ := hst.at (k := 0) (by omega)
              obtain rfl : c = c' := by rw [Hc0.out] at hc'; exact Option.some.inj hc'
              rw [Nat.add_zero] at hcc
              rw [hpa] at p6
              have g0 : ∀ g : Gr No w9, g.W.cell? ⟨vb, vo + 2, none⟩ = some (.string c) := fun g => g.fr.cell v2 id
              have g1 : ∀ g : Gr No w9, g.W.cell? ⟨ob, oo + j * 7 + 6, none⟩ = some (.slice (some ⟨ib, io, none⟩) p.l.length p.c) := fun g => g.fr.cell p6 id
              have g2 : ∀ g : Gr No w9, g.W.cell? ⟨ib, io, none⟩ = some (.string c) := fun g => g.fr.cell hcc id
              clear v2 p6 hcc hp' hc' hv0 hV hpa hst
              repeat (first | (apply sig_q; exact rfl; exact rfl; exact rfl; intro K hK; go_big_quiet_op; go_big_quiet_on) | (apply sig_skip; exact rfl; exact rfl; exact rfl; intro K hK; go_big_quiet_op; go_big_quiet_on))
              clear g0 g1 g2
              refine sig_end ?_
              go_wp2_with fail
              go_roundw
              case rel => exact ⟨j + 1, true, by omega, rfl, by go_num, Lib.hid (.inl rfl), hfr9⟩
              case measure => simp [intOf]; omega
        · obtain rfl : j = O.length := by omega
          have hf1 : f = true := by
            rcases Hf.out with h | ⟨h1, h2⟩
            · exact h
            · obtain ⟨k, p, hk, hp⟩ := own_some Hids.out HOe.out hmL h1
              exact absurd hp (h2 k p (List.getElem?_eq_some_iff.1 hk).1 hk)
          subst hf1
          go_wp2_with fail
          go_roundw
          case rel => exact ⟨q + 1, by omega, by go_num, hfr1⟩
          case measure => simp [intOf]; omega
    · obtain rfl : q = L.length := by omega
      have hkn := known33 wr (hE3.no hfr)
      go_wp2_with fail
      refine hkn.mono ?_
      rintro e wf ⟨rfl, hff⟩
      have hfin := hfw3.step (hfr.step hff (fun _ _ h => h)) (fun _ _ h => h)
      go_wp2_with fail
      go_ret
      exact ⟨rfl, hfin⟩
end Go.Proofs.YtmieegcgeolckaaGreatDoor
namespace Go.Proofs.YtmieegcgeolckaaGreatDoor.cryptEarlier
open Go.ChangeShapes Go.WideShapes Go.ChangeAt Go.RowKit
set_option linter.unusedVariables false

theorem own : ownKnob Tryz.prog.godebug = none := by kernel_rfl
theorem laidOut : laidOutB Tryz.prog = true := by kernel_rfl

set_option maxRecDepth 100000 in
theorem lifted (os : Os) (started : os.Started) (H : Type) (enc : TypeId × Value → H) :
    ReturnsInHanded {} Tryz.checked os 7 .any (fun w args => (Rows.cryptEarlierSpec.pre enc Tryz.prog Tryz.f7 Rows.cryptEarlierRow.domain false w args ∧ laidMetH Tryz.prog Rows.cryptEarlierRow.laid w) ∧ sizedMet enc Tryz.prog Tryz.f7 (OpenSpec.ofChange Rows.cryptEarlierSpec) false w args)
      (Rows.cryptEarlierSpec.post enc Tryz.prog Tryz.f7 false true false false) := by
  refine returns_laid_shaped (C := Tryz.checked) (X := fun w _ => laidMetH Tryz.prog Rows.cryptEarlierRow.laid w) (fun _ _ _ hh h => h.of_heap hh) own started (by kernel_rfl) Tryz.func7
    (ChangeSpec.witness_shaped (enc := enc) (C := Tryz.checked) (os := os) (X := fun w _ => laidMetH Tryz.prog Rows.cryptEarlierRow.laid w) false (World.laidAll Tryz.prog os Rows.cryptEarlierRow.laid) #[.slice none 0 0] 8 (World.laidAll_os _ _ _)
      (World.shaped_of_ZipB (by kernel_rfl) (by kernel_rfl)) (by kernel_rfl) (by kernel_rfl) (by kernel_rfl)
      (by rw [MakeChecks.laidMetH_plain _ _ _ (by kernel_rfl)]; exact laidMet_laidAll _ (by kernel_rfl) (by kernel_rfl))) ?_
  intro W base args ds gs before hval0 hW hL hsh
  have hval : ∀ (j : Nat) t v, Tryz.f7.params[j]? = some t → args[j]? = some v → Value.okWide Tryz.prog W .any base t v := hval0
  have hW' := hW
  obtain ⟨p, q, hA0, hV, rfl, hfz, hnd⟩ := hW
  have hA : DataW.TrodAll enc Tryz.prog W 0 (fun _ => true) true Tryz.f7.params.toList args.toList ds p := hA0
  rw [Tryz.params7] at hA hval
  obtain ⟨v0, vs0, d0, ds0, p0, q0, hargs, rfl, rfl, h0, r0⟩ := trodAll_cons hA
  obtain ⟨rfl, rfl, rfl⟩ := trodAll_nil r0
  obtain rfl : args = #[v0] := by cases args; simp_all
  obtain ⟨rfl, rfl⟩ := trodVars_none hV
  obtain ⟨a0, len0, cap0, rfl⟩ := okWide_slice Tryz.underlying22 (hval 0 22 v0 rfl rfl)
  have k0 := h0
  have lt0 : ∀ x ∈ p0, x.block < W.heap.size := by obtain ⟨m, hm⟩ := k0; exact DataW.trod_lt m _ _ _ hm
  obtain ⟨l0, rfl, hl0⟩ : ∃ l : List Int, l.length = len0 ∧ Ints W a0 cap0 l := by
    obtain ⟨fuel, hf⟩ := h0
    rcases open_ints Tryz.underlying22 Tryz.underlying3 (by kernel_rfl) hf with ⟨hcs, _⟩ | ⟨x, l, c, zs, hcs, _, hl, hm, hz, _, hcell, hwz⟩
    · simp [Value.cells] at hcs
      obtain ⟨rfl, rfl, rfl⟩ := hcs
      exact Ints.of_isRow (zs := []) (.inl ⟨rfl, rfl, rfl, rfl⟩)
    · simp [Value.cells] at hcs
      obtain ⟨rfl, rfl, rfl⟩ := hcs
      exact Ints.of_isRow (zs := zs) (.inr ⟨_, rfl, hl, hm, by simpa using hz, hcell, hwz⟩)
  rw [MakeChecks.laidMetH_plain _ _ _ (by kernel_rfl)] at hL
  have hE := env_of hsh hL
  clear hA0 hval0
  refine (earlier_walk a0 cap0 l0 W hl0 hE).mono fun e W' ⟨he, hfr⟩ => ?_
  have bel : Below W.heap.size W W' := hfr.below (Nat.le_refl _) (fun b hb e => e)
  subst he
  exact ⟨_, rfl, _, _, _, [], _, [], hW', trodAll_mk1 (shut_bool Tryz.underlying4 _), (trodAll_cons_mk (Below.trod laidOut (by kernel_rfl) (of_decide_eq_true (by kernel_rfl)) k0 bel lt0) trodAll_mk0), rfl, bel.frame _, fun h => by cases h⟩

theorem isNamed : Tryz.pinned.checked.prog.funcNamed Rows.cryptEarlierRow.func = some 7 := by kernel_rfl
theorem and2 {a b : Bool} (h : a = true) (k : b = true) : (a && b) = true := by rw [h, k]; rfl
theorem c0 : (Rows.cryptEarlierRow.wf (OpenSpec.ofChange Rows.cryptEarlierSpec)) = true := by kernel_rfl
theorem c1 : (laidOutB Tryz.pinned.checked.prog) = true := by kernel_rfl
theorem c2 : (mapsRowed Tryz.pinned.checked.prog) = true := by kernel_rfl
theorem c3 : (Tryz.f7.params.all (Tryz.pinned.checked.prog.readableRec ·)) = true := by kernel_rfl
theorem c4 : (namedTie Tryz.pinned.checked.prog Rows.cryptEarlierRow.named Rows.cryptEarlierSpec.vars) = true := by kernel_rfl
theorem c5 : ((Rows.cryptEarlierRow.stops == [])) = true := by kernel_rfl
theorem c6 : ((Tryz.pinned.checked.prog.stops == [])) = true := by kernel_rfl
theorem c7 : ((Rows.cryptEarlierRow.knobs == [])) = true := by kernel_rfl
theorem c8 : ((Tryz.pinned.checked.prog.stopKnobs == [])) = true := by kernel_rfl
theorem c9 : ((Rows.cryptEarlierRow.inPlace == Tryz.pinned.checked.prog.inPlace 7)) = true := by kernel_rfl
theorem c10 : ((Rows.cryptEarlierRow.unfollowed == Tryz.pinned.checked.prog.unfollowed 7)) = true := by kernel_rfl
theorem c11 : ((Rows.cryptEarlierRow.recurses == Tryz.pinned.checked.prog.recurses 7)) = true := by kernel_rfl
theorem c12 : ((Rows.cryptEarlierRow.named == Tryz.pinned.checked.prog.varsNamed 7)) = true := by kernel_rfl
theorem c13 : ((Rows.cryptEarlierRow.maps == (Tryz.f7.params.toList ++ Rows.cryptEarlierSpec.plain.varTypes Tryz.pinned.checked.prog).any (Tryz.pinned.checked.prog.mapsRec ·))) = true := by kernel_rfl
theorem c14 : ((Rows.cryptEarlierRow.ifaces == (Tryz.f7.params.toList ++ Rows.cryptEarlierSpec.plain.varTypes Tryz.pinned.checked.prog).any (Tryz.pinned.checked.prog.ifacesRec ·))) = true := by kernel_rfl
theorem c15 : ((Rows.cryptEarlierRow.mapsOut == Tryz.pinned.checked.prog.mapsAmong Tryz.f7.resultTypes.toList)) = true := by kernel_rfl
theorem c16 : ((Rows.cryptEarlierRow.loops == (Tryz.f7.params.toList ++ Rows.cryptEarlierSpec.plain.varTypes Tryz.pinned.checked.prog).any (Tryz.pinned.checked.prog.loopsFrom ·))) = true := by kernel_rfl
theorem c17 : ((Rows.cryptEarlierRow.wideKeys == (Tryz.f7.params.toList ++ Rows.cryptEarlierSpec.plain.varTypes Tryz.pinned.checked.prog ++ Tryz.f7.resultTypes.toList).any (Tryz.pinned.checked.prog.wideKeysFrom ·))) = true := by kernel_rfl
theorem c18 : (Rows.cryptEarlierSpec.vars.all (Tryz.pinned.checked.prog.varReadable ·)) = true := by kernel_rfl
theorem c19 : (Tryz.f7.resultTypes.all (fun t => Tryz.pinned.checked.prog.readableRec t && decide (t < Tryz.pinned.checked.prog.types.size))) = true := by kernel_rfl
theorem c20 : ((Rows.cryptEarlierRow.ifacesOut == Tryz.f7.resultTypes.toList.any (Tryz.pinned.checked.prog.ifacesRec ·))) = true := by kernel_rfl
theorem c21 : ((Rows.cryptEarlierRow.loopsOut == Tryz.f7.resultTypes.toList.any (Tryz.pinned.checked.prog.loopsFrom ·))) = true := by kernel_rfl
theorem c22 : ((Rows.cryptEarlierRow.plainKeys == Tryz.pinned.checked.prog.plainKeys)) = true := by kernel_rfl
theorem c23 : (Rows.cryptEarlierRow.shortTexts.isNone) = true := by kernel_rfl
theorem c24 : (Tryz.pinned.checked.prog.stopsHeard) = true := by kernel_rfl
theorem c25 : (Tryz.pinned.checked.prog.mayEnter) = true := by kernel_rfl
theorem c26 : ((Rows.cryptEarlierRow.lifted == Tryz.pinned.checked.prog.liftsFinal)) = true := by kernel_rfl
theorem c27 : ((Tryz.pinned.checked.prog.make == some Rows.cryptEarlierRow.make)) = true := by kernel_rfl
theorem c28 : ((Rows.cryptEarlierRow.kinds == (if Rows.cryptEarlierRow.domain.isEmpty then [] else Tryz.f7.params.toList.map fun t => match Tryz.pinned.checked.prog.underlying t with | some (.int k) => some k | _ => none))) = true := by kernel_rfl
theorem c29 : ((Rows.cryptEarlierRow.pinned == Rows.cryptEarlierRow.pinnedBy)) = true := by kernel_rfl
theorem c30 : ((Rows.cryptEarlierRow.veiled == (Tryz.f7.params.toList ++ Rows.cryptEarlierSpec.plain.varTypes Tryz.pinned.checked.prog ++ Tryz.f7.resultTypes.toList).any (Tryz.pinned.checked.prog.veiledRec ·))) = true := by kernel_rfl
theorem c31 : (Rows.cryptEarlierRow.veiledFits Tryz.pinned.checked.prog Tryz.f7.params.toList (Tryz.f7.params.toList ++ Rows.cryptEarlierSpec.plain.varTypes Tryz.pinned.checked.prog ++ Tryz.f7.resultTypes.toList)) = true := by kernel_rfl
set_option maxRecDepth 100000 in
theorem closed : joinedFacts Tryz.pinned.checked.prog 7 Tryz.f7 Rows.cryptEarlierSpec Rows.cryptEarlierRow = true := by
  unfold joinedFacts
  exact (and2 (and2 (and2 (and2 (and2 (and2 (and2 (and2 (and2 (and2 (and2 (and2 (and2 (and2 (and2 (and2 (and2 (and2 (and2 (and2 (and2 (and2 (and2 (and2 (and2 (and2 (and2 (and2 (and2 (and2 (and2 c0 c1) c2) c3) c4) c5) c6) c7) c8) c9) c10) c11) c12) c13) c14) c15) c16) c17) c18) c19) c20) c21) c22) c23) c24) c25) c26) c27) c28) c29) c30) c31)
theorem inst : Tryz.f7.isInstance Tryz.pinned.checked.prog Rows.cryptEarlierRow.origin Rows.cryptEarlierRow.targs := of_decide_eq_true (by kernel_rfl)
theorem wrap : Tryz.f7.isWrapper Tryz.pinned.checked.prog Rows.cryptEarlierRow.wrapper Rows.cryptEarlierRow.mainSum := by
  unfold Func.isWrapper; first | (rw [if_pos (by decide +kernel)]; kernel_rfl) | (rw [if_neg (by decide +kernel)]; exact ⟨rfl, rfl⟩)
theorem over : Rows.cryptEarlierRow.holds Tryz.pinned (OpenSpec.ofChange Rows.cryptEarlierSpec) :=
  OpenClaim.holds_of_wide 7 Tryz.f7 rfl rfl rfl rfl rfl rfl rfl ⟨rfl, rfl, rfl, rfl, rfl⟩ rfl rfl rfl rfl rfl isNamed Tryz.func7 closed inst wrap
    (fun os started H enc _ => lifted os started H enc)

theorem t1 : Rows.cryptEarlierRow.wfByText (OpenSpec.ofChange Rows.cryptEarlierSpec) = true := by kernel_rfl
theorem t2 : Tryz.pinned.checked.prog.mainIs = some ((true, "177d71cd04eb8f01a4c58fd606c8e7c617fc26990225ed53480681c1f264cbbf").1, (true, "177d71cd04eb8f01a4c58fd606c8e7c617fc26990225ed53480681c1f264cbbf").2.toList) := by kernel_rfl
theorem t3 : true = Tryz.pinned.checked.prog.looks [] := by kernel_rfl
theorem t4 : false = Rows.cryptEarlierRow.goesBy Tryz.pinned.checked.prog := by kernel_rfl
theorem t5 : Tryz.prog.funcNamed "coldplug/coldpluglaw33.CryptEarlier" = some 7 := by kernel_rfl
theorem t6 : ([22].all fun u => !Tryz.prog.wantsStandIn u) = true := by kernel_rfl
theorem proved : Rows.CryptEarlierCardSaid :=
  Claim7.holds_tied_plain_at .later [] [.data, .data, .data, .data, .sentinel, .sentinel, .pinned, .pinned] true (true, "177d71cd04eb8f01a4c58fd606c8e7c617fc26990225ed53480681c1f264cbbf") true over (fun _ h => by cases h) t1 (fun _ h => by cases h) cryptEarlier_row_tie rfl ⟨rfl, rfl⟩ t2 rfl
    (fun f fn hf hfn => by
      obtain rfl : f = 7 := Option.some.inj (t5.symm.trans hf) |>.symm
      obtain rfl : fn = Tryz.f7 := (Option.some.inj (Tryz.func7.symm.trans hfn)).symm
      exact ⟨t3, fun j t ht => by
        rw [Tryz.params7] at ht
        have hm : t ∈ [22] := by simpa using Array.mem_of_getElem? ht
        have hall : ([22].all fun u => !Tryz.prog.wantsStandIn u) = true := t6
        exact (show Tryz.prog.wantsStandIn t = false by simpa using List.all_eq_true.1 hall t hm)⟩)
    t4
#print axioms proved
end Go.Proofs.YtmieegcgeolckaaGreatDoor.cryptEarlier
