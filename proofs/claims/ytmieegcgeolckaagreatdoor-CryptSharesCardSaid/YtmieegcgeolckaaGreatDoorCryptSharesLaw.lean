/- The law CryptShares returns true at every input and leaves its argument as it was. Conditions: none beyond the given statement's own. -/
import Derived.Test.YtmieegcgeolckaaGreatDoorZ14
import Derived.Test.YtmieegcgeolckaaGreatDoorCards
import Derived.Test.YtmieegcgeolckaaGreatDoorTie
import Derived.WalkKit
import Derived.ProofKit
import Derived.OpenShut
import Derived.ChangeOld
import Derived.Below
import Derived.LaidMore
import Derived.Lay
import Derived.SevenTiedAt
import Derived.Shelf.Vars
import Derived.Stop.LaidErr
import Derived.MakeChecks
namespace Go.Proofs.YtmieegcgeolckaaGreatDoor
open Go.RowKit Go.Maps
set_option linter.unusedVariables false

set_option maxRecDepth 100000 in
set_option maxHeartbeats 8000000 in
theorem shares_walk (la : Option Addr) (lc : Nat) (l : List Int) (w : World) (hl : Ints w la lc l) (hE : Env w) :
    Calls Tryz.prog 4 #[.slice la l.length lc] w fun e w' => e = .returned (.bool true) ∧ Fr No w w' := by
  have hx : Fr No w (w.alloc (.cells #[.slice la l.length lc, .int .i64 0] 26)) := (Fr.refl _ _).alloc _
  have ht := Tape.make hl 26
  have hE0 := hE.no hx
  have hs0 : (w.alloc (.cells #[.slice la l.length lc, .int .i64 0] 26)).heap.size = w.heap.size + 1 := by simp
  have hsz := hE.sz
  go_enter Tryz.func4, Tryz.ntmps4
  go_upto_region 2 with (fail)
  generalize w.alloc (.cells #[.slice la l.length lc, .int .i64 0] 26) = W0 at *
  have hlay := made_layers w.heap.size w.heap.size 0 W0 ht (by omega)
  go_wp2_with fail
  refine hlay.mono ?_
  rintro e w1 ⟨⟨L, a1, c1, k1, rfl, hL, hLf, hLm, hLo, hLl, hk1, ht1⟩, hf1⟩
  have hkey := made_keys w.heap.size w.heap.size k1 w1 ht1 (by omega)
  have hs1 := hf1.size
  clear hlay ht ht1
  go_wp2_with fail
  refine hkey.mono ?_
  rintro e w2 ⟨⟨K, a2, c2, k2, rfl, hK, hKf, hKs, hKl, hk2, ht2⟩, hf2⟩
  have hs2 := hf2.size
  have hL2 := hL.fr hf2 (fun ad e _ h => by have := hLf ad e; unfold Is at h; omega) (fun m hm ad e _ h => by have := (hLm m hm).2.2 ad e; unfold Is at h; omega)
  have hf12 := hf1.step hf2 (fun _ _ h => h)
  have hE2 := hE0.fr hf12 (fun b hb h => by unfold Is at h; omega)
  have hfw2 : Fr No w w2 := (hx.mono (fun _ _ h => h)).trans hf12 (fun _ _ h => h) (fun b hb h => by unfold Is at h; omega)
  have hsm := lay_small hLo hLl
  have hKz : ∀ x ∈ K, x.size ≤ maxLen := fun x hx => by have := hKs x hx; unfold maxLen; omega
  obtain ⟨m0, hm2⟩ := hE2.len
  clear hkey hL hLf hLm ht2 hf1 hf2 hf12 hx hE0 hE
  have how := c_owners a1 c1 L m0 w2 hL2 hsm hm2 (by omega)
  go_wp2_with fail
  refine how.mono ?_
  rintro e w3 ⟨⟨oa, oc, O, ids, rfl, hO, _, _, hids, hOe, hil⟩, hf3⟩
  have HOe := Lib.hid hOe
  have Hids := Lib.hid hids
  have HOl : Hid (O.length = ids.length) := own_len hOe
  clear hOe
  have hL3 := hL2.no hf3 (fun _ => id)
  have hK3 := hK.no hf3 (fun _ => id)
  have hm3 := hf3.cell hm2 id
  have hE3 := hE2.no hf3
  have hs3 := hf3.size
  have hfw3 := hfw2.step hf3 (fun _ _ h => h)
  clear how hL2 hK hm2 hf3 hfw2 hE2
  have hop := c_open a1 c1 L a2 c2 K 1 m0 w3 hL3 hsm hK3 (by omega) hKz hm3 (by omega)
  go_wp2_with fail
  refine hop.mono ?_
  rintro e w4 ⟨⟨va, vc, V, ids', rfl, hV, _, hids', hVe, _⟩, hf4⟩
  obtain rfl := hids.unique hids' (fun _ => rfl)
  have HVe := Lib.hid hVe
  clear hVe hids'
  have hL4 := hL3.no hf4 (fun _ => id)
  have hK4 := hK3.no hf4 (fun _ => id)
  have hO4 := hO.no hf4 (fun _ => id)
  have hm4 := hf4.cell hm3 id
  have hE4 := hE3.no hf4
  have hs4 := hf4.size
  have hfw4 := hfw3.step hf4 (fun _ _ h => h)
  clear hop hL3 hK3 hm3 hf4 hfw3 hE3 hO
  have hak := c_asks a1 c1 L a2 c2 K m0 w4 hL4 hsm hK4 (by omega) hKz hm4 (by omega)
  go_wp2_with fail
  refine hak.mono ?_
  rintro e w5 ⟨⟨xa, xc, X, ids', rfl, hX, _, hids', hXe, _⟩, hf5⟩
  obtain rfl := hids.unique hids' (fun _ => rfl)
  have hO5 := hO4.no hf5 (fun _ => id)
  have hV5 := hV.no hf5 (fun _ => id)
  have hE5 := hE4.no hf5
  have hfw5 := hfw4.step hf5 (fun _ _ h => h)
  have HXe := Lib.hid hXe
  have Hle : Hid (V.length + X.length = O.length) := by unfold Hid; rw [HVe.out, hXe, HOl.out, List.length_map]; exact opened_asked_len _ _
  have Hlb : V.length ≤ O.length ∧ X.length ≤ O.length := by have := Hle.out; omega
  obtain ⟨hVO, hXO⟩ := Hlb
  have hO8 : O.length ≤ 8 := by have := HOl.out; omega
  clear hak hL4 hK4 hm4 hf5 hfw4 hE4 hO4 hV hids' hXe hids
  go_wp2_with fail
  go_loopw [9] (fun i wr => ∃ q : Nat, q ≤ O.length ∧ i = .int .i64 (q : Int) ∧ Fr No w5 wr) (fun i _ => O.length - (intOf i).toNat)
  case atStart => exact ⟨0, by omega, rfl, Fr.refl _ _⟩
  case round =>
    obtain ⟨q, hq, rfl, hfr⟩ := hrel
    by_cases hlt : q < O.length
    · have hlt' : (q : Int) < O.length := by omega
      obtain ⟨ob, oo, m, rfl, hm, _, _, _⟩ := hO5.elem hlt
      obtain ⟨o, hid, hbo, hmk, hml, hml1, hoL⟩ := own_at Hids.out HOe.out hm
      have him : m.i.size ≤ 2 := by have h1 := (hLo o hoL).i; have h2 := congrArg Mem.i hmk; have h3 : m.i = o.i := h2; rw [h3]; exact h1
      have Hsh : Hid (cntO V (openT ++ m.i) + cntS X m.i = 1) := by unfold Hid; rw [HVe.out, HXe.out]; exact shares Hids.out K 1 (List.mem_of_getElem? hid)
      go_wp2_with fail
      go_loopw [10, 11] (fun v i wr1 => ∃ j : Nat, j ≤ V.length ∧ v = .int .i64 (cntO (V.take j) (openT ++ m.i) : Nat) ∧ i = .int .i64 (j : Int) ∧ Fr No w5 wr1) (fun _ i _ => V.length - (intOf i).toNat)
      case atStart => exact ⟨0, by omega, by simp [cntO], rfl, hfr⟩
      case round =>
        obtain ⟨j, hj, rfl, rfl, hfr1⟩ := hrel
        by_cases hlt : j < V.length
        · have hlt2 : (j : Int) < V.length := by omega
          have hz : ¬ 9223372036854775807 < 5 + m.i.size := by omega
          go_wp2_with fail
          refine region_sig No [(0, false), (1, false), (2, false), (3, false), (4, false), (5, false), (6, false), (7, false), (8, false), (9, false), (10, false), (11, false)] (by kernel_rfl) (by kernel_rfl) (fun w0 hf0 => ?_)
          have hfr2 := hfr1.step hf0 (fun _ _ h => h)
          obtain ⟨vb, vo, v, rfl, hv, ⟨_, v1, _, _⟩, _⟩ := (hV5.no hfr2 (fun _ => id)).elem hlt
          obtain ⟨ob', oo', m', e1, hm', _, ⟨_, m1, _, _, _, _, _⟩, _⟩ := (hO5.no hfr2 (fun _ => id)).elem (show q < O.length by omega)
          cases e1
          obtain rfl : m = m' := by rw [hm] at hm'; exact Option.some.inj hm'
          have g0 : ∀ g : Gr No w0, g.W.cell? ⟨vb, vo + j * 4 + 1, none⟩ = some (.string v.o) := fun g => g.fr.cell v1 id
          have g1 : ∀ g : Gr No w0, g.W.cell? ⟨ob, oo + q * 7 + 1, none⟩ = some (.string m.i) := fun g => g.fr.cell m1 id
          clear v1 m1
          repeat (apply sig_q; exact rfl; exact rfl; exact rfl; intro K hK; go_big_quiet_op; go_big_quiet_on)
          refine sig_end ?_
          have Htk : Hid (V.take (j + 1) = V.take j ++ [v]) := by unfold Hid; rw [List.take_add_one, hv]; rfl
          have hle1 := cntO_le (V.take j) (openT ++ m.i)
          simp only [List.length_take] at hle1
          clear hv hm'
          rcases hc : (v.o.toList == ((⟨#[111, 112, 101, 110, 45]⟩ : ByteArray) ++ m.i).toList) with _ | _
          · have Hn : Hid (cntO (V.take (j + 1)) (openT ++ m.i) = cntO (V.take j) (openT ++ m.i)) := by unfold Hid openT; rw [Htk.out, cntO_snoc, hc]; simp
            go_wp2_with fail
            go_roundw
            case rel => exact ⟨j + 1, by omega, by rw [Hn.out], by go_num, hfr2⟩
            case measure => simp [intOf]; omega
          · have Hn : Hid (cntO (V.take (j + 1)) (openT ++ m.i) = cntO (V.take j) (openT ++ m.i) + 1) := by unfold Hid openT; rw [Htk.out, cntO_snoc, hc]; simp
            go_wp2_with fail
            go_roundw
            case rel => exact ⟨j + 1, by omega, by rw [Hn.out]; go_num, by go_num, hfr2⟩
            case measure => simp [intOf]; omega
        · obtain rfl : j = V.length := by omega
          rw [List.take_length]
          have hle1 := cntO_le V (openT ++ m.i)
          go_wp2_with fail
          go_loopw [10, 12] (fun v i wr1 => ∃ j : Nat, j ≤ X.length ∧ v = .int .i64 ((cntO V (openT ++ m.i) + cntS (X.take j) m.i : Nat) : Int) ∧ i = .int .i64 (j : Int) ∧ Fr No w5 wr1) (fun _ i _ => X.length - (intOf i).toNat)
          case atStart => exact ⟨0, by omega, by simp [cntS], rfl, hfr1⟩
          case round =>
            obtain ⟨j, hj, rfl, rfl, hfr1⟩ := hrel
            by_cases hlt : j < X.length
            · have hlt3 : (j : Int) < X.length := by omega
              go_wp2_with fail
              refine region_sig No [(0, false), (1, false), (2, false), (3, false), (4, false), (5, false), (6, false), (7, false), (8, false), (9, false)] (by kernel_rfl) (by kernel_rfl) (fun w0 hf0 => ?_)
              have hfr2 := hfr1.step hf0 (fun _ _ h => h)
              obtain ⟨xb, xo, x, rfl, hv, x1⟩ := (hX.no hfr2 (fun _ => id)).at hlt
              obtain ⟨ob', oo', m', e1, hm', _, ⟨_, m1, _, _, _, _, _⟩, _⟩ := (hO5.no hfr2 (fun _ => id)).elem (show q < O.length by omega)
              cases e1
              obtain rfl : m = m' := by rw [hm] at hm'; exact Option.some.inj hm'
              have g0 : ∀ g : Gr No w0, g.W.cell? ⟨xb, xo + j, none⟩ = some (.string x) := fun g => g.fr.cell x1 id
              have g1 : ∀ g : Gr No w0, g.W.cell? ⟨ob, oo + q * 7 + 1, none⟩ = some (.string m.i) := fun g => g.fr.cell m1 id
              clear x1 m1
              repeat (apply sig_q; exact rfl; exact rfl; exact rfl; intro K hK; go_big_quiet_op; go_big_quiet_on)
              refine sig_end ?_
              have Htk : Hid (X.take (j + 1) = X.take j ++ [x]) := by unfold Hid; rw [List.take_add_one, hv]; rfl
              have hle2 := cntS_le (X.take j) m.i
              simp only [List.length_take] at hle2
              clear hv hm'
              rcases hc : (x.toList == m.i.toList) with _ | _
              · have Hn : Hid (cntS (X.take (j + 1)) m.i = cntS (X.take j) m.i) := by unfold Hid; rw [Htk.out, cntS_snoc, hc]; simp
                go_wp2_with fail
                go_roundw
                case rel => exact ⟨j + 1, by omega, by rw [Hn.out], by go_num, hfr2⟩
                case measure => simp [intOf]; omega
              · have Hn : Hid (cntS (X.take (j + 1)) m.i = cntS (X.take j) m.i + 1) := by unfold Hid; rw [Htk.out, cntS_snoc, hc]; simp
                go_wp2_with fail
                go_roundw
                case rel => exact ⟨j + 1, by omega, by rw [Hn.out]; go_num, by go_num, hfr2⟩
                case measure => simp [intOf]; omega
            · obtain rfl : j = X.length := by omega
              rw [List.take_length, Hsh.out, show ((1 : Nat) : Int) = 1 from rfl]
              by_cases hq0 : q = 0
              · subst hq0
                go_wp2_with fail
                refine region_sig No [(0, false), (1, false), (2, false), (3, false), (4, false), (5, false), (6, false), (7, false), (8, false), (9, false), (10, false), (11, false), (12, false), (13, false), (14, false), (15, false), (16, false), (17, false), (18, false), (19, false)] (by kernel_rfl) (by kernel_rfl) (fun w0 hf0 => ?_)
                have hfr2 := hfr1.step hf0 (fun _ _ h => h)
                repeat (first | (apply sig_q; exact rfl; exact rfl; exact rfl; intro K hK; go_big_quiet_op; go_big_quiet_on) | (apply sig_skip; exact rfl; exact rfl; exact rfl; intro K hK; go_big_quiet_op; go_big_quiet_on))
                refine sig_end ?_
                go_wp2_with fail
                go_roundw
                case rel => exact ⟨0 + 1, by omega, by go_num, hfr2⟩
                case measure => simp [intOf]; omega
              · obtain ⟨q, rfl⟩ : ∃ q', q = q' + 1 := ⟨q - 1, by omega⟩
                have hq4 : q < O.length := by omega
                have hq5 : (q : Int) < O.length := by omega
                go_wp2_with fail
                refine region_sig No [(0, false), (1, false), (2, false), (3, false), (4, false), (5, false), (6, false), (7, false), (8, false), (9, false), (10, false), (11, false), (12, false), (13, false), (14, false), (15, false), (16, false), (17, false), (18, false), (19, false)] (by kernel_rfl) (by kernel_rfl) (fun w0 hf0 => ?_)
                have hfr2 := hfr1.step hf0 (fun _ _ h => h)
                obtain ⟨ob', oo', m', e1, hm', _, ⟨_, m1, _, _, _, _, _⟩, _⟩ := (hO5.no hfr2 (fun _ => id)).elem (show q + 1 < O.length by omega)
                cases e1
                obtain rfl : m = m' := by rw [hm] at hm'; exact Option.some.inj hm'
                obtain ⟨ob', oo', p, e1, hp, _, ⟨_, p1, _, _, _, _, _⟩, _⟩ := (hO5.no hfr2 (fun _ => id)).elem hq4
                cases e1
                have g0 : ∀ g : Gr No w0, g.W.cell? ⟨ob, oo + q * 7 + 1, none⟩ = some (.string p.i) := fun g => g.fr.cell p1 id
                have g1 : ∀ g : Gr No w0, g.W.cell? ⟨ob, oo + (q + 1) * 7 + 1, none⟩ = some (.string m.i) := fun g => g.fr.cell m1 id
                have hlss := ids_less Hids.out HOe.out hp hm'
                clear p1 m1 hm' hp
                repeat (first | (apply sig_q; exact rfl; exact rfl; exact rfl; intro K hK; go_big_quiet_op; go_big_quiet_on) | (apply sig_skip; exact rfl; exact rfl; exact rfl; intro K hK; go_big_quiet_op; go_big_quiet_on))
                refine sig_end ?_
                go_wp2_with fail
                go_roundw
                case rel => exact ⟨q + 1 + 1, by omega, by go_num, hfr2⟩
                case measure => simp [intOf]; omega
    · obtain rfl : q = O.length := by omega
      have hle : ((V.length : Int) + X.length == O.length) = true := by have := Hle.out; simp; omega
      have hkn := known33 wr (hE5.no hfr)
      go_wp2_with fail
      refine hkn.mono ?_
      rintro e wf ⟨rfl, hff⟩
      have hfin := hfw5.step (hfr.step hff (fun _ _ h => h)) (fun _ _ h => h)
      go_wp2_with fail
      go_ret
      exact ⟨rfl, hfin⟩
end Go.Proofs.YtmieegcgeolckaaGreatDoor
namespace Go.Proofs.YtmieegcgeolckaaGreatDoor.cryptShares
open Go.ChangeShapes Go.WideShapes Go.ChangeAt Go.RowKit
set_option linter.unusedVariables false

theorem own : ownKnob Tryz.prog.godebug = none := by kernel_rfl
theorem laidOut : laidOutB Tryz.prog = true := by kernel_rfl

set_option maxRecDepth 100000 in
theorem lifted (os : Os) (started : os.Started) (H : Type) (enc : TypeId × Value → H) :
    ReturnsInHanded {} Tryz.checked os 4 .any (fun w args => (Rows.cryptSharesSpec.pre enc Tryz.prog Tryz.f4 Rows.cryptSharesRow.domain false w args ∧ laidMetH Tryz.prog Rows.cryptSharesRow.laid w) ∧ sizedMet enc Tryz.prog Tryz.f4 (OpenSpec.ofChange Rows.cryptSharesSpec) false w args)
      (Rows.cryptSharesSpec.post enc Tryz.prog Tryz.f4 false true false false) := by
  refine returns_laid_shaped (C := Tryz.checked) (X := fun w _ => laidMetH Tryz.prog Rows.cryptSharesRow.laid w) (fun _ _ _ hh h => h.of_heap hh) own started (by kernel_rfl) Tryz.func4
    (ChangeSpec.witness_shaped (enc := enc) (C := Tryz.checked) (os := os) (X := fun w _ => laidMetH Tryz.prog Rows.cryptSharesRow.laid w) false (World.laidAll Tryz.prog os Rows.cryptSharesRow.laid) #[.slice none 0 0] 8 (World.laidAll_os _ _ _)
      (World.shaped_of_ZipB (by kernel_rfl) (by kernel_rfl)) (by kernel_rfl) (by kernel_rfl) (by kernel_rfl)
      (by rw [MakeChecks.laidMetH_plain _ _ _ (by kernel_rfl)]; exact laidMet_laidAll _ (by kernel_rfl) (by kernel_rfl))) ?_
  intro W base args ds gs before hval0 hW hL hsh
  have hval : ∀ (j : Nat) t v, Tryz.f4.params[j]? = some t → args[j]? = some v → Value.okWide Tryz.prog W .any base t v := hval0
  have hW' := hW
  obtain ⟨p, q, hA0, hV, rfl, hfz, hnd⟩ := hW
  have hA : DataW.TrodAll enc Tryz.prog W 0 (fun _ => true) true Tryz.f4.params.toList args.toList ds p := hA0
  rw [Tryz.params4] at hA hval
  obtain ⟨v0, vs0, d0, ds0, p0, q0, hargs, rfl, rfl, h0, r0⟩ := trodAll_cons hA
  obtain ⟨rfl, rfl, rfl⟩ := trodAll_nil r0
  obtain rfl : args = #[v0] := by cases args; simp_all
  obtain ⟨rfl, rfl⟩ := trodVars_none hV
  obtain ⟨a0, len0, cap0, rfl⟩ := okWide_slice Tryz.underlying22 (hval 0 22 v0 rfl rfl)
  have k0 := h0
  have lt0 : ∀ x ∈ p0, x.block < W.heap.size := by obtain ⟨m, hm⟩ := k0; exact DataW.trod_lt m _ _ _ hm
  obtain ⟨l0, rfl, hl0⟩ : ∃ l : List Int, l.length = len0 ∧ Ints W a0 cap0 l := by
    obtain ⟨fuel, hf⟩ := h0
    rcases open_ints Tryz.underlying22 Tryz.underlying3 (by kernel_rfl) hf with ⟨hcs, _⟩ | ⟨x, l, c, zs, hcs, _, hl, hm, hz, _, hcell, hwz⟩
    · simp [Value.cells] at hcs
      obtain ⟨rfl, rfl, rfl⟩ := hcs
      exact Ints.of_isRow (zs := []) (.inl ⟨rfl, rfl, rfl, rfl⟩)
    · simp [Value.cells] at hcs
      obtain ⟨rfl, rfl, rfl⟩ := hcs
      exact Ints.of_isRow (zs := zs) (.inr ⟨_, rfl, hl, hm, by simpa using hz, hcell, hwz⟩)
  rw [MakeChecks.laidMetH_plain _ _ _ (by kernel_rfl)] at hL
  have hE := env_of hsh hL
  clear hA0 hval0
  refine (shares_walk a0 cap0 l0 W hl0 hE).mono fun e W' ⟨he, hfr⟩ => ?_
  have bel : Below W.heap.size W W' := hfr.below (Nat.le_refl _) (fun b hb e => e)
  subst he
  exact ⟨_, rfl, _, _, _, [], _, [], hW', trodAll_mk1 (shut_bool Tryz.underlying4 _), (trodAll_cons_mk (Below.trod laidOut (by kernel_rfl) (of_decide_eq_true (by kernel_rfl)) k0 bel lt0) trodAll_mk0), rfl, bel.frame _, fun h => by cases h⟩

theorem isNamed : Tryz.pinned.checked.prog.funcNamed Rows.cryptSharesRow.func = some 4 := by kernel_rfl
theorem and2 {a b : Bool} (h : a = true) (k : b = true) : (a && b) = true := by rw [h, k]; rfl
theorem c0 : (Rows.cryptSharesRow.wf (OpenSpec.ofChange Rows.cryptSharesSpec)) = true := by kernel_rfl
theorem c1 : (laidOutB Tryz.pinned.checked.prog) = true := by kernel_rfl
theorem c2 : (mapsRowed Tryz.pinned.checked.prog) = true := by kernel_rfl
theorem c3 : (Tryz.f4.params.all (Tryz.pinned.checked.prog.readableRec ·)) = true := by kernel_rfl
theorem c4 : (namedTie Tryz.pinned.checked.prog Rows.cryptSharesRow.named Rows.cryptSharesSpec.vars) = true := by kernel_rfl
theorem c5 : ((Rows.cryptSharesRow.stops == [])) = true := by kernel_rfl
theorem c6 : ((Tryz.pinned.checked.prog.stops == [])) = true := by kernel_rfl
theorem c7 : ((Rows.cryptSharesRow.knobs == [])) = true := by kernel_rfl
theorem c8 : ((Tryz.pinned.checked.prog.stopKnobs == [])) = true := by kernel_rfl
theorem c9 : ((Rows.cryptSharesRow.inPlace == Tryz.pinned.checked.prog.inPlace 4)) = true := by kernel_rfl
theorem c10 : ((Rows.cryptSharesRow.unfollowed == Tryz.pinned.checked.prog.unfollowed 4)) = true := by kernel_rfl
theorem c11 : ((Rows.cryptSharesRow.recurses == Tryz.pinned.checked.prog.recurses 4)) = true := by kernel_rfl
theorem c12 : ((Rows.cryptSharesRow.named == Tryz.pinned.checked.prog.varsNamed 4)) = true := by kernel_rfl
theorem c13 : ((Rows.cryptSharesRow.maps == (Tryz.f4.params.toList ++ Rows.cryptSharesSpec.plain.varTypes Tryz.pinned.checked.prog).any (Tryz.pinned.checked.prog.mapsRec ·))) = true := by kernel_rfl
theorem c14 : ((Rows.cryptSharesRow.ifaces == (Tryz.f4.params.toList ++ Rows.cryptSharesSpec.plain.varTypes Tryz.pinned.checked.prog).any (Tryz.pinned.checked.prog.ifacesRec ·))) = true := by kernel_rfl
theorem c15 : ((Rows.cryptSharesRow.mapsOut == Tryz.pinned.checked.prog.mapsAmong Tryz.f4.resultTypes.toList)) = true := by kernel_rfl
theorem c16 : ((Rows.cryptSharesRow.loops == (Tryz.f4.params.toList ++ Rows.cryptSharesSpec.plain.varTypes Tryz.pinned.checked.prog).any (Tryz.pinned.checked.prog.loopsFrom ·))) = true := by kernel_rfl
theorem c17 : ((Rows.cryptSharesRow.wideKeys == (Tryz.f4.params.toList ++ Rows.cryptSharesSpec.plain.varTypes Tryz.pinned.checked.prog ++ Tryz.f4.resultTypes.toList).any (Tryz.pinned.checked.prog.wideKeysFrom ·))) = true := by kernel_rfl
theorem c18 : (Rows.cryptSharesSpec.vars.all (Tryz.pinned.checked.prog.varReadable ·)) = true := by kernel_rfl
theorem c19 : (Tryz.f4.resultTypes.all (fun t => Tryz.pinned.checked.prog.readableRec t && decide (t < Tryz.pinned.checked.prog.types.size))) = true := by kernel_rfl
theorem c20 : ((Rows.cryptSharesRow.ifacesOut == Tryz.f4.resultTypes.toList.any (Tryz.pinned.checked.prog.ifacesRec ·))) = true := by kernel_rfl
theorem c21 : ((Rows.cryptSharesRow.loopsOut == Tryz.f4.resultTypes.toList.any (Tryz.pinned.checked.prog.loopsFrom ·))) = true := by kernel_rfl
theorem c22 : ((Rows.cryptSharesRow.plainKeys == Tryz.pinned.checked.prog.plainKeys)) = true := by kernel_rfl
theorem c23 : (Rows.cryptSharesRow.shortTexts.isNone) = true := by kernel_rfl
theorem c24 : (Tryz.pinned.checked.prog.stopsHeard) = true := by kernel_rfl
theorem c25 : (Tryz.pinned.checked.prog.mayEnter) = true := by kernel_rfl
theorem c26 : ((Rows.cryptSharesRow.lifted == Tryz.pinned.checked.prog.liftsFinal)) = true := by kernel_rfl
theorem c27 : ((Tryz.pinned.checked.prog.make == some Rows.cryptSharesRow.make)) = true := by kernel_rfl
theorem c28 : ((Rows.cryptSharesRow.kinds == (if Rows.cryptSharesRow.domain.isEmpty then [] else Tryz.f4.params.toList.map fun t => match Tryz.pinned.checked.prog.underlying t with | some (.int k) => some k | _ => none))) = true := by kernel_rfl
theorem c29 : ((Rows.cryptSharesRow.pinned == Rows.cryptSharesRow.pinnedBy)) = true := by kernel_rfl
theorem c30 : ((Rows.cryptSharesRow.veiled == (Tryz.f4.params.toList ++ Rows.cryptSharesSpec.plain.varTypes Tryz.pinned.checked.prog ++ Tryz.f4.resultTypes.toList).any (Tryz.pinned.checked.prog.veiledRec ·))) = true := by kernel_rfl
theorem c31 : (Rows.cryptSharesRow.veiledFits Tryz.pinned.checked.prog Tryz.f4.params.toList (Tryz.f4.params.toList ++ Rows.cryptSharesSpec.plain.varTypes Tryz.pinned.checked.prog ++ Tryz.f4.resultTypes.toList)) = true := by kernel_rfl
set_option maxRecDepth 100000 in
theorem closed : joinedFacts Tryz.pinned.checked.prog 4 Tryz.f4 Rows.cryptSharesSpec Rows.cryptSharesRow = true := by
  unfold joinedFacts
  exact (and2 (and2 (and2 (and2 (and2 (and2 (and2 (and2 (and2 (and2 (and2 (and2 (and2 (and2 (and2 (and2 (and2 (and2 (and2 (and2 (and2 (and2 (and2 (and2 (and2 (and2 (and2 (and2 (and2 (and2 (and2 c0 c1) c2) c3) c4) c5) c6) c7) c8) c9) c10) c11) c12) c13) c14) c15) c16) c17) c18) c19) c20) c21) c22) c23) c24) c25) c26) c27) c28) c29) c30) c31)
theorem inst : Tryz.f4.isInstance Tryz.pinned.checked.prog Rows.cryptSharesRow.origin Rows.cryptSharesRow.targs := of_decide_eq_true (by kernel_rfl)
theorem wrap : Tryz.f4.isWrapper Tryz.pinned.checked.prog Rows.cryptSharesRow.wrapper Rows.cryptSharesRow.mainSum := by
  unfold Func.isWrapper; first | (rw [if_pos (by decide +kernel)]; kernel_rfl) | (rw [if_neg (by decide +kernel)]; exact ⟨rfl, rfl⟩)
theorem over : Rows.cryptSharesRow.holds Tryz.pinned (OpenSpec.ofChange Rows.cryptSharesSpec) :=
  OpenClaim.holds_of_wide 4 Tryz.f4 rfl rfl rfl rfl rfl rfl rfl ⟨rfl, rfl, rfl, rfl, rfl⟩ rfl rfl rfl rfl rfl isNamed Tryz.func4 closed inst wrap
    (fun os started H enc _ => lifted os started H enc)

theorem t1 : Rows.cryptSharesRow.wfByText (OpenSpec.ofChange Rows.cryptSharesSpec) = true := by kernel_rfl
theorem t2 : Tryz.pinned.checked.prog.mainIs = some ((true, "177d71cd04eb8f01a4c58fd606c8e7c617fc26990225ed53480681c1f264cbbf").1, (true, "177d71cd04eb8f01a4c58fd606c8e7c617fc26990225ed53480681c1f264cbbf").2.toList) := by kernel_rfl
theorem t3 : true = Tryz.pinned.checked.prog.looks [] := by kernel_rfl
theorem t4 : false = Rows.cryptSharesRow.goesBy Tryz.pinned.checked.prog := by kernel_rfl
theorem t5 : Tryz.prog.funcNamed "coldplug/coldpluglaw33.CryptShares" = some 4 := by kernel_rfl
theorem t6 : ([22].all fun u => !Tryz.prog.wantsStandIn u) = true := by kernel_rfl
theorem proved : Rows.CryptSharesCardSaid :=
  Claim7.holds_tied_plain_at .later [] [.data, .data, .data, .data, .sentinel, .sentinel, .pinned, .pinned] true (true, "177d71cd04eb8f01a4c58fd606c8e7c617fc26990225ed53480681c1f264cbbf") true over (fun _ h => by cases h) t1 (fun _ h => by cases h) cryptShares_row_tie rfl ⟨rfl, rfl⟩ t2 rfl
    (fun f fn hf hfn => by
      obtain rfl : f = 4 := Option.some.inj (t5.symm.trans hf) |>.symm
      obtain rfl : fn = Tryz.f4 := (Option.some.inj (Tryz.func4.symm.trans hfn)).symm
      exact ⟨t3, fun j t ht => by
        rw [Tryz.params4] at ht
        have hm : t ∈ [22] := by simpa using Array.mem_of_getElem? ht
        have hall : ([22].all fun u => !Tryz.prog.wantsStandIn u) = true := t6
        exact (show Tryz.prog.wantsStandIn t = false by simpa using List.all_eq_true.1 hall t hm)⟩)
    t4
#print axioms proved
end Go.Proofs.YtmieegcgeolckaaGreatDoor.cryptShares
