/- The law VolumeNames returns true at every input and leaves its arguments as they were. Conditions: none beyond the given statement's own. -/
import Derived.Test.YtmieegcgeolckaaGreatDoorZV21
import Derived.Test.YtmieegcgeolckaaGreatDoorCards
import Derived.Test.YtmieegcgeolckaaGreatDoorTie
import Derived.WalkKit
import Derived.ProofKit
import Derived.OpenShut
import Derived.ShutString
import Derived.ChangeOld
import Derived.Below
import Derived.LaidMore
import Derived.Lay
import Derived.SevenTiedAt
import Derived.Shelf.Vars
import Derived.Stop.LaidErr
import Derived.MakeChecks
import Derived.SizedLaws
namespace Go.Proofs.YtmieegcgeolckaaGreatDoor
open Go.RowKit Go.Maps
set_option linter.unusedVariables false

theorem last_sep {a b x y : List UInt8} (hx : (45 : UInt8) ∉ x) (hy : (45 : UInt8) ∉ y) (h : a ++ 45 :: x = b ++ 45 :: y) : a = b ∧ x = y := by
  induction a generalizing b with
  | nil =>
    cases b with
    | nil => simp at h; exact ⟨rfl, h⟩
    | cons c b =>
      simp only [List.nil_append, List.cons_append, List.cons.injEq] at h
      rw [h.2] at hx
      simp at hx
  | cons c a ih =>
    cases b with
    | nil =>
      simp only [List.nil_append, List.cons_append, List.cons.injEq] at h
      rw [← h.2] at hy
      simp at hy
    | cons d b =>
      simp only [List.cons_append, List.cons.injEq] at h
      obtain ⟨h1, h2⟩ := ih h.2
      exact ⟨by rw [h.1, h1], h2⟩
theorem it_dash : ∀ i : Fin 17, (45 : UInt8) ∉ Lib.itoa ((i.val : Nat) : Int) := by decide +kernel
theorem it_inj : ∀ i j : Fin 17, Lib.itoa ((i.val : Nat) : Int) = Lib.itoa ((j.val : Nat) : Int) → i = j := by decide +kernel
theorem lvT_list (a : ByteArray) (i : Int) : (lvT a i).data.toList = [108, 118, 45] ++ (a.data.toList ++ 45 :: Lib.itoa i) := by
  unfold lvT
  simp [ByteArray.data_append]
theorem lvT_inj {a b : ByteArray} {i k : Int} (hi : 1 ≤ i ∧ i ≤ 16) (hk : 1 ≤ k ∧ k ≤ 16) (h : lvT a i = lvT b k) : a = b ∧ i = k := by
  have h1 := congrArg (fun s => s.data.toList) h
  simp only [lvT_list] at h1
  have h2 := List.append_cancel_left h1
  obtain ⟨n, rfl⟩ : ∃ n : Nat, i = (n : Int) := ⟨i.toNat, by omega⟩
  obtain ⟨m, rfl⟩ : ∃ m : Nat, k = (m : Int) := ⟨k.toNat, by omega⟩
  obtain ⟨h3, h4⟩ := last_sep (it_dash ⟨n, by omega⟩) (it_dash ⟨m, by omega⟩) h2
  have h5 := it_inj ⟨n, by omega⟩ ⟨m, by omega⟩ h4
  simp only [Fin.mk.injEq] at h5
  exact ⟨ByteArray.ext (Array.ext' h3), by rw [h5]⟩
theorem lvOk_range {a : ByteArray} {i : Int} (h : lvOk a i = true) : 1 ≤ i ∧ i ≤ 16 := by
  unfold lvOk at h
  simp only [Bool.and_eq_true, decide_eq_true_eq] at h
  exact h.1
theorem txt_ne {x y : ByteArray} (h : x ≠ y) : (x.toList == y.toList) = false := by
  cases e : (x.toList == y.toList) with
  | false => rfl
  | true =>
    rw [beq_iff_eq, ByteArray.toList_eq, ByteArray.toList_eq] at e
    exact absurd (ByteArray.ext (Array.ext' e)) h

set_option maxRecDepth 100000 in
set_option maxHeartbeats 4000000 in
theorem names_walk (a b : ByteArray) (i k : Int) (w : World) (ha : a.size ≤ 140737488355328) (hb : b.size ≤ 140737488355328) (hi : (Lit.int .i64 i).wf = true) (hk : (Lit.int .i64 k).wf = true) (hE : Env w) :
    Calls Tryz.prog 11 #[.string a, .string b, .int .i64 i, .int .i64 k] w fun e w' => e = .returned (.bool true) ∧ Fr No w w' := by
  go_enter Tryz.func11, Tryz.ntmps11
  by_cases h200 : (200 : Int) < (a.size : Int) + (b.size : Int)
  · go_wp2_with fail
    refine (known34 w hE).mono ?_
    rintro e w1 ⟨rfl, hf⟩
    have Hf := Lib.hid hf
    clear hf
    go_wp2_with fail
    go_ret
    exact ⟨rfl, Hf.out⟩
  · have h1 := v_name a i w hE (by omega) hi
    rcases ho : lvOk a i with _ | _
    · rw [ho] at h1
      simp only [Bool.false_eq_true, if_false] at h1
      rcases ho2 : lvOk b k with _ | _
      · have Ho := Lib.hid ho
        have Ho2 := Lib.hid ho2
        clear ho ho2
        go_wp2_with fail
        refine h1.mono ?_
        rintro e w1 ⟨rfl, hf1⟩
        have hE1 := hE.no hf1
        have h2 := v_name b k w1 hE1 (by omega) hk
        rw [Ho2.out] at h2
        simp only [Bool.false_eq_true, if_false] at h2
        clear h1
        go_wp2_with fail
        refine h2.mono ?_
        rintro e w2 ⟨rfl, hf2⟩
        have hE2 := hE1.no hf2
        have hf02 := hf1.step hf2 (fun _ _ h => h)
        have hkn := known34 w2 hE2
        have Hf02 := Lib.hid hf02
        clear h2 hf1 hf2 hf02 hE1 hE2 hE
        go_wp2_with fail
        refine hkn.mono ?_
        rintro e w3 ⟨rfl, hf3⟩
        have Hf := Lib.hid (Hf02.out.step hf3 (fun _ _ h => h))
        clear hf3
        go_wp2_with fail
        go_ret
        exact ⟨rfl, Hf.out⟩
      · have Ho := Lib.hid ho
        have Ho2 := Lib.hid ho2
        clear ho ho2
        obtain ⟨t, ht⟩ : ∃ t, t = lvT b k := ⟨_, rfl⟩
        go_wp2_with fail
        refine h1.mono ?_
        rintro e w1 ⟨rfl, hf1⟩
        have hE1 := hE.no hf1
        have h2 := v_name b k w1 hE1 (by omega) hk
        rw [Ho2.out, ← ht] at h2
        simp only [if_true] at h2
        clear ht
        clear h1
        go_wp2_with fail
        refine h2.mono ?_
        rintro e w2 ⟨rfl, hf2⟩
        have hE2 := hE1.no hf2
        have hf02 := hf1.step hf2 (fun _ _ h => h)
        have hkn := known34 w2 hE2
        have Hf02 := Lib.hid hf02
        clear h2 hf1 hf2 hf02 hE1 hE2 hE
        go_wp2_with fail
        refine hkn.mono ?_
        rintro e w3 ⟨rfl, hf3⟩
        have Hf := Lib.hid (Hf02.out.step hf3 (fun _ _ h => h))
        clear hf3
        go_wp2_with fail
        go_ret
        exact ⟨rfl, Hf.out⟩
    · rw [ho] at h1
      simp only [if_true] at h1
      have hr1 := lvOk_range ho
      rcases ho2 : lvOk b k with _ | _
      · have Ho := Lib.hid ho
        have Ho2 := Lib.hid ho2
        clear ho ho2
        obtain ⟨s, hs⟩ : ∃ s, s = lvT a i := ⟨_, rfl⟩
        rw [← hs] at h1
        clear hs
        go_wp2_with fail
        refine h1.mono ?_
        rintro e w1 ⟨rfl, hf1⟩
        have hE1 := hE.no hf1
        have h2 := v_name b k w1 hE1 (by omega) hk
        rw [Ho2.out] at h2
        simp only [Bool.false_eq_true, if_false] at h2
        clear h1
        go_wp2_with fail
        refine h2.mono ?_
        rintro e w2 ⟨rfl, hf2⟩
        have hE2 := hE1.no hf2
        have hf02 := hf1.step hf2 (fun _ _ h => h)
        have hkn := known34 w2 hE2
        have Hf02 := Lib.hid hf02
        clear h2 hf1 hf2 hf02 hE1 hE2 hE
        go_wp2_with fail
        refine hkn.mono ?_
        rintro e w3 ⟨rfl, hf3⟩
        have Hf := Lib.hid (Hf02.out.step hf3 (fun _ _ h => h))
        clear hf3
        go_wp2_with fail
        go_ret
        exact ⟨rfl, Hf.out⟩
      · have hr2 := lvOk_range ho2
        have Ho := Lib.hid ho
        have Ho2 := Lib.hid ho2
        clear ho ho2
        by_cases hab : a = b
        · subst hab
          by_cases hik : i = k
          · subst hik
            obtain ⟨s, hs⟩ : ∃ s, s = lvT a i := ⟨_, rfl⟩
            rw [← hs] at h1
            clear hr1 hr2
            go_wp2_with fail
            refine h1.mono ?_
            rintro e w1 ⟨rfl, hf1⟩
            have hE1 := hE.no hf1
            have h2 := v_name a i w1 hE1 (by omega) hi
            rw [Ho.out, ← hs] at h2
            simp only [if_true] at h2
            clear hs
            clear h1
            go_wp2_with fail
            refine h2.mono ?_
            rintro e w2 ⟨rfl, hf2⟩
            have hE2 := hE1.no hf2
            have hf02 := hf1.step hf2 (fun _ _ h => h)
            have hkn := known34 w2 hE2
            have Hf02 := Lib.hid hf02
            clear h2 hf1 hf2 hf02 hE1 hE2 hE
            go_wp2_with fail
            refine hkn.mono ?_
            rintro e w3 ⟨rfl, hf3⟩
            have Hf := Lib.hid (Hf02.out.step hf3 (fun _ _ h => h))
            clear hf3
            go_wp2_with fail
            go_ret
            exact ⟨rfl, Hf.out⟩
          · have hne : ((lvT a i).toList == (lvT a k).toList) = false := txt_ne (fun h => hik (lvT_inj hr1 hr2 h).2)
            have hne2 : (i == k) = false := by simpa using hik
            obtain ⟨s, hs⟩ : ∃ s, s = lvT a i := ⟨_, rfl⟩
            obtain ⟨t, ht⟩ : ∃ t, t = lvT a k := ⟨_, rfl⟩
            rw [← hs, ← ht] at hne
            rw [← hs] at h1
            have Hik := Lib.hid hik
            clear hr1 hr2 hik hs
            go_wp2_with fail
            refine h1.mono ?_
            rintro e w1 ⟨rfl, hf1⟩
            have hE1 := hE.no hf1
            have h2 := v_name a k w1 hE1 (by omega) hk
            rw [Ho2.out, ← ht] at h2
            simp only [if_true] at h2
            clear ht
            clear h1
            go_wp2_with fail
            refine h2.mono ?_
            rintro e w2 ⟨rfl, hf2⟩
            have hE2 := hE1.no hf2
            have hf02 := hf1.step hf2 (fun _ _ h => h)
            have hkn := known34 w2 hE2
            have Hf02 := Lib.hid hf02
            clear h2 hf1 hf2 hf02 hE1 hE2 hE
            go_wp2_with fail
            refine hkn.mono ?_
            rintro e w3 ⟨rfl, hf3⟩
            have Hf := Lib.hid (Hf02.out.step hf3 (fun _ _ h => h))
            clear hf3
            go_wp2_with fail
            go_ret
            exact ⟨rfl, Hf.out⟩
        · have hne : ((lvT a i).toList == (lvT b k).toList) = false := txt_ne (fun h => hab (lvT_inj hr1 hr2 h).1)
          have hne2 := txt_ne hab
          obtain ⟨s, hs⟩ : ∃ s, s = lvT a i := ⟨_, rfl⟩
          obtain ⟨t, ht⟩ : ∃ t, t = lvT b k := ⟨_, rfl⟩
          rw [← hs, ← ht] at hne
          rw [← hs] at h1
          have Hab := Lib.hid hab
          clear hr1 hr2 hab hs
          go_wp2_with fail
          refine h1.mono ?_
          rintro e w1 ⟨rfl, hf1⟩
          have hE1 := hE.no hf1
          have h2 := v_name b k w1 hE1 (by omega) hk
          rw [Ho2.out, ← ht] at h2
          simp only [if_true] at h2
          clear ht
          clear h1
          go_wp2_with fail
          refine h2.mono ?_
          rintro e w2 ⟨rfl, hf2⟩
          have hE2 := hE1.no hf2
          have hf02 := hf1.step hf2 (fun _ _ h => h)
          have hkn := known34 w2 hE2
          have Hf02 := Lib.hid hf02
          clear h2 hf1 hf2 hf02 hE1 hE2 hE
          go_wp2_with fail
          refine hkn.mono ?_
          rintro e w3 ⟨rfl, hf3⟩
          have Hf := Lib.hid (Hf02.out.step hf3 (fun _ _ h => h))
          clear hf3
          go_wp2_with fail
          go_ret
          exact ⟨rfl, Hf.out⟩
end Go.Proofs.YtmieegcgeolckaaGreatDoor
namespace Go.Proofs.YtmieegcgeolckaaGreatDoor.volumeNames
open Go.ChangeShapes Go.WideShapes Go.ChangeAt Go.RowKit
open Go.ChangeMaps (open_string shut_string)
set_option linter.unusedVariables false

theorem own : ownKnob Tryz.prog.godebug = none := by kernel_rfl
theorem laidOut : laidOutB Tryz.prog = true := by kernel_rfl

/-- As the frame of the text Laid, and the contract is told the row's size bound too. -/
theorem returns_laid_sized {H : Type} {enc : TypeId × Value → H} {a : Assume} {C : Checked} {os : Os} {f : FuncId} {fn : Func} {s : ChangeSpec} {conds : List PathCond} {apart fresh handsOn again : Bool} {X : World → Array Value → Prop}
    (hX : ∀ (w w' : World) (args : Array Value), w.heap = w'.heap → X w args → X w' args)
    (own : ownKnob C.prog.godebug = none) (started : os.Started) (noInit : C.prog.inits.idxOf? f = none) (hfn : C.prog.funcs[f]? = some fn)
    (witness : ∃ (w : World) (tape : Go.Tape) (i : Input), w.os = os ∧ (w.forCall tape i).Shaped C.prog ∧ i.vars = [] ∧ Input.okWide C.prog (w.forCall tape i) .any w.heap.size f i ∧
      ((s.pre enc C.prog fn conds apart (w.forCall tape i).memory i.args ∧ X (w.forCall tape i).memory i.args) ∧ sizedMet enc C.prog fn (OpenSpec.ofChange s) apart (w.forCall tape i).memory i.args) ∧ a.holds C.prog (lone (Frame.enter C.prog f i.args .normal) [] (w.forCall tape i)))
    (contract : ∀ (W : World) (base : Nat) (args : Array Value) (ds gs : List (DataW H)) (before : List MemPlace) (ds2 gs2 : List (DataW H)) (before2 : List MemPlace),
      (∀ (j : Nat) t v, fn.params[j]? = some t → args[j]? = some v → Value.okWide C.prog W .any base t v) →
      DataW.Whole enc C.prog fn.params.toList s.vars apart W args.toList ds gs before →
      DataW.Whole enc C.prog fn.params.toList s.vars apart W args.toList ds2 gs2 before2 →
      (DataW.weightsEach C.prog (fn.params.toList ++ (OpenSpec.ofChange s).bare.plain.varTypes C.prog) (ds2 ++ gs2)).all (· ≤ reachBytes) = true →
      X W args → W.ShapedOpen C.prog →
      Calls C.prog f args W fun e W' => ∃ v, e = .returned v ∧ s.post enc C.prog fn apart fresh handsOn again W args v W') :
    ReturnsInHanded a C os f .any (fun w args => (s.pre enc C.prog fn conds apart w args ∧ X w args) ∧ sizedMet enc C.prog fn (OpenSpec.ofChange s) apart w args) (s.post enc C.prog fn apart fresh handsOn again) := by
  refine returnsInHanded_of_calls own started noInit witness ?_
  intro w tape i _ hsh _ hok hpre hholds
  obtain ⟨_, _, _, fn', hfn', _, _, _, _, hval⟩ := hok
  have e : fn' = fn := Option.some.inj (hfn'.symm.trans hfn)
  subst e
  obtain ⟨⟨⟨ds, gs, before, hw, hc⟩, hx⟩, _, ds2, gs2, before2, hw2, hz⟩ := hpre
  have hw' := DataW.Whole.of_heap (w' := w.forCall tape i) (by rfl) hw
  have hw2' := DataW.Whole.of_heap (w' := w.forCall tape i) (by rfl) hw2
  refine (contract (w.forCall tape i) w.heap.size i.args ds gs before ds2 gs2 before2 hval hw' hw2' hz (hX _ _ _ (by rfl) hx) hsh).mono fun e W' ⟨v, he, hp⟩ => ?_
  subst he
  exact ChangeSpec.post_blind hp

set_option maxRecDepth 100000 in
theorem lifted (os : Os) (started : os.Started) (H : Type) (enc : TypeId × Value → H) :
    ReturnsInHanded {} Tryz.checked os 11 .any (fun w args => (Rows.volumeNamesSpec.pre enc Tryz.prog Tryz.f11 Rows.volumeNamesRow.domain false w args ∧ laidMetH Tryz.prog Rows.volumeNamesRow.laid w) ∧ sizedMet enc Tryz.prog Tryz.f11 (OpenSpec.ofChange Rows.volumeNamesSpec) false w args)
      (Rows.volumeNamesSpec.post enc Tryz.prog Tryz.f11 false true false false) := by
  refine returns_laid_sized (C := Tryz.checked) (X := fun w _ => laidMetH Tryz.prog Rows.volumeNamesRow.laid w) (fun _ _ _ hh h => h.of_heap hh) own started (by kernel_rfl) Tryz.func11
    (ChangeSpec.witness_shaped (enc := enc) (C := Tryz.checked) (os := os) (X := fun w _ => laidMetH Tryz.prog Rows.volumeNamesRow.laid w) false (World.laidAll Tryz.prog os Rows.volumeNamesRow.laid) #[.string ⟨#[]⟩, .string ⟨#[]⟩, .int .i64 0, .int .i64 0] 8 (World.laidAll_os _ _ _)
      (World.shaped_of_ZipB (by kernel_rfl) (by kernel_rfl)) (by kernel_rfl) (by kernel_rfl) (by kernel_rfl)
      (by rw [MakeChecks.laidMetH_plain _ _ _ (by kernel_rfl)]; exact laidMet_laidAll _ (by kernel_rfl) (by kernel_rfl))) ?_
  intro W base args ds gs before ds2 gs2 before2 hval0 hW hW2 hz hL hsh
  have hval : ∀ (j : Nat) t v, Tryz.f11.params[j]? = some t → args[j]? = some v → Value.okWide Tryz.prog W .any base t v := hval0
  have hW' := hW
  obtain ⟨p, q, hA0, hV, rfl, hfz, hnd⟩ := hW
  have hA : DataW.TrodAll enc Tryz.prog W 0 (fun _ => true) true Tryz.f11.params.toList args.toList ds p := hA0
  rw [Tryz.params11] at hA hval
  obtain ⟨v0, vs0, d0, ds0, p0, q0, hargs, rfl, rfl, h0, r0⟩ := trodAll_cons hA
  obtain ⟨v1, vs1, d1, ds1, p1, q1, rfl, rfl, rfl, h1, r1⟩ := trodAll_cons r0
  obtain ⟨v2, vs2, d2, ds2', p2, q2, rfl, rfl, rfl, h2, r2⟩ := trodAll_cons r1
  obtain ⟨v3, vs3, d3, ds3, p3, q3, rfl, rfl, rfl, h3, r3⟩ := trodAll_cons r2
  obtain ⟨rfl, rfl, rfl⟩ := trodAll_nil r3
  obtain rfl : args = #[v0, v1, v2, v3] := by cases args; simp_all
  obtain ⟨rfl, rfl⟩ := trodVars_none hV
  obtain ⟨a0, rfl, rfl, rfl, w0⟩ := open_string Tryz.underlying9 (hval 0 9 v0 rfl rfl) h0
  obtain ⟨a1, rfl, rfl, rfl, w1⟩ := open_string Tryz.underlying9 (hval 1 9 v1 rfl rfl) h1
  obtain ⟨a2, rfl, rfl, rfl, w2⟩ := open_int Tryz.underlying3 (hval 2 3 v2 rfl rfl) h2
  obtain ⟨a3, rfl, rfl, rfl, w3⟩ := open_int Tryz.underlying3 (hval 3 3 v3 rfl rfl) h3
  obtain ⟨b0, b1⟩ : a0.size ≤ 140737488355328 ∧ a1.size ≤ 140737488355328 := by
    obtain ⟨p', q', hB0, _⟩ := hW2
    have hB : DataW.TrodAll enc Tryz.prog W 0 (fun _ => true) true Tryz.f11.params.toList [.string a0, .string a1, .int .i64 a2, .int .i64 a3] ds2 p' := hB0
    rw [Tryz.params11] at hB
    obtain ⟨u0, us0, e0, es0, _, _, ha0, hds0, _, g0, s0⟩ := trodAll_cons hB
    simp only [List.cons.injEq] at ha0
    obtain ⟨rfl, rfl⟩ := ha0
    obtain ⟨u1, us1, e1, es1, _, _, ha1, hds1, _, g1, s1⟩ := trodAll_cons s0
    simp only [List.cons.injEq] at ha1
    obtain ⟨rfl, rfl⟩ := ha1
    obtain ⟨x0, ex0, ed0, _, _⟩ := open_string Tryz.underlying9 (hval 0 9 _ rfl rfl) g0
    obtain ⟨x1, ex1, ed1, _, _⟩ := open_string Tryz.underlying9 (hval 1 9 _ rfl rfl) g1
    cases ex0
    cases ex1
    have k0 := sized_string hz (j := 0) (t := 9) (bytes := a0.data.toList) rfl (by rw [hds0, ed0]; rfl)
    have k1 := sized_string hz (j := 1) (t := 9) (bytes := a1.data.toList) rfl (by rw [hds0, hds1, ed1]; rfl)
    have kr : reachBytes = 140737488351232 := rfl
    rw [kr] at k0 k1
    have z0 : a0.size = a0.data.toList.length := by rw [Array.length_toList]; rfl
    have z1 : a1.size = a1.data.toList.length := by rw [Array.length_toList]; rfl
    omega
  rw [MakeChecks.laidMetH_plain _ _ _ (by kernel_rfl)] at hL
  have hE := env_of hsh hL
  clear hA0 hval0
  refine (names_walk a0 a1 a2 a3 W b0 b1 w2 w3 hE).mono fun e W' ⟨he, hfr⟩ => ?_
  have bel : Below W.heap.size W W' := hfr.below (Nat.le_refl _) (fun b hb e => e)
  subst he
  exact ⟨_, rfl, _, _, _, [], _, [], hW', trodAll_mk1 (shut_bool Tryz.underlying4 _), (trodAll_cons_mk (shut_string Tryz.underlying9 w0) (trodAll_cons_mk (shut_string Tryz.underlying9 w1) (trodAll_cons_mk (shut_int Tryz.underlying3 w2) (trodAll_cons_mk (shut_int Tryz.underlying3 w3) trodAll_mk0)))), rfl, bel.frame _, fun h => by cases h⟩

theorem isNamed : Tryz.pinned.checked.prog.funcNamed Rows.volumeNamesRow.func = some 11 := by kernel_rfl
theorem and2 {a b : Bool} (h : a = true) (k : b = true) : (a && b) = true := by rw [h, k]; rfl
theorem c0 : (Rows.volumeNamesRow.wf (OpenSpec.ofChange Rows.volumeNamesSpec)) = true := by kernel_rfl
theorem c1 : (laidOutB Tryz.pinned.checked.prog) = true := by kernel_rfl
theorem c2 : (mapsRowed Tryz.pinned.checked.prog) = true := by kernel_rfl
theorem c3 : (Tryz.f11.params.all (Tryz.pinned.checked.prog.readableRec ·)) = true := by kernel_rfl
theorem c4 : (namedTie Tryz.pinned.checked.prog Rows.volumeNamesRow.named Rows.volumeNamesSpec.vars) = true := by kernel_rfl
theorem c5 : ((Rows.volumeNamesRow.stops == [])) = true := by kernel_rfl
theorem c6 : ((Tryz.pinned.checked.prog.stops == [])) = true := by kernel_rfl
theorem c7 : ((Rows.volumeNamesRow.knobs == [])) = true := by kernel_rfl
theorem c8 : ((Tryz.pinned.checked.prog.stopKnobs == [])) = true := by kernel_rfl
theorem c9 : ((Rows.volumeNamesRow.inPlace == Tryz.pinned.checked.prog.inPlace 11)) = true := by kernel_rfl
theorem c10 : ((Rows.volumeNamesRow.unfollowed == Tryz.pinned.checked.prog.unfollowed 11)) = true := by kernel_rfl
theorem c11 : ((Rows.volumeNamesRow.recurses == Tryz.pinned.checked.prog.recurses 11)) = true := by kernel_rfl
theorem c12 : ((Rows.volumeNamesRow.named == Tryz.pinned.checked.prog.varsNamed 11)) = true := by kernel_rfl
theorem c13 : ((Rows.volumeNamesRow.maps == (Tryz.f11.params.toList ++ Rows.volumeNamesSpec.plain.varTypes Tryz.pinned.checked.prog).any (Tryz.pinned.checked.prog.mapsRec ·))) = true := by kernel_rfl
theorem c14 : ((Rows.volumeNamesRow.ifaces == (Tryz.f11.params.toList ++ Rows.volumeNamesSpec.plain.varTypes Tryz.pinned.checked.prog).any (Tryz.pinned.checked.prog.ifacesRec ·))) = true := by kernel_rfl
theorem c15 : ((Rows.volumeNamesRow.mapsOut == Tryz.pinned.checked.prog.mapsAmong Tryz.f11.resultTypes.toList)) = true := by kernel_rfl
theorem c16 : ((Rows.volumeNamesRow.loops == (Tryz.f11.params.toList ++ Rows.volumeNamesSpec.plain.varTypes Tryz.pinned.checked.prog).any (Tryz.pinned.checked.prog.loopsFrom ·))) = true := by kernel_rfl
theorem c17 : ((Rows.volumeNamesRow.wideKeys == (Tryz.f11.params.toList ++ Rows.volumeNamesSpec.plain.varTypes Tryz.pinned.checked.prog ++ Tryz.f11.resultTypes.toList).any (Tryz.pinned.checked.prog.wideKeysFrom ·))) = true := by kernel_rfl
theorem c18 : (Rows.volumeNamesSpec.vars.all (Tryz.pinned.checked.prog.varReadable ·)) = true := by kernel_rfl
theorem c19 : (Tryz.f11.resultTypes.all (fun t => Tryz.pinned.checked.prog.readableRec t && decide (t < Tryz.pinned.checked.prog.types.size))) = true := by kernel_rfl
theorem c20 : ((Rows.volumeNamesRow.ifacesOut == Tryz.f11.resultTypes.toList.any (Tryz.pinned.checked.prog.ifacesRec ·))) = true := by kernel_rfl
theorem c21 : ((Rows.volumeNamesRow.loopsOut == Tryz.f11.resultTypes.toList.any (Tryz.pinned.checked.prog.loopsFrom ·))) = true := by kernel_rfl
theorem c22 : ((Rows.volumeNamesRow.plainKeys == Tryz.pinned.checked.prog.plainKeys)) = true := by kernel_rfl
theorem c23 : (Rows.volumeNamesRow.shortTexts.isNone) = true := by kernel_rfl
theorem c24 : (Tryz.pinned.checked.prog.stopsHeard) = true := by kernel_rfl
theorem c25 : (Tryz.pinned.checked.prog.mayEnter) = true := by kernel_rfl
theorem c26 : ((Rows.volumeNamesRow.lifted == Tryz.pinned.checked.prog.liftsFinal)) = true := by kernel_rfl
theorem c27 : ((Tryz.pinned.checked.prog.make == some Rows.volumeNamesRow.make)) = true := by kernel_rfl
theorem c28 : ((Rows.volumeNamesRow.kinds == (if Rows.volumeNamesRow.domain.isEmpty then [] else Tryz.f11.params.toList.map fun t => match Tryz.pinned.checked.prog.underlying t with | some (.int k) => some k | _ => none))) = true := by kernel_rfl
theorem c29 : ((Rows.volumeNamesRow.pinned == Rows.volumeNamesRow.pinnedBy)) = true := by kernel_rfl
theorem c30 : ((Rows.volumeNamesRow.veiled == (Tryz.f11.params.toList ++ Rows.volumeNamesSpec.plain.varTypes Tryz.pinned.checked.prog ++ Tryz.f11.resultTypes.toList).any (Tryz.pinned.checked.prog.veiledRec ·))) = true := by kernel_rfl
theorem c31 : (Rows.volumeNamesRow.veiledFits Tryz.pinned.checked.prog Tryz.f11.params.toList (Tryz.f11.params.toList ++ Rows.volumeNamesSpec.plain.varTypes Tryz.pinned.checked.prog ++ Tryz.f11.resultTypes.toList)) = true := by kernel_rfl
set_option maxRecDepth 100000 in
theorem closed : joinedFacts Tryz.pinned.checked.prog 11 Tryz.f11 Rows.volumeNamesSpec Rows.volumeNamesRow = true := by
  unfold joinedFacts
  exact (and2 (and2 (and2 (and2 (and2 (and2 (and2 (and2 (and2 (and2 (and2 (and2 (and2 (and2 (and2 (and2 (and2 (and2 (and2 (and2 (and2 (and2 (and2 (and2 (and2 (and2 (and2 (and2 (and2 (and2 (and2 c0 c1) c2) c3) c4) c5) c6) c7) c8) c9) c10) c11) c12) c13) c14) c15) c16) c17) c18) c19) c20) c21) c22) c23) c24) c25) c26) c27) c28) c29) c30) c31)
theorem inst : Tryz.f11.isInstance Tryz.pinned.checked.prog Rows.volumeNamesRow.origin Rows.volumeNamesRow.targs := of_decide_eq_true (by kernel_rfl)
theorem wrap : Tryz.f11.isWrapper Tryz.pinned.checked.prog Rows.volumeNamesRow.wrapper Rows.volumeNamesRow.mainSum := by
  unfold Func.isWrapper; first | (rw [if_pos (by decide +kernel)]; kernel_rfl) | (rw [if_neg (by decide +kernel)]; exact ⟨rfl, rfl⟩)
theorem over : Rows.volumeNamesRow.holds Tryz.pinned (OpenSpec.ofChange Rows.volumeNamesSpec) :=
  OpenClaim.holds_of_wide 11 Tryz.f11 rfl rfl rfl rfl rfl rfl rfl ⟨rfl, rfl, rfl, rfl, rfl⟩ rfl rfl rfl rfl rfl isNamed Tryz.func11 closed inst wrap
    (fun os started H enc _ => lifted os started H enc)

theorem t1 : Rows.volumeNamesRow.wfByText (OpenSpec.ofChange Rows.volumeNamesSpec) = true := by kernel_rfl
theorem t2 : Tryz.pinned.checked.prog.mainIs = some ((true, "177d71cd04eb8f01a4c58fd606c8e7c617fc26990225ed53480681c1f264cbbf").1, (true, "177d71cd04eb8f01a4c58fd606c8e7c617fc26990225ed53480681c1f264cbbf").2.toList) := by kernel_rfl
theorem t3 : true = Tryz.pinned.checked.prog.looks [] := by kernel_rfl
theorem t4 : false = Rows.volumeNamesRow.goesBy Tryz.pinned.checked.prog := by kernel_rfl
theorem t5 : Tryz.prog.funcNamed "coldplug/coldpluglaw34.VolumeNames" = some 11 := by kernel_rfl
theorem t6 : ([9, 9, 3, 3].all fun u => !Tryz.prog.wantsStandIn u) = true := by kernel_rfl
theorem proved : Rows.VolumeNamesCardSaid :=
  Claim7.holds_tied_plain_at .later [] [.data, .data, .data, .data, .sentinel, .sentinel, .pinned, .pinned] true (true, "177d71cd04eb8f01a4c58fd606c8e7c617fc26990225ed53480681c1f264cbbf") true over (fun _ h => by cases h) t1 (fun _ h => by cases h) volumeNames_row_tie rfl ⟨rfl, rfl⟩ t2 rfl
    (fun f fn hf hfn => by
      obtain rfl : f = 11 := Option.some.inj (t5.symm.trans hf) |>.symm
      obtain rfl : fn = Tryz.f11 := (Option.some.inj (Tryz.func11.symm.trans hfn)).symm
      exact ⟨t3, fun j t ht => by
        rw [Tryz.params11] at ht
        have hm : t ∈ [9, 9, 3, 3] := by simpa using Array.mem_of_getElem? ht
        have hall : ([9, 9, 3, 3].all fun u => !Tryz.prog.wantsStandIn u) = true := t6
        exact (show Tryz.prog.wantsStandIn t = false by simpa using List.all_eq_true.1 hall t hm)⟩)
    t4
#print axioms proved
end Go.Proofs.YtmieegcgeolckaaGreatDoor.volumeNames
