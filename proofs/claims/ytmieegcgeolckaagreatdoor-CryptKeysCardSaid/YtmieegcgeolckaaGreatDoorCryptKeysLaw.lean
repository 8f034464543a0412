/- The law CryptKeys returns true at every input and leaves its arguments as they were. Conditions: none beyond the given statement's own. -/
import Derived.Test.YtmieegcgeolckaaGreatDoorZ14
import Derived.Test.YtmieegcgeolckaaGreatDoorCards
import Derived.Test.YtmieegcgeolckaaGreatDoorTie
import Derived.WalkKit
import Derived.ProofKit
import Derived.OpenShut
import Derived.ShutString
import Derived.ChangeOld
import Derived.Below
import Derived.LaidMore
import Derived.Lay
import Derived.SevenTiedAt
import Derived.Shelf.Vars
import Derived.Stop.LaidErr
import Derived.MakeChecks
namespace Go.Proofs.YtmieegcgeolckaaGreatDoor
open Go.RowKit Go.Maps
set_option linter.unusedVariables false

/-- What was opened, out of what is opened with one more key. -/
theorem key_pick {L : List Mem} {ids K : List ByteArray} (hids : IsIds L ids) (key : ByteArray) {A : Bool} (hA : A = hasS (asked ids K) key) :
    opened ids K = (opened ids (K ++ [key])).filter (fun x => !(A && decide (x = key))) ∧ (A = false → (opened ids (K ++ [key])).length = (opened ids K).length) ∧ (A = true → (opened ids (K ++ [key])).length = (opened ids K).length + 1) := by
  rcases opened_key (K := K) (AscS.nodup hids.asc) key with ⟨h1, h2⟩ | ⟨h1, h2, h3⟩
  · rw [h1] at hA; subst hA
    refine ⟨?_, fun _ => by rw [h2], (fun h => by cases h)⟩
    rw [h2, List.filter_eq_self.2 (fun x _ => by simp)]
  · rw [h1] at hA; subst hA
    refine ⟨?_, (fun h => by cases h), fun _ => h3⟩
    simpa using h2

set_option maxRecDepth 100000 in
set_option maxHeartbeats 8000000 in
theorem keys_walk (la : Option Addr) (lc : Nat) (l : List Int) (key : ByteArray) (w : World) (hl : Ints w la lc l) (hk : key.size ≤ maxLen) (hE : Env w) :
    Calls Tryz.prog 5 #[.slice la l.length lc, .string key] w fun e w' => e = .returned (.bool true) ∧ Fr No w w' := by
  by_cases hkl : 100 < key.size
  · have hkl' : (100 : Int) < key.size := by omega
    have hkn := known33 w hE
    go_enter Tryz.func5, Tryz.ntmps5
    go_wp2_with fail
    refine hkn.mono ?_
    rintro e wf ⟨rfl, hff⟩
    go_wp2_with fail
    go_ret
    exact ⟨rfl, hff⟩
  have hkl' : ¬ (100 : Int) < key.size := by omega
  obtain ⟨i0, hi0, hz0, hz1, hz2⟩ := info_parts infoS
  have hx : Fr No w (w.alloc (.cells #[.slice la l.length lc, .int .i64 0] 26)) := (Fr.refl _ _).alloc _
  have ht := Tape.make hl 26
  have hE0 := hE.no hx
  have hs0 : (w.alloc (.cells #[.slice la l.length lc, .int .i64 0] 26)).heap.size = w.heap.size + 1 := by simp
  have hsz := hE.sz
  go_enter Tryz.func5, Tryz.ntmps5
  go_upto_region 4 with (fail)
  generalize w.alloc (.cells #[.slice la l.length lc, .int .i64 0] 26) = W0 at *
  have hlay := made_layers w.heap.size w.heap.size 0 W0 ht (by omega)
  go_wp2_with fail
  refine hlay.mono ?_
  rintro e w1 ⟨⟨L, a1, c1, k1, rfl, hL, hLf, hLm, hLo, hLl, hk1, ht1⟩, hf1⟩
  have hkey := made_keys w.heap.size w.heap.size k1 w1 ht1 (by omega)
  have hs1 := hf1.size
  clear hlay ht ht1
  go_wp2_with fail
  refine hkey.mono ?_
  rintro e w2 ⟨⟨K, a2, c2, k2, rfl, hK, hKf, hKs, hKl, hk2, ht2⟩, hf2⟩
  have hs2 := hf2.size
  have hL2 := hL.fr hf2 (fun ad e _ h => by have := hLf ad e; unfold Is at h; omega) (fun m hm ad e _ h => by have := (hLm m hm).2.2 ad e; unfold Is at h; omega)
  have hf12 := hf1.step hf2 (fun _ _ h => h)
  have hE2 := hE0.fr hf12 (fun b hb h => by unfold Is at h; omega)
  have hfw2 : Fr No w w2 := (hx.mono (fun _ _ h => h)).trans hf12 (fun _ _ h => h) (fun b hb h => by unfold Is at h; omega)
  have hsm := lay_small hLo hLl
  have hKz : ∀ x ∈ K, x.size ≤ maxLen := fun x hx => by have := hKs x hx; unfold maxLen; omega
  obtain ⟨m0, hm2⟩ := hE2.len
  clear hkey hL hLf hLm ht2 hf1 hf2 hf12 hx hE0 hE
  have hop := c_open a1 c1 L a2 c2 K 1 m0 w2 hL2 hsm hK (by omega) hKz hm2 (by omega)
  go_wp2_with fail
  refine hop.mono ?_
  rintro e w4 ⟨⟨va, vc, V, ids, rfl, hV, _, hids, hVe, hil⟩, hf4⟩
  have HVe := Lib.hid hVe
  have Hids := Lib.hid hids
  have hL4 := hL2.no hf4 (fun _ => id)
  have hK4 := hK.no hf4 (fun _ => id)
  have hm4 := hf4.cell hm2 id
  have hE4 := hE2.no hf4
  have hs4 := hf4.size
  have hfw4 := hfw2.step hf4 (fun _ _ h => h)
  clear hop hL2 hK hm2 hf4 hfw2 hE2 hVe hids
  have hnl := hK4.isNil
  go_wp2_with (first
    | (at_builtin; have hown1 := own1; (refine wpList_append_own _ rfl _ _ 27 rfl w4.heap.size 9 i0 (.string ByteArray.empty) 1 16 Tryz.underlying27 hi0 hz0 hz1 hz2 rfl (by decide) _ _ _ rfl (own1.alloc _) ⟨w5.heap.size, 0, none⟩ 1 1 [.string key] rfl rfl (cell_one_new _ _ _) (strs_one [key]) (by unfold maxLen; omega) (by omega) (by first | omega | (simp; done) | (simp; omega)) ?_); intro v' w6 own2 gr2 _; obtain ⟨av2, cv2, rfl⟩ := ownsRow_slice own2)
    | (at_builtin; refine wpList_append_src rfl _ _ 27 rfl w4.heap.size 9 i0 (.string ByteArray.empty) 1 16 Tryz.underlying27 hi0 hz0 hz1 hz2 rfl (by decide) _ 0 [] rfl (World.ownsRow_nil _ _ _ _) a2 K.length _ (K.map Value.string) rfl (fun e => ⟨by rw [(hnl e).1]; rfl, (hnl e).2⟩) (by simp) (fun ad' e => hK4.src' ad' e) (strs_one K) (by unfold maxLen; omega) (by omega) (by first | omega | (simp; done) | (simp; omega)) ?_; intro v' w5 own1 gr1; have hs5 := gr1.size; simp only [Nat.zero_add, List.nil_append] at own1; obtain ⟨av1, cv1, rfl⟩ := ownsRow_slice own1))
  have hl1 : (K ++ [key]).length = K.length + 1 := by simp
  have hst := Strs.of_own (w := w6) (base := w4.heap.size) (e := 9) (v := .slice av2 (K.length + 1) cv2) (l := K ++ [key]) (by rw [hl1, List.map_append]; exact own2)
  obtain ⟨a6, c6, e6, hS6, hF6⟩ := hst
  rw [hl1] at e6
  cases e6
  have hf46 : Fr No w4 w6 := ((((Fr.refl (From w4.heap.size) w4).step (Fr.of_grown gr1) (fun b hb h => by cases h)).step ((Fr.refl No w5).alloc (.cells #[.string key] 9)) (fun _ _ h => h.elim)).step (Fr.of_grown gr2) (fun b hb h => by have := ownsRow_blk (own1.alloc (.cells #[.string key] 9)) h; exact this)).mono (fun b hb h => by unfold From at h; omega)
  have hL6 := hL4.no hf46 (fun _ => id)
  have hV6 := hV.no hf46 (fun _ => id)
  have hK6 := hK4.no hf46 (fun _ => id)
  have hm6 := hf46.cell hm4 id
  have hE6 := hE4.no hf46
  have hfw6 := hfw4.step hf46 (fun _ _ h => h)
  have hs6 := hf46.size
  have hKz6 : ∀ x ∈ K ++ [key], x.size ≤ maxLen := fun x hx => by
    rcases List.mem_append.1 hx with h | h
    · exact hKz x h
    · obtain rfl : x = key := by simpa using h
      exact hk
  clear own1 gr1 own2 gr2 hs5 hnl hf46 hL4 hV hK4 hm4 hE4 hfw4 hF6
  have hop := c_open a1 c1 L av2 cv2 (K ++ [key]) 1 m0 w6 hL6 hsm hS6 (by have := hl1; omega) hKz6 hm6 (by omega)
  rw [hl1] at hop
  clear hl1
  refine hop.mono ?_
  rintro e w7 ⟨⟨na, nc, U, ids', rfl, hU, _, hids', hUe, _⟩, hf7⟩
  obtain rfl := Hids.out.unique hids' (fun _ => rfl)
  have HUe := Lib.hid hUe
  have hL7 := hL6.no hf7 (fun _ => id)
  have hV7 := hV6.no hf7 (fun _ => id)
  have hK7 := hK6.no hf7 (fun _ => id)
  have hm7 := hf7.cell hm6 id
  have hE7 := hE6.no hf7
  have hfw7 := hfw6.step hf7 (fun _ _ h => h)
  have hs7 := hf7.size
  clear hop hids' hUe hL6 hV6 hK6 hm6 hE6 hfw6 hS6 hf7 hKz6
  have hak := c_asks a1 c1 L a2 c2 K m0 w7 hL7 hsm hK7 (by omega) hKz hm7 (by omega)
  go_wp2_with fail
  refine hak.mono ?_
  rintro e w8 ⟨⟨xa, xc, X, ids', rfl, hX, _, hids', hXe, _⟩, hf8⟩
  obtain rfl := Hids.out.unique hids' (fun _ => rfl)
  have HXe := Lib.hid hXe
  clear hak hids' hXe
  have hin := ref_in32 xa xc X key w8 hX
  go_wp2_with fail
  refine hin.mono ?_
  rintro e w9 ⟨rfl, hf9⟩
  have hf79 := hf8.step hf9 (fun _ _ h => h)
  have hU9 := hU.no hf79 (fun _ => id)
  have hV9 := hV7.no hf79 (fun _ => id)
  have hE9 := hE7.no hf79
  have hfw9 := hfw7.step hf79 (fun _ _ h => h)
  obtain ⟨A, hA⟩ : ∃ A, A = hasS X key := ⟨_, rfl⟩
  rw [← hA]
  obtain ⟨e1, e2, e3⟩ := key_pick (K := K) Hids.out key (A := A) (by rw [hA, HXe.out])
  have E1 := Lib.hid e1
  have HU : Hid (U.length = (opened ids (K ++ [key])).length) := by unfold Hid; rw [HUe.out, List.length_map]
  have HV : Hid (V.length = (opened ids K).length) := by unfold Hid; rw [HVe.out, List.length_map]
  have hUl : U.length ≤ 8 := by have := opened_le ids (K ++ [key]); have := HU.out; omega
  have hVl : V.length ≤ 8 := by have := opened_le ids K; have := HV.out; omega
  clear hA e1 hin hX hf8 hf9 hf79 hU hV7 hE7 hfw7 hL7 hK7 hm7
  rcases A with _ | _
  · have hlen : U.length = V.length := by have := e2 rfl; have := HU.out; have := HV.out; omega
    have h1 : ((U.length : Int) != V.length) = false := by simp [hlen]
    clear e2 e3 hlen
    go_upto_region 9 with (fail)
    obtain ⟨nl, hnl⟩ : ∃ nl, nl = opened ids (K ++ [key]) := ⟨_, rfl⟩
    obtain ⟨p, hpp⟩ : ∃ p, p = (fun x : ByteArray => !(false && decide (x = key))) := ⟨_, rfl⟩
    have Ewl : Hid (opened ids K = nl.filter p) := by unfold Hid; rw [hnl, hpp]; exact E1.out
    have Unl : Hid (U = nl.map (virOf L 1)) := by unfold Hid; rw [hnl]; exact HUe.out
    have Hlu : Hid (U.length = nl.length) := by unfold Hid; rw [Unl.out, List.length_map]
    have Hpp := Lib.hid hpp
    clear hnl hpp
    go_wp2_with fail
    go_loopw [11, 12] (fun v i wr => ∃ j : Nat, j ≤ U.length ∧ v = .int .i64 (((nl.take j).filter p).length : Nat) ∧ i = .int .i64 (j : Int) ∧ Fr No w9 wr) (fun _ i _ => U.length - (intOf i).toNat)
    case atStart => exact ⟨0, by omega, by simp, rfl, Fr.refl _ _⟩
    case round =>
      obtain ⟨j, hj, rfl, rfl, hfr⟩ := hrel
      have hi8 : ((nl.take j).filter p).length ≤ 8 := by have h1 := List.length_filter_le p (nl.take j); simp only [List.length_take] at h1; omega
      obtain ⟨i, hi⟩ : ∃ i, i = ((nl.take j).filter p).length := ⟨_, rfl⟩
      rw [← hi] at hi8 ⊢
      have Hi := Lib.hid hi
      clear hi
      by_cases hlt : j < U.length
      · have hlt2 : (j : Int) < U.length := by omega
        have hln : j < nl.length := by have := Hlu.out; omega
        obtain ⟨x, hx⟩ : ∃ x, nl[j]? = some x := ⟨_, List.getElem?_eq_getElem hln⟩
        have Hx := Lib.hid hx
        have Htk : Hid ((nl.take (j + 1)).filter p = (nl.take j).filter p ++ (if p x = true then [x] else [])) := by
          unfold Hid; rw [List.take_add_one, hx, List.filter_append]; congr 1
          show List.filter p [x] = _
          rw [List.filter_cons]; split <;> rfl
        have Hux : Hid (U[j]? = some (virOf L 1 x)) := by unfold Hid; rw [Unl.out, List.getElem?_map, hx]; rfl
        clear hx hln
        rcases hpx : p x with _ | _
        · exfalso
          rw [Hpp.out] at hpx
          simp at hpx
        · have Hn : Hid (((nl.take (j + 1)).filter p).length = i + 1) := by unfold Hid; rw [Htk.out, hpx, Hi.out]; simp
          have Hvi : Hid (V[i]? = some (virOf L 1 x)) := by unfold Hid; rw [HVe.out, List.getElem?_map, Ewl.out, Hi.out, filter_at p nl j x Hx.out hpx]; rfl
          have hiv : i < V.length := (List.getElem?_eq_some_iff.1 Hvi.out).1
          have hiv2 : (i : Int) < V.length := by omega
          clear hpx
          go_wp2_with fail
          refine region_sig No [(0, false), (1, false), (2, false), (3, false), (4, false), (5, false), (6, false), (7, false), (8, false), (9, false), (10, false), (11, false), (12, false), (13, false), (14, false)] (by kernel_rfl) (by kernel_rfl) (fun w0 hf0 => ?_)
          have hfr2 := hfr.step hf0 (fun _ _ h => h)
          obtain ⟨ub, uo, u, e1, hu, ⟨u0, u1, u2, u3⟩, _⟩ := (hU9.no hfr2 (fun _ => id)).elem hlt
          obtain ⟨vb, vo, v, e2, hv, ⟨v0, v1, v2, v3⟩, _⟩ := (hV9.no hfr2 (fun _ => id)).elem hiv
          obtain rfl : u = v := by rw [Hux.out] at hu; rw [Hvi.out] at hv; cases hu; cases hv; rfl
          subst e1 e2
          have g0 : ∀ g : Gr No w0, g.W.cell? ⟨ub, uo + j * 4, none⟩ = some (.string u.q) := fun g => g.fr.cell u0 id
          have g1 : ∀ g : Gr No w0, g.W.cell? ⟨ub, uo + j * 4 + 1, none⟩ = some (.string u.o) := fun g => g.fr.cell u1 id
          have g2 : ∀ g : Gr No w0, g.W.cell? ⟨ub, uo + j * 4 + 2, none⟩ = some (.string u.c) := fun g => g.fr.cell u2 id
          have g3 : ∀ g : Gr No w0, g.W.cell? ⟨ub, uo + j * 4 + 3, none⟩ = some (.int .i64 u.r) := fun g => g.fr.cell u3 id
          have h0 : ∀ g : Gr No w0, g.W.cell? ⟨vb, vo + i * 4, none⟩ = some (.string u.q) := fun g => g.fr.cell v0 id
          have h1 : ∀ g : Gr No w0, g.W.cell? ⟨vb, vo + i * 4 + 1, none⟩ = some (.string u.o) := fun g => g.fr.cell v1 id
          have h2 : ∀ g : Gr No w0, g.W.cell? ⟨vb, vo + i * 4 + 2, none⟩ = some (.string u.c) := fun g => g.fr.cell v2 id
          have h3 : ∀ g : Gr No w0, g.W.cell? ⟨vb, vo + i * 4 + 3, none⟩ = some (.int .i64 u.r) := fun g => g.fr.cell v3 id
          clear hu hv u0 u1 u2 u3 v0 v1 v2 v3
          repeat (first | (apply sig_q; exact rfl; exact rfl; exact rfl; intro K hK; go_big_quiet_op; go_big_quiet_on) | (apply sig_skip; exact rfl; exact rfl; exact rfl; intro K hK; go_big_quiet_op; go_big_quiet_on))
          clear g0 g1 g2 g3 h0 h1 h2 h3
          refine sig_end ?_
          go_wp2_with fail
          go_roundw
          case rel => exact ⟨j + 1, by omega, by rw [Hn.out]; go_num, by go_num, hfr2⟩
          case measure => simp [intOf]; omega
      · obtain rfl : j = U.length := by omega
        have Hil : Hid (i = V.length) := by unfold Hid; rw [Hi.out, Hlu.out, List.take_length, HV.out, Ewl.out]
        rw [Hil.out]
        have hkn := known33 wr (hE9.no hfr)
        go_wp2_with fail
        refine hkn.mono ?_
        rintro e wf ⟨rfl, hff⟩
        have hfin := hfw9.step (hfr.step hff (fun _ _ h => h)) (fun _ _ h => h)
        go_wp2_with fail
        go_ret
        exact ⟨rfl, hfin⟩
  · have hlen : U.length = V.length + 1 := by have := e3 rfl; have := HU.out; have := HV.out; omega
    have h1 : ((U.length : Int) != V.length) = true := by simp [hlen]; omega
    have h2 : ((U.length : Int) == V.length + 1) = true := by simp [hlen]
    have h3 : ((U.length : Int) == V.length) = false := by simp [hlen]; omega
    clear e2 e3 hlen
    go_upto_region 9 with (fail)
    obtain ⟨nl, hnl⟩ : ∃ nl, nl = opened ids (K ++ [key]) := ⟨_, rfl⟩
    obtain ⟨p, hpp⟩ : ∃ p, p = (fun x : ByteArray => !(true && decide (x = key))) := ⟨_, rfl⟩
    have Ewl : Hid (opened ids K = nl.filter p) := by unfold Hid; rw [hnl, hpp]; exact E1.out
    have Unl : Hid (U = nl.map (virOf L 1)) := by unfold Hid; rw [hnl]; exact HUe.out
    have Hlu : Hid (U.length = nl.length) := by unfold Hid; rw [Unl.out, List.length_map]
    have Hpp := Lib.hid hpp
    clear hnl hpp
    go_wp2_with fail
    go_loopw [11, 12] (fun v i wr => ∃ j : Nat, j ≤ U.length ∧ v = .int .i64 (((nl.take j).filter p).length : Nat) ∧ i = .int .i64 (j : Int) ∧ Fr No w9 wr) (fun _ i _ => U.length - (intOf i).toNat)
    case atStart => exact ⟨0, by omega, by simp, rfl, Fr.refl _ _⟩
    case round =>
      obtain ⟨j, hj, rfl, rfl, hfr⟩ := hrel
      have hi8 : ((nl.take j).filter p).length ≤ 8 := by have h1 := List.length_filter_le p (nl.take j); simp only [List.length_take] at h1; omega
      obtain ⟨i, hi⟩ : ∃ i, i = ((nl.take j).filter p).length := ⟨_, rfl⟩
      rw [← hi] at hi8 ⊢
      have Hi := Lib.hid hi
      clear hi
      by_cases hlt : j < U.length
      · have hlt2 : (j : Int) < U.length := by omega
        have hln : j < nl.length := by have := Hlu.out; omega
        obtain ⟨x, hx⟩ : ∃ x, nl[j]? = some x := ⟨_, List.getElem?_eq_getElem hln⟩
        have Hx := Lib.hid hx
        have Htk : Hid ((nl.take (j + 1)).filter p = (nl.take j).filter p ++ (if p x = true then [x] else [])) := by
          unfold Hid; rw [List.take_add_one, hx, List.filter_append]; congr 1
          show List.filter p [x] = _
          rw [List.filter_cons]; split <;> rfl
        have Hux : Hid (U[j]? = some (virOf L 1 x)) := by unfold Hid; rw [Unl.out, List.getElem?_map, hx]; rfl
        clear hx hln
        rcases hpx : p x with _ | _
        · have HxK : Hid (x = key) := by have h := hpx; rw [Hpp.out] at h; unfold Hid; simp at h; exact h
          have Hn : Hid (((nl.take (j + 1)).filter p).length = i) := by unfold Hid; rw [Htk.out, hpx, Hi.out]; simp
          clear hpx
          by_cases hiv : i < V.length
          · have hiv2 : (i : Int) < V.length := by omega
            go_wp2_with fail
            refine region_sig No [(0, false), (1, false), (2, false), (3, false), (4, false), (5, false), (6, false), (7, false), (8, false), (9, false), (10, false), (11, false), (12, false), (13, false), (14, false)] (by kernel_rfl) (by kernel_rfl) (fun w0 hf0 => ?_)
            have hfr2 := hfr.step hf0 (fun _ _ h => h)
            obtain ⟨ub, uo, u, e1, hu, ⟨u0, u1, u2, u3⟩, _⟩ := (hU9.no hfr2 (fun _ => id)).elem hlt
            obtain ⟨vb, vo, v, e2, hv, ⟨v0, v1, v2, v3⟩, _⟩ := (hV9.no hfr2 (fun _ => id)).elem hiv
            have huo : u.o = openT ++ key := by rw [Hux.out] at hu; cases hu; rw [HxK.out]; rfl
            have hne : (u.o.toList == v.o.toList) = false := by
              rw [strEq, decide_eq_false_iff_not]
              intro he
              rw [HVe.out, List.getElem?_map] at hv
              obtain ⟨y, hy, rfl⟩ := Option.map_eq_some_iff.1 hv
              have h1 : openT ++ key = openT ++ y := by rw [← huo, he]; rfl
              have h2 := append_inj h1
              have h3 := List.mem_of_getElem? hy
              rw [Ewl.out] at h3
              have h4 := (List.mem_filter.1 h3).2
              rw [Hpp.out, ← h2] at h4
              simp at h4
            have hko : (u.o.toList == ((⟨#[111, 112, 101, 110, 45]⟩ : ByteArray) ++ key).toList) = true := by rw [huo]; unfold openT; simp
            subst e1 e2
            have g0 : ∀ g : Gr No w0, g.W.cell? ⟨ub, uo + j * 4, none⟩ = some (.string u.q) := fun g => g.fr.cell u0 id
            have g1 : ∀ g : Gr No w0, g.W.cell? ⟨ub, uo + j * 4 + 1, none⟩ = some (.string u.o) := fun g => g.fr.cell u1 id
            have g2 : ∀ g : Gr No w0, g.W.cell? ⟨ub, uo + j * 4 + 2, none⟩ = some (.string u.c) := fun g => g.fr.cell u2 id
            have g3 : ∀ g : Gr No w0, g.W.cell? ⟨ub, uo + j * 4 + 3, none⟩ = some (.int .i64 u.r) := fun g => g.fr.cell u3 id
            have h0 : ∀ g : Gr No w0, g.W.cell? ⟨vb, vo + i * 4, none⟩ = some (.string v.q) := fun g => g.fr.cell v0 id
            have h1 : ∀ g : Gr No w0, g.W.cell? ⟨vb, vo + i * 4 + 1, none⟩ = some (.string v.o) := fun g => g.fr.cell v1 id
            have h2 : ∀ g : Gr No w0, g.W.cell? ⟨vb, vo + i * 4 + 2, none⟩ = some (.string v.c) := fun g => g.fr.cell v2 id
            have h3 : ∀ g : Gr No w0, g.W.cell? ⟨vb, vo + i * 4 + 3, none⟩ = some (.int .i64 v.r) := fun g => g.fr.cell v3 id
            clear hu hv huo v0 v1 v2 v3
            repeat (first | (apply sig_q; exact rfl; exact rfl; exact rfl; intro K hK; go_big_quiet_op; go_big_quiet_on) | (apply sig_skip; exact rfl; exact rfl; exact rfl; intro K hK; go_big_quiet_op; go_big_quiet_on))
            clear g0 g1 g2 g3 h0 h1 h2 h3
            refine sig_end ?_
            have hz : ¬ 9223372036854775807 < 5 + key.size := by omega
            go_wp2_with fail
            go_roundw
            case rel => exact ⟨j + 1, by omega, by rw [Hn.out], by go_num, hfr2⟩
            case measure => simp [intOf]; omega
          · have hiv2 : ¬ (i : Int) < V.length := by omega
            go_wp2_with fail
            refine region_sig No [(0, false), (1, false), (2, false), (3, false), (4, false), (5, false), (6, false), (7, false), (8, false), (9, false), (10, false), (11, false), (12, false), (13, false), (14, false)] (by kernel_rfl) (by kernel_rfl) (fun w0 hf0 => ?_)
            have hfr2 := hfr.step hf0 (fun _ _ h => h)
            obtain ⟨ub, uo, u, e1, hu, ⟨u0, u1, u2, u3⟩, _⟩ := (hU9.no hfr2 (fun _ => id)).elem hlt
            have huo : u.o = openT ++ key := by rw [Hux.out] at hu; cases hu; rw [HxK.out]; rfl
            have hko : (u.o.toList == ((⟨#[111, 112, 101, 110, 45]⟩ : ByteArray) ++ key).toList) = true := by rw [huo]; unfold openT; simp
            subst e1
            clear hu huo
            repeat (first | (apply sig_q; exact rfl; exact rfl; exact rfl; intro K hK; go_big_quiet_op; go_big_quiet_on) | (apply sig_skip; exact rfl; exact rfl; exact rfl; intro K hK; go_big_quiet_op; go_big_quiet_on))
            refine sig_end ?_
            have hz : ¬ 9223372036854775807 < 5 + key.size := by omega
            go_wp2_with fail
            go_roundw
            case rel => exact ⟨j + 1, by omega, by rw [Hn.out], by go_num, hfr2⟩
            case measure => simp [intOf]; omega
        · have Hn : Hid (((nl.take (j + 1)).filter p).length = i + 1) := by unfold Hid; rw [Htk.out, hpx, Hi.out]; simp
          have Hvi : Hid (V[i]? = some (virOf L 1 x)) := by unfold Hid; rw [HVe.out, List.getElem?_map, Ewl.out, Hi.out, filter_at p nl j x Hx.out hpx]; rfl
          have hiv : i < V.length := (List.getElem?_eq_some_iff.1 Hvi.out).1
          have hiv2 : (i : Int) < V.length := by omega
          clear hpx
          go_wp2_with fail
          refine region_sig No [(0, false), (1, false), (2, false), (3, false), (4, false), (5, false), (6, false), (7, false), (8, false), (9, false), (10, false), (11, false), (12, false), (13, false), (14, false)] (by kernel_rfl) (by kernel_rfl) (fun w0 hf0 => ?_)
          have hfr2 := hfr.step hf0 (fun _ _ h => h)
          obtain ⟨ub, uo, u, e1, hu, ⟨u0, u1, u2, u3⟩, _⟩ := (hU9.no hfr2 (fun _ => id)).elem hlt
          obtain ⟨vb, vo, v, e2, hv, ⟨v0, v1, v2, v3⟩, _⟩ := (hV9.no hfr2 (fun _ => id)).elem hiv
          obtain rfl : u = v := by rw [Hux.out] at hu; rw [Hvi.out] at hv; cases hu; cases hv; rfl
          subst e1 e2
          have g0 : ∀ g : Gr No w0, g.W.cell? ⟨ub, uo + j * 4, none⟩ = some (.string u.q) := fun g => g.fr.cell u0 id
          have g1 : ∀ g : Gr No w0, g.W.cell? ⟨ub, uo + j * 4 + 1, none⟩ = some (.string u.o) := fun g => g.fr.cell u1 id
          have g2 : ∀ g : Gr No w0, g.W.cell? ⟨ub, uo + j * 4 + 2, none⟩ = some (.string u.c) := fun g => g.fr.cell u2 id
          have g3 : ∀ g : Gr No w0, g.W.cell? ⟨ub, uo + j * 4 + 3, none⟩ = some (.int .i64 u.r) := fun g => g.fr.cell u3 id
          have h0 : ∀ g : Gr No w0, g.W.cell? ⟨vb, vo + i * 4, none⟩ = some (.string u.q) := fun g => g.fr.cell v0 id
          have h1 : ∀ g : Gr No w0, g.W.cell? ⟨vb, vo + i * 4 + 1, none⟩ = some (.string u.o) := fun g => g.fr.cell v1 id
          have h2 : ∀ g : Gr No w0, g.W.cell? ⟨vb, vo + i * 4 + 2, none⟩ = some (.string u.c) := fun g => g.fr.cell v2 id
          have h3 : ∀ g : Gr No w0, g.W.cell? ⟨vb, vo + i * 4 + 3, none⟩ = some (.int .i64 u.r) := fun g => g.fr.cell v3 id
          clear hu hv u0 u1 u2 u3 v0 v1 v2 v3
          repeat (first | (apply sig_q; exact rfl; exact rfl; exact rfl; intro K hK; go_big_quiet_op; go_big_quiet_on) | (apply sig_skip; exact rfl; exact rfl; exact rfl; intro K hK; go_big_quiet_op; go_big_quiet_on))
          clear g0 g1 g2 g3 h0 h1 h2 h3
          refine sig_end ?_
          go_wp2_with fail
          go_roundw
          case rel => exact ⟨j + 1, by omega, by rw [Hn.out]; go_num, by go_num, hfr2⟩
          case measure => simp [intOf]; omega
      · obtain rfl : j = U.length := by omega
        have Hil : Hid (i = V.length) := by unfold Hid; rw [Hi.out, Hlu.out, List.take_length, HV.out, Ewl.out]
        rw [Hil.out]
        have hkn := known33 wr (hE9.no hfr)
        go_wp2_with fail
        refine hkn.mono ?_
        rintro e wf ⟨rfl, hff⟩
        have hfin := hfw9.step (hfr.step hff (fun _ _ h => h)) (fun _ _ h => h)
        go_wp2_with fail
        go_ret
        exact ⟨rfl, hfin⟩
end Go.Proofs.YtmieegcgeolckaaGreatDoor
namespace Go.Proofs.YtmieegcgeolckaaGreatDoor.cryptKeys
open Go.ChangeShapes Go.WideShapes Go.ChangeAt Go.RowKit
open Go.ChangeMaps (open_string shut_string)
set_option linter.unusedVariables false

theorem own : ownKnob Tryz.prog.godebug = none := by kernel_rfl
theorem laidOut : laidOutB Tryz.prog = true := by kernel_rfl

set_option maxRecDepth 100000 in
theorem lifted (os : Os) (started : os.Started) (H : Type) (enc : TypeId × Value → H) :
    ReturnsInHanded {} Tryz.checked os 5 .any (fun w args => (Rows.cryptKeysSpec.pre enc Tryz.prog Tryz.f5 Rows.cryptKeysRow.domain false w args ∧ laidMetH Tryz.prog Rows.cryptKeysRow.laid w) ∧ sizedMet enc Tryz.prog Tryz.f5 (OpenSpec.ofChange Rows.cryptKeysSpec) false w args)
      (Rows.cryptKeysSpec.post enc Tryz.prog Tryz.f5 false true false false) := by
  refine returns_laid_shaped (C := Tryz.checked) (X := fun w _ => laidMetH Tryz.prog Rows.cryptKeysRow.laid w) (fun _ _ _ hh h => h.of_heap hh) own started (by kernel_rfl) Tryz.func5
    (ChangeSpec.witness_shaped (enc := enc) (C := Tryz.checked) (os := os) (X := fun w _ => laidMetH Tryz.prog Rows.cryptKeysRow.laid w) false (World.laidAll Tryz.prog os Rows.cryptKeysRow.laid) #[.slice none 0 0, .string ⟨#[]⟩] 8 (World.laidAll_os _ _ _)
      (World.shaped_of_ZipB (by kernel_rfl) (by kernel_rfl)) (by kernel_rfl) (by kernel_rfl) (by kernel_rfl)
      (by rw [MakeChecks.laidMetH_plain _ _ _ (by kernel_rfl)]; exact laidMet_laidAll _ (by kernel_rfl) (by kernel_rfl))) ?_
  intro W base args ds gs before hval0 hW hL hsh
  have hval : ∀ (j : Nat) t v, Tryz.f5.params[j]? = some t → args[j]? = some v → Value.okWide Tryz.prog W .any base t v := hval0
  have hW' := hW
  obtain ⟨p, q, hA0, hV, rfl, hfz, hnd⟩ := hW
  have hA : DataW.TrodAll enc Tryz.prog W 0 (fun _ => true) true Tryz.f5.params.toList args.toList ds p := hA0
  rw [Tryz.params5] at hA hval
  obtain ⟨v0, vs0, d0, ds0, p0, q0, hargs, rfl, rfl, h0, r0⟩ := trodAll_cons hA
  obtain ⟨v1, vs1, d1, ds1, p1, q1, rfl, rfl, rfl, h1, r1⟩ := trodAll_cons r0
  obtain ⟨rfl, rfl, rfl⟩ := trodAll_nil r1
  obtain rfl : args = #[v0, v1] := by cases args; simp_all
  obtain ⟨rfl, rfl⟩ := trodVars_none hV
  obtain ⟨a0, len0, cap0, rfl⟩ := okWide_slice Tryz.underlying22 (hval 0 22 v0 rfl rfl)
  have k0 := h0
  have lt0 : ∀ x ∈ p0, x.block < W.heap.size := by obtain ⟨m, hm⟩ := k0; exact DataW.trod_lt m _ _ _ hm
  obtain ⟨l0, rfl, hl0⟩ : ∃ l : List Int, l.length = len0 ∧ Ints W a0 cap0 l := by
    obtain ⟨fuel, hf⟩ := h0
    rcases open_ints Tryz.underlying22 Tryz.underlying3 (by kernel_rfl) hf with ⟨hcs, _⟩ | ⟨x, l, c, zs, hcs, _, hl, hm, hz, _, hcell, hwz⟩
    · simp [Value.cells] at hcs
      obtain ⟨rfl, rfl, rfl⟩ := hcs
      exact Ints.of_isRow (zs := []) (.inl ⟨rfl, rfl, rfl, rfl⟩)
    · simp [Value.cells] at hcs
      obtain ⟨rfl, rfl, rfl⟩ := hcs
      exact Ints.of_isRow (zs := zs) (.inr ⟨_, rfl, hl, hm, by simpa using hz, hcell, hwz⟩)
  obtain ⟨a1, rfl, rfl, rfl, w1⟩ := open_string Tryz.underlying9 (hval 1 9 v1 rfl rfl) h1
  rw [MakeChecks.laidMetH_plain _ _ _ (by kernel_rfl)] at hL
  have hE := env_of hsh hL
  clear hA0 hval0
  refine (keys_walk a0 cap0 l0 a1 W hl0 w1 hE).mono fun e W' ⟨he, hfr⟩ => ?_
  have bel : Below W.heap.size W W' := hfr.below (Nat.le_refl _) (fun b hb e => e)
  subst he
  exact ⟨_, rfl, _, _, _, [], _, [], hW', trodAll_mk1 (shut_bool Tryz.underlying4 _), (trodAll_cons_mk (Below.trod laidOut (by kernel_rfl) (of_decide_eq_true (by kernel_rfl)) k0 bel lt0) (trodAll_cons_mk (shut_string Tryz.underlying9 w1) trodAll_mk0)), rfl, bel.frame _, fun h => by cases h⟩

theorem isNamed : Tryz.pinned.checked.prog.funcNamed Rows.cryptKeysRow.func = some 5 := by kernel_rfl
theorem and2 {a b : Bool} (h : a = true) (k : b = true) : (a && b) = true := by rw [h, k]; rfl
theorem c0 : (Rows.cryptKeysRow.wf (OpenSpec.ofChange Rows.cryptKeysSpec)) = true := by kernel_rfl
theorem c1 : (laidOutB Tryz.pinned.checked.prog) = true := by kernel_rfl
theorem c2 : (mapsRowed Tryz.pinned.checked.prog) = true := by kernel_rfl
theorem c3 : (Tryz.f5.params.all (Tryz.pinned.checked.prog.readableRec ·)) = true := by kernel_rfl
theorem c4 : (namedTie Tryz.pinned.checked.prog Rows.cryptKeysRow.named Rows.cryptKeysSpec.vars) = true := by kernel_rfl
theorem c5 : ((Rows.cryptKeysRow.stops == [])) = true := by kernel_rfl
theorem c6 : ((Tryz.pinned.checked.prog.stops == [])) = true := by kernel_rfl
theorem c7 : ((Rows.cryptKeysRow.knobs == [])) = true := by kernel_rfl
theorem c8 : ((Tryz.pinned.checked.prog.stopKnobs == [])) = true := by kernel_rfl
theorem c9 : ((Rows.cryptKeysRow.inPlace == Tryz.pinned.checked.prog.inPlace 5)) = true := by kernel_rfl
theorem c10 : ((Rows.cryptKeysRow.unfollowed == Tryz.pinned.checked.prog.unfollowed 5)) = true := by kernel_rfl
theorem c11 : ((Rows.cryptKeysRow.recurses == Tryz.pinned.checked.prog.recurses 5)) = true := by kernel_rfl
theorem c12 : ((Rows.cryptKeysRow.named == Tryz.pinned.checked.prog.varsNamed 5)) = true := by kernel_rfl
theorem c13 : ((Rows.cryptKeysRow.maps == (Tryz.f5.params.toList ++ Rows.cryptKeysSpec.plain.varTypes Tryz.pinned.checked.prog).any (Tryz.pinned.checked.prog.mapsRec ·))) = true := by kernel_rfl
theorem c14 : ((Rows.cryptKeysRow.ifaces == (Tryz.f5.params.toList ++ Rows.cryptKeysSpec.plain.varTypes Tryz.pinned.checked.prog).any (Tryz.pinned.checked.prog.ifacesRec ·))) = true := by kernel_rfl
theorem c15 : ((Rows.cryptKeysRow.mapsOut == Tryz.pinned.checked.prog.mapsAmong Tryz.f5.resultTypes.toList)) = true := by kernel_rfl
theorem c16 : ((Rows.cryptKeysRow.loops == (Tryz.f5.params.toList ++ Rows.cryptKeysSpec.plain.varTypes Tryz.pinned.checked.prog).any (Tryz.pinned.checked.prog.loopsFrom ·))) = true := by kernel_rfl
theorem c17 : ((Rows.cryptKeysRow.wideKeys == (Tryz.f5.params.toList ++ Rows.cryptKeysSpec.plain.varTypes Tryz.pinned.checked.prog ++ Tryz.f5.resultTypes.toList).any (Tryz.pinned.checked.prog.wideKeysFrom ·))) = true := by kernel_rfl
theorem c18 : (Rows.cryptKeysSpec.vars.all (Tryz.pinned.checked.prog.varReadable ·)) = true := by kernel_rfl
theorem c19 : (Tryz.f5.resultTypes.all (fun t => Tryz.pinned.checked.prog.readableRec t && decide (t < Tryz.pinned.checked.prog.types.size))) = true := by kernel_rfl
theorem c20 : ((Rows.cryptKeysRow.ifacesOut == Tryz.f5.resultTypes.toList.any (Tryz.pinned.checked.prog.ifacesRec ·))) = true := by kernel_rfl
theorem c21 : ((Rows.cryptKeysRow.loopsOut == Tryz.f5.resultTypes.toList.any (Tryz.pinned.checked.prog.loopsFrom ·))) = true := by kernel_rfl
theorem c22 : ((Rows.cryptKeysRow.plainKeys == Tryz.pinned.checked.prog.plainKeys)) = true := by kernel_rfl
theorem c23 : (Rows.cryptKeysRow.shortTexts.isNone) = true := by kernel_rfl
theorem c24 : (Tryz.pinned.checked.prog.stopsHeard) = true := by kernel_rfl
theorem c25 : (Tryz.pinned.checked.prog.mayEnter) = true := by kernel_rfl
theorem c26 : ((Rows.cryptKeysRow.lifted == Tryz.pinned.checked.prog.liftsFinal)) = true := by kernel_rfl
theorem c27 : ((Tryz.pinned.checked.prog.make == some Rows.cryptKeysRow.make)) = true := by kernel_rfl
theorem c28 : ((Rows.cryptKeysRow.kinds == (if Rows.cryptKeysRow.domain.isEmpty then [] else Tryz.f5.params.toList.map fun t => match Tryz.pinned.checked.prog.underlying t with | some (.int k) => some k | _ => none))) = true := by kernel_rfl
theorem c29 : ((Rows.cryptKeysRow.pinned == Rows.cryptKeysRow.pinnedBy)) = true := by kernel_rfl
theorem c30 : ((Rows.cryptKeysRow.veiled == (Tryz.f5.params.toList ++ Rows.cryptKeysSpec.plain.varTypes Tryz.pinned.checked.prog ++ Tryz.f5.resultTypes.toList).any (Tryz.pinned.checked.prog.veiledRec ·))) = true := by kernel_rfl
theorem c31 : (Rows.cryptKeysRow.veiledFits Tryz.pinned.checked.prog Tryz.f5.params.toList (Tryz.f5.params.toList ++ Rows.cryptKeysSpec.plain.varTypes Tryz.pinned.checked.prog ++ Tryz.f5.resultTypes.toList)) = true := by kernel_rfl
set_option maxRecDepth 100000 in
theorem closed : joinedFacts Tryz.pinned.checked.prog 5 Tryz.f5 Rows.cryptKeysSpec Rows.cryptKeysRow = true := by
  unfold joinedFacts
  exact (and2 (and2 (and2 (and2 (and2 (and2 (and2 (and2 (and2 (and2 (and2 (and2 (and2 (and2 (and2 (and2 (and2 (and2 (and2 (and2 (and2 (and2 (and2 (and2 (and2 (and2 (and2 (and2 (and2 (and2 (and2 c0 c1) c2) c3) c4) c5) c6) c7) c8) c9) c10) c11) c12) c13) c14) c15) c16) c17) c18) c19) c20) c21) c22) c23) c24) c25) c26) c27) c28) c29) c30) c31)
theorem inst : Tryz.f5.isInstance Tryz.pinned.checked.prog Rows.cryptKeysRow.origin Rows.cryptKeysRow.targs := of_decide_eq_true (by kernel_rfl)
theorem wrap : Tryz.f5.isWrapper Tryz.pinned.checked.prog Rows.cryptKeysRow.wrapper Rows.cryptKeysRow.mainSum := by
  unfold Func.isWrapper; first | (rw [if_pos (by decide +kernel)]; kernel_rfl) | (rw [if_neg (by decide +kernel)]; exact ⟨rfl, rfl⟩)
theorem over : Rows.cryptKeysRow.holds Tryz.pinned (OpenSpec.ofChange Rows.cryptKeysSpec) :=
  OpenClaim.holds_of_wide 5 Tryz.f5 rfl rfl rfl rfl rfl rfl rfl ⟨rfl, rfl, rfl, rfl, rfl⟩ rfl rfl rfl rfl rfl isNamed Tryz.func5 closed inst wrap
    (fun os started H enc _ => lifted os started H enc)

theorem t1 : Rows.cryptKeysRow.wfByText (OpenSpec.ofChange Rows.cryptKeysSpec) = true := by kernel_rfl
theorem t2 : Tryz.pinned.checked.prog.mainIs = some ((true, "177d71cd04eb8f01a4c58fd606c8e7c617fc26990225ed53480681c1f264cbbf").1, (true, "177d71cd04eb8f01a4c58fd606c8e7c617fc26990225ed53480681c1f264cbbf").2.toList) := by kernel_rfl
theorem t3 : true = Tryz.pinned.checked.prog.looks [] := by kernel_rfl
theorem t4 : false = Rows.cryptKeysRow.goesBy Tryz.pinned.checked.prog := by kernel_rfl
theorem t5 : Tryz.prog.funcNamed "coldplug/coldpluglaw33.CryptKeys" = some 5 := by kernel_rfl
theorem t6 : ([22, 9].all fun u => !Tryz.prog.wantsStandIn u) = true := by kernel_rfl
theorem proved : Rows.CryptKeysCardSaid :=
  Claim7.holds_tied_plain_at .later [] [.data, .data, .data, .data, .sentinel, .sentinel, .pinned, .pinned] true (true, "177d71cd04eb8f01a4c58fd606c8e7c617fc26990225ed53480681c1f264cbbf") true over (fun _ h => by cases h) t1 (fun _ h => by cases h) cryptKeys_row_tie rfl ⟨rfl, rfl⟩ t2 rfl
    (fun f fn hf hfn => by
      obtain rfl : f = 5 := Option.some.inj (t5.symm.trans hf) |>.symm
      obtain rfl : fn = Tryz.f5 := (Option.some.inj (Tryz.func5.symm.trans hfn)).symm
      exact ⟨t3, fun j t ht => by
        rw [Tryz.params5] at ht
        have hm : t ∈ [22, 9] := by simpa using Array.mem_of_getElem? ht
        have hall : ([22, 9].all fun u => !Tryz.prog.wantsStandIn u) = true := t6
        exact (show Tryz.prog.wantsStandIn t = false by simpa using List.all_eq_true.1 hall t hm)⟩)
    t4
#print axioms proved
end Go.Proofs.YtmieegcgeolckaaGreatDoor.cryptKeys
