/- The law CryptOrder returns true at every input and leaves its arguments as they were. Conditions: none beyond the given statement's own. -/
import Derived.Test.YtmieegcgeolckaaGreatDoorZ4
import Derived.Test.YtmieegcgeolckaaGreatDoorZ5
import Derived.Test.YtmieegcgeolckaaGreatDoorZ14
import Derived.Test.YtmieegcgeolckaaGreatDoorCards
import Derived.Test.YtmieegcgeolckaaGreatDoorTie
import Derived.WalkKit
import Derived.ProofKit
import Derived.OpenShut
import Derived.ChangeOld
import Derived.Below
import Derived.LaidMore
import Derived.Lay
import Derived.SevenTiedAt
import Derived.Shelf.Vars
import Derived.Stop.LaidErr
import Derived.MakeChecks
namespace Go.Proofs.YtmieegcgeolckaaGreatDoor
open Go.RowKit Go.Maps
set_option linter.unusedVariables false

set_option maxRecDepth 100000 in
set_option maxHeartbeats 2000000 in
theorem same_virtuals_eq (a a' : Option Addr) (cap cap' : Nat) (V : List Vir) (w : World) (hV : Virs w a cap V) (hV' : Virs w a' cap' V) :
    Calls Tryz.prog 28 #[.slice a V.length cap, .slice a' V.length cap'] w fun e w' => e = .returned (.bool true) ∧ Fr No w w' := by
  have hm := hV.lenmax
  go_enter Tryz.func28, Tryz.ntmps28
  go_wp2_with fail
  go_loopw [5] (fun i wr => ∃ k : Nat, k ≤ V.length ∧ i = .int .i64 (k : Int) ∧ Fr No w wr) (fun i _ => V.length - (intOf i).toNat)
  case atStart => exact ⟨0, by omega, rfl, Fr.refl _ _⟩
  case round =>
    obtain ⟨k, hk, rfl, hf⟩ := hrel
    by_cases hlt : k < V.length
    · have hlt1 : (k : Int) < V.length := by omega
      go_wp2_with fail
      refine region_sig No [(0, false), (1, false), (2, false), (3, false), (4, false), (5, false), (6, false), (7, false), (8, false)] (by kernel_rfl) (by kernel_rfl) (fun w0 hf0 => ?_)
      have hf1 := hf.step hf0 (fun _ _ h => h)
      obtain ⟨ub, uo, u, e1, hu, ⟨u0, u1, u2, u3⟩, _⟩ := (hV.no hf1 (fun _ => id)).elem hlt
      obtain ⟨vb, vo, v, e2, hv, ⟨v0, v1, v2, v3⟩, _⟩ := (hV'.no hf1 (fun _ => id)).elem hlt
      obtain rfl : u = v := by rw [hu] at hv; exact Option.some.inj hv
      subst e1 e2
      have g0 : ∀ g : Gr No w0, g.W.cell? ⟨ub, uo + k * 4, none⟩ = some (.string u.q) := fun g => g.fr.cell u0 id
      have g1 : ∀ g : Gr No w0, g.W.cell? ⟨ub, uo + k * 4 + 1, none⟩ = some (.string u.o) := fun g => g.fr.cell u1 id
      have g2 : ∀ g : Gr No w0, g.W.cell? ⟨ub, uo + k * 4 + 2, none⟩ = some (.string u.c) := fun g => g.fr.cell u2 id
      have g3 : ∀ g : Gr No w0, g.W.cell? ⟨ub, uo + k * 4 + 3, none⟩ = some (.int .i64 u.r) := fun g => g.fr.cell u3 id
      have h0 : ∀ g : Gr No w0, g.W.cell? ⟨vb, vo + k * 4, none⟩ = some (.string u.q) := fun g => g.fr.cell v0 id
      have h1 : ∀ g : Gr No w0, g.W.cell? ⟨vb, vo + k * 4 + 1, none⟩ = some (.string u.o) := fun g => g.fr.cell v1 id
      have h2 : ∀ g : Gr No w0, g.W.cell? ⟨vb, vo + k * 4 + 2, none⟩ = some (.string u.c) := fun g => g.fr.cell v2 id
      have h3 : ∀ g : Gr No w0, g.W.cell? ⟨vb, vo + k * 4 + 3, none⟩ = some (.int .i64 u.r) := fun g => g.fr.cell v3 id
      clear u0 u1 u2 u3 v0 v1 v2 v3 hu hv
      repeat (apply sig_q; exact rfl; exact rfl; exact rfl; intro K hK; go_big_quiet_op; go_big_quiet_on)
      refine sig_end ?_
      go_wp2_with fail
      go_roundw
      case rel => exact ⟨k + 1, by omega, by go_num, hf1⟩
      case measure => simp [intOf]; omega
    · obtain rfl : k = V.length := by omega
      go_wp2_with fail
      go_ret
      exact ⟨rfl, hf⟩

theorem sameT_self (l : List ByteArray) : sameT l l = true := by unfold sameT; simp
set_option maxRecDepth 100000 in
set_option maxHeartbeats 2000000 in
theorem same_member_eq (p i : ByteArray) (r s t e : Int) (a a' : Option Addr) (l : List ByteArray) (c c' : Nat) (w : World) (hS : Strs w a c l) (hS' : Strs w a' c' l) :
    Calls Tryz.prog 20 #[.agg #[.string p, .string i, .int .i64 r, .int .i64 s, .int .i64 t, .int .i64 e, .slice a l.length c], .agg #[.string p, .string i, .int .i64 r, .int .i64 s, .int .i64 t, .int .i64 e, .slice a' l.length c']] w fun en w' => en = .returned (.bool true) ∧ Fr No w w' := by
  have hx : Fr No w ((w.alloc (.cells #[.string p, .string i, .int .i64 r, .int .i64 s, .int .i64 t, .int .i64 e, .slice a l.length c] 31)).alloc (.cells #[.string p, .string i, .int .i64 r, .int .i64 s, .int .i64 t, .int .i64 e, .slice a' l.length c'] 31)) := ((Fr.refl _ _).alloc _).alloc _
  have hst := same_texts a a' c c' l l _ (hS.no hx (fun _ => id)) (hS'.no hx (fun _ => id))
  rw [sameT_self] at hst
  have Hx := Lib.hid hx
  clear hx hS hS'
  go_enter Tryz.func20, Tryz.ntmps20
  go_wp2_with fail
  refine hst.mono ?_
  rintro en w1 ⟨rfl, hf1⟩
  have hfin := Hx.out.step hf1 (fun _ _ h => h)
  clear hst hf1
  go_wp2_with fail
  go_ret
  exact ⟨rfl, hfin⟩

theorem mem_k {m m' : Mem} (h : m.k = m'.k) : m' = { m with a := m'.a, c := m'.c } := by
  cases m; cases m'
  simp only [Mem.k, Mem.mk.injEq] at h ⊢
  obtain ⟨h1, h2, h3, h4, h5, h6, _, h8, _⟩ := h
  exact ⟨h1.symm, h2.symm, h3.symm, h4.symm, h5.symm, h6.symm, trivial, h8.symm, trivial⟩
set_option maxRecDepth 100000 in
set_option maxHeartbeats 2000000 in
theorem same_members_eq (a a' : Option Addr) (cap cap' : Nat) (O O' : List Mem) (w : World) (hO : Mems w a cap O) (hO' : Mems w a' cap' O') (he : O.map Mem.k = O'.map Mem.k) :
    Calls Tryz.prog 29 #[.slice a O.length cap, .slice a' O'.length cap'] w fun e w' => e = .returned (.bool true) ∧ Fr No w w' := by
  have hm := hO.lenmax
  have hlen : O'.length = O.length := by have := congrArg List.length he; simp at this; exact this.symm
  rw [hlen]
  have Hlen := Lib.hid hlen
  clear hlen
  have He := Lib.hid he
  clear he
  go_enter Tryz.func29, Tryz.ntmps29
  go_wp2_with fail
  go_loopw [5] (fun i wr => ∃ k : Nat, k ≤ O.length ∧ i = .int .i64 (k : Int) ∧ Fr No w wr) (fun i _ => O.length - (intOf i).toNat)
  case atStart => exact ⟨0, by omega, rfl, Fr.refl _ _⟩
  case round =>
    obtain ⟨k, hk, rfl, hf⟩ := hrel
    by_cases hlt : k < O.length
    · have hlt1 : (k : Int) < O.length := by omega
      go_wp2_with fail
      refine region_sig No [(0, false), (1, false), (2, false), (3, false), (4, false), (5, false), (6, false), (7, false), (8, true), (9, false)] (by kernel_rfl) (by kernel_rfl) (fun w0 hf0 => ?_)
      have hf1 := hf.step hf0 (fun _ _ h => h)
      obtain ⟨ub, uo, u, e1, hu, hSu, ⟨u0, u1, u2, u3, u4, u5, u6⟩, _⟩ := (hO.no hf1 (fun _ => id)).elem hlt
      obtain ⟨vb, vo, v, e2, hv, hSv, ⟨v0, v1, v2, v3, v4, v5, v6⟩, _⟩ := (hO'.no hf1 (fun _ => id)).elem (show k < O'.length by have := Hlen.out; omega)
      have huv : u.k = v.k := by
        have h1 : (O.map Mem.k)[k]? = some u.k := by rw [List.getElem?_map, hu]; rfl
        rw [He.out, List.getElem?_map, hv] at h1
        exact (Option.some.inj h1).symm
      have hv' := mem_k huv
      obtain ⟨pa, ia, ra, sa, ta, ea, aa, la, ca⟩ := u
      generalize v.a = va at hv'
      generalize v.c = vc at hv'
      subst hv'
      subst e1 e2
      simp only at u0 u1 u2 u3 u4 u5 u6 v0 v1 v2 v3 v4 v5 v6 hSu hSv
      have g0 : ∀ g : Gr No w0, g.W.cell? ⟨ub, uo + k * 7, none⟩ = some (.string pa) := fun g => g.fr.cell u0 id
      have g1 : ∀ g : Gr No w0, g.W.cell? ⟨ub, uo + k * 7 + 1, none⟩ = some (.string ia) := fun g => g.fr.cell u1 id
      have g2 : ∀ g : Gr No w0, g.W.cell? ⟨ub, uo + k * 7 + 2, none⟩ = some (.int .i64 ra) := fun g => g.fr.cell u2 id
      have g3 : ∀ g : Gr No w0, g.W.cell? ⟨ub, uo + k * 7 + 3, none⟩ = some (.int .i64 sa) := fun g => g.fr.cell u3 id
      have g4 : ∀ g : Gr No w0, g.W.cell? ⟨ub, uo + k * 7 + 4, none⟩ = some (.int .i64 ta) := fun g => g.fr.cell u4 id
      have g5 : ∀ g : Gr No w0, g.W.cell? ⟨ub, uo + k * 7 + 5, none⟩ = some (.int .i64 ea) := fun g => g.fr.cell u5 id
      have g6 : ∀ g : Gr No w0, g.W.cell? ⟨ub, uo + k * 7 + 6, none⟩ = some (.slice aa la.length ca) := fun g => g.fr.cell u6 id
      have h0 : ∀ g : Gr No w0, g.W.cell? ⟨vb, vo + k * 7, none⟩ = some (.string pa) := fun g => g.fr.cell v0 id
      have h1 : ∀ g : Gr No w0, g.W.cell? ⟨vb, vo + k * 7 + 1, none⟩ = some (.string ia) := fun g => g.fr.cell v1 id
      have h2 : ∀ g : Gr No w0, g.W.cell? ⟨vb, vo + k * 7 + 2, none⟩ = some (.int .i64 ra) := fun g => g.fr.cell v2 id
      have h3 : ∀ g : Gr No w0, g.W.cell? ⟨vb, vo + k * 7 + 3, none⟩ = some (.int .i64 sa) := fun g => g.fr.cell v3 id
      have h4 : ∀ g : Gr No w0, g.W.cell? ⟨vb, vo + k * 7 + 4, none⟩ = some (.int .i64 ta) := fun g => g.fr.cell v4 id
      have h5 : ∀ g : Gr No w0, g.W.cell? ⟨vb, vo + k * 7 + 5, none⟩ = some (.int .i64 ea) := fun g => g.fr.cell v5 id
      have h6 : ∀ g : Gr No w0, g.W.cell? ⟨vb, vo + k * 7 + 6, none⟩ = some (.slice va la.length vc) := fun g => g.fr.cell v6 id
      have Hsu := Lib.hid hSu
      have Hsv := Lib.hid hSv
      clear u0 u1 u2 u3 u4 u5 u6 v0 v1 v2 v3 v4 v5 v6 hu hv huv hSu hSv
      repeat (apply sig_q; exact rfl; exact rfl; exact rfl; intro K hK; go_big_quiet_op; go_big_quiet_on)
      clear g0 g1 g2 g3 g4 g5 g6 h0 h1 h2 h3 h4 h5 h6
      apply sig_m
      exact rfl
      go_wp2_with fail
      refine (same_member_eq pa ia ra sa ta ea aa va la ca vc _ Hsu.out Hsv.out).mono ?_
      rintro en w1 ⟨rfl, hf2⟩
      have Hf := Lib.hid (hf1.step hf2 (fun _ _ h => h))
      go_wp2_with fail
      refine OnlyN.mk ⟨hf2, ?_⟩
      clear hf2
      repeat (apply sig_q; exact rfl; exact rfl; exact rfl; intro K hK; go_big_quiet_op; go_big_quiet_on)
      refine sig_end ?_
      go_wp2_with fail
      go_roundw
      case rel => exact ⟨k + 1, by omega, by go_num, Hf.out⟩
      case measure => simp [intOf]; omega
    · obtain rfl : k = O.length := by omega
      go_wp2_with fail
      go_ret
      exact ⟨rfl, hf⟩
end Go.Proofs.YtmieegcgeolckaaGreatDoor
namespace Go.Proofs.YtmieegcgeolckaaGreatDoor
open Go.RowKit Go.Maps
set_option linter.unusedVariables false

theorem mflat_get : ∀ (L : List Mem) (j : Nat) (u : Value), (mflat L)[j]? = some u → ∃ m, L[j / 7]? = some m ∧ m.vals[j % 7]? = some u
  | [], j, u, h => by simp [mflat] at h
  | x :: t, j, u, h => by
    have e : mflat (x :: t) = x.vals.toList ++ mflat t := by simp [mflat]
    have hl : x.vals.toList.length = 7 := by simp [Mem.vals]
    rw [e] at h
    by_cases hj : j < 7
    · rw [List.getElem?_append_left (by omega)] at h
      refine ⟨x, by rw [show j / 7 = 0 by omega]; rfl, ?_⟩
      rw [show j % 7 = j by omega, ← Array.getElem?_toList]; exact h
    · rw [List.getElem?_append_right (by omega), hl] at h
      obtain ⟨m, h1, h2⟩ := mflat_get t (j - 7) u h
      refine ⟨m, ?_, ?_⟩
      · rw [show j / 7 = (j - 7) / 7 + 1 by omega]; simpa using h1
      · rw [show j % 7 = (j - 7) % 7 by omega]; exact h2
theorem mflat_append (L M : List Mem) : mflat (L ++ M) = mflat L ++ mflat M := by simp [mflat]
theorem mflat_one (L : List Mem) : ∀ u ∈ mflat L, u.oneCell' = true := by
  intro u hu
  obtain ⟨m, _, h⟩ := List.mem_flatMap.1 hu
  exact mvals_one m u h
/-- The cells of a slice of members, from the n-th on. -/
theorem Mems.src {w : World} {a : Option Addr} {cap : Nat} {L : List Mem} (h : Mems w a cap L) (n : Nat) : ∀ ad, a = some ad → ∀ j u, (mflat (L.drop n))[j]? = some u → w.cell? ⟨ad.block, ad.off + n * 7 + j, none⟩ = some u := by
  intro ad e j u hu
  obtain ⟨m, h1, h2⟩ := mflat_get _ _ _ hu
  rw [List.getElem?_drop] at h1
  obtain ⟨_, _, h3⟩ := h.cell ad e (by intro e; subst e; simp at h1)
  have h4 := h3 (n + j / 7) m h1 (j % 7) (by omega)
  rw [← h2, ← h4]
  congr 2
  omega
theorem Mems.srcT {w : World} {a : Option Addr} {cap : Nat} {L : List Mem} (h : Mems w a cap L) (n : Nat) : ∀ ad, a = some ad → ∀ j u, (mflat (L.take n))[j]? = some u → w.cell? ⟨ad.block, ad.off + j, none⟩ = some u := by
  intro ad e j u hu
  obtain ⟨m, h1, h2⟩ := mflat_get _ _ _ hu
  have h1' : L[j / 7]? = some m := by
    rw [List.getElem?_take] at h1
    split at h1
    · exact h1
    · cases h1
  obtain ⟨_, _, h3⟩ := h.cell ad e (by intro e; subst e; simp at h1')
  have h4 := h3 (j / 7) m h1' (j % 7) (by omega)
  rw [← h2, ← h4]
  congr 2
  omega

theorem Mems.from_if {w : World} {a : Option Addr} {cap : Nat} {L : List Mem} (h : Mems w a cap L) (n : Nat) (hn : n ≤ L.length) :
    (∀ ad, (if cap = n then a else Option.map (fun x => x.add (n * 7)) a) = some ad → ∀ j u, (mflat (L.drop n))[j]? = some u → w.cell? (ad.add j) = some u) ∧
    ((if cap = n then a else Option.map (fun x => x.add (n * 7)) a) = none → L.length - n = 0 ∧ cap - n = 0) := by
  have hl := h.len
  constructor
  · intro ad e j u hu
    have hne : L ≠ [] := by intro e; subst e; simp [mflat] at hu
    split at e
    · rename_i hc
      have : L.drop n = [] := List.drop_eq_nil_of_le (by omega)
      rw [this] at hu
      simp [mflat] at hu
    · obtain ⟨ad', e', rfl⟩ := Option.map_eq_some_iff.1 e
      have hsp := (h.cell ad' e' hne).1
      have h1 := h.src n ad' e' j u hu
      obtain ⟨b, o, sp⟩ := ad'
      simp only at hsp h1
      subst hsp
      rw [Addr.add_lit, Addr.add_lit]
      exact h1
  · intro e
    split at e
    · rename_i hc
      obtain ⟨h1, h2⟩ := h.isNil e
      rw [h1]; simp; omega
    · obtain ⟨h1, h2⟩ := h.isNil (Option.map_eq_none_iff.1 e)
      rw [h1]; simp; omega
theorem Mems.upto {w : World} {a : Option Addr} {cap : Nat} {L : List Mem} (h : Mems w a cap L) (n : Nat) (hn : n ≤ L.length) :
    (∀ ad, a = some ad → ∀ j u, (mflat (L.take n))[j]? = some u → w.cell? (ad.add j) = some u) ∧ (a = none → n = 0 ∧ cap = 0) := by
  constructor
  · intro ad e j u hu
    have hne : L ≠ [] := by intro e; subst e; simp [mflat] at hu
    have hsp := (h.cell ad e hne).1
    have h1 := h.srcT n ad e j u hu
    obtain ⟨b, o, sp⟩ := ad
    simp only at hsp h1
    subst hsp
    rw [Addr.add_lit]
    exact h1
  · intro e
    obtain ⟨h1, h2⟩ := h.isNil e
    rw [h1] at hn
    exact ⟨by simpa using hn, h2⟩

/-- Different paths. -/
def Diff (L : List Mem) : Prop := L.Pairwise (fun m o => m.p ≠ o.p)
theorem diff_turn {L : List Mem} (h : Diff L) (n : Nat) : Diff (L.drop n ++ L.take n) := by
  have hp : (L.take n ++ L.drop n).Perm (L.drop n ++ L.take n) := List.perm_append_comm
  rw [List.take_append_drop] at hp
  exact hp.pairwise h (fun h => Ne.symm h)
theorem turn_mem (L : List Mem) (n : Nat) (m : Mem) : m ∈ L ↔ m ∈ L.drop n ++ L.take n := by
  have hp : (L.take n ++ L.drop n).Perm (L.drop n ++ L.take n) := List.perm_append_comm
  rw [List.take_append_drop] at hp
  exact hp.mem_iff
theorem turn_best {L : List Mem} (h : Diff L) (n : Nat) (x : List UInt8) : best L x = best (L.drop n ++ L.take n) x := best_order h (diff_turn h n) (turn_mem L n) x
theorem turn_small {L : List Mem} (h : MemSmall L) (n : Nat) : MemSmall (L.drop n ++ L.take n) := by
  have hl : (L.drop n ++ L.take n).length = L.length := by simp; omega
  exact ⟨by rw [hl]; exact h.len, fun m hm => h.p m ((turn_mem L n m).2 hm), fun m hm => h.i m ((turn_mem L n m).2 hm), fun m hm => h.l m ((turn_mem L n m).2 hm)⟩
theorem diff_of {L : List Mem} (h : ∀ (i j : Nat) (m o : Mem), j < i → L[i]? = some m → L[j]? = some o → m.p ≠ o.p) : Diff L := by
  unfold Diff
  rw [List.pairwise_iff_getElem]
  intro i j hi hj hij
  exact Ne.symm (h j i _ _ hij (List.getElem?_eq_getElem hj) (List.getElem?_eq_getElem hi))
theorem opened_rev (ids K : List ByteArray) : opened ids K.reverse = opened ids K := by
  unfold opened
  refine List.filter_congr (fun x _ => ?_)
  unfold hasS
  rw [List.any_reverse]

set_option maxRecDepth 100000 in
set_option maxHeartbeats 8000000 in
theorem order_walk (la : Option Addr) (lc : Nat) (l : List Int) (turn : Int) (w : World) (hl : Ints w la lc l) (hturn : (Lit.int .i64 turn).wf = true) (hE : Env w) :
    Calls Tryz.prog 6 #[.slice la l.length lc, .int .i64 turn] w fun e w' => e = .returned (.bool true) ∧ Fr No w w' := by
  obtain ⟨i0, hi0, hz0, hz1, hz2⟩ := info_parts infoS
  obtain ⟨j0, hj0, hy0, hy1, hy2⟩ := info_parts infoM
  have hx : Fr No w (w.alloc (.cells #[.slice la l.length lc, .int .i64 0] 26)) := (Fr.refl _ _).alloc _
  have ht := Tape.make hl 26
  have hE0 := hE.no hx
  have hs0 : (w.alloc (.cells #[.slice la l.length lc, .int .i64 0] 26)).heap.size = w.heap.size + 1 := by simp
  have hsz := hE.sz
  go_enter Tryz.func6, Tryz.ntmps6
  go_upto_region 2 with (fail)
  generalize w.alloc (.cells #[.slice la l.length lc, .int .i64 0] 26) = W0 at *
  have hlay := made_layers w.heap.size w.heap.size 0 W0 ht (by omega)
  go_wp2_with fail
  refine hlay.mono ?_
  rintro e w1 ⟨⟨L, a1, c1, k1, rfl, hL, hLf, hLm, hLo, hLl, hk1, ht1⟩, hf1⟩
  have hkey := made_keys w.heap.size w.heap.size k1 w1 ht1 (by omega)
  have hs1 := hf1.size
  clear hlay ht ht1
  go_wp2_with fail
  refine hkey.mono ?_
  rintro e w2 ⟨⟨K, a2, c2, k2, rfl, hK, hKf, hKs, hKl, hk2, ht2⟩, hf2⟩
  have hs2 := hf2.size
  have hL2 := hL.fr hf2 (fun ad e _ h => by have := hLf ad e; unfold Is at h; omega) (fun m hm ad e _ h => by have := (hLm m hm).2.2 ad e; unfold Is at h; omega)
  have hf12 := hf1.step hf2 (fun _ _ h => h)
  have hE2 := hE0.fr hf12 (fun b hb h => by unfold Is at h; omega)
  have hfw2 : Fr No w w2 := (hx.mono (fun _ _ h => h)).trans hf12 (fun _ _ h => h) (fun b hb h => by unfold Is at h; omega)
  have hsm := lay_small hLo hLl
  have hKz : ∀ x ∈ K, x.size ≤ maxLen := fun x hx => by have := hKs x hx; unfold maxLen; omega
  obtain ⟨m0, hm2⟩ := hE2.len
  clear hkey hL hLf hLm ht2 hf1 hf2 hf12 hx hE0 hE
  go_wp2_with fail
  go_loopw [8] (fun i wr => ∃ q : Nat, q ≤ L.length ∧ i = .int .i64 (q : Int) ∧ Hid (∀ (i j : Nat) (m o : Mem), i < q → j < i → L[i]? = some m → L[j]? = some o → m.p ≠ o.p) ∧ Fr No w2 wr) (fun i _ => L.length - (intOf i).toNat)
  case atStart => exact ⟨0, by omega, rfl, fun i j m o h => absurd h (Nat.not_lt_zero _), Fr.refl _ _⟩
  case round =>
    obtain ⟨q, hq, rfl, HD, hfr⟩ := hrel
    by_cases hlt : q < L.length
    · have hlt' : (q : Int) < L.length := by omega
      obtain ⟨m, hm⟩ : ∃ m, L[q]? = some m := ⟨_, List.getElem?_eq_getElem hlt⟩
      have Hm := Lib.hid hm
      clear hm
      go_wp2_with fail
      go_loopw [9] (fun i wr1 => ∃ j : Nat, j ≤ q ∧ i = .int .i64 (j : Int) ∧ Hid (∀ (k : Nat) (o : Mem), k < j → L[k]? = some o → m.p ≠ o.p) ∧ Fr No w2 wr1) (fun i _ => q - (intOf i).toNat)
      case atStart => exact ⟨0, by omega, rfl, fun k o h => absurd h (Nat.not_lt_zero _), hfr⟩
      case round =>
        obtain ⟨j, hj, rfl, HJ, hfr1⟩ := hrel
        by_cases hlt : j < q
        · have hlt2 : (j : Int) < q := by omega
          have hlt3 : (j : Int) < L.length := by omega
          have hlt4 : (q : Int) < L.length := by omega
          go_wp2_with fail
          refine region_sig No [(0, false), (1, false), (2, false), (3, false), (4, false), (5, false), (6, false), (7, false), (8, false), (9, false), (10, false)] (by kernel_rfl) (by kernel_rfl) (fun w0 hf0 => ?_)
          have hfr2 := hfr1.step hf0 (fun _ _ h => h)
          obtain ⟨lb, lo, o, rfl, ho, _, ⟨o0, _, _, _, _, _, _⟩, _⟩ := (hL2.no hfr2 (fun _ => id)).elem (show j < L.length by omega)
          obtain ⟨lb', lo', m', e1, hm', _, ⟨m0', _, _, _, _, _, _⟩, _⟩ := (hL2.no hfr2 (fun _ => id)).elem (show q < L.length by omega)
          cases e1
          obtain rfl : m = m' := by rw [Hm.out] at hm'; exact Option.some.inj hm'
          have g0 : ∀ g : Gr No w0, g.W.cell? ⟨lb, lo + q * 7, none⟩ = some (.string m.p) := fun g => g.fr.cell m0' id
          have g1 : ∀ g : Gr No w0, g.W.cell? ⟨lb, lo + j * 7, none⟩ = some (.string o.p) := fun g => g.fr.cell o0 id
          have Ho := Lib.hid ho
          clear o0 m0' hm' ho
          repeat (apply sig_q; exact rfl; exact rfl; exact rfl; intro K hK; go_big_quiet_op; go_big_quiet_on)
          clear g0 g1
          refine sig_end ?_
          rcases hc : (m.p.toList == o.p.toList) with _ | _
          · have Hn : Hid (∀ (k : Nat) (o : Mem), k < j + 1 → L[k]? = some o → m.p ≠ o.p) := by
              intro k o' hk ho'
              by_cases hkj : k = j
              · subst hkj
                rw [Ho.out] at ho'; cases ho'
                intro e
                rw [e] at hc; simp at hc
              · exact HJ.out k o' (by omega) ho'
            clear hc
            go_wp2_with fail
            go_roundw
            case rel => exact ⟨j + 1, by omega, by go_num, Hn, hfr2⟩
            case measure => simp [intOf]; omega
          · have hkn := known33 w0 (hE2.no hfr2)
            clear hc
            go_wp2_with fail
            refine hkn.mono ?_
            rintro e wf ⟨rfl, hff⟩
            have hfin := hfw2.step (hfr2.step hff (fun _ _ h => h)) (fun _ _ h => h)
            go_wp2_with fail
            go_ret
            exact ⟨rfl, hfin⟩
        · obtain rfl : j = q := by omega
          have Hn : Hid (∀ (i j' : Nat) (m o : Mem), i < j + 1 → j' < i → L[i]? = some m → L[j']? = some o → m.p ≠ o.p) := by
            intro i j' m' o hi hj' hmi hoj
            by_cases hij : i = j
            · subst hij
              rw [Hm.out] at hmi; cases hmi
              exact HJ.out j' o hj' hoj
            · exact HD.out i j' m' o (by omega) hj' hmi hoj
          go_wp2_with fail
          go_roundw
          case rel => exact ⟨j + 1, by omega, by go_num, Hn, hfr1⟩
          case measure => simp [intOf]; omega
    · obtain rfl : q = L.length := by omega
      have hdiff : Diff L := diff_of (fun i j m o hj hm ho => HD.out i j m o (List.getElem?_eq_some_iff.1 hm).1 hj hm ho)
      have Hdiff := Lib.hid hdiff
      have Hsm := Lib.hid hsm
      clear HD hdiff hsm
      have hfold := fold_any turn ((L.length : Int) + 1) wr (by omega) (by omega) hturn
      go_wp2_with fail
      refine hfold.mono ?_
      rintro e w3 ⟨n, rfl, hn0, hn1, rfl⟩
      obtain ⟨n, rfl⟩ := Int.eq_ofNat_of_zero_le hn0
      have hnl : n ≤ L.length := by omega
      have hnl' : (n : Int) ≤ L.length := by omega
      have hL3 := hL2.no hfr (fun _ => id)
      have hK3 := hK.no hfr (fun _ => id)
      have hlen3 := hL3.len
      clear hfold hL2 hK hn0 hn1
      go_wp2_with fail
      refine region_sig (From wr.heap.size) [(0, false), (1, false), (2, false), (4, false), (5, false), (6, false), (3, true), (7, true), (8, false)] (by kernel_rfl) (by kernel_rfl) (fun w0 hf0 => ?_)
      have hL4 := hL3.no hf0 (fun _ => id)
      have hs4 := hf0.size
      have Hf0 := Lib.hid hf0
      clear hf0
      repeat (apply sig_q; exact rfl; exact rfl; exact rfl; intro K hK; go_big_quiet_op; go_big_quiet_on)
      have hLm := hL4.max
      have hfi := hL4.from_if n hnl
      obtain ⟨A1, hA1⟩ : ∃ A1, A1 = (if c1 = n then a1 else Option.map (fun x => x.add (n * 7)) a1) := ⟨_, rfl⟩
      rw [← hA1] at hfi ⊢
      clear hA1
      apply sig_m
      exact rfl
      go_wp2_with (at_builtin; refine wpList_append_src rfl _ _ 36 rfl wr.heap.size 31 j0 (.agg #[.string ByteArray.empty, .string ByteArray.empty, .int .i64 0, .int .i64 0, .int .i64 0, .int .i64 0, .slice none 0 0]) 7 88 Tryz.underlying36 hj0 hy0 hy1 hy2 rfl (by decide) _ 0 [] rfl (World.ownsRow_nil _ _ _ _) _ (L.length - n) _ (mflat (L.drop n)) rfl hfi.2 (by rw [mflat_len, List.length_drop]) hfi.1 (mflat_one _) (by unfold maxLen; omega) (by omega) (by first | omega | (simp; done) | (simp; omega)) ?_; intro v5 w5 own1 gr1; simp only [Nat.zero_add, List.nil_append] at own1; obtain ⟨av1, cv1, rfl⟩ := ownsRow_slice own1)
      have hf5 : Fr No w0 w5 := Fr.of_grown_none gr1
      have hs5 := hf5.size
      have hL5 := hL4.no hf5 (fun _ => id)
      refine OnlyN.mk ⟨hf5.mono (fun _ _ h => h.elim), ?_⟩
      have Hf05 := Lib.hid (Hf0.out.step hf5 (fun _ _ h => h))
      have hup := hL5.upto n hnl
      clear hf5 gr1 hL4 hfi
      repeat (apply sig_q; exact rfl; exact rfl; exact rfl; intro K hK; go_big_quiet_op; go_big_quiet_on)
      apply sig_m
      exact rfl
      go_wp2_with (at_builtin; refine wpList_append_src rfl _ _ 36 rfl wr.heap.size 31 j0 (.agg #[.string ByteArray.empty, .string ByteArray.empty, .int .i64 0, .int .i64 0, .int .i64 0, .int .i64 0, .slice none 0 0]) 7 88 Tryz.underlying36 hj0 hy0 hy1 hy2 rfl (by decide) _ _ _ rfl own1 _ n _ (mflat (L.take n)) rfl hup.2 (by rw [mflat_len, List.length_take, Nat.min_eq_left hnl]) hup.1 (mflat_one _) (by unfold maxLen; omega) (by omega) (by first | omega | (simp; done) | (simp; omega)) ?_; intro v6 w6 own2 gr2; obtain ⟨av2, cv2, rfl⟩ := ownsRow_slice own2)
      have hg6 : Fr (From wr.heap.size) w5 w6 := (Fr.of_grown gr2).mono (fun b _ h => ownsRow_blk own1 h)
      refine OnlyN.mk ⟨hg6, ?_⟩
      obtain ⟨O2, hO2⟩ : ∃ O2, O2 = L.drop n ++ L.take n := ⟨_, rfl⟩
      have hO2l : O2.length = L.length - n + n := by rw [hO2, List.length_append, List.length_drop, List.length_take]; omega
      have hO2e : O2.length = L.length := by omega
      have hfr6 : Fr No wr w6 := ((Hf05.out.mono (T := From wr.heap.size) (fun _ _ h => h.elim)).step hg6 (fun _ _ h => h)).mono (fun b hb h => by unfold From at h; omega)
      have hL6 := hL3.no hfr6 (fun _ => id)
      have hS6 : ∀ m ∈ O2, Strs w6 m.a m.c m.l := fun m hm => hL6.ok m ((turn_mem L n m).2 (by rw [← hO2]; exact hm))
      have hown6 : w6.ownsRow wr.heap.size 31 7 (.slice av2 (L.length - n + n) cv2) O2.length (mflat O2) := by rw [hO2l, hO2, mflat_append]; exact own2
      obtain ⟨a6, c6, e6, hM6, _⟩ := Mems.of_own hown6 hS6
      rw [hO2e, show L.length - n + n = L.length by omega] at e6
      cases e6
      have HO2 := Lib.hid hO2
      have HO2e := Lib.hid hO2e
      have hE6 := hE2.no (hfr.step hfr6 (fun _ _ h => h))
      have hfw6 := hfw2.step (hfr.step hfr6 (fun _ _ h => h)) (fun _ _ h => h)
      have hK6 := hK3.no hfr6 (fun _ => id)
      have hm6 := (hfr.step hfr6 (fun _ _ h => h)).cell hm2 id
      have hs6 := (hfr.step hfr6 (fun _ _ h => h)).size
      have hMs : MemSmall O2 := by rw [hO2]; exact turn_small Hsm.out n
      have HMs := Lib.hid hMs
      clear hO2 hO2l hO2e hown6 own2 gr2 own1 hg6 hL5 hup hfr6 hfr hS6 hL3 hK3 hMs
      repeat (apply sig_q; exact rfl; exact rfl; exact rfl; intro K hK; go_big_quiet_op; go_big_quiet_on)
      refine sig_end ?_
      go_wp2_with fail
      go_loopw [12, 13] (fun v i wr => ∃ (r : Nat) (av : Option Addr) (cv : Nat) (B : List ByteArray), r ≤ K.length ∧ B.length ≤ K.length ∧ v = .slice av B.length cv ∧ i = .int .i64 ((r : Int) - 1) ∧ wr.ownsRow w6.heap.size 9 1 (.slice av B.length cv) B.length (B.map Value.string) ∧ Hid (B = (K.drop r).reverse) ∧ Fr (From w6.heap.size) w6 wr) (fun _ i _ => (intOf i + 1).toNat)
      case atStart => exact ⟨K.length, none, 0, [], by omega, by simp, rfl, rfl, World.ownsRow_nil _ _ _ _, by unfold Hid; simp, Fr.refl _ _⟩
      case round =>
        obtain ⟨r, av, cv, B, hr, hBl, rfl, rfl, hown, HB, hf⟩ := hrel
        have hsr := hf.size
        rcases r with _ | r
        · rw [show ((0 : Nat) : Int) - 1 = -1 from rfl]
          obtain ⟨a7, c7, e7, hB7, _⟩ := Strs.of_own hown
          cases e7
          have hBe := HB.out
          rw [List.drop_zero] at hBe
          have hfn : Fr No w6 wr := hf.mono (fun b hb h => by unfold From at h; omega)
          have hM7 := hM6.no hfn (fun _ => id)
          have hL7 := hL6.no hfn (fun _ => id)
          have hK7 := hK6.no hfn (fun _ => id)
          have hm7 := hfn.cell hm6 id
          have hE7 := hE6.no hfn
          have hfw7 := hfw6.step hfn (fun _ _ h => h)
          have hBz : ∀ x ∈ B, x.size ≤ maxLen := fun x hx => hKz x (by rw [hBe] at hx; simpa using hx)
          have HBe := Lib.hid hBe
          clear hown HB hf hfn hBe hM6 hL6 hK6 hm6 hE6 hfw6
          have hop := c_open a1 c1 L a2 c2 K 4 m0 wr hL7 Hsm.out hK7 (by omega) hKz hm7 (by omega)
          go_wp2_with fail
          refine hop.mono ?_
          rintro e w8 ⟨⟨va, vc, V, ids, rfl, hV, _, hids, hVe, _⟩, hf8⟩
          have HVe := Lib.hid hVe
          have Hids := Lib.hid hids
          have hM8 := hM7.no hf8 (fun _ => id)
          have hL8 := hL7.no hf8 (fun _ => id)
          have hB8 := hB7.no hf8 (fun _ => id)
          have hm8 := hf8.cell hm7 id
          have hE8 := hE7.no hf8
          have hs8 := hf8.size
          have hfw8 := hfw7.step hf8 (fun _ _ h => h)
          clear hop hf8 hVe hids hM7 hL7 hB7 hm7 hE7 hfw7 hK7
          have hop := c_open av2 cv2 O2 av cv B 4 m0 w8 hM8 HMs.out hB8 (by omega) hBz hm8 (by omega)
          rw [HO2e.out] at hop
          go_wp2_with fail
          refine hop.mono ?_
          rintro e w9 ⟨⟨ua, uc, U, ids', rfl, hU, _, hids', hUe, _⟩, hf9⟩
          have hbo : ∀ x, best L x = best O2 x := fun x => by rw [HO2.out]; exact turn_best Hdiff.out n x
          obtain rfl := Hids.out.unique hids' (fun x => by rw [hbo])
          have hUV : U = V := by
            rw [hUe, HVe.out, HBe.out, opened_rev]
            refine List.map_congr_left (fun x _ => ?_)
            unfold virOf inner0
            rw [hbo]
          subst hUV
          have hV9 := hV.no hf9 (fun _ => id)
          have hM9 := hM8.no hf9 (fun _ => id)
          have hL9 := hL8.no hf9 (fun _ => id)
          have hm9 := hf9.cell hm8 id
          have hE9 := hE8.no hf9
          have hs9 := hf9.size
          have hfw9 := hfw8.step hf9 (fun _ _ h => h)
          have Hbo := Lib.hid hbo
          clear hop hf9 hUe hids' hM8 hL8 hB8 hm8 hE8 hfw8 hV hbo
          have hsv := same_virtuals_eq va ua vc uc U w9 hV9 hU
          go_wp2_with fail
          refine hsv.mono ?_
          rintro e w10 ⟨rfl, hf10⟩
          have hM10 := hM9.no hf10 (fun _ => id)
          have hL10 := hL9.no hf10 (fun _ => id)
          have hm10 := hf10.cell hm9 id
          have hE10 := hE9.no hf10
          have hs10 := hf10.size
          have hfw10 := hfw9.step hf10 (fun _ _ h => h)
          clear hsv hf10 hM9 hL9 hm9 hE9 hfw9 hV9 hU
          have how := c_owners a1 c1 L m0 w10 hL10 Hsm.out hm10 (by omega)
          go_wp2_with fail
          refine how.mono ?_
          rintro e w11 ⟨⟨pa, pc, P, ids1, rfl, hP, _, _, hids1, hPe, _⟩, hf11⟩
          have HPe := Lib.hid hPe
          have Hids1 := Lib.hid hids1
          have hM11 := hM10.no hf11 (fun _ => id)
          have hm11 := hf11.cell hm10 id
          have hE11 := hE10.no hf11
          have hs11 := hf11.size
          have hfw11 := hfw10.step hf11 (fun _ _ h => h)
          clear how hf11 hPe hids1 hM10 hL10 hm10 hE10 hfw10
          have how := c_owners av2 cv2 O2 m0 w11 hM11 HMs.out hm11 (by omega)
          rw [HO2e.out] at how
          go_wp2_with fail
          refine how.mono ?_
          rintro e w12 ⟨⟨qa, qc, Q, ids2, rfl, hQ, _, _, hids2, hQe, _⟩, hf12⟩
          have hPQ : P.map Mem.k = Q.map Mem.k := by
            obtain rfl := Hids1.out.unique hids2 (fun x => by rw [Hbo.out])
            rw [HPe.out, hQe]
            unfold own1
            refine List.map_congr_left (fun x _ => ?_)
            rw [Hbo.out]
          have hP12 := hP.no hf12 (fun _ => id)
          have hE12 := hE11.no hf12
          have hfw12 := hfw11.step hf12 (fun _ _ h => h)
          have hsm := same_members_eq pa qa pc qc P Q w12 hP12 hQ hPQ
          clear how hf12 hQe hids2 hM11 hm11 hE11 hfw11 hP hPQ hP12 hQ
          go_wp2_with fail
          refine hsm.mono ?_
          rintro e w13 ⟨rfl, hf13⟩
          have hfw13 := hfw12.step hf13 (fun _ _ h => h)
          have hkn := known33 w13 (hE12.no hf13)
          clear hsm hf13
          go_wp2_with fail
          refine hkn.mono ?_
          rintro e wf ⟨rfl, hff⟩
          have hfin := hfw13.step hff (fun _ _ h => h)
          go_wp2_with fail
          go_ret
          exact ⟨rfl, hfin⟩
        · rw [show ((r + 1 : Nat) : Int) - 1 = r by omega]
          have hr0 : r < K.length := by omega
          have hr1 : (r : Int) < K.length := by omega
          obtain ⟨kb', ko, x, rfl, hx, hc⟩ := (hK6.keep hf (fun b hb h => by unfold From at h; omega)).at hr0
          have HB2 : Hid ((K.drop r).reverse = B ++ [x]) := by
            unfold Hid
            obtain ⟨h1, h2⟩ := List.getElem?_eq_some_iff.1 hx
            rw [List.drop_eq_getElem_cons h1, List.reverse_cons, HB.out, h2]
          have HB0 := Lib.hid HB
          have Hf := Lib.hid hf
          have hBr : B.length + 1 ≤ K.length := by have := congrArg List.length HB2.out; simp at this; omega
          clear hx HB hf
          go_wp2_with (at_builtin; refine wpList_append_own _ rfl _ _ 27 rfl w6.heap.size 9 i0 (.string ByteArray.empty) 1 16 Tryz.underlying27 hi0 hz0 hz1 hz2 rfl (by decide) _ _ _ rfl (hown.alloc _) ⟨wr.heap.size, 0, none⟩ 1 1 [.string x] rfl rfl (cell_one_new _ _ _) (strs_one [x]) (by unfold maxLen; omega) (by omega) (by first | omega | (simp; done) | (simp; omega)) ?_; intro v' w9 hown9 hgrow9 _; obtain ⟨av', cv', rfl⟩ := ownsRow_slice hown9)
          have hal : Fr No wr (wr.alloc (.cells #[.string x] 9)) := (Fr.refl _ _).alloc _
          have hgf : Fr (fun b => (Value.slice av B.length cv).ownBlock = some b) (wr.alloc (.cells #[.string x] 9)) w9 := Fr.of_grown hgrow9
          have hf9 : Fr (From w6.heap.size) w6 w9 := (Hf.out.step hal (fun _ _ h => h.elim)).step hgf (fun b _ h => ownsRow_blk hown h)
          have HF := Lib.hid (And.intro hown9 hf9)
          clear hown9 hf9 hgf hal hgrow9 hown
          go_roundw
          case rel => exact ⟨r, av', cv', B ++ [x], by omega, by simp; omega, by simp, by go_num, by rw [List.length_append, List.map_append]; exact HF.out.1, Lib.hid HB2.out.symm, HF.out.2⟩
          case measure => simp [intOf]
end Go.Proofs.YtmieegcgeolckaaGreatDoor
namespace Go.Proofs.YtmieegcgeolckaaGreatDoor.cryptOrder
open Go.ChangeShapes Go.WideShapes Go.ChangeAt Go.RowKit
set_option linter.unusedVariables false

theorem own : ownKnob Tryz.prog.godebug = none := by kernel_rfl
theorem laidOut : laidOutB Tryz.prog = true := by kernel_rfl

set_option maxRecDepth 100000 in
theorem lifted (os : Os) (started : os.Started) (H : Type) (enc : TypeId × Value → H) :
    ReturnsInHanded {} Tryz.checked os 6 .any (fun w args => (Rows.cryptOrderSpec.pre enc Tryz.prog Tryz.f6 Rows.cryptOrderRow.domain false w args ∧ laidMetH Tryz.prog Rows.cryptOrderRow.laid w) ∧ sizedMet enc Tryz.prog Tryz.f6 (OpenSpec.ofChange Rows.cryptOrderSpec) false w args)
      (Rows.cryptOrderSpec.post enc Tryz.prog Tryz.f6 false true false false) := by
  refine returns_laid_shaped (C := Tryz.checked) (X := fun w _ => laidMetH Tryz.prog Rows.cryptOrderRow.laid w) (fun _ _ _ hh h => h.of_heap hh) own started (by kernel_rfl) Tryz.func6
    (ChangeSpec.witness_shaped (enc := enc) (C := Tryz.checked) (os := os) (X := fun w _ => laidMetH Tryz.prog Rows.cryptOrderRow.laid w) false (World.laidAll Tryz.prog os Rows.cryptOrderRow.laid) #[.slice none 0 0, .int .i64 0] 8 (World.laidAll_os _ _ _)
      (World.shaped_of_ZipB (by kernel_rfl) (by kernel_rfl)) (by kernel_rfl) (by kernel_rfl) (by kernel_rfl)
      (by rw [MakeChecks.laidMetH_plain _ _ _ (by kernel_rfl)]; exact laidMet_laidAll _ (by kernel_rfl) (by kernel_rfl))) ?_
  intro W base args ds gs before hval0 hW hL hsh
  have hval : ∀ (j : Nat) t v, Tryz.f6.params[j]? = some t → args[j]? = some v → Value.okWide Tryz.prog W .any base t v := hval0
  have hW' := hW
  obtain ⟨p, q, hA0, hV, rfl, hfz, hnd⟩ := hW
  have hA : DataW.TrodAll enc Tryz.prog W 0 (fun _ => true) true Tryz.f6.params.toList args.toList ds p := hA0
  rw [Tryz.params6] at hA hval
  obtain ⟨v0, vs0, d0, ds0, p0, q0, hargs, rfl, rfl, h0, r0⟩ := trodAll_cons hA
  obtain ⟨v1, vs1, d1, ds1, p1, q1, rfl, rfl, rfl, h1, r1⟩ := trodAll_cons r0
  obtain ⟨rfl, rfl, rfl⟩ := trodAll_nil r1
  obtain rfl : args = #[v0, v1] := by cases args; simp_all
  obtain ⟨rfl, rfl⟩ := trodVars_none hV
  obtain ⟨a0, len0, cap0, rfl⟩ := okWide_slice Tryz.underlying22 (hval 0 22 v0 rfl rfl)
  have k0 := h0
  have lt0 : ∀ x ∈ p0, x.block < W.heap.size := by obtain ⟨m, hm⟩ := k0; exact DataW.trod_lt m _ _ _ hm
  obtain ⟨l0, rfl, hl0⟩ : ∃ l : List Int, l.length = len0 ∧ Ints W a0 cap0 l := by
    obtain ⟨fuel, hf⟩ := h0
    rcases open_ints Tryz.underlying22 Tryz.underlying3 (by kernel_rfl) hf with ⟨hcs, _⟩ | ⟨x, l, c, zs, hcs, _, hl, hm, hz, _, hcell, hwz⟩
    · simp [Value.cells] at hcs
      obtain ⟨rfl, rfl, rfl⟩ := hcs
      exact Ints.of_isRow (zs := []) (.inl ⟨rfl, rfl, rfl, rfl⟩)
    · simp [Value.cells] at hcs
      obtain ⟨rfl, rfl, rfl⟩ := hcs
      exact Ints.of_isRow (zs := zs) (.inr ⟨_, rfl, hl, hm, by simpa using hz, hcell, hwz⟩)
  obtain ⟨a1, rfl, rfl, rfl, w1⟩ := open_int Tryz.underlying3 (hval 1 3 v1 rfl rfl) h1
  rw [MakeChecks.laidMetH_plain _ _ _ (by kernel_rfl)] at hL
  have hE := env_of hsh hL
  clear hA0 hval0
  refine (order_walk a0 cap0 l0 a1 W hl0 w1 hE).mono fun e W' ⟨he, hfr⟩ => ?_
  have bel : Below W.heap.size W W' := hfr.below (Nat.le_refl _) (fun b hb e => e)
  subst he
  exact ⟨_, rfl, _, _, _, [], _, [], hW', trodAll_mk1 (shut_bool Tryz.underlying4 _), (trodAll_cons_mk (Below.trod laidOut (by kernel_rfl) (of_decide_eq_true (by kernel_rfl)) k0 bel lt0) (trodAll_cons_mk (shut_int Tryz.underlying3 w1) trodAll_mk0)), rfl, bel.frame _, fun h => by cases h⟩

theorem isNamed : Tryz.pinned.checked.prog.funcNamed Rows.cryptOrderRow.func = some 6 := by kernel_rfl
theorem and2 {a b : Bool} (h : a = true) (k : b = true) : (a && b) = true := by rw [h, k]; rfl
theorem c0 : (Rows.cryptOrderRow.wf (OpenSpec.ofChange Rows.cryptOrderSpec)) = true := by kernel_rfl
theorem c1 : (laidOutB Tryz.pinned.checked.prog) = true := by kernel_rfl
theorem c2 : (mapsRowed Tryz.pinned.checked.prog) = true := by kernel_rfl
theorem c3 : (Tryz.f6.params.all (Tryz.pinned.checked.prog.readableRec ·)) = true := by kernel_rfl
theorem c4 : (namedTie Tryz.pinned.checked.prog Rows.cryptOrderRow.named Rows.cryptOrderSpec.vars) = true := by kernel_rfl
theorem c5 : ((Rows.cryptOrderRow.stops == [])) = true := by kernel_rfl
theorem c6 : ((Tryz.pinned.checked.prog.stops == [])) = true := by kernel_rfl
theorem c7 : ((Rows.cryptOrderRow.knobs == [])) = true := by kernel_rfl
theorem c8 : ((Tryz.pinned.checked.prog.stopKnobs == [])) = true := by kernel_rfl
theorem c9 : ((Rows.cryptOrderRow.inPlace == Tryz.pinned.checked.prog.inPlace 6)) = true := by kernel_rfl
theorem c10 : ((Rows.cryptOrderRow.unfollowed == Tryz.pinned.checked.prog.unfollowed 6)) = true := by kernel_rfl
theorem c11 : ((Rows.cryptOrderRow.recurses == Tryz.pinned.checked.prog.recurses 6)) = true := by kernel_rfl
theorem c12 : ((Rows.cryptOrderRow.named == Tryz.pinned.checked.prog.varsNamed 6)) = true := by kernel_rfl
theorem c13 : ((Rows.cryptOrderRow.maps == (Tryz.f6.params.toList ++ Rows.cryptOrderSpec.plain.varTypes Tryz.pinned.checked.prog).any (Tryz.pinned.checked.prog.mapsRec ·))) = true := by kernel_rfl
theorem c14 : ((Rows.cryptOrderRow.ifaces == (Tryz.f6.params.toList ++ Rows.cryptOrderSpec.plain.varTypes Tryz.pinned.checked.prog).any (Tryz.pinned.checked.prog.ifacesRec ·))) = true := by kernel_rfl
theorem c15 : ((Rows.cryptOrderRow.mapsOut == Tryz.pinned.checked.prog.mapsAmong Tryz.f6.resultTypes.toList)) = true := by kernel_rfl
theorem c16 : ((Rows.cryptOrderRow.loops == (Tryz.f6.params.toList ++ Rows.cryptOrderSpec.plain.varTypes Tryz.pinned.checked.prog).any (Tryz.pinned.checked.prog.loopsFrom ·))) = true := by kernel_rfl
theorem c17 : ((Rows.cryptOrderRow.wideKeys == (Tryz.f6.params.toList ++ Rows.cryptOrderSpec.plain.varTypes Tryz.pinned.checked.prog ++ Tryz.f6.resultTypes.toList).any (Tryz.pinned.checked.prog.wideKeysFrom ·))) = true := by kernel_rfl
theorem c18 : (Rows.cryptOrderSpec.vars.all (Tryz.pinned.checked.prog.varReadable ·)) = true := by kernel_rfl
theorem c19 : (Tryz.f6.resultTypes.all (fun t => Tryz.pinned.checked.prog.readableRec t && decide (t < Tryz.pinned.checked.prog.types.size))) = true := by kernel_rfl
theorem c20 : ((Rows.cryptOrderRow.ifacesOut == Tryz.f6.resultTypes.toList.any (Tryz.pinned.checked.prog.ifacesRec ·))) = true := by kernel_rfl
theorem c21 : ((Rows.cryptOrderRow.loopsOut == Tryz.f6.resultTypes.toList.any (Tryz.pinned.checked.prog.loopsFrom ·))) = true := by kernel_rfl
theorem c22 : ((Rows.cryptOrderRow.plainKeys == Tryz.pinned.checked.prog.plainKeys)) = true := by kernel_rfl
theorem c23 : (Rows.cryptOrderRow.shortTexts.isNone) = true := by kernel_rfl
theorem c24 : (Tryz.pinned.checked.prog.stopsHeard) = true := by kernel_rfl
theorem c25 : (Tryz.pinned.checked.prog.mayEnter) = true := by kernel_rfl
theorem c26 : ((Rows.cryptOrderRow.lifted == Tryz.pinned.checked.prog.liftsFinal)) = true := by kernel_rfl
theorem c27 : ((Tryz.pinned.checked.prog.make == some Rows.cryptOrderRow.make)) = true := by kernel_rfl
theorem c28 : ((Rows.cryptOrderRow.kinds == (if Rows.cryptOrderRow.domain.isEmpty then [] else Tryz.f6.params.toList.map fun t => match Tryz.pinned.checked.prog.underlying t with | some (.int k) => some k | _ => none))) = true := by kernel_rfl
theorem c29 : ((Rows.cryptOrderRow.pinned == Rows.cryptOrderRow.pinnedBy)) = true := by kernel_rfl
theorem c30 : ((Rows.cryptOrderRow.veiled == (Tryz.f6.params.toList ++ Rows.cryptOrderSpec.plain.varTypes Tryz.pinned.checked.prog ++ Tryz.f6.resultTypes.toList).any (Tryz.pinned.checked.prog.veiledRec ·))) = true := by kernel_rfl
theorem c31 : (Rows.cryptOrderRow.veiledFits Tryz.pinned.checked.prog Tryz.f6.params.toList (Tryz.f6.params.toList ++ Rows.cryptOrderSpec.plain.varTypes Tryz.pinned.checked.prog ++ Tryz.f6.resultTypes.toList)) = true := by kernel_rfl
set_option maxRecDepth 100000 in
theorem closed : joinedFacts Tryz.pinned.checked.prog 6 Tryz.f6 Rows.cryptOrderSpec Rows.cryptOrderRow = true := by
  unfold joinedFacts
  exact (and2 (and2 (and2 (and2 (and2 (and2 (and2 (and2 (and2 (and2 (and2 (and2 (and2 (and2 (and2 (and2 (and2 (and2 (and2 (and2 (and2 (and2 (and2 (and2 (and2 (and2 (and2 (and2 (and2 (and2 (and2 c0 c1) c2) c3) c4) c5) c6) c7) c8) c9) c10) c11) c12) c13) c14) c15) c16) c17) c18) c19) c20) c21) c22) c23) c24) c25) c26) c27) c28) c29) c30) c31)
theorem inst : Tryz.f6.isInstance Tryz.pinned.checked.prog Rows.cryptOrderRow.origin Rows.cryptOrderRow.targs := of_decide_eq_true (by kernel_rfl)
theorem wrap : Tryz.f6.isWrapper Tryz.pinned.checked.prog Rows.cryptOrderRow.wrapper Rows.cryptOrderRow.mainSum := by
  unfold Func.isWrapper; first | (rw [if_pos (by decide +kernel)]; kernel_rfl) | (rw [if_neg (by decide +kernel)]; exact ⟨rfl, rfl⟩)
theorem over : Rows.cryptOrderRow.holds Tryz.pinned (OpenSpec.ofChange Rows.cryptOrderSpec) :=
  OpenClaim.holds_of_wide 6 Tryz.f6 rfl rfl rfl rfl rfl rfl rfl ⟨rfl, rfl, rfl, rfl, rfl⟩ rfl rfl rfl rfl rfl isNamed Tryz.func6 closed inst wrap
    (fun os started H enc _ => lifted os started H enc)

theorem t1 : Rows.cryptOrderRow.wfByText (OpenSpec.ofChange Rows.cryptOrderSpec) = true := by kernel_rfl
theorem t2 : Tryz.pinned.checked.prog.mainIs = some ((true, "177d71cd04eb8f01a4c58fd606c8e7c617fc26990225ed53480681c1f264cbbf").1, (true, "177d71cd04eb8f01a4c58fd606c8e7c617fc26990225ed53480681c1f264cbbf").2.toList) := by kernel_rfl
theorem t3 : true = Tryz.pinned.checked.prog.looks [] := by kernel_rfl
theorem t4 : false = Rows.cryptOrderRow.goesBy Tryz.pinned.checked.prog := by kernel_rfl
theorem t5 : Tryz.prog.funcNamed "coldplug/coldpluglaw33.CryptOrder" = some 6 := by kernel_rfl
theorem t6 : ([22, 3].all fun u => !Tryz.prog.wantsStandIn u) = true := by kernel_rfl
theorem proved : Rows.CryptOrderCardSaid :=
  Claim7.holds_tied_plain_at .later [] [.data, .data, .data, .data, .sentinel, .sentinel, .pinned, .pinned] true (true, "177d71cd04eb8f01a4c58fd606c8e7c617fc26990225ed53480681c1f264cbbf") true over (fun _ h => by cases h) t1 (fun _ h => by cases h) cryptOrder_row_tie rfl ⟨rfl, rfl⟩ t2 rfl
    (fun f fn hf hfn => by
      obtain rfl : f = 6 := Option.some.inj (t5.symm.trans hf) |>.symm
      obtain rfl : fn = Tryz.f6 := (Option.some.inj (Tryz.func6.symm.trans hfn)).symm
      exact ⟨t3, fun j t ht => by
        rw [Tryz.params6] at ht
        have hm : t ∈ [22, 3] := by simpa using Array.mem_of_getElem? ht
        have hall : ([22, 3].all fun u => !Tryz.prog.wantsStandIn u) = true := t6
        exact (show Tryz.prog.wantsStandIn t = false by simpa using List.all_eq_true.1 hall t hm)⟩)
    t4
#print axioms proved
end Go.Proofs.YtmieegcgeolckaaGreatDoor.cryptOrder
