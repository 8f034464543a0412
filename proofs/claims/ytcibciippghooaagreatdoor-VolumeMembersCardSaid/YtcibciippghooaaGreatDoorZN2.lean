/- slices.Min, the keys of a table, Sound. Sound; volume's good members. Arrays in memory: slices of api.Array. The groups of a range over places: plain; look-ups by their runs. What gather.Arrays answers. -/
import Derived.Test.YtcibciippghooaaGreatDoorZN1
import Derived.Test.YtcibciippghooaaGreatDoorShelf2
import Derived.Test.YtcibciippghooaaGreatDoorZL20
import Derived.Maps.AppendAt
import Derived.Laws.EntriesVeiled
namespace Go.Proofs.YtcibciippghooaaGreatDoor
open Go.RowKit Go.Maps Go.Sort Go.Shelf
set_option linter.unusedVariables false

set_option maxRecDepth 100000 in
set_option maxHeartbeats 1000000 in
theorem sl_min (a : Option Addr) (cap : Nat) (l : List Int) (w : World) (hl : Ints w a cap l) (hne : 1 ≤ l.length) :
    Calls Tryz.prog 74 #[.slice a l.length cap] w fun e w' => (∃ m, e = .returned (.int .i64 m) ∧ m ∈ l ∧ ∀ x ∈ l, m ≤ x) ∧ w = w' := by
  have hn : ¬ (l.length : Int) < 1 := by omega
  have hm := hl.lenmax
  have hn0 : (0 : Int) < l.length := by omega
  obtain ⟨b, off, x0, rfl, hx0, hc0⟩ := hl.at (k := 0) (by omega)
  rw [Nat.add_zero] at hc0
  have Hx0 := Lib.hid hx0
  clear hx0
  go_enter Tryz.func74, Tryz.ntmps74
  go_wp2_with fail
  go_loop [3, 4] (fun v i => ∃ (k : Nat) (m : Int), 1 ≤ k ∧ k ≤ l.length ∧ v = .int .i64 m ∧ i = .int .i64 (k : Int) ∧ Hid (m ∈ l.take k ∧ ∀ x ∈ l.take k, m ≤ x)) (fun _ i => l.length - (intOf i).toNat)
  case atStart => 
    refine ⟨1, x0, by omega, hne, rfl, rfl, ?_⟩
    unfold Hid
    have : l.take 1 = [x0] := by rw [List.take_add_one, Hx0.out]; rfl
    rw [this]; simp
  case round =>
    obtain ⟨k, m, hk1, hk, rfl, rfl, Hm⟩ := hrel
    by_cases hlt : k < l.length
    · have hlt' : (k : Int) < l.length := by omega
      obtain ⟨b', off', x, e, hx, hc⟩ := hl.at hlt
      cases e
      have Htk : Hid (l.take (k + 1) = l.take k ++ [x]) := by unfold Hid; rw [List.take_add_one, hx]; rfl
      clear hx
      by_cases hmx : m ≤ x
      · have hmin : min m x = m := by omega
        go_wp2_with fail
        go_round
        case rel =>
          refine ⟨k + 1, m, by omega, by omega, by first | rfl | (rw [if_pos hmx]), by go_num, ?_⟩
          unfold Hid
          rw [Htk.out]
          obtain ⟨h1, h2⟩ := Hm.out
          refine ⟨by simp [h1], fun y hy => ?_⟩
          rcases List.mem_append.1 hy with h | h
          · exact h2 y h
          · obtain rfl : y = x := by simpa using h
            exact hmx
        case measure => simp [intOf]; omega
      · have hmin : min m x = x := by omega
        go_wp2_with fail
        go_round
        case rel =>
          refine ⟨k + 1, x, by omega, by omega, by first | rfl | (rw [if_neg hmx]), by go_num, ?_⟩
          unfold Hid
          rw [Htk.out]
          obtain ⟨h1, h2⟩ := Hm.out
          refine ⟨by simp, fun y hy => ?_⟩
          rcases List.mem_append.1 hy with h | h
          · have := h2 y h; omega
          · obtain rfl : y = x := by simpa using h
            omega
        case measure => simp [intOf]; omega
    · obtain rfl : k = l.length := by omega
      have h := Hm.out
      rw [List.take_length] at h
      have Hr := Lib.hid h
      clear h Hm
      go_wp2_with fail
      go_ret
      exact ⟨⟨m, rfl, Hr.out.1, Hr.out.2⟩, rfl⟩

set_option maxHeartbeats 1000000 in
theorem tb_keys (mb : Option Nat) (w : World) : Calls Tryz.prog 104 #[.map mb] w fun e w' => e = .returned (.func (.func 143) #[] #[.pointer (some ⟨w.heap.size, 0, none⟩)]) ∧ w' = w.alloc (.cells #[.map mb] 119) :=
  (callsIn_wide (n := 5)).1 (AnyZ.keys_in Tryz.keysT Fence.wide 5 trivial rfl mb w)

set_option maxHeartbeats 1000000 in
theorem tb_sorted (mb Bm base : Nat) (f : List UInt8 → List Int) (N : Nat) (w : World) (hs : GMap w base mb f N) (hN : N ≤ 1099511627776) (hB : w.cell? ⟨Bm, 0, none⟩ = some (.map (some mb))) (hBl : Bm < w.heap.size) :
    Calls Tryz.prog 39 #[.func (.func 143) #[] #[.pointer (some ⟨Bm, 0, none⟩)]] w fun e w' =>
      (∃ a cap ids, e = .returned (.slice a ids.length cap) ∧ Strs w' a cap ids ∧ AscS (ids.map kb) ∧ (∀ x : ByteArray, x ∈ ids ↔ (f (kb x)) ≠ []) ∧ ids.length ≤ N ∧ ∀ ad, a = some ad → w.heap.size ≤ ad.block) ∧ Fr No w w' := by
  obtain ⟨D, n, hn, hg, _, hf⟩ := hs
  obtain ⟨es, clock, hbk, Ft, hes, hD, _⟩ := hg
  have hown : w.ownsMap Tryz.prog 9 (rowElem w base 3 .i64) mb n D := ⟨es, clock, hbk, Ft, hes, hD⟩
  clear hbk Ft hes hD
  have hsz := hown.size_le
  have hmax : Maps.size D ≤ maxLen := by unfold maxLen; omega
  have hbytes : Maps.size D * 16 ≤ 140737488355328 := by omega
  have hmem := mem_strKeys hown Tryz.underlying9
  have hnd := nodup_strKeys hown lawS Tryz.underlying9
  have hlen := strKeys_len D
  have hseq : SeqGives Fence.wide 2 Tryz.prog 143 #[.pointer (some ⟨Bm, 0, none⟩)] encStr (fun ss => ss.Perm (strKeys D)) (Maps.size D) w :=
    AnyZ.keys_gives (ρ := Tryz.keysT_ren) { Tryz.keysT with } Fence.wide _ trivial rfl (by omega) Bm mb n D _ hBl hB hown
  have cS := AnyZ.sorted_in Tryz.sortedS Fence.wide 5 trivial trivial trivial trivial rfl (by omega) (sortsS _) (enters_of Tryz.func63 (by kernel_rfl) rfl) 143 #[.pointer (some ⟨Bm, 0, none⟩)] trivial (enters_of Tryz.func143 (by kernel_rfl) rfl) _ _ hmax hbytes _ hseq
  refine ((callsIn_wide (n := 5)).1 cS).mono ?_
  rintro e w' ⟨v, ss, rfl, hperm, hrow, _, hb⟩
  have hp : (ss.mergeSort (fun x y => decide (x ≤ y))).Perm (strKeys D) := (List.mergeSort_perm ss _).trans hperm
  obtain ⟨L, hL⟩ : ∃ L, L = (ss.mergeSort (fun x y => decide (x ≤ y))) := ⟨_, rfl⟩
  have hl : (L.map bk).length = ss.length := by rw [hL]; simp
  have e1 : L.map encStr = (L.map bk).map Value.string := by rw [List.map_map]; rfl
  rw [← hL] at hp hrow
  rw [← hl, e1] at hrow
  obtain ⟨a, cap, rfl, h1, h2⟩ := Strs.of_own hrow
  have e2 : (L.map bk).map kb = L := by
    rw [List.map_map]
    have : kb ∘ bk = id := by funext x; exact kb_bk x
    rw [this, List.map_id]
  refine ⟨⟨a, cap, L.map bk, rfl, h1, ?_, fun x => ?_, ?_, h2⟩, Fr.of_below_size hb⟩
  · rw [e2, hL]; exact ascS_sorted (hperm.nodup_iff.2 hnd)
  · have hfx : f (kb x) ≠ [] ↔ has D (.string (kb x)) = true := by rw [hf]; cases f (kb x) <;> simp
    rw [hfx, ← hmem, ← hp.mem_iff]
    constructor
    · intro h
      obtain ⟨y, hy, rfl⟩ := List.mem_map.1 h
      rwa [kb_bk]
    · intro h
      exact List.mem_map.2 ⟨_, h, bk_kb x⟩
  · rw [List.length_map, hp.length_eq]; omega

set_option maxHeartbeats 1000000 in
theorem table_keys (mb base : Nat) (f : List UInt8 → List Int) (N : Nat) (w : World) (hs : GMap w base mb f N) (hN : N ≤ 1099511627776) :
    Calls Tryz.prog 73 #[.map (some mb)] w fun e w' =>
      (∃ a cap ids, e = .returned (.slice a ids.length cap) ∧ Strs w' a cap ids ∧ AscS (ids.map kb) ∧ (∀ x : ByteArray, x ∈ ids ↔ (f (kb x)) ≠ []) ∧ ids.length ≤ N ∧ ∀ ad, a = some ad → w.heap.size ≤ ad.block) ∧ Fr No w w' := by
  have hmb : mb < w.heap.size := hs.lt
  have hx : Fr No w (w.alloc (.cells #[.map (some mb)] 119)) := (Fr.refl _ _).alloc _
  have hs1 : GMap (w.alloc (.cells #[.map (some mb)] 119)) base mb f N := hs.grown (World.grownBy_alloc w _ none) (by simp) (fun j hj => by cases hj)
  have q1 := block_alloc w (.cells #[.map (some mb)] 119)
  have hsz : w.heap.size < (w.alloc (.cells #[.map (some mb)] 119)).heap.size := by simp
  go_enter Tryz.func73, Tryz.ntmps73
  go_wp2_with fail
  refine (tb_keys _ _).mono ?_
  rintro en w1 ⟨rfl, rfl⟩
  go_wp2_with fail
  generalize w.alloc (.cells #[.map (some mb)] 119) = W1 at *
  refine (tb_sorted mb w.heap.size base f N W1 hs1 hN (cell_of_block q1 0) hsz).mono ?_
  rintro en w2 ⟨⟨ia, ic, ids, rfl, hS, hasc, hmem, hln, hfresh⟩, hf2⟩
  have H := Lib.hid (And.intro hS (And.intro hasc (And.intro hmem (And.intro hfresh (hx.step hf2 (fun _ _ h => h))))))
  clear hS hasc hmem hfresh hf2 hs1 q1 hx
  go_wp2_with fail
  go_ret
  exact ⟨⟨ia, ic, ids, rfl, H.out.1, H.out.2.1, H.out.2.2.1, hln, fun ad e => by have := H.out.2.2.2.1 ad e; omega⟩, H.out.2.2.2.2⟩
end Go.Proofs.YtcibciippghooaaGreatDoor
namespace Go.Proofs.YtcibciippghooaaGreatDoor
open Go.RowKit Go.Maps
set_option linter.unusedVariables false

set_option maxRecDepth 100000 in
set_option maxHeartbeats 2000000 in
theorem g_sound (p i : ByteArray) (r s t e : Int) (v : Value) (w : World) :
    Calls Tryz.prog 49 #[.agg #[.string p, .string i, .int .i64 r, .int .i64 s, .int .i64 t, .int .i64 e, v]] w fun en w' => en = .returned (.bool (!p.toList.isEmpty && (decide (1 ≤ s) && decide (s ≤ 16)) && (decide (1 ≤ t) && decide (t ≤ 16)))) ∧ Fr No w w' := by
  have hx : Fr No w (w.alloc (.cells #[.string p, .string i, .int .i64 r, .int .i64 s, .int .i64 t, .int .i64 e, v] 31)) := (Fr.refl _ _).alloc _
  have Hx := Lib.hid hx
  clear hx
  obtain ⟨b, hb⟩ : ∃ b, b = (!p.toList.isEmpty && (decide (1 ≤ s) && decide (s ≤ 16)) && (decide (1 ≤ t) && decide (t ≤ 16))) := ⟨_, rfl⟩
  rw [← hb]
  have Hb := Lib.hid hb
  clear hb
  go_enter Tryz.func49, Tryz.ntmps49
  rcases h1 : p.toList.isEmpty with _ | _
  · by_cases h2 : 1 ≤ s
    · by_cases h3 : s ≤ 16
      · by_cases h4 : 1 ≤ t
        · by_cases h5 : t ≤ 16
          · go_wp2_with fail
            go_ret
            exact ⟨by rw [Hb.out, h1]; simp [h2, h3, h4, h5], Hx.out⟩
          · go_wp2_with fail
            go_ret
            exact ⟨by rw [Hb.out, h1]; simp [h5], Hx.out⟩
        · go_wp2_with fail
          go_ret
          exact ⟨by rw [Hb.out, h1]; simp; omega, Hx.out⟩
      · go_wp2_with fail
        go_ret
        exact ⟨by rw [Hb.out, h1]; simp; omega, Hx.out⟩
    · go_wp2_with fail
      go_ret
      exact ⟨by rw [Hb.out, h1]; simp; omega, Hx.out⟩
  · go_wp2_with fail
    go_ret
    exact ⟨by rw [Hb.out, h1]; simp, Hx.out⟩

set_option maxRecDepth 100000 in
set_option maxHeartbeats 1000000 in
theorem v_good (p i : ByteArray) (r s t e : Int) (v : Value) (w : World) :
    Calls Tryz.prog 48 #[.agg #[.string p, .string i, .int .i64 r, .int .i64 s, .int .i64 t, .int .i64 e, v]] w fun en w' => en = .returned (.bool (!p.toList.isEmpty && (decide (1 ≤ s) && decide (s ≤ 16)) && (decide (1 ≤ t) && decide (t ≤ 16)))) ∧ Fr No w w' := by
  have hx : Fr No w (w.alloc (.cells #[.string p, .string i, .int .i64 r, .int .i64 s, .int .i64 t, .int .i64 e, v] 31)) := (Fr.refl _ _).alloc _
  have hs := g_sound p i r s t e v (w.alloc (.cells #[.string p, .string i, .int .i64 r, .int .i64 s, .int .i64 t, .int .i64 e, v] 31))
  have Hx := Lib.hid hx
  clear hx
  go_enter Tryz.func48, Tryz.ntmps48
  go_wp2_with fail
  refine hs.mono ?_
  rintro en w1 ⟨rfl, hf1⟩
  have H := Lib.hid (Hx.out.step hf1 (fun _ _ h => h))
  clear hf1 hs
  obtain ⟨b, hb⟩ : ∃ b, b = (!p.toList.isEmpty && (decide (1 ≤ s) && decide (s ≤ 16)) && (decide (1 ≤ t) && decide (t ≤ 16))) := ⟨_, rfl⟩
  rw [← hb]
  have Hb := Lib.hid hb
  clear hb
  go_wp2_with fail
  go_ret
  exact ⟨by rw [← Hb.out]; rfl, H.out⟩
end Go.Proofs.YtcibciippghooaaGreatDoor
namespace Go.Proofs.YtcibciippghooaaGreatDoor
open Go.RowKit Go.Maps
set_option linter.unusedVariables false

/-- An array with the places of its paths and its inner texts. -/
structure ArrM extends Arr where
  pa : Option Addr
  pc : Nat
  la : Option Addr
  lc : Nat
def ArrM.vals (m : ArrM) : Array Value := #[.string m.i, .slice m.pa m.ps.length m.pc, .int .i64 m.t, .int .i64 m.e, .int .i64 m.n, .slice m.la m.l.length m.lc]
structure Arrs (w : World) (a : Option Addr) (cap : Nat) (L : List ArrM) : Prop where
  len : L.length ≤ cap
  max : cap ≤ maxLen
  isNil : a = none → L = [] ∧ cap = 0
  ok : ∀ m ∈ L, Strs w m.pa m.pc m.ps ∧ Strs w m.la m.lc m.l
  cell : ∀ ad, a = some ad → L ≠ [] → ad.spot = none ∧ ad.block < w.heap.size ∧ ∀ i m, L[i]? = some m → ∀ j, j < 6 → w.cell? ⟨ad.block, ad.off + (i * 6 + j), none⟩ = m.vals[j]?
/-- The seven cells of a member at (b, o). -/
structure ArrAt (w : World) (b o : Nat) (m : ArrM) : Prop where
  c0 : w.cell? ⟨b, o, none⟩ = some (.string m.i)
  c1 : w.cell? ⟨b, o + 1, none⟩ = some (.slice m.pa m.ps.length m.pc)
  c2 : w.cell? ⟨b, o + 2, none⟩ = some (.int .i64 m.t)
  c3 : w.cell? ⟨b, o + 3, none⟩ = some (.int .i64 m.e)
  c4 : w.cell? ⟨b, o + 4, none⟩ = some (.int .i64 m.n)
  c5 : w.cell? ⟨b, o + 5, none⟩ = some (.slice m.la m.l.length m.lc)
theorem Arrs.elem {w : World} {a : Option Addr} {cap : Nat} {L : List ArrM} (h : Arrs w a cap L) {k : Nat} (hk : k < L.length) :
    ∃ b off m, a = some ⟨b, off, none⟩ ∧ L[k]? = some m ∧ (Strs w m.pa m.pc m.ps ∧ Strs w m.la m.lc m.l) ∧ ArrAt w b (off + k * 6) m ∧ b < w.heap.size := by
  cases a with
  | none => obtain ⟨rfl, _⟩ := h.isNil rfl; simp at hk
  | some ad =>
    obtain ⟨b, off, sp⟩ := ad
    obtain ⟨h1, h2, h3⟩ := h.cell _ rfl (by intro e; subst e; simp at hk)
    simp at h1; subst h1
    have hc := h3 k _ (List.getElem?_eq_getElem hk)
    exact ⟨b, off, L[k], rfl, List.getElem?_eq_getElem hk, h.ok _ (List.getElem_mem hk), ⟨hc 0 (by omega), hc 1 (by omega), hc 2 (by omega), hc 3 (by omega), hc 4 (by omega), hc 5 (by omega)⟩, h2⟩
theorem Arrs.lenmax {w : World} {a : Option Addr} {cap : Nat} {L : List ArrM} (h : Arrs w a cap L) : L.length ≤ 9223372036854775807 := by
  have h1 := h.len; have h2 := h.max; unfold maxLen at h2; omega
theorem Arrs.fr {S : Nat → Prop} {w w' : World} {a : Option Addr} {cap : Nat} {L : List ArrM} (h : Arrs w a cap L) (hf : Fr S w w') (hS : ∀ ad, a = some ad → L ≠ [] → ¬ S ad.block) (hM : ∀ m ∈ L, (∀ ad, m.pa = some ad → m.ps ≠ [] → ¬ S ad.block) ∧ ∀ ad, m.la = some ad → m.l ≠ [] → ¬ S ad.block) : Arrs w' a cap L :=
  ⟨h.len, h.max, h.isNil, fun m hm => ⟨(h.ok m hm).1.fr hf (hM m hm).1, (h.ok m hm).2.fr hf (hM m hm).2⟩, fun ad e hne => by
    obtain ⟨h1, h2, h3⟩ := h.cell ad e hne
    refine ⟨h1, Nat.lt_of_lt_of_le h2 hf.size, fun i m hi j hj => ?_⟩
    rw [← h3 i m hi j hj]
    exact World.cell?_of_block (hf.block _ h2 (hS ad e hne))⟩
theorem Arrs.no {S : Nat → Prop} {w w' : World} {a : Option Addr} {cap : Nat} {L : List ArrM} (h : Arrs w a cap L) (hf : Fr S w w') (hS : ∀ k, ¬ S k) : Arrs w' a cap L := h.fr hf (fun _ _ _ => hS _) (fun _ _ => ⟨fun _ _ _ => hS _, fun _ _ _ => hS _⟩)
theorem Arrs.keep {S : Nat → Prop} {w w' : World} {a : Option Addr} {cap : Nat} {L : List ArrM} (h : Arrs w a cap L) (hf : Fr S w w') (hS : ∀ b, b < w.heap.size → ¬ S b) : Arrs w' a cap L :=
  h.fr hf (fun ad e hne => hS _ (h.cell ad e hne).2.1) (fun m hm => ⟨fun ad e hne => hS _ ((h.ok m hm).1.cell ad e hne).2.1, fun ad e hne => hS _ ((h.ok m hm).2.cell ad e hne).2.1⟩)
theorem Arrs.nil (w : World) : Arrs w none 0 [] := ⟨by simp, by simp, fun _ => ⟨rfl, rfl⟩, by simp, fun _ e _ => by cases e⟩
theorem infoAr : (Tryz.prog.info? 58).map (fun i => (i.zero, i.size, i.bytes)) = some (some (.agg #[.string ByteArray.empty, .slice none 0 0, .int .i64 0, .int .i64 0, .int .i64 0, .slice none 0 0]), 6, 88) := by kernel_rfl
def arflat (L : List ArrM) : List Value := L.flatMap (fun m => m.vals.toList)
theorem arflat_snoc (L : List ArrM) (m : ArrM) : arflat (L ++ [m]) = arflat L ++ m.vals.toList := by simp [arflat]
theorem arvals_one (m : ArrM) : ∀ u ∈ m.vals.toList, u.oneCell' = true := by
  intro u hu
  simp [ArrM.vals] at hu
  rcases hu with rfl | rfl | rfl | rfl | rfl | rfl <;> rfl
theorem arflat_at : ∀ (L : List ArrM) (i : Nat) (m : ArrM), L[i]? = some m → ∀ j, j < 6 → (arflat L)[i * 6 + j]? = m.vals[j]?
  | [], i, m, h, j, hj => by simp at h
  | x :: t, 0, m, h, j, hj => by
    simp at h; subst h
    have : arflat (x :: t) = x.vals.toList ++ arflat t := by simp [arflat]
    rw [this, List.getElem?_append_left (by simp [ArrM.vals]; omega)]
    simp
  | x :: t, i + 1, m, h, j, hj => by
    have : arflat (x :: t) = x.vals.toList ++ arflat t := by simp [arflat]
    rw [this, List.getElem?_append_right (by simp [ArrM.vals]; omega), show (i + 1) * 6 + j - x.vals.toList.length = i * 6 + j from by simp [ArrM.vals]; omega]
    exact arflat_at t i m (by simpa using h) j hj
theorem arflat_len (L : List ArrM) : (arflat L).length = L.length * 6 := by
  induction L with
  | nil => rfl
  | cons d t ih =>
    have : arflat (d :: t) = d.vals.toList ++ arflat t := by simp [arflat]
    rw [this, List.length_append, ih]
    simp [ArrM.vals]; omega
theorem Arrs.of_own {w : World} {base : Nat} {e : TypeId} {v : Value} {L : List ArrM} (h : w.ownsRow base e 6 v L.length (arflat L)) (hok : ∀ m ∈ L, Strs w m.pa m.pc m.ps ∧ Strs w m.la m.lc m.l) :
    ∃ a cap, v = .slice a L.length cap ∧ Arrs w a cap L ∧ ∀ ad, a = some ad → base ≤ ad.block := by
  obtain ⟨_, ⟨rfl, h2⟩ | ⟨g, cap, cur, rfl, hg, hb, h1, h2, h3, h4⟩⟩ := h
  · have : L = [] := List.eq_nil_of_length_eq_zero h2
    subst this
    exact ⟨none, 0, rfl, Arrs.nil w, fun _ e => by cases e⟩
  · refine ⟨some ⟨g, 0, none⟩, cap, rfl, ⟨h1, h2, (fun e => by cases e), hok, ?_⟩, fun ad e => by cases e; exact hg⟩
    intro ad e hne
    cases e
    refine ⟨rfl, lt_of_block hb, fun i m hi j hj => ?_⟩
    rw [cell_of_block hb]
    simp only [Nat.zero_add]
    have hlt : i < L.length := (List.getElem?_eq_some_iff.1 hi).1
    have e1 : (cur.toList.take (L.length * 6))[i * 6 + j]? = (arflat L)[i * 6 + j]? := by rw [h4]
    rw [List.getElem?_take_of_lt (by omega), arflat_at L i m hi j hj] at e1
    rw [← Array.getElem?_toList, e1]
/-- Arrays of the call's own: their texts lie in new blocks of texts. -/
def AFresh (w : World) (base : Nat) (L : List ArrM) : Prop := ∀ m ∈ L, (Strs w m.pa m.pc m.ps ∧ Strs w m.la m.lc m.l) ∧ (BlkT w m.pa 9 ∧ BlkT w m.la 9) ∧ (∀ ad, m.pa = some ad → base ≤ ad.block) ∧ ∀ ad, m.la = some ad → base ≤ ad.block
theorem AFresh.fr {S : Nat → Prop} {w w' : World} {base : Nat} {L : List ArrM} (h : AFresh w base L) (hf : Fr S w w') (hS : ∀ b, base ≤ b → b < w.heap.size → ¬ S b) : AFresh w' base L := fun m hm => by
  obtain ⟨⟨h1, h2⟩, ⟨h3, h4⟩, h5, h6⟩ := h m hm
  have hk : ∀ ad, m.pa = some ad → ¬ S ad.block := fun ad e => by obtain ⟨cs, hc⟩ := h3 ad e; exact hS _ (h5 ad e) (lt_of_block hc)
  have hk2 : ∀ ad, m.la = some ad → ¬ S ad.block := fun ad e => by obtain ⟨cs, hc⟩ := h4 ad e; exact hS _ (h6 ad e) (lt_of_block hc)
  exact ⟨⟨h1.fr hf (fun ad e _ => hk ad e), h2.fr hf (fun ad e _ => hk2 ad e)⟩, ⟨h3.fr hf hk, h4.fr hf hk2⟩, h5, h6⟩
theorem AFresh.own {w w' : World} {base b0 : Nat} {L : List ArrM} {v : Value} {n : Nat} {xs : List Value} (h : AFresh w base L) (ho : w.ownsRow b0 58 6 v n xs) (hf : Fr (fun b => v.ownBlock = some b) w w') : AFresh w' base L := fun m hm => by
  obtain ⟨⟨h1, h2⟩, ⟨h3, h4⟩, h5, h6⟩ := h m hm
  have hk := BlkT.ne ho h3 (by decide)
  have hk2 := BlkT.ne ho h4 (by decide)
  exact ⟨⟨h1.fr hf (fun ad e _ => hk ad e), h2.fr hf (fun ad e _ => hk2 ad e)⟩, ⟨h3.fr hf hk, h4.fr hf hk2⟩, h5, h6⟩
theorem AFresh.snoc {w : World} {base : Nat} {L : List ArrM} {m : ArrM} (h : AFresh w base L) (h1 : Strs w m.pa m.pc m.ps ∧ Strs w m.la m.lc m.l) (h2 : BlkT w m.pa 9 ∧ BlkT w m.la 9) (h3 : (∀ ad, m.pa = some ad → base ≤ ad.block) ∧ ∀ ad, m.la = some ad → base ≤ ad.block) : AFresh w base (L ++ [m]) := fun x hx => by
  rcases List.mem_append.1 hx with hx | hx
  · exact h x hx
  · obtain rfl : x = m := by simpa using hx
    exact ⟨h1, h2, h3⟩
end Go.Proofs.YtcibciippghooaaGreatDoor
namespace Go.Proofs.YtcibciippghooaaGreatDoor
open Go.RowKit Go.Maps Go.Sort Go.Shelf
set_option linter.unusedVariables false

theorem wp_look_run {w : World} {ops : Array Oper} {rest : List Oper} {o : Oper} {a : Act} {Q : Exit → Act → World → Prop} (hg : o.guard = none) (m x : Operand) (t : TypeId) (hop : o.op = Op.lookup t m x false)
    (mv xv v : Value) (hm : a.eval m = mv) (hx : a.eval x = xv) (hrun : (Instr.lookup t mv xv false).run Tryz.prog w = .ok v w)
    (hK : wpList Tryz.prog ops Q rest (a.put o.dst v) w) : wpList Tryz.prog ops Q (o :: rest) a w := by
  refine wpList_plain hg fun K' hK' => ?_
  unfold Oper.wp
  simp [execOp, hop, hm, hx, hrun, Result.andThen]
  exact hK' _ _ hK
theorem wp_upd_run {w : World} {ops : Array Oper} {rest : List Oper} {o : Oper} {a : Act} {Q : Exit → Act → World → Prop} (hg : o.guard = none) (m x v : Operand) (t : TypeId) (hop : o.op = Op.mapUpdate t m x v)
    (mv xv vv : Value) (hm : a.eval m = mv) (hx : a.eval x = xv) (hv : a.eval v = vv) {w2 : World} (hrun : (Instr.mapUpdate t mv xv vv).run Tryz.prog w = .ok () w2)
    (hK : wpList Tryz.prog ops Q rest (a.put o.dst undef) w2) : wpList Tryz.prog ops Q (o :: rest) a w := by
  refine wpList_plain hg fun K' hK' => ?_
  unfold Oper.wp
  simp [execOp, hop, hm, hx, hv, hrun, Result.andThen]
  exact hK' _ _ hK
theorem quiet_look {o : Oper} {a : Act} {S : World → Prop} {K : Act → Prop} (hg : o.guard = none) (m x : Operand) (t : TypeId) (hop : o.op = Op.lookup t m x false) (mv xv v : Value) (hm : a.eval m = mv) (hx : a.eval x = xv)
    (hrun : ∀ W, S W → (Instr.lookup t mv xv false).run Tryz.prog W = .ok v W) (hK : K (a.put o.dst v)) : o.quiet Tryz.prog a S K := by
  refine ⟨v, fun W hW => ?_, hK⟩
  unfold Oper.quietAt
  simp [execOp, hop, hm, hx, hrun W hW, Result.andThen, Oper.quietUpon]
set_option maxRecDepth 100000 in
theorem hfdM : ∀ (p i : ByteArray) (r s t e : Int) (a : Option Addr) (n c : Nat) (W : World), (Instr.field 31 (.agg #[.string p, .string i, .int .i64 r, .int .i64 s, .int .i64 t, .int .i64 e, .slice a n c]) 0).run Tryz.prog W = .ok (.string p) W := by intros; kernel_rfl
theorem Fr.grownF {w w' : World} (h : Fr (From w.heap.size) w w') : w.grownBy w' none := ⟨h.os, h.tape, h.output, h.size, fun k hk _ => h.block k hk (by unfold From; omega)⟩

def mapP (g : ByteArray × Int → Option Mem) : ByteArray × Int → Option Value := fun x => (g x).map Mem.v
theorem mapP_upd (g : ByteArray × Int → Option Mem) (x : ByteArray × Int) (m : Mem) : updP (mapP g) x m.v = mapP (fun y => if y = x then some m else g y) := by
  funext y
  unfold updP mapP
  by_cases h : y = x <;> simp [h]
theorem infoI2 : (Tryz.prog.info? 3).map (fun i => (i.zero, i.size, i.bytes)) = some (some (.int .i64 0), 1, 8) := by kernel_rfl
/-- What of a map of places has been handed out, grouped. -/
structure Grp (D : DataW Value) (left : Lit → Bool) (f : List UInt8 → List Int) : Prop where
  mem : ∀ (x : ByteArray) (s : Int), s ∈ f (kb x) ↔ (x.size ≤ maxLen ∧ (Lit.int .i64 s).wf = true ∧ has D (plL (x, s)) = true ∧ left (plL (x, s)) = false)
  nodup : ∀ x : ByteArray, (f (kb x)).Nodup
theorem Grp.start (D : DataW Value) : Grp D (has D) (fun _ => []) := by
  constructor
  · intro x s
    simp only [List.not_mem_nil, false_iff]
    rintro ⟨_, _, h1, h2⟩
    rw [h1] at h2; cases h2
  · exact fun _ => List.nodup_nil
theorem Grp.step {D : DataW Value} {left : Lit → Bool} {f : List UInt8 → List Int} (h : Grp D left f) {x : ByteArray} {s : Int} (hx : x.size ≤ maxLen) (hs : (Lit.int .i64 s).wf = true) (hl : left (plL (x, s)) = true) (hD : has D (plL (x, s)) = true) :
    Grp D (fun z => left z && !z.sameKey (plL (x, s))) (fun z => if z = kb x then f (kb x) ++ [s] else f z) := by
  constructor
  · intro y r
    by_cases e : y = x
    · subst e
      rw [if_pos rfl, List.mem_append, h.mem]
      by_cases e2 : r = s
      · subst e2
        rw [WideAt.sameKey_self (isKeyPl _)]
        simp [hx, hs, hD]
      · constructor
        · rintro (⟨a, b, c, d⟩ | h1)
          · exact ⟨a, b, c, by rw [d]; rfl⟩
          · simp at h1; exact absurd h1 e2
        · rintro ⟨a, b, c, d⟩
          refine .inl ⟨a, b, c, ?_⟩
          cases hk : (plL (y, r)).sameKey (plL (y, s)) with
          | true =>
            have := plL_inj a b hx hs (WideAt.sameKey_eq hk)
            simp at this; exact absurd this e2
          | false => rw [hk] at d; simpa using d
    · rw [if_neg (fun he => e (kb_inj he)), h.mem]
      constructor
      · rintro ⟨a, b, c, d⟩
        exact ⟨a, b, c, by rw [d]; rfl⟩
      · rintro ⟨a, b, c, d⟩
        refine ⟨a, b, c, ?_⟩
        cases hk : (plL (y, r)).sameKey (plL (x, s)) with
        | true =>
          have := plL_inj a b hx hs (WideAt.sameKey_eq hk)
          simp at this; exact absurd this.1 e
        | false => rw [hk] at d; simpa using d
  · intro y
    by_cases e : y = x
    · subst e
      rw [if_pos rfl]
      refine List.nodup_append.2 ⟨h.nodup y, by simp, fun a ha b hb => ?_⟩
      obtain rfl : b = s := by simpa using hb
      intro hab
      subst hab
      obtain ⟨_, _, _, h4⟩ := (h.mem y a).1 ha
      rw [hl] at h4; cases h4
    · rw [if_neg (fun he => e (kb_inj he))]; exact h.nodup y
theorem has_of_at {D : DataW Value} {kl : Lit} {d : DataW Value} (h : ∀ zd, D.atKey kl zd = d) : has D kl = true := by
  cases hk : has D kl with
  | true => rfl
  | false =>
    have h1 := h (.held (.bool true))
    have h2 := h (.held (.bool false))
    rw [atKey_of_not_has hk] at h1 h2
    rw [← h2] at h1
    cases h1
theorem Grp.slots {D : DataW Value} {left : Lit → Bool} {f : List UInt8 → List Int} (h : Grp D left f) (hl : ∀ kl, left kl = false) {b : ByteArray × Int → Option Mem}
    (hh : ∀ x : ByteArray × Int, x.1.size ≤ maxLen → (Lit.int .i64 x.2).wf = true → has D (plL x) = (mapP b x).isSome) (hb : ∀ x s m, b (x, s) = some m → x.size ≤ maxLen ∧ (Lit.int .i64 s).wf = true) (x : ByteArray) : IsSlots b x (f (kb x)) := by
  refine ⟨h.nodup x, fun s => ?_⟩
  rw [h.mem]
  constructor
  · rintro ⟨a, b', c, _⟩
    rw [hh (x, s) a b'] at c
    simpa [mapP] using c
  · intro hs
    obtain ⟨m, hm⟩ := Option.isSome_iff_exists.1 hs
    obtain ⟨h1, h2⟩ := hb x s m hm
    exact ⟨h1, h2, by rw [hh (x, s) h1 h2]; simp [mapP, hm], hl _⟩
theorem IsIds2.of_slots {b : ByteArray × Int → Option Mem} {ids : List ByteArray} {f : List UInt8 → List Int} (ha : AscS (ids.map kb)) (hm : ∀ x : ByteArray, x ∈ ids ↔ f (kb x) ≠ []) (hs : ∀ x : ByteArray, IsSlots b x (f (kb x))) : IsIds2 b ids := by
  refine ⟨ha, fun x => ?_⟩
  rw [hm]
  constructor
  · intro hne
    obtain ⟨s, hs'⟩ := List.exists_mem_of_ne_nil _ hne
    exact ⟨s, ((hs x).mem s).1 hs'⟩
  · rintro ⟨s, hs'⟩ e
    have := ((hs x).mem s).2 hs'
    rw [e] at this; cases this
/-- Six cells stored one by one. -/
theorem set6 {W : World} {b : Nat} {cs : Array Value} {T : TypeId} (h : W.heap[b]? = some (.cells cs T)) (hs : cs.size = 6) (v0 v1 v2 v3 v4 v5 : Value) :
    (((((((W.setCell ⟨b, 0, none⟩ v0).setCell ⟨b, 1, none⟩ v1).setCell ⟨b, 2, none⟩ v2).setCell ⟨b, 3, none⟩ v3).setCell ⟨b, 4, none⟩ v4).setCell ⟨b, 5, none⟩ v5)).heap[b]? = some (.cells #[v0, v1, v2, v3, v4, v5] T) ∧ Fr (Is b) W ((((((W.setCell ⟨b, 0, none⟩ v0).setCell ⟨b, 1, none⟩ v1).setCell ⟨b, 2, none⟩ v2).setCell ⟨b, 3, none⟩ v3).setCell ⟨b, 4, none⟩ v4).setCell ⟨b, 5, none⟩ v5) := by
  have fs : ∀ {a w : World} (h : Fr (Is b) a w) (i : Nat) (v : Value), Fr (Is b) a (w.setCell ⟨b, i, none⟩ v) := fun h i v => h.setCell (p := ⟨b, i, none⟩) (fun _ => rfl) v
  refine ⟨?_, fs (fs (fs (fs (fs (fs (Fr.refl _ _) _ _) _ _) _ _) _ _) _ _) _ _⟩
  obtain ⟨l⟩ := cs
  match l, hs with
  | [_, _, _, _, _, _], _ =>
    have h0 := block_setCell h 0 v0
    have h1 := block_setCell h0 1 v1
    have h2 := block_setCell h1 2 v2
    have h3 := block_setCell h2 3 v3
    have h4 := block_setCell h3 4 v4
    have h5 := block_setCell h4 5 v5
    simp only [List.setIfInBounds_toArray, List.set_cons_zero, List.set_cons_succ] at h5
    exact h5
theorem made_block {W : World} {base T P : Nat} (h : W.ownsRow base 9 1 (.slice (some ⟨P, 0, none⟩) T T) T (madeCells (Value.string ByteArray.empty).cells (T * 1)).toList) :
    W.heap[P]? = some (.cells ((List.replicate T (⟨#[]⟩ : ByteArray)).map Value.string).toArray 9) := by
  obtain ⟨_, ⟨h1, _⟩ | ⟨g, cap, cur, h1, hg, hb, h2, h3, h4, h5⟩⟩ := h
  · cases h1
  · cases h1
    rw [hb]
    have e1 : cur.toList = (madeCells (Value.string ByteArray.empty).cells (T * 1)).toList := by
      rw [← h5, List.take_of_length_le]
      rw [Array.length_toList, h4]; exact Nat.le_refl _
    have e2 : (madeCells (Value.string ByteArray.empty).cells (T * 1)).toList = (List.replicate T (⟨#[]⟩ : ByteArray)).map Value.string := by
      apply List.ext_getElem?
      intro i
      by_cases hi : i < T
      · rw [List.getElem?_map, List.getElem?_replicate, if_pos hi]
        simp [madeCells, Value.cells, hi, Nat.mod_one]
        rfl
      · rw [List.getElem?_eq_none (by simp [madeCells]; omega), List.getElem?_eq_none (by simp; omega)]
    rw [show cur = ((List.replicate T (⟨#[]⟩ : ByteArray)).map Value.string).toArray by rw [← e2, ← e1]]
theorem strs_of_block {W : World} {P : Nat} {l : List ByteArray} (h : W.heap[P]? = some (.cells (l.map Value.string).toArray 9)) (hm : l.length ≤ maxLen) : Strs W (some ⟨P, 0, none⟩) l.length l := by
  refine ⟨Nat.le_refl _, hm, (fun e => by cases e), fun ad e _ => ?_⟩
  cases e
  refine ⟨rfl, lt_of_block h, fun i x hi => ?_⟩
  rw [cell_of_block h]
  simp [hi]
end Go.Proofs.YtcibciippghooaaGreatDoor
namespace Go.Proofs.YtcibciippghooaaGreatDoor
open Go.RowKit Go.Maps Go.Sort Go.Shelf
set_option linter.unusedVariables false

theorem block_alloc13 (w : World) (o o' o'' : Obj) : (((w.alloc o).alloc o').alloc o'').heap[w.heap.size]? = some o := ((Fr.refl No _).alloc o'').heap (block_alloc1 w o o') id
theorem block_alloc23 (w : World) (o o' o'' : Obj) : (((w.alloc o).alloc o').alloc o'').heap[w.heap.size + 1]? = some o' := ((Fr.refl No _).alloc o'').heap (block_alloc2 w o o') id
theorem block_alloc33 (w : World) (o o' o'' : Obj) : (((w.alloc o).alloc o').alloc o'').heap[w.heap.size + 1 + 1]? = some o'' := by
  have h := block_alloc ((w.alloc o).alloc o') o''
  have e : ((w.alloc o).alloc o').heap.size = w.heap.size + 1 + 1 := by simp
  rw [e] at h; exact h
def zeroMem2 : Value := .agg #[.string ⟨#[]⟩, .string ⟨#[]⟩, .int .i64 0, .int .i64 0, .int .i64 0, .int .i64 0, .slice none 0 0]
theorem zeroM2 (w : World) : (zeroValue 31).run Tryz.prog w = .ok zeroMem2 w := by kernel_rfl

/-- The sizes of a list of members with slots. -/
structure MemSmall2 (L : List Mem) : Prop where
  len : L.length ≤ 1000
  p : ∀ m ∈ L, m.p.size ≤ 1000000
  i : ∀ m ∈ L, m.i.size ≤ 1000000
  l : ∀ m ∈ L, m.l.length ≤ 1000000
  s : ∀ m ∈ L, (Lit.int .i64 m.s).wf = true
/-- What Arrays answers. -/
def ArrRes (w : World) (b : ByteArray × Int → Option Mem) (e : Ending) (w' : World) : Prop :=
  ∃ (a' : Option Addr) (c' : Nat) (O : List ArrM) (ids : List ByteArray), e = .returned (.slice a' O.length c') ∧ Arrs w' a' c' O ∧ (∀ ad, a' = some ad → w.heap.size ≤ ad.block) ∧ AFresh w' w.heap.size O ∧ IsIds2 b ids ∧ O.map ArrM.toArr = ids.map (buildA b) ∧ ids.length ≤ 1000 ∧ w'.ownsRow w.heap.size 58 6 (.slice a' O.length c') O.length (arflat O)
end Go.Proofs.YtcibciippghooaaGreatDoor
