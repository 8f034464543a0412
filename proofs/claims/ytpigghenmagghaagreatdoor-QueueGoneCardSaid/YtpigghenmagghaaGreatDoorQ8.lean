/- The reference of layer 28: Mark, Take, Done, Forget. -/
import Derived.Test.YtpigghenmagghaaGreatDoorQ7
import Derived.Test.YtpigghenmagghaaGreatDoorReg
namespace Go.Proofs.YtpigghenmagghaaGreatDoor
open Go.RowKit Go.Maps Go.Sort Go.Shelf
set_option linter.unusedVariables false

theorem Fr.setIs {b i : Nat} {a w : World} (h : Fr (Is b) a w) (v : Value) : Fr (Is b) a (w.setCell ⟨b, i, none⟩ v) := h.setCell (p := ⟨b, i, none⟩) (fun _ => rfl) v

/-- The slice (a', l') is the slice (a, l), or new since w. -/
def SON (w : World) (a : Option Addr) (l : List Int) (a' : Option Addr) (l' : List Int) : Prop := (a' = a ∧ l' = l) ∨ ∀ ad, a' = some ad → w.heap.size ≤ ad.block
/-- The slice lies in no block of S. -/
def Av (S : Nat → Prop) (a : Option Addr) (l : List Int) : Prop := ∀ ad, a = some ad → l ≠ [] → ¬ S ad.block
theorem Av.son {S : Nat → Prop} {w : World} {a : Option Addr} {l : List Int} {a' : Option Addr} {l' : List Int} (h : Av S a l) (hs : SON w a l a' l') (hS : ∀ b, S b → b < w.heap.size) : Av S a' l' := by
  rcases hs with ⟨rfl, rfl⟩ | hs
  · exact h
  · intro ad e _ hb
    have := hs ad e; have := hS _ hb; omega

theorem nodup_len : ∀ (m l : List Int), m.Nodup → (∀ x ∈ m, x ∈ l) → m.length ≤ l.length
  | [], _, _, _ => by simp
  | x :: m, l, hm, h => by
    have hm' := List.nodup_cons.1 hm
    have hx := h x (by simp)
    have h1 := nodup_len m (l.erase x) hm'.2 (fun y hy => (List.mem_erase_of_ne (by rintro rfl; exact hm'.1 hy)).2 (h y (by simp [hy])))
    rw [List.length_erase_of_mem hx] at h1
    have : 0 < l.length := List.length_pos_of_mem hx
    simp; omega

theorem Asc.nodup {l : List Int} (h : Asc l) : l.Nodup := List.Pairwise.imp (fun h => by omega) h

theorem with_len {m l : List Int} {n : Int} (h : Asc m) (hm : ∀ y, y ∈ m ↔ y ∈ l ∨ y = n) : m.length ≤ l.length + 1 := by
  have := nodup_len m (l ++ [n]) h.nodup (fun x hx => by rcases (hm x).1 hx with h | rfl <;> simp_all)
  simpa using this

/-- A queue of the reference, as a value: the lists l1, l2 ascend and hold the numbers of f, g. -/
structure RQ (w : World) (a1 : Option Addr) (c1 : Nat) (l1 : List Int) (a2 : Option Addr) (c2 : Nat) (l2 : List Int) (f g : Int → Bool) : Prop where
  d : Ints w a1 c1 l1
  b : Ints w a2 c2 l2
  ad : Asc l1
  ab : Asc l2
  md : ∀ x, x ∈ l1 ↔ f x = true
  mb : ∀ x, x ∈ l2 ↔ g x = true

theorem RQ.no {S : Nat → Prop} {w w' : World} {a1 : Option Addr} {c1 : Nat} {l1 : List Int} {a2 : Option Addr} {c2 : Nat} {l2 : List Int} {f g : Int → Bool} (h : RQ w a1 c1 l1 a2 c2 l2 f g) (hf : Fr S w w')
    (h1 : ∀ ad, a1 = some ad → l1 ≠ [] → ¬ S ad.block) (h2 : ∀ ad, a2 = some ad → l2 ≠ [] → ¬ S ad.block) : RQ w' a1 c1 l1 a2 c2 l2 f g :=
  ⟨h.d.fr hf h1, h.b.fr hf h2, h.ad, h.ab, h.md, h.mb⟩
theorem RQ.fr {w w' : World} {a1 : Option Addr} {c1 : Nat} {l1 : List Int} {a2 : Option Addr} {c2 : Nat} {l2 : List Int} {f g : Int → Bool} (h : RQ w a1 c1 l1 a2 c2 l2 f g) (hf : Fr No w w') : RQ w' a1 c1 l1 a2 c2 l2 f g :=
  h.no hf (fun _ _ _ => id) (fun _ _ _ => id)

theorem RQ.dec {w : World} {a1 : Option Addr} {c1 : Nat} {l1 : List Int} {a2 : Option Addr} {c2 : Nat} {l2 : List Int} {f g : Int → Bool} (h : RQ w a1 c1 l1 a2 c2 l2 f g) (x : Int) : decide (x ∈ l1) = f x := by
  rw [Bool.eq_iff_iff, decide_eq_true_iff]; exact h.md x
theorem RQ.dec2 {w : World} {a1 : Option Addr} {c1 : Nat} {l1 : List Int} {a2 : Option Addr} {c2 : Nat} {l2 : List Int} {f g : Int → Bool} (h : RQ w a1 c1 l1 a2 c2 l2 f g) (x : Int) : decide (x ∈ l2) = g x := by
  rw [Bool.eq_iff_iff, decide_eq_true_iff]; exact h.mb x

theorem wout_asc {l : List Int} (h : Asc l) (n : Int) : Asc (wout l n) := List.Pairwise.sublist List.filter_sublist h
theorem wout_mem {l : List Int} {f : Int → Bool} (h : ∀ x, x ∈ l ↔ f x = true) (n : Int) : ∀ x, x ∈ wout l n ↔ upd f n false x = true := by
  intro x
  unfold wout upd
  rw [List.mem_filter, h]
  by_cases hx : x = n <;> simp [hx]
theorem with_mem {l m : List Int} {f : Int → Bool} {n : Int} (h : ∀ x, x ∈ l ↔ f x = true) (hm : ∀ y, y ∈ m ↔ y ∈ l ∨ y = n) : ∀ x, x ∈ m ↔ upd f n true x = true := by
  intro x
  unfold upd
  rw [hm, h]
  by_cases hx : x = n <;> simp [hx]
theorem wout_le (l : List Int) (n : Int) : (wout l n).length ≤ l.length := List.length_filter_le _ _

set_option maxHeartbeats 1000000 in
theorem r_mark (a1 : Option Addr) (c1 : Nat) (l1 : List Int) (a2 : Option Addr) (c2 : Nat) (l2 : List Int) (f g : Int → Bool) (n : Int) (w : World) (h : RQ w a1 c1 l1 a2 c2 l2 f g) (hb : l1.length ≤ 1000000) (hn : (Lit.int .i64 n).wf = true) :
    Calls Tryz.prog 32 #[.agg #[.slice a1 l1.length c1, .slice a2 l2.length c2], .int .i64 n] w fun e w' => ∃ er a1' c1' l1' f',
      e = .returned (.tuple #[.agg #[.slice a1' l1'.length c1', .slice a2 l2.length c2], .int .i64 er]) ∧ MarkTo f n er f' ∧ RQ w' a1' c1' l1' a2 c2 l2 f' g ∧ l1'.length ≤ l1.length + 1 ∧
      SON w a1 l1 a1' l1' ∧ Fr No w w' := by
  rcases (by omega : n < 1 ∨ 1073741824 < n ∨ (1 ≤ n ∧ n ≤ 1073741824)) with hlo | hhi | ⟨h1, h2⟩
  · go_enter Tryz.func32, Tryz.ntmps32
    go_wp2
    refine bodyPost_ret (v := .tuple #[.agg #[.slice a1 l1.length c1, .slice a2 l2.length c2], .int .i64 280]) (by simp [results, Tryz.results32, go_sem]) rfl ?_
    refine (fun (hfr : Fr No w _) => ⟨280, a1, c1, l1, f, rfl, .inr ⟨rfl, .inl hlo, rfl⟩, h.fr hfr, by omega, (.inl ⟨rfl, rfl⟩), hfr⟩) ?_
    repeat (first | exact Fr.refl _ _ | refine Fr.alloc ?_ _ | refine Fr.setNew ?_ (by simp) _)
  · go_enter Tryz.func32, Tryz.ntmps32
    go_wp2
    refine bodyPost_ret (v := .tuple #[.agg #[.slice a1 l1.length c1, .slice a2 l2.length c2], .int .i64 280]) (by simp [results, Tryz.results32, go_sem]) rfl ?_
    refine (fun (hfr : Fr No w _) => ⟨280, a1, c1, l1, f, rfl, .inr ⟨rfl, .inr hhi, rfl⟩, h.fr hfr, by omega, (.inl ⟨rfl, rfl⟩), hfr⟩) ?_
    repeat (first | exact Fr.refl _ _ | refine Fr.alloc ?_ _ | refine Fr.setNew ?_ (by simp) _)
  · go_enter Tryz.func32, Tryz.ntmps32
    go_wp2_with fail
    have hf0 := ((Fr.refl No w).alloc (.cells #[.slice a1 l1.length c1, .slice a2 l2.length c2] 33)).alloc (.cells #[.slice none 0 0, .slice none 0 0] 33)
    have hA := block_alloc1 w (.cells #[.slice a1 l1.length c1, .slice a2 l2.length c2] 33) (.cells #[.slice none 0 0, .slice none 0 0] 33)
    have hB := block_alloc2 w (.cells #[.slice a1 l1.length c1, .slice a2 l2.length c2] 33) (.cells #[.slice none 0 0, .slice none 0 0] 33)
    refine (r_with a1 c1 l1 n _ (h.d.no hf0 (fun _ => id)) h.ad hb hn).mono ?_
    rintro e w1 ⟨a', c', m, rfl, hm, asc', mem', fre', hf1⟩
    have hA1 := hf1.heap hA id
    have hB1 := hf1.heap hB id
    have d0 : w1.cell? ⟨w.heap.size, 0, none⟩ = some (.slice a1 l1.length c1) := cell_of_block hA1 0
    have d1 : w1.cell? ⟨w.heap.size, 1, none⟩ = some (.slice a2 l2.length c2) := cell_of_block hA1 1
    have d2 : w1.cell? ⟨w.heap.size + 1, 0, none⟩ = some (.slice none 0 0) := cell_of_block hB1 0
    have d3 : w1.cell? ⟨w.heap.size + 1, 1, none⟩ = some (.slice none 0 0) := cell_of_block hB1 1
    have e0 : w1.frozen? ⟨w.heap.size, 0, none⟩ = false := free_of_block hA1 0
    have e2 : w1.frozen? ⟨w.heap.size + 1, 0, none⟩ = false := free_of_block hB1 0
    have e3 : w1.frozen? ⟨w.heap.size + 1, 1, none⟩ = false := free_of_block hB1 1
    go_wp2_with fail
    refine bodyPost_ret (v := .tuple #[.agg #[.slice a' m.length c', .slice a2 l2.length c2], .int .i64 0]) (by simp [results, Tryz.results32, go_sem, d2, d3]) rfl ?_
    have hf2 := hf0.step hf1 (fun _ _ h => h)
    have hfresh : ∀ ad, a' = some ad → w.heap.size + 2 ≤ ad.block := fun ad e => by have := fre' ad e; simp at this; omega
    have key : ∀ W, Fr (Two w.heap.size (w.heap.size + 1)) w1 W → RQ W a' c' m a2 c2 l2 (upd f n true) g ∧ Fr No w W := fun W hx => by
      have ht : Fr No w W := hf2.step hx (fun b hb h => by unfold Two at h; omega)
      exact ⟨⟨hm.fr hx (fun ad e _ hS => by have := hfresh ad e; unfold Two at hS; omega), h.b.no ht (fun _ => id), asc', h.ab, with_mem h.md mem', h.mb⟩, ht⟩
    refine (fun hx => ⟨0, a', c', m, _, rfl, .inl ⟨rfl, h1, h2, rfl⟩, (key _ hx).1, with_len asc' mem', (.inr fun ad e => by have := hfresh ad e; omega), (key _ hx).2⟩) ?_
    repeat (first | exact Fr.refl _ _ | refine Fr.setCell ?_ (fun _ => by simp [Two]) _)

/-- The two blocks that a function of the reference makes: its parameter and its result. -/
theorem two_boxes (w : World) (a1 : Option Addr) (n1 c1 : Nat) (a2 : Option Addr) (n2 c2 : Nat) :
    ∃ W, W = (w.alloc (.cells #[.slice a1 n1 c1, .slice a2 n2 c2] 33)).alloc (.cells #[.slice none 0 0, .slice none 0 0] 33) ∧ Fr No w W ∧ W.heap.size = w.heap.size + 2 ∧
      W.heap[w.heap.size]? = some (.cells #[.slice a1 n1 c1, .slice a2 n2 c2] 33) ∧ W.heap[w.heap.size + 1]? = some (.cells #[.slice none 0 0, .slice none 0 0] 33) :=
  ⟨_, rfl, ((Fr.refl No w).alloc _).alloc _, by simp, block_alloc1 _ _ _, block_alloc2 _ _ _⟩

structure Boxes (w W : World) (a1 : Option Addr) (n1 c1 : Nat) (a2 : Option Addr) (n2 c2 : Nat) : Prop where
  fr : Fr No w W
  size : w.heap.size + 2 ≤ W.heap.size
  p : W.heap[w.heap.size]? = some (.cells #[.slice a1 n1 c1, .slice a2 n2 c2] 33)
  r : W.heap[w.heap.size + 1]? = some (.cells #[.slice none 0 0, .slice none 0 0] 33)
theorem Boxes.mk' (w : World) (a1 : Option Addr) (n1 c1 : Nat) (a2 : Option Addr) (n2 c2 : Nat) : Boxes w ((w.alloc (.cells #[.slice a1 n1 c1, .slice a2 n2 c2] 33)).alloc (.cells #[.slice none 0 0, .slice none 0 0] 33)) a1 n1 c1 a2 n2 c2 :=
  ⟨((Fr.refl No w).alloc _).alloc _, by simp, block_alloc1 _ _ _, block_alloc2 _ _ _⟩
theorem Boxes.step {w W W' : World} {a1 : Option Addr} {n1 c1 : Nat} {a2 : Option Addr} {n2 c2 : Nat} (h : Boxes w W a1 n1 c1 a2 n2 c2) (hf : Fr No W W') : Boxes w W' a1 n1 c1 a2 n2 c2 :=
  ⟨h.fr.step hf (fun _ _ h => h), Nat.le_trans h.size hf.size, hf.heap h.p id, hf.heap h.r id⟩
theorem Boxes.d0 {w W : World} {a1 : Option Addr} {n1 c1 : Nat} {a2 : Option Addr} {n2 c2 : Nat} (h : Boxes w W a1 n1 c1 a2 n2 c2) : W.cell? ⟨w.heap.size, 0, none⟩ = some (.slice a1 n1 c1) := cell_of_block h.p 0
theorem Boxes.d1 {w W : World} {a1 : Option Addr} {n1 c1 : Nat} {a2 : Option Addr} {n2 c2 : Nat} (h : Boxes w W a1 n1 c1 a2 n2 c2) : W.cell? ⟨w.heap.size, 1, none⟩ = some (.slice a2 n2 c2) := cell_of_block h.p 1
theorem Boxes.r0 {w W : World} {a1 : Option Addr} {n1 c1 : Nat} {a2 : Option Addr} {n2 c2 : Nat} (h : Boxes w W a1 n1 c1 a2 n2 c2) : W.cell? ⟨w.heap.size + 1, 0, none⟩ = some (.slice none 0 0) := cell_of_block h.r 0
theorem Boxes.r1 {w W : World} {a1 : Option Addr} {n1 c1 : Nat} {a2 : Option Addr} {n2 c2 : Nat} (h : Boxes w W a1 n1 c1 a2 n2 c2) : W.cell? ⟨w.heap.size + 1, 1, none⟩ = some (.slice none 0 0) := cell_of_block h.r 1
theorem Boxes.f0 {w W : World} {a1 : Option Addr} {n1 c1 : Nat} {a2 : Option Addr} {n2 c2 : Nat} (h : Boxes w W a1 n1 c1 a2 n2 c2) : W.frozen? ⟨w.heap.size + 1, 0, none⟩ = false := free_of_block h.r 0
theorem Boxes.f1 {w W : World} {a1 : Option Addr} {n1 c1 : Nat} {a2 : Option Addr} {n2 c2 : Nat} (h : Boxes w W a1 n1 c1 a2 n2 c2) : W.frozen? ⟨w.heap.size + 1, 1, none⟩ = false := free_of_block h.r 1

set_option maxHeartbeats 2000000 in
theorem r_take (a1 : Option Addr) (c1 : Nat) (l1 : List Int) (a2 : Option Addr) (c2 : Nat) (l2 : List Int) (f g : Int → Bool) (n : Int) (w : World) (h : RQ w a1 c1 l1 a2 c2 l2 f g) (hb1 : l1.length ≤ 1000000) (hb2 : l2.length ≤ 1000000) (hn : (Lit.int .i64 n).wf = true) :
    Calls Tryz.prog 33 #[.agg #[.slice a1 l1.length c1, .slice a2 l2.length c2], .int .i64 n] w fun e w' => ∃ er a1' c1' l1' a2' c2' l2' f' g',
      e = .returned (.tuple #[.agg #[.slice a1' l1'.length c1', .slice a2' l2'.length c2'], .int .i64 er]) ∧ TakeTo f g n er f' g' ∧ RQ w' a1' c1' l1' a2' c2' l2' f' g' ∧ l1'.length ≤ l1.length ∧ l2'.length ≤ l2.length + 1 ∧
      SON w a1 l1 a1' l1' ∧ SON w a2 l2 a2' l2' ∧ Fr No w w' := by
  have hB0 := Boxes.mk' w a1 l1.length c1 a2 l2.length c2
  cases hf : f n
  · go_enter Tryz.func33, Tryz.ntmps33
    go_wp2_with fail
    refine (ints_in a1 c1 l1 n _ (h.d.no hB0.fr (fun _ => id))).mono ?_
    rintro e w1 ⟨rfl, rfl⟩
    rw [h.dec n, hf]
    go_wp2_with fail
    refine bodyPost_ret (v := .tuple #[.agg #[.slice a1 l1.length c1, .slice a2 l2.length c2], .int .i64 281]) (by simp [results, Tryz.results33, go_sem]) rfl ?_
    refine (fun (hfr : Fr No w _) => ⟨281, a1, c1, l1, a2, c2, l2, f, g, rfl, .inr (.inl ⟨rfl, hf, rfl, rfl⟩), h.fr hfr, by omega, by omega, (.inl ⟨rfl, rfl⟩), (.inl ⟨rfl, rfl⟩), hfr⟩) ?_
    repeat (first | exact Fr.refl _ _ | refine Fr.alloc ?_ _ | refine Fr.setNew ?_ (by simp) _)
  cases hg : g n
  · go_enter Tryz.func33, Tryz.ntmps33
    go_wp2_with fail
    refine (ints_in a1 c1 l1 n _ (h.d.no hB0.fr (fun _ => id))).mono ?_
    rintro e w1 ⟨rfl, rfl⟩
    rw [h.dec n, hf]
    go_wp2_with fail
    refine (ints_in a2 c2 l2 n _ (h.b.no hB0.fr (fun _ => id))).mono ?_
    rintro e w1 ⟨rfl, rfl⟩
    rw [h.dec2 n, hg]
    go_wp2_with fail
    refine region_sig (Is (w.heap.size + 1)) [(0, false), (1, false), (2, false), (4, false), (5, false), (6, false), (3, true), (7, true), (8, false), (9, true), (10, false)] (by kernel_rfl) (by kernel_rfl) (fun w0 hf0 => ?_)
    have hB1 := hB0.step hf0
    have d0 : ∀ g : Gr (Is (w.heap.size + 1)) w0, g.W.cell? ⟨w.heap.size, 0, none⟩ = some (.slice a1 l1.length c1) := fun g => g.fr.cell hB1.d0 (by unfold Is; simp)
    have d1 : ∀ g : Gr (Is (w.heap.size + 1)) w0, g.W.cell? ⟨w.heap.size, 1, none⟩ = some (.slice a2 l2.length c2) := fun g => g.fr.cell hB1.d1 (by unfold Is; simp)
    repeat (apply sig_q; exact rfl; exact rfl; exact rfl; intro K hK; go_big_quiet_op; go_big_quiet_on)
    apply sig_m
    exact rfl
    go_wp2_with fail
    refine (r_without a1 c1 l1 n _ (h.d.no hB1.fr (fun _ => id)) hb1).mono ?_
    rintro e w1 ⟨a1', c1', rfl, hm1, fre1, hf1⟩
    go_wp2_with fail
    refine OnlyN.mk ⟨hf1.mono (fun _ _ h => h.elim), ?_⟩
    have hB2 := hB1.step hf1
    clear d0 d1
    apply sig_m
    exact rfl
    go_wp2_with fail
    refine (r_with a2 c2 l2 n _ (h.b.no hB2.fr (fun _ => id)) h.ab hb2 hn).mono ?_
    rintro e w2 ⟨a2', c2', m, rfl, hm2, asc2, mem2, fre2, hf2⟩
    go_wp2_with fail
    refine OnlyN.mk ⟨hf2.mono (fun _ _ h => h.elim), ?_⟩
    have hB3 := hB2.step hf2
    have r0 := hB3.r0
    have r1 := hB3.r1
    have f0 := hB3.f0
    have f1 := hB3.f1
    repeat (apply sig_q; exact rfl; exact rfl; exact rfl; intro K hK; go_big_quiet_op; go_big_quiet_on)
    apply sig_m
    exact rfl
    go_wp2_with fail
    refine OnlyN.mk ⟨((Fr.refl _ _).setIs _).setIs _, ?_⟩
    repeat (apply sig_q; exact rfl; exact rfl; exact rfl; intro K hK; go_big_quiet_op; go_big_quiet_on)
    refine sig_end ?_
    go_wp2_with fail
    refine bodyPost_ret (v := .tuple #[.agg #[.slice a1' (wout l1 n).length c1', .slice a2' m.length c2'], .int .i64 0]) (by simp [results, Tryz.results33, go_sem, r0, r1]) rfl ?_
    have hfresh1 : ∀ ad, a1' = some ad → w.heap.size + 2 ≤ ad.block := fun ad e => Nat.le_trans hB1.size (fre1 ad e)
    have hfresh2 : ∀ ad, a2' = some ad → w.heap.size + 2 ≤ ad.block := fun ad e => Nat.le_trans hB2.size (fre2 ad e)
    have key : ∀ W, Fr (Is (w.heap.size + 1)) w2 W → RQ W a1' c1' (wout l1 n) a2' c2' m (upd f n false) (upd g n true) ∧ Fr No w W := fun W hx =>
      ⟨⟨(hm1.no hf2 (fun _ => id)).fr hx (fun ad e _ hS => by have := hfresh1 ad e; unfold Is at hS; omega), hm2.fr hx (fun ad e _ hS => by have := hfresh2 ad e; unfold Is at hS; omega), wout_asc h.ad n, asc2, wout_mem h.md n, with_mem h.mb mem2⟩,
       hB3.fr.step hx (fun b hb h => by unfold Is at h; omega)⟩
    refine (fun hx => ⟨0, a1', c1', _, a2', c2', m, _, _, rfl, .inl ⟨rfl, hf, hg, rfl, rfl⟩, (key _ hx).1, wout_le _ _, with_len asc2 mem2, (.inr fun ad e => by have := hfresh1 ad e; omega), (.inr fun ad e => by have := hfresh2 ad e; omega), (key _ hx).2⟩) ?_
    exact ((Fr.refl _ _).setIs _).setIs _
  · go_enter Tryz.func33, Tryz.ntmps33
    go_wp2_with fail
    refine (ints_in a1 c1 l1 n _ (h.d.no hB0.fr (fun _ => id))).mono ?_
    rintro e w1 ⟨rfl, rfl⟩
    rw [h.dec n, hf]
    go_wp2_with fail
    refine (ints_in a2 c2 l2 n _ (h.b.no hB0.fr (fun _ => id))).mono ?_
    rintro e w1 ⟨rfl, rfl⟩
    rw [h.dec2 n, hg]
    go_wp2_with fail
    refine bodyPost_ret (v := .tuple #[.agg #[.slice a1 l1.length c1, .slice a2 l2.length c2], .int .i64 282]) (by simp [results, Tryz.results33, go_sem]) rfl ?_
    refine (fun (hfr : Fr No w _) => ⟨282, a1, c1, l1, a2, c2, l2, f, g, rfl, .inr (.inr ⟨rfl, hf, hg, rfl, rfl⟩), h.fr hfr, by omega, by omega, (.inl ⟨rfl, rfl⟩), (.inl ⟨rfl, rfl⟩), hfr⟩) ?_
    repeat (first | exact Fr.refl _ _ | refine Fr.alloc ?_ _ | refine Fr.setNew ?_ (by simp) _)

set_option maxHeartbeats 2000000 in
theorem r_done (a1 : Option Addr) (c1 : Nat) (l1 : List Int) (a2 : Option Addr) (c2 : Nat) (l2 : List Int) (f g : Int → Bool) (n : Int) (w : World) (h : RQ w a1 c1 l1 a2 c2 l2 f g) (hb1 : l1.length ≤ 1000000) (hb2 : l2.length ≤ 1000000) :
    Calls Tryz.prog 34 #[.agg #[.slice a1 l1.length c1, .slice a2 l2.length c2], .int .i64 n] w fun e w' => ∃ b er a2' c2' l2' g',
      e = .returned (.tuple #[.agg #[.slice a1 l1.length c1, .slice a2' l2'.length c2'], .bool b, .int .i64 er]) ∧ DoneTo f g n b er g' ∧ RQ w' a1 c1 l1 a2' c2' l2' f g' ∧ l2'.length ≤ l2.length ∧
      SON w a2 l2 a2' l2' ∧ Fr No w w' := by
  have hB0 := Boxes.mk' w a1 l1.length c1 a2 l2.length c2
  cases hg : g n
  · go_enter Tryz.func34, Tryz.ntmps34
    go_wp2_with fail
    refine (ints_in a2 c2 l2 n _ (h.b.no hB0.fr (fun _ => id))).mono ?_
    rintro e w1 ⟨rfl, rfl⟩
    rw [h.dec2 n, hg]
    go_wp2_with fail
    refine bodyPost_ret (v := .tuple #[.agg #[.slice a1 l1.length c1, .slice a2 l2.length c2], .bool false, .int .i64 283]) (by simp [results, Tryz.results34, go_sem]) rfl ?_
    refine (fun (hfr : Fr No w _) => ⟨false, 283, a2, c2, l2, g, rfl, .inr ⟨rfl, hg, rfl, rfl⟩, h.fr hfr, by omega, (.inl ⟨rfl, rfl⟩), hfr⟩) ?_
    repeat (first | exact Fr.refl _ _ | refine Fr.alloc ?_ _ | refine Fr.setNew ?_ (by simp) _)
  · go_enter Tryz.func34, Tryz.ntmps34
    go_wp2_with fail
    refine (ints_in a2 c2 l2 n _ (h.b.no hB0.fr (fun _ => id))).mono ?_
    rintro e w1 ⟨rfl, rfl⟩
    rw [h.dec2 n, hg]
    go_wp2_with fail
    refine region_sig (Is (w.heap.size + 1)) [(0, false), (1, false), (2, false), (3, false), (4, false), (7, false), (8, false), (9, false), (5, true), (6, false), (10, true), (11, false), (12, true), (13, false), (14, false)] (by kernel_rfl) (by kernel_rfl) (fun w0 hf0 => ?_)
    have hB1 := hB0.step hf0
    have d0 : ∀ g : Gr (Is (w.heap.size + 1)) w0, g.W.cell? ⟨w.heap.size, 0, none⟩ = some (.slice a1 l1.length c1) := fun g => g.fr.cell hB1.d0 (by unfold Is; simp)
    have d1 : ∀ g : Gr (Is (w.heap.size + 1)) w0, g.W.cell? ⟨w.heap.size, 1, none⟩ = some (.slice a2 l2.length c2) := fun g => g.fr.cell hB1.d1 (by unfold Is; simp)
    repeat (apply sig_q; exact rfl; exact rfl; exact rfl; intro K hK; go_big_quiet_op; go_big_quiet_on)
    apply sig_m
    exact rfl
    go_wp2_with fail
    refine (r_without a2 c2 l2 n _ (h.b.no hB1.fr (fun _ => id)) hb2).mono ?_
    rintro e w1 ⟨a2', c2', rfl, hm1, fre1, hf1⟩
    go_wp2_with fail
    refine OnlyN.mk ⟨hf1.mono (fun _ _ h => h.elim), ?_⟩
    have hB2 := hB1.step hf1
    clear d0 d1
    repeat (apply sig_q; exact rfl; exact rfl; exact rfl; intro K hK; go_big_quiet_op; go_big_quiet_on)
    apply sig_m
    exact rfl
    go_wp2_with fail
    refine (ints_in a1 c1 l1 n _ (h.d.no hB2.fr (fun _ => id))).mono ?_
    rintro e w2 ⟨rfl, rfl⟩
    rw [h.dec n]
    go_wp2_with fail
    refine OnlyN.mk ⟨Fr.refl _ _, ?_⟩
    have r0 := hB2.r0
    have r1 := hB2.r1
    have f0 := hB2.f0
    have f1 := hB2.f1
    repeat (apply sig_q; exact rfl; exact rfl; exact rfl; intro K hK; go_big_quiet_op; go_big_quiet_on)
    apply sig_m
    exact rfl
    go_wp2_with fail
    refine OnlyN.mk ⟨((Fr.refl _ _).setIs _).setIs _, ?_⟩
    repeat (apply sig_q; exact rfl; exact rfl; exact rfl; intro K hK; go_big_quiet_op; go_big_quiet_on)
    refine sig_end ?_
    go_wp2_with fail
    refine bodyPost_ret (v := .tuple #[.agg #[.slice a1 l1.length c1, .slice a2' (wout l2 n).length c2'], .bool (!f n), .int .i64 0]) (by simp [results, Tryz.results34, go_sem, r0, r1]) rfl ?_
    have hfresh : ∀ ad, a2' = some ad → w.heap.size + 2 ≤ ad.block := fun ad e => Nat.le_trans hB1.size (fre1 ad e)
    have key : ∀ W, Fr (Is (w.heap.size + 1)) w1 W → RQ W a1 c1 l1 a2' c2' (wout l2 n) f (upd g n false) ∧ Fr No w W := fun W hx => by
      have ht : Fr No w W := hB2.fr.step hx (fun b hb h => by unfold Is at h; omega)
      exact ⟨⟨h.d.no ht (fun _ => id), hm1.fr hx (fun ad e _ hS => by have := hfresh ad e; unfold Is at hS; omega), h.ad, wout_asc h.ab n, h.md, wout_mem h.mb n⟩, ht⟩
    refine (fun hx => ⟨!f n, 0, a2', c2', _, _, rfl, .inl ⟨rfl, hg, rfl, rfl⟩, (key _ hx).1, wout_le _ _, (.inr fun ad e => by have := hfresh ad e; omega), (key _ hx).2⟩) ?_
    exact ((Fr.refl _ _).setIs _).setIs _

set_option maxHeartbeats 2000000 in
theorem r_forget (a1 : Option Addr) (c1 : Nat) (l1 : List Int) (a2 : Option Addr) (c2 : Nat) (l2 : List Int) (f g : Int → Bool) (n : Int) (w : World) (h : RQ w a1 c1 l1 a2 c2 l2 f g) (hb1 : l1.length ≤ 1000000) (hb2 : l2.length ≤ 1000000) :
    Calls Tryz.prog 36 #[.agg #[.slice a1 l1.length c1, .slice a2 l2.length c2], .int .i64 n] w fun e w' => ∃ a1' c1' l1' a2' c2' l2',
      e = .returned (.agg #[.slice a1' l1'.length c1', .slice a2' l2'.length c2']) ∧ RQ w' a1' c1' l1' a2' c2' l2' (upd f n false) (upd g n false) ∧ l1'.length ≤ l1.length ∧ l2'.length ≤ l2.length ∧
      (∀ ad, a1' = some ad → w.heap.size ≤ ad.block) ∧ (∀ ad, a2' = some ad → w.heap.size ≤ ad.block) ∧ Fr No w w' := by
  have hB0 := Boxes.mk' w a1 l1.length c1 a2 l2.length c2
  go_enter Tryz.func36, Tryz.ntmps36
  go_wp2_with fail
  refine region_sig (Is (w.heap.size + 1)) [(0, false), (1, false), (2, false), (4, false), (5, false), (6, false), (3, true), (7, true), (8, false), (9, true)] (by kernel_rfl) (by kernel_rfl) (fun w0 hf0 => ?_)
  have hB1 := hB0.step hf0
  have d0 : ∀ g : Gr (Is (w.heap.size + 1)) w0, g.W.cell? ⟨w.heap.size, 0, none⟩ = some (.slice a1 l1.length c1) := fun g => g.fr.cell hB1.d0 (by unfold Is; simp)
  have d1 : ∀ g : Gr (Is (w.heap.size + 1)) w0, g.W.cell? ⟨w.heap.size, 1, none⟩ = some (.slice a2 l2.length c2) := fun g => g.fr.cell hB1.d1 (by unfold Is; simp)
  repeat (apply sig_q; exact rfl; exact rfl; exact rfl; intro K hK; go_big_quiet_op; go_big_quiet_on)
  apply sig_m
  exact rfl
  go_wp2_with fail
  refine (r_without a1 c1 l1 n _ (h.d.no hB1.fr (fun _ => id)) hb1).mono ?_
  rintro e w1 ⟨a1', c1', rfl, hm1, fre1, hf1⟩
  go_wp2_with fail
  refine OnlyN.mk ⟨hf1.mono (fun _ _ h => h.elim), ?_⟩
  have hB2 := hB1.step hf1
  clear d0 d1
  apply sig_m
  exact rfl
  go_wp2_with fail
  refine (r_without a2 c2 l2 n _ (h.b.no hB2.fr (fun _ => id)) hb2).mono ?_
  rintro e w2 ⟨a2', c2', rfl, hm2, fre2, hf2⟩
  go_wp2_with fail
  refine OnlyN.mk ⟨hf2.mono (fun _ _ h => h.elim), ?_⟩
  have hB3 := hB2.step hf2
  have r0 := hB3.r0
  have r1 := hB3.r1
  have f0 := hB3.f0
  have f1 := hB3.f1
  repeat (apply sig_q; exact rfl; exact rfl; exact rfl; intro K hK; go_big_quiet_op; go_big_quiet_on)
  apply sig_m
  exact rfl
  go_wp2_with fail
  refine OnlyN.mk ⟨((Fr.refl _ _).setIs _).setIs _, ?_⟩
  refine sig_end ?_
  go_wp2_with fail
  refine bodyPost_ret (v := .agg #[.slice a1' (wout l1 n).length c1', .slice a2' (wout l2 n).length c2']) (by simp [results, Tryz.results36, go_sem, r0, r1]) rfl ?_
  have hfresh1 : ∀ ad, a1' = some ad → w.heap.size + 2 ≤ ad.block := fun ad e => Nat.le_trans hB1.size (fre1 ad e)
  have hfresh2 : ∀ ad, a2' = some ad → w.heap.size + 2 ≤ ad.block := fun ad e => Nat.le_trans hB2.size (fre2 ad e)
  have key : ∀ W, Fr (Is (w.heap.size + 1)) w2 W → RQ W a1' c1' (wout l1 n) a2' c2' (wout l2 n) (upd f n false) (upd g n false) ∧ Fr No w W := fun W hx =>
    ⟨⟨(hm1.no hf2 (fun _ => id)).fr hx (fun ad e _ hS => by have := hfresh1 ad e; unfold Is at hS; omega), hm2.fr hx (fun ad e _ hS => by have := hfresh2 ad e; unfold Is at hS; omega), wout_asc h.ad n, wout_asc h.ab n, wout_mem h.md n, wout_mem h.mb n⟩,
     hB3.fr.step hx (fun b hb h => by unfold Is at h; omega)⟩
  refine (fun hx => ⟨a1', c1', _, a2', c2', _, rfl, (key _ hx).1, wout_le _ _, wout_le _ _, fun ad e => (by have := hfresh1 ad e; omega), fun ad e => (by have := hfresh2 ad e; omega), (key _ hx).2⟩) ?_
  exact ((Fr.refl _ _).setIs _).setIs _
end Go.Proofs.YtpigghenmagghaaGreatDoor
