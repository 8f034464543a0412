/- Node, Link. -/
import Derived.Test.YtanaompgapiikaaGreatDoorT2
import Derived.Lib.ReplaceLaws
namespace Go.Proofs.YtanaompgapiikaaGreatDoor
open Go.RowKit
set_option linter.unusedVariables false

theorem replaceK_len (old new : List UInt8) : ∀ (k : Nat) (s : List UInt8), (Lib.replaceK old new k s).length ≤ s.length + k * new.length
  | 0, s => by simp [Lib.replaceK]
  | k + 1, s => by
    unfold Lib.replaceK
    split
    · omega
    · have h := replaceK_len old new k (s.drop ((Lib.index s old).toNat + old.length))
      simp only [List.length_append, List.length_take, List.length_drop] at h ⊢
      have e : (k + 1) * new.length = k * new.length + new.length := Nat.succ_mul _ _
      omega
theorem replaceAll_len (s old new : List UInt8) : (Lib.replaceAll s old new).length ≤ s.length + (s.length + 1) * new.length := by
  unfold Lib.replaceAll Lib.replace
  split
  · omega
  · have h := replaceK_len old new (Lib.replaceNum s old (-1)) s
    have h2 : Lib.replaceNum s old (-1) ≤ s.length + 1 := by
      unfold Lib.replaceNum
      rw [if_pos (.inl (by omega))]
      exact Lib.count_le s old
    have h3 := Nat.mul_le_mul_right new.length h2
    omega

set_option maxHeartbeats 1000000 in
theorem t_node (d : Dev) (m : Int) (w : World) (hs : d.orig.size ≤ 1000000) (hm : w.cell? ⟨0, 0, none⟩ = some (.int .i64 m)) (h0 : 0 < w.heap.size) :
    Calls Tryz.prog 150 #[.agg d.vals] w fun e w' => (∃ s, s.size ≤ 3000000 ∧ e = .returned (.tuple #[.string s, .bool (decide (d.kind = 2) || decide (d.kind = 3))])) ∧ Fr No w w' := by
  have hx : Fr No w (w.alloc (.cells d.vals 36)) := (Fr.refl _ _).alloc _
  have hmx := hx.cell hm id
  have hcount := Lib.countB_le ⟨#[33]⟩ (by decide) _ d.orig (Nat.le_refl _)
  have hcount2 : d.orig.size + Lib.countB d.orig ⟨#[33]⟩ * (⟨#[47]⟩ : ByteArray).size ≤ 140737488355328 := by
    show d.orig.size + Lib.countB d.orig ⟨#[33]⟩ * 1 ≤ _
    omega
  have hsz : (⟨(Lib.replaceAll d.orig.data.toList (⟨#[33]⟩ : ByteArray).data.toList (⟨#[47]⟩ : ByteArray).data.toList).toArray⟩ : ByteArray).size ≤ 3000000 := by
    have h := replaceAll_len d.orig.data.toList (⟨#[33]⟩ : ByteArray).data.toList (⟨#[47]⟩ : ByteArray).data.toList
    have e1 : d.orig.data.toList.length = d.orig.size := Array.length_toList
    have e2 : (⟨#[47]⟩ : ByteArray).data.toList.length = 1 := rfl
    rw [e1, e2] at h
    show (Array.size (List.toArray _)) ≤ _
    rw [List.size_toArray]
    omega
  have Hcount := Lib.hid hcount2
  have Hsz := Lib.hid hsz
  clear hcount hcount2 hsz
  unfold Dev.vals at *
  by_cases h2 : d.kind = 2
  all_goals first | (have b2 : (d.kind != 2) = false := by simp [h2]) | (have b2 : (d.kind != 2) = true := by simp [h2])
  all_goals by_cases h3 : d.kind = 3
  all_goals first | (have b3 : (d.kind != 3) = false := by simp [h3]) | (have b3 : (d.kind != 3) = true := by simp [h3])
  all_goals
    have H2 := Lib.hid h2
    have H3 := Lib.hid h3
    clear h2 h3
    go_enter Tryz.func150, Tryz.ntmps150
    go_wp2_with fail
  all_goals first
    | (refine bodyPost_ret (v := .tuple #[.string ⟨#[]⟩, .bool false]) (by simp [results, Tryz.results150, go_sem]) rfl ?_
       exact ⟨⟨⟨#[]⟩, by decide, by rw [show (decide (d.kind = 2) || decide (d.kind = 3)) = false from by simp [H2.out, H3.out]]⟩, hx⟩)
    | (refine (Tryz.strings_ReplaceAll d.orig ⟨#[33]⟩ ⟨#[47]⟩ m _ (by omega) hmx (by decide) Hcount.out).mono ?_
       rintro e w1 ⟨rfl, hb⟩
       go_wp2_with fail
       refine bodyPost_ret (v := .tuple #[.string ⟨(Lib.replaceAll d.orig.data.toList [33] [47]).toArray⟩, .bool true]) (by simp [results, Tryz.results150, go_sem]) rfl ?_
       exact ⟨⟨_, Hsz.out, by rw [show (decide (d.kind = 2) || decide (d.kind = 3)) = true from by first | (simp [H2.out]; done) | (simp [H3.out]; done)]⟩, hx.step (Fr.of_below_size hb) (fun _ _ h => h)⟩)

theorem splitB_size (sep : ByteArray) : ∀ (k : Nat) (s x : ByteArray), x ∈ Lib.splitB sep 0 k s → x.size ≤ s.size
  | 0, s, x, h => by
    rw [Lib.splitB_zero] at h
    simp at h; subst h; exact Nat.le_refl _
  | k + 1, s, x, h => by
    unfold Lib.splitB at h
    split at h
    · simp at h; subst h; exact Nat.le_refl _
    · rcases List.mem_cons.1 h with h | h
      · subst h; rw [ByteArray.size_extract]; omega
      · have h1 := splitB_size sep k _ x h
        rw [ByteArray.size_extract] at h1
        omega

set_option maxHeartbeats 1000000 in
theorem t_link (s : ByteArray) (m : Int) (w : World) (hs : s.size ≤ 3000000) (hm : w.cell? ⟨0, 0, none⟩ = some (.int .i64 m)) :
    Calls Tryz.prog 152 #[.string s] w fun e w' => RetB e ∧ Fr No w w' := by
  go_enter Tryz.func152, Tryz.ntmps152
  go_wp2_with fail
  refine (Tryz.strings_Split s ⟨#[47]⟩ m _ (by omega) hm (by decide)).mono ?_
  rintro e w1 ⟨rfl, rfl⟩
  have hlen := Lib.splitB_all ⟨#[47]⟩ (by decide) 0 _ s rfl
  have hcnt := Lib.countB_le ⟨#[47]⟩ (by decide) _ s (Nat.le_refl _)
  have hsize := splitB_size ⟨#[47]⟩ (Lib.countB s ⟨#[47]⟩) s
  generalize hN : Lib.countB s ⟨#[47]⟩ = N at *
  generalize hL : Lib.splitB ⟨#[47]⟩ 0 N s = L at *
  have Hlen := Lib.hid hlen
  have Hsize := Lib.hid hsize
  have hblk := block_alloc w (.cells (L.map Value.string).toArray 9)
  have hf1 : Fr No w (w.alloc (.cells (L.map Value.string).toArray 9)) := (Fr.refl _ _).alloc _
  generalize hW : w.alloc (.cells (L.map Value.string).toArray 9) = W at *
  have hcell : Hid (∀ (i : Nat) x, L[i]? = some x → W.cell? ⟨w.heap.size, i, none⟩ = some (.string x)) := by
    intro i x hx
    rw [cell_of_block hblk]
    simp [hx]
  clear hW hN hL hlen hsize hblk
  go_wp2_with fail
  go_loopw [4] (fun i wr => ∃ k : Nat, k ≤ N + 1 ∧ i = .int .i64 (k : Int) ∧ wr = W) (fun i _ => N + 1 - (intOf i).toNat)
  case atStart => exact ⟨0, by omega, rfl, rfl⟩
  case round =>
    obtain ⟨k, hk, rfl, rfl⟩ := hrel
    by_cases hlt : k < N + 1
    · obtain ⟨x, hx⟩ : ∃ x, L[k]? = some x := ⟨_, List.getElem?_eq_getElem (by rw [Hlen.out]; exact hlt)⟩
      have hc := hcell.out k x hx
      have hxs : x.size ≤ maxLen := by have := Hsize.out x (List.mem_of_getElem? hx); unfold maxLen; omega
      clear hx
      go_wp2_with fail
      all_goals first
        | (go_ret; exact ⟨RetB.mk false, hf1⟩)
        | (refine (t_in x _ _ hxs).mono ?_
           rintro e w2 ⟨⟨b, rfl⟩, rfl⟩
           cases b
           · go_wp2_with fail
             go_ret
             exact ⟨RetB.mk false, hf1⟩
           · go_wp2_with fail
             all_goals first
               | (go_ret; exact ⟨RetB.mk false, hf1⟩)
               | exact ⟨⟨k + 1, by omega, by congr 1, trivial⟩, by simp [intOf]; omega⟩)
    · go_wp2_with fail
      go_ret
      exact ⟨RetB.mk _, hf1⟩
end Go.Proofs.YtanaompgapiikaaGreatDoor
