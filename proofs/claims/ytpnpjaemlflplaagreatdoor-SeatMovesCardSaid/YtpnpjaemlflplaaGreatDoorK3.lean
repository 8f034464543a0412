/- own.Find, record.Get, the reference's Get. -/
import Derived.Test.YtpnpjaemlflplaaGreatDoorK1
namespace Go.Proofs.YtpnpjaemlflplaaGreatDoor
open Go.RowKit
set_option linter.unusedVariables false

set_option maxHeartbeats 1000000 in
theorem set12 {W : World} {b : Nat} {cs : Array Value} {T : TypeId} (h : W.heap[b]? = some (.cells cs T)) (hs : cs.size = 12) (r : Rec) :
    ((((((((((((W.setCell ⟨b, 0, none⟩ (.string r.path)).setCell ⟨b, 1, none⟩ (.int .i64 r.index)).setCell ⟨b, 2, none⟩ (.slice r.pa r.props.length r.pc)).setCell ⟨b, 3, none⟩ (.slice r.ta r.tags.length r.tc)).setCell ⟨b, 4, none⟩ (.slice r.la r.ln r.lc)).setCell ⟨b, 5, none⟩ (.slice r.ra r.rn r.rc)).setCell ⟨b, 6, none⟩ (.slice r.oa r.on r.oc)).setCell ⟨b, 7, none⟩ (.string r.name)).setCell ⟨b, 8, none⟩ (.int .i64 r.prio)).setCell ⟨b, 9, none⟩ (.string r.owner)).setCell ⟨b, 10, none⟩ (.string r.group)).setCell ⟨b, 11, none⟩ (.int .i64 r.mode)).heap[b]? = some (.cells r.vals T) ∧ Fr (Is b) W ((((((((((((W.setCell ⟨b, 0, none⟩ (.string r.path)).setCell ⟨b, 1, none⟩ (.int .i64 r.index)).setCell ⟨b, 2, none⟩ (.slice r.pa r.props.length r.pc)).setCell ⟨b, 3, none⟩ (.slice r.ta r.tags.length r.tc)).setCell ⟨b, 4, none⟩ (.slice r.la r.ln r.lc)).setCell ⟨b, 5, none⟩ (.slice r.ra r.rn r.rc)).setCell ⟨b, 6, none⟩ (.slice r.oa r.on r.oc)).setCell ⟨b, 7, none⟩ (.string r.name)).setCell ⟨b, 8, none⟩ (.int .i64 r.prio)).setCell ⟨b, 9, none⟩ (.string r.owner)).setCell ⟨b, 10, none⟩ (.string r.group)).setCell ⟨b, 11, none⟩ (.int .i64 r.mode)) := by
  refine ⟨?_, Fr.setAt (Fr.setAt (Fr.setAt (Fr.setAt (Fr.setAt (Fr.setAt (Fr.setAt (Fr.setAt (Fr.setAt (Fr.setAt (Fr.setAt (Fr.setAt (Fr.refl _ _) _) _) _) _) _) _) _) _) _) _) _) _⟩
  obtain ⟨l⟩ := cs
  match l, hs with
  | [_, _, _, _, _, _, _, _, _, _, _, _], _ =>
    have h0 := block_setCell h 0 (.string r.path)
    have h1 := block_setCell h0 1 (.int .i64 r.index)
    have h2 := block_setCell h1 2 (.slice r.pa r.props.length r.pc)
    have h3 := block_setCell h2 3 (.slice r.ta r.tags.length r.tc)
    have h4 := block_setCell h3 4 (.slice r.la r.ln r.lc)
    have h5 := block_setCell h4 5 (.slice r.ra r.rn r.rc)
    have h6 := block_setCell h5 6 (.slice r.oa r.on r.oc)
    have h7 := block_setCell h6 7 (.string r.name)
    have h8 := block_setCell h7 8 (.int .i64 r.prio)
    have h9 := block_setCell h8 9 (.string r.owner)
    have h10 := block_setCell h9 10 (.string r.group)
    have h11 := block_setCell h10 11 (.int .i64 r.mode)
    simp only [List.setIfInBounds_toArray, List.set_cons_zero, List.set_cons_succ] at h11
    exact h11

set_option maxHeartbeats 1000000 in
theorem own_is (r : Rec) (b4 b5 : Nat) (n : Int) (p : ByteArray) (w : World) (h4 : w.cell? ⟨b4, 0, none⟩ = some (.int .i64 n)) (h5 : w.cell? ⟨b5, 0, none⟩ = some (.string p)) :
    Calls Tryz.prog 135 #[.agg r.vals, .pointer (some ⟨b4, 0, none⟩), .pointer (some ⟨b5, 0, none⟩)] w fun e w' => e = .returned (.bool (r.is n p)) ∧ Fr No w w' := by
  have hx : Fr No w (w.alloc (.cells r.vals 42)) := (Fr.refl _ _).alloc _
  have h4x := hx.cell h4 id
  have h5x := hx.cell h5 id
  clear h4 h5
  unfold Rec.vals at *
  rcases h1 : (r.index == n) with _ | _
  · have H : Hid (r.is n p = false) := by unfold Hid Rec.is; simp at h1; simp [h1]
    go_enter Tryz.func135, Tryz.ntmps135
    go_wp2_with fail
    all_goals (go_ret; exact ⟨ret_bool H.out.symm, hx⟩)
  · rcases h2 : (r.path.toList == p.toList) with _ | _
    · have H : Hid (r.is n p = false) := by unfold Hid Rec.is; rw [h2, Bool.and_false]
      go_enter Tryz.func135, Tryz.ntmps135
      go_wp2_with fail
      all_goals (go_ret; exact ⟨ret_bool H.out.symm, hx⟩)
    · have H : Hid (r.is n p = true) := by unfold Hid Rec.is; simp at h1; rw [h2, Bool.and_true]; simp [h1]
      go_enter Tryz.func135, Tryz.ntmps135
      go_wp2_with fail
      all_goals (go_ret; exact ⟨ret_bool H.out.symm, hx⟩)

set_option maxHeartbeats 1000000 in
theorem own_index (a : Option Addr) (cap : Nat) (l : List Rec) (b4 b5 : Nat) (n : Int) (p : ByteArray) (w : World) (hl : Recs w a cap l) (h4 : w.cell? ⟨b4, 0, none⟩ = some (.int .i64 n)) (h5 : w.cell? ⟨b5, 0, none⟩ = some (.string p)) :
    Calls Tryz.prog 134 #[.slice a l.length cap, .func (.func 135) #[] #[.pointer (some ⟨b4, 0, none⟩), .pointer (some ⟨b5, 0, none⟩)]] w fun e w' => e = .returned (.int .i64 (rplace l n p)) ∧ Fr No w w' := by
  have hm := hl.lenmax
  go_enter Tryz.func134, Tryz.ntmps134
  go_wp2_with fail
  go_loopw [8] (fun i wr => ∃ k : Nat, k ≤ l.length ∧ i = .int .i64 k ∧ Hid (∀ x ∈ l.take k, x.is n p = false) ∧ Fr No w wr) (fun i _ => l.length - (intOf i).toNat)
  case atStart => exact ⟨0, by omega, rfl, by unfold Hid; simp, Fr.refl _ _⟩
  case round =>
    obtain ⟨k, hk, rfl, hno, hfr⟩ := hrel
    by_cases hlt : k < l.length
    · have hlt' : (k : Int) < l.length := by omega
      obtain ⟨bb, off, r, rfl, hr, _, c0, c1, c2, c3, c4, c5, c6, c7, c8, c9, c10, c11⟩ := (hl.no hfr (fun _ => id)).elem hlt
      have Hr := Lib.hid hr
      clear hr
      go_wp2_with fail
      refine (own_is r b4 b5 n p _ (hfr.cell h4 id) (hfr.cell h5 id)).mono ?_
      rintro e w1 ⟨rfl, hf1⟩
      have hfr1 := hfr.step hf1 (fun _ _ h => h)
      clear c0 c1 c2 c3 c4 c5 c6 c7 c8 c9 c10 c11
      rcases hxn : r.is n p with _ | _
      · have Hxn := Lib.hid hxn
        clear hxn
        go_wp2_with fail
        go_roundw
        case rel =>
          refine ⟨k + 1, by omega, by go_num, ?_, hfr1⟩
          unfold Hid
          intro x hx
          rw [List.take_add_one, Hr.out] at hx
          rcases List.mem_append.1 hx with h | h
          · exact hno.out x h
          · simp at h; subst h; exact Hxn.out
        case measure => simp [intOf]; omega
      · have Hxn := Lib.hid hxn
        clear hxn
        go_wp2_with fail
        go_ret
        exact ⟨ret_int (rplace_take l n p k r Hr.out Hxn.out hno.out).symm, hfr1⟩
    · obtain rfl : k = l.length := by omega
      have h := hno.out
      rw [List.take_of_length_le (by omega)] at h
      have Hp : Hid (rplace l n p = -1) := rplace_none _ _ _ h
      clear h
      go_wp2_with fail
      go_ret
      exact ⟨ret_int Hp.out.symm, hfr⟩

/-- A record, or none. -/
def FoundR (o : Option Rec) (e : Ending) : Prop := match o with
  | none => e = .returned (.tuple #[.agg Rec.zero.vals, .bool false])
  | some r => e = .returned (.tuple #[.agg r.vals, .bool true])

set_option maxRecDepth 100000 in
set_option maxHeartbeats 2000000 in
theorem own_find (a : Option Addr) (cap : Nat) (l : List Rec) (n : Int) (p : ByteArray) (w : World) (hl : Recs w a cap l) :
    Calls Tryz.prog 100 #[.slice a l.length cap, .int .i64 n, .string p] w fun e w' => FoundR (l.find? (Rec.is n p)) e ∧ Fr No w w' := by
  have hm := hl.lenmax
  have h0 : Fr No w (((w.alloc (.cells #[.int .i64 n] 3)).alloc (.cells #[.string p] 9)).alloc (.cells #[.string ⟨#[]⟩, .int .i64 0, .slice none 0 0, .slice none 0 0, .slice none 0 0, .slice none 0 0, .slice none 0 0, .string ⟨#[]⟩, .int .i64 0, .string ⟨#[]⟩, .string ⟨#[]⟩, .int .i64 0] 42)) := (((Fr.refl _ _).alloc _).alloc _).alloc _
  have q4 := (((Fr.refl No _).alloc (.cells #[.string p] 9)).alloc (.cells #[.string ⟨#[]⟩, .int .i64 0, .slice none 0 0, .slice none 0 0, .slice none 0 0, .slice none 0 0, .slice none 0 0, .string ⟨#[]⟩, .int .i64 0, .string ⟨#[]⟩, .string ⟨#[]⟩, .int .i64 0] 42)).heap (block_alloc w (.cells #[.int .i64 n] 3)) id
  have q5 := ((Fr.refl No _).alloc (.cells #[.string ⟨#[]⟩, .int .i64 0, .slice none 0 0, .slice none 0 0, .slice none 0 0, .slice none 0 0, .slice none 0 0, .string ⟨#[]⟩, .int .i64 0, .string ⟨#[]⟩, .string ⟨#[]⟩, .int .i64 0] 42)).heap (block_alloc2 w (.cells #[.int .i64 n] 3) (.cells #[.string p] 9)) id
  have q6 := block_alloc2 (w.alloc (.cells #[.int .i64 n] 3)) (.cells #[.string p] 9) (.cells #[.string ⟨#[]⟩, .int .i64 0, .slice none 0 0, .slice none 0 0, .slice none 0 0, .slice none 0 0, .slice none 0 0, .string ⟨#[]⟩, .int .i64 0, .string ⟨#[]⟩, .string ⟨#[]⟩, .int .i64 0] 42)
  rw [World.size_alloc] at q6
  have hs6 : (((w.alloc (.cells #[.int .i64 n] 3)).alloc (.cells #[.string p] 9)).alloc (.cells #[.string ⟨#[]⟩, .int .i64 0, .slice none 0 0, .slice none 0 0, .slice none 0 0, .slice none 0 0, .slice none 0 0, .string ⟨#[]⟩, .int .i64 0, .string ⟨#[]⟩, .string ⟨#[]⟩, .int .i64 0] 42)).heap.size = w.heap.size + 3 := by simp
  go_enter Tryz.func100, Tryz.ntmps100
  go_upto_region 1 with (fail)
  generalize ((w.alloc (.cells #[.int .i64 n] 3)).alloc (.cells #[.string p] 9)).alloc (.cells #[.string ⟨#[]⟩, .int .i64 0, .slice none 0 0, .slice none 0 0, .slice none 0 0, .slice none 0 0, .slice none 0 0, .string ⟨#[]⟩, .int .i64 0, .string ⟨#[]⟩, .string ⟨#[]⟩, .int .i64 0] 42) = W0 at *
  go_wp2_with fail
  refine (own_index a cap l _ _ n p _ (hl.no h0 (fun _ => id)) (cell_of_block q4 0) (cell_of_block q5 0)).mono ?_
  rintro e w1 ⟨rfl, hf1⟩
  have hl1 := (hl.no h0 (fun _ => id)).no hf1 (fun _ => id)
  have hfr := h0.step hf1 (fun _ _ h => h)
  have p6 := hf1.heap q6 id
  have hs1 := hf1.size
  clear q4 q5 q6 h0 hf1 hl
  have z0 : w1.cell? ⟨w.heap.size + 1 + 1, 0, none⟩ = some (.string ⟨#[]⟩) := cell_of_block p6 0
  have z1 : w1.cell? ⟨w.heap.size + 1 + 1, 1, none⟩ = some (.int .i64 0) := cell_of_block p6 1
  have z2 : w1.cell? ⟨w.heap.size + 1 + 1, 2, none⟩ = some (.slice none 0 0) := cell_of_block p6 2
  have z3 : w1.cell? ⟨w.heap.size + 1 + 1, 3, none⟩ = some (.slice none 0 0) := cell_of_block p6 3
  have z4 : w1.cell? ⟨w.heap.size + 1 + 1, 4, none⟩ = some (.slice none 0 0) := cell_of_block p6 4
  have z5 : w1.cell? ⟨w.heap.size + 1 + 1, 5, none⟩ = some (.slice none 0 0) := cell_of_block p6 5
  have z6 : w1.cell? ⟨w.heap.size + 1 + 1, 6, none⟩ = some (.slice none 0 0) := cell_of_block p6 6
  have z7 : w1.cell? ⟨w.heap.size + 1 + 1, 7, none⟩ = some (.string ⟨#[]⟩) := cell_of_block p6 7
  have z8 : w1.cell? ⟨w.heap.size + 1 + 1, 8, none⟩ = some (.int .i64 0) := cell_of_block p6 8
  have z9 : w1.cell? ⟨w.heap.size + 1 + 1, 9, none⟩ = some (.string ⟨#[]⟩) := cell_of_block p6 9
  have z10 : w1.cell? ⟨w.heap.size + 1 + 1, 10, none⟩ = some (.string ⟨#[]⟩) := cell_of_block p6 10
  have z11 : w1.cell? ⟨w.heap.size + 1 + 1, 11, none⟩ = some (.int .i64 0) := cell_of_block p6 11
  have y0 : w1.frozen? ⟨w.heap.size + 1 + 1, 0, none⟩ = false := free_of_block p6 0
  have y1 : w1.frozen? ⟨w.heap.size + 1 + 1, 1, none⟩ = false := free_of_block p6 1
  have y2 : w1.frozen? ⟨w.heap.size + 1 + 1, 2, none⟩ = false := free_of_block p6 2
  have y3 : w1.frozen? ⟨w.heap.size + 1 + 1, 3, none⟩ = false := free_of_block p6 3
  have y4 : w1.frozen? ⟨w.heap.size + 1 + 1, 4, none⟩ = false := free_of_block p6 4
  have y5 : w1.frozen? ⟨w.heap.size + 1 + 1, 5, none⟩ = false := free_of_block p6 5
  have y6 : w1.frozen? ⟨w.heap.size + 1 + 1, 6, none⟩ = false := free_of_block p6 6
  have y7 : w1.frozen? ⟨w.heap.size + 1 + 1, 7, none⟩ = false := free_of_block p6 7
  have y8 : w1.frozen? ⟨w.heap.size + 1 + 1, 8, none⟩ = false := free_of_block p6 8
  have y9 : w1.frozen? ⟨w.heap.size + 1 + 1, 9, none⟩ = false := free_of_block p6 9
  have y10 : w1.frozen? ⟨w.heap.size + 1 + 1, 10, none⟩ = false := free_of_block p6 10
  have y11 : w1.frozen? ⟨w.heap.size + 1 + 1, 11, none⟩ = false := free_of_block p6 11
  rcases rplace_find l n p with ⟨h1, h2⟩ | ⟨k, r, h1, h2, h3⟩
  · rw [h2]
    have H1 := Lib.hid h1
    have h12 := set12 p6 rfl Rec.zero
    have hfin := Lib.hid (hfr.step h12.2 (fun b hb e => by unfold Is at e; omega))
    clear h12 p6 hl1 h1 h2
    go_wp2_with fail
    refine bodyPost_ret (v := .tuple #[.agg Rec.zero.vals, .bool false]) (by simp [results, Tryz.results100, go_sem, Rec.vals, Rec.zero, z0, z1, z2, z3, z4, z5, z6, z7, z8, z9, z10, z11]; try rfl) rfl ?_
    exact ⟨by rw [H1.out]; rfl, hfin.out⟩
  · rw [h2]
    have H1 := Lib.hid h1
    have hlt : k < l.length := (List.getElem?_eq_some_iff.1 h3).1
    have hlt' : (k : Int) < l.length := by omega
    obtain ⟨bb, off, r', rfl, hr, _, c0, c1, c2, c3, c4, c5, c6, c7, c8, c9, c10, c11⟩ := hl1.elem hlt
    rw [h3] at hr; cases hr
    have h12 := set12 p6 rfl r
    have hfin := Lib.hid (hfr.step h12.2 (fun b hb e => by unfold Is at e; omega))
    clear h12 p6 hl1 h1 h2 h3
    go_wp2_with fail
    refine bodyPost_ret (v := .tuple #[.agg r.vals, .bool true]) (by simp [results, Tryz.results100, go_sem, Rec.vals, z0, z1, z2, z3, z4, z5, z6, z7, z8, z9, z10, z11]) rfl ?_
    exact ⟨by rw [H1.out]; rfl, hfin.out⟩

/-- The value of a property. -/
def isKey (key : ByteArray) (x : ByteArray × ByteArray) : Bool := x.1.toList == key.toList
def getP (l : List (ByteArray × ByteArray)) (key : ByteArray) : ByteArray := ((l.find? (isKey key)).map (·.2)).getD ⟨#[]⟩
theorem find_take {α : Type} (p : α → Bool) : ∀ (l : List α) (k : Nat) (x : α), l[k]? = some x → p x = true → (∀ y ∈ l.take k, p y = false) → l.find? p = some x
  | [], k, x, h, _, _ => by simp at h
  | y :: t, 0, x, h, e, _ => by simp at h; subst h; simp [e]
  | y :: t, k + 1, x, h, e, hn => by
    have h1 : p y = false := hn y (by simp)
    rw [List.find?_cons, h1]
    exact find_take p t k x (by simpa using h) e (fun z hz => hn z (by simp [hz]))
theorem find_no {α : Type} (p : α → Bool) (l : List α) (h : ∀ y ∈ l, p y = false) : l.find? p = none := by
  rw [List.find?_eq_none]; intro y hy; simp [h y hy]

set_option maxRecDepth 100000 in
set_option maxHeartbeats 1000000 in
theorem record_get (r : Rec) (key : ByteArray) (w : World) (hr : RecOk w r) :
    Calls Tryz.prog 55 #[.agg r.vals, .string key] w fun e w' => e = .returned (.string (getP r.props key)) ∧ Fr No w w' := by
  have hx : Fr No w (w.alloc (.cells r.vals 42)) := (Fr.refl _ _).alloc _
  have hA := hr.props.no hx (fun _ => id)
  have hm := hA.lenmax
  unfold Rec.vals at *
  clear hr
  go_enter Tryz.func55, Tryz.ntmps55
  go_wp2_with fail
  generalize w.alloc (.cells _ 42) = W0 at *
  go_loopw [10] (fun i wr => ∃ k : Nat, k ≤ r.props.length ∧ i = .int .i64 k ∧ Hid (∀ x ∈ r.props.take k, isKey key x = false) ∧ Fr No W0 wr) (fun i _ => r.props.length - (intOf i).toNat)
  case atStart => exact ⟨0, by omega, rfl, by unfold Hid; simp, Fr.refl _ _⟩
  case round =>
    obtain ⟨k, hk, rfl, hno, hfr⟩ := hrel
    by_cases hlt : k < r.props.length
    · have hlt' : (k : Int) < r.props.length := by omega
      obtain ⟨bb, off, x, y, ha, hxy, -, -, c0, c1⟩ := (hA.no hfr (fun _ => id)).at hlt
      have Hxy := Lib.hid hxy
      clear hxy
      rcases he : (x.toList == key.toList) with _ | _
      · go_wp2_with fail
        go_roundw
        case rel =>
          refine ⟨k + 1, by omega, by go_num, ?_, hfr.alloc _⟩
          unfold Hid
          intro z hz
          rw [List.take_add_one, Hxy.out] at hz
          rcases List.mem_append.1 hz with h | h
          · exact hno.out z h
          · simp at h; subst h; exact he
        case measure => simp [intOf]; omega
      · have Hg : Hid (getP r.props key = y) := by unfold Hid getP; rw [find_take (isKey key) _ _ _ Hxy.out he hno.out]; rfl
        go_wp2_with fail
        go_ret
        exact ⟨by rw [Hg.out]; rfl, (hx.step hfr (fun _ _ h => h)).alloc _⟩
    · obtain rfl : k = r.props.length := by omega
      have h := hno.out
      rw [List.take_of_length_le (by omega)] at h
      have Hg : Hid (getP r.props key = ⟨#[]⟩) := by unfold Hid getP; rw [find_no _ _ h]; rfl
      go_wp2_with fail
      go_ret
      exact ⟨by rw [Hg.out]; rfl, hx.step hfr (fun _ _ h => h)⟩

/-- A text and some truth value. -/
def GotS (s : ByteArray) (e : Ending) : Prop := ∃ b, e = .returned (.tuple #[.string s, .bool b])
set_option maxHeartbeats 1000000 in
theorem ref_get3 (a : Option Addr) (cap : Nat) (l : List (ByteArray × ByteArray)) (key : ByteArray) (w : World) (hl : Atts w a cap l) :
    Calls Tryz.prog 106 #[.slice a l.length cap, .string key] w fun e w' => GotS (getP l key) e ∧ Fr No w w' := by
  have hm := hl.lenmax
  go_enter Tryz.func106, Tryz.ntmps106
  go_wp2_with fail
  go_loop [6] (fun i => ∃ k : Nat, k ≤ l.length ∧ i = .int .i64 k ∧ Hid (∀ x ∈ l.take k, isKey key x = false)) (fun i => l.length - (intOf i).toNat)
  case atStart => exact ⟨0, by omega, rfl, by unfold Hid; simp⟩
  case round =>
    obtain ⟨k, hk, rfl, hno⟩ := hrel
    by_cases hlt : k < l.length
    · have hlt' : (k : Int) < l.length := by omega
      obtain ⟨bb, off, x, y, rfl, hxy, -, -, c0, c1⟩ := hl.at hlt
      have Hxy := Lib.hid hxy
      clear hxy
      rcases he : (x.toList == key.toList) with _ | _
      · go_wp2_with fail
        go_round
        case rel =>
          refine ⟨k + 1, by omega, by go_num, ?_⟩
          unfold Hid
          intro z hz
          rw [List.take_add_one, Hxy.out] at hz
          rcases List.mem_append.1 hz with h | h
          · exact hno.out z h
          · simp at h; subst h; exact he
        case measure => simp [intOf]; omega
      · have Hg : Hid (getP l key = y) := by unfold Hid getP; rw [find_take (isKey key) _ _ _ Hxy.out he hno.out]; rfl
        go_wp2_with fail
        refine bodyPost_ret (v := .tuple #[.string y, .bool true]) (by simp [results, Tryz.results106, go_sem]) rfl ?_
        exact ⟨⟨true, by rw [Hg.out]⟩, Fr.refl _ _⟩
    · obtain rfl : k = l.length := by omega
      have h := hno.out
      rw [List.take_of_length_le (by omega)] at h
      have Hg : Hid (getP l key = ⟨#[]⟩) := by unfold Hid getP; rw [find_no _ _ h]; rfl
      go_wp2_with fail
      refine bodyPost_ret (v := .tuple #[.string ⟨#[]⟩, .bool false]) (by simp [results, Tryz.results106, go_sem]) rfl ?_
      exact ⟨⟨false, by rw [Hg.out]⟩, Fr.refl _ _⟩

set_option maxHeartbeats 1000000 in
theorem ref_get25 (r : Rec) (key : ByteArray) (w : World) (hr : RecOk w r) :
    Calls Tryz.prog 60 #[.agg r.vals, .string key] w fun e w' => e = .returned (.string (getP r.props key)) ∧ Fr No w w' := by
  have hx : Fr No w (w.alloc (.cells r.vals 42)) := (Fr.refl _ _).alloc _
  have hA := hr.props.no hx (fun _ => id)
  unfold Rec.vals at *
  clear hr
  go_enter Tryz.func60, Tryz.ntmps60
  go_wp2_with fail
  refine (ref_get3 _ _ _ key _ hA).mono ?_
  rintro e w1 ⟨⟨b, rfl⟩, hf1⟩
  go_wp2_with fail
  go_ret
  exact ⟨rfl, hx.step hf1 (fun _ _ h => h)⟩
end Go.Proofs.YtpnpjaemlflplaaGreatDoor
