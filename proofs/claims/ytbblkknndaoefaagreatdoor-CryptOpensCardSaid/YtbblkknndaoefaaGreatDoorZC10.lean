/- Slices of texts and of members that came in, opened, with the bounds of their sizes. few: lists that are short enough (chapter 33). SameVirtuals, SameMember, SameMembers on equal lists. keySet. -/
import Derived.Test.YtbblkknndaoefaaGreatDoorZC7
import Derived.Deep.Slices
import Derived.SliceStrings
import Derived.ChangeArms
import Derived.SizedLaws
import Derived.Test.YtbblkknndaoefaaGreatDoorZC3
import Derived.Test.YtbblkknndaoefaaGreatDoorZC8
import Derived.Test.YtbblkknndaoefaaGreatDoorZC6
namespace Go.Proofs.YtbblkknndaoefaaGreatDoor
open Go.RowKit Go.Maps Go.ChangeShapes
set_option linter.unusedVariables false

/-- What a row's size bound says of one argument. -/
def Wt {H : Type} (t : TypeId) (d : DataW H) : Prop := ∀ n ∈ d.weights Tryz.prog t, n ≤ reachBytes
theorem wt_all {H : Type} (e : TypeId) : ∀ (l : List (DataW H)) (d : DataW H), d ∈ l → ∀ n ∈ d.weights Tryz.prog e, n ∈ DataW.weightsAll Tryz.prog e l
  | x :: t, d, h, n, hn => by
    simp only [DataW.weightsAll, List.mem_append]
    rcases List.mem_cons.1 h with rfl | h
    · exact .inl hn
    · exact .inr (wt_all e t d h n hn)
  | [], d, h, _, _ => by cases h
theorem wt_string {H : Type} {t : TypeId} {s : ByteArray} (h : Wt t (.lit (.string s.data.toList) : DataW H)) : s.size ≤ reachBytes := by
  have h1 := h s.data.toList.length (by simp [DataW.weights])
  rwa [Array.length_toList] at h1
theorem wt_slice {H : Type} {t e : TypeId} {el sp : List (DataW H)} (hu : Tryz.prog.underlying t = some (.slice e)) (h : Wt t (.slice el sp)) :
    (el.length + sp.length) * Tryz.prog.bytesOf e ≤ reachBytes ∧ ∀ d ∈ el, Wt e d := by
  refine ⟨h _ (by simp [DataW.weights, hu]), fun d hd n hn => h n ?_⟩
  simp only [DataW.weights, hu, List.mem_cons, List.mem_append]
  exact .inr (.inl (wt_all e el d hd n hn))
theorem wt_struct {H : Type} {t : TypeId} {fs : Array Field} {parts : List (DataW H)} (hu : Tryz.prog.underlying t = some (.struct fs)) (h : Wt t (.agg parts)) {j : Nat} {f : Field} {d : DataW H} (hf : fs[j]? = some f) (hd : parts[j]? = some d) : Wt f.type d := fun n hn => h n (by
  simp only [DataW.weights, hu]
  exact DataW.weights_mem_each (j := j) (by rw [List.getElem?_map, Array.getElem?_toList, hf]; rfl) hd n hn)
theorem wt_each {H : Type} {ts : List TypeId} {ds : List (DataW H)} (h : (DataW.weightsEach Tryz.prog ts ds).all (· ≤ reachBytes) = true) {j : Nat} {t : TypeId} {d : DataW H} (ht : ts[j]? = some t) (hd : ds[j]? = some d) : Wt t d := fun n hn => by
  have := List.all_eq_true.1 h n (DataW.weights_mem_each ht hd n hn)
  simpa using this

section
variable {H : Type} {enc : TypeId × Value → H} {w : World} {base : Nat} {spare : Nat → Bool} {held : Bool}
theorem lt_of_cell {w : World} {p : Addr} {v : Value} (h : w.cell? p = some v) : p.block < w.heap.size := by
  unfold World.cell? at h
  cases hh : w.heap[p.block]? with
  | none => simp [hh] at h
  | some o => exact (Array.getElem?_eq_some_iff.1 hh).1
/-- The bounds of texts that came in. -/
structure StrsIn (l : List ByteArray) : Prop where
  n : l.length * 16 ≤ reachBytes
  s : ∀ x ∈ l, x.size ≤ reachBytes
set_option maxRecDepth 100000 in
theorem open_strs_raw {fuel : Nat} {cs : List Value} {x : DataW H × List MemPlace} (h : DataW.trod enc Tryz.prog w base spare held fuel 33 cs = some x) (hz : Wt 33 x.1) :
    ∃ a c l, cs = [.slice a (l : List ByteArray).length c] ∧ Strs w a c l ∧ StrsIn l := by
  rcases open_strings Tryz.underlying33 Tryz.underlying9 (by kernel_rfl) h with ⟨rfl, _⟩ | ⟨a, len, cap, ss, rfl, hb, h1, h2, h3, rfl, h4, h5⟩
  · exact ⟨none, 0, [], rfl, Strs.nil w, ⟨by simp, by simp⟩⟩
  · have hle : len ≤ ss.length := by rw [h3]; split <;> omega
    have hl : (ss.take len).length = len := by rw [List.length_take]; omega
    obtain ⟨z1, z2⟩ := wt_slice Tryz.underlying33 hz
    have hbs : Tryz.prog.bytesOf 9 = 16 := by kernel_rfl
    rw [hbs] at z1
    have z3 : (strs (H := H) (ss.take len)).length = (ss.take len).length := by simp [strs]
    refine ⟨some a, cap, ss.take len, by rw [hl], ⟨by omega, h2, (fun e => by cases e), fun ad e hne => ?_⟩, ⟨by rw [z3] at z1; omega, fun s hs => wt_string (z2 _ (List.mem_map.2 ⟨s, hs, rfl⟩))⟩⟩
    cases e
    have hpos : 0 < (ss.take len).length := List.length_pos_iff.2 hne
    have h0 := h4 0 (by omega)
    have hsp : a.spot = none := by simpa [Addr.add] using World.cell?_spot h0
    have hbl := lt_of_cell h0
    obtain ⟨b, off, sp⟩ := a
    simp at hsp
    subst hsp
    rw [Addr.add_lit] at hbl
    refine ⟨rfl, hbl, fun i y hi => ?_⟩
    have hlt : i < (ss.take len).length := (List.getElem?_eq_some_iff.1 hi).1
    have h6 := h4 i (by omega)
    rw [List.getElem?_take_of_lt (by omega)] at hi
    rw [List.getD_eq_getElem?_getD, hi, Addr.add_lit] at h6
    simpa using h6
set_option maxRecDepth 100000 in
theorem structMem : ∃ f0 f1 f2 f3 f4 f5 f6 : Field, Tryz.prog.underlying 58 = some (.struct #[f0, f1, f2, f3, f4, f5, f6]) ∧ (f0.offset = 0 ∧ f0.type = 9) ∧ (f1.offset = 1 ∧ f1.type = 9) ∧ (f2.offset = 2 ∧ f2.type = 3) ∧ (f3.offset = 3 ∧ f3.type = 3) ∧ (f4.offset = 4 ∧ f4.type = 3) ∧ (f5.offset = 5 ∧ f5.type = 3) ∧ (f6.offset = 6 ∧ f6.type = 33) :=
  ⟨_, _, _, _, _, _, _, Tryz.underlying58, ⟨rfl, rfl⟩, ⟨rfl, rfl⟩, ⟨rfl, rfl⟩, ⟨rfl, rfl⟩, ⟨rfl, rfl⟩, ⟨rfl, rfl⟩, ⟨rfl, rfl⟩⟩
/-- The bounds of a member that came in. -/
structure MemIn (m : Mem) : Prop where
  p : m.p.size ≤ reachBytes
  i : m.i.size ≤ reachBytes
  r : (Lit.int .i64 m.r).wf = true
  s : (Lit.int .i64 m.s).wf = true
  t : (Lit.int .i64 m.t).wf = true
  e : (Lit.int .i64 m.e).wf = true
  l : StrsIn m.l
set_option maxRecDepth 100000 in
theorem open_mem_raw {fuel : Nat} {cs : List Value} {x : DataW H × List MemPlace} (h : DataW.trod enc Tryz.prog w base spare held fuel 58 cs = some x) (hz : Wt 58 x.1) :
    ∃ m : Mem, cs = m.vals.toList ∧ Strs w m.a m.c m.l ∧ MemIn m := by
  obtain ⟨f0, f1, f2, f3, f4, f5, f6, hu, ⟨o0, t0⟩, ⟨o1, t1⟩, ⟨o2, t2⟩, ⟨o3, t3⟩, ⟨o4, t4⟩, ⟨o5, t5⟩, ⟨o6, t6⟩⟩ := structMem
  obtain ⟨xs, k, hk, hxy, hlen, hxl, hf⟩ := DataW.trod_struct hu h
  have hc : Tryz.prog.cellsOf 58 = 7 := by kernel_rfl
  have hcs : Tryz.prog.cellsOf 9 = 1 := by kernel_rfl
  have hci : Tryz.prog.cellsOf 3 = 1 := by kernel_rfl
  have hcl : Tryz.prog.cellsOf 33 = 1 := by kernel_rfl
  rw [hc] at hlen
  match xs, hxl, cs, hlen with
  | [y0, y1, y2, y3, y4, y5, y6], _, [v0, v1, v2, v3, v4, v5, v6], _ =>
    have g0 := hf 0 f0 rfl
    have g1 := hf 1 f1 rfl
    have g2 := hf 2 f2 rfl
    have g3 := hf 3 f3 rfl
    have g4 := hf 4 f4 rfl
    have g5 := hf 5 f5 rfl
    have g6 := hf 6 f6 rfl
    rw [o0, t0, hcs] at g0
    rw [o1, t1, hcs] at g1
    rw [o2, t2, hci] at g2
    rw [o3, t3, hci] at g3
    rw [o4, t4, hci] at g4
    rw [o5, t5, hci] at g5
    rw [o6, t6, hcl] at g6
    subst hxy
    have zz := fun (j : Nat) (f : Field) (d : DataW H) h1 h2 => wt_struct (j := j) (f := f) (d := d) hu hz h1 h2
    have z0 := zz 0 f0 y0.1 rfl rfl
    have z1 := zz 1 f1 y1.1 rfl rfl
    have z6 := zz 6 f6 y6.1 rfl rfl
    rw [t0] at z0
    rw [t1] at z1
    rw [t6] at z6
    obtain ⟨s0, e0, d0, b0⟩ := DataW.trod_string Tryz.underlying9 (show DataW.trod enc Tryz.prog w base spare held k 9 [v0] = some y0 from g0)
    obtain ⟨s1, e1, d1, b1⟩ := DataW.trod_string Tryz.underlying9 (show DataW.trod enc Tryz.prog w base spare held k 9 [v1] = some y1 from g1)
    obtain ⟨n2, e2, _, b2⟩ := DataW.trod_int Tryz.underlying3 (show DataW.trod enc Tryz.prog w base spare held k 3 [v2] = some y2 from g2)
    obtain ⟨n3, e3, _, b3⟩ := DataW.trod_int Tryz.underlying3 (show DataW.trod enc Tryz.prog w base spare held k 3 [v3] = some y3 from g3)
    obtain ⟨n4, e4, _, b4⟩ := DataW.trod_int Tryz.underlying3 (show DataW.trod enc Tryz.prog w base spare held k 3 [v4] = some y4 from g4)
    obtain ⟨n5, e5, _, b5⟩ := DataW.trod_int Tryz.underlying3 (show DataW.trod enc Tryz.prog w base spare held k 3 [v5] = some y5 from g5)
    obtain ⟨a, c, l, e6, hS, hl⟩ := open_strs_raw (show DataW.trod enc Tryz.prog w base spare held k 33 [v6] = some y6 from g6) z6
    rw [d0] at z0
    rw [d1] at z1
    cases e0; cases e1; cases e2; cases e3; cases e4; cases e5; cases e6
    exact ⟨⟨s0, s1, n2, n3, n4, n5, a, l, c⟩, rfl, hS, ⟨wt_string z0, wt_string z1, b2, b3, b4, b5, hl⟩⟩

set_option maxRecDepth 100000 in
theorem open_mems_raw {fuel : Nat} {cs : List Value} {x : DataW H × List MemPlace} (h : DataW.trod enc Tryz.prog w base spare held fuel 23 cs = some x) (hz : Wt 23 x.1) :
    ∃ a c L, cs = [.slice a (L : List Mem).length c] ∧ Mems w a c L ∧ ∀ m ∈ L, MemIn m := by
  rcases Go.Deep.open_slice Tryz.underlying23 h with ⟨rfl, _⟩ | ⟨a, len, cap, m, n, D, Pl, rfl, hb, hl, hm, hmm, rfl, hx⟩
  · exact ⟨none, 0, [], rfl, Mems.nil w, by simp⟩
  · have hc : Tryz.prog.cellsOf 58 = 7 := by kernel_rfl
    rw [hc] at hx
    have hlm : len ≤ m := by rw [hmm]; split <;> omega
    have each : ∀ i, i < len → ∃ M : Mem, (∀ j, j < 7 → w.cell? ((a.add (i * 7)).add j) = M.vals[j]?) ∧ Strs w M.a M.c M.l ∧ MemIn M := fun i hi => by
      obtain ⟨cs', h1, h2⟩ := hx i (by omega)
      obtain ⟨M, rfl, hS, hM⟩ := open_mem_raw h2 ((wt_slice Tryz.underlying23 hz).2 _ (List.mem_map.2 ⟨i, List.mem_range.2 hi, rfl⟩))
      obtain ⟨_, _, h3⟩ := World.cells?_some h1
      exact ⟨M, fun j hj => by rw [h3 j hj]; simp, hS, hM⟩
    obtain ⟨F, hF⟩ : ∃ F : Nat → Mem, ∀ i, i < len → (∀ j, j < 7 → w.cell? ((a.add (i * 7)).add j) = (F i).vals[j]?) ∧ Strs w (F i).a (F i).c (F i).l ∧ MemIn (F i) := by
      refine ⟨fun i => if hi : i < len then Classical.choose (each i hi) else Mem.zero, fun i hi => ?_⟩
      simp only [hi, dif_pos]
      exact Classical.choose_spec (each i hi)
    have hL : ((List.range len).map F).length = len := by simp
    refine ⟨some a, cap, (List.range len).map F, by rw [hL], ⟨by rw [hL]; exact hl, hm, (fun e => by cases e), fun M hM => ?_, fun ad e hne => ?_⟩, fun M hM => ?_⟩
    · obtain ⟨i, hi, rfl⟩ := List.mem_map.1 hM
      exact (hF i (List.mem_range.1 hi)).2.1
    · cases e
      have hpos : 0 < len := by rw [← hL]; exact List.length_pos_iff.2 hne
      have h0 := (hF 0 hpos).1 0 (by omega)
      have h0' : w.cell? ((a.add (0 * 7)).add 0) = some (.string (F 0).p) := by rw [h0]; rfl
      have hsp : a.spot = none := by simpa [Addr.add] using World.cell?_spot h0'
      have hbl := lt_of_cell h0'
      obtain ⟨b, off, sp⟩ := a
      simp at hsp
      subst hsp
      rw [Addr.add_lit, Addr.add_lit] at hbl
      refine ⟨rfl, hbl, fun i M hi j hj => ?_⟩
      have hil : i < len := by rw [← hL]; exact (List.getElem?_eq_some_iff.1 hi).1
      have h6 := (hF i hil).1 j hj
      rw [List.getElem?_map, List.getElem?_range hil] at hi
      obtain rfl : F i = M := by simpa using hi
      rw [Addr.add_lit, Addr.add_lit] at h6
      rw [← h6]
      rw [← Nat.add_assoc]
    · obtain ⟨i, hi, rfl⟩ := List.mem_map.1 hM
      exact (hF i (List.mem_range.1 hi)).2.2
end
end Go.Proofs.YtbblkknndaoefaaGreatDoor
namespace Go.Proofs.YtbblkknndaoefaaGreatDoor
open Go.RowKit Go.Maps
set_option linter.unusedVariables false

def sumM (L : List Mem) : Nat := (L.map fun m => m.p.size + m.i.size + m.l.length).sum
def sumK (K : List ByteArray) : Nat := (K.map fun x => x.size).sum
theorem sumM_take {L : List Mem} {k : Nat} {m : Mem} (h : L[k]? = some m) : sumM (L.take (k + 1)) = sumM (L.take k) + (m.p.size + m.i.size + m.l.length) := by
  unfold sumM; rw [List.take_add_one, h]; simp
theorem sumK_take {K : List ByteArray} {k : Nat} {x : ByteArray} (h : K[k]? = some x) : sumK (K.take (k + 1)) = sumK (K.take k) + x.size := by
  unfold sumK; rw [List.take_add_one, h]; simp
theorem sumM_le : ∀ {L : List Mem} {m : Mem}, m ∈ L → m.p.size + m.i.size + m.l.length ≤ sumM L
  | x :: t, m, h => by
    have e : sumM (x :: t) = (x.p.size + x.i.size + x.l.length) + sumM t := by simp [sumM]
    rcases List.mem_cons.1 h with rfl | h
    · omega
    · have := sumM_le h; omega
theorem sumK_le : ∀ {K : List ByteArray} {x : ByteArray}, x ∈ K → x.size ≤ sumK K
  | y :: t, x, h => by
    have e : sumK (y :: t) = y.size + sumK t := by simp [sumK]
    rcases List.mem_cons.1 h with rfl | h
    · omega
    · have := sumK_le h; omega
theorem sumM_bound : ∀ {L : List Mem}, (∀ m ∈ L, MemIn m) → sumM L ≤ L.length * 422212465065984
  | [], _ => by simp [sumM]
  | x :: t, h => by
    have e : sumM (x :: t) = (x.p.size + x.i.size + x.l.length) + sumM t := by simp [sumM]
    have ih := sumM_bound (L := t) (fun m hm => h m (by simp [hm]))
    have h1 := (h x (by simp)).p
    have h2 := (h x (by simp)).i
    have h3 := (h x (by simp)).l.n
    unfold reachBytes at h1 h2 h3
    rw [e, List.length_cons]
    omega
theorem sumK_bound : ∀ {K : List ByteArray}, (∀ x ∈ K, x.size ≤ reachBytes) → sumK K ≤ K.length * 140737488351232
  | [], _ => by simp [sumK]
  | x :: t, h => by
    have e : sumK (x :: t) = x.size + sumK t := by simp [sumK]
    have ih := sumK_bound (K := t) (fun m hm => h m (by simp [hm]))
    have h1 := h x (by simp)
    unfold reachBytes at h1
    rw [e, List.length_cons]
    omega
/-- What few says, if it says so. -/
structure FewOk (L : List Mem) (K : List ByteArray) : Prop where
  n : L.length ≤ 40
  k : K.length ≤ 40
  m : ∀ m ∈ L, m.p.size ≤ 2000 ∧ m.i.size ≤ 2000 ∧ m.l.length ≤ 2000
  x : ∀ x ∈ K, x.size ≤ 2000
theorem FewOk.of {L : List Mem} {K : List ByteArray} (h1 : L.length ≤ 40) (h2 : K.length ≤ 40) (h : sumM L + sumK K ≤ 2000) : FewOk L K :=
  ⟨h1, h2, fun m hm => by have := sumM_le hm; omega, fun x hx => by have := sumK_le hx; omega⟩

/-- What few answers. -/
def FewR (L : List Mem) (K : List ByteArray) (e : Ending) : Prop := ∃ b, e = .returned (.bool b) ∧ (b = true → FewOk L K)
set_option maxRecDepth 100000 in
set_option maxHeartbeats 4000000 in
theorem few33 (a : Option Addr) (cap : Nat) (L : List Mem) (ka : Option Addr) (kc : Nat) (K : List ByteArray) (w : World) (hl : Mems w a cap L) (hL : ∀ m ∈ L, MemIn m) (hk : Strs w ka kc K) (hK : StrsIn K) :
    Calls Tryz.prog 15 #[.slice a L.length cap, .slice ka K.length kc] w fun e w' => FewR L K e ∧ Fr No w w' := by
  have hlm := hl.lenmax
  have hkm := hk.lenmax
  by_cases h40 : L.length ≤ 40 ∧ K.length ≤ 40
  · obtain ⟨h1, h2⟩ := h40
    have HL := Lib.hid hL
    have HK := Lib.hid hK.s
    clear hL hK
    go_enter Tryz.func15, Tryz.ntmps15
    go_wp2_with fail
    go_loopw [5, 6] (fun n i wr => ∃ k : Nat, k ≤ L.length ∧ n = .int .i64 (sumM (L.take k) : Nat) ∧ i = .int .i64 (k : Int) ∧ Fr No w wr) (fun _ i _ => L.length - (intOf i).toNat)
    case atStart => exact ⟨0, by omega, by simp [sumM], rfl, Fr.refl _ _⟩
    case round =>
      obtain ⟨k, hk1, rfl, rfl, hf⟩ := hrel
      by_cases hlt : k < L.length
      · have hlt' : (k : Int) < L.length := by omega
        have hb1 := sumM_bound (L := L.take k) (fun m hm => HL.out m (List.mem_of_mem_take hm))
        rw [List.length_take] at hb1
        have hb2 : sumM (L.take k) ≤ 40 * 422212465065984 := by
          have : min k L.length ≤ 40 := by omega
          exact Nat.le_trans hb1 (Nat.mul_le_mul_right _ this)
        go_wp2_with fail
        refine region_sig No [(0, false), (1, false), (2, false), (3, false), (4, false), (5, false), (6, false), (7, false), (8, false), (9, false), (10, false), (11, false), (12, false), (13, false), (14, false), (15, false), (16, false), (17, false), (18, false), (19, false), (20, false), (21, false), (22, false)] (by kernel_rfl) (by kernel_rfl) (fun w0 hf0 => ?_)
        have hf1 := hf.step hf0 (fun _ _ h => h)
        obtain ⟨mb, mo, m, rfl, hmk, _, ⟨c0, c1, c2, c3, c4, c5, c6⟩, _⟩ := (hl.no hf1 (fun _ => id)).elem hlt
        have hin := HL.out m (List.mem_of_getElem? hmk)
        have hz1 : m.p.size ≤ 140737488351232 := hin.p
        have hz2 : m.i.size ≤ 140737488351232 := hin.i
        have hz3 : m.l.length * 16 ≤ 140737488351232 := hin.l.n
        have Hs := Lib.hid (sumM_take hmk)
        have g0 : ∀ g : Gr No w0, g.W.cell? ⟨mb, mo + k * 7, none⟩ = some (.string m.p) := fun g => g.fr.cell c0 id
        have g1 : ∀ g : Gr No w0, g.W.cell? ⟨mb, mo + k * 7 + 1, none⟩ = some (.string m.i) := fun g => g.fr.cell c1 id
        have g6 : ∀ g : Gr No w0, g.W.cell? ⟨mb, mo + k * 7 + 6, none⟩ = some (.slice m.a m.l.length m.c) := fun g => g.fr.cell c6 id
        have Hf1 := Lib.hid hf1
        clear c0 c1 c2 c3 c4 c5 c6 hmk hf0 hf hf1 hin hb1
        repeat (first | (apply sig_q; exact rfl; exact rfl; exact rfl; intro K hK; go_big_quiet_op; go_big_quiet_on) | (apply sig_skip; exact rfl; exact rfl; exact rfl; intro K hK; go_big_quiet_op; go_big_quiet_on))
        refine sig_end ?_
        clear g0 g1 g6
        go_wp2_with fail
        go_roundw
        case rel => exact ⟨k + 1, by omega, by rw [Hs.out]; go_num, by go_num, Hf1.out⟩
        case measure => simp [intOf]; omega
      · obtain rfl : k = L.length := by omega
        rw [List.take_length]
        have hb1 := sumM_bound (L := L) HL.out
        have hb2 : sumM L ≤ 40 * 422212465065984 := Nat.le_trans hb1 (Nat.mul_le_mul_right _ h1)
        have Hf := Lib.hid hf
        clear hb1 hf
        go_wp2_with fail
        go_loopw [5, 7] (fun n i wr2 => ∃ k : Nat, k ≤ K.length ∧ n = .int .i64 ((sumM L + sumK (K.take k) : Nat) : Int) ∧ i = .int .i64 (k : Int) ∧ Fr No w wr2) (fun _ i _ => K.length - (intOf i).toNat)
        case atStart => exact ⟨0, by omega, by simp [sumK], rfl, Hf.out⟩
        case round =>
          obtain ⟨k, hk1, rfl, rfl, hf⟩ := hrel
          by_cases hlt : k < K.length
          · have hlt' : (k : Int) < K.length := by omega
            have hb1 := sumK_bound (K := K.take k) (fun m hm => HK.out m (List.mem_of_mem_take hm))
            rw [List.length_take] at hb1
            have hb3 : sumK (K.take k) ≤ 40 * 140737488351232 := by
              have : min k K.length ≤ 40 := by omega
              exact Nat.le_trans hb1 (Nat.mul_le_mul_right _ this)
            obtain ⟨xb, xo, x, rfl, hxk, cx⟩ := (hk.no hf (fun _ => id)).at hlt
            have hz1 : x.size ≤ 140737488351232 := HK.out x (List.mem_of_getElem? hxk)
            have Hs := Lib.hid (sumK_take hxk)
            clear hxk hb1
            go_wp2_with fail
            go_roundw
            case rel => exact ⟨k + 1, by omega, by rw [Hs.out]; go_num, by go_num, hf⟩
            case measure => simp [intOf]; omega
          · obtain rfl : k = K.length := by omega
            rw [List.take_length]
            have h1' : (L.length : Int) ≤ 40 := by omega
            have h2' : (K.length : Int) ≤ 40 := by omega
            by_cases hs : sumM L + sumK K ≤ 2000
            · have hs' : ((sumM L + sumK K : Nat) : Int) ≤ 2000 := by omega
              have Hok : Hid (FewOk L K) := FewOk.of h1 h2 hs
              clear hs
              go_wp2_with fail
              go_ret
              exact ⟨⟨_, rfl, fun _ => Hok.out⟩, hf⟩
            · have hs' : ¬ ((sumM L + sumK K : Nat) : Int) ≤ 2000 := by omega
              clear hs
              go_wp2_with fail
              go_ret
              exact ⟨⟨_, rfl, fun h => by simp at h⟩, hf⟩
  · have Hno : Hid (¬ (L.length ≤ 40 ∧ K.length ≤ 40)) := h40
    clear h40 hL hK
    go_enter Tryz.func15, Tryz.ntmps15
    go_wp2_with fail
    go_loopw [5, 6] (fun n i wr => ∃ (k : Nat) (z : Int), k ≤ L.length ∧ n = .int .i64 z ∧ i = .int .i64 (k : Int) ∧ Fr No w wr) (fun _ i _ => L.length - (intOf i).toNat)
    case atStart => exact ⟨0, 0, by omega, rfl, rfl, Fr.refl _ _⟩
    case round =>
      obtain ⟨k, z, hk1, rfl, rfl, hf⟩ := hrel
      by_cases hlt : k < L.length
      · have hlt' : (k : Int) < L.length := by omega
        go_wp2_with fail
        refine region_sig No [(0, false), (1, false), (2, false), (3, false), (4, false), (5, false), (6, false), (7, false), (8, false), (9, false), (10, false), (11, false), (12, false), (13, false), (14, false), (15, false), (16, false), (17, false), (18, false), (19, false), (20, false), (21, false), (22, false)] (by kernel_rfl) (by kernel_rfl) (fun w0 hf0 => ?_)
        have hf1 := hf.step hf0 (fun _ _ h => h)
        obtain ⟨mb, mo, m, rfl, hmk, _, ⟨c0, c1, c2, c3, c4, c5, c6⟩, _⟩ := (hl.no hf1 (fun _ => id)).elem hlt
        have g0 : ∀ g : Gr No w0, g.W.cell? ⟨mb, mo + k * 7, none⟩ = some (.string m.p) := fun g => g.fr.cell c0 id
        have g1 : ∀ g : Gr No w0, g.W.cell? ⟨mb, mo + k * 7 + 1, none⟩ = some (.string m.i) := fun g => g.fr.cell c1 id
        have g6 : ∀ g : Gr No w0, g.W.cell? ⟨mb, mo + k * 7 + 6, none⟩ = some (.slice m.a m.l.length m.c) := fun g => g.fr.cell c6 id
        have Hf1 := Lib.hid hf1
        clear c0 c1 c2 c3 c4 c5 c6 hmk hf0 hf hf1
        repeat (first | (apply sig_q; exact rfl; exact rfl; exact rfl; intro K hK; go_big_quiet_op; go_big_quiet_on) | (apply sig_skip; exact rfl; exact rfl; exact rfl; intro K hK; go_big_quiet_op; go_big_quiet_on))
        refine sig_end ?_
        clear g0 g1 g6
        go_wp2_with fail
        go_roundw
        case rel => exact ⟨k + 1, _, by omega, rfl, by go_num, Hf1.out⟩
        case measure => simp [intOf]; omega
      · obtain rfl : k = L.length := by omega
        have Hf := Lib.hid hf
        clear hf
        go_wp2_with fail
        go_loopw [5, 7] (fun n i wr2 => ∃ (k : Nat) (z : Int), k ≤ K.length ∧ n = .int .i64 z ∧ i = .int .i64 (k : Int) ∧ Fr No w wr2) (fun _ i _ => K.length - (intOf i).toNat)
        case atStart => exact ⟨0, _, by omega, rfl, rfl, Hf.out⟩
        case round =>
          obtain ⟨k, z, hk1, rfl, rfl, hf⟩ := hrel
          by_cases hlt : k < K.length
          · have hlt' : (k : Int) < K.length := by omega
            obtain ⟨xb, xo, x, rfl, hxk, cx⟩ := (hk.no hf (fun _ => id)).at hlt
            clear hxk
            go_wp2_with fail
            go_roundw
            case rel => exact ⟨k + 1, _, by omega, rfl, by go_num, hf⟩
            case measure => simp [intOf]; omega
          · obtain rfl : k = K.length := by omega
            by_cases hz : z ≤ 2000
            · by_cases h1 : L.length ≤ 40
              · have h2' : ¬ (K.length : Int) ≤ 40 := by
                  intro h
                  exact Hno.out ⟨h1, by omega⟩
                have h1' : (L.length : Int) ≤ 40 := by omega
                clear h1
                go_wp2_with fail
                go_ret
                exact ⟨⟨_, rfl, fun h => by simp at h⟩, hf⟩
              · have h1' : ¬ (L.length : Int) ≤ 40 := by omega
                clear h1
                go_wp2_with fail
                go_ret
                exact ⟨⟨_, rfl, fun h => by simp at h⟩, hf⟩
            · go_wp2_with fail
              go_ret
              exact ⟨⟨_, rfl, fun h => by simp at h⟩, hf⟩
end Go.Proofs.YtbblkknndaoefaaGreatDoor
namespace Go.Proofs.YtbblkknndaoefaaGreatDoor
open Go.RowKit Go.Maps
set_option linter.unusedVariables false

set_option maxRecDepth 100000 in
set_option maxHeartbeats 2000000 in
theorem same_virtuals_eq (a a' : Option Addr) (cap cap' : Nat) (V : List Vir) (w : World) (hV : Virs w a cap V) (hV' : Virs w a' cap' V) :
    Calls Tryz.prog 22 #[.slice a V.length cap, .slice a' V.length cap'] w fun e w' => e = .returned (.bool true) ∧ Fr No w w' := by
  have hm := hV.lenmax
  go_enter Tryz.func22, Tryz.ntmps22
  go_wp2_with fail
  go_loopw [5] (fun i wr => ∃ k : Nat, k ≤ V.length ∧ i = .int .i64 (k : Int) ∧ Fr No w wr) (fun i _ => V.length - (intOf i).toNat)
  case atStart => exact ⟨0, by omega, rfl, Fr.refl _ _⟩
  case round =>
    obtain ⟨k, hk, rfl, hf⟩ := hrel
    by_cases hlt : k < V.length
    · have hlt1 : (k : Int) < V.length := by omega
      go_wp2_with fail
      refine region_sig No [(0, false), (1, false), (2, false), (3, false), (4, false), (5, false), (6, false), (7, false), (8, false)] (by kernel_rfl) (by kernel_rfl) (fun w0 hf0 => ?_)
      have hf1 := hf.step hf0 (fun _ _ h => h)
      obtain ⟨ub, uo, u, e1, hu, ⟨u0, u1, u2, u3⟩, _⟩ := (hV.no hf1 (fun _ => id)).elem hlt
      obtain ⟨vb, vo, v, e2, hv, ⟨v0, v1, v2, v3⟩, _⟩ := (hV'.no hf1 (fun _ => id)).elem hlt
      obtain rfl : u = v := by rw [hu] at hv; exact Option.some.inj hv
      subst e1 e2
      have g0 : ∀ g : Gr No w0, g.W.cell? ⟨ub, uo + k * 4, none⟩ = some (.string u.q) := fun g => g.fr.cell u0 id
      have g1 : ∀ g : Gr No w0, g.W.cell? ⟨ub, uo + k * 4 + 1, none⟩ = some (.string u.o) := fun g => g.fr.cell u1 id
      have g2 : ∀ g : Gr No w0, g.W.cell? ⟨ub, uo + k * 4 + 2, none⟩ = some (.string u.c) := fun g => g.fr.cell u2 id
      have g3 : ∀ g : Gr No w0, g.W.cell? ⟨ub, uo + k * 4 + 3, none⟩ = some (.int .i64 u.r) := fun g => g.fr.cell u3 id
      have h0 : ∀ g : Gr No w0, g.W.cell? ⟨vb, vo + k * 4, none⟩ = some (.string u.q) := fun g => g.fr.cell v0 id
      have h1 : ∀ g : Gr No w0, g.W.cell? ⟨vb, vo + k * 4 + 1, none⟩ = some (.string u.o) := fun g => g.fr.cell v1 id
      have h2 : ∀ g : Gr No w0, g.W.cell? ⟨vb, vo + k * 4 + 2, none⟩ = some (.string u.c) := fun g => g.fr.cell v2 id
      have h3 : ∀ g : Gr No w0, g.W.cell? ⟨vb, vo + k * 4 + 3, none⟩ = some (.int .i64 u.r) := fun g => g.fr.cell v3 id
      clear u0 u1 u2 u3 v0 v1 v2 v3 hu hv
      repeat (apply sig_q; exact rfl; exact rfl; exact rfl; intro K hK; go_big_quiet_op; go_big_quiet_on)
      refine sig_end ?_
      go_wp2_with fail
      go_roundw
      case rel => exact ⟨k + 1, by omega, by go_num, hf1⟩
      case measure => simp [intOf]; omega
    · obtain rfl : k = V.length := by omega
      go_wp2_with fail
      go_ret
      exact ⟨rfl, hf⟩

theorem sameT_self (l : List ByteArray) : sameT l l = true := by unfold sameT; simp
set_option maxRecDepth 100000 in
set_option maxHeartbeats 2000000 in
theorem same_member_eq (p i : ByteArray) (r s t e : Int) (a a' : Option Addr) (l : List ByteArray) (c c' : Nat) (w : World) (hS : Strs w a c l) (hS' : Strs w a' c' l) :
    Calls Tryz.prog 73 #[.agg #[.string p, .string i, .int .i64 r, .int .i64 s, .int .i64 t, .int .i64 e, .slice a l.length c], .agg #[.string p, .string i, .int .i64 r, .int .i64 s, .int .i64 t, .int .i64 e, .slice a' l.length c']] w fun en w' => en = .returned (.bool true) ∧ Fr No w w' := by
  have hx : Fr No w ((w.alloc (.cells #[.string p, .string i, .int .i64 r, .int .i64 s, .int .i64 t, .int .i64 e, .slice a l.length c] 58)).alloc (.cells #[.string p, .string i, .int .i64 r, .int .i64 s, .int .i64 t, .int .i64 e, .slice a' l.length c'] 58)) := ((Fr.refl _ _).alloc _).alloc _
  have hst := same_texts a a' c c' l l _ (hS.no hx (fun _ => id)) (hS'.no hx (fun _ => id))
  rw [sameT_self] at hst
  have Hx := Lib.hid hx
  clear hx hS hS'
  go_enter Tryz.func73, Tryz.ntmps73
  go_wp2_with fail
  refine hst.mono ?_
  rintro en w1 ⟨rfl, hf1⟩
  have hfin := Hx.out.step hf1 (fun _ _ h => h)
  clear hst hf1
  go_wp2_with fail
  go_ret
  exact ⟨rfl, hfin⟩

theorem mem_k {m m' : Mem} (h : m.k = m'.k) : m' = { m with a := m'.a, c := m'.c } := by
  cases m; cases m'
  simp only [Mem.k, Mem.mk.injEq] at h ⊢
  obtain ⟨h1, h2, h3, h4, h5, h6, _, h8, _⟩ := h
  exact ⟨h1.symm, h2.symm, h3.symm, h4.symm, h5.symm, h6.symm, trivial, h8.symm, trivial⟩
set_option maxRecDepth 100000 in
set_option maxHeartbeats 2000000 in
theorem same_members_eq (a a' : Option Addr) (cap cap' : Nat) (O O' : List Mem) (w : World) (hO : Mems w a cap O) (hO' : Mems w a' cap' O') (he : O.map Mem.k = O'.map Mem.k) :
    Calls Tryz.prog 18 #[.slice a O.length cap, .slice a' O'.length cap'] w fun e w' => e = .returned (.bool true) ∧ Fr No w w' := by
  have hm := hO.lenmax
  have hlen : O'.length = O.length := by have := congrArg List.length he; simp at this; exact this.symm
  rw [hlen]
  have Hlen := Lib.hid hlen
  clear hlen
  have He := Lib.hid he
  clear he
  go_enter Tryz.func18, Tryz.ntmps18
  go_wp2_with fail
  go_loopw [5] (fun i wr => ∃ k : Nat, k ≤ O.length ∧ i = .int .i64 (k : Int) ∧ Fr No w wr) (fun i _ => O.length - (intOf i).toNat)
  case atStart => exact ⟨0, by omega, rfl, Fr.refl _ _⟩
  case round =>
    obtain ⟨k, hk, rfl, hf⟩ := hrel
    by_cases hlt : k < O.length
    · have hlt1 : (k : Int) < O.length := by omega
      go_wp2_with fail
      refine region_sig No [(0, false), (1, false), (2, false), (3, false), (4, false), (5, false), (6, false), (7, false), (8, true), (9, false)] (by kernel_rfl) (by kernel_rfl) (fun w0 hf0 => ?_)
      have hf1 := hf.step hf0 (fun _ _ h => h)
      obtain ⟨ub, uo, u, e1, hu, hSu, ⟨u0, u1, u2, u3, u4, u5, u6⟩, _⟩ := (hO.no hf1 (fun _ => id)).elem hlt
      obtain ⟨vb, vo, v, e2, hv, hSv, ⟨v0, v1, v2, v3, v4, v5, v6⟩, _⟩ := (hO'.no hf1 (fun _ => id)).elem (show k < O'.length by have := Hlen.out; omega)
      have huv : u.k = v.k := by
        have h1 : (O.map Mem.k)[k]? = some u.k := by rw [List.getElem?_map, hu]; rfl
        rw [He.out, List.getElem?_map, hv] at h1
        exact (Option.some.inj h1).symm
      have hv' := mem_k huv
      obtain ⟨pa, ia, ra, sa, ta, ea, aa, la, ca⟩ := u
      generalize v.a = va at hv'
      generalize v.c = vc at hv'
      subst hv'
      subst e1 e2
      simp only at u0 u1 u2 u3 u4 u5 u6 v0 v1 v2 v3 v4 v5 v6 hSu hSv
      have g0 : ∀ g : Gr No w0, g.W.cell? ⟨ub, uo + k * 7, none⟩ = some (.string pa) := fun g => g.fr.cell u0 id
      have g1 : ∀ g : Gr No w0, g.W.cell? ⟨ub, uo + k * 7 + 1, none⟩ = some (.string ia) := fun g => g.fr.cell u1 id
      have g2 : ∀ g : Gr No w0, g.W.cell? ⟨ub, uo + k * 7 + 2, none⟩ = some (.int .i64 ra) := fun g => g.fr.cell u2 id
      have g3 : ∀ g : Gr No w0, g.W.cell? ⟨ub, uo + k * 7 + 3, none⟩ = some (.int .i64 sa) := fun g => g.fr.cell u3 id
      have g4 : ∀ g : Gr No w0, g.W.cell? ⟨ub, uo + k * 7 + 4, none⟩ = some (.int .i64 ta) := fun g => g.fr.cell u4 id
      have g5 : ∀ g : Gr No w0, g.W.cell? ⟨ub, uo + k * 7 + 5, none⟩ = some (.int .i64 ea) := fun g => g.fr.cell u5 id
      have g6 : ∀ g : Gr No w0, g.W.cell? ⟨ub, uo + k * 7 + 6, none⟩ = some (.slice aa la.length ca) := fun g => g.fr.cell u6 id
      have h0 : ∀ g : Gr No w0, g.W.cell? ⟨vb, vo + k * 7, none⟩ = some (.string pa) := fun g => g.fr.cell v0 id
      have h1 : ∀ g : Gr No w0, g.W.cell? ⟨vb, vo + k * 7 + 1, none⟩ = some (.string ia) := fun g => g.fr.cell v1 id
      have h2 : ∀ g : Gr No w0, g.W.cell? ⟨vb, vo + k * 7 + 2, none⟩ = some (.int .i64 ra) := fun g => g.fr.cell v2 id
      have h3 : ∀ g : Gr No w0, g.W.cell? ⟨vb, vo + k * 7 + 3, none⟩ = some (.int .i64 sa) := fun g => g.fr.cell v3 id
      have h4 : ∀ g : Gr No w0, g.W.cell? ⟨vb, vo + k * 7 + 4, none⟩ = some (.int .i64 ta) := fun g => g.fr.cell v4 id
      have h5 : ∀ g : Gr No w0, g.W.cell? ⟨vb, vo + k * 7 + 5, none⟩ = some (.int .i64 ea) := fun g => g.fr.cell v5 id
      have h6 : ∀ g : Gr No w0, g.W.cell? ⟨vb, vo + k * 7 + 6, none⟩ = some (.slice va la.length vc) := fun g => g.fr.cell v6 id
      have Hsu := Lib.hid hSu
      have Hsv := Lib.hid hSv
      clear u0 u1 u2 u3 u4 u5 u6 v0 v1 v2 v3 v4 v5 v6 hu hv huv hSu hSv
      repeat (apply sig_q; exact rfl; exact rfl; exact rfl; intro K hK; go_big_quiet_op; go_big_quiet_on)
      clear g0 g1 g2 g3 g4 g5 g6 h0 h1 h2 h3 h4 h5 h6
      apply sig_m
      exact rfl
      go_wp2_with fail
      refine (same_member_eq pa ia ra sa ta ea aa va la ca vc _ Hsu.out Hsv.out).mono ?_
      rintro en w1 ⟨rfl, hf2⟩
      have Hf := Lib.hid (hf1.step hf2 (fun _ _ h => h))
      go_wp2_with fail
      refine OnlyN.mk ⟨hf2, ?_⟩
      clear hf2
      repeat (apply sig_q; exact rfl; exact rfl; exact rfl; intro K hK; go_big_quiet_op; go_big_quiet_on)
      refine sig_end ?_
      go_wp2_with fail
      go_roundw
      case rel => exact ⟨k + 1, by omega, by go_num, Hf.out⟩
      case measure => simp [intOf]; omega
    · obtain rfl : k = O.length := by omega
      go_wp2_with fail
      go_ret
      exact ⟨rfl, hf⟩
end Go.Proofs.YtbblkknndaoefaaGreatDoor
namespace Go.Proofs.YtbblkknndaoefaaGreatDoor
open Go.RowKit Go.Maps
set_option linter.unusedVariables false

/-- Block mb is the set of the keys K. -/
def KSet (w : World) (mb : Nat) (K : List ByteArray) (N : Nat) : Prop := VMap w mb (fun x => if hasS K (bk x) = true then some (.agg #[]) else none) N
theorem KSet.fr {S : Nat → Prop} {w w' : World} {mb : Nat} {K : List ByteArray} {N : Nat} (h : KSet w mb K N) (hf : Fr S w w') (hS : ¬ S mb) : KSet w' mb K N := VMap.fr h hf hS
theorem kset_upd (K : List ByteArray) (x : ByteArray) : updS (fun x => if hasS K (bk x) = true then some (.agg #[]) else none) (kb x) (.agg #[]) = fun y => if hasS (K ++ [x]) (bk y) = true then some (.agg #[]) else none := by
  funext y
  unfold updS
  have e : hasS (K ++ [x]) (bk y) = (hasS K (bk y) || decide (y = kb x)) := by
    unfold hasS
    rw [List.any_append]
    simp only [List.any_cons, List.any_nil, Bool.or_false]
    congr 1
    rw [strEq, decide_eq_decide]
    constructor
    · intro h; rw [h, kb_bk]
    · intro h; rw [h, bk_kb]
  rw [e]
  by_cases h : y = kb x
  · simp [h]
  · simp [h]
theorem zeroE (w : World) : (zeroValue 106).run Tryz.prog w = .ok (.agg #[]) w := by kernel_rfl

set_option maxRecDepth 100000 in
set_option maxHeartbeats 1000000 in
theorem key_set (a : Option Addr) (cap : Nat) (K : List ByteArray) (w : World) (hl : Strs w a cap K) (hb : K.length ≤ 1000000) (hs : ∀ x ∈ K, x.size ≤ maxLen) :
    Calls Tryz.prog 80 #[.slice a K.length cap] w fun e w' => (∃ mb, e = .returned (.map (some mb)) ∧ KSet w' mb K K.length ∧ w.heap.size ≤ mb) ∧ Fr No w w' := by
  have hmm := @run_makeMap Tryz.prog
  have hx : Fr No w (w.alloc (.map #[] 0)) := (Fr.refl _ _).alloc _
  have hI0 := VMap.made w
  have hlx := hl.no hx (fun _ => id)
  have hs0 : w.heap.size < (w.alloc (.map #[] 0)).heap.size := by simp
  go_enter Tryz.func80, Tryz.ntmps80
  go_wp2_with fail
  clear hmm
  generalize w.alloc (.map #[] 0) = W0 at *
  go_loopw [9] (fun i wr => ∃ k : Nat, k ≤ K.length ∧ i = .int .i64 (k : Int) ∧ KSet wr w.heap.size (K.take k) k ∧ Fr (From w.heap.size) w wr) (fun i _ => K.length - (intOf i).toNat)
  case atStart => exact ⟨0, by omega, rfl, by unfold KSet; simpa [hasS] using hI0, hx.mono (fun _ _ h => h.elim)⟩
  case round =>
    obtain ⟨k, hk, rfl, hI, hfr⟩ := hrel
    by_cases hlt : k < K.length
    · have hlt' : (k : Int) < K.length := by omega
      obtain ⟨b, off, x, rfl, hxk, hc⟩ := (hl.keep hfr (fun b hb h => by unfold From at h; omega)).at hlt
      have hxw := hs x (List.mem_of_getElem? hxk)
      have Hup : Hid (K.take (k + 1) = K.take k ++ [x]) := by unfold Hid; rw [List.take_add_one, hxk]; rfl
      clear hxk
      unfold KSet at hI
      go_wp2_with (at_mapUpdate; refine wp_vmap_put rfl _ _ _ 104 106 rfl Tryz.underlying104 w.heap.size _ k (by unfold maxLen; omega) x hxw (.agg #[]) rfl hI rfl rfl ?_; intro w1 hI1 hg1)
      rw [kset_upd, ← Hup.out] at hI1
      have hf1 : Fr (From w.heap.size) w w1 := hfr.step hg1 (fun b hb e => by unfold Is at e; unfold From; omega)
      have H := Lib.hid (And.intro hI1 hf1)
      clear hI1 hf1 hg1 hI hfr
      go_roundw
      case rel => exact ⟨k + 1, by omega, by go_num, H.out.1, H.out.2⟩
      case measure => simp [intOf]; omega
    · obtain rfl : k = K.length := by omega
      rw [List.take_length] at hI
      have H := Lib.hid (And.intro hI (hfr.mono (T := No) (fun b hb h => by unfold From at h; omega)))
      clear hI hfr
      go_wp2_with fail
      go_ret
      exact ⟨⟨_, rfl, H.out.1, Nat.le_refl _⟩, H.out.2⟩
end Go.Proofs.YtbblkknndaoefaaGreatDoor
