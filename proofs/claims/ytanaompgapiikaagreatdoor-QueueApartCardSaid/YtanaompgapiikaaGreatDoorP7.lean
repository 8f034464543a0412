/- (*Queue).Free: its closures' answers. -/
import Derived.Test.YtanaompgapiikaaGreatDoorP6
import Derived.Test.YtanaompgapiikaaGreatDoorK1
import Derived.Test.YtanaompgapiikaaGreatDoorQ3
namespace Go.Proofs.YtanaompgapiikaaGreatDoor
open Go.RowKit Go.Maps
set_option linter.unusedVariables false

/-- What the table of records has of an Index: nothing, or an empty text. -/
def lackB (g : Int → Option ByteArray) (i : Int) : Bool := ((g i).getD ⟨#[]⟩).toList.isEmpty

set_option maxRecDepth 100000 in
set_option maxHeartbeats 1000000 in
theorem lacks_is (d : Dev) (bk mk : Nat) (g : Int → Option ByteArray) (N : Nat) (w : World) (hb : w.cell? ⟨bk, 0, none⟩ = some (.map (some mk))) (hg : SMap w mk g N) (hx : (Lit.int .i64 d.index).wf = true) :
    Calls Tryz.prog 61 #[.agg d.vals, .pointer (some ⟨bk, 0, none⟩)] w fun e w' => e = .returned (.bool (lackB g d.index)) ∧ Fr No w w' := by
  have h0 : Fr No w (w.alloc (.cells d.vals 36)) := (Fr.refl _ _).alloc _
  have hb0 := h0.cell hb id
  have hg0 := hg.fr h0 id
  have Hl : Hid (lackB g d.index = ((g d.index).getD ⟨#[]⟩).toList.isEmpty) := rfl
  have H0 := Lib.hid h0
  unfold Dev.vals at *
  clear h0 hb hg
  go_enter Tryz.func61, Tryz.ntmps61
  go_wp2_with (at_lookup; refine wp_smap rfl _ _ 105 rfl Tryz.underlying105 mk g N d.index hx rfl hg0 rfl ?_; rw [show (g d.index).getD ⟨#[]⟩ = (g d.index).getD ⟨#[]⟩ from rfl])
  go_ret
  exact ⟨by rw [Hl.out]; rfl, H0.out⟩
/-- A place, 0 or more just if some device lacks a record. -/
def LIdx (g : Int → Option ByteArray) (ds : List Dev) (e : Ending) : Prop := ∃ i : Int, e = .returned (.int .i64 i) ∧ decide (0 ≤ i) = (ds.map Dev.index).any (lackB g)
theorem any_no {p : Int → Bool} {ds : List Dev} (h : ∀ x ∈ ds, p x.index = false) : (ds.map Dev.index).any p = false := by
  rw [List.any_eq_false]; intro y hy
  obtain ⟨x, hx, rfl⟩ := List.mem_map.1 hy
  simp [h x hx]
theorem any_yes {p : Int → Bool} {ds : List Dev} {k : Nat} {d : Dev} (h : ds[k]? = some d) (h2 : p d.index = true) : (ds.map Dev.index).any p = true := by
  rw [List.any_eq_true]; exact ⟨d.index, List.mem_map_of_mem (List.mem_of_getElem? h), h2⟩

set_option maxRecDepth 100000 in
set_option maxHeartbeats 1000000 in
theorem lack_index (a : Option Addr) (cap : Nat) (ds : List Dev) (bk mk : Nat) (g : Int → Option ByteArray) (N : Nat) (w : World) (hl : Devs w a cap ds) (hb : w.cell? ⟨bk, 0, none⟩ = some (.map (some mk))) (hg : SMap w mk g N) (hx : ∀ d ∈ ds, (Lit.int .i64 d.index).wf = true) :
    Calls Tryz.prog 114 #[.slice a ds.length cap, .func (.func 61) #[] #[.pointer (some ⟨bk, 0, none⟩)]] w fun e w' => LIdx g ds e ∧ Fr No w w' := by
  have hm := hl.lenmax
  go_enter Tryz.func114, Tryz.ntmps114
  go_wp2_with fail
  go_loopw [8] (fun i wr => ∃ k : Nat, k ≤ ds.length ∧ i = .int .i64 k ∧ Hid (∀ x ∈ ds.take k, lackB g x.index = false) ∧ Fr No w wr) (fun i _ => ds.length - (intOf i).toNat)
  case atStart => exact ⟨0, by omega, rfl, by unfold Hid; simp, Fr.refl _ _⟩
  case round =>
    obtain ⟨k, hk, rfl, hno, hfr⟩ := hrel
    by_cases hlt : k < ds.length
    · have hlt' : (k : Int) < ds.length := by omega
      obtain ⟨bb, off, d, rfl, hd, c0, c1, c2, c3, c4, c5, c6, c7, c8, c9⟩ := (hl.no hfr (fun _ => id)).dev hlt
      have Hd := Lib.hid hd
      have hxd := hx d (List.mem_of_getElem? hd)
      clear hd
      go_wp2_with fail
      refine (lacks_is d bk mk g N _ (hfr.cell hb id) (hg.fr hfr id) hxd).mono ?_
      rintro e w1 ⟨rfl, hf1⟩
      have hfr1 := hfr.step hf1 (fun _ _ h => h)
      clear c0 c1 c2 c3 c4 c5 c6 c7 c8 c9
      cases hp : lackB g d.index
      · have Hp := Lib.hid hp
        clear hp
        go_wp2_with fail
        go_roundw
        case rel =>
          refine ⟨k + 1, by omega, by go_num, ?_, hfr1⟩
          unfold Hid
          intro x hx
          rw [List.take_add_one, Hd.out] at hx
          rcases List.mem_append.1 hx with h | h
          · exact hno.out x h
          · simp at h; subst h; exact Hp.out
        case measure => simp [intOf]; omega
      · have Hp : Hid ((ds.map Dev.index).any (lackB g) = true) := any_yes Hd.out hp
        clear hp
        go_wp2_with fail
        go_ret
        exact ⟨⟨k, rfl, by rw [Hp.out]; simp⟩, hfr1⟩
    · obtain rfl : k = ds.length := by omega
      have h := hno.out
      rw [List.take_of_length_le (by omega)] at h
      have Hp : Hid ((ds.map Dev.index).any (lackB g) = false) := any_no h
      clear h
      go_wp2_with fail
      go_ret
      exact ⟨⟨-1, rfl, by rw [Hp.out]; rfl⟩, hfr⟩

set_option maxRecDepth 100000 in
set_option maxHeartbeats 1000000 in
theorem lack_contains (a : Option Addr) (cap : Nat) (ds : List Dev) (bk mk : Nat) (g : Int → Option ByteArray) (N : Nat) (w : World) (hl : Devs w a cap ds) (hb : w.cell? ⟨bk, 0, none⟩ = some (.map (some mk))) (hg : SMap w mk g N) (hx : ∀ d ∈ ds, (Lit.int .i64 d.index).wf = true) :
    Calls Tryz.prog 65 #[.slice a ds.length cap, .func (.func 61) #[] #[.pointer (some ⟨bk, 0, none⟩)]] w fun e w' => e = .returned (.bool ((ds.map Dev.index).any (lackB g))) ∧ Fr No w w' := by
  go_enter Tryz.func65, Tryz.ntmps65
  go_wp2_with fail
  refine (lack_index a cap ds bk mk g N _ hl hb hg hx).mono ?_
  rintro e w1 ⟨⟨i, rfl, hi⟩, hf1⟩
  have Hi := Lib.hid hi
  clear hi
  go_wp2_with fail
  go_ret
  exact ⟨ret_bool Hi.out, hf1⟩

/-- An ancestor of a device lacks a record. -/
def upLack (ds : List Dev) (g : Int → Option ByteArray) (x : Int) : Bool := ((chain ds x).tail.map Dev.index).any (lackB g)

set_option maxRecDepth 100000 in
set_option maxHeartbeats 1000000 in
theorem free_has (a : Option Addr) (cap : Nat) (ds : List Dev) (bt bf bk mk base : Nat) (g : Int → Option ByteArray) (N : Nat) (x : Int) (w : World) (hl : Tr w base a cap ds) (hn : ds.length ≤ 1000) (hbt : w.cell? ⟨bt, 0, none⟩ = some (.slice a ds.length cap)) (hbf : w.cell? ⟨bf, 0, none⟩ = some (.func (.func 61) #[] #[.pointer (some ⟨bk, 0, none⟩)])) (hb : w.cell? ⟨bk, 0, none⟩ = some (.map (some mk))) (hg : SMap w mk g N) (hx : (Lit.int .i64 x).wf = true) :
    Calls Tryz.prog 64 #[.int .i64 x, .pointer (some ⟨bt, 0, none⟩), .pointer (some ⟨bf, 0, none⟩)] w fun e w' => e = .returned (.bool (upLack ds g x)) ∧ Fr No w w' := by
  have hT := hl.wf.1
  go_enter Tryz.func64, Tryz.ntmps64
  go_wp2_with fail
  refine region_sig No [(0, false), (1, false), (3, false), (2, true), (4, true), (5, false)] (by kernel_rfl) (by kernel_rfl) (fun w0 hf0 => ?_)
  have g0 : ∀ g : Gr No w0, g.W.cell? ⟨bt, 0, none⟩ = some (.slice a ds.length cap) := fun g => g.fr.cell (hf0.cell hbt id) id
  have g1 : ∀ g : Gr No w0, g.W.cell? ⟨bf, 0, none⟩ = some (.func (.func 61) #[] #[.pointer (some ⟨bk, 0, none⟩)]) := fun g => g.fr.cell (hf0.cell hbf id) id
  repeat (apply sig_q; exact rfl; exact rfl; exact rfl; intro K hK; go_big_quiet_op; go_big_quiet_on)
  clear g0 g1
  apply sig_m
  exact rfl
  go_wp2_with fail
  refine (tree_ancestors a cap base ds x _ (hl.no hf0) hn hx).mono ?_
  rintro e w1 ⟨⟨a1, c1, L, rfl, hD, hLi, _⟩, hf1⟩
  have hf1w := hf0.step hf1 (fun _ _ h => h)
  have Hup : Hid (upLack ds g x = (L.map Dev.index).any (lackB g)) := by unfold Hid upLack; rw [hLi]
  have hLw : ∀ d ∈ L, (Lit.int .i64 d.index).wf = true := fun d hd => by
    have h1 : d.index ∈ (chain ds x).tail.map Dev.index := by rw [← hLi]; exact List.mem_map_of_mem hd
    obtain ⟨y, hy, e⟩ := List.mem_map.1 h1
    rw [← e]; exact hT.iwf (chain_mem (List.mem_of_mem_tail hy))
  clear hLi
  go_wp2_with fail
  refine OnlyN.mk ⟨hf1, ?_⟩
  clear hf1
  apply sig_m
  exact rfl
  go_wp2_with fail
  refine (lack_contains a1 c1 L bk mk g N _ hD (hf1w.cell hb id) (hg.fr hf1w id) hLw).mono ?_
  rintro e w2 ⟨rfl, hf2⟩
  have Hf := Lib.hid (hf1w.step hf2 (fun _ _ h => h))
  generalize (L.map Dev.index).any (lackB g) = bb at *
  go_wp2_with fail
  refine OnlyN.mk ⟨hf2, ?_⟩
  clear hf2
  repeat (apply sig_q; exact rfl; exact rfl; exact rfl; intro K hK; go_big_quiet_op; go_big_quiet_on)
  refine sig_end ?_
  go_wp2_with fail
  go_ret
  exact ⟨by rw [Hup.out]; rfl, Hf.out⟩
end Go.Proofs.YtanaompgapiikaaGreatDoor
