/- hasAll, tagged, Devices, Masters. -/
import Derived.Test.YtpnpjaemlflplaaGreatDoorK5
namespace Go.Proofs.YtpnpjaemlflplaaGreatDoor
open Go.RowKit Go.Maps
set_option linter.unusedVariables false

theorem Atts.keep {X W : World} {a : Option Addr} {cap : Nat} {l : List (ByteArray × ByteArray)} {S : Nat → Prop} (h : Atts X a cap l) (hf : Fr S X W) (hS : ∀ b, b < X.heap.size → ¬ S b) : Atts W a cap l :=
  h.fr hf (fun ad e hne => hS _ (h.cell ad e hne).2.1)
theorem Strs.keep {X W : World} {a : Option Addr} {cap : Nat} {l : List ByteArray} {S : Nat → Prop} (h : Strs X a cap l) (hf : Fr S X W) (hS : ∀ b, b < X.heap.size → ¬ S b) : Strs W a cap l :=
  h.fr hf (fun ad e hne => hS _ (h.cell ad e hne).2.1)
theorem Recs.keep {X W : World} {a : Option Addr} {cap : Nat} {l : List Rec} {S : Nat → Prop} (h : Recs X a cap l) (hf : Fr S X W) (hS : ∀ b, b < X.heap.size → ¬ S b) : Recs W a cap l :=
  ⟨h.len, h.max, h.isNil, fun r hr => ⟨(h.ok r hr).props.keep hf hS, (h.ok r hr).tags.keep hf hS⟩, fun ad e hne => by
    obtain ⟨h1, h2, h3⟩ := h.cell ad e hne
    exact ⟨h1, Nat.lt_of_lt_of_le h2 hf.size, fun i r hi j hj => hf.cell (h3 i r hi j hj) (hS _ h2)⟩⟩

/-- A text is in a list. -/
def hasS (l : List ByteArray) (s : ByteArray) : Bool := l.any fun x => x.toList == s.toList
def IdxS (l : List ByteArray) (s : ByteArray) (e : Ending) : Prop := ∃ i : Int, e = .returned (.int .i64 i) ∧ decide (0 ≤ i) = hasS l s

theorem hasS_at {l : List ByteArray} {s : ByteArray} {k : Nat} {x : ByteArray} (h : l[k]? = some x) (h2 : (x.toList == s.toList) = true) : hasS l s = true := by
  unfold hasS; rw [List.any_eq_true]; exact ⟨x, List.mem_of_getElem? h, h2⟩
theorem hasS_no {l : List ByteArray} {s : ByteArray} (h : ∀ x ∈ l, (x.toList == s.toList) = false) : hasS l s = false := by
  unfold hasS; rw [List.any_eq_false]; intro x hx; simp [h x hx]

set_option maxHeartbeats 1000000 in
theorem strs_index (a : Option Addr) (cap : Nat) (l : List ByteArray) (s : ByteArray) (w : World) (hl : Strs w a cap l) :
    Calls Tryz.prog 138 #[.slice a l.length cap, .string s] w fun e w' => IdxS l s e ∧ Fr No w w' := by
  have hm := hl.lenmax
  go_enter Tryz.func138, Tryz.ntmps138
  go_wp2_with fail
  go_loop [8] (fun i => ∃ k : Nat, k ≤ l.length ∧ i = .int .i64 k ∧ Hid (∀ x ∈ l.take k, (x.toList == s.toList) = false)) (fun i => l.length - (intOf i).toNat)
  case atStart => exact ⟨0, by omega, rfl, by unfold Hid; simp⟩
  case round =>
    obtain ⟨k, hk, rfl, hno⟩ := hrel
    by_cases hlt : k < l.length
    · have hlt' : (k : Int) < l.length := by omega
      obtain ⟨b, off, x, rfl, hx, hc⟩ := hl.at hlt
      have Hx := Lib.hid hx
      clear hx
      rcases he : (s.toList == x.toList) with _ | _
      · have he' : (x.toList == s.toList) = false := by rw [Bool.beq_comm]; exact he
        have He' := Lib.hid he'
        clear he'
        go_wp2_with fail
        go_round
        case rel =>
          refine ⟨k + 1, by omega, by go_num, ?_⟩
          unfold Hid
          intro y hy
          rw [List.take_add_one, Hx.out] at hy
          rcases List.mem_append.1 hy with h | h
          · exact hno.out y h
          · simp at h; subst h; exact He'.out
        case measure => simp [intOf]; omega
      · have Hg : Hid (hasS l s = true) := hasS_at Hx.out (by rw [Bool.beq_comm]; exact he)
        go_wp2_with fail
        go_ret
        exact ⟨⟨k, rfl, by rw [Hg.out]; simp⟩, Fr.refl _ _⟩
    · obtain rfl : k = l.length := by omega
      have h := hno.out
      rw [List.take_of_length_le (by omega)] at h
      have Hg : Hid (hasS l s = false) := hasS_no h
      go_wp2_with fail
      go_ret
      exact ⟨⟨-1, rfl, by rw [Hg.out]; rfl⟩, Fr.refl _ _⟩

set_option maxHeartbeats 1000000 in
theorem strs_contains (a : Option Addr) (cap : Nat) (l : List ByteArray) (s : ByteArray) (w : World) (hl : Strs w a cap l) :
    Calls Tryz.prog 108 #[.slice a l.length cap, .string s] w fun e w' => e = .returned (.bool (hasS l s)) ∧ Fr No w w' := by
  go_enter Tryz.func108, Tryz.ntmps108
  go_wp2_with fail
  refine (strs_index a cap l s _ hl).mono ?_
  rintro e w1 ⟨⟨i, rfl, hi⟩, hf1⟩
  have Hi := Lib.hid hi
  clear hi
  go_wp2_with fail
  go_ret
  exact ⟨ret_bool Hi.out, hf1⟩

set_option maxHeartbeats 1000000 in
theorem ref_in32 (a : Option Addr) (cap : Nat) (l : List ByteArray) (s : ByteArray) (w : World) (hl : Strs w a cap l) :
    Calls Tryz.prog 30 #[.slice a l.length cap, .string s] w fun e w' => e = .returned (.bool (hasS l s)) ∧ Fr No w w' := by
  have hm := hl.lenmax
  go_enter Tryz.func30, Tryz.ntmps30
  go_wp2_with fail
  go_loop [5] (fun i => ∃ k : Nat, k ≤ l.length ∧ i = .int .i64 k ∧ Hid (∀ x ∈ l.take k, (x.toList == s.toList) = false)) (fun i => l.length - (intOf i).toNat)
  case atStart => exact ⟨0, by omega, rfl, by unfold Hid; simp⟩
  case round =>
    obtain ⟨k, hk, rfl, hno⟩ := hrel
    by_cases hlt : k < l.length
    · have hlt' : (k : Int) < l.length := by omega
      obtain ⟨b, off, x, rfl, hx, hc⟩ := hl.at hlt
      have Hx := Lib.hid hx
      clear hx
      rcases he : (x.toList == s.toList) with _ | _
      · go_wp2_with fail
        go_round
        case rel =>
          refine ⟨k + 1, by omega, by go_num, ?_⟩
          unfold Hid
          intro y hy
          rw [List.take_add_one, Hx.out] at hy
          rcases List.mem_append.1 hy with h | h
          · exact hno.out y h
          · simp at h; subst h; exact he
        case measure => simp [intOf]; omega
      · have Hg : Hid (hasS l s = true) := hasS_at Hx.out he
        go_wp2_with fail
        go_ret
        exact ⟨ret_bool Hg.out.symm, Fr.refl _ _⟩
    · obtain rfl : k = l.length := by omega
      have h := hno.out
      rw [List.take_of_length_le (by omega)] at h
      have Hg : Hid (hasS l s = false) := hasS_no h
      go_wp2_with fail
      go_ret
      exact ⟨ret_bool Hg.out.symm, Fr.refl _ _⟩

theorem all_pre {α : Type} (p : α → Bool) (l : List α) (h : ∀ x ∈ l, p x = true) : l.all p = true := by rw [List.all_eq_true]; exact h
theorem all_bad {α : Type} (p : α → Bool) {l : List α} {k : Nat} {x : α} (h : l[k]? = some x) (h2 : p x = false) : l.all p = false := by
  rw [List.all_eq_false]; exact ⟨x, List.mem_of_getElem? h, by simp [h2]⟩

set_option maxHeartbeats 1000000 in
theorem has_all (a va : Option Addr) (cap vc : Nat) (l vs : List ByteArray) (w : World) (hl : Strs w a cap l) (hv : Strs w va vc vs) :
    Calls Tryz.prog 63 #[.slice a l.length cap, .slice va vs.length vc] w fun e w' => e = .returned (.bool (vs.all (hasS l))) ∧ Fr No w w' := by
  have hm := hv.lenmax
  go_enter Tryz.func63, Tryz.ntmps63
  go_wp2_with fail
  go_loopw [9] (fun i wr => ∃ k : Nat, k ≤ vs.length ∧ i = .int .i64 k ∧ Hid (∀ x ∈ vs.take k, hasS l x = true) ∧ Fr No w wr) (fun i _ => vs.length - (intOf i).toNat)
  case atStart => exact ⟨0, by omega, rfl, by unfold Hid; simp, Fr.refl _ _⟩
  case round =>
    obtain ⟨k, hk, rfl, hno, hfr⟩ := hrel
    by_cases hlt : k < vs.length
    · have hlt' : (k : Int) < vs.length := by omega
      obtain ⟨b, off, x, rfl, hx, hc⟩ := (hv.no hfr (fun _ => id)).at hlt
      have Hx := Lib.hid hx
      clear hx
      go_wp2_with fail
      refine (strs_contains a cap l x _ (hl.no hfr (fun _ => id))).mono ?_
      rintro e w1 ⟨rfl, hf1⟩
      have Hf1 := Lib.hid (hfr.step hf1 (fun _ _ h => h))
      clear hc
      rcases he : hasS l x with _ | _
      · have Hg : Hid (vs.all (hasS l) = false) := all_bad _ Hx.out he
        clear he
        go_wp2_with fail
        go_ret
        exact ⟨ret_bool Hg.out.symm, Hf1.out⟩
      · have He := Lib.hid he
        clear he
        go_wp2_with fail
        go_roundw
        case rel =>
          refine ⟨k + 1, by omega, by go_num, ?_, Hf1.out⟩
          unfold Hid
          intro y hy
          rw [List.take_add_one, Hx.out] at hy
          rcases List.mem_append.1 hy with h | h
          · exact hno.out y h
          · simp at h; subst h; exact He.out
        case measure => simp [intOf]; omega
    · obtain rfl : k = vs.length := by omega
      have h := hno.out
      rw [List.take_of_length_le (by omega)] at h
      have Hg : Hid (vs.all (hasS l) = true) := all_pre _ _ h
      clear h hno
      go_wp2_with fail
      go_ret
      exact ⟨ret_bool Hg.out.symm, hfr⟩

/-- The device has a record with all of some tags. -/
def tagOk (ds : List Dev) (l : List Rec) (vs : List ByteArray) (n : Int) : Bool := (recOf ds l n).isSome && vs.all (hasS ((recOf ds l n).getD Rec.zero).tags)
def inSeat (ds : List Dev) (l : List Rec) (seat : ByteArray) (vs : List ByteArray) (n : Int) : Bool := tagOk ds l vs n && ((seatOf ds l n).toList == seat.toList)
/-- The devices of a seat whose records have tags. -/
def taggedL (ds : List Dev) (l : List Rec) (seat : ByteArray) (vs : List ByteArray) (q : List Dev) : List Int := (q.map Dev.index).filter (inSeat ds l seat vs)
theorem taggedL_snoc (ds : List Dev) (l : List Rec) (seat : ByteArray) (vs : List ByteArray) (q : List Dev) (x : Dev) : taggedL ds l seat vs (q ++ [x]) = taggedL ds l seat vs q ++ (if inSeat ds l seat vs x.index then [x.index] else []) := by
  unfold taggedL
  rw [List.map_append, List.filter_append]
  congr 1
  by_cases h : inSeat ds l seat vs x.index <;> simp [h]
theorem taggedL_len (ds : List Dev) (l : List Rec) (seat : ByteArray) (vs : List ByteArray) (q : List Dev) : (taggedL ds l seat vs q).length ≤ q.length := by
  unfold taggedL
  have := List.length_filter_le (inSeat ds l seat vs) (q.map Dev.index)
  simpa using this
theorem infoI : (Tryz.prog.info? 3).map (fun i => (i.zero, i.size, i.bytes)) = some (some (.int .i64 0), 1, 8) := by kernel_rfl
theorem ints_one (l : List Int) : ∀ u ∈ l.map (Value.int .i64), u.oneCell' = true := by
  intro u hu
  obtain ⟨x, _, rfl⟩ := List.mem_map.1 hu
  rfl

set_option maxRecDepth 100000 in
set_option maxHeartbeats 2000000 in
theorem seat_tagged (a ra va : Option Addr) (cap rcap vc base : Nat) (ds : List Dev) (l : List Rec) (seat : ByteArray) (vs : List ByteArray) (w : World) (hl : Tr w base a cap ds) (hn : ds.length ≤ 1000) (hr : Recs w ra rcap l) (hv : Strs w va vc vs) :
    Calls Tryz.prog 62 #[.agg #[.slice a ds.length cap], .slice ra l.length rcap, .string seat, .slice va vs.length vc] w fun e w' =>
      (∃ a' c', e = .returned (.slice a' (taggedL ds l seat vs ds).length c') ∧ Ints w' a' c' (taggedL ds l seat vs ds) ∧ ∀ ad, a' = some ad → w.heap.size ≤ ad.block) ∧ Fr No w w' := by
  obtain ⟨i0, hi0, hz0, hz1, hz2⟩ := info_parts infoI
  have hT := hl.wf.1
  have hm := hl.dv.lenmax
  have h0 : Fr No w (w.alloc (.cells #[.slice a ds.length cap] 25)) := (Fr.refl _ _).alloc _
  have q4 := block_alloc w (.cells #[.slice a ds.length cap] 25)
  have hs0 : w.heap.size < (w.alloc (.cells #[.slice a ds.length cap] 25)).heap.size := by simp
  go_enter Tryz.func62, Tryz.ntmps62
  go_wp2_with fail
  generalize w.alloc (.cells #[.slice a ds.length cap] 25) = W0 at *
  go_loopw [9, 17] (fun v i wr => ∃ (k : Nat) (av : Option Addr) (cv : Nat), k ≤ ds.length ∧ v = .slice av (taggedL ds l seat vs (ds.take k)).length cv ∧ i = .int .i64 (k : Int) ∧ wr.ownsRow W0.heap.size 3 1 (.slice av (taggedL ds l seat vs (ds.take k)).length cv) (taggedL ds l seat vs (ds.take k)).length ((taggedL ds l seat vs (ds.take k)).map (Value.int .i64)) ∧ Fr (From W0.heap.size) W0 wr) (fun _ i _ => ds.length - (intOf i).toNat)
  case atStart => exact ⟨0, none, 0, by omega, rfl, rfl, World.ownsRow_nil _ _ _ _, Fr.refl _ _⟩
  case round =>
    obtain ⟨k, av, cv, hk, rfl, rfl, hown, hfr⟩ := hrel
    have hwr : Fr (From W0.heap.size) w wr := (h0.mono (fun _ _ h => h.elim)).step hfr (fun _ _ h => h)
    have hnl : ∀ b, b < w.heap.size → ¬ From W0.heap.size b := fun b h1 h2 => by unfold From at h2; omega
    have hlr := hl.keep hwr (fun b h1 _ => hnl b h1)
    have hrr := hr.keep hwr hnl
    have hvr := hv.keep hwr hnl
    have b4 := hfr.heap q4 (fun h => by unfold From at h; omega)
    by_cases hlt : k < ds.length
    · have hlt' : (k : Int) < ds.length := by omega
      obtain ⟨bb, off, x, rfl, hxk, y0, y1, y2, y3, y4, y5, y6, y7, y8, y9⟩ := hlr.dv.dev hlt
      have hxw := hT.iwf (List.mem_of_getElem? hxk)
      have Htk : Hid (ds.take (k + 1) = ds.take k ++ [x]) := by unfold Hid; rw [List.take_add_one, hxk]; rfl
      have hxx : Fr No wr (wr.alloc (.cells x.vals 32)) := (Fr.refl _ _).alloc _
      have Hxx := Lib.hid hxx
      have c4 : ∀ o, (wr.alloc o).cell? ⟨w.heap.size, 0, none⟩ = some (.slice (some ⟨bb, off, none⟩) ds.length cap) := fun o => ((Fr.refl No wr).alloc o).cell (cell_of_block b4 0) id
      clear hxk hxx
      go_wp2_with fail
      refine (seat_find _ ra cap rcap ds l x.index _ (hlr.no Hxx.out).dv hT hn hxw (hrr.no Hxx.out (fun _ => id))).mono ?_
      rintro e w3 ⟨hF, hf3⟩
      obtain rfl := hF.eq
      have hok := recOf_ok ((hrr.no Hxx.out (fun _ => id)).no hf3 (fun _ => id)) ds x.index
      have hto : tagOk ds l vs x.index = ((recOf ds l x.index).isSome && vs.all (hasS ((recOf ds l x.index).getD Rec.zero).tags)) := rfl
      have Hto := Lib.hid hto
      clear hto hF
      generalize (recOf ds l x.index).isSome = bs at *
      generalize (recOf ds l x.index).getD Rec.zero = r at *
      have hyy : Fr No w3 (w3.alloc (.cells r.vals 42)) := (Fr.refl _ _).alloc _
      have Hok := Lib.hid (hok.no hyy (fun _ => id))
      have Hf3 := Lib.hid ((Hxx.out.step hf3 (fun _ _ h => h)).step hyy (fun _ _ h => h))
      have b43 := hf3.heap (Hxx.out.heap b4 id) id
      have e4 : ∀ o, (w3.alloc o).cell? ⟨w.heap.size, 0, none⟩ = some (.slice (some ⟨bb, off, none⟩) ds.length cap) := fun o => ((Fr.refl No w3).alloc o).cell (cell_of_block b43 0) id
      have xd := hf3.heap (block_alloc wr (.cells x.vals 32)) id
      have e0 : ∀ o, (w3.alloc o).cell? ⟨wr.heap.size, 0, none⟩ = some (.int .i64 x.index) := fun o => ((Fr.refl No w3).alloc o).cell (cell_of_block xd 0) id
      have Hlr := Lib.hid hlr
      have Hrr := Lib.hid hrr
      have Hvr := Lib.hid hvr
      have Hb4 := Lib.hid b4
      clear hok hyy hf3 y0 y1 y2 y3 y4 y5 y6 y7 y8 y9 c4 b43 hlr hrr hvr hwr hnl b4
      unfold Rec.vals
      cases bs with
      | false =>
        have Hn : Hid (taggedL ds l seat vs (ds.take (k + 1)) = taggedL ds l seat vs (ds.take k)) := by
          unfold Hid
          rw [Htk.out, taggedL_snoc, if_neg (by unfold inSeat; rw [Hto.out]; simp ), List.append_nil]
        have Hown := Lib.hid (ownsRow_fr hown Hf3.out (fun _ _ => id))
        have Hfin := Lib.hid (hfr.step Hf3.out (fun _ _ h => h.elim))
        clear hown hfr e4 e0 xd
        go_wp2_with fail
        go_roundw
        case rel => exact ⟨k + 1, av, cv, by omega, by rw [Hn.out], by go_num, by rw [Hn.out]; exact Hown.out, Hfin.out⟩
        case measure => simp [intOf]; omega
      | true =>
        go_wp2_with fail
        refine (has_all _ va _ vc r.tags vs _ Hok.out.tags (Hvr.out.no Hf3.out (fun _ => id))).mono ?_
        rintro e w4 ⟨rfl, hf4⟩
        generalize vs.all (hasS r.tags) = b1 at *
        have Hf4 := Lib.hid (Hf3.out.step hf4 (fun _ _ h => h))
        have d4 : w4.cell? ⟨w.heap.size, 0, none⟩ = some (.slice (some ⟨bb, off, none⟩) ds.length cap) := cell_of_block (Hf4.out.heap Hb4.out id) 0
        have hd4 := hf4.heap (((Fr.refl No w3).alloc (.cells r.vals 42)).heap xd id) id
        have d0 : w4.cell? ⟨wr.heap.size, 0, none⟩ = some (.int .i64 x.index) := cell_of_block hd4 0
        clear hf4 e4 e0 xd
        cases b1 with
        | false =>
          have Hn : Hid (taggedL ds l seat vs (ds.take (k + 1)) = taggedL ds l seat vs (ds.take k)) := by
            unfold Hid
            rw [Htk.out, taggedL_snoc, if_neg (by unfold inSeat; rw [Hto.out]; simp ), List.append_nil]
          have Hown := Lib.hid (ownsRow_fr hown Hf4.out (fun _ _ => id))
          have Hfin := Lib.hid (hfr.step Hf4.out (fun _ _ h => h.elim))
          clear hown hfr d4 d0 hd4
          go_wp2_with fail
          go_roundw
          case rel => exact ⟨k + 1, av, cv, by omega, by rw [Hn.out], by go_num, by rw [Hn.out]; exact Hown.out, Hfin.out⟩
          case measure => simp [intOf]; omega
        | true =>
          go_wp2_with fail
          refine (seat_of _ ra cap rcap base ds l x.index _ (Hlr.out.no Hf4.out) hn hxw (Hrr.out.no Hf4.out (fun _ => id))).mono ?_
          rintro e w5 ⟨rfl, hf5⟩
          have hin : inSeat ds l seat vs x.index = ((seatOf ds l x.index).toList == seat.toList) := by unfold inSeat; rw [Hto.out]; rfl
          have Hin := Lib.hid hin
          clear hin
          generalize seatOf ds l x.index = s at *
          have Hf5 := Lib.hid (Hf4.out.step hf5 (fun _ _ h => h))
          have d5 : w5.cell? ⟨wr.heap.size, 0, none⟩ = some (.int .i64 x.index) := cell_of_block (hf5.heap hd4 id) 0
          clear hf5 d4 d0 hd4
          rcases hs : (s.toList == seat.toList) with _ | _
          · have Hs := Lib.hid hs
            have Hn : Hid (taggedL ds l seat vs (ds.take (k + 1)) = taggedL ds l seat vs (ds.take k)) := by
              unfold Hid
              rw [Htk.out, taggedL_snoc, if_neg (by rw [Hin.out, Hs.out]; simp), List.append_nil]
            have Hown := Lib.hid (ownsRow_fr hown Hf5.out (fun _ _ => id))
            have Hfin := Lib.hid (hfr.step Hf5.out (fun _ _ h => h.elim))
            clear hown hfr d5
            go_wp2_with fail
            go_roundw
            case rel => exact ⟨k + 1, av, cv, by omega, by rw [Hn.out], by go_num, by rw [Hn.out]; exact Hown.out, Hfin.out⟩
            case measure => simp [intOf]; omega
          · have Hn : Hid (taggedL ds l seat vs (ds.take (k + 1)) = taggedL ds l seat vs (ds.take k) ++ [x.index]) := by
              unfold Hid
              rw [Htk.out, taggedL_snoc, if_pos (by rw [Hin.out, hs])]
            have hown5 := ownsRow_fr hown Hf5.out (fun _ _ => id)
            have hsz5 := Hf5.out.size
            have hszr := hfr.size
            have htl : (taggedL ds l seat vs (ds.take k)).length ≤ 1000 := by
              have h1 := taggedL_len ds l seat vs (ds.take k)
              rw [List.length_take] at h1
              omega
            have Hfr5 := Lib.hid (hfr.step Hf5.out (fun _ _ h => h.elim))
            clear hown hfr
            go_wp2_with (at_builtin; refine wpList_append_own _ rfl _ _ 22 rfl W0.heap.size 3 i0 (.int .i64 0) 1 8 Tryz.underlying22 hi0 hz0 hz1 hz2 rfl (by decide) _ _ _ rfl (hown5.alloc _) ⟨w5.heap.size, 0, none⟩ 1 1 [.int .i64 x.index] rfl rfl (cell_one_new _ _ _) (ints_one [x.index]) (by unfold maxLen; omega) (by omega) (by simp; omega) ?_; intro v' w6 hown6 hgrow6 _; obtain ⟨av', cv', rfl⟩ := ownsRow_slice hown6)
            have hg6 : Fr (From W0.heap.size) w5 w6 := grown_fr hown5 hgrow6
            have Hg6 := Lib.hid (Hfr5.out.step hg6 (fun _ _ h => h))
            have Hown6 := Lib.hid hown6
            have hll : (taggedL ds l seat vs (ds.take (k + 1))).length = (taggedL ds l seat vs (ds.take k)).length + 1 := by rw [Hn.out]; simp
            have Hll := Lib.hid hll
            clear hg6 hown6 hgrow6 hown5 hll
            go_roundw
            case rel => exact ⟨k + 1, av', cv', by omega, by rw [Hll.out], by go_num, by rw [Hll.out, Hn.out, List.map_append]; exact Hown6.out, Hg6.out⟩
            case measure => simp [intOf]; omega
    · obtain rfl : k = ds.length := by omega
      rw [List.take_length] at hown ⊢
      obtain ⟨a', c', hv', hI, hfresh⟩ := Ints.of_own hown (fun y hy => by
        obtain ⟨z, hz, e⟩ := List.mem_map.1 (List.mem_filter.1 hy).1
        rw [← e]; exact hT.iwf hz)
      cases hv'
      have Hres := Lib.hid (And.intro hI hfresh)
      have Hfin := Lib.hid (h0.step hfr (fun b hb h => by unfold From at h; omega))
      clear hown hfr hI hfresh
      go_wp2_with fail
      go_ret
      exact ⟨⟨_, _, rfl, Hres.out.1, fun ad e => by have := Hres.out.2 ad e; omega⟩, Hfin.out⟩
end Go.Proofs.YtpnpjaemlflplaaGreatDoor
