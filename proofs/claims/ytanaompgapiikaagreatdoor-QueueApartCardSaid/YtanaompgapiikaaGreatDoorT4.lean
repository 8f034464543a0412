/- Check of a device. -/
import Derived.Test.YtanaompgapiikaaGreatDoorT3
import Derived.Deep.DeepCutAuto
namespace Go.Proofs.YtanaompgapiikaaGreatDoor
open Go.RowKit
set_option linter.unusedVariables false

/-- What Check's 0 says (as far as it is used). -/
structure Okay (d : Dev) : Prop where
  lo : 1 ≤ d.index
  hi : d.index ≤ 1073741824
  plo : 0 ≤ d.parent
  ne : d.parent ≠ d.index
  orig : OkN d.orig
/-- An error number is returned; 0 only for what is okay. -/
def RetE (p : Prop) (e : Ending) : Prop := ∃ er, e = .returned (.int .i64 er) ∧ (er = 0 → p)
theorem RetE.no {p : Prop} {er : Int} (h : er ≠ 0) : RetE p (.returned (.int .i64 er)) := ⟨er, rfl, fun e => absurd e h⟩
/-- The texts of a device are no longer than any text. -/
structure Sized (d : Dev) : Prop where
  name : d.name.size ≤ maxLen
  orig : d.orig.size ≤ maxLen
  sub : d.sub.size ≤ maxLen
  drv : d.drv.size ≤ maxLen
  ali : d.ali.size ≤ maxLen

set_option maxRecDepth 100000 in
set_option maxHeartbeats 8000000 in
theorem t_check (d : Dev) (l : List (ByteArray × ByteArray)) (m : Int) (w : World) (hs : Sized d) (hl : Atts w d.aa d.ac l) (han : d.an = l.length) (hd : d.drv = ⟨#[]⟩) (hm : w.cell? ⟨0, 0, none⟩ = some (.int .i64 m)) (h0 : 0 < w.heap.size) :
    Calls Tryz.prog 102 #[.agg d.vals] w fun e w' => RetE (Okay d) e ∧ Fr No w w' := by
  obtain ⟨ix, pa, nm, og, sb, dr, al, kd, nu, aa, an, ac⟩ := d
  dsimp only at han hd hl
  subst han hd
  generalize hdd : (⟨ix, pa, nm, og, sb, ⟨#[]⟩, al, kd, nu, aa, l.length, ac⟩ : Dev) = d at hs ⊢
  have hd0 : d.vals = #[.int .i64 ix, .int .i64 pa, .string nm, .string og, .string sb, .string ⟨#[]⟩, .string al, .int .i64 kd, .int .i64 nu, .slice aa l.length ac] := by rw [← hdd]; rfl
  have hok : (1 ≤ ix ∧ ix ≤ 1073741824 ∧ 0 ≤ pa ∧ pa ≠ ix) → OkN og → Okay d := fun h1 h2 => by rw [← hdd]; exact ⟨h1.1, h1.2.1, h1.2.2.1, h1.2.2.2, h2⟩
  have hvn : #[Value.agg d.vals] = #[.agg #[.int .i64 ix, .int .i64 pa, .string nm, .string og, .string sb, .string ⟨#[]⟩, .string al, .int .i64 kd, .int .i64 nu, .slice aa l.length ac]] := by rw [hd0]
  have hnode : ∀ W : World, OkN og → W.cell? ⟨0, 0, none⟩ = some (.int .i64 m) → 0 < W.heap.size → Calls Tryz.prog 150 #[.agg #[.int .i64 ix, .int .i64 pa, .string nm, .string og, .string sb, .string ⟨#[]⟩, .string al, .int .i64 kd, .int .i64 nu, .slice aa l.length ac]] W fun e w' => (∃ s, s.size ≤ 3000000 ∧ e = .returned (.tuple #[.string s, .bool (decide (kd = 2) || decide (kd = 3))])) ∧ Fr No W w' := fun W h1 h2 h3 => by
    have := t_node ⟨ix, pa, nm, og, sb, ⟨#[]⟩, al, kd, nu, aa, l.length, ac⟩ m W (by show og.size ≤ _; have := h1.1; omega) h2 h3
    exact this
  have Hok := Lib.hid hok
  have Hnode := Lib.hid hnode
  have Hs : Hid (nm.size ≤ maxLen ∧ og.size ≤ maxLen ∧ sb.size ≤ maxLen ∧ al.size ≤ maxLen) := by rw [← hdd] at hs; exact ⟨hs.name, hs.orig, hs.sub, hs.ali⟩
  rw [hvn]
  clear hok hnode hd0 hvn hdd hs
  have hx : Fr No w (w.alloc (.cells #[.int .i64 ix, .int .i64 pa, .string nm, .string og, .string sb, .string ⟨#[]⟩, .string al, .int .i64 kd, .int .i64 nu, .slice aa l.length ac] 36)) := (Fr.refl _ _).alloc _
  have hbx := block_alloc w (.cells #[.int .i64 ix, .int .i64 pa, .string nm, .string og, .string sb, .string ⟨#[]⟩, .string al, .int .i64 kd, .int .i64 nu, .slice aa l.length ac] 36)
  have hmx := hx.cell hm id
  have hlx := hl.no hx (fun _ => id)
  have h0x : 0 < (w.alloc (.cells #[.int .i64 ix, .int .i64 pa, .string nm, .string og, .string sb, .string ⟨#[]⟩, .string al, .int .i64 kd, .int .i64 nu, .slice aa l.length ac] 36)).heap.size := by simp
  have hlm := hl.lenmax
  clear hm hl
  go_enter Tryz.func102, Tryz.ntmps102
  go_upto_region 1 with (fail)
  generalize w.alloc (.cells #[.int .i64 ix, .int .i64 pa, .string nm, .string og, .string sb, .string ⟨#[]⟩, .string al, .int .i64 kd, .int .i64 nu, .slice aa l.length ac] 36) = W0 at *
  have c1 : W0.cell? ⟨w.heap.size, 1, none⟩ = some (.int .i64 pa) := cell_of_block hbx 1
  have c2 : W0.cell? ⟨w.heap.size, 2, none⟩ = some (.string nm) := cell_of_block hbx 2
  have c3 : W0.cell? ⟨w.heap.size, 3, none⟩ = some (.string og) := cell_of_block hbx 3
  have c4 : W0.cell? ⟨w.heap.size, 4, none⟩ = some (.string sb) := cell_of_block hbx 4
  have c5 : W0.cell? ⟨w.heap.size, 5, none⟩ = some (.string ⟨#[]⟩) := cell_of_block hbx 5
  have c6 : W0.cell? ⟨w.heap.size, 6, none⟩ = some (.string al) := cell_of_block hbx 6
  have c7 : W0.cell? ⟨w.heap.size, 7, none⟩ = some (.int .i64 kd) := cell_of_block hbx 7
  have c8 : W0.cell? ⟨w.heap.size, 8, none⟩ = some (.int .i64 nu) := cell_of_block hbx 8
  have c9 : W0.cell? ⟨w.heap.size, 9, none⟩ = some (.slice aa l.length ac) := cell_of_block hbx 9
  have c0 : W0.cell? ⟨w.heap.size, 0, none⟩ = some (.int .i64 ix) := cell_of_block hbx 0
  go_cut [30] (fun v wx => (∃ b, v = .bool b ∧ (b = false → 1 ≤ ix ∧ ix ≤ 1073741824 ∧ 0 ≤ pa ∧ pa ≠ ix)) ∧ W0 = wx)
  case first =>
    go_wp2_with fail
    all_goals
      go_meet
      exact ⟨⟨_, rfl, fun h => ⟨by first | omega | simp_all, by first | omega | simp_all, by first | omega | simp_all, by simp_all⟩⟩, rfl⟩
  case rest =>
    obtain ⟨⟨b, rfl, hnum⟩, rfl⟩ := hcut
    have Hnum0 := Lib.hid hnum
    clear hnum
    cases b
    case true =>
      go_wp2_with fail
      go_ret
      exact ⟨RetE.no (by decide), hx⟩
    have Hnum : Hid (1 ≤ ix ∧ ix ≤ 1073741824 ∧ 0 ≤ pa ∧ pa ≠ ix) := Hnum0.out rfl
    clear Hnum0
    go_wp2_with fail
    refine (t_valid nm _ Hs.out.1).mono ?_
    rintro e w1 ⟨⟨b, rfl, -⟩, rfl⟩
    cases b
    · go_wp2_with fail
      go_ret
      exact ⟨RetE.no (by decide), hx⟩
    go_wp2_with fail
    refine (t_valid og _ Hs.out.2.1).mono ?_
    rintro e w1 ⟨⟨b, rfl, ho⟩, rfl⟩
    have Ho := Lib.hid ho
    clear ho
    cases b
    · go_wp2_with fail
      go_ret
      exact ⟨RetE.no (by decide), hx⟩
    have Horig : Hid (OkN og) := Ho.out rfl
    clear Ho
    go_wp2_with fail
    refine (t_valid sb _ Hs.out.2.2.1).mono ?_
    rintro e w1 ⟨⟨b, rfl, -⟩, rfl⟩
    cases b
    · go_wp2_with fail
      go_ret
      exact ⟨RetE.no (by decide), hx⟩
    go_wp2_with fail
    refine (t_text al _ Hs.out.2.2.2).mono ?_
    rintro e w1 ⟨⟨b, rfl⟩, rfl⟩
    cases b
    · go_wp2_with fail
      go_ret
      exact ⟨RetE.no (by decide), hx⟩
    go_upto_region 5 with (fail)
    go_cut [71] (fun v wx => (∃ b, v = .bool b) ∧ W0 = wx)
    case first =>
      go_wp2_with fail
      all_goals
        go_meet
        exact ⟨⟨_, rfl⟩, rfl⟩
    case rest =>
      obtain ⟨⟨b, rfl⟩, rfl⟩ := hcut
      cases b
      case true =>
        go_wp2_with fail
        go_ret
        exact ⟨RetE.no (by decide), hx⟩
      go_upto_region 7 with (fail)
      go_cut [98] (fun v wx => (∃ b, v = .bool b) ∧ W0 = wx)
      case first =>
        by_cases kn : kd = 4
        · subst kn
          go_wp2_with fail
          refine (t_interface nm _ Hs.out.1).mono ?_
          rintro e w1 ⟨⟨b, rfl⟩, rfl⟩
          cases b
          · go_wp2_with fail
            go_meet
            exact ⟨⟨_, rfl⟩, rfl⟩
          · go_wp2_with fail
            refine (t_interface og _ Hs.out.2.1).mono ?_
            rintro e w1 ⟨⟨b, rfl⟩, rfl⟩
            cases b
            all_goals
              go_wp2_with fail
              go_meet
              exact ⟨⟨_, rfl⟩, rfl⟩
        · have kb : (kd == 4) = false := by simpa using kn
          have kb' : (kd != 4) = true := by simpa using kn
          go_wp2_with fail
          all_goals
            go_meet
            exact ⟨⟨_, rfl⟩, rfl⟩
      case rest =>
        obtain ⟨⟨b, rfl⟩, rfl⟩ := hcut
        cases b
        case true =>
          go_wp2_with fail
          go_ret
          exact ⟨RetE.no (by decide), hx⟩
        go_wp2_with fail
        refine (Hnode.out _ Horig.out hmx h0x).mono ?_
        rintro e w2 ⟨⟨node, hns, rfl⟩, hf2⟩
        generalize (decide (kd = 2) || decide (kd = 3)) = has
        have hx2 := hx.step hf2 (fun _ _ h => h)
        have hb2 := hf2.heap hbx id
        have hl2 := hlx.no hf2 (fun _ => id)
        have hm2 := hf2.cell hmx id
        have e8 : w2.cell? ⟨w.heap.size, 8, none⟩ = some (.int .i64 nu) := cell_of_block hb2 8
        have e9 : w2.cell? ⟨w.heap.size, 9, none⟩ = some (.slice aa l.length ac) := cell_of_block hb2 9
        clear c0 c1 c2 c3 c4 c5 c6 c7 c8 c9 hbx hlx hmx hx hf2 h0x
        go_upto_region 10 with (fail)
        go_cut [123] (fun v wx => (∃ b, v = .bool b) ∧ w2 = wx)
        case first =>
          cases has
          all_goals
            go_wp2_with fail
            all_goals
              go_meet
              exact ⟨⟨_, rfl⟩, rfl⟩
        case rest =>
          obtain ⟨⟨b, rfl⟩, rfl⟩ := hcut
          cases b
          case true =>
            go_wp2_with fail
            go_ret
            exact ⟨RetE.no (by decide), hx2⟩
          by_cases h24 : 24 < l.length
          · have h24' : (24 : Int) < l.length := by omega
            go_wp2_with fail
            go_ret
            exact ⟨RetE.no (by decide), hx2⟩
          have h24' : ¬ (24 : Int) < l.length := by omega
          go_wp2_with fail
          go_loop [5] (fun i => ∃ k : Nat, k ≤ l.length ∧ i = .int .i64 k) (fun i => l.length - (intOf i).toNat)
          case atStart => exact ⟨0, by omega, rfl⟩
          case round =>
            obtain ⟨k, hk, rfl⟩ := hrel
            by_cases hlt : k < l.length
            · obtain ⟨b, off, x, y, rfl, -, sx, sy, d0, d1⟩ := hl2.at hlt
              go_wp2_with fail
              refine (t_valid x _ sx).mono ?_
              rintro e w3 ⟨⟨b, rfl, -⟩, rfl⟩
              cases b
              · go_wp2_with fail
                go_ret
                exact ⟨RetE.no (by decide), hx2⟩
              go_wp2_with fail
              refine (t_text y _ sy).mono ?_
              rintro e w3 ⟨⟨b, rfl⟩, rfl⟩
              cases b
              · go_wp2_with fail
                go_ret
                exact ⟨RetE.no (by decide), hx2⟩
              go_wp2_with fail
              all_goals first
                | (go_ret; exact ⟨RetE.no (by decide), hx2⟩)
                | (go_round
                   case rel => exact ⟨k + 1, by omega, by go_num⟩
                   case measure => simp [intOf]; omega)
            · go_wp2_with fail
              refine (t_sorted aa ac l _ hl2).mono ?_
              rintro e w3 ⟨⟨b, rfl⟩, hf3⟩
              have hx3 := hx2.step hf3 (fun _ _ h => h)
              have hm3 := hf3.cell hm2 id
              cases b
              · go_wp2_with fail
                go_ret
                exact ⟨RetE.no (by decide), hx3⟩
              cases has
              · go_wp2_with fail
                go_ret
                exact ⟨⟨0, rfl, fun _ => Hok.out Hnum.out Horig.out⟩, hx3⟩
              · go_wp2_with fail
                refine (t_link node m _ hns hm3).mono ?_
                rintro e w4 ⟨⟨b, rfl⟩, hf4⟩
                have hx4 := hx3.step hf4 (fun _ _ h => h)
                cases b
                · go_wp2_with fail
                  go_ret
                  exact ⟨RetE.no (by decide), hx4⟩
                · go_wp2_with fail
                  go_ret
                  exact ⟨⟨0, rfl, fun _ => Hok.out Hnum.out Horig.out⟩, hx4⟩
end Go.Proofs.YtanaompgapiikaaGreatDoor
