/- coldplugref32.Build. array's good members. coldplugref32.Group. -/
import Derived.Test.YtbblkknndaoefaaGreatDoorZA11
import Derived.Test.YtbblkknndaoefaaGreatDoorZA12
import Derived.Test.YtbblkknndaoefaaGreatDoorZA6
namespace Go.Proofs.YtbblkknndaoefaaGreatDoor
open Go.RowKit Go.Maps
set_option linter.unusedVariables false

theorem block_alloc_old {w : World} {b : Nat} {o x : Obj} (h : w.heap[b]? = some x) : (w.alloc o).heap[b]? = some x := ((Fr.refl No w).alloc o).heap h id
/-- What Build answers. -/
def BuildR (w : World) (b : ByteArray × Int → Option Mem) (di : ByteArray) (e : Ending) (w' : World) : Prop :=
  ∃ A : ArrM, e = .returned (.agg A.vals) ∧ A.toArr = buildA b di ∧ Strs w' A.pa A.pc A.ps ∧ BlkT w' A.pa 9 ∧ (∀ ad, A.pa = some ad → w.heap.size ≤ ad.block) ∧ A.la = (firstOf b di).a ∧ A.lc = (firstOf b di).c

set_option maxRecDepth 100000 in
set_option maxHeartbeats 8000000 in
theorem ref_build (a : Option Addr) (cap : Nat) (G : List Mem) (di : ByteArray) (m0 : Int) (w : World) (hl : Mems w a cap G) (hb : MemSmall G) (ht : ∀ m ∈ G, 1 ≤ m.t ∧ m.t ≤ 16) (hm0 : w.cell? ⟨1, 0, none⟩ = some (.int .i64 m0)) (hw0 : 1 < w.heap.size) :
    Calls Tryz.prog 93 #[.slice a G.length cap, .string di] w fun e w' => BuildR w (best2 allG G) di e w' ∧ Fr No w w' := by
  obtain ⟨i0, hi0, hz0, hz1, hz2⟩ := info_parts infoS
  have hlm := hb.len
  have hx1 : Fr No w ((w.alloc (.cells #[.string ⟨#[]⟩, .slice none 0 0, .int .i64 0, .int .i64 0, .int .i64 0, .slice none 0 0] 42)).alloc (.cells #[.string di, .slice none 0 0, .int .i64 0, .int .i64 0, .int .i64 0, .slice none 0 0] 42)) := ((Fr.refl _ _).alloc _).alloc _
  have q4' := block_alloc1 w (.cells #[.string ⟨#[]⟩, .slice none 0 0, .int .i64 0, .int .i64 0, .int .i64 0, .slice none 0 0] 42) (.cells #[.string di, .slice none 0 0, .int .i64 0, .int .i64 0, .int .i64 0, .slice none 0 0] 42)
  have q5' := block_alloc2 w (.cells #[.string ⟨#[]⟩, .slice none 0 0, .int .i64 0, .int .i64 0, .int .i64 0, .slice none 0 0] 42) (.cells #[.string di, .slice none 0 0, .int .i64 0, .int .i64 0, .int .i64 0, .slice none 0 0] 42)
  have hs0 : ((w.alloc (.cells #[.string ⟨#[]⟩, .slice none 0 0, .int .i64 0, .int .i64 0, .int .i64 0, .slice none 0 0] 42)).alloc (.cells #[.string di, .slice none 0 0, .int .i64 0, .int .i64 0, .int .i64 0, .slice none 0 0] 42)).heap.size = w.heap.size + 2 := by simp
  have hx : Fr (From w.heap.size) w ((w.alloc (.cells #[.string ⟨#[]⟩, .slice none 0 0, .int .i64 0, .int .i64 0, .int .i64 0, .slice none 0 0] 42)).alloc (.cells #[.string di, .slice none 0 0, .int .i64 0, .int .i64 0, .int .i64 0, .slice none 0 0] 42)) := hx1.mono (fun _ _ h => h.elim)
  obtain ⟨W0, hW0⟩ : ∃ W0, W0 = (w.alloc (.cells #[.string ⟨#[]⟩, .slice none 0 0, .int .i64 0, .int .i64 0, .int .i64 0, .slice none 0 0] 42)).alloc (.cells #[.string di, .slice none 0 0, .int .i64 0, .int .i64 0, .int .i64 0, .slice none 0 0] 42) := ⟨_, rfl⟩
  rw [← hW0] at hx q4' q5' hs0
  have hlk : ∀ W : World, Fr (From w.heap.size) w W → Mems W a cap G := fun W hf => hl.keep hf (fun b hb h => by unfold From at h; omega)
  have hmk : ∀ W : World, Fr (From w.heap.size) w W → W.cell? ⟨1, 0, none⟩ = some (.int .i64 m0) := fun W hf => hf.cell hm0 (by intro h; unfold From at h; simp only at h; omega)
  have Hlk := Lib.hid hlk
  have Hmk := Lib.hid hmk
  have Hb := Lib.hid hb
  have Ht := Lib.hid ht
  have Hx := Lib.hid hx
  have Hq4 := Lib.hid q4'
  have Hq5 := Lib.hid q5'
  have hlmax := hl.lenmax
  have hs2 : w.heap.size + 2 ≤ W0.heap.size := by omega
  have hon : ∀ (s : Int) (W : World), Fr (From w.heap.size) w W → Calls Tryz.prog 127 #[.slice a G.length cap, .string di, .int .i64 s] W fun e w' => OwnerR (best2 allG G (di, s)) e ∧ Fr No W w' := fun s W hf => ref_owner a cap G di s m0 W (Hlk.out W hf) Hb.out (Hmk.out W hf) (by have := hf.size; omega)
  have Hon := Lib.hid hon
  have Hw0 := Lib.hid hw0
  obtain ⟨g, hg⟩ : ∃ g, g = best2 allG G := ⟨_, rfl⟩
  have hgm : ∀ s m, g (di, s) = some m → m ∈ G := fun s m h => (best2_mem G _ m (by rw [← hg]; exact h)).1
  have Hgm := Lib.hid hgm
  rw [← hg] at Hon ⊢
  have Hg := Lib.hid hg
  clear hb ht hx hl hm0 hs0 hlk hmk hx1 q4' q5' hon hgm hg hw0
  go_enter Tryz.func93, Tryz.ntmps93
  go_upto_region 2 with (fail)
  rw [← hW0]
  clear hW0
  go_wp2_with fail
  go_loopw [6] (fun i wr => ∃ n : Nat, n ≤ 16 ∧ i = .int .i64 (16 - (n : Int)) ∧ wr.heap[w.heap.size + 1]? = some (.cells #[.string di, .slice none 0 0, .int .i64 ((upM g di n).getD Mem.zero).t, .int .i64 ((upM g di n).getD Mem.zero).e, .int .i64 0, .slice ((upM g di n).getD Mem.zero).a ((upM g di n).getD Mem.zero).l.length ((upM g di n).getD Mem.zero).c] 42) ∧ wr.heap[w.heap.size]? = some (.cells #[.string ⟨#[]⟩, .slice none 0 0, .int .i64 0, .int .i64 0, .int .i64 0, .slice none 0 0] 42) ∧ Fr (From w.heap.size) w wr ∧ w.heap.size + 2 ≤ wr.heap.size) (fun i _ => (intOf i).toNat)
  case atStart => exact ⟨0, by omega, rfl, Hq5.out, Hq4.out, Hx.out, hs2⟩
  case round =>
    obtain ⟨n, hn, rfl, hq5, hq4, hf, hsr⟩ := hrel
    by_cases hlt : n < 16
    · have hge : (1 : Int) ≤ 16 - (n : Int) := by omega
      have how := Hon.out (16 - (n : Int)) wr hf
      rcases hgn : g (di, 16 - (n : Int)) with _ | ⟨mp, mi, mr, ms, mt, me, ma, ml, mc⟩
      · have hu := upM_none hgn
        rw [← hu] at hq5
        have Hq5 := Lib.hid hq5
        have Hq4 := Lib.hid hq4
        have Hf := Lib.hid hf
        have Hgn := Lib.hid hgn
        clear hq5 hq4 hf hu hgn
        go_wp2_with fail
        refine how.mono ?_
        rintro e w2 ⟨ho, hf2⟩
        unfold OwnerR at ho
        rw [Hgn.out] at ho
        have ho' : e = .returned (.tuple #[.agg #[.string ⟨#[]⟩, .string ⟨#[]⟩, .int .i64 0, .int .i64 0, .int .i64 0, .int .i64 0, .slice none 0 0], .bool false]) := ho
        subst ho'
        have hfa : Fr No w2 (w2.alloc (.cells #[.string ⟨#[]⟩, .string ⟨#[]⟩, .int .i64 0, .int .i64 0, .int .i64 0, .int .i64 0, .slice none 0 0] 58)) := (Fr.refl _ _).alloc _
        have qa := block_alloc w2 (.cells #[.string ⟨#[]⟩, .string ⟨#[]⟩, .int .i64 0, .int .i64 0, .int .i64 0, .int .i64 0, .slice none 0 0] 58)
        have hs2 := hf2.size
        have HR := Lib.hid (And.intro ((hf2.step hfa (fun _ _ h => h)).heap Hq5.out id) (And.intro ((hf2.step hfa (fun _ _ h => h)).heap Hq4.out id) ((Hf.out.step (hf2.step hfa (fun _ _ h => h)) (fun _ _ h => h.elim)))))
        have hsa := hfa.size
        clear qa hfa hf2 how
        go_wp2_with fail
        go_roundw
        case rel => exact ⟨n + 1, by omega, by go_num, HR.out.1, HR.out.2.1, HR.out.2.2, by omega⟩
        case measure => simp [intOf]; omega
      · have hu := upM_some hgn
        have Hu := Lib.hid hu
        have Hq5 := Lib.hid hq5
        have Hq4 := Lib.hid hq4
        have Hf := Lib.hid hf
        have Hgn := Lib.hid hgn
        clear hq5 hq4 hf hu hgn
        go_wp2_with fail
        refine how.mono ?_
        rintro e w2 ⟨ho, hf2⟩
        unfold OwnerR at ho
        rw [Hgn.out] at ho
        have ho' : e = .returned (.tuple #[.agg #[.string mp, .string mi, .int .i64 mr, .int .i64 ms, .int .i64 mt, .int .i64 me, .slice ma ml.length mc], .bool true]) := ho
        subst ho'
        have hfa : Fr No w2 (w2.alloc (.cells #[.string mp, .string mi, .int .i64 mr, .int .i64 ms, .int .i64 mt, .int .i64 me, .slice ma ml.length mc] 58)) := (Fr.refl _ _).alloc _
        have qa := block_alloc w2 (.cells #[.string mp, .string mi, .int .i64 mr, .int .i64 ms, .int .i64 mt, .int .i64 me, .slice ma ml.length mc] 58)
        have hs2 := hf2.size
        have hsa := hfa.size
        have HR := Lib.hid (And.intro ((hf2.step hfa (fun _ _ h => h)).heap Hq5.out id) (And.intro ((hf2.step hfa (fun _ _ h => h)).heap Hq4.out id) ((Hf.out.step (hf2.step hfa (fun _ _ h => h)) (fun _ _ h => h.elim)))))
        obtain ⟨W5, hW5⟩ : ∃ W5, W5 = w2.alloc (.cells #[.string mp, .string mi, .int .i64 mr, .int .i64 ms, .int .i64 mt, .int .i64 me, .slice ma ml.length mc] 58) := ⟨_, rfl⟩
        rw [← hW5] at HR hsa qa
        have hq7 := qa
        clear qa hfa hf2 how
        go_upto_region 7 with (fail)
        rw [← hW5]
        clear hW5
        refine region_sig (Is (w.heap.size + 1)) [(0, false), (1, false), (2, false), (3, false), (4, false), (5, false), (6, false), (7, true), (8, false), (9, true), (10, false), (11, true)] (by kernel_rfl) (by kernel_rfl) (fun w0 hf0 => ?_)
        have qm := hf0.heap hq7 id
        have g4 : ∀ g : Gr (Is (w.heap.size + 1)) w0, g.W.cell? ⟨w2.heap.size, 4, none⟩ = some (.int .i64 mt) := fun g => g.fr.cell (cell_of_block qm 4) (by intro h; unfold Is at h; simp only at h; omega)
        have g5 : ∀ g : Gr (Is (w.heap.size + 1)) w0, g.W.cell? ⟨w2.heap.size, 5, none⟩ = some (.int .i64 me) := fun g => g.fr.cell (cell_of_block qm 5) (by intro h; unfold Is at h; simp only at h; omega)
        have g6 : ∀ g : Gr (Is (w.heap.size + 1)) w0, g.W.cell? ⟨w2.heap.size, 6, none⟩ = some (.slice ma ml.length mc) := fun g => g.fr.cell (cell_of_block qm 6) (by intro h; unfold Is at h; simp only at h; omega)
        have qA := hf0.heap HR.out.1 id
        have Hq4' := Lib.hid (hf0.heap HR.out.2.1 id)
        have Hfx := Lib.hid (HR.out.2.2.step hf0 (fun _ _ h => h.elim))
        have hsz0 := hf0.size
        obtain ⟨tt, htt⟩ : ∃ tt, tt = ((upM g di n).getD Mem.zero).t := ⟨_, rfl⟩
        obtain ⟨ee, hee⟩ : ∃ ee, ee = ((upM g di n).getD Mem.zero).e := ⟨_, rfl⟩
        obtain ⟨sl, hsl⟩ : ∃ sl, sl = Value.slice ((upM g di n).getD Mem.zero).a ((upM g di n).getD Mem.zero).l.length ((upM g di n).getD Mem.zero).c := ⟨_, rfl⟩
        rw [← htt, ← hee, ← hsl] at qA
        clear qm hq7 hf0 HR Hq4 Hq5 Hf htt hee hsl
        repeat (first | (apply sig_q; exact rfl; exact rfl; exact rfl; intro K hK; go_big_quiet_op; go_big_quiet_on) | (apply sig_skip; exact rfl; exact rfl; exact rfl; intro K hK; go_big_quiet_op; go_big_quiet_on))
        apply sig_m
        exact rfl
        have y2 := cell_of_block qA 2
        have z2 := free_of_block qA 2
        go_wp2_with fail
        clear y2 z2
        have qB := block_setCell qA 2 (.int .i64 mt)
        simp at qB
        have hs1 : Fr (Is (w.heap.size + 1)) w0 (w0.setCell ⟨w.heap.size + 1, 2, none⟩ (.int .i64 mt)) := Fr.setCell (S := Is (w.heap.size + 1)) (p := ⟨w.heap.size + 1, 2, none⟩) (Fr.refl _ _) (fun _ => rfl) _
        refine OnlyN.mk ⟨hs1, ?_⟩
        generalize w0.setCell ⟨w.heap.size + 1, 2, none⟩ (.int .i64 mt) = X1 at *
        repeat (first | (apply sig_q; exact rfl; exact rfl; exact rfl; intro K hK; go_big_quiet_op; go_big_quiet_on) | (apply sig_skip; exact rfl; exact rfl; exact rfl; intro K hK; go_big_quiet_op; go_big_quiet_on))
        apply sig_m
        exact rfl
        have y3 := cell_of_block qB 3
        have z3 := free_of_block qB 3
        go_wp2_with fail
        clear y3 z3
        have qC := block_setCell qB 3 (.int .i64 me)
        simp at qC
        have hs2' : Fr (Is (w.heap.size + 1)) X1 (X1.setCell ⟨w.heap.size + 1, 3, none⟩ (.int .i64 me)) := Fr.setCell (S := Is (w.heap.size + 1)) (p := ⟨w.heap.size + 1, 3, none⟩) (Fr.refl _ _) (fun _ => rfl) _
        refine OnlyN.mk ⟨hs2', ?_⟩
        generalize X1.setCell ⟨w.heap.size + 1, 3, none⟩ (.int .i64 me) = X2 at *
        repeat (first | (apply sig_q; exact rfl; exact rfl; exact rfl; intro K hK; go_big_quiet_op; go_big_quiet_on) | (apply sig_skip; exact rfl; exact rfl; exact rfl; intro K hK; go_big_quiet_op; go_big_quiet_on))
        apply sig_m
        exact rfl
        have y5 := cell_of_block qC 5
        have z5 := free_of_block qC 5
        go_wp2_with fail
        clear y5 z5
        have qD := block_setCell qC 5 (.slice ma ml.length mc)
        simp at qD
        have hs3' : Fr (Is (w.heap.size + 1)) X2 (X2.setCell ⟨w.heap.size + 1, 5, none⟩ (.slice ma ml.length mc)) := Fr.setCell (S := Is (w.heap.size + 1)) (p := ⟨w.heap.size + 1, 5, none⟩) (Fr.refl _ _) (fun _ => rfl) _
        refine OnlyN.mk ⟨hs3', ?_⟩
        generalize X2.setCell ⟨w.heap.size + 1, 5, none⟩ (.slice ma ml.length mc) = X3 at *
        have hf03 := (hs1.step hs2' (fun _ _ h => h)).step hs3' (fun _ _ h => h)
        have HE := Lib.hid (And.intro qD (And.intro (hf03.heap Hq4'.out (fun e => by unfold Is at e; omega)) (Hfx.out.step hf03 (fun b _ h => by unfold Is at h; unfold From; omega))))
        have hsz4 := hf03.size
        clear qA qB qC qD hs1 hs2' hs3' hf03 g4 g5 g6
        repeat (first | (apply sig_q; exact rfl; exact rfl; exact rfl; intro K hK; go_big_quiet_op; go_big_quiet_on) | (apply sig_skip; exact rfl; exact rfl; exact rfl; intro K hK; go_big_quiet_op; go_big_quiet_on))
        refine sig_end ?_
        go_wp2_with fail
        go_roundw
        case rel => exact ⟨n + 1, by omega, by go_num, by rw [Hu.out]; exact HE.out.1, HE.out.2.1, HE.out.2.2, by omega⟩
        case measure => simp [intOf]; omega
    · obtain rfl : n = 16 := by omega
      have hge : ¬ (1 : Int) ≤ 16 - ((16 : Nat) : Int) := by omega
      rw [upM_first] at hq5
      obtain ⟨F, hF⟩ : ∃ F, F = firstOf g di := ⟨_, rfl⟩
      rw [← hF] at hq5
      have hFt : 0 ≤ F.t ∧ F.t ≤ 16 := by
        rw [hF]; unfold firstOf
        rcases hg1 : g (di, leastSlot g di) with _ | m
        · exact ⟨Int.le_refl _, by decide⟩
        · have := Ht.out m (Hgm.out _ _ hg1)
          simp only [Option.getD_some]
          omega
      have HF := Lib.hid hF
      obtain ⟨fp, fi, fr, fs, ft, fe, fa, fl, fc⟩ := F
      simp only at hq5 hFt
      obtain ⟨T, rfl⟩ : ∃ T : Nat, ft = (T : Int) := ⟨ft.toNat, by omega⟩
      have hT16 : T ≤ 16 := by omega
      have hbA := buildA_eq g di (T := T) (by rw [← HF.out])
      rw [← HF.out] at hbA
      simp only at hbA
      have HbA := Lib.hid hbA
      have Hq5 := Lib.hid hq5
      have Hq4 := Lib.hid hq4
      have Hf := Lib.hid hf
      obtain ⟨B2, hB2⟩ : ∃ B2, B2 = wr.heap.size := ⟨_, rfl⟩
      have hB2a : w.heap.size + 2 ≤ B2 := by omega
      have hB2b : B2 ≤ wr.heap.size := by omega
      clear hq5 hq4 hf hF hbA hFt hB2
      go_wp2_with fail
      go_loopw [9] (fun i wi => ∃ (n : Nat) (P : List ByteArray) (pa : Option Addr) (pc : Nat), n ≤ T ∧ P.length ≤ n ∧ n ≤ P.length ∧ i = .int .i64 ((n : Int) + 1) ∧ Hid (P = pathsN g di n) ∧ wi.heap[w.heap.size + 1]? = some (.cells #[.string di, .slice pa P.length pc, .int .i64 (T : Int), .int .i64 fe, .int .i64 ((cntN g di n : Nat) : Int), .slice fa fl.length fc] 42) ∧ wi.heap[w.heap.size]? = some (.cells #[.string ⟨#[]⟩, .slice none 0 0, .int .i64 0, .int .i64 0, .int .i64 0, .slice none 0 0] 42) ∧ wi.ownsRow B2 9 1 (.slice pa P.length pc) P.length (P.map Value.string) ∧ Fr (From w.heap.size) w wi ∧ B2 ≤ wi.heap.size) (fun i _ => (T + 1 - (intOf i).toNat))
      case atStart => exact ⟨0, [], none, 0, by omega, by simp, by simp, rfl, by unfold Hid; rfl, Hq5.out, Hq4.out, World.ownsRow_nil _ _ _ _, Hf.out, hB2b⟩
      case round =>
        obtain ⟨n, P, pa, pc, hn, hP1, hP2, rfl, HP, hq5, hq4, hown, hf, hsr2⟩ := hrel
        have hcn := cntN_le g di n
        by_cases hlt : n < T
        · have hle : (n : Int) + 1 ≤ T := by omega
          have x2 : wr.cell? ⟨w.heap.size + 1, 2, none⟩ = some (.int .i64 (T : Int)) := cell_of_block hq5 2
          have how := Hon.out ((n : Int) + 1) wr hf
          have Hq5 := Lib.hid hq5
          have Hq4 := Lib.hid hq4
          have Hf := Lib.hid hf
          rcases hgn : g (di, (n : Int) + 1) with _ | ⟨mp, mi, mr, ms, mt, me, ma, ml, mc⟩
          · have HP' : Hid (P ++ [⟨#[]⟩] = pathsN g di (n + 1)) := by unfold Hid; rw [pathsN_succ, pathAt_none hgn, HP.out]
            have Hcn : Hid (cntN g di (n + 1) = cntN g di n) := cntN_none hgn
            have Hgn := Lib.hid hgn
            clear hq5 hq4 hf hgn
            go_wp2_with fail
            refine how.mono ?_
            rintro e w2 ⟨ho, hf2⟩
            unfold OwnerR at ho
            rw [Hgn.out] at ho
            have ho' : e = .returned (.tuple #[.agg #[.string ⟨#[]⟩, .string ⟨#[]⟩, .int .i64 0, .int .i64 0, .int .i64 0, .int .i64 0, .slice none 0 0], .bool false]) := ho
            subst ho'
            have hfa : Fr No w2 (w2.alloc (.cells #[.string ⟨#[]⟩, .string ⟨#[]⟩, .int .i64 0, .int .i64 0, .int .i64 0, .int .i64 0, .slice none 0 0] 58)) := (Fr.refl _ _).alloc _
            have qa := block_alloc w2 (.cells #[.string ⟨#[]⟩, .string ⟨#[]⟩, .int .i64 0, .int .i64 0, .int .i64 0, .int .i64 0, .slice none 0 0] 58)
            have hs2 := hf2.size
            clear x2
            have hsa := hfa.size
            have hstep := hf2.step hfa (fun _ _ h => h)
            have Hown := Lib.hid (ownsRow_at hown hstep (fun _ _ h => h))
            have HR := Lib.hid (And.intro (hstep.heap Hq5.out id) (And.intro (hstep.heap Hq4.out id) (Hf.out.step hstep (fun _ _ h => h.elim))))
            obtain ⟨W5, hW5⟩ : ∃ W5, W5 = w2.alloc (.cells #[.string ⟨#[]⟩, .string ⟨#[]⟩, .int .i64 0, .int .i64 0, .int .i64 0, .int .i64 0, .slice none 0 0] 58) := ⟨_, rfl⟩
            rw [← hW5] at HR hsa qa Hown
            have hm0' : W5.cell? ⟨w2.heap.size, 0, none⟩ = some (.string ⟨#[]⟩) := cell_of_block qa 0
            have y1 : W5.cell? ⟨w.heap.size + 1, 1, none⟩ = some (.slice pa P.length pc) := cell_of_block HR.out.1 1
            clear qa hfa hf2 how hstep hown
            go_upto_region 14 with (fail)
            rw [← hW5]
            clear hW5
            have hal : Fr No W5 (W5.alloc (.cells #[.string ⟨#[]⟩] 9)) := (Fr.refl _ _).alloc _
            go_wp2_with (at_builtin; refine wpList_append_own _ rfl _ _ 33 rfl B2 9 i0 (.string ByteArray.empty) 1 16 Tryz.underlying33 hi0 hz0 hz1 hz2 rfl (by decide) _ _ _ rfl (Hown.out.alloc _) ⟨W5.heap.size, 0, none⟩ 1 1 [.string ⟨#[]⟩] rfl rfl (cell_one_new _ _ _) (strs_one [⟨#[]⟩]) (by unfold maxLen; omega) (by omega) (by first | omega | (simp; done) | (simp; omega)) ?_; intro v' w9 hown9 hgrow9 _; obtain ⟨av', cv', rfl⟩ := ownsRow_slice hown9; have hgf : Fr (fun b => (Value.slice pa P.length pc).ownBlock = some b) (W5.alloc (.cells #[.string ⟨#[]⟩] 9)) w9 := Fr.of_grown hgrow9; have hq9 := hgf.heap (block_alloc_old (o := .cells #[.string ⟨#[]⟩] 9) HR.out.1) (fun h => by have h1 := ownsRow_blk Hown.out h; unfold From at h1; omega); have z1 := cell_of_block hq9 1; have f1 := free_of_block hq9 1)
            have qF := block_setCell hq9 1 (.slice av' (P.length + 1) cv')
            simp at qF
            have hsc9 : Fr (Is (w.heap.size + 1)) w9 (w9.setCell ⟨w.heap.size + 1, 1, none⟩ (.slice av' (P.length + 1) cv')) := Fr.setCell (S := Is (w.heap.size + 1)) (p := ⟨w.heap.size + 1, 1, none⟩) (Fr.refl _ _) (fun _ => rfl) _
            have hf59 := (hal.mono (T := From B2) (fun _ _ h => h.elim)).step hgf (fun b _ h => ownsRow_blk Hown.out h)
            have hs59 := hf59.size
            have hs9 := hsc9.size
            have HF9 := Lib.hid (And.intro qF (And.intro (hsc9.heap (hf59.heap HR.out.2.1 (fun h => by unfold From at h; omega)) (fun e => by unfold Is at e; omega)) (And.intro (ownsRow_at hown9 hsc9 (fun b h e => by have h1 := ownsRow_blk hown9 h; unfold From at h1; unfold Is at e; omega)) ((HR.out.2.2.step hf59 (fun b _ h => by unfold From at *; omega)).step hsc9 (fun b _ h => by unfold Is at h; unfold From; omega)))))
            clear qF hsc9 hf59 hgf hal hown9 hgrow9 hq9 z1 f1 hm0' y1
            go_roundw
            case rel => exact ⟨n + 1, P ++ [⟨#[]⟩], av', cv', by omega, by simp; omega, by simp; omega, by go_num, HP', by rw [List.length_append, Hcn.out]; exact HF9.out.1, HF9.out.2.1, by rw [List.length_append, List.map_append]; exact HF9.out.2.2.1, HF9.out.2.2.2, by omega⟩
            case measure => simp [intOf]; omega
          · have HP' : Hid (P ++ [mp] = pathsN g di (n + 1)) := by unfold Hid; rw [pathsN_succ, pathAt_some hgn, HP.out]
            have Hcn : Hid (cntN g di (n + 1) = cntN g di n + 1) := cntN_some hgn
            have Hgn := Lib.hid hgn
            clear hq5 hq4 hf hgn
            go_wp2_with fail
            refine how.mono ?_
            rintro e w2 ⟨ho, hf2⟩
            unfold OwnerR at ho
            rw [Hgn.out] at ho
            have ho' : e = .returned (.tuple #[.agg #[.string mp, .string mi, .int .i64 mr, .int .i64 ms, .int .i64 mt, .int .i64 me, .slice ma ml.length mc], .bool true]) := ho
            subst ho'
            have hfa : Fr No w2 (w2.alloc (.cells #[.string mp, .string mi, .int .i64 mr, .int .i64 ms, .int .i64 mt, .int .i64 me, .slice ma ml.length mc] 58)) := (Fr.refl _ _).alloc _
            have qa := block_alloc w2 (.cells #[.string mp, .string mi, .int .i64 mr, .int .i64 ms, .int .i64 mt, .int .i64 me, .slice ma ml.length mc] 58)
            have hs2 := hf2.size
            clear x2
            have hsa := hfa.size
            have hstep := hf2.step hfa (fun _ _ h => h)
            have hown4 := ownsRow_at hown hstep (fun _ _ h => h)
            have HR4 := Lib.hid (And.intro (hstep.heap Hq5.out id) (And.intro (hstep.heap Hq4.out id) (Hf.out.step hstep (fun _ _ h => h.elim))))
            obtain ⟨W4, hW4⟩ : ∃ W4, W4 = w2.alloc (.cells #[.string mp, .string mi, .int .i64 mr, .int .i64 ms, .int .i64 mt, .int .i64 me, .slice ma ml.length mc] 58) := ⟨_, rfl⟩
            rw [← hW4] at HR4 hsa qa hown4
            have y4 : W4.cell? ⟨w.heap.size + 1, 4, none⟩ = some (.int .i64 ((cntN g di n : Nat) : Int)) := cell_of_block HR4.out.1 4
            have f4 : W4.frozen? ⟨w.heap.size + 1, 4, none⟩ = false := free_of_block HR4.out.1 4
            have hsc : Fr (Is (w.heap.size + 1)) W4 (W4.setCell ⟨w.heap.size + 1, 4, none⟩ (.int .i64 (((cntN g di n : Nat) : Int) + 1))) := Fr.setCell (S := Is (w.heap.size + 1)) (p := ⟨w.heap.size + 1, 4, none⟩) (Fr.refl _ _) (fun _ => rfl) _
            have qs := block_setCell HR4.out.1 4 (.int .i64 (((cntN g di n : Nat) : Int) + 1))
            simp at qs
            have hqa := hsc.heap qa (fun e => by unfold Is at e; omega)
            have HR := Lib.hid (And.intro qs (And.intro (hsc.heap HR4.out.2.1 (fun e => by unfold Is at e; omega)) (HR4.out.2.2.step hsc (fun b _ h => by unfold Is at h; unfold From; omega))))
            have Hown := Lib.hid (ownsRow_at hown4 hsc (fun b h e => by have h1 := ownsRow_blk hown4 h; unfold From at h1; unfold Is at e; omega))
            have hss := hsc.size
            obtain ⟨W5, hW5⟩ : ∃ W5, W5 = W4.setCell ⟨w.heap.size + 1, 4, none⟩ (.int .i64 (((cntN g di n : Nat) : Int) + 1)) := ⟨_, rfl⟩
            rw [← hW5] at HR hqa Hown hss
            have hm0' : W5.cell? ⟨w2.heap.size, 0, none⟩ = some (.string mp) := cell_of_block hqa 0
            have y1 : W5.cell? ⟨w.heap.size + 1, 1, none⟩ = some (.slice pa P.length pc) := cell_of_block HR.out.1 1
            clear qa hqa hfa hf2 how hstep hown hown4 qs hsc
            go_upto_region 13 with (fail)
            rw [← hW4]
            clear hW4
            go_upto_region 14 with (fail)
            rw [← hW5]
            clear hW5 y4 f4
            have hal : Fr No W5 (W5.alloc (.cells #[.string mp] 9)) := (Fr.refl _ _).alloc _
            go_wp2_with (at_builtin; refine wpList_append_own _ rfl _ _ 33 rfl B2 9 i0 (.string ByteArray.empty) 1 16 Tryz.underlying33 hi0 hz0 hz1 hz2 rfl (by decide) _ _ _ rfl (Hown.out.alloc _) ⟨W5.heap.size, 0, none⟩ 1 1 [.string mp] rfl rfl (cell_one_new _ _ _) (strs_one [mp]) (by unfold maxLen; omega) (by omega) (by first | omega | (simp; done) | (simp; omega)) ?_; intro v' w9 hown9 hgrow9 _; obtain ⟨av', cv', rfl⟩ := ownsRow_slice hown9; have hgf : Fr (fun b => (Value.slice pa P.length pc).ownBlock = some b) (W5.alloc (.cells #[.string mp] 9)) w9 := Fr.of_grown hgrow9; have hq9 := hgf.heap (block_alloc_old (o := .cells #[.string mp] 9) HR.out.1) (fun h => by have h1 := ownsRow_blk Hown.out h; unfold From at h1; omega); have z1 := cell_of_block hq9 1; have f1 := free_of_block hq9 1)
            have qF := block_setCell hq9 1 (.slice av' (P.length + 1) cv')
            simp at qF
            have hsc9 : Fr (Is (w.heap.size + 1)) w9 (w9.setCell ⟨w.heap.size + 1, 1, none⟩ (.slice av' (P.length + 1) cv')) := Fr.setCell (S := Is (w.heap.size + 1)) (p := ⟨w.heap.size + 1, 1, none⟩) (Fr.refl _ _) (fun _ => rfl) _
            have hf59 := (hal.mono (T := From B2) (fun _ _ h => h.elim)).step hgf (fun b _ h => ownsRow_blk Hown.out h)
            have hs59 := hf59.size
            have hs9 := hsc9.size
            have HF9 := Lib.hid (And.intro qF (And.intro (hsc9.heap (hf59.heap HR.out.2.1 (fun h => by unfold From at h; omega)) (fun e => by unfold Is at e; omega)) (And.intro (ownsRow_at hown9 hsc9 (fun b h e => by have h1 := ownsRow_blk hown9 h; unfold From at h1; unfold Is at e; omega)) ((HR.out.2.2.step hf59 (fun b _ h => by unfold From at *; omega)).step hsc9 (fun b _ h => by unfold Is at h; unfold From; omega)))))
            clear qF hsc9 hf59 hgf hal hown9 hgrow9 hq9 z1 f1 hm0' y1
            go_roundw
            case rel => exact ⟨n + 1, P ++ [mp], av', cv', by omega, by simp; omega, by simp; omega, by go_num, HP', by rw [List.length_append, Hcn.out]; exact HF9.out.1, HF9.out.2.1, by rw [List.length_append, List.map_append]; exact HF9.out.2.2.1, HF9.out.2.2.2, by omega⟩
            case measure => simp [intOf]; omega
        · obtain rfl : n = T := by omega
          have hle : ¬ (n : Int) + 1 ≤ n := by omega
          obtain ⟨a', c', hv, hS, hfr⟩ := Strs.of_own hown
          cases hv
          have hbt := own_typ hown
          have hPe := HP.out
          have x0 : wr.cell? ⟨w.heap.size + 1, 0, none⟩ = some (.string di) := cell_of_block hq5 0
          have x1 : wr.cell? ⟨w.heap.size + 1, 1, none⟩ = some (.slice pa P.length pc) := cell_of_block hq5 1
          have x2 : wr.cell? ⟨w.heap.size + 1, 2, none⟩ = some (.int .i64 (n : Int)) := cell_of_block hq5 2
          have x3 : wr.cell? ⟨w.heap.size + 1, 3, none⟩ = some (.int .i64 fe) := cell_of_block hq5 3
          have x4 : wr.cell? ⟨w.heap.size + 1, 4, none⟩ = some (.int .i64 ((cntN g di n : Nat) : Int)) := cell_of_block hq5 4
          have x5 : wr.cell? ⟨w.heap.size + 1, 5, none⟩ = some (.slice fa fl.length fc) := cell_of_block hq5 5
          have b0 : wr.cell? ⟨w.heap.size, 0, none⟩ = some (.string ⟨#[]⟩) := cell_of_block hq4 0
          have b1 : wr.cell? ⟨w.heap.size, 1, none⟩ = some (.slice none 0 0) := cell_of_block hq4 1
          have b2 : wr.cell? ⟨w.heap.size, 2, none⟩ = some (.int .i64 0) := cell_of_block hq4 2
          have b3 : wr.cell? ⟨w.heap.size, 3, none⟩ = some (.int .i64 0) := cell_of_block hq4 3
          have b4 : wr.cell? ⟨w.heap.size, 4, none⟩ = some (.int .i64 0) := cell_of_block hq4 4
          have b5 : wr.cell? ⟨w.heap.size, 5, none⟩ = some (.slice none 0 0) := cell_of_block hq4 5
          have f0 : wr.frozen? ⟨w.heap.size, 0, none⟩ = false := free_of_block hq4 0
          have f1 : wr.frozen? ⟨w.heap.size, 1, none⟩ = false := free_of_block hq4 1
          have f2 : wr.frozen? ⟨w.heap.size, 2, none⟩ = false := free_of_block hq4 2
          have f3 : wr.frozen? ⟨w.heap.size, 3, none⟩ = false := free_of_block hq4 3
          have f4 : wr.frozen? ⟨w.heap.size, 4, none⟩ = false := free_of_block hq4 4
          have f5 : wr.frozen? ⟨w.heap.size, 5, none⟩ = false := free_of_block hq4 5
          have h6 := set6 hq4 rfl (.string di) (.slice pa P.length pc) (.int .i64 (n : Int)) (.int .i64 fe) (.int .i64 ((cntN g di n : Nat) : Int)) (.slice fa fl.length fc)
          have H6 := Lib.hid h6.1
          have H5 := Lib.hid ((hf.step h6.2 (fun b _ h => by unfold Is at h; unfold From; omega)).mono (T := No) (fun b hb h => by unfold From at h; omega))
          have HS := Lib.hid (And.intro (hS.fr h6.2 (fun ad e _ h => by have := hfr ad e; unfold Is at h; omega)) (hbt.fr h6.2 (fun ad e h => by have := hfr ad e; unfold Is at h; omega)))
          have Hfr := Lib.hid hfr
          have Hae : Hid (Arr.mk di P (n : Int) fe ((cntN g di n : Nat) : Int) fl = buildA g di) := by unfold Hid; rw [HbA.out, hPe]
          clear h6 hq4 hq5 hf hown hS hbt hfr hPe
          go_wp2_with fail
          clear x0 x1 x2 x3 x4 x5 b0 b1 b2 b3 b4 b5 f0 f1 f2 f3 f4 f5
          have y0 := cell_of_block H6.out 0
          have y1 := cell_of_block H6.out 1
          have y2 := cell_of_block H6.out 2
          have y3 := cell_of_block H6.out 3
          have y4 := cell_of_block H6.out 4
          have y5 := cell_of_block H6.out 5
          refine bodyPost_ret (v := .agg #[.string di, .slice pa P.length pc, .int .i64 (n : Int), .int .i64 fe, .int .i64 ((cntN g di n : Nat) : Int), .slice fa fl.length fc]) (by simp [results, Tryz.results93, go_sem, y0, y1, y2, y3, y4, y5]) rfl ?_
          exact ⟨⟨⟨⟨di, P, (n : Int), fe, ((cntN g di n : Nat) : Int), fl⟩, pa, pc, fa, fc⟩, rfl, Hae.out, HS.out.1, HS.out.2, fun ad e => by have := Hfr.out ad e; omega, by rw [← HF.out], by rw [← HF.out]⟩, H5.out⟩
end Go.Proofs.YtbblkknndaoefaaGreatDoor
namespace Go.Proofs.YtbblkknndaoefaaGreatDoor
open Go.RowKit Go.Maps
set_option linter.unusedVariables false

/-- A sound member with one inner text. -/
def soundA (m : Mem) : Bool := soundB m && decide (m.l.length = 1)
theorem soundA_sound {m : Mem} (h : soundA m = true) : soundB m = true := by
  unfold soundA at h
  rw [Bool.and_eq_true] at h
  exact h.1
theorem soundA_one {m : Mem} (h : soundA m = true) : m.l.length = 1 := by
  unfold soundA at h
  rw [Bool.and_eq_true, decide_eq_true_iff] at h
  exact h.2

set_option maxRecDepth 100000 in
set_option maxHeartbeats 1000000 in
theorem a_good (p i : ByteArray) (r s t e : Int) (a : Option Addr) (l : List ByteArray) (c : Nat) (w : World) :
    Calls Tryz.prog 95 #[.agg #[.string p, .string i, .int .i64 r, .int .i64 s, .int .i64 t, .int .i64 e, .slice a l.length c]] w fun en w' => en = .returned (.bool (soundA ⟨p, i, r, s, t, e, a, l, c⟩)) ∧ Fr No w w' := by
  have hx : Fr No w (w.alloc (.cells #[.string p, .string i, .int .i64 r, .int .i64 s, .int .i64 t, .int .i64 e, .slice a l.length c] 58)) := (Fr.refl _ _).alloc _
  have hs := g_sound p i r s t e (.slice a l.length c) (w.alloc (.cells #[.string p, .string i, .int .i64 r, .int .i64 s, .int .i64 t, .int .i64 e, .slice a l.length c] 58))
  obtain ⟨ra, hra⟩ : ∃ ra, ra = soundA ⟨p, i, r, s, t, e, a, l, c⟩ := ⟨_, rfl⟩
  rw [← hra]
  have Hra : Hid (ra = ((!p.toList.isEmpty && (decide (1 ≤ s) && decide (s ≤ 16)) && (decide (1 ≤ t) && decide (t ≤ 16))) && decide (l.length = 1))) := hra
  clear hra
  have q1 := block_alloc w (.cells #[.string p, .string i, .int .i64 r, .int .i64 s, .int .i64 t, .int .i64 e, .slice a l.length c] 58)
  have Hx := Lib.hid hx
  clear hx
  go_enter Tryz.func95, Tryz.ntmps95
  go_wp2_with fail
  refine hs.mono ?_
  rintro en w1 ⟨rfl, hf1⟩
  have H := Lib.hid (Hx.out.step hf1 (fun _ _ h => h))
  have q6 : w1.cell? ⟨w.heap.size, 6, none⟩ = some (.slice a l.length c) := hf1.cell (cell_of_block q1 6) id
  clear hf1 hs q1
  obtain ⟨b, hb⟩ : ∃ b, b = (!p.toList.isEmpty && (decide (1 ≤ s) && decide (s ≤ 16)) && (decide (1 ≤ t) && decide (t ≤ 16))) := ⟨_, rfl⟩
  rw [← hb]
  have Hb : Hid (ra = (b && decide (l.length = 1))) := by unfold Hid; rw [Hra.out, hb]
  clear hb Hra
  cases b with
  | false =>
    have Hr : Hid (ra = false) := by unfold Hid; rw [Hb.out]; rfl
    go_wp2_with fail
    go_ret
    exact ⟨by rw [Hr.out]; rfl, H.out⟩
  | true =>
    by_cases h1 : l.length = 1
    · have hq : ((l.length : Int) == 1) = true := by simp [h1]
      have Hr : Hid (ra = true) := by unfold Hid; rw [Hb.out]; simp [h1]
      have H1 := Lib.hid h1
      clear h1
      go_wp2_with fail
      go_ret
      exact ⟨by rw [Hr.out]; rfl, H.out⟩
    · have hq : ((l.length : Int) == 1) = false := by simp; omega
      have Hr : Hid (ra = false) := by unfold Hid; rw [Hb.out]; simp [h1]
      have H1 := Lib.hid h1
      clear h1
      go_wp2_with fail
      go_ret
      exact ⟨by rw [Hr.out]; rfl, H.out⟩
end Go.Proofs.YtbblkknndaoefaaGreatDoor
namespace Go.Proofs.YtbblkknndaoefaaGreatDoor
open Go.RowKit Go.Maps
set_option linter.unusedVariables false

/-- What the reference's Group answers. -/
def ref_group32R (L : List Mem) (e : Ending) (w' : World) : Prop := ∃ (a' : Option Addr) (c' : Nat) (O : List ArrM), e = .returned (.slice a' O.length c') ∧ Arrs w' a' c' O ∧ O.map ArrM.toArr = (idsW (L.filter soundA)).map (buildA (best2 soundA L))

set_option maxRecDepth 100000 in
set_option maxHeartbeats 8000000 in
theorem ref_group32 (a : Option Addr) (cap : Nat) (L : List Mem) (m0 : Int) (w : World) (hl : Mems w a cap L) (hb : MemSmall L) (hm0 : w.cell? ⟨1, 0, none⟩ = some (.int .i64 m0)) (hw0 : 1 < w.heap.size) :
    Calls Tryz.prog 64 #[.slice a L.length cap] w fun e w' => ref_group32R L e w' ∧ Fr No w w' := by
  obtain ⟨i0, hi0, hz0, hz1, hz2⟩ := info_parts infoM
  obtain ⟨j0, hj0, hy0, hy1, hy2⟩ := info_parts infoAr
  have hlm := hb.len
  have hlk : ∀ W : World, Fr (From w.heap.size) w W → Mems W a cap L := fun W hf => hl.keep hf (fun b hb h => by unfold From at h; omega)
  have Hlk := Lib.hid hlk
  have Hl := Lib.hid hl
  have Hb := Lib.hid hb
  clear hlk hb hl
  go_enter Tryz.func64, Tryz.ntmps64
  go_wp2_with fail
  go_loopw [3, 4] (fun v i wr => ∃ (k : Nat) (G : List Mem) (av : Option Addr) (cv : Nat), k ≤ L.length ∧ G.length ≤ k ∧ v = .slice av G.length cv ∧ i = .int .i64 (k : Int) ∧ wr.ownsRow w.heap.size 58 7 (.slice av G.length cv) G.length (mflat G) ∧ Hid (G = (L.take k).filter soundA) ∧ Fr (From w.heap.size) w wr ∧ w.heap.size ≤ wr.heap.size) (fun _ i _ => L.length - (intOf i).toNat)
  case atStart => exact ⟨0, [], none, 0, by omega, by simp, rfl, rfl, World.ownsRow_nil _ _ _ _, by unfold Hid; rfl, Fr.refl _ _, Nat.le_refl _⟩
  case round =>
    obtain ⟨k, G, av, cv, hk, hGk, rfl, rfl, hown, HG, hf, hsr⟩ := hrel
    by_cases hlt : k < L.length
    · have hlt' : (k : Int) < L.length := by omega
      obtain ⟨b, off, m, rfl, hxk, hst, hat, hbl⟩ := (Hlk.out _ hf).elem hlt
      have hN : soundA m = false → Hid (G = (L.take (k + 1)).filter soundA) := fun h => by
        unfold Hid; rw [List.take_add_one, hxk, List.filter_append, ← HG.out]; simp [h]
      have hY : soundA m = true → Hid (G ++ [m] = (L.take (k + 1)).filter soundA) := fun h => by
        unfold Hid; rw [List.take_add_one, hxk, List.filter_append, ← HG.out]; simp [h]
      have HN := Lib.hid hN
      have HY := Lib.hid hY
      obtain ⟨mp, mi, mr, ms, mt, me, ma, ml, mc⟩ := m
      obtain ⟨c0, c1, c2, c3, c4, c5, c6⟩ := hat
      simp only at c0 c1 c2 c3 c4 c5 c6
      have hal1 : Fr No wr (wr.alloc (.cells #[.string mp, .string mi, .int .i64 mr, .int .i64 ms, .int .i64 mt, .int .i64 me, .slice ma ml.length mc] 58)) := (Fr.refl _ _).alloc _
      have q5 := block_alloc wr (.cells #[.string mp, .string mi, .int .i64 mr, .int .i64 ms, .int .i64 mt, .int .i64 me, .slice ma ml.length mc] 58)
      have Hown := Lib.hid (ownsRow_at hown hal1 (fun _ _ h => h))
      have Hf := Lib.hid (hf.step hal1 (fun _ _ h => h.elim))
      have hsa := hal1.size
      obtain ⟨W1, hW1⟩ : ∃ W1, W1 = wr.alloc (.cells #[.string mp, .string mi, .int .i64 mr, .int .i64 ms, .int .i64 mt, .int .i64 me, .slice ma ml.length mc] 58) := ⟨_, rfl⟩
      rw [← hW1] at q5 Hown Hf hsa
      clear hxk hst hN hY hown hf hal1
      go_upto_region 6 with (fail)
      rw [← hW1]
      clear hW1 c0 c1 c2 c3 c4 c5 c6
      have y0 : W1.cell? ⟨wr.heap.size, 0, none⟩ = some (.string mp) := cell_of_block q5 0
      have y1 : W1.cell? ⟨wr.heap.size, 1, none⟩ = some (.string mi) := cell_of_block q5 1
      have y2 : W1.cell? ⟨wr.heap.size, 2, none⟩ = some (.int .i64 mr) := cell_of_block q5 2
      have y3 : W1.cell? ⟨wr.heap.size, 3, none⟩ = some (.int .i64 ms) := cell_of_block q5 3
      have y4 : W1.cell? ⟨wr.heap.size, 4, none⟩ = some (.int .i64 mt) := cell_of_block q5 4
      have y5 : W1.cell? ⟨wr.heap.size, 5, none⟩ = some (.int .i64 me) := cell_of_block q5 5
      have y6 : W1.cell? ⟨wr.heap.size, 6, none⟩ = some (.slice ma ml.length mc) := cell_of_block q5 6
      clear q5
      rcases h1 : mp.toList.isEmpty with _ | _
      · by_cases h2 : 1 ≤ ms
        · by_cases h3 : ms ≤ 16
          · by_cases h4 : 1 ≤ mt
            · by_cases h5 : mt ≤ 16
              · by_cases h6 : ml.length = 1
                · have HG' : Hid (G ++ [⟨mp, mi, mr, ms, mt, me, ma, ml, mc⟩] = (L.take (k + 1)).filter soundA) := HY.out (by unfold soundA soundB; simp [h1, h2, h3, h4, h5, h6])
                  have h6' : ((ml.length : Int) == 1) = true := by simp [h6]
                  clear h6
                  have hal : Fr No W1 (W1.alloc (.cells #[.string mp, .string mi, .int .i64 mr, .int .i64 ms, .int .i64 mt, .int .i64 me, .slice ma ml.length mc] 58)) := (Fr.refl _ _).alloc _
                  go_wp2_with (at_builtin; refine wpList_append_own _ rfl _ _ 23 rfl w.heap.size 58 i0 (.agg #[.string ByteArray.empty, .string ByteArray.empty, .int .i64 0, .int .i64 0, .int .i64 0, .int .i64 0, .slice none 0 0]) 7 88 Tryz.underlying23 hi0 hz0 hz1 hz2 rfl (by decide) _ _ _ rfl (Hown.out.alloc _) ⟨W1.heap.size, 0, none⟩ 1 1 (Mem.vals ⟨mp, mi, mr, ms, mt, me, ma, ml, mc⟩).toList rfl rfl (cells_new _ (Mem.vals ⟨mp, mi, mr, ms, mt, me, ma, ml, mc⟩) _ rfl) (mvals_one _) (by unfold maxLen; omega) (by omega) (by first | omega | (simp; done) | (simp; omega)) ?_; intro v' w9 hown9 hgrow9 _; obtain ⟨av', cv', rfl⟩ := ownsRow_slice hown9)
                  have hgf : Fr (fun b => (Value.slice av G.length cv).ownBlock = some b) (W1.alloc (.cells #[.string mp, .string mi, .int .i64 mr, .int .i64 ms, .int .i64 mt, .int .i64 me, .slice ma ml.length mc] 58)) w9 := Fr.of_grown hgrow9
                  have hf9 := (Hf.out.step hal (fun _ _ h => h.elim)).step hgf (fun b _ h => ownsRow_blk Hown.out h)
                  have hs9 := hgf.size
                  have hsa9 := hal.size
                  have HF9 := Lib.hid (And.intro hown9 hf9)
                  clear hown9 hf9 hgf hal hgrow9
                  go_roundw
                  case rel => exact ⟨k + 1, G ++ [⟨mp, mi, mr, ms, mt, me, ma, ml, mc⟩], av', cv', by omega, by simp; omega, by simp, by go_num, by rw [List.length_append, mflat_snoc]; exact HF9.out.1, HG', HF9.out.2, by omega⟩
                  case measure => simp [intOf]; omega
                · have h6' : ((ml.length : Int) == 1) = false := by simp; omega
                  have HG' : Hid (G = (L.take (k + 1)).filter soundA) := HN.out (by unfold soundA soundB; simp [h6])
                  clear h6
                  go_wp2_with fail
                  go_roundw
                  case rel => exact ⟨k + 1, G, av, cv, by omega, by omega, rfl, by go_num, Hown.out, HG', Hf.out, by omega⟩
                  case measure => simp [intOf]; omega
              · have HG' : Hid (G = (L.take (k + 1)).filter soundA) := HN.out (by unfold soundA soundB; simp [h5])
                go_wp2_with fail
                go_roundw
                case rel => exact ⟨k + 1, G, av, cv, by omega, by omega, rfl, by go_num, Hown.out, HG', Hf.out, by omega⟩
                case measure => simp [intOf]; omega
            · have HG' : Hid (G = (L.take (k + 1)).filter soundA) := HN.out (by unfold soundA soundB; simp [h4])
              go_wp2_with fail
              go_roundw
              case rel => exact ⟨k + 1, G, av, cv, by omega, by omega, rfl, by go_num, Hown.out, HG', Hf.out, by omega⟩
              case measure => simp [intOf]; omega
          · have HG' : Hid (G = (L.take (k + 1)).filter soundA) := HN.out (by unfold soundA soundB; simp [h3])
            go_wp2_with fail
            go_roundw
            case rel => exact ⟨k + 1, G, av, cv, by omega, by omega, rfl, by go_num, Hown.out, HG', Hf.out, by omega⟩
            case measure => simp [intOf]; omega
        · have HG' : Hid (G = (L.take (k + 1)).filter soundA) := HN.out (by unfold soundA soundB; simp [h2])
          go_wp2_with fail
          go_roundw
          case rel => exact ⟨k + 1, G, av, cv, by omega, by omega, rfl, by go_num, Hown.out, HG', Hf.out, by omega⟩
          case measure => simp [intOf]; omega
      · have HG' : Hid (G = (L.take (k + 1)).filter soundA) := HN.out (by unfold soundA soundB; simp [h1])
        go_wp2_with fail
        go_roundw
        case rel => exact ⟨k + 1, G, av, cv, by omega, by omega, rfl, by go_num, Hown.out, HG', Hf.out, by omega⟩
        case measure => simp [intOf]; omega
    · obtain rfl : k = L.length := by omega
      have hGe := HG.out
      rw [List.take_length] at hGe
      have HGe := Lib.hid hGe
      have hmG : ∀ m ∈ G, m ∈ L ∧ soundB m = true := fun m hm => by
        rw [hGe] at hm
        exact ⟨(List.mem_filter.1 hm).1, soundA_sound (List.mem_filter.1 hm).2⟩
      have hsmG : MemSmall G := ⟨by omega, fun m hm => Hb.out.p m (hmG m hm).1, fun m hm => Hb.out.i m (hmG m hm).1, fun m hm => Hb.out.l m (hmG m hm).1⟩
      have htG : ∀ m ∈ G, 1 ≤ m.t ∧ m.t ≤ 16 := fun m hm => by
        have h := (hmG m hm).2
        unfold soundB at h
        simp only [Bool.and_eq_true, decide_eq_true_eq] at h
        exact h.2
      obtain ⟨ga, gc, hv, hR, _⟩ := Mems.of_own hown (fun m hm => (Hlk.out _ hf).ok m (hmG m hm).1)
      cases hv
      have hids := ref_ids av cv G wr hR (by omega)
      have hm1 := hf.cell hm0 (by intro h; unfold From at h; simp only at h; omega)
      have HmG := Lib.hid hmG
      have HsmG := Lib.hid hsmG
      have HtG := Lib.hid htG
      have Hf := Lib.hid hf
      have hgl := hsmG.len
      have hb2 : best2 allG G = best2 soundA L := by rw [hGe, best2_all]
      have Hb2 := Lib.hid hb2
      clear hGe hmG hsmG htG hown hf hm0 HG hb2
      go_wp2_with fail
      refine hids.mono ?_
      rintro e w1 ⟨⟨ia, ic, rfl, hI, _⟩, hf1⟩
      have hR1 := hR.no hf1 (fun _ => id)
      have hm2 := hf1.cell hm1 id
      have Hf1 := Lib.hid (Hf.out.step hf1 (fun b hb h => h.elim))
      have hs1 := hf1.size
      have hil := (idsW_ok G).2.2
      obtain ⟨ids, hide⟩ : ∃ ids, ids = idsW G := ⟨_, rfl⟩
      rw [← hide] at hI hil ⊢
      have Hids := Lib.hid hide
      have hilm := hI.lenmax
      clear hids hf1 hR hm1 hide
      go_wp2_with fail
      go_loopw [6, 8] (fun v i wi => ∃ (j : Nat) (O : List ArrM) (ov : Option Addr) (oc : Nat), j ≤ ids.length ∧ O.length ≤ j ∧ v = .slice ov O.length oc ∧ i = .int .i64 (j : Int) ∧ wi.ownsRow w1.heap.size 42 6 (.slice ov O.length oc) O.length (arflat O) ∧ Hid (∀ m ∈ O, (Strs wi m.pa m.pc m.ps ∧ BlkT wi m.pa 9) ∧ (∀ ad, m.pa = some ad → w1.heap.size ≤ ad.block) ∧ Strs w m.la m.lc m.l) ∧ Hid (O.map ArrM.toArr = (ids.take j).map (buildA (best2 soundA L))) ∧ Fr (From w1.heap.size) w1 wi) (fun _ i _ => ids.length - (intOf i).toNat)
      case atStart => exact ⟨0, [], none, 0, by omega, by simp, rfl, rfl, World.ownsRow_nil _ _ _ _, fun m hm => by simp at hm, by unfold Hid; rfl, Fr.refl _ _⟩
      case round =>
        obtain ⟨j, O, ov, oc, hj, hOj, rfl, rfl, hown, HP, HO, hf⟩ := hrel
        have hsr2 := hf.size
        by_cases hlt : j < ids.length
        · have hlt' : (j : Int) < ids.length := by omega
          obtain ⟨xb, xo, x, rfl, hxj, hcx⟩ := (hI.keep hf (fun b hb h => by unfold From at h; omega)).at hlt
          have hbd := ref_build av cv G x m0 wr (hR1.keep hf (fun b hb h => by unfold From at h; omega)) HsmG.out HtG.out (hf.cell hm2 (by intro h; unfold From at h; simp only at h; omega)) (by omega)
          rw [Hb2.out] at hbd
          have Htk : Hid ((ids.take (j + 1)).map (buildA (best2 soundA L)) = (ids.take j).map (buildA (best2 soundA L)) ++ [buildA (best2 soundA L) x]) := by unfold Hid; rw [List.take_add_one, hxj]; simp
          have Hf2 := Lib.hid hf
          have Hown := Lib.hid hown
          clear hxj hown hf
          go_wp2_with fail
          refine hbd.mono ?_
          rintro e w3 ⟨⟨A, rfl, hA, hAS, hAB, hAf, hAa, hAc⟩, hf3⟩
          have hFl : A.l = (firstOf (best2 soundA L) x).l := congrArg Arr.l hA
          have hAl : Strs w A.la A.lc A.l := by
            rw [hAa, hAc, hFl]
            unfold firstOf
            rcases hg1 : best2 soundA L (x, leastSlot (best2 soundA L) x) with _ | m
            · exact Strs.nil w
            · exact Hl.out.ok m (best2_mem L _ m hg1).1
          have hown3 := ownsRow_at Hown.out hf3 (fun _ _ h => h)
          have hs3 := hf3.size
          obtain ⟨⟨ai, aps, at_, ae, an, al⟩, pa, pc, la, lc⟩ := A
          simp only at hAS hAB hAf hAl
          unfold ArrM.vals
          have Hown3 := Lib.hid hown3
          have HP3 : Hid (∀ m ∈ O, (Strs w3 m.pa m.pc m.ps ∧ BlkT w3 m.pa 9) ∧ (∀ ad, m.pa = some ad → w1.heap.size ≤ ad.block) ∧ Strs w m.la m.lc m.l) := fun m hm => by
            obtain ⟨⟨h1, h2⟩, h3, h4⟩ := HP.out m hm
            exact ⟨⟨h1.no hf3 (fun _ => id), h2.fr hf3 (fun _ _ => id)⟩, h3, h4⟩
          have HA := Lib.hid (And.intro hA (And.intro hAS (And.intro hAB (And.intro hAf hAl))))
          have Hf3 := Lib.hid (Hf2.out.step hf3 (fun _ _ h => h.elim))
          clear hbd hA hAS hAB hAf hAa hAc hFl hAl hown3 hf3 HP
          have hal : Fr No w3 (w3.alloc (.cells #[.string ai, .slice pa aps.length pc, .int .i64 at_, .int .i64 ae, .int .i64 an, .slice la al.length lc] 42)) := (Fr.refl _ _).alloc _
          go_wp2_with (at_builtin; refine wpList_append_own _ rfl _ _ 61 rfl w1.heap.size 42 j0 (.agg #[.string ByteArray.empty, .slice none 0 0, .int .i64 0, .int .i64 0, .int .i64 0, .slice none 0 0]) 6 88 Tryz.underlying61 hj0 hy0 hy1 hy2 rfl (by decide) _ _ _ rfl (Hown3.out.alloc _) ⟨w3.heap.size, 0, none⟩ 1 1 (ArrM.vals ⟨⟨ai, aps, at_, ae, an, al⟩, pa, pc, la, lc⟩).toList rfl rfl (cells_new _ (ArrM.vals ⟨⟨ai, aps, at_, ae, an, al⟩, pa, pc, la, lc⟩) _ rfl) (arvals_one _) (by unfold maxLen; omega) (by omega) (by first | omega | (simp; done) | (simp; omega)) ?_; intro v' w9 hown9 hgrow9 _; obtain ⟨av', cv', rfl⟩ := ownsRow_slice hown9)
          have hgf : Fr (fun b => (Value.slice ov O.length oc).ownBlock = some b) (w3.alloc (.cells #[.string ai, .slice pa aps.length pc, .int .i64 at_, .int .i64 ae, .int .i64 an, .slice la al.length lc] 42)) w9 := Fr.of_grown hgrow9
          have howa := Hown3.out.alloc (.cells #[.string ai, .slice pa aps.length pc, .int .i64 at_, .int .i64 ae, .int .i64 an, .slice la al.length lc] 42)
          have hP9 : ∀ m ∈ O ++ [(⟨⟨ai, aps, at_, ae, an, al⟩, pa, pc, la, lc⟩ : ArrM)], (Strs w9 m.pa m.pc m.ps ∧ BlkT w9 m.pa 9) ∧ (∀ ad, m.pa = some ad → w1.heap.size ≤ ad.block) ∧ Strs w m.la m.lc m.l := fun m hm => by
            have one : ∀ (m : ArrM), Strs w3 m.pa m.pc m.ps → BlkT w3 m.pa 9 → Strs w9 m.pa m.pc m.ps ∧ BlkT w9 m.pa 9 := fun m h1 h2 => by
              have h3 := h2.fr hal (fun _ _ => id)
              have hk := BlkT.ne howa h3 (by decide)
              exact ⟨(h1.no hal (fun _ => id)).fr hgf (fun ad e _ => hk ad e), h3.fr hgf hk⟩
            rcases List.mem_append.1 hm with h | h
            · obtain ⟨⟨h1, h2⟩, h3, h4⟩ := HP3.out m h
              exact ⟨one m h1 h2, h3, h4⟩
            · obtain rfl : m = ⟨⟨ai, aps, at_, ae, an, al⟩, pa, pc, la, lc⟩ := by simpa using h
              exact ⟨one _ HA.out.2.1 HA.out.2.2.1, fun ad e => by have := HA.out.2.2.2.1 ad e; omega, HA.out.2.2.2.2⟩
          have HO9 : Hid ((O ++ [(⟨⟨ai, aps, at_, ae, an, al⟩, pa, pc, la, lc⟩ : ArrM)]).map ArrM.toArr = (ids.take (j + 1)).map (buildA (best2 soundA L))) := by
            unfold Hid; rw [Htk.out, List.map_append, HO.out, ← HA.out.1]; rfl
          have HF9 := Lib.hid (And.intro hown9 ((Hf3.out.step hal (fun _ _ h => h.elim)).step hgf (fun b _ h => ownsRow_blk howa h)))
          have HP9 := Lib.hid hP9
          clear hown9 hgf hal hgrow9 howa hP9
          go_roundw
          case rel => exact ⟨j + 1, O ++ [⟨⟨ai, aps, at_, ae, an, al⟩, pa, pc, la, lc⟩], av', cv', by omega, by simp; omega, by simp, by go_num, by rw [List.length_append, arflat_snoc]; exact HF9.out.1, HP9, HO9, HF9.out.2⟩
          case measure => simp [intOf]; omega
        · obtain rfl : j = ids.length := by omega
          have hOe := HO.out
          rw [List.take_length, Hids.out, HGe.out] at hOe
          have hfw := Hf1.out.step hf (fun b hb h => by unfold From at h ⊢; omega)
          obtain ⟨a', c', hv, hR2, _⟩ := Arrs.of_own hown (fun m hm => ⟨(HP.out m hm).1.1, (HP.out m hm).2.2.keep hfw (fun b hb h => by unfold From at h; omega)⟩)
          cases hv
          have H := Lib.hid (And.intro hR2 (And.intro hOe (hfw.mono (T := No) (fun b hb h => by unfold From at h; omega))))
          clear hR2 hOe hfw hown hf HO HP
          go_wp2_with fail
          go_ret
          exact ⟨⟨_, _, O, rfl, H.out.1, H.out.2.1⟩, H.out.2.2⟩
end Go.Proofs.YtbblkknndaoefaaGreatDoor
