/- site. -/
import Derived.Test.YtpnpjaemlflplaaGreatDoorKA
namespace Go.Proofs.YtpnpjaemlflplaaGreatDoor
open Go.RowKit Go.Maps
set_option linter.unusedVariables false

theorem Recs.low {S : Nat → Prop} {X W : World} {a : Option Addr} {cap : Nat} {l : List Rec} (h : Recs X a cap l) (hf : Fr S X W) (h1 : ∀ ad, a = some ad → ¬ S ad.block) (h2 : ∀ r ∈ l, (∀ ad, r.ta = some ad → ¬ S ad.block) ∧ (∀ ad, r.pa = some ad → ¬ S ad.block)) : Recs W a cap l :=
  ⟨h.len, h.max, h.isNil, fun r hr => ⟨(h.ok r hr).props.fr hf (fun ad e _ => (h2 r hr).2 ad e), (h.ok r hr).tags.fr hf (fun ad e _ => (h2 r hr).1 ad e)⟩, fun ad e hne => by
    obtain ⟨q1, q2, q3⟩ := h.cell ad e hne
    exact ⟨q1, Nat.lt_of_lt_of_le q2 hf.size, fun i r hi j hj => hf.cell (q3 i r hi j hj) (h1 ad e)⟩⟩
/-- A tree and its records. -/
structure SiteAt (w' : World) (base : Nat) (a : Option Addr) (cap : Nat) (ds : List Dev) (ra : Option Addr) (rc : Nat) (out : List Rec) : Prop where
  len : ds.length ≤ 10
  tr : Tr w' base a cap ds
  recs : Recs w' ra rc out
  good : GoodR ds ds out
def SiteRes (w w' : World) (e : Ending) : Prop := ∃ base a cap ds ra rc out, e = .returned (.tuple #[.agg #[.slice a (List.length ds) cap], .slice ra (List.length out) rc]) ∧ SiteAt w' base a cap ds ra rc out

set_option maxRecDepth 100000 in
set_option maxHeartbeats 2000000 in
theorem site_walk (la : Option Addr) (lc : Nat) (l : List Int) (m : Int) (w : World) (hl : Ints w la lc l) (hm : w.cell? ⟨0, 0, none⟩ = some (.int .i64 m)) (hw0 : 0 < w.heap.size) :
    Calls Tryz.prog 14 #[.slice la l.length lc] w fun e w' => SiteRes w w' e ∧ Fr No w w' := by
  have hx : Fr No w (w.alloc (.cells #[.slice none 0 0] 25)) := (Fr.refl _ _).alloc _
  have b2 := block_alloc w (.cells #[.slice none 0 0] 25)
  have hsx : (w.alloc (.cells #[.slice none 0 0] 25)).heap.size = w.heap.size + 1 := by simp
  go_enter Tryz.func14, Tryz.ntmps14
  go_upto_region 1 with (fail)
  generalize w.alloc (.cells #[.slice none 0 0] 25) = Wx at *
  have hy : Fr No Wx (Wx.alloc (.cells #[.slice la l.length lc, .int .i64 0] 55)) := (Fr.refl _ _).alloc _
  have ht := Tape.make (hl.no hx (fun _ => id)) 55
  have hsy : (Wx.alloc (.cells #[.slice la l.length lc, .int .i64 0] 55)).heap.size = Wx.heap.size + 1 := by simp
  go_upto_region 2 with (fail)
  have hmy := hy.cell (hx.cell hm id) id
  have hxy := hx.step hy (fun _ _ h => h)
  have b2y := hy.heap b2 id
  rw [hsx] at ht hsy
  generalize Wx.alloc (.cells #[.slice la l.length lc, .int .i64 0] 55) = W1 at *
  clear hx hy b2 hm hl
  go_wp2_with fail
  refine (made_tree (w.heap.size + 1) (w.heap.size + 1) 0 10 m _ ht (by omega) (by omega) (by omega) hmy).mono ?_
  rintro e w1 ⟨ta, tc, ds, k1, hk1, hdl, rfl, hT, ht1, hf1⟩
  have hs1 := hf1.size
  have b21 := hf1.heap b2y (fun e => by unfold Is at e; omega)
  have hz : Fr No w1 (w1.alloc (.cells #[.slice ta ds.length tc] 25)) := (Fr.refl _ _).alloc _
  have b5 := block_alloc w1 (.cells #[.slice ta ds.length tc] 25)
  have hfw : Fr (From w.heap.size) w w1 := (hxy.mono (fun _ _ h => h.elim)).step hf1 (fun b _ e => by unfold Is at e; unfold From; omega)
  have Hk1 := Lib.hid hk1
  clear hxy hf1 b2y hmy ht hk1
  go_wp2_with fail
  have b2z := hz.heap b21 id
  have htz := ht1.fr hz (fun _ _ => id) id
  have hTz := hT.no hz
  have hfz := hfw.step hz (fun _ _ h => h.elim)
  have hsz := hz.size
  clear b21 ht1 hT hfw hz
  generalize w1.alloc (.cells #[.slice ta ds.length tc] 25) = W2 at *
  refine region_sig (fun b => b = w.heap.size + 1 ∨ b = w.heap.size) [(0, false), (1, false), (2, false), (3, true), (4, true), (5, false)] (by kernel_rfl) (by kernel_rfl) (fun w0 hf0 => ?_)
  have b2 := hf0.heap b2z id
  have b5 := hf0.heap b5 id
  have ht0 := htz.fr hf0 (fun _ _ => id) id
  have hT0 := hTz.no hf0
  have hfr0 := hfz.step hf0 (fun _ _ h => h.elim)
  have g5 : ∀ g : Gr (fun b => b = w.heap.size + 1 ∨ b = w.heap.size) w0, g.W.cell? ⟨w1.heap.size, 0, none⟩ = some (.slice ta ds.length tc) := fun g => g.fr.cell (cell_of_block b5 0) (by simp; omega)
  clear htz hTz hfz b2z
  repeat (apply sig_q; exact rfl; exact rfl; exact rfl; intro K hK; go_big_quiet_op; go_big_quiet_on)
  apply sig_m
  exact rfl
  go_wp2_with fail
  refine (made_seated (w.heap.size + 1) (w.heap.size + 1) k1 (W1.heap.size + 2) ta tc ds _ ht0 (by have := Hk1.out; omega) hT0 (by omega) (by omega)).mono ?_
  rintro e w3 ⟨⟨ra, rc, out, rfl, hR, hG, hRF, hfresh⟩, hf3⟩
  have b23 := hf3.heap b2 (fun e => by unfold Is at e; omega)
  have hs3 := hf3.size
  have hs0 := hf0.size
  have hT3 := hT0.fr hf3 (fun b hb e => by unfold Is at e; omega)
  have hfr3 := hfr0.step hf3 (fun b _ e => by unfold Is at e; unfold From; omega)
  have hset : Fr (Is w.heap.size) w3 (w3.setCell ⟨w.heap.size, 0, none⟩ (.slice ta ds.length tc)) := Fr.setAt (Fr.refl _ _) _
  have q2 := block_setCell b23 0 (.slice ta ds.length tc)
  have hT4 := hT3.fr hset (fun b hb e => by unfold Is at e; omega)
  have hR4 : Recs (w3.setCell ⟨w.heap.size, 0, none⟩ (.slice ta ds.length tc)) ra rc out := hR.low hset (fun ad e h => by have := hfresh ad e; unfold Is at h; omega) (fun r hr => ⟨fun ad e h => by have := (hRF r hr).1 ad e; unfold Is at h; omega, fun ad e h => by have := (hRF r hr).2 ad e; unfold Is at h; omega⟩)
  have hfr4 := hfr3.step hset (fun b _ e => by unfold Is at e; unfold From; omega)
  go_wp2_with fail
  refine OnlyN.mk ⟨hf3.mono (fun b _ e => .inl e), ?_⟩
  apply sig_m
  exact rfl
  have x2 : w3.cell? ⟨w.heap.size, 0, none⟩ = some (.slice none 0 0) := cell_of_block b23 0
  have f2 : w3.frozen? ⟨w.heap.size, 0, none⟩ = false := free_of_block b23 0
  have H := Lib.hid (And.intro hT4 (And.intro hR4 (And.intro hG (And.intro (hfr4.mono (T := No) (fun b hb h => by unfold From at h; omega)) q2))))
  clear hT4 hR4 hG hfr4 q2 hset hT3 hfr3 hT0 hR
  go_wp2_with fail
  refine OnlyN.mk ⟨Fr.setCell (Fr.refl _ _) (fun _ => .inr rfl) _, ?_⟩
  repeat (apply sig_q; exact rfl; exact rfl; exact rfl; intro K hK; go_big_quiet_op; go_big_quiet_on)
  refine sig_end ?_
  go_wp2_with fail
  have y2 : (w3.setCell ⟨w.heap.size, 0, none⟩ (.slice ta ds.length tc)).cell? ⟨w.heap.size, 0, none⟩ = some (.slice ta ds.length tc) := cell_of_block H.out.2.2.2.2 0
  refine bodyPost_ret (v := .tuple #[.agg #[.slice ta ds.length tc], .slice ra out.length rc]) (by simp [results, Tryz.results14, go_sem, y2]) rfl ?_
  exact ⟨⟨_, ta, tc, ds, ra, rc, out, rfl, ⟨hdl, H.out.1, H.out.2.1, H.out.2.2.1⟩⟩, H.out.2.2.2.1⟩
end Go.Proofs.YtpnpjaemlflplaaGreatDoor
