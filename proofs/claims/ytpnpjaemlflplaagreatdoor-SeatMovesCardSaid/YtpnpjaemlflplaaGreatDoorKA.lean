/- Seated; site. -/
import Derived.Test.YtpnpjaemlflplaaGreatDoorK8
import Derived.Deep.CutBlock
namespace Go.Proofs.YtpnpjaemlflplaaGreatDoor
open Go.RowKit Go.Maps
set_option linter.unusedVariables false

def tagAcc : ByteArray := ⟨#[117, 97, 99, 99, 101, 115, 115]⟩
def seat1 : ByteArray := ⟨#[115, 101, 97, 116, 49]⟩
def seat2 : ByteArray := ⟨#[115, 101, 97, 116, 50]⟩
/-- A record that Seated makes for a device. -/
structure RecG (ds : List Dev) (d : Dev) (r : Rec) : Prop where
  at_ : (r.index = d.index ∧ r.path = pathOf (origin ds d.index)) ∨ (r.index = d.index + 1 ∧ r.path = pathOf (origin ds d.index)) ∨ (r.index = d.index ∧ r.path = pathOf (origin ds d.index) ++ ⟨#[120]⟩)
  pr : r.props = [] ∨ ∃ v ∈ [seat1, seat2, seat0], r.props = [(keySeat, v)]
/-- The records stem from devices, in their order, one at most from each. -/
inductive GoodR (ds : List Dev) : List Dev → List Rec → Prop
  | nil : GoodR ds [] []
  | skip {q : List Dev} {out : List Rec} (h : GoodR ds q out) (x : Dev) : GoodR ds (q ++ [x]) out
  | put {q : List Dev} {out : List Rec} (h : GoodR ds q out) {x : Dev} {r : Rec} (hr : RecG ds x r) : GoodR ds (q ++ [x]) (out ++ [r])

/-- The record in the making. -/
structure SeatP (ds : List Dev) (x : Dev) (w1 wx : World) (B tb kmax : Nat) (r : Rec) : Prop where
  cells : wx.heap[w1.heap.size]? = some (.cells r.vals 42)
  good : RecG ds x r
  rt : RecT wx w1.heap.size tb r
  tape : ∃ kt', kt' ≤ kmax ∧ Tape wx B tb kt'
  fr : Fr (fun b => b = tb ∨ w1.heap.size ≤ b) w1 wx
theorem BlkT.off {w : World} {a : Option Addr} {T T' : TypeId} {b : Nat} {cs : Array Value} (h : BlkT w a T) (hb : w.heap[b]? = some (.cells cs T' (0, 0))) (hne : T ≠ T') : ∀ ad, a = some ad → ¬ Is b ad.block := by
  intro ad e h'
  obtain ⟨c, hc⟩ := h ad e
  unfold Is at h'
  rw [h', hb] at hc
  cases hc
  exact hne rfl
theorem SeatP.set {ds : List Dev} {x : Dev} {w1 wx : World} {B tb kmax i : Nat} {r r' : Rec} {v : Value} (h : SeatP ds x w1 wx B tb kmax r) (htb : tb < w1.heap.size) (hB : B ≤ tb) (hc : r.vals.setIfInBounds i v = r'.vals) (hg : RecG ds x r')
    (hok : RecOk wx r') (ht : BlkT wx r'.ta 9) (hp : BlkT wx r'.pa 45) (ft : ∀ ad, r'.ta = some ad → w1.heap.size ≤ ad.block) (fp : ∀ ad, r'.pa = some ad → w1.heap.size ≤ ad.block) :
    SeatP ds x w1 (wx.setCell ⟨w1.heap.size, i, none⟩ v) B tb kmax r' := by
  have hset : Fr (Is w1.heap.size) wx (wx.setCell ⟨w1.heap.size, i, none⟩ v) := Fr.setAt (Fr.refl _ _) _
  have q8 := block_setCell h.cells i v
  rw [hc] at q8
  obtain ⟨kt', hk, htp⟩ := h.tape
  refine ⟨q8, hg, RecT.fr ⟨hok, ht, hp, ft, fp⟩ hset (ht.off h.cells (by decide)) (hp.off h.cells (by decide)), ⟨kt', hk, htp.fr hset (fun b hb e => by unfold Is at e; omega) (fun e => by unfold Is at e; omega)⟩, h.fr.step hset (fun b _ e => .inr (by unfold Is at e; omega))⟩
theorem SeatP.step {ds : List Dev} {x : Dev} {w1 wx wy : World} {B tb kmax k' : Nat} {r : Rec} (h : SeatP ds x w1 wx B tb kmax r) (htb : tb < w1.heap.size) (hf : Fr (Is tb) wx wy) (hk : k' ≤ kmax + 100) {km : Nat} (hkm : k' ≤ km) (ht : Tape wy B tb k') : SeatP ds x w1 wy B tb km r :=
  ⟨hf.heap h.cells (fun e => by unfold Is at e; omega), h.good, h.rt.low hf (fun b h1 _ e => by unfold Is at e; omega), ⟨k', hkm, ht⟩, h.fr.step hf (fun b _ e => .inl e)⟩
theorem SeatP.no {ds : List Dev} {x : Dev} {w1 wx wy : World} {B tb kmax : Nat} {r : Rec} (h : SeatP ds x w1 wx B tb kmax r) (hf : Fr No wx wy) : SeatP ds x w1 wy B tb kmax r := by
  obtain ⟨kt', hk, htp⟩ := h.tape
  exact ⟨hf.heap h.cells id, h.good, h.rt.low hf (fun _ _ _ => id), ⟨kt', hk, htp.fr hf (fun _ _ => id) id⟩, h.fr.step hf (fun _ _ h => h.elim)⟩

theorem path_size {ds : List Dev} (hT : TreeOk ds) (n : Int) : (pathOf (origin ds n)).size ≤ 33 * ds.length := by
  have h1 : (pathOf (origin ds n)).size = (pathOf (origin ds n)).data.toList.length := by simp
  have h2 := tail_le (origin ds n) (origin_sz hT n)
  have h3 : (origin ds n).length ≤ ds.length := by unfold origin; simp; exact chain_len ds n
  rw [h1, path_bytes]
  omega
theorem atts_one {w : World} {b : Nat} {T : TypeId} {k v : ByteArray} (h : w.heap[b]? = some (.cells #[.string k, .string v] T (0, 0))) (hk : k.size ≤ maxLen) (hv : v.size ≤ maxLen) : Atts w (some ⟨b, 0, none⟩) 1 [(k, v)] := by
  refine ⟨by simp, by unfold maxLen; omega, (fun e => by cases e), fun x hx => by simp at hx; subst hx; exact ⟨hk, hv⟩, fun ad e _ => ?_⟩
  cases e
  refine ⟨rfl, lt_of_block h, fun i x hi => ?_⟩
  have : i = 0 := by have := (List.getElem?_eq_some_iff.1 hi).1; simp at this; omega
  subst this
  simp at hi; subst hi
  exact ⟨cell_of_block h 0, cell_of_block h 1⟩

/-- The records' properties and tags lie from a block on. -/
def RecsF (base : Nat) (out : List Rec) : Prop := ∀ r ∈ out, (∀ ad, r.ta = some ad → base ≤ ad.block) ∧ (∀ ad, r.pa = some ad → base ≤ ad.block)
set_option maxRecDepth 100000 in
set_option maxHeartbeats 2000000 in
theorem made_seated (B tb k0 tbase : Nat) (a : Option Addr) (cap : Nat) (ds : List Dev) (w : World) (ht : Tape w B tb k0) (hk : k0 ≤ 1000000) (hl : Tr w tbase a cap ds) (hn : ds.length ≤ 1000) (htb : tb < tbase) :
    Calls Tryz.prog 51 #[.pointer (some ⟨tb, 0, none⟩), .agg #[.slice a ds.length cap]] w fun e w' =>
      (∃ a' c' out, e = .returned (.slice a' out.length c') ∧ Recs w' a' c' out ∧ GoodR ds ds out ∧ RecsF w.heap.size out ∧ ∀ ad, a' = some ad → w.heap.size ≤ ad.block) ∧ Fr (Is tb) w w' := by
  obtain ⟨i0, hi0, hz0, hz1, hz2⟩ := info_parts infoR
  have hT := hl.wf.1
  have hm := hl.dv.lenmax
  have htl := ht.lt
  have hBt := ht.le
  have h0 : Fr No w (w.alloc (.cells #[.slice a ds.length cap] 25)) := (Fr.refl _ _).alloc _
  have q3 := block_alloc w (.cells #[.slice a ds.length cap] 25)
  have hs0 : (w.alloc (.cells #[.slice a ds.length cap] 25)).heap.size = w.heap.size + 1 := by simp
  have ht0 := ht.fr h0 (fun _ _ => id) id
  go_enter Tryz.func51, Tryz.ntmps51
  go_wp2_with fail
  generalize w.alloc (.cells #[.slice a ds.length cap] 25) = W0 at *
  go_loopw [5, 6] (fun v i wr => ∃ (k : Nat) (out : List Rec) (av : Option Addr) (cv kt : Nat), k ≤ ds.length ∧ out.length ≤ k ∧ kt ≤ k0 + 20 * k ∧ v = .slice av out.length cv ∧ i = .int .i64 (k : Int) ∧ wr.ownsRow (w.heap.size + 1) 42 12 (.slice av out.length cv) out.length (rflat out) ∧ (∀ r ∈ out, RecT wr (w.heap.size + 1) tb r) ∧ GoodR ds (ds.take k) out ∧ Tape wr B tb kt ∧ Fr (TB tb (w.heap.size + 1)) W0 wr) (fun _ i _ => ds.length - (intOf i).toNat)
  case atStart => exact ⟨0, [], none, 0, k0, by omega, by simp, by omega, rfl, rfl, World.ownsRow_nil _ _ _ _, by simp, GoodR.nil, ht0, Fr.refl _ _⟩
  case round =>
    obtain ⟨k, out, av, cv, kt, hk1, hk2, hk3, rfl, rfl, hown, hrt, hgd, htr, hfr⟩ := hrel
    have hwr : Fr (TB tb (w.heap.size + 1)) w wr := (h0.mono (fun _ _ h => h.elim)).step hfr (fun _ _ h => h)
    have hlr := hl.keep hwr (fun b h1 h2 h => by unfold TB at h; omega)
    have b3 := hfr.heap q3 (fun h => by unfold TB at h; omega)
    have c3 : wr.cell? ⟨w.heap.size, 0, none⟩ = some (.slice a ds.length cap) := cell_of_block b3 0
    by_cases hlt : k < ds.length
    · have hlt' : (k : Int) < ds.length := by omega
      obtain ⟨bb, off, x, hax, hxk, y0, y1, y2, y3, y4, y5, y6, y7, y8, y9⟩ := hlr.dv.dev hlt
      have Htk : Hid (ds.take (k + 1) = ds.take k ++ [x]) := by unfold Hid; rw [List.take_add_one, hxk]; rfl
      have hsr := hfr.size
      have Hax := Lib.hid hax
      subst hax
      clear hxk y1 y2 y3 y4 y5 y6 y8 y9
      go_wp2_with fail
      refine (ref_place _ cap ds x.index _ hlr.dv hT (by omega)).mono ?_
      rintro e w1 ⟨rfl, hf1⟩
      obtain ⟨p, hp⟩ : ∃ p, p = pathOf (origin ds x.index) := ⟨_, rfl⟩
      rw [← hp]
      have hps : p.size ≤ 33000 := by have := path_size hT x.index; rw [hp]; omega
      have hps' : p.size + 1 ≤ 9223372036854775807 := by omega
      have Hp := Lib.hid hp
      clear hp
      have hf1' := hfr.step hf1 (fun _ _ h => h.elim)
      have ht1 := (htr.fr hf1 (fun _ _ => id) id)
      have ht2 := ht1.fr ((Fr.refl No w1).alloc (.cells #[.string p, .int .i64 x.index, .slice none 0 0, .slice none 0 0, .slice none 0 0, .slice none 0 0, .slice none 0 0, .string ⟨#[]⟩, .int .i64 0, .string ⟨#[]⟩, .string ⟨#[]⟩, .int .i64 0] 42)) (fun _ _ => id) id
      have b8 := block_alloc w1 (.cells #[.string p, .int .i64 x.index, .slice none 0 0, .slice none 0 0, .slice none 0 0, .slice none 0 0, .slice none 0 0, .string ⟨#[]⟩, .int .i64 0, .string ⟨#[]⟩, .string ⟨#[]⟩, .int .i64 0] 42)
      have hs1 := hf1.size
      go_wp2_with fail
      refine (tape_next B tb kt 12 _ ht2 (by omega) (by omega) (by omega)).mono ?_
      rintro e w2 ⟨r0, rfl, hr1, hr2, ht3, hf2⟩
      have Hc : Hid (RecG ds x ⟨p, x.index, [], [], none, 0, none, 0, none, 0, 0, none, 0, 0, none, 0, 0, ⟨#[]⟩, 0, ⟨#[]⟩, ⟨#[]⟩, 0⟩) := ⟨.inl ⟨rfl, Hp.out⟩, .inl rfl⟩
      have hix := hT.ix x (by have := Htk.out; exact List.mem_of_mem_take (i := k + 1) (by rw [this]; simp))
      have p8 := hf2.heap b8 (fun e => by unfold Is at e; omega)
      have z0 : w2.cell? ⟨w1.heap.size, 0, none⟩ = some (.string p) := cell_of_block p8 0
      have z1 : w2.cell? ⟨w1.heap.size, 1, none⟩ = some (.int .i64 x.index) := cell_of_block p8 1
      have v0 : w2.frozen? ⟨w1.heap.size, 0, none⟩ = false := free_of_block p8 0
      have v1 : w2.frozen? ⟨w1.heap.size, 1, none⟩ = false := free_of_block p8 1
      have hfa : Fr (fun b => b = tb ∨ w1.heap.size ≤ b) w1 w2 := ((Fr.refl _ w1).alloc _).step hf2 (fun b _ h => .inl h)
      have hs2 := hfa.size
      have hl2 : w1.heap.size < w2.heap.size := lt_of_block p8
      have Hown := Lib.hid (ownsRow_fr hown hf1 (fun _ _ => id))
      have Hrt := Lib.hid (fun r hr => (hrt r hr).low hf1 (fun _ _ _ => id))
      have Hf1' := Lib.hid hf1'
      have Hgd := Lib.hid hgd
      have Hlr := Lib.hid hlr
      have Hb3 := Lib.hid (hf1.heap b3 id)
      have Hhp := Lib.hid (And.intro hk1 (And.intro hk2 hk3))
      clear hown hrt hf1' hgd hlr b3 c3 hf1 ht1 ht2 b8 htr hwr hf2 hfr y0 y7
      go_upto_block 2 with (fail)
      go_cut [] (fun wx => ∃ r : Rec, SeatP ds x w1 wx B tb (kt + 2) r)
      case first =>
        by_cases e0 : r0 = 0
        · subst e0
          have Hgs : Hid (GoodR ds (ds.take (k + 1)) out) := by unfold Hid; rw [Htk.out]; exact GoodR.skip Hgd.out x
          have Hn := Lib.hid (And.intro (ownsRow_at Hown.out hfa (fun b hb h => by have h1 := ownsRow_lt Hown.out hb; have h2 := ownsRow_blk Hown.out hb; unfold From at h2; omega)) (And.intro (fun r hr => (Hrt.out r hr).low hfa (fun b hb hb2 h => by omega)) (Hf1'.out.step hfa (fun b _ h => h.elim (fun e => .inl e) (fun h => .inr (by omega))))))
          go_wp2_with fail
          go_roundw
          case rel => exact ⟨k + 1, out, av, cv, kt + 1, by omega, by have := Hhp.out.2.1; omega, by have := Hhp.out.2.2; omega, rfl, by go_num, Hn.out.1, Hn.out.2.1, Hgs.out, ht3, Hn.out.2.2⟩
          case measure => simp [intOf]; omega
        · by_cases e1 : r0 = 1
          · subst e1
            have hset : Fr (Is w1.heap.size) w2 (w2.setCell ⟨w1.heap.size, 1, none⟩ (.int .i64 (x.index + 1))) := Fr.setAt (Fr.refl _ _) _
            have q8 := block_setCell p8 1 (.int .i64 (x.index + 1))
            have Hq := Lib.hid (And.intro hset q8)
            clear hset q8
            go_wp2_with fail
            go_meet
            exact ⟨⟨p, x.index + 1, [], [], none, 0, none, 0, none, 0, 0, none, 0, 0, none, 0, 0, ⟨#[]⟩, 0, ⟨#[]⟩, ⟨#[]⟩, 0⟩, ⟨by simpa [Rec.vals] using Hq.out.2, ⟨.inr (.inl ⟨rfl, Hp.out⟩), .inl rfl⟩, ⟨⟨Atts.nil _, Strs.nil _⟩, BlkT.none _ _, BlkT.none _ _, (fun _ e => by cases e), (fun _ e => by cases e)⟩, ⟨kt + 1, by omega, ht3.fr Hq.out.1 (fun b hb e => by unfold Is at e; omega) (fun e => by unfold Is at e; omega)⟩, hfa.step Hq.out.1 (fun b _ e => .inr (by unfold Is at e; omega))⟩⟩
          · by_cases e2 : r0 = 2
            · subst e2
              have hset : Fr (Is w1.heap.size) w2 (w2.setCell ⟨w1.heap.size, 0, none⟩ (.string (p ++ ⟨#[120]⟩))) := Fr.setAt (Fr.refl _ _) _
              have q8 := block_setCell p8 0 (.string (p ++ ⟨#[120]⟩))
              have Hq := Lib.hid (And.intro hset q8)
              clear hset q8
              go_wp2_with fail
              go_meet
              exact ⟨⟨p ++ ⟨#[120]⟩, x.index, [], [], none, 0, none, 0, none, 0, 0, none, 0, 0, none, 0, 0, ⟨#[]⟩, 0, ⟨#[]⟩, ⟨#[]⟩, 0⟩, ⟨by simpa [Rec.vals] using Hq.out.2, ⟨.inr (.inr ⟨rfl, by rw [← Hp.out]⟩), .inl rfl⟩, ⟨⟨Atts.nil _, Strs.nil _⟩, BlkT.none _ _, BlkT.none _ _, (fun _ e => by cases e), (fun _ e => by cases e)⟩, ⟨kt + 1, by omega, ht3.fr Hq.out.1 (fun b hb e => by unfold Is at e; omega) (fun e => by unfold Is at e; omega)⟩, hfa.step Hq.out.1 (fun b _ e => .inr (by unfold Is at e; omega))⟩⟩
            · by_cases e3 : r0 = 3 ∨ r0 = 4 ∨ r0 = 5
              · have hA : Fr No w2 (w2.alloc (.cells #[.string seat1, .string seat2, .string seat0] 9)) := (Fr.refl _ _).alloc _
                have hSA : Strs (w2.alloc (.cells #[.string seat1, .string seat2, .string seat0] 9)) (some ⟨w2.heap.size, 0, none⟩) 3 [seat1, seat2, seat0] := Strs.of_block (l := [seat1, seat2, seat0]) (block_alloc _ _) (by unfold maxLen; simp)
                have hone := tape_one B tb (kt + 1) (some ⟨w2.heap.size, 0, none⟩) 3 [seat1, seat2, seat0] _ (ht3.fr hA (fun _ _ => id) id) (by omega) hSA (by simp) (by simp) (fun ad e => by cases e; show w2.heap.size ≠ tb; omega)
                have HA := Lib.hid (And.intro hA hone)
                clear hA hSA hone
                have hgo : ∀ (w3 : World) (v : ByteArray), v ∈ [seat1, seat2, seat0] → Tape w3 B tb (kt + 2) → Fr (Is tb) (w2.alloc (.cells #[.string seat1, .string seat2, .string seat0] 9)) w3 →
                    Hid ((∀ o, (w3.alloc o).cell? ⟨w1.heap.size, 2, none⟩ = some (.slice none 0 0) ∧ (w3.alloc o).frozen? ⟨w1.heap.size, 2, none⟩ = false) ∧
                    ∃ r : Rec, SeatP ds x w1 ((w3.alloc (.cells #[.string keySeat, .string v] 45)).setCell ⟨w1.heap.size, 2, none⟩ (.slice (some ⟨w3.heap.size, 0, none⟩) 1 1)) B tb (kt + 2) r) := by
                  intro w3 v hv ht4 hf3
                  have g8 := hf3.heap (HA.out.1.heap p8 id) (fun e => by unfold Is at e; omega)
                  have hs3 := hf3.size
                  rw [World.size_alloc] at hs3
                  have gA : Fr No w3 (w3.alloc (.cells #[.string keySeat, .string v] 45)) := (Fr.refl _ _).alloc _
                  have gS : Fr (Is w1.heap.size) (w3.alloc (.cells #[.string keySeat, .string v] 45)) ((w3.alloc (.cells #[.string keySeat, .string v] 45)).setCell ⟨w1.heap.size, 2, none⟩ (.slice (some ⟨w3.heap.size, 0, none⟩) 1 1)) := Fr.setAt (Fr.refl _ _) _
                  have gB := gS.heap (block_alloc w3 (.cells #[.string keySeat, .string v] 45)) (fun e => by unfold Is at e; omega)
                  have hvs : v.size ≤ maxLen := by simp at hv; rcases hv with rfl | rfl | rfl <;> decide
                  refine ⟨fun o => ⟨cell_of_block (((Fr.refl No w3).alloc o).heap g8 id) 2, free_of_block (((Fr.refl No w3).alloc o).heap g8 id) 2⟩, ⟨p, x.index, [(keySeat, v)], [], some ⟨w3.heap.size, 0, none⟩, 1, none, 0, none, 0, 0, none, 0, 0, none, 0, 0, ⟨#[]⟩, 0, ⟨#[]⟩, ⟨#[]⟩, 0⟩, ⟨?_, ⟨.inl ⟨rfl, Hp.out⟩, .inr ⟨v, hv, rfl⟩⟩, ⟨⟨atts_one gB (by decide) hvs, Strs.nil _⟩, BlkT.none _ _, (fun ad e => by cases e; exact ⟨_, gB⟩), (fun _ e => by cases e), (fun ad e => by cases e; show w1.heap.size ≤ w3.heap.size; omega)⟩, ⟨kt + 2, Nat.le_refl _, (ht4.fr gA (fun _ _ => id) id).fr gS (fun b hb e => by unfold Is at e; omega) (fun e => by unfold Is at e; omega)⟩, ?_⟩⟩
                  · have := block_setCell (gA.heap g8 id) 2 (.slice (some ⟨w3.heap.size, 0, none⟩) 1 1)
                    simpa [Rec.vals] using this
                  · exact (((hfa.step HA.out.1 (fun _ _ h => h.elim)).step hf3 (fun b _ e => .inl e)).step gA (fun _ _ h => h.elim)).step gS (fun b _ e => .inr (by unfold Is at e; omega))
                have Hgo := Lib.hid hgo
                clear hgo
                rcases e3 with rfl | rfl | rfl
                all_goals
                  clear e0 e1 e2
                  unfold seat1 seat2 seat0 keySeat at *
                  go_wp2_with fail
                  refine HA.out.2.mono ?_
                  rintro e w3 ⟨⟨v, rfl, hv⟩, ht4, hf3⟩
                  have hG := Hgo.out w3 v hv ht4 hf3
                  have c2 := fun o => (hG.out.1 o).1
                  have f2 := fun o => (hG.out.1 o).2
                  go_wp2_with fail
                  go_meet
                  exact hG.out.2
              · have d0 : (r0 == 0) = false := by simpa using e0
                have d1 : (r0 == 1) = false := by simpa using e1
                have d2 : (r0 == 2) = false := by simpa using e2
                have d3 : (r0 == 3) = false := by simp; omega
                have d4 : (r0 == 4) = false := by simp; omega
                have d5 : (r0 == 5) = false := by simp; omega
                clear e0 e1 e2 e3
                go_wp2_with fail
                go_meet
                exact ⟨⟨p, x.index, [], [], none, 0, none, 0, none, 0, 0, none, 0, 0, none, 0, 0, ⟨#[]⟩, 0, ⟨#[]⟩, ⟨#[]⟩, 0⟩, ⟨p8, Hc.out, ⟨⟨Atts.nil _, Strs.nil _⟩, BlkT.none _ _, BlkT.none _ _, (fun _ e => by cases e), (fun _ e => by cases e)⟩, ⟨kt + 1, by omega, ht3⟩, hfa⟩⟩
      case rest =>
        obtain ⟨r, hP⟩ := hcut
        have htw : tb < w1.heap.size := by omega
        obtain ⟨kt', hkt, htc⟩ := hP.tape
        have hlw := hP.fr.size
        have hA : Fr No wc (wc.alloc (.cells #[.string tagMaster, .string tagSeat, .string tagAcc] 9)) := (Fr.refl _ _).alloc _
        have hSA : Strs (wc.alloc (.cells #[.string tagMaster, .string tagSeat, .string tagAcc] 9)) (some ⟨wc.heap.size, 0, none⟩) 3 [tagMaster, tagSeat, tagAcc] := Strs.of_block (l := [tagMaster, tagSeat, tagAcc]) (block_alloc _ _) (by unfold maxLen; simp)
        have hsome := made_some B tb kt' (some ⟨wc.heap.size, 0, none⟩) 3 [tagMaster, tagSeat, tagAcc] _ (htc.fr hA (fun _ _ => id) id) (by simp; omega) hSA (by simp) (fun ad e => by cases e; show wc.heap.size ≠ tb; omega)
        have HS := Lib.hid hsome
        have HP := Lib.hid (hP.no hA)
        have hbnd : kt' ≤ 2000000 := by omega
        clear hA hSA hsome hP htc
        unfold tagMaster tagSeat tagAcc at HS
        go_wp2_with fail
        refine HS.out.mono ?_
        rintro e w3 ⟨⟨q, a', c', rfl, hSq, hfq, hbq⟩, ht4, hf3⟩
        have hP3 := HP.out.step htw hf3 (k' := kt' + 3) (by omega) (km := kt + 5) (by omega) (by simpa using ht4)
        have hsc := HP.out.fr.size
        have g3 : w3.cell? ⟨w1.heap.size, 3, none⟩ = some (.slice r.ta r.tags.length r.tc) := cell_of_block hP3.cells 3
        have f3 : w3.frozen? ⟨w1.heap.size, 3, none⟩ = false := free_of_block hP3.cells 3
        have hP4 := hP3.set (i := 3) (v := .slice a' q.length c') (r' := { r with tags := q, ta := a', tc := c' }) htw hBt (by simp [Rec.vals]) ⟨hP3.good.at_, hP3.good.pr⟩ ⟨hP3.rt.ok.props, hSq⟩ hbq hP3.rt.tp (fun ad e => by have h5 := hfq ad e; rw [World.size_alloc] at h5; omega) hP3.rt.fp
        obtain ⟨k4, hk4, ht4'⟩ := hP4.tape
        have hnext := tape_next B tb k4 2 _ ht4' (by omega) (by omega) (by omega)
        have HN := Lib.hid hnext
        have HP4 := Lib.hid hP4
        clear hP4 hP3 hnext hf3 ht4 ht4' HS HP hSq hfq hbq
        generalize ({ r with tags := q, ta := a', tc := c' } : Rec) = r4 at *
        go_wp2_with fail
        refine HN.out.mono ?_
        rintro e w5 ⟨r1, rfl, hr11, hr12, ht5, hf5⟩
        have hP5 := HP4.out.step htw hf5 (k' := k4 + 1) (by omega) (km := kt + 6) (by omega) ht5
        have HP5 := Lib.hid hP5
        clear HP4 HN hf5 ht5 hP5 g3 f3
        have hcut1 : True := trivial
        go_upto_if 59 with (fail)
        go_cut [] (fun wx => ∃ r5 : Rec, SeatP ds x w1 wx B tb (kt + 6) r5)
        case first =>
          rcases hz : (r1 == 0) with _ | _
          · go_wp2_with fail
            go_meet
            exact ⟨r4, HP5.out⟩
          · have hA : Fr No w5 (w5.alloc (.cells #[.string tagSeat, .string tagAcc] 9)) := (Fr.refl _ _).alloc _
            have hSA : Strs (w5.alloc (.cells #[.string tagSeat, .string tagAcc] 9)) (some ⟨w5.heap.size, 0, none⟩) 2 [tagSeat, tagAcc] := Strs.of_block (l := [tagSeat, tagAcc]) (block_alloc _ _) (by unfold maxLen; simp)
            have hP6 := HP5.out.no hA
            have hsz5 := HP5.out.fr.size
            have hP7 := hP6.set (i := 3) (v := .slice (some ⟨w5.heap.size, 0, none⟩) 2 2) (r' := { r4 with tags := [tagSeat, tagAcc], ta := some ⟨w5.heap.size, 0, none⟩, tc := 2 }) htw hBt (by simp [Rec.vals]) ⟨hP6.good.at_, hP6.good.pr⟩ ⟨hP6.rt.ok.props, hSA⟩ (fun ad e => by cases e; exact ⟨_, block_alloc _ _⟩) hP6.rt.tp (fun ad e => by cases e; exact hsz5) hP6.rt.fp
            have g3 : ∀ o, (w5.alloc o).cell? ⟨w1.heap.size, 3, none⟩ = some (.slice r4.ta r4.tags.length r4.tc) := fun o => cell_of_block (((Fr.refl No w5).alloc o).heap HP5.out.cells id) 3
            have f3 : ∀ o, (w5.alloc o).frozen? ⟨w1.heap.size, 3, none⟩ = false := fun o => free_of_block (((Fr.refl No w5).alloc o).heap HP5.out.cells id) 3
            have HP7 := Lib.hid hP7
            clear hP6 hP7 hA hSA
            unfold tagSeat tagAcc at HP7
            go_wp2_with fail
            go_meet
            exact ⟨_, HP7.out⟩
        case rest =>
          obtain ⟨r5, hP8⟩ := hcut
          have hwc : Fr (TB tb (w.heap.size + 1)) w wc := ((h0.mono (fun _ _ h => h.elim)).step Hf1'.out (fun _ _ h => h)).step hP8.fr (fun b _ h => h.elim (fun e => .inl e) (fun h => .inr (by omega)))
          have hlc := hl.keep hwc (fun b h1 h2 h => by unfold TB at h; omega)
          obtain ⟨bb', off', x', hbe, hxk', _, _, _, _, _, _, _, y7, _, _⟩ := hlc.dv.dev hlt
          cases hbe
          have hxx : x' = x := by
            have h1 := Htk.out
            rw [List.take_add_one, hxk'] at h1
            simpa using h1
          subst hxx
          have c3 : wc.cell? ⟨w.heap.size, 0, none⟩ = some (.slice (some ⟨bb, off, none⟩) ds.length cap) := cell_of_block (hP8.fr.heap Hb3.out (fun h => by omega)) 0
          have HP8 := Lib.hid hP8
          have g9 : wc.cell? ⟨w1.heap.size, 9, none⟩ = some (.string r5.owner) := cell_of_block hP8.cells 9
          have g10 : wc.cell? ⟨w1.heap.size, 10, none⟩ = some (.string r5.group) := cell_of_block hP8.cells 10
          have g11 : wc.cell? ⟨w1.heap.size, 11, none⟩ = some (.int .i64 r5.mode) := cell_of_block hP8.cells 11
          have f9 : wc.frozen? ⟨w1.heap.size, 9, none⟩ = false := free_of_block hP8.cells 9
          have f10 : wc.frozen? ⟨w1.heap.size, 10, none⟩ = false := free_of_block hP8.cells 10
          have f11 : wc.frozen? ⟨w1.heap.size, 11, none⟩ = false := free_of_block hP8.cells 11
          clear hP8 hxk' hlc hwc HP5
          go_upto_region 20 with (fail)
          go_cut [77] (fun v wx => (∃ bk, v = .bool bk) ∧ wc = wx)
          case first =>
            rcases hk2' : (x'.kind == 2) with _ | _
            · rcases hk3' : (x'.kind == 3) with _ | _
              · go_wp2_with fail
                go_meet
                exact ⟨⟨_, rfl⟩, rfl⟩
              · go_wp2_with fail
                go_meet
                exact ⟨⟨_, rfl⟩, rfl⟩
            · go_wp2_with fail
              go_meet
              exact ⟨⟨_, rfl⟩, rfl⟩
          case rest =>
          obtain ⟨⟨bk, rfl⟩, hwe⟩ := hcut
          subst hwe
          clear c3 y7
          go_upto_if 77 with (fail)
          go_cut [] (fun wx => ∃ r6 : Rec, SeatP ds x' w1 wx B tb (kt + 6) r6)
          case first =>
            have hP9 := HP8.out.set (i := 9) (v := .string ⟨#[114, 111, 111, 116]⟩) (r' := { r5 with owner := ⟨#[114, 111, 111, 116]⟩ }) htw hBt (by simp [Rec.vals]) ⟨HP8.out.good.at_, HP8.out.good.pr⟩ ⟨HP8.out.rt.ok.props, HP8.out.rt.ok.tags⟩ HP8.out.rt.tt HP8.out.rt.tp HP8.out.rt.ft HP8.out.rt.fp
            have hPa := hP9.set (i := 10) (v := .string ⟨#[114, 111, 111, 116]⟩) (r' := { r5 with owner := ⟨#[114, 111, 111, 116]⟩, group := ⟨#[114, 111, 111, 116]⟩ }) htw hBt (by simp [Rec.vals]) ⟨HP8.out.good.at_, HP8.out.good.pr⟩ ⟨hP9.rt.ok.props, hP9.rt.ok.tags⟩ hP9.rt.tt hP9.rt.tp hP9.rt.ft hP9.rt.fp
            have hPb := hPa.set (i := 11) (v := .int .i64 384) (r' := { r5 with owner := ⟨#[114, 111, 111, 116]⟩, group := ⟨#[114, 111, 111, 116]⟩, mode := 384 }) htw hBt (by simp [Rec.vals]) ⟨HP8.out.good.at_, HP8.out.good.pr⟩ ⟨hPa.rt.ok.props, hPa.rt.ok.tags⟩ hPa.rt.tt hPa.rt.tp hPa.rt.ft hPa.rt.fp
            have HPb := Lib.hid hPb
            clear hP9 hPa hPb
            cases bk
            · go_wp2_with fail
              go_meet
              exact ⟨r5, HP8.out⟩
            · go_wp2_with fail
              go_meet
              exact ⟨_, HPb.out⟩
          case rest =>
            obtain ⟨r6, hP10⟩ := hcut
            have l0 : wc.cell? ⟨w1.heap.size, 0, none⟩ = some (.string r6.path) := cell_of_block hP10.cells 0
            have l1 : wc.cell? ⟨w1.heap.size, 1, none⟩ = some (.int .i64 r6.index) := cell_of_block hP10.cells 1
            have l2 : wc.cell? ⟨w1.heap.size, 2, none⟩ = some (.slice r6.pa r6.props.length r6.pc) := cell_of_block hP10.cells 2
            have l3 : wc.cell? ⟨w1.heap.size, 3, none⟩ = some (.slice r6.ta r6.tags.length r6.tc) := cell_of_block hP10.cells 3
            have l4 : wc.cell? ⟨w1.heap.size, 4, none⟩ = some (.slice r6.la r6.ln r6.lc) := cell_of_block hP10.cells 4
            have l5 : wc.cell? ⟨w1.heap.size, 5, none⟩ = some (.slice r6.ra r6.rn r6.rc) := cell_of_block hP10.cells 5
            have l6 : wc.cell? ⟨w1.heap.size, 6, none⟩ = some (.slice r6.oa r6.on r6.oc) := cell_of_block hP10.cells 6
            have l7 : wc.cell? ⟨w1.heap.size, 7, none⟩ = some (.string r6.name) := cell_of_block hP10.cells 7
            have l8 : wc.cell? ⟨w1.heap.size, 8, none⟩ = some (.int .i64 r6.prio) := cell_of_block hP10.cells 8
            have l9 : wc.cell? ⟨w1.heap.size, 9, none⟩ = some (.string r6.owner) := cell_of_block hP10.cells 9
            have l10 : wc.cell? ⟨w1.heap.size, 10, none⟩ = some (.string r6.group) := cell_of_block hP10.cells 10
            have l11 : wc.cell? ⟨w1.heap.size, 11, none⟩ = some (.int .i64 r6.mode) := cell_of_block hP10.cells 11
            have hown6 := ownsRow_at Hown.out hP10.fr (fun b hb h => by have h1 := ownsRow_lt Hown.out hb; have h2 := ownsRow_blk Hown.out hb; unfold From at h2; omega)
            have hszc := hP10.fr.size
            have hol : out.length ≤ 1000 := by have := Hhp.out.2.1; omega
            have HP := Lib.hid hP10
            clear hP10 g9 g10 g11 f9 f10 f11
            go_wp2_with (at_builtin; refine wpList_append_own _ rfl _ _ 26 rfl (w.heap.size + 1) 42 i0 (.agg #[.string ByteArray.empty, .int .i64 0, .slice none 0 0, .slice none 0 0, .slice none 0 0, .slice none 0 0, .slice none 0 0, .string ByteArray.empty, .int .i64 0, .string ByteArray.empty, .string ByteArray.empty, .int .i64 0]) 12 208 Tryz.underlying26 hi0 hz0 hz1 hz2 rfl (by decide) _ _ _ rfl (hown6.alloc _) ⟨wc.heap.size, 0, none⟩ 1 1 r6.vals.toList rfl rfl (cells_new _ r6.vals _ rfl) (rvals_one r6) (by unfold maxLen; omega) (by omega) (by simp; omega) ?_; intro v' w6 hown7 hgrow6 _; obtain ⟨av', cv', rfl⟩ := ownsRow_slice hown7)
            have hal : Fr No wc (wc.alloc (.cells r6.vals 42)) := (Fr.refl _ _).alloc _
            have hgf : Fr (fun b => (Value.slice av out.length cv).ownBlock = some b) (wc.alloc (.cells r6.vals 42)) w6 := Fr.of_grown hgrow6
            have howa : (wc.alloc (.cells r6.vals 42)).ownsRow (w.heap.size + 1) 42 12 (.slice av out.length cv) out.length (rflat out) := hown6.alloc _
            obtain ⟨k6, hk6, ht6⟩ := (HP.out.no hal).tape
            have ht7 := ht6.fr hgf (fun b hb h => by have h2 := ownsRow_blk hown6 h; unfold From at h2; omega) (fun h => by have h2 := ownsRow_blk hown6 h; unfold From at h2; omega)
            have hrt7 : ∀ r ∈ out ++ [r6], RecT w6 (w.heap.size + 1) tb r := by
              intro r hr
              rcases List.mem_append.1 hr with h | h
              · exact (((Hrt.out r h).low HP.out.fr (fun b h1 h2 h3 => by omega)).low hal (fun _ _ _ => id)).own howa hgf
              · simp at h; subst h
                have h6 := (HP.out.no hal).rt
                exact RecT.own (tb := tb) ⟨h6.ok, h6.tt, h6.tp, fun ad e => by have := h6.ft ad e; omega, fun ad e => by have := h6.fp ad e; omega⟩ howa hgf
            have hfr7 : Fr (TB tb (w.heap.size + 1)) W0 w6 := ((Hf1'.out.step HP.out.fr (fun b _ h => h.elim (fun e => .inl e) (fun h => .inr (by omega)))).step hal (fun _ _ h => h.elim)).step hgf (fun b _ h => .inr (ownsRow_blk hown6 h))
            have hgd7 : GoodR ds (ds.take (k + 1)) (out ++ [r6]) := by rw [Htk.out]; exact GoodR.put Hgd.out HP.out.good
            have HF := Lib.hid (And.intro hown7 (And.intro hrt7 (And.intro hgd7 (And.intro ht7 (And.intro hfr7 hk6)))))
            clear hown7 hrt7 hgd7 ht7 hfr7 hgrow6 howa hgf hal hown6 ht6
            go_roundw
            case rel => exact ⟨k + 1, out ++ [r6], av', cv', k6, by omega, by have := Hhp.out.2.1; simp; omega, by have := Hhp.out.2.2; have := HF.out.2.2.2.2.2; omega, by simp, by go_num, by rw [List.length_append, rflat_snoc]; exact HF.out.1, HF.out.2.1, HF.out.2.2.1, HF.out.2.2.2.1, HF.out.2.2.2.2.1⟩
            case measure => simp [intOf]; omega
    · obtain rfl : k = ds.length := by omega
      rw [List.take_length] at hgd
      obtain ⟨a', c', hv, hR, hfresh⟩ := Recs.of_own hown (fun r hr => (hrt r hr).ok)
      cases hv
      have hRF : RecsF w.heap.size out := fun r hr => ⟨fun ad e => by have := (hrt r hr).ft ad e; omega, fun ad e => by have := (hrt r hr).fp ad e; omega⟩
      have H := Lib.hid (And.intro hR (And.intro (And.intro hgd hRF) (And.intro hfresh (hwr.mono (T := Is tb) (fun b hb h => by unfold TB at h; unfold Is; omega)))))
      clear hown hrt hgd htr hfr hwr hlr hR hfresh b3
      go_wp2_with fail
      go_ret
      exact ⟨⟨_, _, out, rfl, H.out.1, H.out.2.1.1, H.out.2.1.2, fun ad e => by have := H.out.2.2.1 ad e; omega⟩, H.out.2.2.2⟩
end Go.Proofs.YtpnpjaemlflplaaGreatDoor
