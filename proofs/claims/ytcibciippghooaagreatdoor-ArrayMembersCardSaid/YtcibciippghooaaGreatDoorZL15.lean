/- tree.look, tree.Origin. tree.Origin, the view's find. The text of a content. -/
import Derived.Test.YtcibciippghooaaGreatDoorZL14
import Derived.Test.YtcibciippghooaaGreatDoorZL7
import Derived.Test.YtcibciippghooaaGreatDoorZL4
import Derived.Test.YtcibciippghooaaGreatDoorStrs
import Derived.Test.YtcibciippghooaaGreatDoorZL2
namespace Go.Proofs.YtcibciippghooaaGreatDoor
open Go.RowKit Go.Maps
set_option linter.unusedVariables false

def stepO (g : Int → Option ByteArray) (d : Dev) : Int → Option ByteArray := updO g d.index ((g d.parent).getD ⟨#[]⟩ ++ ⟨#[47]⟩ ++ d.orig)
/-- The origins, as look reckons them. -/
def ogs (l : List Dev) : Int → Option ByteArray := l.foldl stepO (fun _ => none)
/-- The path of a list of names. -/
def pathOf (l : List ByteArray) : ByteArray := l.foldl (fun s x => s ++ ⟨#[47]⟩ ++ x) ⟨#[]⟩
def plcs (ds : List Dev) (k : Nat) : Int → Option Int := fun n => (look (ds.take k) n).map fun _ => place ds n

theorem ogs_snoc (l : List Dev) (d : Dev) : ogs (l ++ [d]) = stepO (ogs l) d := by unfold ogs; rw [List.foldl_append]; rfl
theorem ogs_size {ds : List Dev} (h : ∀ d ∈ ds, d.orig.size ≤ 32) : ∀ (k : Nat) (n : Int), ((ogs (ds.take k) n).getD ⟨#[]⟩).size ≤ 33 * k
  | 0, n => by show (ByteArray.mk #[]).size ≤ _; exact Nat.zero_le _
  | k + 1, n => by
    by_cases hk : k < ds.length
    · have e : ds.take (k + 1) = ds.take k ++ [ds[k]] := by rw [List.take_add_one, List.getElem?_eq_getElem hk]; rfl
      have h1 := ogs_size h k ds[k].parent
      have h2 := ogs_size h k n
      have h3 := h ds[k] (List.getElem_mem hk)
      rw [e, ogs_snoc]
      unfold stepO updO
      split
      · simp only [Option.getD_some, ByteArray.size_append]
        have : (⟨#[47]⟩ : ByteArray).size = 1 := rfl
        omega
      · omega
    · have h2 := ogs_size h k n
      rw [List.take_of_length_le (by omega)] at h2 ⊢
      omega
theorem look_take {ds : List Dev} (hnd : (ds.map Dev.index).Nodup) {k : Nat} {d : Dev} (hd : ds[k]? = some d) (n : Int) : look (ds.take (k + 1)) n = if n = d.index then some d else look (ds.take k) n := by
  have e : ds.take (k + 1) = ds.take k ++ [d] := by rw [List.take_add_one, hd]; rfl
  have hnd' : ((ds.take k ++ [d]).map Dev.index).Nodup := by rw [← e]; exact (List.Sublist.map _ (List.take_sublist _ _)).nodup hnd
  rw [e]
  unfold look
  rw [List.find?_append]
  by_cases hn : n = d.index
  · rw [if_pos hn]
    have : (ds.take k).find? (fun x => decide (x.index = n)) = none := by
      rw [List.find?_eq_none]
      intro x hx hxn
      simp only [decide_eq_true_eq] at hxn
      rw [List.map_append, List.nodup_append] at hnd'
      exact hnd'.2.2 x.index (List.mem_map_of_mem hx) d.index (by simp) (by rw [hxn, hn])
    rw [this]; simp [hn]
  · rw [if_neg hn]
    have : ([d].find? (fun x => decide (x.index = n))) = none := by simp; exact fun h => hn h.symm
    rw [this]; simp
theorem plcs_step {ds : List Dev} (hT : TreeOk ds) {k : Nat} {d : Dev} (hd : ds[k]? = some d) : plcs ds (k + 1) = updO (plcs ds k) d.index (k : Int) := by
  funext n
  unfold plcs updO
  rw [look_take hT.nd hd]
  split
  · rename_i e
    subst e
    rcases place_look ds d.index with ⟨h1, h2⟩ | ⟨j, x, h1, h2, h3⟩
    · rw [hT.lk (List.mem_of_getElem? hd)] at h1; cases h1
    · rw [hT.lk (List.mem_of_getElem? hd)] at h1; cases h1
      rw [h2]
      have hj : j < ds.length := (List.getElem?_eq_some_iff.1 h3).1
      have hk : k < ds.length := (List.getElem?_eq_some_iff.1 hd).1
      have hp := List.pairwise_iff_getElem.1 hT.nd
      have e1 : ds[j].index = ds[k].index := by
        rw [List.getElem?_eq_getElem hj] at h3; rw [List.getElem?_eq_getElem hk] at hd
        rw [Option.some.inj h3, Option.some.inj hd]
      rcases Nat.lt_trichotomy j k with h | rfl | h
      · have hq := hp j k (by simpa using hj) (by simpa using hk) h
        rw [List.getElem_map, List.getElem_map] at hq
        exact absurd e1 hq
      · rfl
      · have hq := hp k j (by simpa using hk) (by simpa using hj) h
        rw [List.getElem_map, List.getElem_map] at hq
        exact absurd e1.symm hq
  · rfl
/-- What look's map of origins holds. -/
theorem ogs_eq {ds : List Dev} (hT : TreeOk ds) : ∀ (k : Nat), k ≤ ds.length → ∀ n, ogs (ds.take k) n = (look (ds.take k) n).map fun _ => pathOf (origin ds n)
  | 0, _, n => by simp [ogs, look]
  | k + 1, hk, n => by
    have hlt : k < ds.length := by omega
    have hd : ds[k]? = some ds[k] := List.getElem?_eq_getElem hlt
    have e : ds.take (k + 1) = ds.take k ++ [ds[k]] := by rw [List.take_add_one, hd]; rfl
    have ih := ogs_eq hT k (by omega)
    rw [look_take hT.nd hd, e, ogs_snoc]
    unfold stepO updO
    split
    · rename_i hn
      have ho : pathOf (origin ds n) = pathOf (origin ds ds[k].parent) ++ ⟨#[47]⟩ ++ ds[k].orig := by
        rw [hn, hT.origin_cons (hT.lk (List.getElem_mem hlt))]
        unfold pathOf; rw [List.foldl_append]; rfl
      have hp : (ogs (ds.take k) ds[k].parent).getD ⟨#[]⟩ = pathOf (origin ds ds[k].parent) := by
        rw [ih]
        rcases hT.pa k _ hd with h0 | ⟨j, f, hj, hf, hfi⟩
        · have hz : look (ds.take k) ds[k].parent = none := by
            rw [h0, look_none]; intro x hx e; have := (hT.ix x (List.mem_of_mem_take hx)).1; omega
          rw [hz, h0, TreeOk.origin_none hT.zero]; rfl
        · have hm : f ∈ ds.take k := by
            have : (ds.take k)[j]? = some f := by rw [List.getElem?_take_of_lt hj]; exact hf
            exact List.mem_of_getElem? this
          have hnd : ((ds.take k).map Dev.index).Nodup := (List.Sublist.map _ (List.take_sublist _ _)).nodup hT.nd
          have := look_of_nodup hnd hm
          rw [hfi] at this
          rw [this]; rfl
      rw [hp, ho]; rfl
    · exact ih n
theorem TreeOk.pwf {ds : List Dev} (h : TreeOk ds) {d : Dev} (hd : d ∈ ds) : (Lit.int .i64 d.parent).wf = true := by
  obtain ⟨k, hk⟩ := List.getElem?_of_mem hd
  rcases h.pa k d hk with h0 | ⟨j, e, _, he, hi⟩
  · rw [h0]; decide
  · rw [← hi]
    have := h.ix e (List.mem_of_getElem? he)
    exact WalkArith.wf_i64 (by omega)
theorem TreeOk.iwf {ds : List Dev} (h : TreeOk ds) {d : Dev} (hd : d ∈ ds) : (Lit.int .i64 d.index).wf = true := by
  have := h.ix d hd
  exact WalkArith.wf_i64 (by omega)

/-- What look hands back. -/
def ViewAt (w w' : World) (a : Option Addr) (cap : Nat) (ds : List Dev) (e : Ending) : Prop :=
  ∃ m1 m2, e = .returned (.agg #[.slice a ds.length cap, .map (some m1), .map (some m2)]) ∧ w.heap.size ≤ m1 ∧ w.heap.size ≤ m2 ∧ m1 ≠ m2 ∧ IMap w' m1 (plcs ds ds.length) ds.length ∧ SMap w' m2 (ogs ds) ds.length

def Two2 (x y : Nat) : Nat → Prop := fun b => b = x ∨ b = y

end Go.Proofs.YtcibciippghooaaGreatDoor
namespace Go.Proofs.YtcibciippghooaaGreatDoor
open Go.RowKit Go.Maps
set_option linter.unusedVariables false

/-- Block a view's parts stand for the tree ds. -/
def VAt (w : World) (m1 m2 : Nat) (ds : List Dev) : Prop := IMap w m1 (plcs ds ds.length) ds.length ∧ SMap w m2 (ogs ds) ds.length
theorem VAt.fr {S : Nat → Prop} {w w' : World} {m1 m2 : Nat} {ds : List Dev} (h : VAt w m1 m2 ds) (hf : Fr S w w') (h1 : ¬ S m1) (h2 : ¬ S m2) : VAt w' m1 m2 ds := ⟨h.1.fr hf h1, h.2.fr hf h2⟩
theorem plcs_all (ds : List Dev) (n : Int) : plcs ds ds.length n = (look ds n).map fun _ => place ds n := by unfold plcs; rw [List.take_of_length_le (Nat.le_refl _)]

def FindIs (ds : List Dev) (n : Int) (e : Ending) : Prop := (look ds n = none ∧ e = .returned (.tuple #[.agg Dev.zero.vals, .bool false])) ∨ ∃ d, look ds n = some d ∧ e = .returned (.tuple #[.agg d.vals, .bool true])

end Go.Proofs.YtcibciippghooaaGreatDoor
/- The view's up; the reference's ancestors. -/
namespace Go.Proofs.YtcibciippghooaaGreatDoor
open Go.RowKit Go.Maps
set_option linter.unusedVariables false

theorem Devs.tail {w : World} {b off cap : Nat} {x : Dev} {l : List Dev} (h : Devs w (some ⟨b, off, none⟩) cap (x :: l)) : Devs w (some ⟨b, off + 10, none⟩) (cap - 1) l := by
  have h1 := h.len
  have h2 := h.max
  simp only [List.length_cons] at h1
  refine ⟨by omega, by omega, (fun e => by cases e), fun ad e hne => ?_⟩
  cases e
  obtain ⟨_, h3, h4⟩ := h.cell _ rfl (by simp)
  refine ⟨rfl, h3, fun i d hi j hj => ?_⟩
  have := h4 (i + 1) d (by simpa using hi) j hj
  rw [show off + 10 + (i * 10 + j) = off + ((i + 1) * 10 + j) by omega]
  exact this

end Go.Proofs.YtcibciippghooaaGreatDoor
/- The reference's place: a path of names. -/
namespace Go.Proofs.YtcibciippghooaaGreatDoor
open Go.RowKit Go.Maps
set_option linter.unusedVariables false

theorem fold_bytes : ∀ (l : List ByteArray) (s : ByteArray), (l.foldl (fun s x => s ++ ⟨#[47]⟩ ++ x) s).data.toList = s.data.toList ++ Lib.joinTail [47] (l.map (·.data.toList))
  | [], s => by simp [Lib.joinTail]
  | x :: t, s => by
    rw [List.foldl_cons, fold_bytes t]
    simp [Lib.joinTail]
theorem path_bytes (l : List ByteArray) : (pathOf l).data.toList = Lib.joinTail [47] (l.map (·.data.toList)) := by
  unfold pathOf; rw [fold_bytes]; rfl
theorem path_join {l : List ByteArray} (h : l ≠ []) : (⟨#[47]⟩ : ByteArray) ++ ⟨(Lib.join (l.map (·.data.toList)) [47]).toArray⟩ = pathOf l := by
  refine bytes_eq ?_
  rw [path_bytes]
  cases l with
  | nil => exact absurd rfl h
  | cons x t => simp [Lib.join_cons, Lib.joinTail]
theorem tail_le : ∀ (l : List ByteArray), (∀ x ∈ l, x.size ≤ 32) → (Lib.joinTail [47] (l.map (·.data.toList))).length ≤ 33 * l.length
  | [], _ => by simp [Lib.joinTail]
  | x :: t, h => by
    have h1 := tail_le t (fun y hy => h y (List.mem_cons_of_mem _ hy))
    have h2 := h x (List.mem_cons_self ..)
    have h3 : x.data.toList.length = x.size := by simp
    simp only [Lib.joinTail, List.map_cons, List.flatten_cons, List.length_append, List.length_cons, List.length_nil, List.map_map] at h1 ⊢
    omega
theorem join_le {l : List ByteArray} (h : ∀ x ∈ l, x.size ≤ 32) : (Lib.join (l.map (·.data.toList)) [47]).length ≤ 33 * l.length := by
  cases l with
  | nil => simp [Lib.join, List.intercalate]
  | cons x t =>
    have := tail_le (x :: t) h
    simp only [List.map_cons, Lib.join_cons, Lib.joinTail, List.flatten_cons, List.length_append, List.length_cons, List.length_nil] at this ⊢
    omega

theorem origin_sz {ds : List Dev} (hT : TreeOk ds) (n : Int) : ∀ x ∈ origin ds n, x.size ≤ 32 := by
  intro x hx
  unfold origin at hx
  rw [List.mem_reverse] at hx
  obtain ⟨d, hd, rfl⟩ := List.mem_map.1 hx
  exact hT.sz d (chain_mem hd)

end Go.Proofs.YtcibciippghooaaGreatDoor
namespace Go.Proofs.YtcibciippghooaaGreatDoor
open Go.RowKit Go.Maps
set_option linter.unusedVariables false

theorem c_joined (av : Option Addr) (cv base : Nat) (n : List Ct) (w : World) (hown : w.ownsRow base 9 1 (.slice av n.length cv) n.length ((n.map Ct.txt).map Value.string)) (hs : (commas (n.map Ct.text)).length ≤ 1000) (hn : n.length ≤ 100000) :
    Calls Tryz.prog 72 #[.slice av n.length cv, .string ⟨#[44]⟩] w fun e w' => e = .returned (.string (inTxt n)) ∧ Fr No w w' := by
  cases n with
  | nil =>
    refine (Tryz.strings_Join_none av cv ⟨#[44]⟩ w).mono ?_
    rintro e w1 ⟨rfl, rfl⟩
    exact ⟨rfl, Fr.refl _ _⟩
  | cons c n =>
    have hlen : ((c :: n).map Ct.txt).length = (c :: n).length := List.length_map _
    rw [← hlen] at hown ⊢
    obtain ⟨a, cap, ev, hst, _⟩ := Strs.of_own hown
    cases ev
    obtain ⟨b, off, x, rfl, _, _⟩ := hst.at (k := 0) (by simp)
    obtain ⟨_, hb, hc⟩ := hst.cell _ rfl (by simp)
    refine (Tryz.strings_Join b off cv _ ⟨#[44]⟩ _ (fun j x hx => hc j x hx) hb (by rw [hlen]; omega) hst.len (by show (Lib.join _ [44]).length ≤ _; rw [in_len]; omega)).mono ?_
    rintro e w1 ⟨rfl, hf⟩
    exact ⟨by rw [← in_join], Fr.of_below_size hf⟩

set_option maxRecDepth 100000 in
set_option maxHeartbeats 2000000 in
theorem c_text_n (m : Nat) : m ≤ 10000 → ∀ (k s t e : Int) (i l : ByteArray) (n : List Ct) (a : Option Addr) (cap : Nat) (w : World) (X : Nat → Prop), Ct.counts n < m → InAt w X a cap n → (Ct.mk k i l s t e n).good = true → (Ct.mk k i l s t e n).text.length ≤ 1000 →
    Calls Tryz.prog 67 #[.agg #[.int .i64 k, .string i, .string l, .int .i64 s, .int .i64 t, .int .i64 e, .slice a n.length cap]] w fun en w2 => en = .returned (.string (Ct.mk k i l s t e n).txt) ∧ Fr No w w2 := by
  obtain ⟨i0, hi0, hz0, hz1, hz2⟩ := info_parts infoS
  induction m with
  | zero => intro _ k s t e i l n a cap w X h; omega
  | succ m ih =>
    intro hm k s t e i l n a cap w X hcn hin hgood htl
    have hnl := len_counts n
    have hga := good_alike hgood
    have hile := in_le hgood
    have hkd := alike_kind hga.1
    obtain ⟨his, hls⟩ := alike_small hga.1
    have hall : ∀ d ∈ n, d.good = true := fun d hd => List.all_eq_true.1 hga.2 d hd
    have htx : ∀ d ∈ n, d.text.length ≤ 1000 := fun d hd => by
      have h1 := commas_mem (List.mem_map_of_mem (f := Ct.text) hd)
      have h2 : (commas (n.map Ct.text)).length ≤ _ := hile
      omega
    have hin1000 : (commas (n.map Ct.text)).length ≤ 1000 := Nat.le_trans hile htl
    have Hall := Lib.hid hall
    have Htx := Lib.hid htx
    have Hkd := Lib.hid hkd
    have Hin1 := Lib.hid hin1000
    have h0 : Fr No w (w.alloc (.cells #[.int .i64 k, .string i, .string l, .int .i64 s, .int .i64 t, .int .i64 e, .slice a n.length cap] 48)) := (Fr.refl _ _).alloc _
    have q1 := block_alloc w (.cells #[.int .i64 k, .string i, .string l, .int .i64 s, .int .i64 t, .int .i64 e, .slice a n.length cap] 48)
    have hsz : w.heap.size < (w.alloc (.cells #[.int .i64 k, .string i, .string l, .int .i64 s, .int .i64 t, .int .i64 e, .slice a n.length cap] 48)).heap.size := by simp
    obtain ⟨W0, hW0⟩ : ∃ W0, W0 = w.alloc (.cells #[.int .i64 k, .string i, .string l, .int .i64 s, .int .i64 t, .int .i64 e, .slice a n.length cap] 48) := ⟨_, rfl⟩
    rw [← hW0] at h0 q1 hsz
    have hin0 := hin.fr h0 (fun _ _ => id)
    have c6 : W0.cell? ⟨w.heap.size, 6, none⟩ = some (.slice a n.length cap) := cell_of_block q1 6
    have Ih := Lib.hid (ih (by omega))
    have H0 := Lib.hid h0
    clear ih hin h0 hkd hall htx hga hgood hile htl
    go_enter Tryz.func67, Tryz.ntmps67
    go_upto_region 1 with (fail)
    rw [← hW0]
    clear hW0
    go_wp2_with fail
    go_loopw [3, 11] (fun v x wr => ∃ (j : Nat) (av : Option Addr) (cv : Nat), j ≤ n.length ∧ v = .slice av j cv ∧ x = .int .i64 (j : Int) ∧ wr.ownsRow W0.heap.size 9 1 (.slice av j cv) j (((n.take j).map Ct.txt).map Value.string) ∧ Fr (From W0.heap.size) W0 wr) (fun _ x _ => n.length - (intOf x).toNat)
    case atStart => exact ⟨0, none, 0, by omega, rfl, rfl, World.ownsRow_nil _ _ _ _, Fr.refl _ _⟩
    case round =>
      obtain ⟨j, av, cv, hj, rfl, rfl, hown, hfr⟩ := hrel
      by_cases hlt : j < n.length
      · have hlt' : (j : Int) < n.length := by omega
        obtain ⟨d, hd⟩ : ∃ d, n[j]? = some d := ⟨_, List.getElem?_eq_getElem hlt⟩
        have hdm := List.mem_of_getElem? hd
        have hdc := mem_count hdm
        have hdg := Hall.out d hdm
        have hdt := Htx.out d hdm
        have Htk : Hid (((n.take (j + 1)).map Ct.txt).map Value.string = ((n.take j).map Ct.txt).map Value.string ++ [.string d.txt]) := by unfold Hid; rw [List.take_add_one, hd]; simp
        obtain ⟨k1, i1, l1, s1, t1, e1, n1⟩ := d
        rw [Ct.count] at hdc
        have hin2 : InAt wr (fun b => b < W0.heap.size) a cap n := by
          have h3 := hin0.mono (Y := fun b => b < W0.heap.size) (fun b hb _ => hb)
          exact h3.fr hfr (fun b hb h => by unfold From at h; omega)
        obtain ⟨b, off, a', cap', rfl, hb, hX, ⟨y0, y1, y2, y3, y4, y5, y6⟩, hin1⟩ := hin2.at hd
        have hsr := hfr.size
        clear hd hin2 hdm
        go_wp2_with fail
        have hx : Fr No wr (wr.alloc (.cells #[.int .i64 k1, .string i1, .string l1, .int .i64 s1, .int .i64 t1, .int .i64 e1, .slice a' n1.length cap'] 48)) := (Fr.refl _ _).alloc _
        refine (Ih.out k1 s1 t1 e1 i1 l1 n1 a' cap' _ _ (by omega) (hin1.fr hx (fun _ _ => id)) hdg hdt).mono ?_
        rintro e w2 ⟨rfl, hf2⟩
        have hxf := hx.step hf2 (fun _ _ h => h)
        have Hfr := Lib.hid (hfr.step hxf (fun _ _ h => h.elim))
        have hown2 := ownsRow_fr hown hxf (fun _ _ h => h)
        have hs2 := hxf.size
        generalize (Ct.mk k1 i1 l1 s1 t1 e1 n1).txt = tx at *
        clear hx hf2 hfr y0 y1 y2 y3 y4 y5 y6 hin1 hown hxf hdg hdt
        go_wp2_with (at_builtin; refine wpList_append_own _ rfl _ _ 27 rfl W0.heap.size 9 i0 (.string ByteArray.empty) 1 16 Tryz.underlying27 hi0 hz0 hz1 hz2 rfl (by decide) _ _ _ rfl (hown2.alloc _) ⟨w2.heap.size, 0, none⟩ 1 1 [.string tx] rfl rfl (cell_one_new _ _ _) (strs_one [tx]) (by unfold maxLen; omega) (by omega) (by first | omega | (simp; done) | (simp; omega)) ?_; intro v' wb hownb hgrow _; obtain ⟨avb, cvb, rfl⟩ := ownsRow_slice hownb)
        have hg6 : Fr (From W0.heap.size) w2 wb := grown_fr hown2 hgrow
        have Hg6 := Lib.hid (Hfr.out.step hg6 (fun _ _ h => h))
        have Hown := Lib.hid hownb
        clear hownb hgrow hg6 hown2
        go_roundw
        case rel => exact ⟨j + 1, avb, cvb, by omega, rfl, by go_num, by rw [Htk.out]; exact Hown.out, Hg6.out⟩
        case measure => simp [intOf]; omega
      · have hlt' : ¬ (j : Int) < n.length := by omega
        obtain rfl : j = n.length := by omega
        rw [List.take_length] at hown
        have r1 := hfr.heap q1 (fun h => by unfold From at h; omega)
        have Hfr := Lib.hid (H0.out.trans (U := No) hfr (fun _ _ h => h) (fun b hb h => by unfold From at h; omega))
        have hjn := c_joined av cv _ n wr hown Hin1.out (by omega)
        clear hfr q1 c6 hown
        go_wp2_with fail
        refine hjn.mono ?_
        rintro en w5 ⟨rfl, hf5⟩
        have r5 := hf5.heap r1 id
        have Hf5 := Lib.hid (Hfr.out.step hf5 (fun _ _ h => h))
        have Hu : Hid ((⟨#[40]⟩ : ByteArray).size = 1 ∧ (⟨#[41]⟩ : ByteArray).size = 1 ∧ (⟨#[58]⟩ : ByteArray).size = 1 ∧ (⟨#[47]⟩ : ByteArray).size = 1) := ⟨rfl, rfl, rfl, rfl⟩
        have uin : (inTxt n).size ≤ 1000 := Hin1.out
        clear hjn hf5 r1
        have b1 : ¬ 9223372036854775807 < 1 + (inTxt n).size := by omega
        have b2 : ¬ 9223372036854775807 < 1 + (inTxt n).size + 1 := by omega
        have hb2 : (((⟨#[40]⟩ : ByteArray) ++ inTxt n ++ (⟨#[41]⟩ : ByteArray))).size ≤ 1002 := by have hu := Hu.out; simp only [ByteArray.size_append]; omega
        have Hbx : Hid (((⟨#[40]⟩ : ByteArray) ++ inTxt n ++ (⟨#[41]⟩ : ByteArray)) = boxed n) := rfl
        have Hb2 := Lib.hid hb2
        clear uin hb2
        go_upto_region 8 with (fail)
        generalize ((⟨#[40]⟩ : ByteArray) ++ inTxt n ++ (⟨#[41]⟩ : ByteArray)) = bx at *
        clear b1 b2
        have a0 : w5.cell? ⟨w.heap.size, 0, none⟩ = some (.int .i64 k) := cell_of_block r5 0
        have a1 : w5.cell? ⟨w.heap.size, 1, none⟩ = some (.string i) := cell_of_block r5 1
        have a2 : w5.cell? ⟨w.heap.size, 2, none⟩ = some (.string l) := cell_of_block r5 2
        have a3 : w5.cell? ⟨w.heap.size, 3, none⟩ = some (.int .i64 s) := cell_of_block r5 3
        have a4 : w5.cell? ⟨w.heap.size, 4, none⟩ = some (.int .i64 t) := cell_of_block r5 4
        have a5 : w5.cell? ⟨w.heap.size, 5, none⟩ = some (.int .i64 e) := cell_of_block r5 5
        have a6 : w5.cell? ⟨w.heap.size, 6, none⟩ = some (.slice a n.length cap) := cell_of_block r5 6
        rcases Hkd.out with ⟨rfl | rfl, rfl⟩ | ⟨rfl, h2⟩ | rfl | ⟨rfl, h4⟩ | rfl
        · go_wp2_with fail
          go_ret
          exact ⟨by rw [txt0]; rfl, Hf5.out⟩
        · have up : (⟨#[102, 115, 58]⟩ : ByteArray).size = 3 := rfl
          have hb2 := Hb2.out
          have z1 : ¬ 9223372036854775807 < 3 + i.size := by omega
          have z2 : ¬ 9223372036854775807 < 3 + i.size + 1 := by omega
          have z3 : ¬ 9223372036854775807 < 3 + i.size + 1 + l.size := by omega
          clear hb2 up
          go_wp2_with fail
          go_ret
          exact ⟨by rw [txt1]; rfl, Hf5.out⟩
        · obtain ⟨p0, p1, p2, p3, p4, p5⟩ := h2
          obtain ⟨sn, rfl⟩ := Int.eq_ofNat_of_zero_le (show 0 ≤ s by omega)
          obtain ⟨tn, rfl⟩ := Int.eq_ofNat_of_zero_le (show 0 ≤ t by omega)
          obtain ⟨en, rfl⟩ := Int.eq_ofNat_of_zero_le (show 0 ≤ e by omega)
          have up : (⟨#[114, 97, 105, 100, 58]⟩ : ByteArray).size = 5 := rfl
          have hb2 := Hb2.out
          obtain ⟨I0, hI0⟩ : ∃ I : ByteArray, I = numBA sn := ⟨_, rfl⟩
          have zi0 : I0.size ≤ 2 := by rw [hI0]; exact num_size (by omega) (by omega)
          have HI0 := Lib.hid hI0
          have G0 : ∀ W, Calls Tryz.prog 13 #[.int .i64 (sn : Int)] W fun e w' => e = .returned (.string I0) ∧ w' = W := by rw [hI0]; exact fun W => Tryz.strconv_Itoa_small sn (by omega) W
          have HG0 := Lib.hid G0
          obtain ⟨I1, hI1⟩ : ∃ I : ByteArray, I = numBA tn := ⟨_, rfl⟩
          have zi1 : I1.size ≤ 2 := by rw [hI1]; exact num_size (by omega) (by omega)
          have HI1 := Lib.hid hI1
          have G1 : ∀ W, Calls Tryz.prog 13 #[.int .i64 (tn : Int)] W fun e w' => e = .returned (.string I1) ∧ w' = W := by rw [hI1]; exact fun W => Tryz.strconv_Itoa_small tn (by omega) W
          have HG1 := Lib.hid G1
          obtain ⟨I2, hI2⟩ : ∃ I : ByteArray, I = numBA en := ⟨_, rfl⟩
          have zi2 : I2.size ≤ 2 := by rw [hI2]; exact num_size (by omega) (by omega)
          have HI2 := Lib.hid hI2
          have G2 : ∀ W, Calls Tryz.prog 13 #[.int .i64 (en : Int)] W fun e w' => e = .returned (.string I2) ∧ w' = W := by rw [hI2]; exact fun W => Tryz.strconv_Itoa_small en (by omega) W
          have HG2 := Lib.hid G2
          have z1 : ¬ 9223372036854775807 < 5 + i.size := by omega
          have z2 : ¬ 9223372036854775807 < 5 + i.size + 1 := by omega
          have z3 : ¬ 9223372036854775807 < 5 + i.size + 1 + I0.size := by omega
          have z4 : ¬ 9223372036854775807 < 5 + i.size + 1 + I0.size + 1 := by omega
          have z5 : ¬ 9223372036854775807 < 5 + i.size + 1 + I0.size + 1 + I1.size := by omega
          have z6 : ¬ 9223372036854775807 < 5 + i.size + 1 + I0.size + 1 + I1.size + 1 := by omega
          have z7 : ¬ 9223372036854775807 < 5 + i.size + 1 + I0.size + 1 + I1.size + 1 + I2.size := by omega
          have z8 : ¬ 9223372036854775807 < 5 + i.size + 1 + I0.size + 1 + I1.size + 1 + I2.size + bx.size := by omega
          clear hb2 up hI0 G0 hI1 G1 hI2 G2
          go_wp2_with fail
          refine region_sig No [(0, false), (1, false), (2, false), (3, false), (4, false), (5, false), (6, false), (10, false), (11, false), (12, false), (16, false), (17, false), (18, false), (21, false), (7, true), (8, false), (9, false), (13, true), (14, false), (15, false), (19, true), (20, false), (22, false), (23, false)] (by kernel_rfl) (by kernel_rfl) (fun w6 hf6 => ?_)
          have g1 : ∀ g : Gr No w6, g.W.cell? ⟨w.heap.size, 1, none⟩ = some (.string i) := fun g => g.fr.cell (hf6.cell a1 id) id
          have g3 : ∀ g : Gr No w6, g.W.cell? ⟨w.heap.size, 3, none⟩ = some (.int .i64 (sn : Int)) := fun g => g.fr.cell (hf6.cell a3 id) id
          have g4 : ∀ g : Gr No w6, g.W.cell? ⟨w.heap.size, 4, none⟩ = some (.int .i64 (tn : Int)) := fun g => g.fr.cell (hf6.cell a4 id) id
          have g5 : ∀ g : Gr No w6, g.W.cell? ⟨w.heap.size, 5, none⟩ = some (.int .i64 (en : Int)) := fun g => g.fr.cell (hf6.cell a5 id) id
          have Hf6 := Lib.hid (Hf5.out.step hf6 (fun _ _ h => h))
          clear a0 a1 a2 a3 a4 a5 a6 r5 hf6
          repeat (apply sig_q; exact rfl; exact rfl; exact rfl; intro K hK; go_big_quiet_op; go_big_quiet_on)
          clear g1 g3 g4 g5
          apply sig_m
          exact rfl
          go_wp2_with fail
          refine (HG0.out _).mono ?_
          rintro en w7 ⟨rfl, rfl⟩
          go_wp2_with fail
          refine OnlyN.mk ⟨Fr.refl _ _, ?_⟩
          repeat (apply sig_q; exact rfl; exact rfl; exact rfl; intro K hK; go_big_quiet_op; go_big_quiet_on)
          apply sig_m
          exact rfl
          go_wp2_with fail
          refine (HG1.out _).mono ?_
          rintro en w7 ⟨rfl, rfl⟩
          go_wp2_with fail
          refine OnlyN.mk ⟨Fr.refl _ _, ?_⟩
          repeat (apply sig_q; exact rfl; exact rfl; exact rfl; intro K hK; go_big_quiet_op; go_big_quiet_on)
          apply sig_m
          exact rfl
          go_wp2_with fail
          refine (HG2.out _).mono ?_
          rintro en w7 ⟨rfl, rfl⟩
          go_wp2_with fail
          refine OnlyN.mk ⟨Fr.refl _ _, ?_⟩
          repeat (apply sig_q; exact rfl; exact rfl; exact rfl; intro K hK; go_big_quiet_op; go_big_quiet_on)
          refine sig_end ?_
          go_wp2_with fail
          go_ret
          exact ⟨by rw [txt2, ← Hbx.out, ← HI0.out, ← HI1.out, ← HI2.out]; rfl, Hf6.out⟩
        · have up : (⟨#[99, 114, 121, 112, 116, 58]⟩ : ByteArray).size = 6 := rfl
          have hb2 := Hb2.out
          have z1 : ¬ 9223372036854775807 < 6 + i.size := by omega
          have z2 : ¬ 9223372036854775807 < 6 + i.size + bx.size := by omega
          clear hb2 up
          go_wp2_with fail
          go_ret
          exact ⟨by rw [txt3, ← Hbx.out]; rfl, Hf5.out⟩
        · obtain ⟨p0, p1, p2, p3⟩ := h4
          obtain ⟨sn, rfl⟩ := Int.eq_ofNat_of_zero_le (show 0 ≤ s by omega)
          obtain ⟨tn, rfl⟩ := Int.eq_ofNat_of_zero_le (show 0 ≤ t by omega)
          have up : (⟨#[112, 118, 58]⟩ : ByteArray).size = 3 := rfl
          have hb2 := Hb2.out
          obtain ⟨I0, hI0⟩ : ∃ I : ByteArray, I = numBA sn := ⟨_, rfl⟩
          have zi0 : I0.size ≤ 2 := by rw [hI0]; exact num_size (by omega) (by omega)
          have HI0 := Lib.hid hI0
          have G0 : ∀ W, Calls Tryz.prog 13 #[.int .i64 (sn : Int)] W fun e w' => e = .returned (.string I0) ∧ w' = W := by rw [hI0]; exact fun W => Tryz.strconv_Itoa_small sn (by omega) W
          have HG0 := Lib.hid G0
          obtain ⟨I1, hI1⟩ : ∃ I : ByteArray, I = numBA tn := ⟨_, rfl⟩
          have zi1 : I1.size ≤ 2 := by rw [hI1]; exact num_size (by omega) (by omega)
          have HI1 := Lib.hid hI1
          have G1 : ∀ W, Calls Tryz.prog 13 #[.int .i64 (tn : Int)] W fun e w' => e = .returned (.string I1) ∧ w' = W := by rw [hI1]; exact fun W => Tryz.strconv_Itoa_small tn (by omega) W
          have HG1 := Lib.hid G1
          have z1 : ¬ 9223372036854775807 < 3 + i.size := by omega
          have z2 : ¬ 9223372036854775807 < 3 + i.size + 1 := by omega
          have z3 : ¬ 9223372036854775807 < 3 + i.size + 1 + I0.size := by omega
          have z4 : ¬ 9223372036854775807 < 3 + i.size + 1 + I0.size + 1 := by omega
          have z5 : ¬ 9223372036854775807 < 3 + i.size + 1 + I0.size + 1 + I1.size := by omega
          have z6 : ¬ 9223372036854775807 < 3 + i.size + 1 + I0.size + 1 + I1.size + bx.size := by omega
          clear hb2 up hI0 G0 hI1 G1
          go_wp2_with fail
          refine region_sig No [(0, false), (1, false), (2, false), (3, false), (4, false), (5, false), (6, false), (10, false), (11, false), (12, false), (15, false), (7, true), (8, false), (9, false), (13, true), (14, false), (16, false), (17, false)] (by kernel_rfl) (by kernel_rfl) (fun w6 hf6 => ?_)
          have g1 : ∀ g : Gr No w6, g.W.cell? ⟨w.heap.size, 1, none⟩ = some (.string i) := fun g => g.fr.cell (hf6.cell a1 id) id
          have g3 : ∀ g : Gr No w6, g.W.cell? ⟨w.heap.size, 3, none⟩ = some (.int .i64 (sn : Int)) := fun g => g.fr.cell (hf6.cell a3 id) id
          have g4 : ∀ g : Gr No w6, g.W.cell? ⟨w.heap.size, 4, none⟩ = some (.int .i64 (tn : Int)) := fun g => g.fr.cell (hf6.cell a4 id) id
          have Hf6 := Lib.hid (Hf5.out.step hf6 (fun _ _ h => h))
          clear a0 a1 a2 a3 a4 a5 a6 r5 hf6
          repeat (apply sig_q; exact rfl; exact rfl; exact rfl; intro K hK; go_big_quiet_op; go_big_quiet_on)
          clear g1 g3 g4
          apply sig_m
          exact rfl
          go_wp2_with fail
          refine (HG0.out _).mono ?_
          rintro en w7 ⟨rfl, rfl⟩
          go_wp2_with fail
          refine OnlyN.mk ⟨Fr.refl _ _, ?_⟩
          repeat (apply sig_q; exact rfl; exact rfl; exact rfl; intro K hK; go_big_quiet_op; go_big_quiet_on)
          apply sig_m
          exact rfl
          go_wp2_with fail
          refine (HG1.out _).mono ?_
          rintro en w7 ⟨rfl, rfl⟩
          go_wp2_with fail
          refine OnlyN.mk ⟨Fr.refl _ _, ?_⟩
          repeat (apply sig_q; exact rfl; exact rfl; exact rfl; intro K hK; go_big_quiet_op; go_big_quiet_on)
          refine sig_end ?_
          go_wp2_with fail
          go_ret
          exact ⟨by rw [txt4, ← Hbx.out, ← HI0.out, ← HI1.out]; rfl, Hf6.out⟩
        · have up : (⟨#[116, 97, 98, 108, 101, 58]⟩ : ByteArray).size = 6 := rfl
          have hb2 := Hb2.out
          have z1 : ¬ 9223372036854775807 < 6 + i.size := by omega
          have z2 : ¬ 9223372036854775807 < 6 + i.size + bx.size := by omega
          clear hb2 up
          go_wp2_with fail
          go_ret
          exact ⟨by rw [txt5, ← Hbx.out]; rfl, Hf5.out⟩
end Go.Proofs.YtcibciippghooaaGreatDoor
