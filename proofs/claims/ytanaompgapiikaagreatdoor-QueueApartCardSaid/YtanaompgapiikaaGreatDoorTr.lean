/- Trees as lists of devices: looking up, chains, origins, and what an insertion keeps. Plain laws. -/
import Derived.Test.YtanaompgapiikaaGreatDoorD1
namespace Go.Proofs.YtanaompgapiikaaGreatDoor
set_option linter.unusedVariables false

def look (ds : List Dev) (n : Int) : Option Dev := ds.find? (fun d => decide (d.index = n))

theorem look_none {ds : List Dev} {n : Int} : look ds n = none ↔ ∀ d ∈ ds, d.index ≠ n := by
  unfold look; rw [List.find?_eq_none]; simp
theorem look_some {ds : List Dev} {n : Int} {d : Dev} (h : look ds n = some d) : d ∈ ds ∧ d.index = n := by
  unfold look at h
  exact ⟨List.mem_of_find?_eq_some h, by simpa using List.find?_some h⟩

theorem place_look : ∀ (ds : List Dev) (n : Int), (look ds n = none ∧ place ds n = -1) ∨ ∃ (k : Nat) (d : Dev), look ds n = some d ∧ place ds n = (k : Int) ∧ ds[k]? = some d
  | [], n => .inl ⟨rfl, rfl⟩
  | x :: t, n => by
    by_cases hx : x.index = n
    · exact .inr ⟨0, x, by simp [look, hx], by simp [place, hx], rfl⟩
    · have e1 : look (x :: t) n = look t n := by simp [look, hx]
      rw [e1]
      rcases place_look t n with ⟨h1, h2⟩ | ⟨k, d, h1, h2, h3⟩
      · exact .inl ⟨h1, by simp [place, hx, h2]⟩
      · refine .inr ⟨k + 1, d, h1, ?_, by simpa using h3⟩
        have : ¬ ((k : Int) < 0) := by omega
        simp [place, hx, h2, this]

theorem place_neg {ds : List Dev} {n : Int} : place ds n < 0 ↔ look ds n = none := by
  rcases place_look ds n with ⟨h1, h2⟩ | ⟨k, d, h1, h2, h3⟩
  · simp [h1, h2]
  · simp only [h1, h2]; constructor
    · intro h; omega
    · intro h; cases h
theorem devOf_look {ds : List Dev} {n : Int} {d : Dev} (h : look ds n = some d) : devOf ds n = d := by
  rcases place_look ds n with ⟨h1, h2⟩ | ⟨k, e, h1, h2, h3⟩
  · rw [h] at h1; cases h1
  · rw [h] at h1; cases h1
    unfold devOf
    rw [h2, if_neg (by omega), Int.toNat_natCast, h3]; rfl
theorem devOf_none {ds : List Dev} {n : Int} (h : look ds n = none) : devOf ds n = Dev.zero := by
  unfold devOf; rw [if_pos (place_neg.2 h)]

/-- A device and its ancestors, as far as the fuel goes. -/
def chainK (ds : List Dev) : Nat → Int → List Dev
  | 0, _ => []
  | k + 1, n => match look ds n with
    | none => []
    | some d => d :: chainK ds k d.parent
def chain (ds : List Dev) (n : Int) : List Dev := chainK ds ds.length n
def origin (ds : List Dev) (n : Int) : List ByteArray := ((chain ds n).map Dev.orig).reverse

theorem chainK_len (ds : List Dev) : ∀ (k : Nat) (n : Int), (chainK ds k n).length ≤ k
  | 0, _ => by simp [chainK]
  | k + 1, n => by
    unfold chainK
    cases look ds n with
    | none => simp
    | some d => have := chainK_len ds k d.parent; simp only [List.length_cons]; omega
theorem chain_len (ds : List Dev) (n : Int) : (chain ds n).length ≤ ds.length := chainK_len ds _ n
theorem chainK_mem (ds : List Dev) : ∀ (k : Nat) (n : Int) (d : Dev), d ∈ chainK ds k n → d ∈ ds
  | 0, _, d, h => by simp [chainK] at h
  | k + 1, n, d, h => by
    unfold chainK at h
    cases e : look ds n with
    | none => rw [e] at h; simp at h
    | some x =>
      rw [e] at h
      rcases List.mem_cons.1 h with h | h
      · subst h; exact (look_some e).1
      · exact chainK_mem ds k _ d h
theorem chain_mem {ds : List Dev} {n : Int} {d : Dev} (h : d ∈ chain ds n) : d ∈ ds := chainK_mem ds _ n d h
theorem chainK_none {ds : List Dev} {n : Int} (h : look ds n = none) (k : Nat) : chainK ds k n = [] := by
  cases k <;> simp [chainK, h]

/-- The chain of n is l, whole. -/
inductive Ch (ds : List Dev) : Int → List Dev → Prop
  | nil {n : Int} (h : look ds n = none) : Ch ds n []
  | cons {n : Int} {d : Dev} {l : List Dev} (h : look ds n = some d) (t : Ch ds d.parent l) : Ch ds n (d :: l)

theorem Ch.fuel {ds : List Dev} {n : Int} {l : List Dev} (h : Ch ds n l) : ∀ k, l.length ≤ k → chainK ds k n = l := by
  induction h with
  | nil h => intro k _; exact chainK_none h k
  | cons h t ih =>
    intro k hk
    cases k with
    | zero => simp at hk
    | succ k => unfold chainK; rw [h]; simp only [List.length_cons] at hk; simp only [ih k (by omega)]
theorem Ch.det {ds : List Dev} {n : Int} {l l' : List Dev} (h : Ch ds n l) (h' : Ch ds n l') : l = l' := by
  have e1 := h.fuel (max l.length l'.length) (by omega)
  have e2 := h'.fuel (max l.length l'.length) (by omega)
  exact e1.symm.trans e2
theorem Ch.mem {ds : List Dev} {n : Int} {l : List Dev} (h : Ch ds n l) : ∀ d ∈ l, d ∈ ds := by
  intro d hd
  rw [← h.fuel l.length (Nat.le_refl _)] at hd
  exact chainK_mem ds _ n d hd

/-- Every device's parent is 0 or stands ahead of it; the Indexes are different and positive. -/
structure TreeOk (ds : List Dev) : Prop where
  nd : (ds.map Dev.index).Nodup
  ix : ∀ d ∈ ds, 1 ≤ d.index ∧ d.index ≤ 1073741824
  pa : ∀ (k : Nat) (d : Dev), ds[k]? = some d → d.parent = 0 ∨ ∃ (j : Nat) (e : Dev), j < k ∧ ds[j]? = some e ∧ e.index = d.parent
  nm : ∀ d ∈ ds, OkN d.orig

theorem TreeOk.sz {ds : List Dev} (h : TreeOk ds) : ∀ d ∈ ds, d.orig.size ≤ 32 := fun d hd => (h.nm d hd).1
theorem TreeOk.nil : TreeOk [] := ⟨by simp, by simp, by simp, by simp⟩

section
variable {ds : List Dev}
theorem look_of_nodup : ∀ {ds : List Dev}, (ds.map Dev.index).Nodup → ∀ {d : Dev}, d ∈ ds → look ds d.index = some d
  | [], _, d, h => by simp at h
  | x :: t, hn, d, h => by
    simp only [List.map_cons, List.nodup_cons] at hn
    rcases List.mem_cons.1 h with h | h
    · subst h; simp [look]
    · have : x.index ≠ d.index := by
        intro e; apply hn.1; rw [e]; exact List.mem_map_of_mem h
      have h1 := look_of_nodup hn.2 h
      unfold look at h1 ⊢
      simp [this, h1]
theorem TreeOk.lk (h : TreeOk ds) {d : Dev} (hd : d ∈ ds) : look ds d.index = some d := look_of_nodup h.nd hd
theorem TreeOk.zero (h : TreeOk ds) : look ds 0 = none := look_none.2 fun d hd e => by have := (h.ix d hd).1; omega
theorem TreeOk.ch (h : TreeOk ds) : ∀ (k : Nat) (d : Dev), ds[k]? = some d → ∃ l, Ch ds d.index l ∧ l.length ≤ k + 1 := by
  intro k
  induction k using Nat.strongRecOn with
  | ind k ih =>
    intro d hd
    have hm := List.mem_of_getElem? hd
    rcases h.pa k d hd with h0 | ⟨j, e, hj, he, hi⟩
    · refine ⟨[d], .cons (h.lk hm) ?_, by simp⟩
      rw [h0]; exact .nil h.zero
    · obtain ⟨l, hl, hlen⟩ := ih j hj e he
      refine ⟨d :: l, .cons (h.lk hm) (by rw [← hi]; exact hl), by simp only [List.length_cons]; omega⟩
/-- The chain of a device: itself, and its parent's. -/
theorem TreeOk.chn (h : TreeOk ds) {n : Int} {d : Dev} (hl : look ds n = some d) : Ch ds n (chain ds n) := by
  obtain ⟨hd, rfl⟩ := look_some hl
  obtain ⟨k, hk⟩ := List.getElem?_of_mem hd
  obtain ⟨l, h1, h2⟩ := h.ch k d hk
  have hlt : k < ds.length := (List.getElem?_eq_some_iff.1 hk).1
  have e : chain ds d.index = l := h1.fuel ds.length (by omega)
  rw [e]; exact h1
theorem TreeOk.chn0 (h : TreeOk ds) (n : Int) : Ch ds n (chain ds n) := by
  cases e : look ds n with
  | none => rw [show chain ds n = [] from chainK_none e _]; exact .nil e
  | some d => exact h.chn e
theorem TreeOk.chain_cons (h : TreeOk ds) {n : Int} {d : Dev} (hl : look ds n = some d) : chain ds n = d :: chain ds d.parent := by
  exact (h.chn hl).det (.cons hl (h.chn0 _))
theorem TreeOk.chain_none {n : Int} (hl : look ds n = none) : chain ds n = [] := chainK_none hl _
theorem TreeOk.origin_cons (h : TreeOk ds) {n : Int} {d : Dev} (hl : look ds n = some d) : origin ds n = origin ds d.parent ++ [d.orig] := by
  unfold origin; rw [h.chain_cons hl]; simp
theorem TreeOk.origin_none {n : Int} (hl : look ds n = none) : origin ds n = [] := by
  unfold origin; rw [TreeOk.chain_none hl]; rfl
end

/-- The list with d at a place. -/
def insAt (ds : List Dev) (k : Nat) (d : Dev) : List Dev := ds.take k ++ d :: ds.drop k

theorem insAt_mem {ds : List Dev} {k : Nat} {d e : Dev} : e ∈ insAt ds k d ↔ e = d ∨ e ∈ ds := by
  unfold insAt
  have h : e ∈ ds ↔ e ∈ ds.take k ∨ e ∈ ds.drop k := by rw [← List.mem_append, List.take_append_drop]
  rw [List.mem_append, List.mem_cons, h]
  constructor
  · rintro (h | h | h)
    · exact .inr (.inl h)
    · exact .inl h
    · exact .inr (.inr h)
  · rintro (h | h | h)
    · exact .inr (.inl h)
    · exact .inl h
    · exact .inr (.inr h)
theorem insAt_len {ds : List Dev} {k : Nat} {d : Dev} : (insAt ds k d).length = ds.length + 1 := by
  unfold insAt
  have := congrArg List.length (List.take_append_drop k ds)
  simp only [List.length_append, List.length_cons] at this ⊢
  omega
theorem insAt_lo {ds : List Dev} {k i : Nat} {d : Dev} (hk : k ≤ ds.length) (hi : i < k) : (insAt ds k d)[i]? = ds[i]? := by
  unfold insAt
  rw [List.getElem?_append_left (by simp; omega), List.getElem?_take_of_lt hi]
theorem insAt_at {ds : List Dev} {k : Nat} {d : Dev} (hk : k ≤ ds.length) : (insAt ds k d)[k]? = some d := by
  unfold insAt
  rw [List.getElem?_append_right (by simp; omega)]
  simp [Nat.min_eq_left hk]
theorem insAt_hi {ds : List Dev} {k i : Nat} {d : Dev} (hk : k ≤ ds.length) (hi : k ≤ i) : (insAt ds k d)[i + 1]? = ds[i]? := by
  unfold insAt
  rw [List.getElem?_append_right (by simp; omega)]
  simp only [List.length_take, Nat.min_eq_left hk]
  rw [show i + 1 - k = (i - k) + 1 from by omega]
  simp only [List.getElem?_cons_succ, List.getElem?_drop]
  rw [show k + (i - k) = i from by omega]

theorem TreeOk.insert {ds : List Dev} (h : TreeOk ds) {k : Nat} {d : Dev} (hk : k ≤ ds.length) (hnew : look ds d.index = none) (hi : 1 ≤ d.index ∧ d.index ≤ 1073741824) (hs : OkN d.orig)
    (hp : d.parent = 0 ∨ ∃ (j : Nat) (e : Dev), j < k ∧ ds[j]? = some e ∧ e.index = d.parent) : TreeOk (insAt ds k d) := by
  have hno := look_none.1 hnew
  refine ⟨?_, ?_, ?_, ?_⟩
  · unfold insAt
    have h1 := h.nd
    rw [← List.take_append_drop k ds, List.map_append] at h1
    rw [List.map_append, List.map_cons]
    have h2 : ((d :: (ds.take k ++ ds.drop k)).map Dev.index).Nodup := by
      rw [List.map_cons, List.nodup_cons]
      refine ⟨?_, by rwa [List.map_append]⟩
      rw [List.take_append_drop]
      intro hm
      obtain ⟨e, he, hee⟩ := List.mem_map.1 hm
      exact hno e he hee
    rw [List.map_cons, List.map_append] at h2
    exact (List.perm_middle.nodup_iff).2 h2
  · intro e he
    rcases insAt_mem.1 he with rfl | he
    · exact hi
    · exact h.ix e he
  · intro i e he
    rcases Nat.lt_trichotomy i k with hik | rfl | hik
    · rw [insAt_lo hk hik] at he
      rcases h.pa i e he with h0 | ⟨j, f, hj, hf, hfi⟩
      · exact .inl h0
      · exact .inr ⟨j, f, hj, by rw [insAt_lo hk (by omega)]; exact hf, hfi⟩
    · rw [insAt_at hk] at he
      cases he
      rcases hp with h0 | ⟨j, f, hj, hf, hfi⟩
      · exact .inl h0
      · exact .inr ⟨j, f, hj, by rw [insAt_lo hk hj]; exact hf, hfi⟩
    · obtain ⟨i, rfl⟩ : ∃ m, i = m + 1 := ⟨i - 1, by omega⟩
      rw [insAt_hi hk (by omega)] at he
      rcases h.pa i e he with h0 | ⟨j, f, hj, hf, hfi⟩
      · exact .inl h0
      · by_cases hjk : j < k
        · exact .inr ⟨j, f, by omega, by rw [insAt_lo hk hjk]; exact hf, hfi⟩
        · exact .inr ⟨j + 1, f, by omega, by rw [insAt_hi hk (by omega)]; exact hf, hfi⟩
  · intro e he
    rcases insAt_mem.1 he with rfl | he
    · exact hs
    · exact h.nm e he
end Go.Proofs.YtanaompgapiikaaGreatDoor
/- What an insertion makes of chains and origins. Plain laws. -/
namespace Go.Proofs.YtanaompgapiikaaGreatDoor
set_option linter.unusedVariables false

theorem look_ins {ds : List Dev} {k : Nat} {d : Dev} (hnd : ((insAt ds k d).map Dev.index).Nodup) (hnew : look ds d.index = none) (n : Int) : look (insAt ds k d) n = if n = d.index then some d else look ds n := by
  split
  · rename_i e; subst e
    exact look_of_nodup hnd (insAt_mem.2 (.inl rfl))
  · rename_i hne
    cases hl : look ds n with
    | none =>
      rw [look_none] at hl ⊢
      intro e he
      rcases insAt_mem.1 he with rfl | he
      · exact fun h => hne h.symm
      · exact hl e he
    | some e =>
      obtain ⟨he, rfl⟩ := look_some hl
      exact look_of_nodup hnd (insAt_mem.2 (.inr he))

theorem Ch.ins {ds : List Dev} {k : Nat} {d : Dev} (hT : TreeOk ds) (hnd : ((insAt ds k d).map Dev.index).Nodup) (hnew : look ds d.index = none) (hi : 1 ≤ d.index) {n : Int} {l : List Dev} (h : Ch ds n l) (hn : n ≠ d.index) : Ch (insAt ds k d) n l := by
  induction h with
  | nil h => exact .nil (by rw [look_ins hnd hnew, if_neg hn]; exact h)
  | @cons n e l h t ih =>
    refine .cons (by rw [look_ins hnd hnew, if_neg hn]; exact h) (ih ?_)
    obtain ⟨he, _⟩ := look_some h
    obtain ⟨j, hj⟩ := List.getElem?_of_mem he
    rcases hT.pa j e hj with h0 | ⟨j', f, _, hf, hfi⟩
    · rw [h0]; omega
    · rw [← hfi]; exact look_none.1 hnew f (List.mem_of_getElem? hf)

/-- A tree whose origins are different and not too deep. -/
structure TreeWf (ds : List Dev) : Prop where
  ok : TreeOk ds
  uo : ∀ d ∈ ds, ∀ e ∈ ds, origin ds d.index = origin ds e.index → d = e
  dp : ∀ d ∈ ds, (origin ds d.index).length ≤ 7
theorem TreeWf.nil : TreeWf [] := ⟨TreeOk.nil, by simp, by simp⟩

theorem chain_of_ch {ds : List Dev} (hT : TreeOk ds) {n : Int} {l : List Dev} (h : Ch ds n l) : chain ds n = l := (hT.chn0 n).det h

theorem TreeWf.insert {ds : List Dev} (h : TreeWf ds) {k : Nat} {d : Dev} (hk : k ≤ ds.length) (hnew : look ds d.index = none) (hi : 1 ≤ d.index ∧ d.index ≤ 1073741824) (hs : OkN d.orig) (hne : d.parent ≠ d.index)
    (hp : d.parent = 0 ∨ ∃ (j : Nat) (e : Dev), j < k ∧ ds[j]? = some e ∧ e.index = d.parent) (ho : ∀ e ∈ ds, origin ds e.index ≠ origin ds d.parent ++ [d.orig]) (hd : (origin ds d.parent).length < 7) :
    TreeWf (insAt ds k d) ∧ (∀ n, n ≠ d.index → chain (insAt ds k d) n = chain ds n) ∧ chain (insAt ds k d) d.index = d :: chain ds d.parent := by
  have hT := h.ok.insert hk hnew hi hs hp
  have hold : ∀ n, n ≠ d.index → chain (insAt ds k d) n = chain ds n := fun n hn => chain_of_ch hT ((h.ok.chn0 n).ins h.ok hT.nd hnew hi.1 hn)
  have hself : chain (insAt ds k d) d.index = d :: chain ds d.parent := by
    rw [hT.chain_cons (hT.lk (insAt_mem.2 (.inl rfl))), hold _ hne]
  have oold : ∀ n, n ≠ d.index → origin (insAt ds k d) n = origin ds n := fun n hn => by unfold origin; rw [hold n hn]
  have oself : origin (insAt ds k d) d.index = origin ds d.parent ++ [d.orig] := by unfold origin; rw [hself]; simp
  have hno := look_none.1 hnew
  refine ⟨⟨hT, ?_, ?_⟩, hold, hself⟩
  · intro x hx y hy he
    rcases insAt_mem.1 hx with ex | hx'
    · rcases insAt_mem.1 hy with ey | hy'
      · rw [ex, ey]
      · rw [ex, oself, oold _ (hno y hy')] at he
        exact absurd he.symm (ho y hy')
    · rcases insAt_mem.1 hy with ey | hy'
      · rw [ey, oself, oold _ (hno x hx')] at he
        exact absurd he (ho x hx')
      · rw [oold _ (hno x hx'), oold _ (hno y hy')] at he
        exact h.uo x hx' y hy' he
  · intro x hx
    rcases insAt_mem.1 hx with ex | hx'
    · rw [ex, oself]; simp; omega
    · rw [oold _ (hno x hx')]; exact h.dp x hx'
end Go.Proofs.YtanaompgapiikaaGreatDoor
/- Plain laws of chains: a chain without its own device. -/
namespace Go.Proofs.YtanaompgapiikaaGreatDoor
open Go.RowKit
set_option linter.unusedVariables false

theorem Ch.sub {ds : List Dev} {n : Int} {l : List Dev} (h : Ch ds n l) : ∀ x ∈ l, ∃ m, Ch ds x.index m ∧ m.length ≤ l.length := by
  induction h with
  | nil h => intro x hx; cases hx
  | @cons n d l h t ih =>
    intro x hx
    rcases List.mem_cons.1 hx with rfl | hx
    · obtain ⟨_, rfl⟩ := look_some h
      exact ⟨_, .cons h t, Nat.le_refl _⟩
    · obtain ⟨m, h1, h2⟩ := ih x hx
      exact ⟨m, h1, by simp only [List.length_cons]; omega⟩
theorem Ch.ne {ds : List Dev} {n : Int} {d : Dev} {l : List Dev} (h : Ch ds n (d :: l)) : ∀ x ∈ l, x.index ≠ n := by
  intro x hx e
  cases h with
  | cons h t =>
    obtain ⟨m, h1, h2⟩ := t.sub x hx
    rw [e] at h1
    have := congrArg List.length (h1.det (.cons h t))
    simp only [List.length_cons] at this
    omega
/-- What the program's Ancestors gathers is the reference's chain without its first. -/
theorem TreeOk.anc {ds : List Dev} (h : TreeOk ds) (n : Int) : (chain ds n).filter (fun d => d.index != n) = (chain ds n).tail := by
  have hc := h.chn0 n
  generalize chain ds n = l at hc
  cases l with
  | nil => rfl
  | cons d l =>
    have h1 := hc.ne
    cases hc with
    | cons hl t =>
      obtain ⟨_, rfl⟩ := look_some hl
      rw [List.filter_cons]
      simp only [bne_self_eq_false, Bool.false_eq_true, if_false, List.tail_cons]
      exact List.filter_eq_self.2 fun x hx => by simpa using h1 x hx
end Go.Proofs.YtanaompgapiikaaGreatDoor
