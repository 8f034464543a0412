/- The reference's Batch and Free against the program's. Plain. -/
import Derived.Test.YtanaompgapiikaaGreatDoorPA
namespace Go.Proofs.YtanaompgapiikaaGreatDoor
open Go.RowKit Go.Maps
set_option linter.unusedVariables false

theorem chain_below {ds : List Dev} (hT : TreeOk ds) (f : Int → Bool) : ∀ (q p : List Dev) (R : Int → Bool), ds = p ++ q → (∀ e ∈ p, (∃ y ∈ chain ds e.index, f y.index = true) → R e.index = true) → ∀ d ∈ q, (∃ y ∈ chain ds d.index, f y.index = true) → d ∈ belowL f q R
  | [], p, R, _, _, d, hd, _ => by simp at hd
  | x :: t, p, R, he, hR, d, hd, hg => by
    have hxm : x ∈ ds := by rw [he]; simp
    have hxk : ds[p.length]? = some x := by rw [he, List.getElem?_append_right (Nat.le_refl _)]; simp
    have hx : (∃ y ∈ chain ds x.index, f y.index = true) → (f x.index || R x.parent) = true := by
      rintro ⟨y, hy, hf⟩
      rw [hT.chain_cons (hT.lk hxm)] at hy
      rcases List.mem_cons.1 hy with rfl | hy
      · rw [hf]; rfl
      · rcases hT.pa _ x hxk with h0 | ⟨j, e, hj, hej, hi⟩
        · rw [h0, TreeOk.chain_none hT.zero] at hy; simp at hy
        · have hep : e ∈ p := by
            rw [he, List.getElem?_append_left hj] at hej
            exact List.mem_of_getElem? hej
          rw [← hi] at hy ⊢
          rw [hR e hep ⟨y, hy, hf⟩, Bool.or_true]
    have he2 : ds = (p ++ [x]) ++ t := by rw [he]; simp
    rw [belowL_cons]
    by_cases hb : (f x.index || R x.parent) = true
    · rw [if_pos hb]
      rcases List.mem_cons.1 hd with rfl | hd
      · simp
      · refine List.mem_cons_of_mem _ (chain_below hT f t (p ++ [x]) _ he2 (fun e hep hge => ?_) d hd hg)
        unfold upd
        by_cases e1 : e.index = x.index
        · rw [if_pos e1]
        · rw [if_neg e1]
          rcases List.mem_append.1 hep with h | h
          · exact hR e h hge
          · simp at h; subst h; exact absurd rfl e1
    · rw [if_neg hb]
      rcases List.mem_cons.1 hd with rfl | hd
      · exact absurd (hx hg) hb
      · refine chain_below hT f t (p ++ [x]) R he2 (fun e hep hge => ?_) d hd hg
        rcases List.mem_append.1 hep with h | h
        · exact hR e h hge
        · simp at h; subst h; exact absurd (hx hge) hb

theorem wait_iff {ds : List Dev} (hT : TreeOk ds) (dl bl : List Int) (x : Int) : x ∈ (waitD ds dl bl).map Dev.index ↔ ∃ y ∈ chain ds x, y.index ∈ dl ++ bl := by
  constructor
  · intro h
    obtain ⟨w, hw, rfl⟩ := List.mem_map.1 h
    obtain ⟨y, hy, hf⟩ := below_chain hT _ ds _ (fun _ h => h) (fun x hx => by cases hx) w hw
    exact ⟨y, hy, of_decide_eq_true hf⟩
  · rintro ⟨y, hy, hf⟩
    cases hl : look ds x with
    | none => rw [TreeOk.chain_none hl] at hy; simp at hy
    | some d =>
      obtain ⟨hd, rfl⟩ := look_some hl
      exact List.mem_map_of_mem (chain_below hT _ ds [] _ rfl (by simp) d hd ⟨y, hy, decide_eq_true hf⟩)

/-- The reference's Sisters. -/
def sisB (ds : List Dev) (i j : Int) : Bool := (partOf ds i).isSome && (partOf ds j).isSome && (i != j) && ((devOf ds i).parent == (devOf ds j).parent)
/-- Nothing above is dirty or busy. -/
def upOk (ds : List Dev) (dl bl : List Int) (i : Int) : Bool := (chain ds i).tail.all fun y => !decide (y.index ∈ dl) && !decide (y.index ∈ bl)
def bOk (ds : List Dev) (dl bl out : List Int) (i : Int) : Bool := !decide (i ∈ bl) && upOk ds dl bl i && bl.all (fun k => !sisB ds i k) && out.all (fun k => !sisB ds i k)
/-- The reference's Batch, one Index after the other. -/
def batchS (ds : List Dev) (dl bl : List Int) : List Int → List Int → List Int
  | [], out => out
  | i :: t, out => batchS ds dl bl t (if bOk ds dl bl out i = true then out ++ [i] else out)
theorem batchS_snoc (ds : List Dev) (dl bl : List Int) : ∀ (q out : List Int) (i : Int), batchS ds dl bl (q ++ [i]) out = if bOk ds dl bl (batchS ds dl bl q out) i = true then batchS ds dl bl q out ++ [i] else batchS ds dl bl q out
  | [], out, i => rfl
  | x :: t, out, i => batchS_snoc ds dl bl t _ i
theorem batchS_len (ds : List Dev) (dl bl : List Int) : ∀ (q out : List Int), (batchS ds dl bl q out).length ≤ out.length + q.length
  | [], out => by simp [batchS]
  | x :: t, out => by
    have h := batchS_len ds dl bl t (if bOk ds dl bl out x = true then out ++ [x] else out)
    show (batchS ds dl bl t _).length ≤ _
    have h2 : (if bOk ds dl bl out x = true then out ++ [x] else out).length ≤ out.length + 1 := by split <;> simp
    simp only [List.length_cons]
    omega
theorem batchS_sub (ds : List Dev) (dl bl : List Int) : ∀ (q out : List Int) (y : Int), y ∈ batchS ds dl bl q out → y ∈ out ∨ y ∈ q
  | [], out, y, h => .inl h
  | x :: t, out, y, h => by
    rcases batchS_sub ds dl bl t _ y h with h | h
    · split at h
      · rcases List.mem_append.1 h with h | h
        · exact .inl h
        · simp at h; subst h; exact .inr (by simp)
      · exact .inl h
    · exact .inr (List.mem_cons_of_mem _ h)

/-- The parents of what was taken. -/
def outPar (ds : List Dev) (out : List Int) (y : Int) : Bool := out.any fun o => (partOf ds o).isSome && decide ((devOf ds o).parent = y)
theorem part_look {ds : List Dev} {n : Int} (h : (partOf ds n).isSome = true) : ∃ d ∈ ds, d.index = n ∧ look ds n = some d := by
  unfold partOf at h
  cases hl : look ds n with
  | none => rw [hl] at h; cases h
  | some d => obtain ⟨h1, h2⟩ := look_some hl; exact ⟨d, h1, h2, rfl⟩

theorem par_iff {ds : List Dev} (hT : TreeOk ds) (dl bl : List Int) (y : Int) : parF ds (fun x => decide (x ∈ bl)) (waitD ds dl bl) y = true ↔ ∃ b ∈ bl, (partOf ds b).isSome = true ∧ (devOf ds b).parent = y := by
  unfold parF
  rw [List.any_eq_true]
  constructor
  · rintro ⟨d, hd, h⟩
    simp only [Bool.and_eq_true, decide_eq_true_eq] at h
    have hdm := belowL_sub _ _ _ d hd
    exact ⟨d.index, h.1.2, h.1.1, by rw [devOf_look (hT.lk hdm)]; exact h.2⟩
  · rintro ⟨b, hb, hp, e⟩
    obtain ⟨d, hd, rfl, hl⟩ := part_look hp
    have hw : d.index ∈ (waitD ds dl bl).map Dev.index := (wait_iff hT dl bl d.index).2 ⟨d, by rw [hT.chain_cons hl]; simp, by simp [hb]⟩
    obtain ⟨d', hd', e'⟩ := List.mem_map.1 hw
    have hd'm : d' ∈ ds := belowL_sub _ _ _ d' hd'
    have : d' = d := by
      have h1 := hT.lk hd'm
      rw [e', hl] at h1
      exact (Option.some.inj h1).symm
    subst this
    refine ⟨d', hd', ?_⟩
    rw [devOf_look hl] at e
    simp [hp, hb, e]

theorem bOk_eq {ds : List Dev} (hT : TreeOk ds) (dl bl out : List Int) {par : Int → Bool} {d : Dev} (hd : d ∈ ds) (hno : d.index ∉ out) (hpar : ∀ y, par y = (parF ds (fun x => decide (x ∈ bl)) (waitD ds dl bl) y || outPar ds out y)) :
    (decide (d.index ∈ bl) || decide ((devOf ds d.index).parent ∈ (waitD ds dl bl).map Dev.index) || ((partOf ds d.index).isSome && par (devOf ds d.index).parent)) = !bOk ds dl bl out d.index := by
  have hdev : devOf ds d.index = d := devOf_look (hT.lk hd)
  have hup : upOk ds dl bl d.index = !decide (d.parent ∈ (waitD ds dl bl).map Dev.index) := by
    rw [Bool.eq_iff_iff]
    unfold upOk
    rw [hT.chain_cons (hT.lk hd), List.tail_cons, List.all_eq_true, Bool.not_eq_true', decide_eq_false_iff_not, wait_iff hT]
    constructor
    · rintro h ⟨y, hy, hm⟩
      have := h y hy
      simp only [Bool.and_eq_true, Bool.not_eq_true', decide_eq_false_iff_not] at this
      rcases List.mem_append.1 hm with h1 | h1
      · exact this.1 h1
      · exact this.2 h1
    · intro h y hy
      simp only [Bool.and_eq_true, Bool.not_eq_true', decide_eq_false_iff_not]
      exact ⟨fun h1 => h ⟨y, hy, List.mem_append_left _ h1⟩, fun h1 => h ⟨y, hy, List.mem_append_right _ h1⟩⟩
  unfold bOk
  rw [hup, hdev]
  by_cases hb : d.index ∈ bl
  · simp [hb]
  · by_cases hw : d.parent ∈ (waitD ds dl bl).map Dev.index
    · simp [hw]
    · rw [decide_eq_false hb, decide_eq_false hw]
      simp only [Bool.false_or, Bool.not_false, Bool.true_and]
      rw [Bool.eq_iff_iff, Bool.not_eq_true', Bool.and_eq_true, hpar, Bool.or_eq_true, par_iff hT]
      constructor
      · rintro ⟨hp, ⟨b, hbm, hbp, e⟩ | ho⟩
        · have hne : d.index ≠ b := fun e => hb (e ▸ hbm)
          have : bl.all (fun k => !sisB ds d.index k) = false := by
            rw [List.all_eq_false]
            refine ⟨b, hbm, ?_⟩
            unfold sisB
            rw [hdev]
            simp [hp, hbp, hne, e]
          rw [this, Bool.false_and]
        · unfold outPar at ho
          rw [List.any_eq_true] at ho
          obtain ⟨o, hom, ho⟩ := ho
          simp only [Bool.and_eq_true, decide_eq_true_eq] at ho
          have hne : d.index ≠ o := fun e => hno (e ▸ hom)
          have : out.all (fun k => !sisB ds d.index k) = false := by
            rw [List.all_eq_false]
            refine ⟨o, hom, ?_⟩
            unfold sisB
            rw [hdev]
            simp [hp, ho.1, hne, ho.2]
          rw [this, Bool.and_false]
      · intro h
        rw [Bool.and_eq_false_iff] at h
        rcases h with h | h
        · rw [List.all_eq_false] at h
          obtain ⟨b, hbm, h⟩ := h
          unfold sisB at h
          rw [hdev] at h
          simp only [Bool.not_eq_true', Bool.not_eq_false, Bool.and_eq_true] at h
          obtain ⟨⟨⟨h1, h2⟩, h3⟩, h4⟩ := h
          exact ⟨h1, .inl ⟨b, hbm, h2, (by simpa using h4 : d.parent = (devOf ds b).parent).symm⟩⟩
        · rw [List.all_eq_false] at h
          obtain ⟨b, hbm, h⟩ := h
          unfold sisB at h
          rw [hdev] at h
          simp only [Bool.not_eq_true', Bool.not_eq_false, Bool.and_eq_true] at h
          obtain ⟨⟨⟨h1, h2⟩, h3⟩, h4⟩ := h
          refine ⟨h1, .inr ?_⟩
          unfold outPar
          rw [List.any_eq_true]
          exact ⟨b, hbm, by simp [h2, (by simpa using h4 : d.parent = (devOf ds b).parent)]⟩

theorem outPar_snoc (ds : List Dev) (out : List Int) (i y : Int) : outPar ds (out ++ [i]) y = (outPar ds out y || ((partOf ds i).isSome && decide ((devOf ds i).parent = y))) := by
  unfold outPar; rw [List.any_append]; simp

theorem batchS_eq {ds : List Dev} (hT : TreeOk ds) (dl bl : List Int) : ∀ (q out : List Int) (par : Int → Bool), (∀ i ∈ q, ∃ d ∈ ds, d.index = i) → (∀ i ∈ q, i ∉ out) → q.Nodup → (∀ y, par y = (parF ds (fun x => decide (x ∈ bl)) (waitD ds dl bl) y || outPar ds out y)) → batchS ds dl bl q out = out ++ batchL ds (fun x => decide (x ∈ bl)) (fun x => decide (x ∈ (waitD ds dl bl).map Dev.index)) q par
  | [], out, par, _, _, _, _ => by simp [batchS, batchL]
  | i :: t, out, par, hm, hno, hn, hpar => by
    obtain ⟨d, hd, rfl⟩ := hm i (by simp)
    have hk := bOk_eq hT dl bl out hd (hno _ (by simp)) hpar
    rw [List.nodup_cons] at hn
    rw [batchL_cons, hk]
    show batchS ds dl bl t (if bOk ds dl bl out d.index = true then out ++ [d.index] else out) = _
    cases hb : bOk ds dl bl out d.index with
    | false =>
      simp only [Bool.not_false, if_true, Bool.false_eq_true, if_false]
      exact batchS_eq hT dl bl t out par (fun i hi => hm i (by simp [hi])) (fun i hi => hno i (by simp [hi])) hn.2 hpar
    | true =>
      simp only [Bool.not_true, if_true, Bool.false_eq_true, if_false]
      rw [batchS_eq hT dl bl t (out ++ [d.index]) (if (partOf ds d.index).isSome = true then upd par (devOf ds d.index).parent true else par) (fun i hi => hm i (by simp [hi])) (fun i hi h => by
        rcases List.mem_append.1 h with h | h
        · exact hno i (by simp [hi]) h
        · simp at h; subst h; exact hn.1 hi) hn.2 (fun y => by
          rw [outPar_snoc, ← Bool.or_assoc, ← hpar y]
          by_cases hp : (partOf ds d.index).isSome = true
          · rw [if_pos hp]
            unfold upd
            by_cases e : y = (devOf ds d.index).parent
            · rw [if_pos e, hp, e]; simp
            · rw [if_neg e, decide_eq_false (fun h => e h.symm)]; simp
          · rw [if_neg hp]; simp at hp; simp [hp])]
      simp
/-- The reference's Batch is the program's. -/
theorem batch_same {ds : List Dev} (hT : TreeOk ds) (dl bl : List Int) : batchS ds dl bl (orderL dl ds) [] = batchR ds dl bl := by
  rw [batchS_eq hT dl bl (orderL dl ds) [] (parF ds (fun x => decide (x ∈ bl)) (waitD ds dl bl)) (fun i hi => by
    obtain ⟨d, hd, e⟩ := List.mem_map.1 (List.mem_filter.1 hi).1
    exact ⟨d, hd, e⟩) (by simp) (List.Nodup.sublist List.filter_sublist hT.nd) (fun y => by simp [outPar])]
  rfl

/-- All ancestors have records. -/
def upRec (ds : List Dev) (l : List Rec) (x : Int) : Bool := (chain ds x).tail.all fun y => recB ds l y.index
theorem lack_rec {ds : List Dev} (hT : TreeOk ds) (l : List Rec) {d : Dev} (hd : d ∈ ds) : lackB (recG ds l) d.index = !recB ds l d.index := by
  have hl := hT.lk hd
  have hne : (pathOf (origin ds d.index)).toList.isEmpty = false := by
    rw [ByteArray.toList_eq, path_bytes, hT.origin_cons hl]
    simp [Lib.joinTail]
  unfold lackB recG recB
  have e : (l.any fun r => recHit2 ds r && decide (r.index = d.index)) = l.any (Rec.is d.index (pathOf (origin ds d.index))) := by
    congr 1
    funext r
    unfold recHit2 Rec.is
    by_cases h : r.index = d.index
    · rw [h, hl, Bool.beq_comm]; simp
    · simp [h]
  rw [e]
  cases l.any (Rec.is d.index (pathOf (origin ds d.index))) with
  | true => simp [hne]
  | false => simp [ByteArray.toList_eq]
theorem upLack_rec {ds : List Dev} (hT : TreeOk ds) (l : List Rec) (x : Int) : upLack ds (recG ds l) x = !upRec ds l x := by
  unfold upLack upRec
  rw [List.any_map]
  have : ∀ q : List Dev, (∀ d ∈ q, d ∈ ds) → q.any (lackB (recG ds l) ∘ Dev.index) = !q.all fun y => recB ds l y.index := by
    intro q
    induction q with
    | nil => intro _; rfl
    | cons d t ih =>
      intro h
      rw [List.any_cons, List.all_cons, ih (fun x hx => h x (by simp [hx]))]
      show (lackB (recG ds l) d.index || _) = _
      rw [lack_rec hT l (h d (by simp))]
      simp
  exact this _ (fun d hd => chain_mem (List.mem_of_mem_tail hd))
/-- What the reference's Free gives. -/
def freeS (ds : List Dev) (l : List Rec) (dl bl : List Int) : List Int := (batchS ds dl bl (orderL dl ds) []).filter (upRec ds l)
theorem free_same {ds : List Dev} (hT : TreeOk ds) (l : List Rec) (dl bl : List Int) : freeS ds l dl bl = freeL ds l dl bl := by
  unfold freeS freeL keepP
  rw [batch_same hT]
  congr 1
  funext x
  rw [upLack_rec hT, Bool.not_not]

/-- The number of a partition, as the reference finds it. -/
def numOf (p d : Dev) (k : Nat) : Prop := d.orig = p.orig ++ ⟨#[112]⟩ ++ ⟨(Lib.decDigits k).toArray⟩
theorem dec16 (k : Nat) (h1 : 1 ≤ k) (h2 : k ≤ 16) : Lib.decDigits k = if k < 10 then [UInt8.ofNat (48 + k)] else [49, UInt8.ofNat (48 + k % 10)] := by
  rw [Lib.decDigits]
  by_cases h : k < 10
  · rw [dif_pos h, if_pos h]
  · rw [dif_neg h, if_neg h, Lib.decDigits, dif_pos (by omega)]
    have : k / 10 = 1 := by omega
    rw [this]
    rfl
theorem atoi_small : ∀ k : Nat, 1 ≤ k → k ≤ 16 → Lib.atoiAll (Lib.decDigits k) = .ok (k : Int) := by
  intro k h1 h2
  rw [dec16 k h1 h2]
  rcases (by omega : k = 1 ∨ k = 2 ∨ k = 3 ∨ k = 4 ∨ k = 5 ∨ k = 6 ∨ k = 7 ∨ k = 8 ∨ k = 9 ∨ k = 10 ∨ k = 11 ∨ k = 12 ∨ k = 13 ∨ k = 14 ∨ k = 15 ∨ k = 16) with rfl | rfl | rfl | rfl | rfl | rfl | rfl | rfl | rfl | rfl | rfl | rfl | rfl | rfl | rfl | rfl <;> rfl
theorem partB_num {p d : Dev} : (partB p d).isSome = true ↔ d.kind = 2 ∧ p.kind = 2 ∧ ∃ k : Nat, 1 ≤ k ∧ k ≤ 16 ∧ numOf p d k := by
  constructor
  · intro h
    rcases hv : Lib.atoiAll (digitsB p d).data.toList with v | _ | _
    · rw [partB_ok hv] at h
      split at h
      · rename_i hc
        obtain ⟨h1, h2, h3, h4, h5, h6⟩ := hc
        refine ⟨h5, h6, v.toNat, by omega, by omega, ?_⟩
        unfold cutB Lib.hasPrefix at h1
        unfold digitsB Lib.trimPrefix Lib.hasPrefix at h4
        rw [if_pos h1] at h4
        obtain ⟨t, ht⟩ := List.isPrefixOf_iff_prefix.1 h1
        rw [← ht] at h4
        replace h4 : Lib.decDigits v.toNat = t := by rw [h4]; exact List.drop_left
        unfold numOf
        apply ByteArray.ext
        apply Array.ext'
        rw [← ht, h4]
        simp [ByteArray.data_append]
      · cases h
    · rw [partB_err (fun v e => by rw [hv] at e; cases e)] at h; cases h
    · rw [partB_err (fun v e => by rw [hv] at e; cases e)] at h; cases h
  · rintro ⟨h1, h2, k, h3, h4, h5⟩
    have hd : d.orig.data.toList = (p.orig ++ ⟨#[112]⟩).data.toList ++ Lib.decDigits k := by
      unfold numOf at h5
      rw [h5]
      simp [ByteArray.data_append]
    have hpre : Lib.hasPrefix d.orig.data.toList (p.orig ++ ⟨#[112]⟩).data.toList = true := by
      unfold Lib.hasPrefix
      rw [hd]
      exact List.isPrefixOf_iff_prefix.2 ⟨_, rfl⟩
    have hdig : (digitsB p d).data.toList = Lib.decDigits k := by
      unfold digitsB Lib.trimPrefix
      rw [if_pos hpre, hd]
      exact List.drop_left
    have hv := atoi_small k h3 h4
    rw [← hdig] at hv
    rw [partB_ok hv, if_pos ⟨hpre, by omega, by omega, by rw [hdig]; simp, h1, h2⟩]
    rfl
end Go.Proofs.YtanaompgapiikaaGreatDoor
