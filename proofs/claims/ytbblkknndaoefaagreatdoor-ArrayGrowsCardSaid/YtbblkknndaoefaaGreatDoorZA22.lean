/- The deadlines after a look. The example of the chapter of arrays. Plain. Watch. -/
import Derived.Test.YtbblkknndaoefaaGreatDoorZA21
import Derived.Test.YtbblkknndaoefaaGreatDoorZA20
import Derived.Test.YtbblkknndaoefaaGreatDoorZA6
import Derived.Laws.EntriesVeiled
import Derived.Test.YtbblkknndaoefaaGreatDoorZA13
import Derived.Test.YtbblkknndaoefaaGreatDoorZA15
import Derived.Test.YtbblkknndaoefaaGreatDoorZA4
import Derived.Test.YtbblkknndaoefaaGreatDoorZA9
import Derived.Test.YtbblkknndaoefaaGreatDoorZA2
namespace Go.Proofs.YtbblkknndaoefaaGreatDoor
open Go.RowKit Go.Maps
set_option linter.unusedVariables false

/-- The deadline of an ID. -/
def isD (gi : ByteArray) (d : Dl) : Bool := d.i.toList == gi.toList
def dlOf (D : List Dl) (now wait : Int) (gi : ByteArray) : Dl := (D.find? (isD gi)).getD ⟨gi, laterV now wait⟩
def watchF (D : List Dl) (ex : List ByteArray) (now wait : Int) (A : Arr) : List Dl := if (decide (A.n = A.t) || hasS ex A.i) = true then [] else [dlOf D now wait A.i]
def watchL (D : List Dl) (L : List Arr) (ex : List ByteArray) (now wait : Int) : List Dl := L.flatMap (watchF D ex now wait)
theorem watchL_snoc (D : List Dl) (L : List Arr) (A : Arr) (ex : List ByteArray) (now wait : Int) : watchL D (L ++ [A]) ex now wait = watchL D L ex now wait ++ watchF D ex now wait A := by simp [watchL]
def WatchR (D : List Dl) (L : List Arr) (ex : List ByteArray) (now wait : Int) (e : Ending) (w' : World) : Prop := ∃ (a' : Option Addr) (c' : Nat) (V : List Dl), e = .returned (.slice a' V.length c') ∧ Dls w' a' c' V ∧ V = watchL D L ex now wait

set_option maxHeartbeats 1000000 in
theorem a_later (now wait : Int) (w : World) (h1 : 0 ≤ now) (h2 : now ≤ 1073741824) (h3 : 0 ≤ wait) (h4 : wait ≤ 2147483648) :
    Calls Tryz.prog 98 #[.int .i64 now, .int .i64 wait] w fun e w' => e = .returned (.int .i64 (laterV now wait)) ∧ w' = w := by
  obtain ⟨v, hv⟩ : ∃ v, v = laterV now wait := ⟨_, rfl⟩
  rw [← hv]
  have Hv := Lib.hid hv
  clear hv
  go_enter Tryz.func98, Tryz.ntmps98
  by_cases hw : 0 < wait
  · by_cases hb : 1073741824 - wait < now
    · have Hx : Hid (v = 1073741824) := by unfold Hid; rw [Hv.out, laterV, if_neg (by omega)]
      go_wp2_with fail
      go_ret
      exact ⟨by rw [Hx.out]; rfl, rfl⟩
    · have Hx : Hid (v = now + wait) := by unfold Hid; rw [Hv.out, laterV, if_pos (by omega)]
      have hmin : min (now + wait) 1073741824 = now + wait := by omega
      go_wp2_with fail
      go_ret
      exact ⟨by rw [Hx.out]; first | rfl | (simp; omega), rfl⟩
  · have Hx : Hid (v = now + wait) := by unfold Hid; rw [Hv.out, laterV, if_pos (by omega)]
    have hmin : min (now + wait) 1073741824 = now + wait := by omega
    go_wp2_with fail
    go_ret
    exact ⟨by rw [Hx.out]; first | rfl | (simp; omega), rfl⟩
set_option maxHeartbeats 1000000 in
theorem r_after (now wait : Int) (w : World) (h1 : 0 ≤ now) (h2 : now ≤ 1073741824) (h3 : 0 ≤ wait) (h4 : wait ≤ 2147483648) :
    Calls Tryz.prog 101 #[.int .i64 now, .int .i64 wait] w fun e w' => e = .returned (.int .i64 (laterV now wait)) ∧ w' = w := by
  obtain ⟨v, hv⟩ : ∃ v, v = laterV now wait := ⟨_, rfl⟩
  rw [← hv]
  have Hv := Lib.hid hv
  clear hv
  go_enter Tryz.func101, Tryz.ntmps101
  by_cases hb : now + wait ≤ 1073741824
  · have Hx : Hid (v = now + wait) := by unfold Hid; rw [Hv.out, laterV, if_pos hb]
    have hmin : min (now + wait) 1073741824 = now + wait := by omega
    go_wp2_with fail
    go_ret
    exact ⟨by rw [Hx.out]; first | rfl | (simp; omega), rfl⟩
  · have Hx : Hid (v = 1073741824) := by unfold Hid; rw [Hv.out, laterV, if_neg hb]
    have hmin : min (now + wait) 1073741824 = 1073741824 := by omega
    go_wp2_with fail
    go_ret
    exact ⟨by rw [Hx.out]; first | rfl | (simp; omega), rfl⟩

set_option maxHeartbeats 1000000 in
theorem strs_index (a : Option Addr) (cap : Nat) (l : List ByteArray) (s : ByteArray) (w : World) (hl : Strs w a cap l) :
    Calls Tryz.prog 129 #[.slice a l.length cap, .string s] w fun e w' => IdxS l s e ∧ Fr No w w' := by
  have hm := hl.lenmax
  go_enter Tryz.func129, Tryz.ntmps129
  go_wp2_with fail
  go_loop [8] (fun i => ∃ k : Nat, k ≤ l.length ∧ i = .int .i64 k ∧ Hid (∀ x ∈ l.take k, (x.toList == s.toList) = false)) (fun i => l.length - (intOf i).toNat)
  case atStart => exact ⟨0, by omega, rfl, by unfold Hid; simp⟩
  case round =>
    obtain ⟨k, hk, rfl, hno⟩ := hrel
    by_cases hlt : k < l.length
    · have hlt' : (k : Int) < l.length := by omega
      obtain ⟨b, off, x, rfl, hx, hc⟩ := hl.at hlt
      have Hx := Lib.hid hx
      clear hx
      rcases he : (s.toList == x.toList) with _ | _
      · have he' : (x.toList == s.toList) = false := by rw [Bool.beq_comm]; exact he
        have He' := Lib.hid he'
        clear he'
        go_wp2_with fail
        go_round
        case rel =>
          refine ⟨k + 1, by omega, by go_num, ?_⟩
          unfold Hid
          intro y hy
          rw [List.take_add_one, Hx.out] at hy
          rcases List.mem_append.1 hy with h | h
          · exact hno.out y h
          · simp at h; subst h; exact He'.out
        case measure => simp [intOf]; omega
      · have Hg : Hid (hasS l s = true) := hasS_at Hx.out (by rw [Bool.beq_comm]; exact he)
        go_wp2_with fail
        go_ret
        exact ⟨⟨k, rfl, by rw [Hg.out]; simp⟩, Fr.refl _ _⟩
    · obtain rfl : k = l.length := by omega
      have h := hno.out
      rw [List.take_of_length_le (by omega)] at h
      have Hg : Hid (hasS l s = false) := hasS_no h
      go_wp2_with fail
      go_ret
      exact ⟨⟨-1, rfl, by rw [Hg.out]; rfl⟩, Fr.refl _ _⟩

set_option maxHeartbeats 1000000 in
theorem strs_contains (a : Option Addr) (cap : Nat) (l : List ByteArray) (s : ByteArray) (w : World) (hl : Strs w a cap l) :
    Calls Tryz.prog 97 #[.slice a l.length cap, .string s] w fun e w' => e = .returned (.bool (hasS l s)) ∧ Fr No w w' := by
  go_enter Tryz.func97, Tryz.ntmps97
  go_wp2_with fail
  refine (strs_index a cap l s _ hl).mono ?_
  rintro e w1 ⟨⟨i, rfl, hi⟩, hf1⟩
  have Hi := Lib.hid hi
  clear hi
  go_wp2_with fail
  go_ret
  exact ⟨ret_bool Hi.out, hf1⟩


set_option maxHeartbeats 1000000 in
theorem watch_has (bt : Nat) (di gi : ByteArray) (da : Int) (w : World) (hb : w.cell? ⟨bt, 0, none⟩ = some (.string gi)) :
    Calls Tryz.prog 100 #[.agg #[.string di, .int .i64 da], .pointer (some ⟨bt, 0, none⟩)] w fun e w' => e = .returned (.bool (di.toList == gi.toList)) ∧ Fr No w w' := by
  have hx : Fr No w (w.alloc (.cells #[.string di, .int .i64 da] 81)) := (Fr.refl _ _).alloc _
  have q0 := block_alloc w (.cells #[.string di, .int .i64 da] 81)
  have hb1 := hx.cell hb id
  have x0 : (w.alloc (.cells #[.string di, .int .i64 da] 81)).cell? ⟨w.heap.size, 0, none⟩ = some (.string di) := cell_of_block q0 0
  rcases hv : (di.toList == gi.toList) with _ | _
  · have Hx := Lib.hid hx
    clear hx q0
    go_enter Tryz.func100, Tryz.ntmps100
    go_wp2_with fail
    go_ret
    exact ⟨rfl, Hx.out⟩
  · have Hx := Lib.hid hx
    clear hx q0
    go_enter Tryz.func100, Tryz.ntmps100
    go_wp2_with fail
    go_ret
    exact ⟨rfl, Hx.out⟩
/-- The first deadline of an ID, by its place. -/
def IdxD (D : List Dl) (gi : ByteArray) (e : Ending) : Prop := (e = .returned (.int .i64 (-1)) ∧ D.find? (isD gi) = none) ∨ ∃ (k : Nat) (d : Dl), e = .returned (.int .i64 (k : Int)) ∧ D[k]? = some d ∧ D.find? (isD gi) = some d
theorem find_snoc {p : Dl → Bool} : ∀ {l : List Dl} {d : Dl} (r : List Dl), l.find? p = none → p d = true → (l ++ d :: r).find? p = some d := fun r h1 h2 => by
  rw [List.find?_append, h1]; simp [h2]
set_option maxRecDepth 100000 in
set_option maxHeartbeats 2000000 in
theorem watch_idx (bt : Nat) (a : Option Addr) (cap : Nat) (D : List Dl) (gi : ByteArray) (w : World) (hb : w.cell? ⟨bt, 0, none⟩ = some (.string gi)) (hD : Dls w a cap D) :
    Calls Tryz.prog 99 #[.slice a D.length cap, .func (.func 100) #[] #[.pointer (some ⟨bt, 0, none⟩)]] w fun e w' => IdxD D gi e ∧ Fr No w w' := by
  have hm := hD.lenmax
  go_enter Tryz.func99, Tryz.ntmps99
  go_wp2_with fail
  go_loopw [8] (fun i wr => ∃ k : Nat, k ≤ D.length ∧ i = .int .i64 (k : Int) ∧ Hid ((D.take k).find? (isD gi) = none) ∧ Fr No w wr) (fun i _ => D.length - (intOf i).toNat)
  case atStart => exact ⟨0, by omega, rfl, by unfold Hid; simp, Fr.refl _ _⟩
  case round =>
    obtain ⟨k, hk, rfl, hno, hf⟩ := hrel
    by_cases hlt : k < D.length
    · have hlt' : (k : Int) < D.length := by omega
      obtain ⟨b, off, d, rfl, hdk, ⟨c0, c1⟩, _⟩ := (hD.no hf (fun _ => id)).elem hlt
      have hh := watch_has bt d.i gi d.a wr (hf.cell hb id)
      have Hdk := Lib.hid hdk
      have Hsp : Hid (D = D.take k ++ d :: D.drop (k + 1)) := by
        unfold Hid
        obtain ⟨h1, h2⟩ := List.getElem?_eq_some_iff.1 hdk
        rw [← h2, ← List.drop_eq_getElem_cons h1, List.take_append_drop]
      have Htk : Hid (D.take (k + 1) = D.take k ++ [d]) := by unfold Hid; rw [List.take_add_one, hdk]; rfl
      clear hdk
      go_wp2_with fail
      refine hh.mono ?_
      rintro e w1 ⟨rfl, hf1⟩
      have Hf := Lib.hid (hf.step hf1 (fun _ _ h => h))
      clear hh hf1 hf c0 c1
      rcases hv : (d.i.toList == gi.toList) with _ | _
      · have Hn : Hid ((D.take (k + 1)).find? (isD gi) = none) := by
          unfold Hid
          rw [Htk.out, List.find?_append, hno.out]
          have : isD gi d = false := hv
          simp [this]
        clear hv
        go_wp2_with fail
        go_roundw
        case rel => exact ⟨k + 1, by omega, by go_num, Hn, Hf.out⟩
        case measure => simp [intOf]; omega
      · have Hr : Hid (D.find? (isD gi) = some d) := by
          unfold Hid
          rw [Hsp.out]
          exact find_snoc _ hno.out hv
        clear hv
        go_wp2_with fail
        go_ret
        exact ⟨.inr ⟨k, d, rfl, Hdk.out, Hr.out⟩, Hf.out⟩
    · obtain rfl : k = D.length := by omega
      have h := hno.out
      rw [List.take_length] at h
      have Hn := Lib.hid h
      clear h
      go_wp2_with fail
      go_ret
      exact ⟨.inl ⟨rfl, Hn.out⟩, hf⟩

set_option maxRecDepth 100000 in
set_option maxHeartbeats 1000000 in
theorem same_deadlines_eq (a a' : Option Addr) (cap cap' : Nat) (D : List Dl) (w : World) (hD : Dls w a cap D) (hD' : Dls w a' cap' D) :
    Calls Tryz.prog 57 #[.slice a D.length cap, .slice a' D.length cap'] w fun e w' => e = .returned (.bool true) ∧ Fr No w w' := by
  have hm := hD.lenmax
  go_enter Tryz.func57, Tryz.ntmps57
  go_wp2_with fail
  go_loopw [5] (fun i wr => ∃ k : Nat, k ≤ D.length ∧ i = .int .i64 (k : Int) ∧ Fr No w wr) (fun i _ => D.length - (intOf i).toNat)
  case atStart => exact ⟨0, by omega, rfl, Fr.refl _ _⟩
  case round =>
    obtain ⟨k, hk, rfl, hf⟩ := hrel
    by_cases hlt : k < D.length
    · have hlt1 : (k : Int) < D.length := by omega
      go_wp2_with fail
      refine region_sig No [(0, false), (1, false), (2, false), (3, false), (4, false), (5, false), (6, false), (7, false), (8, false)] (by kernel_rfl) (by kernel_rfl) (fun w0 hf0 => ?_)
      have hf1 := hf.step hf0 (fun _ _ h => h)
      obtain ⟨ub, uo, u, e1, hu, ⟨u0, u1⟩, _⟩ := (hD.no hf1 (fun _ => id)).elem hlt
      obtain ⟨vb, vo, v, e2, hv, ⟨v0, v1⟩, _⟩ := (hD'.no hf1 (fun _ => id)).elem hlt
      obtain rfl : u = v := by rw [hu] at hv; exact Option.some.inj hv
      subst e1 e2
      have g0 : ∀ g : Gr No w0, g.W.cell? ⟨ub, uo + k * 2, none⟩ = some (.string u.i) := fun g => g.fr.cell u0 id
      have g1 : ∀ g : Gr No w0, g.W.cell? ⟨ub, uo + k * 2 + 1, none⟩ = some (.int .i64 u.a) := fun g => g.fr.cell u1 id
      have h0 : ∀ g : Gr No w0, g.W.cell? ⟨vb, vo + k * 2, none⟩ = some (.string u.i) := fun g => g.fr.cell v0 id
      have h1 : ∀ g : Gr No w0, g.W.cell? ⟨vb, vo + k * 2 + 1, none⟩ = some (.int .i64 u.a) := fun g => g.fr.cell v1 id
      clear u0 u1 v0 v1 hu hv
      repeat (first | (apply sig_q; exact rfl; exact rfl; exact rfl; intro K hK; go_big_quiet_op; go_big_quiet_on) | (apply sig_skip; exact rfl; exact rfl; exact rfl; intro K hK; go_big_quiet_op; go_big_quiet_on))
      refine sig_end ?_
      go_wp2_with fail
      go_roundw
      case rel => exact ⟨k + 1, by omega, by go_num, hf1⟩
      case measure => simp [intOf]; omega
    · obtain rfl : k = D.length := by omega
      go_wp2_with fail
      go_ret
      exact ⟨rfl, hf⟩
end Go.Proofs.YtbblkknndaoefaaGreatDoor
namespace Go.Proofs.YtbblkknndaoefaaGreatDoor
open Go.RowKit
set_option linter.unusedVariables false

def rdT1 : ByteArray := ⟨#[114, 97, 105, 100, 58, 114, 58, 49, 47, 51, 47, 50, 40, 102, 115, 58, 120, 58, 41]⟩
def rdT2 : ByteArray := ⟨#[114, 97, 105, 100, 58, 114, 58, 51, 47, 51, 47, 50, 40, 102, 115, 58, 121, 58, 41]⟩
def rdT3 : ByteArray := ⟨#[114, 97, 105, 100, 58, 114, 58, 51, 47, 51, 47, 49, 40, 102, 115, 58, 122, 58, 41]⟩
def rdI : ByteArray := ⟨#[114]⟩
def rdPc : ByteArray := ⟨#[47, 99]⟩
def rdFz : ByteArray := ⟨#[102, 115, 58, 122, 58]⟩
def rdC1 : Ct := .mk 2 rdI ⟨#[]⟩ 1 3 2 [.mk 1 kIx ⟨#[]⟩ 0 0 0 []]
def rdC2 : Ct := .mk 2 rdI ⟨#[]⟩ 3 3 2 [.mk 1 ⟨#[121]⟩ ⟨#[]⟩ 0 0 0 []]
def rdC3 : Ct := .mk 2 rdI ⟨#[]⟩ 3 3 1 [.mk 1 ⟨#[122]⟩ ⟨#[]⟩ 0 0 0 []]
theorem rd_it1 : Lib.itoa 1 = [49] := by kernel_rfl
theorem rd_it2 : Lib.itoa 2 = [50] := by kernel_rfl
theorem rd_it3 : Lib.itoa 3 = [51] := by kernel_rfl
theorem rdP1 : parseC rdT1 = some rdC1 := (parse_iff _ _).2 ⟨by decide, by decide, by rw [rdC1, text2]; simp [text1, commas, rdT1, rdI, kIx, rd_it1, rd_it2, rd_it3]; rfl⟩
theorem rdP2 : parseC rdT2 = some rdC2 := (parse_iff _ _).2 ⟨by decide, by decide, by rw [rdC2, text2]; simp [text1, commas, rdT2, rdI, rd_it2, rd_it3]; rfl⟩
theorem rdP3 : parseC rdT3 = some rdC3 := (parse_iff _ _).2 ⟨by decide, by decide, by rw [rdC3, text2]; simp [text1, commas, rdT3, rdI, rd_it1, rd_it3]; rfl⟩
theorem rdX1 : rdC1.inner.map Ct.txt = [kFx] := by simp [rdC1, Ct.inner, txt1, kIx, kFx]; rfl
theorem rdX2 : rdC2.inner.map Ct.txt = [kFy] := by simp [rdC2, Ct.inner, txt1, kFy]; rfl
theorem rdX3 : rdC3.inner.map Ct.txt = [rdFz] := by simp [rdC3, Ct.inner, txt1, rdFz]; rfl
theorem rdA1 : Ascii rdT1 := fun j b h => (by decide : ∀ b ∈ rdT1.data.toList, b.toNat < 128) b (List.mem_of_getElem? h)
theorem rdA2 : Ascii rdT2 := fun j b h => (by decide : ∀ b ∈ rdT2.data.toList, b.toNat < 128) b (List.mem_of_getElem? h)
theorem rdA3 : Ascii rdT3 := fun j b h => (by decide : ∀ b ∈ rdT3.data.toList, b.toNat < 128) b (List.mem_of_getElem? h)
def rdM1 (a : Option Addr) (c : Nat) : Mem := ⟨kPb, rdI, 0, 1, 3, 2, a, [kFx], c⟩
def rdM2 (a : Option Addr) (c : Nat) : Mem := ⟨kPa, rdI, 0, 3, 3, 2, a, [kFy], c⟩
def rdM3 (a : Option Addr) (c : Nat) : Mem := ⟨rdPc, rdI, 0, 3, 3, 1, a, [rdFz], c⟩
def rdAr : Arr := ⟨rdI, [kPb, ⟨#[]⟩, kPa], 3, 2, 2, [kFx]⟩
section
variable (a1 a2 a3 : Option Addr) (c1 c2 c3 : Nat)
def rdG2 : ByteArray × Int → Option Mem := fun x => if x = (rdI, 3) then some (rdM2 a2 c2) else none
def rdG3 : ByteArray × Int → Option Mem := fun x => if x = (rdI, 1) then some (rdM1 a1 c1) else rdG2 a2 c2 x
theorem rd_s1 : soundA (rdM1 a1 c1) = true := by simp [soundA, soundB, rdM1, ByteArray.toList_eq, kPb]
theorem rd_s2 : soundA (rdM2 a2 c2) = true := by simp [soundA, soundB, rdM2, ByteArray.toList_eq, kPa]
theorem rd_s3 : soundA (rdM3 a3 c3) = true := by simp [soundA, soundB, rdM3, ByteArray.toList_eq, rdPc]
theorem rd_ah : aheadB kPa 0 rdPc 0 = true := by kernel_rfl
theorem rd_b3 : best2 soundA [rdM3 a3 c3, rdM2 a2 c2, rdM1 a1 c1] = rdG3 a1 a2 c1 c2 := by
  have e3 : best2S soundA (fun _ => none) (rdM3 a3 c3) = fun x => if x = (rdI, 3) then some (rdM3 a3 c3) else none := by
    rw [best2S_take (rd_s3 a3 c3) (fun o h => by cases h)]; rfl
  have e2 : best2S soundA (fun x => if x = (rdI, 3) then some (rdM3 a3 c3) else none) (rdM2 a2 c2) = rdG2 a2 c2 := by
    rw [best2S_take (rd_s2 a2 c2) (fun o h => ?_)]
    · funext x
      show (if x = (rdI, 3) then some (rdM2 a2 c2) else if x = (rdI, 3) then some (rdM3 a3 c3) else none) = if x = (rdI, 3) then some (rdM2 a2 c2) else none
      by_cases e : x = (rdI, 3)
      · simp only [if_pos e]
      · simp only [if_neg e]
    · rw [show ((rdM2 a2 c2).i, (rdM2 a2 c2).s) = (rdI, (3 : Int)) from rfl, if_pos rfl] at h
      cases h
      exact rd_ah
  show best2S soundA (best2S soundA (best2S soundA (fun _ => none) (rdM3 a3 c3)) (rdM2 a2 c2)) (rdM1 a1 c1) = _
  rw [e3, e2, best2S_take (rd_s1 a1 c1) (fun o h => ?_)]
  · rfl
  · have : rdG2 a2 c2 (rdI, 1) = none := by unfold rdG2; rw [if_neg (by simp)]
    rw [show ((rdM1 a1 c1).i, (rdM1 a1 c1).s) = (rdI, (1 : Int)) from rfl, this] at h
    cases h
theorem rd_ids : IsIds2 (rdG3 a1 a2 c1 c2) [rdI] := by
  refine ⟨by unfold AscS; decide, fun x => ⟨fun h => ?_, fun ⟨s, h⟩ => ?_⟩⟩
  · obtain rfl : x = rdI := by simpa using h
    exact ⟨1, by unfold rdG3; rw [if_pos rfl]; rfl⟩
  · unfold rdG3 rdG2 at h
    split at h
    · rename_i e; simp at e; simp [e.1]
    · split at h
      · rename_i e; simp at e; simp [e.1]
      · cases h
theorem rd_arr : buildA (rdG3 a1 a2 c1 c2) rdI = rdAr := by
  have h1 : rdG3 a1 a2 c1 c2 (rdI, 1) = some (rdM1 a1 c1) := by unfold rdG3; rw [if_pos rfl]
  have h2 : rdG3 a1 a2 c1 c2 (rdI, 2) = none := by unfold rdG3 rdG2; rw [if_neg (by simp), if_neg (by simp)]
  have h3 : rdG3 a1 a2 c1 c2 (rdI, 3) = some (rdM2 a2 c2) := by unfold rdG3 rdG2; rw [if_neg (by simp), if_pos rfl]
  have hl : leastSlot (rdG3 a1 a2 c1 c2) rdI = 1 := by unfold leastSlot; simp [List.range_succ_eq_map, h1]
  have hf : firstOf (rdG3 a1 a2 c1 c2) rdI = rdM1 a1 c1 := by unfold firstOf; rw [hl, h1]; rfl
  unfold buildA
  rw [hf]
  simp [rdAr, rdM1, List.range_succ_eq_map, pathAt, h1, h2, h3, rdM2]
end
theorem rd_watch : watchL [] [rdAr] [] 5 10 = [⟨rdI, 15⟩] := by
  simp [watchL, watchF, rdAr, hasS, dlOf, laterV]
theorem rd_next : nextV [⟨rdI, 15⟩] 5 = some 15 := by simp [nextV, nxS]
theorem rd_exp (now : Int) : ExpIds [⟨rdI, 15⟩] now (if 15 ≤ now then [rdI] else []) := by
  by_cases h : 15 ≤ now
  · rw [if_pos h]
    refine ⟨by unfold AscS; decide, fun x => ?_⟩
    constructor
    · intro hx
      obtain rfl : x = rdI := by simpa using hx
      exact ⟨_, by simp; rfl, h, rfl⟩
    · rintro ⟨d, hd, _, rfl⟩
      obtain rfl : d = ⟨rdI, 15⟩ := by simpa using hd
      simp
  · rw [if_neg h]
    refine ⟨by unfold AscS; decide, fun x => ?_⟩
    constructor
    · intro hx; simp at hx
    · rintro ⟨d, hd, h2, rfl⟩
      obtain rfl : d = ⟨rdI, 15⟩ := by simpa using hd
      exact absurd h2 h
end Go.Proofs.YtbblkknndaoefaaGreatDoor
namespace Go.Proofs.YtbblkknndaoefaaGreatDoor
open Go.RowKit Go.Maps
set_option linter.unusedVariables false

theorem set2 {W : World} {b : Nat} {cs : Array Value} {T : TypeId} (h : W.heap[b]? = some (.cells cs T)) (hs : cs.size = 2) (v0 v1 : Value) :
    ((W.setCell ⟨b, 0, none⟩ v0).setCell ⟨b, 1, none⟩ v1).heap[b]? = some (.cells #[v0, v1] T) ∧ Fr (Is b) W ((W.setCell ⟨b, 0, none⟩ v0).setCell ⟨b, 1, none⟩ v1) := by
  have fs : ∀ {a w : World} (h : Fr (Is b) a w) (i : Nat) (v : Value), Fr (Is b) a (w.setCell ⟨b, i, none⟩ v) := fun h i v => h.setCell (p := ⟨b, i, none⟩) (fun _ => rfl) v
  refine ⟨?_, fs (fs (Fr.refl _ _) _ _) _ _⟩
  obtain ⟨l⟩ := cs
  match l, hs with
  | [_, _], _ =>
    have h0 := block_setCell h 0 v0
    exact block_setCell h0 1 v1
theorem dlOf_some {D : List Dl} {gi : ByteArray} {d : Dl} (now wait : Int) (h : D.find? (isD gi) = some d) : dlOf D now wait gi = d := by unfold dlOf; rw [h]; rfl
theorem dlOf_none {D : List Dl} {gi : ByteArray} (now wait : Int) (h : D.find? (isD gi) = none) : dlOf D now wait gi = ⟨gi, laterV now wait⟩ := by unfold dlOf; rw [h]; rfl
theorem watchF_no {D : List Dl} {ex : List ByteArray} {now wait : Int} {A : Arr} (h : (decide (A.n = A.t) || hasS ex A.i) = true) : watchF D ex now wait A = [] := by unfold watchF; rw [if_pos h]
theorem watchF_yes {D : List Dl} {ex : List ByteArray} {now wait : Int} {A : Arr} (h : (decide (A.n = A.t) || hasS ex A.i) = false) : watchF D ex now wait A = [dlOf D now wait A.i] := by unfold watchF; rw [h]; rfl

set_option maxRecDepth 100000 in
set_option maxHeartbeats 8000000 in
theorem a_watch (da : Option Addr) (dc : Nat) (D : List Dl) (aa : Option Addr) (ac : Nat) (L : List ArrM) (xa : Option Addr) (xc : Nat) (ex : List ByteArray) (now wait : Int) (w : World) (hD : Dls w da dc D) (hL : Arrs w aa ac L) (hX : Strs w xa xc ex) (hDl : D.length ≤ 100000) (hLl : L.length ≤ 100000)
    (hn1 : 0 ≤ now) (hn2 : now ≤ 1073741824) (hw1 : 0 ≤ wait) (hw2 : wait ≤ 2147483648) :
    Calls Tryz.prog 55 #[.slice da D.length dc, .slice aa L.length ac, .slice xa ex.length xc, .int .i64 now, .int .i64 wait] w fun e w' => WatchR D (L.map ArrM.toArr) ex now wait e w' ∧ Fr No w w' := by
  obtain ⟨i0, hi0, hz0, hz1, hz2⟩ := info_parts infoDl
  have hlm := hL.lenmax
  obtain ⟨lv, hlve⟩ : ∃ lv, lv = laterV now wait := ⟨_, rfl⟩
  have Hlv := Lib.hid hlve
  clear hlve
  go_enter Tryz.func55, Tryz.ntmps55
  go_wp2_with fail
  go_loopw [11, 18] (fun v i wr => ∃ (k : Nat) (V : List Dl) (av : Option Addr) (cv : Nat), k ≤ L.length ∧ V.length ≤ k ∧ v = .slice av V.length cv ∧ i = .int .i64 (k : Int) ∧ wr.ownsRow w.heap.size 81 2 (.slice av V.length cv) V.length (dflat V) ∧ Hid (V = watchL D ((L.take k).map ArrM.toArr) ex now wait) ∧ Fr (From w.heap.size) w wr) (fun _ i _ => L.length - (intOf i).toNat)
  case atStart => exact ⟨0, [], none, 0, by omega, by simp, rfl, rfl, World.ownsRow_nil _ _ _ _, by unfold Hid; rfl, Fr.refl _ _⟩
  case round =>
    obtain ⟨k, V, av, cv, hk, hVk, rfl, rfl, hown, HV, hf⟩ := hrel
    have hsr := hf.size
    by_cases hlt : k < L.length
    · have hlt' : (k : Int) < L.length := by omega
      obtain ⟨b, off, A, rfl, hAk, _, ⟨c0, c1, c2, c3, c4, c5⟩, _⟩ := (hL.keep hf (fun b hb h => by unfold From at h; omega)).elem hlt
      have Htk : Hid ((L.take (k + 1)).map ArrM.toArr = (L.take k).map ArrM.toArr ++ [A.toArr]) := by unfold Hid; rw [List.take_add_one, hAk]; simp
      clear hAk
      obtain ⟨⟨gi, ps, t, e, n, ins⟩, pa, pc, la, lc⟩ := A
      simp only at c0 c1 c2 c3 c4 c5
      have hal : Fr No wr (wr.alloc (.cells #[.string gi, .slice pa ps.length pc, .int .i64 t, .int .i64 e, .int .i64 n, .slice la ins.length lc] 42)) := (Fr.refl _ _).alloc _
      have q13 := block_alloc wr (.cells #[.string gi, .slice pa ps.length pc, .int .i64 t, .int .i64 e, .int .i64 n, .slice la ins.length lc] 42)
      obtain ⟨W1, hW1⟩ : ∃ W1, W1 = wr.alloc (.cells #[.string gi, .slice pa ps.length pc, .int .i64 t, .int .i64 e, .int .i64 n, .slice la ins.length lc] 42) := ⟨_, rfl⟩
      rw [← hW1] at hal q13
      have hsa := hal.size
      have hl13 := lt_of_block q13
      have hf1 := hf.step hal (fun _ _ h => h.elim)
      have hown1 := ownsRow_at hown hal (fun _ _ h => h)
      have Hf1 := Lib.hid hf1
      have Hown1 := Lib.hid hown1
      have Hq := Lib.hid q13
      clear hal hf hown hf1 hown1
      go_upto_region 5 with (fail)
      rw [← hW1]
      clear hW1 c0 c1 c2 c3 c4 c5
      have y0 : W1.cell? ⟨wr.heap.size, 0, none⟩ = some (.string gi) := cell_of_block q13 0
      have y1 : W1.cell? ⟨wr.heap.size, 1, none⟩ = some (.slice pa ps.length pc) := cell_of_block q13 1
      have y2 : W1.cell? ⟨wr.heap.size, 2, none⟩ = some (.int .i64 t) := cell_of_block q13 2
      have y3 : W1.cell? ⟨wr.heap.size, 3, none⟩ = some (.int .i64 e) := cell_of_block q13 3
      have y4 : W1.cell? ⟨wr.heap.size, 4, none⟩ = some (.int .i64 n) := cell_of_block q13 4
      have y5 : W1.cell? ⟨wr.heap.size, 5, none⟩ = some (.slice la ins.length lc) := cell_of_block q13 5
      have hwh := a_whole gi t e n pa ps.length pc la lc ins W1
      clear q13
      go_wp2_with fail
      refine hwh.mono ?_
      rintro en w2 ⟨rfl, hf2⟩
      have q2 := hf2.heap Hq.out id
      have Hf2 := Lib.hid (Hf1.out.step hf2 (fun _ _ h => h.elim))
      have Hown2 := Lib.hid (ownsRow_at Hown1.out hf2 (fun _ _ h => h))
      have hs2 := hf2.size
      clear hwh y0 y1 y2 y3 y4 y5 hf2 Hq Hf1 Hown1
      cases hd : decide (n = t) with
      | true =>
        have HV' : Hid (V = watchL D ((L.take (k + 1)).map ArrM.toArr) ex now wait) := by
          unfold Hid; rw [Htk.out, watchL_snoc, watchF_no (by simp only; rw [hd]; rfl), List.append_nil, HV.out]
        clear hd
        go_wp2_with fail
        go_roundw
        case rel => exact ⟨k + 1, V, av, cv, by omega, by omega, rfl, by go_num, Hown2.out, HV', Hf2.out⟩
        case measure => simp [intOf]; omega
      | false =>
        have x0 : w2.cell? ⟨wr.heap.size, 0, none⟩ = some (.string gi) := cell_of_block q2 0
        have hco := strs_contains xa xc ex gi w2 (hX.keep Hf2.out (fun b hb h => by unfold From at h; omega))
        go_wp2_with fail
        refine hco.mono ?_
        rintro en w3 ⟨rfl, hf3⟩
        have q3 := hf3.heap q2 id
        have Hf3 := Lib.hid (Hf2.out.step hf3 (fun _ _ h => h.elim))
        have Hown3 := Lib.hid (ownsRow_at Hown2.out hf3 (fun _ _ h => h))
        have hs3 := hf3.size
        clear hco x0 q2 hf3 Hf2 Hown2
        cases hh : hasS ex gi with
        | true =>
          have HV' : Hid (V = watchL D ((L.take (k + 1)).map ArrM.toArr) ex now wait) := by
            unfold Hid; rw [Htk.out, watchL_snoc, watchF_no (by simp only; rw [hd, hh]; rfl), List.append_nil, HV.out]
          clear hd hh
          go_wp2_with fail
          go_roundw
          case rel => exact ⟨k + 1, V, av, cv, by omega, by omega, rfl, by go_num, Hown3.out, HV', Hf3.out⟩
          case measure => simp [intOf]; omega
        | false =>
          have HV' : Hid (V ++ [dlOf D now wait gi] = watchL D ((L.take (k + 1)).map ArrM.toArr) ex now wait) := by
            unfold Hid; rw [Htk.out, watchL_snoc, watchF_yes (by simp only; rw [hd, hh]; rfl), HV.out]
          clear hd hh
          go_upto_region 6 with (fail)
          refine region_tree (From w3.heap.size) (.q 0 (.q 1 (.q 2 (.q 3 (.m2 4 (.q 5 (.m1 6 (.m1 7 .fin))) 6 (.m1 4 (.q 5 (.m1 7 .fin)))))))) _ (by kernel_rfl) (by kernel_rfl) (fun w0 hf0 => ?_) (fun _ _ h => h)
          have q4 := hf0.heap q3 id
          have hl4 := lt_of_block q3
          have g0 : ∀ g : Gr (From w3.heap.size) w0, g.W.cell? ⟨wr.heap.size, 0, none⟩ = some (.string gi) := fun g => g.fr.cell (cell_of_block q4 0) (by intro h; unfold From at h; simp only at h; omega)
          have Hf4 := Lib.hid (Hf3.out.step hf0 (fun _ _ h => h.elim))
          have Hown4 := Lib.hid (ownsRow_at Hown3.out hf0 (fun _ _ h => h))
          have hs4 := hf0.size
          have Hq4 := Lib.hid q4
          clear hf0 q3 q4 Hf3 Hown3
          repeat (first | (apply tree_q; exact rfl; exact rfl; exact rfl; intro K hK; go_big_quiet_op; go_big_quiet_on) | (apply tree_skip; exact rfl; exact rfl; exact rfl; intro K hK; go_big_quiet_op; go_big_quiet_on))
          clear g0
          refine tree_m2 rfl rfl ?_ ?_
          · have hlv := a_later now wait w0 hn1 hn2 hw1 hw2
            rw [← Hlv.out] at hlv
            go_wp2_with fail
            refine hlv.mono ?_
            rintro en w6 ⟨rfl, hw6⟩
            have hw6 := hw6.symm
            subst hw6
            clear hlv
            go_wp2_with fail
            refine OnlyN.mk ⟨Fr.refl _ _, ?_⟩
            repeat (first | (apply tree_q; exact rfl; exact rfl; exact rfl; intro K hK; go_big_quiet_op; go_big_quiet_on) | (apply tree_skip; exact rfl; exact rfl; exact rfl; intro K hK; go_big_quiet_op; go_big_quiet_on))
            refine tree_m1 rfl ?_
            go_wp2_with fail
            refine OnlyN.mk ⟨(Fr.refl _ _).alloc _, ?_⟩
            have qz := block_alloc w0 (.cells #[.string ⟨#[]⟩, .int .i64 0] 81)
            have hzz : Fr No w0 (w0.alloc (.cells #[.string ⟨#[]⟩, .int .i64 0] 81)) := (Fr.refl _ _).alloc _
            generalize w0.alloc (.cells #[.string ⟨#[]⟩, .int .i64 0] 81) = WA at *
            refine tree_m1 rfl ?_
            have b0 : WA.cell? ⟨w0.heap.size, 0, none⟩ = some (.string ⟨#[]⟩) := cell_of_block qz 0
            have b1 : WA.cell? ⟨w0.heap.size, 1, none⟩ = some (.int .i64 0) := cell_of_block qz 1
            have f0 : WA.frozen? ⟨w0.heap.size, 0, none⟩ = false := free_of_block qz 0
            have f1 : WA.frozen? ⟨w0.heap.size, 1, none⟩ = false := free_of_block qz 1
            have h2 := set2 qz rfl (.string gi) (.int .i64 lv)
            have hlz : w0.heap.size < WA.heap.size := lt_of_block qz
            go_wp2_with fail
            refine OnlyN.mk ⟨h2.2.mono (fun b _ h => by unfold Is at h; unfold From; omega), ?_⟩
            have HX2 := Lib.hid (And.intro h2.1 (hzz.trans h2.2 (fun _ _ h => h) (fun b hb h => by unfold Is at h; omega) : Fr No w0 (((WA).setCell ⟨w0.heap.size, 0, none⟩ (.string gi)).setCell ⟨w0.heap.size, 1, none⟩ (.int .i64 lv))))
            have hsx2 : w0.heap.size < (((WA).setCell ⟨w0.heap.size, 0, none⟩ (.string gi)).setCell ⟨w0.heap.size, 1, none⟩ (.int .i64 lv)).heap.size := lt_of_block h2.1
            obtain ⟨W6, hW6⟩ : ∃ W6, W6 = ((WA).setCell ⟨w0.heap.size, 0, none⟩ (.string gi)).setCell ⟨w0.heap.size, 1, none⟩ (.int .i64 lv) := ⟨_, rfl⟩
            rw [← hW6] at HX2 hsx2 ⊢
            clear b0 b1 f0 f1 h2 qz hW6 hlz hzz
            refine tree_end ?_
            have Hf6 := Lib.hid (Hf4.out.step HX2.out.2 (fun _ _ h => h.elim))
            have Hown6 := Lib.hid (ownsRow_at Hown4.out HX2.out.2 (fun _ _ h => h))
            have q6 := HX2.out.2.heap Hq4.out id
            have hix := watch_idx wr.heap.size da dc D gi W6 (cell_of_block q6 0) (hD.keep Hf6.out (fun b hb h => by unfold From at h; omega))
            go_wp2_with fail
            refine hix.mono ?_
            rintro en w7 ⟨hres, hf7⟩
            have Hf7 := Lib.hid (Hf6.out.step hf7 (fun _ _ h => h.elim))
            have Hown7 := Lib.hid (ownsRow_at Hown6.out hf7 (fun _ _ h => h))
            have q7 := hf7.heap HX2.out.1 id
            have hs7 := hf7.size
            clear hix hf7 q6
            rcases hres with ⟨rfl, hno⟩ | ⟨kd, d, rfl, hdk, hsome⟩
            · have Hno := Lib.hid hno
              clear hno
              have u0 : w7.cell? ⟨w0.heap.size, 0, none⟩ = some (.string gi) := cell_of_block q7 0
              have u1 : w7.cell? ⟨w0.heap.size, 1, none⟩ = some (.int .i64 lv) := cell_of_block q7 1
              have HV2 : Hid (V ++ [⟨gi, lv⟩] = watchL D ((L.take (k + 1)).map ArrM.toArr) ex now wait) := by unfold Hid; rw [← HV'.out, dlOf_none now wait Hno.out, ← Hlv.out]
              have hal : Fr No w7 (w7.alloc (.cells #[.string gi, .int .i64 lv] 81)) := (Fr.refl _ _).alloc _
              go_wp2_with (at_builtin; refine wpList_append_own _ rfl _ _ 78 rfl w.heap.size 81 i0 (.agg #[.string ByteArray.empty, .int .i64 0]) 2 24 Tryz.underlying78 hi0 hz0 hz1 hz2 rfl (by decide) _ _ _ rfl (Hown7.out.alloc _) ⟨w7.heap.size, 0, none⟩ 1 1 (Dl.vals ⟨gi, lv⟩).toList rfl rfl (cells_new _ (Dl.vals ⟨gi, lv⟩) _ rfl) (dvals_one _) (by unfold maxLen; omega) (by omega) (by first | omega | (simp; done) | (simp; omega)) ?_; intro v' w9 hown9 hgrow9 _; obtain ⟨av', cv', rfl⟩ := ownsRow_slice hown9)
              have hgf : Fr (fun b => (Value.slice av V.length cv).ownBlock = some b) (w7.alloc (.cells #[.string gi, .int .i64 lv] 81)) w9 := Fr.of_grown hgrow9
              have HF9 := Lib.hid (And.intro hown9 ((Hf7.out.step hal (fun _ _ h => h.elim)).step hgf (fun b _ h => ownsRow_blk Hown7.out h)))
              clear hown9 hgf hal hgrow9 u0 u1
              go_roundw
              case rel => exact ⟨k + 1, V ++ [⟨gi, lv⟩], av', cv', by omega, by simp; omega, by simp, by go_num, by rw [List.length_append, dflat_snoc]; exact HF9.out.1, HV2, HF9.out.2⟩
              case measure => simp [intOf]; omega
            · have Hsome := Lib.hid hsome
              have hkd : kd < D.length := (List.getElem?_eq_some_iff.1 hdk).1
              have hkd' : (kd : Int) < D.length := by omega
              obtain ⟨db, doff, d', rfl, hdk', ⟨d0, d1⟩, _⟩ := (hD.keep Hf7.out (fun b hb h => by unfold From at h; omega)).elem hkd
              obtain rfl : d = d' := by rw [hdk] at hdk'; exact Option.some.inj hdk'
              have b0 : w7.cell? ⟨w0.heap.size, 0, none⟩ = some (.string gi) := cell_of_block q7 0
              have b1 : w7.cell? ⟨w0.heap.size, 1, none⟩ = some (.int .i64 lv) := cell_of_block q7 1
              have f0 : w7.frozen? ⟨w0.heap.size, 0, none⟩ = false := free_of_block q7 0
              have f1 : w7.frozen? ⟨w0.heap.size, 1, none⟩ = false := free_of_block q7 1
              have h2 := set2 q7 rfl (.string d.i) (.int .i64 d.a)
              have q8 := h2.1
              have hnb : ∀ b, (Value.slice av V.length cv).ownBlock = some b → b ≠ w0.heap.size := fun b h e => by have h1 := ownsRow_lt Hown4.out h; omega
              have Hown8 := Lib.hid (ownsRow_at Hown7.out h2.2 (fun b h e => by have := hnb b h; unfold Is at e; omega))
              have Hf8 := Lib.hid (Hf7.out.step h2.2 (fun b _ h => by unfold Is at h; unfold From; omega))
              have hs8 := h2.2.size
              clear hdk hdk' hsome h2 q7 hnb
              go_upto_region 10 with (fail)
              generalize (w7.setCell ⟨w0.heap.size, 0, none⟩ (.string d.i)).setCell ⟨w0.heap.size, 1, none⟩ (.int .i64 d.a) = W8 at *
              clear b0 b1 f0 f1 d0 d1
              have u0 : W8.cell? ⟨w0.heap.size, 0, none⟩ = some (.string d.i) := cell_of_block q8 0
              have u1 : W8.cell? ⟨w0.heap.size, 1, none⟩ = some (.int .i64 d.a) := cell_of_block q8 1
              have HV2 : Hid (V ++ [⟨d.i, d.a⟩] = watchL D ((L.take (k + 1)).map ArrM.toArr) ex now wait) := by unfold Hid; rw [← HV'.out, dlOf_some now wait Hsome.out]
              have hal : Fr No W8 (W8.alloc (.cells #[.string d.i, .int .i64 d.a] 81)) := (Fr.refl _ _).alloc _
              go_wp2_with (at_builtin; refine wpList_append_own _ rfl _ _ 78 rfl w.heap.size 81 i0 (.agg #[.string ByteArray.empty, .int .i64 0]) 2 24 Tryz.underlying78 hi0 hz0 hz1 hz2 rfl (by decide) _ _ _ rfl (Hown8.out.alloc _) ⟨W8.heap.size, 0, none⟩ 1 1 (Dl.vals ⟨d.i, d.a⟩).toList rfl rfl (cells_new _ (Dl.vals ⟨d.i, d.a⟩) _ rfl) (dvals_one _) (by unfold maxLen; omega) (by omega) (by first | omega | (simp; done) | (simp; omega)) ?_; intro v' w9 hown9 hgrow9 _; obtain ⟨av', cv', rfl⟩ := ownsRow_slice hown9)
              have hgf : Fr (fun b => (Value.slice av V.length cv).ownBlock = some b) (W8.alloc (.cells #[.string d.i, .int .i64 d.a] 81)) w9 := Fr.of_grown hgrow9
              have HF9 := Lib.hid (And.intro hown9 ((Hf8.out.step hal (fun _ _ h => h.elim)).step hgf (fun b _ h => ownsRow_blk Hown8.out h)))
              clear hown9 hgf hal hgrow9 u0 u1
              go_roundw
              case rel => exact ⟨k + 1, V ++ [⟨d.i, d.a⟩], av', cv', by omega, by simp; omega, by simp, by go_num, by rw [List.length_append, dflat_snoc]; exact HF9.out.1, HV2, HF9.out.2⟩
              case measure => simp [intOf]; omega
          · go_wp2_with fail
            refine OnlyN.mk ⟨(Fr.refl _ _).alloc _, ?_⟩
            have qz := block_alloc w0 (.cells #[.string ⟨#[]⟩, .int .i64 0] 81)
            have hzz : Fr No w0 (w0.alloc (.cells #[.string ⟨#[]⟩, .int .i64 0] 81)) := (Fr.refl _ _).alloc _
            generalize w0.alloc (.cells #[.string ⟨#[]⟩, .int .i64 0] 81) = WA at *
            refine tree_m1 rfl ?_
            have hlv := a_later now wait WA hn1 hn2 hw1 hw2
            rw [← Hlv.out] at hlv
            go_wp2_with fail
            refine hlv.mono ?_
            rintro en w6 ⟨rfl, hw6⟩
            have hw6 := hw6.symm
            subst hw6
            clear hlv
            go_wp2_with fail
            refine OnlyN.mk ⟨Fr.refl _ _, ?_⟩
            repeat (first | (apply tree_q; exact rfl; exact rfl; exact rfl; intro K hK; go_big_quiet_op; go_big_quiet_on) | (apply tree_skip; exact rfl; exact rfl; exact rfl; intro K hK; go_big_quiet_op; go_big_quiet_on))
            refine tree_m1 rfl ?_
            have b0 : WA.cell? ⟨w0.heap.size, 0, none⟩ = some (.string ⟨#[]⟩) := cell_of_block qz 0
            have b1 : WA.cell? ⟨w0.heap.size, 1, none⟩ = some (.int .i64 0) := cell_of_block qz 1
            have f0 : WA.frozen? ⟨w0.heap.size, 0, none⟩ = false := free_of_block qz 0
            have f1 : WA.frozen? ⟨w0.heap.size, 1, none⟩ = false := free_of_block qz 1
            have h2 := set2 qz rfl (.string gi) (.int .i64 lv)
            have hlz : w0.heap.size < WA.heap.size := lt_of_block qz
            go_wp2_with fail
            refine OnlyN.mk ⟨h2.2.mono (fun b _ h => by unfold Is at h; unfold From; omega), ?_⟩
            have HX2 := Lib.hid (And.intro h2.1 (hzz.trans h2.2 (fun _ _ h => h) (fun b hb h => by unfold Is at h; omega) : Fr No w0 (((WA).setCell ⟨w0.heap.size, 0, none⟩ (.string gi)).setCell ⟨w0.heap.size, 1, none⟩ (.int .i64 lv))))
            have hsx2 : w0.heap.size < (((WA).setCell ⟨w0.heap.size, 0, none⟩ (.string gi)).setCell ⟨w0.heap.size, 1, none⟩ (.int .i64 lv)).heap.size := lt_of_block h2.1
            obtain ⟨W6, hW6⟩ : ∃ W6, W6 = ((WA).setCell ⟨w0.heap.size, 0, none⟩ (.string gi)).setCell ⟨w0.heap.size, 1, none⟩ (.int .i64 lv) := ⟨_, rfl⟩
            rw [← hW6] at HX2 hsx2 ⊢
            clear b0 b1 f0 f1 h2 qz hW6 hlz hzz
            refine tree_end ?_
            have Hf6 := Lib.hid (Hf4.out.step HX2.out.2 (fun _ _ h => h.elim))
            have Hown6 := Lib.hid (ownsRow_at Hown4.out HX2.out.2 (fun _ _ h => h))
            have q6 := HX2.out.2.heap Hq4.out id
            have hix := watch_idx wr.heap.size da dc D gi W6 (cell_of_block q6 0) (hD.keep Hf6.out (fun b hb h => by unfold From at h; omega))
            go_wp2_with fail
            refine hix.mono ?_
            rintro en w7 ⟨hres, hf7⟩
            have Hf7 := Lib.hid (Hf6.out.step hf7 (fun _ _ h => h.elim))
            have Hown7 := Lib.hid (ownsRow_at Hown6.out hf7 (fun _ _ h => h))
            have q7 := hf7.heap HX2.out.1 id
            have hs7 := hf7.size
            clear hix hf7 q6
            rcases hres with ⟨rfl, hno⟩ | ⟨kd, d, rfl, hdk, hsome⟩
            · have Hno := Lib.hid hno
              clear hno
              have u0 : w7.cell? ⟨w0.heap.size, 0, none⟩ = some (.string gi) := cell_of_block q7 0
              have u1 : w7.cell? ⟨w0.heap.size, 1, none⟩ = some (.int .i64 lv) := cell_of_block q7 1
              have HV2 : Hid (V ++ [⟨gi, lv⟩] = watchL D ((L.take (k + 1)).map ArrM.toArr) ex now wait) := by unfold Hid; rw [← HV'.out, dlOf_none now wait Hno.out, ← Hlv.out]
              have hal : Fr No w7 (w7.alloc (.cells #[.string gi, .int .i64 lv] 81)) := (Fr.refl _ _).alloc _
              go_wp2_with (at_builtin; refine wpList_append_own _ rfl _ _ 78 rfl w.heap.size 81 i0 (.agg #[.string ByteArray.empty, .int .i64 0]) 2 24 Tryz.underlying78 hi0 hz0 hz1 hz2 rfl (by decide) _ _ _ rfl (Hown7.out.alloc _) ⟨w7.heap.size, 0, none⟩ 1 1 (Dl.vals ⟨gi, lv⟩).toList rfl rfl (cells_new _ (Dl.vals ⟨gi, lv⟩) _ rfl) (dvals_one _) (by unfold maxLen; omega) (by omega) (by first | omega | (simp; done) | (simp; omega)) ?_; intro v' w9 hown9 hgrow9 _; obtain ⟨av', cv', rfl⟩ := ownsRow_slice hown9)
              have hgf : Fr (fun b => (Value.slice av V.length cv).ownBlock = some b) (w7.alloc (.cells #[.string gi, .int .i64 lv] 81)) w9 := Fr.of_grown hgrow9
              have HF9 := Lib.hid (And.intro hown9 ((Hf7.out.step hal (fun _ _ h => h.elim)).step hgf (fun b _ h => ownsRow_blk Hown7.out h)))
              clear hown9 hgf hal hgrow9 u0 u1
              go_roundw
              case rel => exact ⟨k + 1, V ++ [⟨gi, lv⟩], av', cv', by omega, by simp; omega, by simp, by go_num, by rw [List.length_append, dflat_snoc]; exact HF9.out.1, HV2, HF9.out.2⟩
              case measure => simp [intOf]; omega
            · have Hsome := Lib.hid hsome
              have hkd : kd < D.length := (List.getElem?_eq_some_iff.1 hdk).1
              have hkd' : (kd : Int) < D.length := by omega
              obtain ⟨db, doff, d', rfl, hdk', ⟨d0, d1⟩, _⟩ := (hD.keep Hf7.out (fun b hb h => by unfold From at h; omega)).elem hkd
              obtain rfl : d = d' := by rw [hdk] at hdk'; exact Option.some.inj hdk'
              have b0 : w7.cell? ⟨w0.heap.size, 0, none⟩ = some (.string gi) := cell_of_block q7 0
              have b1 : w7.cell? ⟨w0.heap.size, 1, none⟩ = some (.int .i64 lv) := cell_of_block q7 1
              have f0 : w7.frozen? ⟨w0.heap.size, 0, none⟩ = false := free_of_block q7 0
              have f1 : w7.frozen? ⟨w0.heap.size, 1, none⟩ = false := free_of_block q7 1
              have h2 := set2 q7 rfl (.string d.i) (.int .i64 d.a)
              have q8 := h2.1
              have hnb : ∀ b, (Value.slice av V.length cv).ownBlock = some b → b ≠ w0.heap.size := fun b h e => by have h1 := ownsRow_lt Hown4.out h; omega
              have Hown8 := Lib.hid (ownsRow_at Hown7.out h2.2 (fun b h e => by have := hnb b h; unfold Is at e; omega))
              have Hf8 := Lib.hid (Hf7.out.step h2.2 (fun b _ h => by unfold Is at h; unfold From; omega))
              have hs8 := h2.2.size
              clear hdk hdk' hsome h2 q7 hnb
              go_upto_region 10 with (fail)
              generalize (w7.setCell ⟨w0.heap.size, 0, none⟩ (.string d.i)).setCell ⟨w0.heap.size, 1, none⟩ (.int .i64 d.a) = W8 at *
              clear b0 b1 f0 f1 d0 d1
              have u0 : W8.cell? ⟨w0.heap.size, 0, none⟩ = some (.string d.i) := cell_of_block q8 0
              have u1 : W8.cell? ⟨w0.heap.size, 1, none⟩ = some (.int .i64 d.a) := cell_of_block q8 1
              have HV2 : Hid (V ++ [⟨d.i, d.a⟩] = watchL D ((L.take (k + 1)).map ArrM.toArr) ex now wait) := by unfold Hid; rw [← HV'.out, dlOf_some now wait Hsome.out]
              have hal : Fr No W8 (W8.alloc (.cells #[.string d.i, .int .i64 d.a] 81)) := (Fr.refl _ _).alloc _
              go_wp2_with (at_builtin; refine wpList_append_own _ rfl _ _ 78 rfl w.heap.size 81 i0 (.agg #[.string ByteArray.empty, .int .i64 0]) 2 24 Tryz.underlying78 hi0 hz0 hz1 hz2 rfl (by decide) _ _ _ rfl (Hown8.out.alloc _) ⟨W8.heap.size, 0, none⟩ 1 1 (Dl.vals ⟨d.i, d.a⟩).toList rfl rfl (cells_new _ (Dl.vals ⟨d.i, d.a⟩) _ rfl) (dvals_one _) (by unfold maxLen; omega) (by omega) (by first | omega | (simp; done) | (simp; omega)) ?_; intro v' w9 hown9 hgrow9 _; obtain ⟨av', cv', rfl⟩ := ownsRow_slice hown9)
              have hgf : Fr (fun b => (Value.slice av V.length cv).ownBlock = some b) (W8.alloc (.cells #[.string d.i, .int .i64 d.a] 81)) w9 := Fr.of_grown hgrow9
              have HF9 := Lib.hid (And.intro hown9 ((Hf8.out.step hal (fun _ _ h => h.elim)).step hgf (fun b _ h => ownsRow_blk Hown8.out h)))
              clear hown9 hgf hal hgrow9 u0 u1
              go_roundw
              case rel => exact ⟨k + 1, V ++ [⟨d.i, d.a⟩], av', cv', by omega, by simp; omega, by simp, by go_num, by rw [List.length_append, dflat_snoc]; exact HF9.out.1, HV2, HF9.out.2⟩
              case measure => simp [intOf]; omega
    · obtain rfl : k = L.length := by omega
      obtain ⟨a', c', hv, hR, _⟩ := Dls.of_own hown
      cases hv
      have hVe := HV.out
      rw [List.take_length] at hVe
      have H := Lib.hid (And.intro hR (And.intro hVe (hf.mono (T := No) (fun b hb h => by unfold From at h; omega))))
      clear hown hf hR hVe HV
      go_wp2_with fail
      go_ret
      exact ⟨⟨_, _, V, rfl, H.out.1, H.out.2.1⟩, H.out.2.2⟩

set_option maxRecDepth 100000 in
set_option maxHeartbeats 8000000 in
theorem r_watch (da : Option Addr) (dc : Nat) (D : List Dl) (aa : Option Addr) (ac : Nat) (L : List ArrM) (xa : Option Addr) (xc : Nat) (ex : List ByteArray) (now wait : Int) (w : World) (hD : Dls w da dc D) (hL : Arrs w aa ac L) (hX : Strs w xa xc ex) (hDl : D.length ≤ 100000) (hLl : L.length ≤ 100000)
    (hn1 : 0 ≤ now) (hn2 : now ≤ 1073741824) (hw1 : 0 ≤ wait) (hw2 : wait ≤ 2147483648) :
    Calls Tryz.prog 56 #[.slice da D.length dc, .slice aa L.length ac, .slice xa ex.length xc, .int .i64 now, .int .i64 wait] w fun e w' => WatchR D (L.map ArrM.toArr) ex now wait e w' ∧ Fr No w w' := by
  obtain ⟨i0, hi0, hz0, hz1, hz2⟩ := info_parts infoDl
  have hlm := hL.lenmax
  obtain ⟨lv, hlve⟩ : ∃ lv, lv = laterV now wait := ⟨_, rfl⟩
  have Hlv := Lib.hid hlve
  clear hlve
  go_enter Tryz.func56, Tryz.ntmps56
  go_wp2_with fail
  go_loopw [11, 12] (fun v i wr => ∃ (k : Nat) (V : List Dl) (av : Option Addr) (cv : Nat), k ≤ L.length ∧ V.length ≤ k ∧ v = .slice av V.length cv ∧ i = .int .i64 (k : Int) ∧ wr.ownsRow w.heap.size 81 2 (.slice av V.length cv) V.length (dflat V) ∧ Hid (V = watchL D ((L.take k).map ArrM.toArr) ex now wait) ∧ Fr (From w.heap.size) w wr) (fun _ i _ => L.length - (intOf i).toNat)
  case atStart => exact ⟨0, [], none, 0, by omega, by simp, rfl, rfl, World.ownsRow_nil _ _ _ _, by unfold Hid; rfl, Fr.refl _ _⟩
  case round =>
    obtain ⟨k, V, av, cv, hk, hVk, rfl, rfl, hown, HV, hf⟩ := hrel
    have hsr := hf.size
    by_cases hlt : k < L.length
    · have hlt' : (k : Int) < L.length := by omega
      obtain ⟨b, off, A, rfl, hAk, _, ⟨c0, c1, c2, c3, c4, c5⟩, _⟩ := (hL.keep hf (fun b hb h => by unfold From at h; omega)).elem hlt
      have Htk : Hid ((L.take (k + 1)).map ArrM.toArr = (L.take k).map ArrM.toArr ++ [A.toArr]) := by unfold Hid; rw [List.take_add_one, hAk]; simp
      clear hAk
      obtain ⟨⟨gi, ps, t, e, n, ins⟩, pa, pc, la, lc⟩ := A
      simp only at c0 c1 c2 c3 c4 c5
      have hal : Fr No wr (wr.alloc (.cells #[.string gi, .slice pa ps.length pc, .int .i64 t, .int .i64 e, .int .i64 n, .slice la ins.length lc] 42)) := (Fr.refl _ _).alloc _
      have q13 := block_alloc wr (.cells #[.string gi, .slice pa ps.length pc, .int .i64 t, .int .i64 e, .int .i64 n, .slice la ins.length lc] 42)
      obtain ⟨W1, hW1⟩ : ∃ W1, W1 = wr.alloc (.cells #[.string gi, .slice pa ps.length pc, .int .i64 t, .int .i64 e, .int .i64 n, .slice la ins.length lc] 42) := ⟨_, rfl⟩
      rw [← hW1] at hal q13
      have hsa := hal.size
      have hl13 := lt_of_block q13
      have hf1 := hf.step hal (fun _ _ h => h.elim)
      have hown1 := ownsRow_at hown hal (fun _ _ h => h)
      have Hf1 := Lib.hid hf1
      have Hown1 := Lib.hid hown1
      have Hq := Lib.hid q13
      clear hal hf hown hf1 hown1
      go_upto_region 6 with (fail)
      rw [← hW1]
      clear hW1 c0 c1 c2 c3 c4 c5
      have y0 : W1.cell? ⟨wr.heap.size, 0, none⟩ = some (.string gi) := cell_of_block q13 0
      have y1 : W1.cell? ⟨wr.heap.size, 1, none⟩ = some (.slice pa ps.length pc) := cell_of_block q13 1
      have y2 : W1.cell? ⟨wr.heap.size, 2, none⟩ = some (.int .i64 t) := cell_of_block q13 2
      have y3 : W1.cell? ⟨wr.heap.size, 3, none⟩ = some (.int .i64 e) := cell_of_block q13 3
      have y4 : W1.cell? ⟨wr.heap.size, 4, none⟩ = some (.int .i64 n) := cell_of_block q13 4
      have y5 : W1.cell? ⟨wr.heap.size, 5, none⟩ = some (.slice la ins.length lc) := cell_of_block q13 5
      have hwh := r_whole gi t e n pa ps.length pc la lc ins W1
      clear q13
      go_wp2_with fail
      refine hwh.mono ?_
      rintro en w2 ⟨rfl, hf2⟩
      have q2 := hf2.heap Hq.out id
      have Hf2 := Lib.hid (Hf1.out.step hf2 (fun _ _ h => h.elim))
      have Hown2 := Lib.hid (ownsRow_at Hown1.out hf2 (fun _ _ h => h))
      have hs2 := hf2.size
      clear hwh y0 y1 y2 y3 y4 y5 hf2 Hq Hf1 Hown1
      cases hd : decide (n = t) with
      | true =>
        have HV' : Hid (V = watchL D ((L.take (k + 1)).map ArrM.toArr) ex now wait) := by
          unfold Hid; rw [Htk.out, watchL_snoc, watchF_no (by simp only; rw [hd]; rfl), List.append_nil, HV.out]
        clear hd
        go_wp2_with fail
        go_roundw
        case rel => exact ⟨k + 1, V, av, cv, by omega, by omega, rfl, by go_num, Hown2.out, HV', Hf2.out⟩
        case measure => simp [intOf]; omega
      | false =>
        have x0 : w2.cell? ⟨wr.heap.size, 0, none⟩ = some (.string gi) := cell_of_block q2 0
        have hco := ref_in32 xa xc ex gi w2 (hX.keep Hf2.out (fun b hb h => by unfold From at h; omega))
        go_wp2_with fail
        refine hco.mono ?_
        rintro en w3 ⟨rfl, hf3⟩
        have q3 := hf3.heap q2 id
        have Hf3 := Lib.hid (Hf2.out.step hf3 (fun _ _ h => h.elim))
        have Hown3 := Lib.hid (ownsRow_at Hown2.out hf3 (fun _ _ h => h))
        have hs3 := hf3.size
        clear hco x0 q2 hf3 Hf2 Hown2
        cases hh : hasS ex gi with
        | true =>
          have HV' : Hid (V = watchL D ((L.take (k + 1)).map ArrM.toArr) ex now wait) := by
            unfold Hid; rw [Htk.out, watchL_snoc, watchF_no (by simp only; rw [hd, hh]; rfl), List.append_nil, HV.out]
          clear hd hh
          go_wp2_with fail
          go_roundw
          case rel => exact ⟨k + 1, V, av, cv, by omega, by omega, rfl, by go_num, Hown3.out, HV', Hf3.out⟩
          case measure => simp [intOf]; omega
        | false =>
          have HV' : Hid (V ++ [dlOf D now wait gi] = watchL D ((L.take (k + 1)).map ArrM.toArr) ex now wait) := by
            unfold Hid; rw [Htk.out, watchL_snoc, watchF_yes (by simp only; rw [hd, hh]; rfl), HV.out]
          clear hd hh
          go_upto_region 7 with (fail)
          refine region_tree (From w3.heap.size) (.q 0 (.q 1 (.q 2 (.q 3 (.m2 4 (.q 5 (.m1 6 (.m1 7 .fin))) 6 (.m1 4 (.q 5 (.m1 7 .fin)))))))) _ (by kernel_rfl) (by kernel_rfl) (fun w0 hf0 => ?_) (fun _ _ h => h)
          have q4 := hf0.heap q3 id
          have hl4 := lt_of_block q3
          have g0 : ∀ g : Gr (From w3.heap.size) w0, g.W.cell? ⟨wr.heap.size, 0, none⟩ = some (.string gi) := fun g => g.fr.cell (cell_of_block q4 0) (by intro h; unfold From at h; simp only at h; omega)
          have Hf4 := Lib.hid (Hf3.out.step hf0 (fun _ _ h => h.elim))
          have Hown4 := Lib.hid (ownsRow_at Hown3.out hf0 (fun _ _ h => h))
          have hs4 := hf0.size
          have Hq4 := Lib.hid q4
          clear hf0 q3 q4 Hf3 Hown3
          repeat (first | (apply tree_q; exact rfl; exact rfl; exact rfl; intro K hK; go_big_quiet_op; go_big_quiet_on) | (apply tree_skip; exact rfl; exact rfl; exact rfl; intro K hK; go_big_quiet_op; go_big_quiet_on))
          clear g0
          refine tree_m2 rfl rfl ?_ ?_
          · have hlv := r_after now wait w0 hn1 hn2 hw1 hw2
            rw [← Hlv.out] at hlv
            go_wp2_with fail
            refine hlv.mono ?_
            rintro en w6 ⟨rfl, hw6⟩
            have hw6 := hw6.symm
            subst hw6
            clear hlv
            go_wp2_with fail
            refine OnlyN.mk ⟨Fr.refl _ _, ?_⟩
            repeat (first | (apply tree_q; exact rfl; exact rfl; exact rfl; intro K hK; go_big_quiet_op; go_big_quiet_on) | (apply tree_skip; exact rfl; exact rfl; exact rfl; intro K hK; go_big_quiet_op; go_big_quiet_on))
            refine tree_m1 rfl ?_
            go_wp2_with fail
            refine OnlyN.mk ⟨(Fr.refl _ _).alloc _, ?_⟩
            have qz := block_alloc w0 (.cells #[.string ⟨#[]⟩, .int .i64 0] 81)
            have hzz : Fr No w0 (w0.alloc (.cells #[.string ⟨#[]⟩, .int .i64 0] 81)) := (Fr.refl _ _).alloc _
            generalize w0.alloc (.cells #[.string ⟨#[]⟩, .int .i64 0] 81) = WA at *
            refine tree_m1 rfl ?_
            have b0 : WA.cell? ⟨w0.heap.size, 0, none⟩ = some (.string ⟨#[]⟩) := cell_of_block qz 0
            have b1 : WA.cell? ⟨w0.heap.size, 1, none⟩ = some (.int .i64 0) := cell_of_block qz 1
            have f0 : WA.frozen? ⟨w0.heap.size, 0, none⟩ = false := free_of_block qz 0
            have f1 : WA.frozen? ⟨w0.heap.size, 1, none⟩ = false := free_of_block qz 1
            have h2 := set2 qz rfl (.string gi) (.int .i64 lv)
            have hlz : w0.heap.size < WA.heap.size := lt_of_block qz
            go_wp2_with fail
            refine OnlyN.mk ⟨h2.2.mono (fun b _ h => by unfold Is at h; unfold From; omega), ?_⟩
            have HX2 := Lib.hid (And.intro h2.1 (hzz.trans h2.2 (fun _ _ h => h) (fun b hb h => by unfold Is at h; omega) : Fr No w0 (((WA).setCell ⟨w0.heap.size, 0, none⟩ (.string gi)).setCell ⟨w0.heap.size, 1, none⟩ (.int .i64 lv))))
            have hsx2 : w0.heap.size < (((WA).setCell ⟨w0.heap.size, 0, none⟩ (.string gi)).setCell ⟨w0.heap.size, 1, none⟩ (.int .i64 lv)).heap.size := lt_of_block h2.1
            obtain ⟨W6, hW6⟩ : ∃ W6, W6 = ((WA).setCell ⟨w0.heap.size, 0, none⟩ (.string gi)).setCell ⟨w0.heap.size, 1, none⟩ (.int .i64 lv) := ⟨_, rfl⟩
            rw [← hW6] at HX2 hsx2 ⊢
            clear b0 b1 f0 f1 h2 qz hW6 hlz hzz
            refine tree_end ?_
            have Hf6 := Lib.hid (Hf4.out.step HX2.out.2 (fun _ _ h => h.elim))
            have Hown6 := Lib.hid (ownsRow_at Hown4.out HX2.out.2 (fun _ _ h => h))
            have Hq6 := Lib.hid (HX2.out.2.heap Hq4.out id)
            obtain ⟨b14, hb14⟩ : ∃ b14, b14 = w0.heap.size := ⟨_, rfl⟩
            rw [← hb14] at HX2 hsx2 ⊢
            have hb14a : wr.heap.size < b14 := by have := lt_of_block Hq4.out; omega
            have hb14b : w.heap.size ≤ b14 := by omega
            have hnb : ∀ b, (Value.slice av V.length cv).ownBlock = some b → b ≠ b14 := fun b h e => by have h1 := ownsRow_lt Hown4.out h; omega
            obtain ⟨b13, hb13⟩ : ∃ b13, b13 = wr.heap.size := ⟨_, rfl⟩
            rw [← hb13] at Hq6 hb14a ⊢
            have hdm : D.length ≤ 100000 := hDl
            clear hb14 hb13
            go_wp2_with fail
            go_loopw [15] (fun i wi => ∃ (r : Nat) (x : Dl), r ≤ D.length ∧ i = .int .i64 ((r : Int) - 1) ∧ Hid (x = dlOf (D.drop r) now wait gi) ∧ wi.heap[b14]? = some (.cells #[.string x.i, .int .i64 x.a] 81) ∧ Fr (Is b14) W6 wi) (fun i _ => (intOf i + 1).toNat)
            case atStart => exact ⟨D.length, ⟨gi, lv⟩, by omega, by first | rfl | go_num, by unfold Hid; rw [List.drop_length, dlOf_none now wait (by simp), Hlv.out], HX2.out.1, Fr.refl _ _⟩
            case round =>
              obtain ⟨r, x, hr, rfl, Hx, hq, hfi⟩ := hrel
              have Hfi := Lib.hid (Hf6.out.step hfi (fun b _ h => by unfold Is at h; unfold From; omega))
              have Howni := Lib.hid (ownsRow_at Hown6.out hfi (fun b h e => by have := hnb b h; unfold Is at e; omega))
              have hsi := hfi.size
              rcases r with _ | r
              · have hge : ¬ (0 : Int) ≤ ((0 : Nat) : Int) - 1 := by omega
                have Hdl : Hid (dlOf D now wait gi = x) := by unfold Hid; rw [Hx.out, List.drop_zero]
                clear hfi Hx
                have u0 : wr.cell? ⟨b14, 0, none⟩ = some (.string x.i) := cell_of_block hq 0
                have u1 : wr.cell? ⟨b14, 1, none⟩ = some (.int .i64 x.a) := cell_of_block hq 1
                have HV2 : Hid (V ++ [⟨x.i, x.a⟩] = watchL D ((L.take (k + 1)).map ArrM.toArr) ex now wait) := by unfold Hid; rw [← HV'.out, Hdl.out]
                have hal : Fr No wr (wr.alloc (.cells #[.string x.i, .int .i64 x.a] 81)) := (Fr.refl _ _).alloc _
                go_wp2_with (at_builtin; refine wpList_append_own _ rfl _ _ 78 rfl w.heap.size 81 i0 (.agg #[.string ByteArray.empty, .int .i64 0]) 2 24 Tryz.underlying78 hi0 hz0 hz1 hz2 rfl (by decide) _ _ _ rfl (Howni.out.alloc _) ⟨wr.heap.size, 0, none⟩ 1 1 (Dl.vals ⟨x.i, x.a⟩).toList rfl rfl (cells_new _ (Dl.vals ⟨x.i, x.a⟩) _ rfl) (dvals_one _) (by unfold maxLen; omega) (by omega) (by first | omega | (simp; done) | (simp; omega)) ?_; intro v' w9 hown9 hgrow9 _; obtain ⟨av', cv', rfl⟩ := ownsRow_slice hown9)
                have hgf : Fr (fun b => (Value.slice av V.length cv).ownBlock = some b) (wr.alloc (.cells #[.string x.i, .int .i64 x.a] 81)) w9 := Fr.of_grown hgrow9
                have HF9 := Lib.hid (And.intro hown9 ((Hfi.out.step hal (fun _ _ h => h.elim)).step hgf (fun b _ h => ownsRow_blk Howni.out h)))
                clear hown9 hgf hal hgrow9 u0 u1
                go_roundw
                case rel => exact ⟨k + 1, V ++ [⟨x.i, x.a⟩], av', cv', by omega, by simp; omega, by simp, by go_num, by rw [List.length_append, dflat_snoc]; exact HF9.out.1, HV2, HF9.out.2⟩
                case measure => simp [intOf]; omega
              · have hge : (0 : Int) ≤ ((r + 1 : Nat) : Int) - 1 := by omega
                rw [show ((r + 1 : Nat) : Int) - 1 = (r : Int) by omega] at hge ⊢
                have hrl : r < D.length := by omega
                have hrl' : (r : Int) < D.length := by omega
                have hfi' := Hfi.out
                go_upto_region 11 with (fail)
                refine region_sig No [(0, false), (1, false), (2, false), (3, false), (4, false), (5, false), (6, false), (7, false)] (by kernel_rfl) (by kernel_rfl) (fun w5 hf5 => ?_)
                obtain ⟨db, doff, d, rfl, hdr, ⟨d0, d1⟩, _⟩ := (hD.keep (hfi'.step hf5 (fun _ _ h => h.elim)) (fun b hb h => by unfold From at h; omega)).elem hrl
                have Hdr : Hid (D.drop r = d :: D.drop (r + 1)) := by unfold Hid; obtain ⟨h1, h2⟩ := List.getElem?_eq_some_iff.1 hdr; rw [List.drop_eq_getElem_cons h1, h2]
                have q13 := hf5.heap (hfi.heap Hq6.out (fun e => by unfold Is at e; omega)) id
                have g0 : ∀ g : Gr No w5, g.W.cell? ⟨db, doff + r * 2, none⟩ = some (.string d.i) := fun g => g.fr.cell d0 id
                have g1 : ∀ g : Gr No w5, g.W.cell? ⟨b13, 0, none⟩ = some (.string gi) := fun g => g.fr.cell (cell_of_block q13 0) id
                have hq5 := hf5.heap hq id
                have Hq5 := Lib.hid hq5
                have Hfx := Lib.hid (hfi.step hf5 (fun _ _ h => h.elim))
                clear hdr hf5 hfi hq hfi' q13
                repeat (first | (apply sig_q; exact rfl; exact rfl; exact rfl; intro K hK; go_big_quiet_op; go_big_quiet_on) | (apply sig_skip; exact rfl; exact rfl; exact rfl; intro K hK; go_big_quiet_op; go_big_quiet_on))
                refine sig_end ?_
                clear g0 g1
                rcases hv : (d.i.toList == gi.toList) with _ | _
                · have Hx' : Hid (x = dlOf (D.drop r) now wait gi) := by
                    unfold Hid; rw [Hdr.out, Hx.out]; unfold dlOf
                    have : isD gi d = false := hv
                    rw [List.find?_cons_of_neg (by rw [this]; simp)]
                  clear hv d0 d1 hq5
                  go_wp2_with fail
                  go_roundw
                  case rel => exact ⟨r, x, by omega, by go_num, Hx', Hq5.out, Hfx.out⟩
                  case measure => simp [intOf]
                · have Hx' : Hid (d = dlOf (D.drop r) now wait gi) := by
                    unfold Hid; rw [Hdr.out]; unfold dlOf
                    have : isD gi d = true := hv
                    rw [List.find?_cons_of_pos this]; rfl
                  have b0 : w5.cell? ⟨b14, 0, none⟩ = some (.string x.i) := cell_of_block hq5 0
                  have b1 : w5.cell? ⟨b14, 1, none⟩ = some (.int .i64 x.a) := cell_of_block hq5 1
                  have f0 : w5.frozen? ⟨b14, 0, none⟩ = false := free_of_block hq5 0
                  have f1 : w5.frozen? ⟨b14, 1, none⟩ = false := free_of_block hq5 1
                  have h2 := set2 hq5 rfl (.string d.i) (.int .i64 d.a)
                  have H2 := Lib.hid (And.intro h2.1 (Hfx.out.step h2.2 (fun _ _ h => h)))
                  clear hv h2 hq5
                  go_wp2_with fail
                  go_roundw
                  case rel => exact ⟨r, d, by omega, by go_num, Hx', H2.out.1, H2.out.2⟩
                  case measure => simp [intOf]
          · go_wp2_with fail
            refine OnlyN.mk ⟨(Fr.refl _ _).alloc _, ?_⟩
            have qz := block_alloc w0 (.cells #[.string ⟨#[]⟩, .int .i64 0] 81)
            have hzz : Fr No w0 (w0.alloc (.cells #[.string ⟨#[]⟩, .int .i64 0] 81)) := (Fr.refl _ _).alloc _
            generalize w0.alloc (.cells #[.string ⟨#[]⟩, .int .i64 0] 81) = WA at *
            refine tree_m1 rfl ?_
            have hlv := r_after now wait WA hn1 hn2 hw1 hw2
            rw [← Hlv.out] at hlv
            go_wp2_with fail
            refine hlv.mono ?_
            rintro en w6 ⟨rfl, hw6⟩
            have hw6 := hw6.symm
            subst hw6
            clear hlv
            go_wp2_with fail
            refine OnlyN.mk ⟨Fr.refl _ _, ?_⟩
            repeat (first | (apply tree_q; exact rfl; exact rfl; exact rfl; intro K hK; go_big_quiet_op; go_big_quiet_on) | (apply tree_skip; exact rfl; exact rfl; exact rfl; intro K hK; go_big_quiet_op; go_big_quiet_on))
            refine tree_m1 rfl ?_
            have b0 : WA.cell? ⟨w0.heap.size, 0, none⟩ = some (.string ⟨#[]⟩) := cell_of_block qz 0
            have b1 : WA.cell? ⟨w0.heap.size, 1, none⟩ = some (.int .i64 0) := cell_of_block qz 1
            have f0 : WA.frozen? ⟨w0.heap.size, 0, none⟩ = false := free_of_block qz 0
            have f1 : WA.frozen? ⟨w0.heap.size, 1, none⟩ = false := free_of_block qz 1
            have h2 := set2 qz rfl (.string gi) (.int .i64 lv)
            have hlz : w0.heap.size < WA.heap.size := lt_of_block qz
            go_wp2_with fail
            refine OnlyN.mk ⟨h2.2.mono (fun b _ h => by unfold Is at h; unfold From; omega), ?_⟩
            have HX2 := Lib.hid (And.intro h2.1 (hzz.trans h2.2 (fun _ _ h => h) (fun b hb h => by unfold Is at h; omega) : Fr No w0 (((WA).setCell ⟨w0.heap.size, 0, none⟩ (.string gi)).setCell ⟨w0.heap.size, 1, none⟩ (.int .i64 lv))))
            have hsx2 : w0.heap.size < (((WA).setCell ⟨w0.heap.size, 0, none⟩ (.string gi)).setCell ⟨w0.heap.size, 1, none⟩ (.int .i64 lv)).heap.size := lt_of_block h2.1
            obtain ⟨W6, hW6⟩ : ∃ W6, W6 = ((WA).setCell ⟨w0.heap.size, 0, none⟩ (.string gi)).setCell ⟨w0.heap.size, 1, none⟩ (.int .i64 lv) := ⟨_, rfl⟩
            rw [← hW6] at HX2 hsx2 ⊢
            clear b0 b1 f0 f1 h2 qz hW6 hlz hzz
            refine tree_end ?_
            have Hf6 := Lib.hid (Hf4.out.step HX2.out.2 (fun _ _ h => h.elim))
            have Hown6 := Lib.hid (ownsRow_at Hown4.out HX2.out.2 (fun _ _ h => h))
            have Hq6 := Lib.hid (HX2.out.2.heap Hq4.out id)
            obtain ⟨b14, hb14⟩ : ∃ b14, b14 = w0.heap.size := ⟨_, rfl⟩
            rw [← hb14] at HX2 hsx2 ⊢
            have hb14a : wr.heap.size < b14 := by have := lt_of_block Hq4.out; omega
            have hb14b : w.heap.size ≤ b14 := by omega
            have hnb : ∀ b, (Value.slice av V.length cv).ownBlock = some b → b ≠ b14 := fun b h e => by have h1 := ownsRow_lt Hown4.out h; omega
            obtain ⟨b13, hb13⟩ : ∃ b13, b13 = wr.heap.size := ⟨_, rfl⟩
            rw [← hb13] at Hq6 hb14a ⊢
            have hdm : D.length ≤ 100000 := hDl
            clear hb14 hb13
            go_wp2_with fail
            go_loopw [15] (fun i wi => ∃ (r : Nat) (x : Dl), r ≤ D.length ∧ i = .int .i64 ((r : Int) - 1) ∧ Hid (x = dlOf (D.drop r) now wait gi) ∧ wi.heap[b14]? = some (.cells #[.string x.i, .int .i64 x.a] 81) ∧ Fr (Is b14) W6 wi) (fun i _ => (intOf i + 1).toNat)
            case atStart => exact ⟨D.length, ⟨gi, lv⟩, by omega, by first | rfl | go_num, by unfold Hid; rw [List.drop_length, dlOf_none now wait (by simp), Hlv.out], HX2.out.1, Fr.refl _ _⟩
            case round =>
              obtain ⟨r, x, hr, rfl, Hx, hq, hfi⟩ := hrel
              have Hfi := Lib.hid (Hf6.out.step hfi (fun b _ h => by unfold Is at h; unfold From; omega))
              have Howni := Lib.hid (ownsRow_at Hown6.out hfi (fun b h e => by have := hnb b h; unfold Is at e; omega))
              have hsi := hfi.size
              rcases r with _ | r
              · have hge : ¬ (0 : Int) ≤ ((0 : Nat) : Int) - 1 := by omega
                have Hdl : Hid (dlOf D now wait gi = x) := by unfold Hid; rw [Hx.out, List.drop_zero]
                clear hfi Hx
                have u0 : wr.cell? ⟨b14, 0, none⟩ = some (.string x.i) := cell_of_block hq 0
                have u1 : wr.cell? ⟨b14, 1, none⟩ = some (.int .i64 x.a) := cell_of_block hq 1
                have HV2 : Hid (V ++ [⟨x.i, x.a⟩] = watchL D ((L.take (k + 1)).map ArrM.toArr) ex now wait) := by unfold Hid; rw [← HV'.out, Hdl.out]
                have hal : Fr No wr (wr.alloc (.cells #[.string x.i, .int .i64 x.a] 81)) := (Fr.refl _ _).alloc _
                go_wp2_with (at_builtin; refine wpList_append_own _ rfl _ _ 78 rfl w.heap.size 81 i0 (.agg #[.string ByteArray.empty, .int .i64 0]) 2 24 Tryz.underlying78 hi0 hz0 hz1 hz2 rfl (by decide) _ _ _ rfl (Howni.out.alloc _) ⟨wr.heap.size, 0, none⟩ 1 1 (Dl.vals ⟨x.i, x.a⟩).toList rfl rfl (cells_new _ (Dl.vals ⟨x.i, x.a⟩) _ rfl) (dvals_one _) (by unfold maxLen; omega) (by omega) (by first | omega | (simp; done) | (simp; omega)) ?_; intro v' w9 hown9 hgrow9 _; obtain ⟨av', cv', rfl⟩ := ownsRow_slice hown9)
                have hgf : Fr (fun b => (Value.slice av V.length cv).ownBlock = some b) (wr.alloc (.cells #[.string x.i, .int .i64 x.a] 81)) w9 := Fr.of_grown hgrow9
                have HF9 := Lib.hid (And.intro hown9 ((Hfi.out.step hal (fun _ _ h => h.elim)).step hgf (fun b _ h => ownsRow_blk Howni.out h)))
                clear hown9 hgf hal hgrow9 u0 u1
                go_roundw
                case rel => exact ⟨k + 1, V ++ [⟨x.i, x.a⟩], av', cv', by omega, by simp; omega, by simp, by go_num, by rw [List.length_append, dflat_snoc]; exact HF9.out.1, HV2, HF9.out.2⟩
                case measure => simp [intOf]; omega
              · have hge : (0 : Int) ≤ ((r + 1 : Nat) : Int) - 1 := by omega
                rw [show ((r + 1 : Nat) : Int) - 1 = (r : Int) by omega] at hge ⊢
                have hrl : r < D.length := by omega
                have hrl' : (r : Int) < D.length := by omega
                have hfi' := Hfi.out
                go_upto_region 11 with (fail)
                refine region_sig No [(0, false), (1, false), (2, false), (3, false), (4, false), (5, false), (6, false), (7, false)] (by kernel_rfl) (by kernel_rfl) (fun w5 hf5 => ?_)
                obtain ⟨db, doff, d, rfl, hdr, ⟨d0, d1⟩, _⟩ := (hD.keep (hfi'.step hf5 (fun _ _ h => h.elim)) (fun b hb h => by unfold From at h; omega)).elem hrl
                have Hdr : Hid (D.drop r = d :: D.drop (r + 1)) := by unfold Hid; obtain ⟨h1, h2⟩ := List.getElem?_eq_some_iff.1 hdr; rw [List.drop_eq_getElem_cons h1, h2]
                have q13 := hf5.heap (hfi.heap Hq6.out (fun e => by unfold Is at e; omega)) id
                have g0 : ∀ g : Gr No w5, g.W.cell? ⟨db, doff + r * 2, none⟩ = some (.string d.i) := fun g => g.fr.cell d0 id
                have g1 : ∀ g : Gr No w5, g.W.cell? ⟨b13, 0, none⟩ = some (.string gi) := fun g => g.fr.cell (cell_of_block q13 0) id
                have hq5 := hf5.heap hq id
                have Hq5 := Lib.hid hq5
                have Hfx := Lib.hid (hfi.step hf5 (fun _ _ h => h.elim))
                clear hdr hf5 hfi hq hfi' q13
                repeat (first | (apply sig_q; exact rfl; exact rfl; exact rfl; intro K hK; go_big_quiet_op; go_big_quiet_on) | (apply sig_skip; exact rfl; exact rfl; exact rfl; intro K hK; go_big_quiet_op; go_big_quiet_on))
                refine sig_end ?_
                clear g0 g1
                rcases hv : (d.i.toList == gi.toList) with _ | _
                · have Hx' : Hid (x = dlOf (D.drop r) now wait gi) := by
                    unfold Hid; rw [Hdr.out, Hx.out]; unfold dlOf
                    have : isD gi d = false := hv
                    rw [List.find?_cons_of_neg (by rw [this]; simp)]
                  clear hv d0 d1 hq5
                  go_wp2_with fail
                  go_roundw
                  case rel => exact ⟨r, x, by omega, by go_num, Hx', Hq5.out, Hfx.out⟩
                  case measure => simp [intOf]
                · have Hx' : Hid (d = dlOf (D.drop r) now wait gi) := by
                    unfold Hid; rw [Hdr.out]; unfold dlOf
                    have : isD gi d = true := hv
                    rw [List.find?_cons_of_pos this]; rfl
                  have b0 : w5.cell? ⟨b14, 0, none⟩ = some (.string x.i) := cell_of_block hq5 0
                  have b1 : w5.cell? ⟨b14, 1, none⟩ = some (.int .i64 x.a) := cell_of_block hq5 1
                  have f0 : w5.frozen? ⟨b14, 0, none⟩ = false := free_of_block hq5 0
                  have f1 : w5.frozen? ⟨b14, 1, none⟩ = false := free_of_block hq5 1
                  have h2 := set2 hq5 rfl (.string d.i) (.int .i64 d.a)
                  have H2 := Lib.hid (And.intro h2.1 (Hfx.out.step h2.2 (fun _ _ h => h)))
                  clear hv h2 hq5
                  go_wp2_with fail
                  go_roundw
                  case rel => exact ⟨r, d, by omega, by go_num, Hx', H2.out.1, H2.out.2⟩
                  case measure => simp [intOf]
    · obtain rfl : k = L.length := by omega
      obtain ⟨a', c', hv, hR, _⟩ := Dls.of_own hown
      cases hv
      have hVe := HV.out
      rw [List.take_length] at hVe
      have H := Lib.hid (And.intro hR (And.intro hVe (hf.mono (T := No) (fun b hb h => by unfold From at h; omega))))
      clear hown hf hR hVe HV
      go_wp2_with fail
      go_ret
      exact ⟨⟨_, _, V, rfl, H.out.1, H.out.2.1⟩, H.out.2.2⟩

end Go.Proofs.YtbblkknndaoefaaGreatDoor
