/- The chapter's example, plain: what the seats of a small tree are. -/
import Derived.Test.YtpnpjaemlflplaaGreatDoorKB
namespace Go.Proofs.YtpnpjaemlflplaaGreatDoor
open Go.RowKit Go.Maps
set_option linter.unusedVariables false

def sMouse : ByteArray := ⟨#[109, 111, 117, 115, 101]⟩
def sUsb1 : ByteArray := ⟨#[117, 115, 98, 49]⟩
def sGpu : ByteArray := ⟨#[103, 112, 117]⟩
def sKbd : ByteArray := ⟨#[107, 98, 100]⟩
def sUsb : ByteArray := ⟨#[117, 115, 98]⟩
def kds : List Dev := [⟨1, 0, sMouse, sMouse, sUsb, ⟨#[]⟩, ⟨#[]⟩, 1, 0, none, 0, 0⟩, ⟨2, 0, sUsb1, sUsb1, sUsb, ⟨#[]⟩, ⟨#[]⟩, 1, 0, none, 0, 0⟩, ⟨4, 2, sGpu, sGpu, sUsb, ⟨#[]⟩, ⟨#[]⟩, 1, 0, none, 0, 0⟩, ⟨3, 2, sKbd, sKbd, sUsb, ⟨#[]⟩, ⟨#[]⟩, 1, 0, none, 0, 0⟩]
def krec (p : ByteArray) (i : Int) (props : List (ByteArray × ByteArray)) (tags : List ByteArray) (pa : Option Addr) (pc : Nat) (ta : Option Addr) (tc : Nat) : Rec := ⟨p, i, props, tags, pa, pc, ta, tc, none, 0, 0, none, 0, 0, none, 0, 0, ⟨#[]⟩, 0, ⟨#[]⟩, ⟨#[]⟩, 0⟩
def pMouse : ByteArray := ⟨#[47, 109, 111, 117, 115, 101]⟩
def pUsb1 : ByteArray := ⟨#[47, 117, 115, 98, 49]⟩
def pKbd : ByteArray := ⟨#[47, 117, 115, 98, 49, 47, 107, 98, 100]⟩
def pGpu : ByteArray := ⟨#[47, 117, 115, 98, 49, 47, 103, 112, 117]⟩
/-- The example's records; their memory lies in blocks from b on. -/
def krs (b : Nat) : List Rec := [krec pMouse 1 [] [tagSeat] none 0 (some ⟨b, 0, none⟩) 1, krec pUsb1 2 [(keySeat, seat1)] [] (some ⟨b + 1, 0, none⟩) 1 none 0, krec pKbd 3 [] [tagSeat] none 0 (some ⟨b + 2, 0, none⟩) 1, krec pGpu 4 [] [tagMaster, tagSeat] none 0 (some ⟨b + 3, 0, none⟩) 2]

theorem k_tree : TreeOk kds := ⟨by decide, by decide, fun k d h => by
  match k, h with
  | 0, h => left; cases h; rfl
  | 1, h => left; cases h; rfl
  | 2, h => right; cases h; exact ⟨1, _, by omega, rfl, rfl⟩
  | 3, h => right; cases h; exact ⟨1, _, by omega, rfl, rfl⟩
  | k + 4, h => simp [kds] at h, by decide⟩
theorem o1 : origin kds 1 = [sMouse] := by rfl
theorem o2 : origin kds 2 = [sUsb1] := by rfl
theorem o3 : origin kds 3 = [sUsb1, sKbd] := by rfl
theorem o4 : origin kds 4 = [sUsb1, sGpu] := by rfl
theorem r1 (b : Nat) : recOf kds (krs b) 1 = some (krec pMouse 1 [] [tagSeat] none 0 (some ⟨b, 0, none⟩) 1) := by
  unfold recOf
  rw [if_neg (by decide), o1]
  simp [krs, krec, Rec.is, pathOf, ByteArray.toList_eq, pMouse, sMouse]
theorem r2 (b : Nat) : recOf kds (krs b) 2 = some (krec pUsb1 2 [(keySeat, seat1)] [] (some ⟨b + 1, 0, none⟩) 1 none 0) := by
  unfold recOf
  rw [if_neg (by decide), o2]
  simp [krs, krec, Rec.is, pathOf, ByteArray.toList_eq, pUsb1, sUsb1]
theorem r3 (b : Nat) : recOf kds (krs b) 3 = some (krec pKbd 3 [] [tagSeat] none 0 (some ⟨b + 2, 0, none⟩) 1) := by
  unfold recOf
  rw [if_neg (by decide), o3]
  simp [krs, krec, Rec.is, pathOf, ByteArray.toList_eq, pKbd, sKbd, sUsb1]
theorem r4 (b : Nat) : recOf kds (krs b) 4 = some (krec pGpu 4 [] [tagMaster, tagSeat] none 0 (some ⟨b + 3, 0, none⟩) 2) := by
  unfold recOf
  rw [if_neg (by decide), o4]
  simp [krs, krec, Rec.is, pathOf, ByteArray.toList_eq, pGpu, sGpu, sUsb1]
theorem n_none : isName ⟨#[]⟩ = false := by unfold isName; simp [ByteArray.toList_eq]
theorem n_seat1 : isName seat1 = true := by unfold isName inSet; rw [ByteArray.toList_eq]; decide
theorem i1 (b : Nat) : idSeat kds (krs b) 1 = ⟨#[]⟩ := by unfold idSeat; rw [r1]; rfl
theorem i2 (b : Nat) : idSeat kds (krs b) 2 = seat1 := by
  unfold idSeat
  rw [r2]
  simp [getP, krec, isKey]
theorem i3 (b : Nat) : idSeat kds (krs b) 3 = ⟨#[]⟩ := by unfold idSeat; rw [r3]; rfl
theorem i4 (b : Nat) : idSeat kds (krs b) 4 = ⟨#[]⟩ := by unfold idSeat; rw [r4]; rfl
theorem s1 (b : Nat) : seatOf kds (krs b) 1 = seat0 := by
  unfold seatOf
  rw [if_neg (by decide), show (chain kds 1).map Dev.index = [1] from by rfl]
  simp [seatL, i1, n_none]
theorem s2 (b : Nat) : seatOf kds (krs b) 2 = seat1 := by
  unfold seatOf
  rw [if_neg (by decide), show (chain kds 2).map Dev.index = [2] from by rfl]
  simp [seatL, i2, n_seat1]
theorem s3 (b : Nat) : seatOf kds (krs b) 3 = seat1 := by
  unfold seatOf
  rw [if_neg (by decide), show (chain kds 3).map Dev.index = [3, 2] from by rfl]
  simp [seatL, i3, n_none, i2, n_seat1]
theorem s4 (b : Nat) : seatOf kds (krs b) 4 = seat1 := by
  unfold seatOf
  rw [if_neg (by decide), show (chain kds 4).map Dev.index = [4, 2] from by rfl]
  simp [seatL, i4, n_none, i2, n_seat1]
theorem kix : kds.map Dev.index = [1, 2, 4, 3] := rfl
theorem t1 (b : Nat) : tagOk kds (krs b) [tagSeat, tagMaster] 1 = false := by unfold tagOk; rw [r1]; simp [krec, hasS, ByteArray.toList_eq, tagSeat, tagMaster]
theorem t2 (b : Nat) : tagOk kds (krs b) [tagSeat, tagMaster] 2 = false := by unfold tagOk; rw [r2]; simp [krec, hasS]
theorem t3 (b : Nat) : tagOk kds (krs b) [tagSeat, tagMaster] 3 = false := by unfold tagOk; rw [r3]; simp [krec, hasS, ByteArray.toList_eq, tagSeat, tagMaster]
theorem t4 (b : Nat) : tagOk kds (krs b) [tagSeat, tagMaster] 4 = true := by unfold tagOk; rw [r4]; simp [krec, hasS]
theorem u1 (b : Nat) : tagOk kds (krs b) [tagSeat] 1 = true := by unfold tagOk; rw [r1]; simp [krec, hasS]
theorem u2 (b : Nat) : tagOk kds (krs b) [tagSeat] 2 = false := by unfold tagOk; rw [r2]; simp [krec, hasS]
theorem u3 (b : Nat) : tagOk kds (krs b) [tagSeat] 3 = true := by unfold tagOk; rw [r3]; simp [krec, hasS]
theorem u4 (b : Nat) : tagOk kds (krs b) [tagSeat] 4 = true := by unfold tagOk; rw [r4]; simp [krec, hasS]
theorem ne01 : (seat0.toList == seat1.toList) = false := by rw [ByteArray.toList_eq, ByteArray.toList_eq]; decide
/-- What Devices finds. -/
theorem k_devices (b : Nat) : taggedL kds (krs b) seat1 [tagSeat] kds = [4, 3] := by
  unfold taggedL
  rw [kix]
  simp only [List.filter_cons, List.filter_nil, inSeat, u1, u2, u3, u4, s1, s3, s4, ne01]
  simp
/-- What Masters finds. -/
theorem k_masters (b : Nat) : taggedL kds (krs b) seat1 [tagSeat, tagMaster] kds = [4] := by
  unfold taggedL
  rw [kix]
  simp only [List.filter_cons, List.filter_nil, inSeat, t1, t2, t3, t4, s4]
  simp
theorem k_gathered (b : Nat) : seatsL kds (krs b) kds = [seat0, seat1] := by
  unfold seatsL
  rw [kix]
  simp [t1, t2, t3, t4, s4]
theorem tidy2 : tidy [seat0, seat1] = [seat0, seat1] := by
  unfold tidy
  have h : ([seat0, seat1].map bl).mergeSort (fun x y => decide (x ≤ y)) = [bl seat0, bl seat1] := List.mergeSort_of_pairwise (by simp only [List.map_cons, List.map_nil]; exact List.Pairwise.cons (fun y hy => by simp at hy; subst hy; decide) (List.Pairwise.cons (by simp) List.Pairwise.nil))
  rw [h]
  decide
theorem tidy1 : tidy [seat0] = [seat0] := by
  unfold tidy
  rw [show ([seat0].map bl).mergeSort (fun x y => decide (x ≤ y)) = [bl seat0] from by simp]
  decide
/-- What Seats finds. -/
theorem k_seats (b : Nat) : seatsOut kds (krs b) kds = [seat0, seat1] := by unfold seatsOut; rw [k_gathered, tidy2]
theorem r4' (b : Nat) : recOf kds ((krs b).take 3) 4 = none := by
  unfold recOf
  rw [if_neg (by decide), o4]
  simp [krs, krec, Rec.is, pathOf, ByteArray.toList_eq, pGpu, sGpu, sUsb1]
theorem r1' (b : Nat) : recOf kds ((krs b).take 3) 1 = some (krec pMouse 1 [] [tagSeat] none 0 (some ⟨b, 0, none⟩) 1) := by
  unfold recOf
  rw [if_neg (by decide), o1]
  simp [krs, krec, Rec.is, pathOf, ByteArray.toList_eq, pMouse, sMouse]
theorem r2' (b : Nat) : recOf kds ((krs b).take 3) 2 = some (krec pUsb1 2 [(keySeat, seat1)] [] (some ⟨b + 1, 0, none⟩) 1 none 0) := by
  unfold recOf
  rw [if_neg (by decide), o2]
  simp [krs, krec, Rec.is, pathOf, ByteArray.toList_eq, pUsb1, sUsb1]
theorem r3' (b : Nat) : recOf kds ((krs b).take 3) 3 = some (krec pKbd 3 [] [tagSeat] none 0 (some ⟨b + 2, 0, none⟩) 1) := by
  unfold recOf
  rw [if_neg (by decide), o3]
  simp [krs, krec, Rec.is, pathOf, ByteArray.toList_eq, pKbd, sKbd, sUsb1]
theorem k_seats3 (b : Nat) : seatsOut kds ((krs b).take 3) kds = [seat0] := by
  have h1 : tagOk kds ((krs b).take 3) [tagSeat, tagMaster] 1 = false := by unfold tagOk; rw [r1']; simp [krec, hasS, ByteArray.toList_eq, tagSeat, tagMaster]
  have h2 : tagOk kds ((krs b).take 3) [tagSeat, tagMaster] 2 = false := by unfold tagOk; rw [r2']; simp [krec, hasS]
  have h3 : tagOk kds ((krs b).take 3) [tagSeat, tagMaster] 3 = false := by unfold tagOk; rw [r3']; simp [krec, hasS, ByteArray.toList_eq, tagSeat, tagMaster]
  have h4 : tagOk kds ((krs b).take 3) [tagSeat, tagMaster] 4 = false := by unfold tagOk; rw [r4']; rfl
  unfold seatsOut
  rw [show seatsL kds ((krs b).take 3) kds = [seat0] from by unfold seatsL; rw [kix]; simp only [List.filter_cons, List.filter_nil, h1, h2, h3, h4]; rfl, tidy1]
end Go.Proofs.YtpnpjaemlflplaaGreatDoor
/- SameTexts; the example in memory. -/
namespace Go.Proofs.YtpnpjaemlflplaaGreatDoor
open Go.RowKit Go.Maps
set_option linter.unusedVariables false

def sameT (l l' : List ByteArray) : Bool := decide (l.map (·.toList) = l'.map (·.toList))

set_option maxHeartbeats 1000000 in
theorem same_texts (a a' : Option Addr) (cap cap' : Nat) (l l' : List ByteArray) (w : World) (hl : Strs w a cap l) (hl' : Strs w a' cap' l') :
    Calls Tryz.prog 23 #[.slice a l.length cap, .slice a' l'.length cap'] w fun e w' => e = .returned (.bool (sameT l l')) ∧ Fr No w w' := by
  have hm := hl.lenmax
  have hm' := hl'.lenmax
  by_cases hlen : l.length = l'.length
  · have hlb : ((l.length : Int) != l'.length) = false := by simp [hlen]
    have Hlen := Lib.hid hlen
    clear hlen
    go_enter Tryz.func23, Tryz.ntmps23
    go_wp2_with fail
    go_loopw [5] (fun i wr => ∃ k : Nat, k ≤ l.length ∧ i = .int .i64 (k : Int) ∧ Hid ((l.take k).map (·.toList) = (l'.take k).map (·.toList)) ∧ Fr No w wr) (fun i _ => l.length - (intOf i).toNat)
    case atStart => exact ⟨0, by omega, rfl, by unfold Hid; simp, Fr.refl _ _⟩
    case round =>
      obtain ⟨k, hk, rfl, hp, hf⟩ := hrel
      by_cases hlt : k < l.length
      · have hlt1 : (k : Int) < l.length := by omega
        have hlt2 : (k : Int) < l'.length := by have := Hlen.out; omega
        have hlt3 : k < l'.length := by omega
        go_wp2_with fail
        refine region_sig No [(0, false), (1, false), (2, false), (3, false), (4, false), (5, false), (6, false), (7, false), (8, false)] (by kernel_rfl) (by kernel_rfl) (fun w0 hf0 => ?_)
        have hf1 := hf.step hf0 (fun _ _ h => h)
        obtain ⟨b, off, x, rfl, hx, c0⟩ := (hl.no hf1 (fun _ => id)).at hlt
        obtain ⟨b', off', x', rfl, hx', c1⟩ := (hl'.no hf1 (fun _ => id)).at hlt3
        have g0 : ∀ g : Gr No w0, g.W.cell? ⟨b, off + k, none⟩ = some (.string x) := fun g => g.fr.cell c0 id
        have g1 : ∀ g : Gr No w0, g.W.cell? ⟨b', off' + k, none⟩ = some (.string x') := fun g => g.fr.cell c1 id
        have Hx := Lib.hid hx
        have Hx' := Lib.hid hx'
        clear c0 c1 hx hx'
        repeat (apply sig_q; exact rfl; exact rfl; exact rfl; intro K hK; go_big_quiet_op; go_big_quiet_on)
        refine sig_end ?_
        rcases he : (x.toList == x'.toList) with _ | _
        · have Hs : Hid (sameT l l' = false) := by
            unfold Hid sameT
            rw [decide_eq_false_iff_not]
            intro h
            have h1 : (l.map (·.toList))[k]? = (l'.map (·.toList))[k]? := by rw [h]
            rw [List.getElem?_map, List.getElem?_map, Hx.out, Hx'.out] at h1
            simp at h1
            rw [h1] at he
            simp at he
          go_wp2_with fail
          go_ret
          exact ⟨ret_bool Hs.out.symm, hf1⟩
        · have He := Lib.hid he
          go_wp2_with fail
          go_roundw
          case rel =>
            refine ⟨k + 1, by omega, by go_num, ?_, hf1⟩
            unfold Hid
            rw [List.take_add_one, List.take_add_one, Hx.out, Hx'.out, List.map_append, List.map_append, hp.out]
            have := He.out
            simp at this
            simp [this]
          case measure => simp [intOf]; omega
      · obtain rfl : k = l.length := by omega
        have Hs : Hid (sameT l l' = true) := by
          unfold Hid sameT
          have h := hp.out
          rw [List.take_length, Hlen.out, List.take_length] at h
          simpa using h
        go_wp2_with fail
        go_ret
        exact ⟨ret_bool Hs.out.symm, hf⟩
  · have hlb : ((l.length : Int) != l'.length) = true := by simp; omega
    have Hs : Hid (sameT l l' = false) := by
      unfold Hid sameT
      rw [decide_eq_false_iff_not]
      intro h
      have := congrArg List.length h
      simp at this
      exact hlen this
    clear hlen
    go_enter Tryz.func23, Tryz.ntmps23
    go_wp2_with fail
    go_ret
    exact ⟨ret_bool Hs.out.symm, Fr.refl _ _⟩
end Go.Proofs.YtpnpjaemlflplaaGreatDoor
