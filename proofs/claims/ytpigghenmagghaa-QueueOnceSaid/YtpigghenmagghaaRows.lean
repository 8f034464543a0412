/-
  No cell of these rows narrows 'for every input' (looked for: loops, veiled, ifaces, maps, wideKeys, modest, calm, conditions, laid).
  DERIVED. THE GIVEN ROWS OF THIS SEAT. 5 by the template 'for every input the law returns true; each argument reads behind the call as it read before'; 0 by the template 'total and deterministic' (their statements: YtpigghenmagghaaTotals.lean).
  GIVEN WITH THE SEED: the statements are not yours to turn. If you find one false, say at which input.
  Laid BY PROGRAM, IN A SANDBOX (cutbox-rows.mjs): the forced cells as the released guide's own fill.sh prints them over the translation 3247d3b9ffb693ba… (all of the seat's roots in one cut). By AI agents, Wed Nov 11 2026. No macro, syntax, notation, axiom, sorry.
-/
import Derived.Test.YtpigghenmagghaaChecked
import GoSem.Claim
import GoSem.ClaimJoined
import GoSem.ClaimMapViews
import Derived.JoinedTies
import Derived.KernelRfl
namespace Go.Proofs.Ytpigghenmagghaa
/- THE CELL 'sum', in the pinned program and in every row, IS THE sha256 OF THE DUMP (.gsa) THAT YtpigghenmagghaaProg.lean LOADS. Nothing in Lean hashes anything: it is a label: what it is worth is what the hold of that sum in a sandbox is worth. -/
noncomputable def Try.pinned : Pinned := { name := "ytpigghenmagghaa", sum := "3247d3b9ffb693ba3aaa6e1d3f2881e96e545bf7fb96121e808761b70b196f61", checked := Try.checked }
namespace Rows
def none {H : Type} : Left H := { results := [], args := [] }

/-- 'coldpluglaw28.QueueMarks': WHATEVER THE INPUT: true; the input reads as it did. -/
def queueMarksSpec : ChangeSpec := { name := "queueMarks", fn := fun _ => fun
  | [d1, d2, d3] => { results := [.lit (.bool true)], args := [d1, d2, d3] }
  | _ => none }
def queueMarksRow : OpenClaim := { program := "ytpigghenmagghaa", sum := "3247d3b9ffb693ba3aaa6e1d3f2881e96e545bf7fb96121e808761b70b196f61", func := "coldplug/coldpluglaw28.QueueMarks", spec := "queueMarks", unfollowed := true, recurses := true, apart := false }
def QueueMarksSaid : Prop := queueMarksRow.holds Try.pinned (OpenSpec.ofChange queueMarksSpec)

/-- ITS FALSE NEIGHBOUR: 'it returns false'. Refute it at one input. -/
def queueMarksWrong : ChangeSpec := { name := "queueMarks", fn := fun _ => fun
  | [d1, d2, d3] => { results := [.lit (.bool false)], args := [d1, d2, d3] }
  | _ => none }
def QueueMarksWrongFalsely : Prop := queueMarksRow.holds Try.pinned (OpenSpec.ofChange queueMarksWrong)

/-- 'coldpluglaw28.QueueOnce': WHATEVER THE INPUT: true; the input reads as it did. -/
def queueOnceSpec : ChangeSpec := { name := "queueOnce", fn := fun _ => fun
  | [d] => { results := [.lit (.bool true)], args := [d] }
  | _ => none }
def queueOnceRow : OpenClaim := { program := "ytpigghenmagghaa", sum := "3247d3b9ffb693ba3aaa6e1d3f2881e96e545bf7fb96121e808761b70b196f61", func := "coldplug/coldpluglaw28.QueueOnce", spec := "queueOnce", unfollowed := true, recurses := true, apart := false }
def QueueOnceSaid : Prop := queueOnceRow.holds Try.pinned (OpenSpec.ofChange queueOnceSpec)

/-- ITS FALSE NEIGHBOUR: 'it returns false'. Refute it at one input. -/
def queueOnceWrong : ChangeSpec := { name := "queueOnce", fn := fun _ => fun
  | [d] => { results := [.lit (.bool false)], args := [d] }
  | _ => none }
def QueueOnceWrongFalsely : Prop := queueOnceRow.holds Try.pinned (OpenSpec.ofChange queueOnceWrong)

/-- 'coldpluglaw28.QueuePlays': WHATEVER THE INPUT: true; the input reads as it did. -/
def queuePlaysSpec : ChangeSpec := { name := "queuePlays", fn := fun _ => fun
  | [d1, d2] => { results := [.lit (.bool true)], args := [d1, d2] }
  | _ => none }
def queuePlaysRow : OpenClaim := { program := "ytpigghenmagghaa", sum := "3247d3b9ffb693ba3aaa6e1d3f2881e96e545bf7fb96121e808761b70b196f61", func := "coldplug/coldpluglaw28.QueuePlays", spec := "queuePlays", unfollowed := true, recurses := true, apart := false }
def QueuePlaysSaid : Prop := queuePlaysRow.holds Try.pinned (OpenSpec.ofChange queuePlaysSpec)

/-- ITS FALSE NEIGHBOUR: 'it returns false'. Refute it at one input. -/
def queuePlaysWrong : ChangeSpec := { name := "queuePlays", fn := fun _ => fun
  | [d1, d2] => { results := [.lit (.bool false)], args := [d1, d2] }
  | _ => none }
def QueuePlaysWrongFalsely : Prop := queuePlaysRow.holds Try.pinned (OpenSpec.ofChange queuePlaysWrong)

/-- 'coldpluglaw28.QueueForgets': WHATEVER THE INPUT: true; the input reads as it did. -/
def queueForgetsSpec : ChangeSpec := { name := "queueForgets", fn := fun _ => fun
  | [d1, d2] => { results := [.lit (.bool true)], args := [d1, d2] }
  | _ => none }
def queueForgetsRow : OpenClaim := { program := "ytpigghenmagghaa", sum := "3247d3b9ffb693ba3aaa6e1d3f2881e96e545bf7fb96121e808761b70b196f61", func := "coldplug/coldpluglaw28.QueueForgets", spec := "queueForgets", unfollowed := true, recurses := true, apart := false }
def QueueForgetsSaid : Prop := queueForgetsRow.holds Try.pinned (OpenSpec.ofChange queueForgetsSpec)

/-- ITS FALSE NEIGHBOUR: 'it returns false'. Refute it at one input. -/
def queueForgetsWrong : ChangeSpec := { name := "queueForgets", fn := fun _ => fun
  | [d1, d2] => { results := [.lit (.bool false)], args := [d1, d2] }
  | _ => none }
def QueueForgetsWrongFalsely : Prop := queueForgetsRow.holds Try.pinned (OpenSpec.ofChange queueForgetsWrong)

/-- 'coldpluglaw28.QueueCopies': WHATEVER THE INPUT: true; the input reads as it did. -/
def queueCopiesSpec : ChangeSpec := { name := "queueCopies", fn := fun _ => fun
  | [d] => { results := [.lit (.bool true)], args := [d] }
  | _ => none }
def queueCopiesRow : OpenClaim := { program := "ytpigghenmagghaa", sum := "3247d3b9ffb693ba3aaa6e1d3f2881e96e545bf7fb96121e808761b70b196f61", func := "coldplug/coldpluglaw28.QueueCopies", spec := "queueCopies", inPlace := ["maps.clone"], unfollowed := true, recurses := true, apart := false }
def QueueCopiesSaid : Prop := queueCopiesRow.holds Try.pinned (OpenSpec.ofChange queueCopiesSpec)

/-- ITS FALSE NEIGHBOUR: 'it returns false'. Refute it at one input. -/
def queueCopiesWrong : ChangeSpec := { name := "queueCopies", fn := fun _ => fun
  | [d] => { results := [.lit (.bool false)], args := [d] }
  | _ => none }
def QueueCopiesWrongFalsely : Prop := queueCopiesRow.holds Try.pinned (OpenSpec.ofChange queueCopiesWrong)

/- THE SECOND FORM. 'bulk': how many values and letters a reading holds, each counted each time it is reached (what is shared counts as often as it is met; a slice's spare places count too). A statement '..UptoSaid' is the law's where the arguments, and the package variables that the reading takes, are together of bulk at most 1048576: NARROWER than '..Said'. Prove '..Said' where nothing that the law and all that it calls make is longer than what came in: it says more and counts as full. Else prove '..UptoSaid'. A law counts once. -/
mutual
def uptoBulk {H : Type} : DataW H → Nat
  | .lit (.string bytes) => bytes.length + 1
  | .lit _ => 1
  | .nil => 1
  | .ptr d => uptoBulk d + 1
  | .slice elems spare => uptoBulkAll elems + uptoBulkAll spare + 1
  | .agg parts => uptoBulkAll parts + 1
  | .iface _ d => uptoBulk d + 1
  | .map entries => uptoBulkEntries entries + 1
  | .held _ => 1
def uptoBulkAll {H : Type} : List (DataW H) → Nat
  | [] => 0
  | d :: r => uptoBulk d + uptoBulkAll r
def uptoBulkEntries {H : Type} : List (Lit × DataW H) → Nat
  | [] => 0
  | x :: r => uptoBulkEntry x + uptoBulkEntries r
def uptoBulkEntry {H : Type} : Lit × DataW H → Nat
  | (.string bytes, d) => bytes.length + uptoBulk d + 1
  | (_, d) => uptoBulk d + 1
 end
def uptoSmall : (H : Type) → List (DataW H) → Bool := fun _ ds => decide (uptoBulkAll ds ≤ 1048576)
def OpenSpec.upto (s : _root_.Go.ChangeSpec) : _root_.Go.OpenSpec := { _root_.Go.OpenSpec.ofChange s with cond := some uptoSmall }

/-- 'coldpluglaw28.QueueMarks', WHERE WHAT IT READS IS OF BULK AT MOST 1048576: true; the input reads as it did. -/
def queueMarksUptoRow : OpenClaim := { program := "ytpigghenmagghaa", sum := "3247d3b9ffb693ba3aaa6e1d3f2881e96e545bf7fb96121e808761b70b196f61", func := "coldplug/coldpluglaw28.QueueMarks", spec := "queueMarks", unfollowed := true, recurses := true, apart := false, narrowed := true }
def QueueMarksUptoSaid : Prop := queueMarksUptoRow.holds Try.pinned (OpenSpec.upto queueMarksSpec)

/-- 'coldpluglaw28.QueueOnce', WHERE WHAT IT READS IS OF BULK AT MOST 1048576: true; the input reads as it did. -/
def queueOnceUptoRow : OpenClaim := { program := "ytpigghenmagghaa", sum := "3247d3b9ffb693ba3aaa6e1d3f2881e96e545bf7fb96121e808761b70b196f61", func := "coldplug/coldpluglaw28.QueueOnce", spec := "queueOnce", unfollowed := true, recurses := true, apart := false, narrowed := true }
def QueueOnceUptoSaid : Prop := queueOnceUptoRow.holds Try.pinned (OpenSpec.upto queueOnceSpec)

/-- 'coldpluglaw28.QueuePlays', WHERE WHAT IT READS IS OF BULK AT MOST 1048576: true; the input reads as it did. -/
def queuePlaysUptoRow : OpenClaim := { program := "ytpigghenmagghaa", sum := "3247d3b9ffb693ba3aaa6e1d3f2881e96e545bf7fb96121e808761b70b196f61", func := "coldplug/coldpluglaw28.QueuePlays", spec := "queuePlays", unfollowed := true, recurses := true, apart := false, narrowed := true }
def QueuePlaysUptoSaid : Prop := queuePlaysUptoRow.holds Try.pinned (OpenSpec.upto queuePlaysSpec)

/-- 'coldpluglaw28.QueueForgets', WHERE WHAT IT READS IS OF BULK AT MOST 1048576: true; the input reads as it did. -/
def queueForgetsUptoRow : OpenClaim := { program := "ytpigghenmagghaa", sum := "3247d3b9ffb693ba3aaa6e1d3f2881e96e545bf7fb96121e808761b70b196f61", func := "coldplug/coldpluglaw28.QueueForgets", spec := "queueForgets", unfollowed := true, recurses := true, apart := false, narrowed := true }
def QueueForgetsUptoSaid : Prop := queueForgetsUptoRow.holds Try.pinned (OpenSpec.upto queueForgetsSpec)

/-- 'coldpluglaw28.QueueCopies', WHERE WHAT IT READS IS OF BULK AT MOST 1048576: true; the input reads as it did. -/
def queueCopiesUptoRow : OpenClaim := { program := "ytpigghenmagghaa", sum := "3247d3b9ffb693ba3aaa6e1d3f2881e96e545bf7fb96121e808761b70b196f61", func := "coldplug/coldpluglaw28.QueueCopies", spec := "queueCopies", inPlace := ["maps.clone"], unfollowed := true, recurses := true, apart := false, narrowed := true }
def QueueCopiesUptoSaid : Prop := queueCopiesUptoRow.holds Try.pinned (OpenSpec.upto queueCopiesSpec)

end Rows
end Go.Proofs.Ytpigghenmagghaa
