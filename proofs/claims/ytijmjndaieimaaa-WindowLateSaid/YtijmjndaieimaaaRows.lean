/-
  No cell of these rows narrows 'for every input' (looked for: loops, veiled, ifaces, maps, wideKeys, modest, calm, conditions, laid).
  DERIVED. THE GIVEN ROWS OF THIS SEAT. 6 by the template 'for every input the law returns true; each argument reads behind the call as it read before'; 0 by the template 'total and deterministic' (their statements: YtijmjndaieimaaaTotals.lean).
  GIVEN WITH THE SEED: the statements are not yours to turn. If you find one false, say at which input.
  Laid BY PROGRAM, IN A SANDBOX (cutbox-rows.mjs): the forced cells as the released guide's own fill.sh prints them over the translation 6af9f3a258f0ea92… (all of the seat's roots in one cut). By AI agents, Wed Nov 11 2026. No macro, syntax, notation, axiom, sorry.
-/
import Derived.Test.YtijmjndaieimaaaChecked
import GoSem.Claim
import GoSem.ClaimJoined
import GoSem.ClaimMapViews
import Derived.JoinedTies
import Derived.KernelRfl
namespace Go.Proofs.Ytijmjndaieimaaa
/- THE CELL 'sum', in the pinned program and in every row, IS THE sha256 OF THE DUMP (.gsa) THAT YtijmjndaieimaaaProg.lean LOADS. Nothing in Lean hashes anything: it is a label: what it is worth is what the hold of that sum in a sandbox is worth. -/
noncomputable def Try.pinned : Pinned := { name := "ytijmjndaieimaaa", sum := "6af9f3a258f0ea92f9dd2b4b7fe6d09372060303d3618c26db4b9768913c4e06", checked := Try.checked }
namespace Rows
def none {H : Type} : Left H := { results := [], args := [] }

/-- 'clepsydralaw05.WindowHolds': WHATEVER THE INPUT: true; the input reads as it did. -/
def windowHoldsSpec : ChangeSpec := { name := "windowHolds", fn := fun _ => fun
  | [d1, d2, d3] => { results := [.lit (.bool true)], args := [d1, d2, d3] }
  | _ => none }
def windowHoldsRow : OpenClaim := { program := "ytijmjndaieimaaa", sum := "6af9f3a258f0ea92f9dd2b4b7fe6d09372060303d3618c26db4b9768913c4e06", func := "clepsydra/clepsydralaw05.WindowHolds", spec := "windowHolds", unfollowed := true, recurses := true, apart := false }
def WindowHoldsSaid : Prop := windowHoldsRow.holds Try.pinned (OpenSpec.ofChange windowHoldsSpec)

/-- ITS FALSE NEIGHBOUR: 'it returns false'. Refute it at one input. -/
def windowHoldsWrong : ChangeSpec := { name := "windowHolds", fn := fun _ => fun
  | [d1, d2, d3] => { results := [.lit (.bool false)], args := [d1, d2, d3] }
  | _ => none }
def WindowHoldsWrongFalsely : Prop := windowHoldsRow.holds Try.pinned (OpenSpec.ofChange windowHoldsWrong)

/-- 'clepsydralaw05.WindowCounts': WHATEVER THE INPUT: true; the input reads as it did. -/
def windowCountsSpec : ChangeSpec := { name := "windowCounts", fn := fun _ => fun
  | [d1, d2, d3] => { results := [.lit (.bool true)], args := [d1, d2, d3] }
  | _ => none }
def windowCountsRow : OpenClaim := { program := "ytijmjndaieimaaa", sum := "6af9f3a258f0ea92f9dd2b4b7fe6d09372060303d3618c26db4b9768913c4e06", func := "clepsydra/clepsydralaw05.WindowCounts", spec := "windowCounts", unfollowed := true, recurses := true, apart := false }
def WindowCountsSaid : Prop := windowCountsRow.holds Try.pinned (OpenSpec.ofChange windowCountsSpec)

/-- ITS FALSE NEIGHBOUR: 'it returns false'. Refute it at one input. -/
def windowCountsWrong : ChangeSpec := { name := "windowCounts", fn := fun _ => fun
  | [d1, d2, d3] => { results := [.lit (.bool false)], args := [d1, d2, d3] }
  | _ => none }
def WindowCountsWrongFalsely : Prop := windowCountsRow.holds Try.pinned (OpenSpec.ofChange windowCountsWrong)

/-- 'clepsydralaw05.WindowOnce': WHATEVER THE INPUT: true; the input reads as it did. -/
def windowOnceSpec : ChangeSpec := { name := "windowOnce", fn := fun _ => fun
  | [d1, d2, d3, d4, d5] => { results := [.lit (.bool true)], args := [d1, d2, d3, d4, d5] }
  | _ => none }
def windowOnceRow : OpenClaim := { program := "ytijmjndaieimaaa", sum := "6af9f3a258f0ea92f9dd2b4b7fe6d09372060303d3618c26db4b9768913c4e06", func := "clepsydra/clepsydralaw05.WindowOnce", spec := "windowOnce", unfollowed := true, recurses := true, apart := false }
def WindowOnceSaid : Prop := windowOnceRow.holds Try.pinned (OpenSpec.ofChange windowOnceSpec)

/-- ITS FALSE NEIGHBOUR: 'it returns false'. Refute it at one input. -/
def windowOnceWrong : ChangeSpec := { name := "windowOnce", fn := fun _ => fun
  | [d1, d2, d3, d4, d5] => { results := [.lit (.bool false)], args := [d1, d2, d3, d4, d5] }
  | _ => none }
def WindowOnceWrongFalsely : Prop := windowOnceRow.holds Try.pinned (OpenSpec.ofChange windowOnceWrong)

/-- 'clepsydralaw05.WindowMoves': WHATEVER THE INPUT: true; the input reads as it did. -/
def windowMovesSpec : ChangeSpec := { name := "windowMoves", fn := fun _ => fun
  | [d1, d2, d3] => { results := [.lit (.bool true)], args := [d1, d2, d3] }
  | _ => none }
def windowMovesRow : OpenClaim := { program := "ytijmjndaieimaaa", sum := "6af9f3a258f0ea92f9dd2b4b7fe6d09372060303d3618c26db4b9768913c4e06", func := "clepsydra/clepsydralaw05.WindowMoves", spec := "windowMoves", unfollowed := true, recurses := true, apart := false }
def WindowMovesSaid : Prop := windowMovesRow.holds Try.pinned (OpenSpec.ofChange windowMovesSpec)

/-- ITS FALSE NEIGHBOUR: 'it returns false'. Refute it at one input. -/
def windowMovesWrong : ChangeSpec := { name := "windowMoves", fn := fun _ => fun
  | [d1, d2, d3] => { results := [.lit (.bool false)], args := [d1, d2, d3] }
  | _ => none }
def WindowMovesWrongFalsely : Prop := windowMovesRow.holds Try.pinned (OpenSpec.ofChange windowMovesWrong)

/-- 'clepsydralaw05.WindowOpens': WHATEVER THE INPUT: true; the input reads as it did. -/
def windowOpensSpec : ChangeSpec := { name := "windowOpens", fn := fun _ => fun
  | [d1, d2, d3, d4, d5] => { results := [.lit (.bool true)], args := [d1, d2, d3, d4, d5] }
  | _ => none }
def windowOpensRow : OpenClaim := { program := "ytijmjndaieimaaa", sum := "6af9f3a258f0ea92f9dd2b4b7fe6d09372060303d3618c26db4b9768913c4e06", func := "clepsydra/clepsydralaw05.WindowOpens", spec := "windowOpens", unfollowed := true, recurses := true, apart := false }
def WindowOpensSaid : Prop := windowOpensRow.holds Try.pinned (OpenSpec.ofChange windowOpensSpec)

/-- ITS FALSE NEIGHBOUR: 'it returns false'. Refute it at one input. -/
def windowOpensWrong : ChangeSpec := { name := "windowOpens", fn := fun _ => fun
  | [d1, d2, d3, d4, d5] => { results := [.lit (.bool false)], args := [d1, d2, d3, d4, d5] }
  | _ => none }
def WindowOpensWrongFalsely : Prop := windowOpensRow.holds Try.pinned (OpenSpec.ofChange windowOpensWrong)

/-- 'clepsydralaw05.WindowLate': WHATEVER THE INPUT: true; the input reads as it did. -/
def windowLateSpec : ChangeSpec := { name := "windowLate", fn := fun _ => fun
  | [d1, d2, d3, d4] => { results := [.lit (.bool true)], args := [d1, d2, d3, d4] }
  | _ => none }
def windowLateRow : OpenClaim := { program := "ytijmjndaieimaaa", sum := "6af9f3a258f0ea92f9dd2b4b7fe6d09372060303d3618c26db4b9768913c4e06", func := "clepsydra/clepsydralaw05.WindowLate", spec := "windowLate", unfollowed := true, recurses := true, apart := false }
def WindowLateSaid : Prop := windowLateRow.holds Try.pinned (OpenSpec.ofChange windowLateSpec)

/-- ITS FALSE NEIGHBOUR: 'it returns false'. Refute it at one input. -/
def windowLateWrong : ChangeSpec := { name := "windowLate", fn := fun _ => fun
  | [d1, d2, d3, d4] => { results := [.lit (.bool false)], args := [d1, d2, d3, d4] }
  | _ => none }
def WindowLateWrongFalsely : Prop := windowLateRow.holds Try.pinned (OpenSpec.ofChange windowLateWrong)

/- THE SECOND FORM. 'bulk': how many values and letters a reading holds, each counted each time it is reached (what is shared counts as often as it is met; a slice's spare places count too). A statement '..UptoSaid' is the law's where the arguments, and the package variables that the reading takes, are together of bulk at most 1048576: NARROWER than '..Said'. Prove '..Said' where nothing that the law and all that it calls make is longer than what came in: it says more and counts as full. Else prove '..UptoSaid'. A law counts once. -/
mutual
def uptoBulk {H : Type} : DataW H → Nat
  | .lit (.string bytes) => bytes.length + 1
  | .lit _ => 1
  | .nil => 1
  | .ptr d => uptoBulk d + 1
  | .slice elems spare => uptoBulkAll elems + uptoBulkAll spare + 1
  | .agg parts => uptoBulkAll parts + 1
  | .iface _ d => uptoBulk d + 1
  | .map entries => uptoBulkEntries entries + 1
  | .held _ => 1
def uptoBulkAll {H : Type} : List (DataW H) → Nat
  | [] => 0
  | d :: r => uptoBulk d + uptoBulkAll r
def uptoBulkEntries {H : Type} : List (Lit × DataW H) → Nat
  | [] => 0
  | x :: r => uptoBulkEntry x + uptoBulkEntries r
def uptoBulkEntry {H : Type} : Lit × DataW H → Nat
  | (.string bytes, d) => bytes.length + uptoBulk d + 1
  | (_, d) => uptoBulk d + 1
 end
def uptoSmall : (H : Type) → List (DataW H) → Bool := fun _ ds => decide (uptoBulkAll ds ≤ 1048576)
def OpenSpec.upto (s : _root_.Go.ChangeSpec) : _root_.Go.OpenSpec := { _root_.Go.OpenSpec.ofChange s with cond := some uptoSmall }

/-- 'clepsydralaw05.WindowHolds', WHERE WHAT IT READS IS OF BULK AT MOST 1048576: true; the input reads as it did. -/
def windowHoldsUptoRow : OpenClaim := { program := "ytijmjndaieimaaa", sum := "6af9f3a258f0ea92f9dd2b4b7fe6d09372060303d3618c26db4b9768913c4e06", func := "clepsydra/clepsydralaw05.WindowHolds", spec := "windowHolds", unfollowed := true, recurses := true, apart := false, narrowed := true }
def WindowHoldsUptoSaid : Prop := windowHoldsUptoRow.holds Try.pinned (OpenSpec.upto windowHoldsSpec)

/-- 'clepsydralaw05.WindowCounts', WHERE WHAT IT READS IS OF BULK AT MOST 1048576: true; the input reads as it did. -/
def windowCountsUptoRow : OpenClaim := { program := "ytijmjndaieimaaa", sum := "6af9f3a258f0ea92f9dd2b4b7fe6d09372060303d3618c26db4b9768913c4e06", func := "clepsydra/clepsydralaw05.WindowCounts", spec := "windowCounts", unfollowed := true, recurses := true, apart := false, narrowed := true }
def WindowCountsUptoSaid : Prop := windowCountsUptoRow.holds Try.pinned (OpenSpec.upto windowCountsSpec)

/-- 'clepsydralaw05.WindowOnce', WHERE WHAT IT READS IS OF BULK AT MOST 1048576: true; the input reads as it did. -/
def windowOnceUptoRow : OpenClaim := { program := "ytijmjndaieimaaa", sum := "6af9f3a258f0ea92f9dd2b4b7fe6d09372060303d3618c26db4b9768913c4e06", func := "clepsydra/clepsydralaw05.WindowOnce", spec := "windowOnce", unfollowed := true, recurses := true, apart := false, narrowed := true }
def WindowOnceUptoSaid : Prop := windowOnceUptoRow.holds Try.pinned (OpenSpec.upto windowOnceSpec)

/-- 'clepsydralaw05.WindowMoves', WHERE WHAT IT READS IS OF BULK AT MOST 1048576: true; the input reads as it did. -/
def windowMovesUptoRow : OpenClaim := { program := "ytijmjndaieimaaa", sum := "6af9f3a258f0ea92f9dd2b4b7fe6d09372060303d3618c26db4b9768913c4e06", func := "clepsydra/clepsydralaw05.WindowMoves", spec := "windowMoves", unfollowed := true, recurses := true, apart := false, narrowed := true }
def WindowMovesUptoSaid : Prop := windowMovesUptoRow.holds Try.pinned (OpenSpec.upto windowMovesSpec)

/-- 'clepsydralaw05.WindowOpens', WHERE WHAT IT READS IS OF BULK AT MOST 1048576: true; the input reads as it did. -/
def windowOpensUptoRow : OpenClaim := { program := "ytijmjndaieimaaa", sum := "6af9f3a258f0ea92f9dd2b4b7fe6d09372060303d3618c26db4b9768913c4e06", func := "clepsydra/clepsydralaw05.WindowOpens", spec := "windowOpens", unfollowed := true, recurses := true, apart := false, narrowed := true }
def WindowOpensUptoSaid : Prop := windowOpensUptoRow.holds Try.pinned (OpenSpec.upto windowOpensSpec)

/-- 'clepsydralaw05.WindowLate', WHERE WHAT IT READS IS OF BULK AT MOST 1048576: true; the input reads as it did. -/
def windowLateUptoRow : OpenClaim := { program := "ytijmjndaieimaaa", sum := "6af9f3a258f0ea92f9dd2b4b7fe6d09372060303d3618c26db4b9768913c4e06", func := "clepsydra/clepsydralaw05.WindowLate", spec := "windowLate", unfollowed := true, recurses := true, apart := false, narrowed := true }
def WindowLateUptoSaid : Prop := windowLateUptoRow.holds Try.pinned (OpenSpec.upto windowLateSpec)

end Rows
end Go.Proofs.Ytijmjndaieimaaa
