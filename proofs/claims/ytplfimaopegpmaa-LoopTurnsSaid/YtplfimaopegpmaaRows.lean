/-
  No cell of these rows narrows 'for every input' (looked for: loops, veiled, ifaces, maps, wideKeys, modest, calm, conditions, laid).
  DERIVED. THE GIVEN ROWS OF THIS SEAT. 6 by the template 'for every input the law returns true; each argument reads behind the call as it read before'; 0 by the template 'total and deterministic' (their statements: YtplfimaopegpmaaTotals.lean).
  GIVEN WITH THE SEED: the statements are not yours to turn. If you find one false, say at which input.
  Laid BY PROGRAM, IN A SANDBOX (cutbox-rows.mjs): the forced cells as the released guide's own fill.sh prints them over the translation 3b3578a3274ada63… (all of the seat's roots in one cut). By AI agents, Wed Nov 11 2026. No macro, syntax, notation, axiom, sorry.
-/
import Derived.Test.YtplfimaopegpmaaChecked
import GoSem.Claim
import GoSem.ClaimJoined
import GoSem.ClaimMapViews
import Derived.JoinedTies
import Derived.KernelRfl
namespace Go.Proofs.Ytplfimaopegpmaa
/- THE CELL 'sum', in the pinned program and in every row, IS THE sha256 OF THE DUMP (.gsa) THAT YtplfimaopegpmaaProg.lean LOADS. Nothing in Lean hashes anything: it is a label: what it is worth is what the hold of that sum in a sandbox is worth. -/
noncomputable def Try.pinned : Pinned := { name := "ytplfimaopegpmaa", sum := "3b3578a3274ada63b441a8c380f729138a46496b8aa1145bf3fe5af4f407c3ef", checked := Try.checked }
namespace Rows
def none {H : Type} : Left H := { results := [], args := [] }

/-- 'clepsydralaw12.LoopRuns': WHATEVER THE INPUT: true; the input reads as it did. -/
def loopRunsSpec : ChangeSpec := { name := "loopRuns", fn := fun _ => fun
  | [d1, d2, d3] => { results := [.lit (.bool true)], args := [d1, d2, d3] }
  | _ => none }
def loopRunsRow : OpenClaim := { program := "ytplfimaopegpmaa", sum := "3b3578a3274ada63b441a8c380f729138a46496b8aa1145bf3fe5af4f407c3ef", func := "clepsydra/clepsydralaw12.LoopRuns", spec := "loopRuns", unfollowed := true, recurses := true, plainKeys := false, apart := false }
def LoopRunsSaid : Prop := loopRunsRow.holds Try.pinned (OpenSpec.ofChange loopRunsSpec)

/-- ITS FALSE NEIGHBOUR: 'it returns false'. Refute it at one input. -/
def loopRunsWrong : ChangeSpec := { name := "loopRuns", fn := fun _ => fun
  | [d1, d2, d3] => { results := [.lit (.bool false)], args := [d1, d2, d3] }
  | _ => none }
def LoopRunsWrongFalsely : Prop := loopRunsRow.holds Try.pinned (OpenSpec.ofChange loopRunsWrong)

/-- 'clepsydralaw12.LoopFuel': WHATEVER THE INPUT: true; the input reads as it did. -/
def loopFuelSpec : ChangeSpec := { name := "loopFuel", fn := fun _ => fun
  | [d1, d2, d3, d4] => { results := [.lit (.bool true)], args := [d1, d2, d3, d4] }
  | _ => none }
def loopFuelRow : OpenClaim := { program := "ytplfimaopegpmaa", sum := "3b3578a3274ada63b441a8c380f729138a46496b8aa1145bf3fe5af4f407c3ef", func := "clepsydra/clepsydralaw12.LoopFuel", spec := "loopFuel", unfollowed := true, recurses := true, plainKeys := false, apart := false }
def LoopFuelSaid : Prop := loopFuelRow.holds Try.pinned (OpenSpec.ofChange loopFuelSpec)

/-- ITS FALSE NEIGHBOUR: 'it returns false'. Refute it at one input. -/
def loopFuelWrong : ChangeSpec := { name := "loopFuel", fn := fun _ => fun
  | [d1, d2, d3, d4] => { results := [.lit (.bool false)], args := [d1, d2, d3, d4] }
  | _ => none }
def LoopFuelWrongFalsely : Prop := loopFuelRow.holds Try.pinned (OpenSpec.ofChange loopFuelWrong)

/-- 'clepsydralaw12.LoopSplits': WHATEVER THE INPUT: true; the input reads as it did. -/
def loopSplitsSpec : ChangeSpec := { name := "loopSplits", fn := fun _ => fun
  | [d1, d2, d3, d4] => { results := [.lit (.bool true)], args := [d1, d2, d3, d4] }
  | _ => none }
def loopSplitsRow : OpenClaim := { program := "ytplfimaopegpmaa", sum := "3b3578a3274ada63b441a8c380f729138a46496b8aa1145bf3fe5af4f407c3ef", func := "clepsydra/clepsydralaw12.LoopSplits", spec := "loopSplits", unfollowed := true, recurses := true, plainKeys := false, apart := false }
def LoopSplitsSaid : Prop := loopSplitsRow.holds Try.pinned (OpenSpec.ofChange loopSplitsSpec)

/-- ITS FALSE NEIGHBOUR: 'it returns false'. Refute it at one input. -/
def loopSplitsWrong : ChangeSpec := { name := "loopSplits", fn := fun _ => fun
  | [d1, d2, d3, d4] => { results := [.lit (.bool false)], args := [d1, d2, d3, d4] }
  | _ => none }
def LoopSplitsWrongFalsely : Prop := loopSplitsRow.holds Try.pinned (OpenSpec.ofChange loopSplitsWrong)

/-- 'clepsydralaw12.LoopPlays': WHATEVER THE INPUT: true; the input reads as it did. -/
def loopPlaysSpec : ChangeSpec := { name := "loopPlays", fn := fun _ => fun
  | [d1, d2, d3, d4] => { results := [.lit (.bool true)], args := [d1, d2, d3, d4] }
  | _ => none }
def loopPlaysRow : OpenClaim := { program := "ytplfimaopegpmaa", sum := "3b3578a3274ada63b441a8c380f729138a46496b8aa1145bf3fe5af4f407c3ef", func := "clepsydra/clepsydralaw12.LoopPlays", spec := "loopPlays", plainKeys := false, apart := false }
def LoopPlaysSaid : Prop := loopPlaysRow.holds Try.pinned (OpenSpec.ofChange loopPlaysSpec)

/-- ITS FALSE NEIGHBOUR: 'it returns false'. Refute it at one input. -/
def loopPlaysWrong : ChangeSpec := { name := "loopPlays", fn := fun _ => fun
  | [d1, d2, d3, d4] => { results := [.lit (.bool false)], args := [d1, d2, d3, d4] }
  | _ => none }
def LoopPlaysWrongFalsely : Prop := loopPlaysRow.holds Try.pinned (OpenSpec.ofChange loopPlaysWrong)

/-- 'clepsydralaw12.LoopTurns': WHATEVER THE INPUT: true; the input reads as it did. -/
def loopTurnsSpec : ChangeSpec := { name := "loopTurns", fn := fun _ => fun
  | [d1, d2, d3] => { results := [.lit (.bool true)], args := [d1, d2, d3] }
  | _ => none }
def loopTurnsRow : OpenClaim := { program := "ytplfimaopegpmaa", sum := "3b3578a3274ada63b441a8c380f729138a46496b8aa1145bf3fe5af4f407c3ef", func := "clepsydra/clepsydralaw12.LoopTurns", spec := "loopTurns", plainKeys := false, apart := false }
def LoopTurnsSaid : Prop := loopTurnsRow.holds Try.pinned (OpenSpec.ofChange loopTurnsSpec)

/-- ITS FALSE NEIGHBOUR: 'it returns false'. Refute it at one input. -/
def loopTurnsWrong : ChangeSpec := { name := "loopTurns", fn := fun _ => fun
  | [d1, d2, d3] => { results := [.lit (.bool false)], args := [d1, d2, d3] }
  | _ => none }
def LoopTurnsWrongFalsely : Prop := loopTurnsRow.holds Try.pinned (OpenSpec.ofChange loopTurnsWrong)

/-- 'clepsydralaw12.LoopEnds': WHATEVER THE INPUT: true; the input reads as it did. -/
def loopEndsSpec : ChangeSpec := { name := "loopEnds", fn := fun _ => fun
  | [d1, d2, d3] => { results := [.lit (.bool true)], args := [d1, d2, d3] }
  | _ => none }
def loopEndsRow : OpenClaim := { program := "ytplfimaopegpmaa", sum := "3b3578a3274ada63b441a8c380f729138a46496b8aa1145bf3fe5af4f407c3ef", func := "clepsydra/clepsydralaw12.LoopEnds", spec := "loopEnds", unfollowed := true, recurses := true, plainKeys := false, apart := false }
def LoopEndsSaid : Prop := loopEndsRow.holds Try.pinned (OpenSpec.ofChange loopEndsSpec)

/-- ITS FALSE NEIGHBOUR: 'it returns false'. Refute it at one input. -/
def loopEndsWrong : ChangeSpec := { name := "loopEnds", fn := fun _ => fun
  | [d1, d2, d3] => { results := [.lit (.bool false)], args := [d1, d2, d3] }
  | _ => none }
def LoopEndsWrongFalsely : Prop := loopEndsRow.holds Try.pinned (OpenSpec.ofChange loopEndsWrong)

/- THE SECOND FORM. 'bulk': how many values and letters a reading holds, each counted each time it is reached (what is shared counts as often as it is met; a slice's spare places count too). A statement '..UptoSaid' is the law's where the arguments, and the package variables that the reading takes, are together of bulk at most 1048576: NARROWER than '..Said'. Prove '..Said' where nothing that the law and all that it calls make is longer than what came in: it says more and counts as full. Else prove '..UptoSaid'. A law counts once. -/
mutual
def uptoBulk {H : Type} : DataW H → Nat
  | .lit (.string bytes) => bytes.length + 1
  | .lit _ => 1
  | .nil => 1
  | .ptr d => uptoBulk d + 1
  | .slice elems spare => uptoBulkAll elems + uptoBulkAll spare + 1
  | .agg parts => uptoBulkAll parts + 1
  | .iface _ d => uptoBulk d + 1
  | .map entries => uptoBulkEntries entries + 1
  | .held _ => 1
def uptoBulkAll {H : Type} : List (DataW H) → Nat
  | [] => 0
  | d :: r => uptoBulk d + uptoBulkAll r
def uptoBulkEntries {H : Type} : List (Lit × DataW H) → Nat
  | [] => 0
  | x :: r => uptoBulkEntry x + uptoBulkEntries r
def uptoBulkEntry {H : Type} : Lit × DataW H → Nat
  | (.string bytes, d) => bytes.length + uptoBulk d + 1
  | (_, d) => uptoBulk d + 1
 end
def uptoSmall : (H : Type) → List (DataW H) → Bool := fun _ ds => decide (uptoBulkAll ds ≤ 1048576)
def OpenSpec.upto (s : _root_.Go.ChangeSpec) : _root_.Go.OpenSpec := { _root_.Go.OpenSpec.ofChange s with cond := some uptoSmall }

/-- 'clepsydralaw12.LoopRuns', WHERE WHAT IT READS IS OF BULK AT MOST 1048576: true; the input reads as it did. -/
def loopRunsUptoRow : OpenClaim := { program := "ytplfimaopegpmaa", sum := "3b3578a3274ada63b441a8c380f729138a46496b8aa1145bf3fe5af4f407c3ef", func := "clepsydra/clepsydralaw12.LoopRuns", spec := "loopRuns", unfollowed := true, recurses := true, plainKeys := false, apart := false, narrowed := true }
def LoopRunsUptoSaid : Prop := loopRunsUptoRow.holds Try.pinned (OpenSpec.upto loopRunsSpec)

/-- 'clepsydralaw12.LoopFuel', WHERE WHAT IT READS IS OF BULK AT MOST 1048576: true; the input reads as it did. -/
def loopFuelUptoRow : OpenClaim := { program := "ytplfimaopegpmaa", sum := "3b3578a3274ada63b441a8c380f729138a46496b8aa1145bf3fe5af4f407c3ef", func := "clepsydra/clepsydralaw12.LoopFuel", spec := "loopFuel", unfollowed := true, recurses := true, plainKeys := false, apart := false, narrowed := true }
def LoopFuelUptoSaid : Prop := loopFuelUptoRow.holds Try.pinned (OpenSpec.upto loopFuelSpec)

/-- 'clepsydralaw12.LoopSplits', WHERE WHAT IT READS IS OF BULK AT MOST 1048576: true; the input reads as it did. -/
def loopSplitsUptoRow : OpenClaim := { program := "ytplfimaopegpmaa", sum := "3b3578a3274ada63b441a8c380f729138a46496b8aa1145bf3fe5af4f407c3ef", func := "clepsydra/clepsydralaw12.LoopSplits", spec := "loopSplits", unfollowed := true, recurses := true, plainKeys := false, apart := false, narrowed := true }
def LoopSplitsUptoSaid : Prop := loopSplitsUptoRow.holds Try.pinned (OpenSpec.upto loopSplitsSpec)

/-- 'clepsydralaw12.LoopPlays', WHERE WHAT IT READS IS OF BULK AT MOST 1048576: true; the input reads as it did. -/
def loopPlaysUptoRow : OpenClaim := { program := "ytplfimaopegpmaa", sum := "3b3578a3274ada63b441a8c380f729138a46496b8aa1145bf3fe5af4f407c3ef", func := "clepsydra/clepsydralaw12.LoopPlays", spec := "loopPlays", plainKeys := false, apart := false, narrowed := true }
def LoopPlaysUptoSaid : Prop := loopPlaysUptoRow.holds Try.pinned (OpenSpec.upto loopPlaysSpec)

/-- 'clepsydralaw12.LoopTurns', WHERE WHAT IT READS IS OF BULK AT MOST 1048576: true; the input reads as it did. -/
def loopTurnsUptoRow : OpenClaim := { program := "ytplfimaopegpmaa", sum := "3b3578a3274ada63b441a8c380f729138a46496b8aa1145bf3fe5af4f407c3ef", func := "clepsydra/clepsydralaw12.LoopTurns", spec := "loopTurns", plainKeys := false, apart := false, narrowed := true }
def LoopTurnsUptoSaid : Prop := loopTurnsUptoRow.holds Try.pinned (OpenSpec.upto loopTurnsSpec)

/-- 'clepsydralaw12.LoopEnds', WHERE WHAT IT READS IS OF BULK AT MOST 1048576: true; the input reads as it did. -/
def loopEndsUptoRow : OpenClaim := { program := "ytplfimaopegpmaa", sum := "3b3578a3274ada63b441a8c380f729138a46496b8aa1145bf3fe5af4f407c3ef", func := "clepsydra/clepsydralaw12.LoopEnds", spec := "loopEnds", unfollowed := true, recurses := true, plainKeys := false, apart := false, narrowed := true }
def LoopEndsUptoSaid : Prop := loopEndsUptoRow.holds Try.pinned (OpenSpec.upto loopEndsSpec)

end Rows
end Go.Proofs.Ytplfimaopegpmaa
