/-
  No cell of these rows narrows 'for every input' (looked for: loops, veiled, ifaces, maps, wideKeys, modest, calm, conditions, laid).
  DERIVED. THE GIVEN ROWS OF THIS SEAT. 7 by the template 'for every input the law returns true; each argument reads behind the call as it read before'; 0 by the template 'total and deterministic' (their statements: YtkcehgmkjkhobaaTotals.lean).
  GIVEN WITH THE SEED: the statements are not yours to turn. If you find one false, say at which input.
  Laid BY PROGRAM, IN A SANDBOX (cutbox-rows.mjs): the forced cells as the released guide's own fill.sh prints them over the translation de5d0b5cb7189550… (all of the seat's roots in one cut). By AI agents, Wed Nov 11 2026. No macro, syntax, notation, axiom, sorry.
-/
import Derived.Test.YtkcehgmkjkhobaaChecked
import GoSem.Claim
import GoSem.ClaimJoined
import GoSem.ClaimMapViews
import Derived.JoinedTies
import Derived.KernelRfl
namespace Go.Proofs.Ytkcehgmkjkhobaa
/- THE CELL 'sum', in the pinned program and in every row, IS THE sha256 OF THE DUMP (.gsa) THAT YtkcehgmkjkhobaaProg.lean LOADS. Nothing in Lean hashes anything: it is a label: what it is worth is what the hold of that sum in a sandbox is worth. -/
noncomputable def Try.pinned : Pinned := { name := "ytkcehgmkjkhobaa", sum := "de5d0b5cb71895504fce7503eb5d51773ce3c847b3cd9b90a79b79d1ce731166", checked := Try.checked }
namespace Rows
def none {H : Type} : Left H := { results := [], args := [] }

/-- 'clepsydralaw01.TickAdds': WHATEVER THE INPUT: true; the input reads as it did. -/
def tickAddsSpec : ChangeSpec := { name := "tickAdds", fn := fun _ => fun
  | [d1, d2] => { results := [.lit (.bool true)], args := [d1, d2] }
  | _ => none }
def tickAddsRow : OpenClaim := { program := "ytkcehgmkjkhobaa", sum := "de5d0b5cb71895504fce7503eb5d51773ce3c847b3cd9b90a79b79d1ce731166", func := "clepsydra/clepsydralaw01.TickAdds", spec := "tickAdds", unfollowed := true, recurses := true, apart := false }
def TickAddsSaid : Prop := tickAddsRow.holds Try.pinned (OpenSpec.ofChange tickAddsSpec)

/-- ITS FALSE NEIGHBOUR: 'it returns false'. Refute it at one input. -/
def tickAddsWrong : ChangeSpec := { name := "tickAdds", fn := fun _ => fun
  | [d1, d2] => { results := [.lit (.bool false)], args := [d1, d2] }
  | _ => none }
def TickAddsWrongFalsely : Prop := tickAddsRow.holds Try.pinned (OpenSpec.ofChange tickAddsWrong)

/-- 'clepsydralaw01.TickOrder': WHATEVER THE INPUT: true; the input reads as it did. -/
def tickOrderSpec : ChangeSpec := { name := "tickOrder", fn := fun _ => fun
  | [d1, d2, d3] => { results := [.lit (.bool true)], args := [d1, d2, d3] }
  | _ => none }
def tickOrderRow : OpenClaim := { program := "ytkcehgmkjkhobaa", sum := "de5d0b5cb71895504fce7503eb5d51773ce3c847b3cd9b90a79b79d1ce731166", func := "clepsydra/clepsydralaw01.TickOrder", spec := "tickOrder", unfollowed := true, recurses := true, apart := false }
def TickOrderSaid : Prop := tickOrderRow.holds Try.pinned (OpenSpec.ofChange tickOrderSpec)

/-- ITS FALSE NEIGHBOUR: 'it returns false'. Refute it at one input. -/
def tickOrderWrong : ChangeSpec := { name := "tickOrder", fn := fun _ => fun
  | [d1, d2, d3] => { results := [.lit (.bool false)], args := [d1, d2, d3] }
  | _ => none }
def TickOrderWrongFalsely : Prop := tickOrderRow.holds Try.pinned (OpenSpec.ofChange tickOrderWrong)

/-- 'clepsydralaw01.TickBack': WHATEVER THE INPUT: true; the input reads as it did. -/
def tickBackSpec : ChangeSpec := { name := "tickBack", fn := fun _ => fun
  | [d1, d2] => { results := [.lit (.bool true)], args := [d1, d2] }
  | _ => none }
def tickBackRow : OpenClaim := { program := "ytkcehgmkjkhobaa", sum := "de5d0b5cb71895504fce7503eb5d51773ce3c847b3cd9b90a79b79d1ce731166", func := "clepsydra/clepsydralaw01.TickBack", spec := "tickBack", unfollowed := true, recurses := true, apart := false }
def TickBackSaid : Prop := tickBackRow.holds Try.pinned (OpenSpec.ofChange tickBackSpec)

/-- ITS FALSE NEIGHBOUR: 'it returns false'. Refute it at one input. -/
def tickBackWrong : ChangeSpec := { name := "tickBack", fn := fun _ => fun
  | [d1, d2] => { results := [.lit (.bool false)], args := [d1, d2] }
  | _ => none }
def TickBackWrongFalsely : Prop := tickBackRow.holds Try.pinned (OpenSpec.ofChange tickBackWrong)

/-- 'clepsydralaw01.TickFloors': WHATEVER THE INPUT: true; the input reads as it did. -/
def tickFloorsSpec : ChangeSpec := { name := "tickFloors", fn := fun _ => fun
  | [d1, d2] => { results := [.lit (.bool true)], args := [d1, d2] }
  | _ => none }
def tickFloorsRow : OpenClaim := { program := "ytkcehgmkjkhobaa", sum := "de5d0b5cb71895504fce7503eb5d51773ce3c847b3cd9b90a79b79d1ce731166", func := "clepsydra/clepsydralaw01.TickFloors", spec := "tickFloors", apart := false }
def TickFloorsSaid : Prop := tickFloorsRow.holds Try.pinned (OpenSpec.ofChange tickFloorsSpec)

/-- ITS FALSE NEIGHBOUR: 'it returns false'. Refute it at one input. -/
def tickFloorsWrong : ChangeSpec := { name := "tickFloors", fn := fun _ => fun
  | [d1, d2] => { results := [.lit (.bool false)], args := [d1, d2] }
  | _ => none }
def TickFloorsWrongFalsely : Prop := tickFloorsRow.holds Try.pinned (OpenSpec.ofChange tickFloorsWrong)

/-- 'clepsydralaw01.TickSteps': WHATEVER THE INPUT: true; the input reads as it did. -/
def tickStepsSpec : ChangeSpec := { name := "tickSteps", fn := fun _ => fun
  | [d1, d2] => { results := [.lit (.bool true)], args := [d1, d2] }
  | _ => none }
def tickStepsRow : OpenClaim := { program := "ytkcehgmkjkhobaa", sum := "de5d0b5cb71895504fce7503eb5d51773ce3c847b3cd9b90a79b79d1ce731166", func := "clepsydra/clepsydralaw01.TickSteps", spec := "tickSteps", apart := false }
def TickStepsSaid : Prop := tickStepsRow.holds Try.pinned (OpenSpec.ofChange tickStepsSpec)

/-- ITS FALSE NEIGHBOUR: 'it returns false'. Refute it at one input. -/
def tickStepsWrong : ChangeSpec := { name := "tickSteps", fn := fun _ => fun
  | [d1, d2] => { results := [.lit (.bool false)], args := [d1, d2] }
  | _ => none }
def TickStepsWrongFalsely : Prop := tickStepsRow.holds Try.pinned (OpenSpec.ofChange tickStepsWrong)

/-- 'clepsydralaw01.TickEnds': WHATEVER THE INPUT: true; the input reads as it did. -/
def tickEndsSpec : ChangeSpec := { name := "tickEnds", fn := fun _ => fun
  | [d] => { results := [.lit (.bool true)], args := [d] }
  | _ => none }
def tickEndsRow : OpenClaim := { program := "ytkcehgmkjkhobaa", sum := "de5d0b5cb71895504fce7503eb5d51773ce3c847b3cd9b90a79b79d1ce731166", func := "clepsydra/clepsydralaw01.TickEnds", spec := "tickEnds", apart := false }
def TickEndsSaid : Prop := tickEndsRow.holds Try.pinned (OpenSpec.ofChange tickEndsSpec)

/-- ITS FALSE NEIGHBOUR: 'it returns false'. Refute it at one input. -/
def tickEndsWrong : ChangeSpec := { name := "tickEnds", fn := fun _ => fun
  | [d] => { results := [.lit (.bool false)], args := [d] }
  | _ => none }
def TickEndsWrongFalsely : Prop := tickEndsRow.holds Try.pinned (OpenSpec.ofChange tickEndsWrong)

/-- 'clepsydralaw01.TickJoins': WHATEVER THE INPUT: true; the input reads as it did. -/
def tickJoinsSpec : ChangeSpec := { name := "tickJoins", fn := fun _ => fun
  | [d1, d2] => { results := [.lit (.bool true)], args := [d1, d2] }
  | _ => none }
def tickJoinsRow : OpenClaim := { program := "ytkcehgmkjkhobaa", sum := "de5d0b5cb71895504fce7503eb5d51773ce3c847b3cd9b90a79b79d1ce731166", func := "clepsydra/clepsydralaw01.TickJoins", spec := "tickJoins", apart := false }
def TickJoinsSaid : Prop := tickJoinsRow.holds Try.pinned (OpenSpec.ofChange tickJoinsSpec)

/-- ITS FALSE NEIGHBOUR: 'it returns false'. Refute it at one input. -/
def tickJoinsWrong : ChangeSpec := { name := "tickJoins", fn := fun _ => fun
  | [d1, d2] => { results := [.lit (.bool false)], args := [d1, d2] }
  | _ => none }
def TickJoinsWrongFalsely : Prop := tickJoinsRow.holds Try.pinned (OpenSpec.ofChange tickJoinsWrong)

/- THE SECOND FORM. 'bulk': how many values and letters a reading holds, each counted each time it is reached (what is shared counts as often as it is met; a slice's spare places count too). A statement '..UptoSaid' is the law's where the arguments, and the package variables that the reading takes, are together of bulk at most 1048576: NARROWER than '..Said'. Prove '..Said' where nothing that the law and all that it calls make is longer than what came in: it says more and counts as full. Else prove '..UptoSaid'. A law counts once. -/
mutual
def uptoBulk {H : Type} : DataW H → Nat
  | .lit (.string bytes) => bytes.length + 1
  | .lit _ => 1
  | .nil => 1
  | .ptr d => uptoBulk d + 1
  | .slice elems spare => uptoBulkAll elems + uptoBulkAll spare + 1
  | .agg parts => uptoBulkAll parts + 1
  | .iface _ d => uptoBulk d + 1
  | .map entries => uptoBulkEntries entries + 1
  | .held _ => 1
def uptoBulkAll {H : Type} : List (DataW H) → Nat
  | [] => 0
  | d :: r => uptoBulk d + uptoBulkAll r
def uptoBulkEntries {H : Type} : List (Lit × DataW H) → Nat
  | [] => 0
  | x :: r => uptoBulkEntry x + uptoBulkEntries r
def uptoBulkEntry {H : Type} : Lit × DataW H → Nat
  | (.string bytes, d) => bytes.length + uptoBulk d + 1
  | (_, d) => uptoBulk d + 1
 end
def uptoSmall : (H : Type) → List (DataW H) → Bool := fun _ ds => decide (uptoBulkAll ds ≤ 1048576)
def OpenSpec.upto (s : _root_.Go.ChangeSpec) : _root_.Go.OpenSpec := { _root_.Go.OpenSpec.ofChange s with cond := some uptoSmall }

/-- 'clepsydralaw01.TickAdds', WHERE WHAT IT READS IS OF BULK AT MOST 1048576: true; the input reads as it did. -/
def tickAddsUptoRow : OpenClaim := { program := "ytkcehgmkjkhobaa", sum := "de5d0b5cb71895504fce7503eb5d51773ce3c847b3cd9b90a79b79d1ce731166", func := "clepsydra/clepsydralaw01.TickAdds", spec := "tickAdds", unfollowed := true, recurses := true, apart := false, narrowed := true }
def TickAddsUptoSaid : Prop := tickAddsUptoRow.holds Try.pinned (OpenSpec.upto tickAddsSpec)

/-- 'clepsydralaw01.TickOrder', WHERE WHAT IT READS IS OF BULK AT MOST 1048576: true; the input reads as it did. -/
def tickOrderUptoRow : OpenClaim := { program := "ytkcehgmkjkhobaa", sum := "de5d0b5cb71895504fce7503eb5d51773ce3c847b3cd9b90a79b79d1ce731166", func := "clepsydra/clepsydralaw01.TickOrder", spec := "tickOrder", unfollowed := true, recurses := true, apart := false, narrowed := true }
def TickOrderUptoSaid : Prop := tickOrderUptoRow.holds Try.pinned (OpenSpec.upto tickOrderSpec)

/-- 'clepsydralaw01.TickBack', WHERE WHAT IT READS IS OF BULK AT MOST 1048576: true; the input reads as it did. -/
def tickBackUptoRow : OpenClaim := { program := "ytkcehgmkjkhobaa", sum := "de5d0b5cb71895504fce7503eb5d51773ce3c847b3cd9b90a79b79d1ce731166", func := "clepsydra/clepsydralaw01.TickBack", spec := "tickBack", unfollowed := true, recurses := true, apart := false, narrowed := true }
def TickBackUptoSaid : Prop := tickBackUptoRow.holds Try.pinned (OpenSpec.upto tickBackSpec)

/-- 'clepsydralaw01.TickFloors', WHERE WHAT IT READS IS OF BULK AT MOST 1048576: true; the input reads as it did. -/
def tickFloorsUptoRow : OpenClaim := { program := "ytkcehgmkjkhobaa", sum := "de5d0b5cb71895504fce7503eb5d51773ce3c847b3cd9b90a79b79d1ce731166", func := "clepsydra/clepsydralaw01.TickFloors", spec := "tickFloors", apart := false, narrowed := true }
def TickFloorsUptoSaid : Prop := tickFloorsUptoRow.holds Try.pinned (OpenSpec.upto tickFloorsSpec)

/-- 'clepsydralaw01.TickSteps', WHERE WHAT IT READS IS OF BULK AT MOST 1048576: true; the input reads as it did. -/
def tickStepsUptoRow : OpenClaim := { program := "ytkcehgmkjkhobaa", sum := "de5d0b5cb71895504fce7503eb5d51773ce3c847b3cd9b90a79b79d1ce731166", func := "clepsydra/clepsydralaw01.TickSteps", spec := "tickSteps", apart := false, narrowed := true }
def TickStepsUptoSaid : Prop := tickStepsUptoRow.holds Try.pinned (OpenSpec.upto tickStepsSpec)

/-- 'clepsydralaw01.TickEnds', WHERE WHAT IT READS IS OF BULK AT MOST 1048576: true; the input reads as it did. -/
def tickEndsUptoRow : OpenClaim := { program := "ytkcehgmkjkhobaa", sum := "de5d0b5cb71895504fce7503eb5d51773ce3c847b3cd9b90a79b79d1ce731166", func := "clepsydra/clepsydralaw01.TickEnds", spec := "tickEnds", apart := false, narrowed := true }
def TickEndsUptoSaid : Prop := tickEndsUptoRow.holds Try.pinned (OpenSpec.upto tickEndsSpec)

/-- 'clepsydralaw01.TickJoins', WHERE WHAT IT READS IS OF BULK AT MOST 1048576: true; the input reads as it did. -/
def tickJoinsUptoRow : OpenClaim := { program := "ytkcehgmkjkhobaa", sum := "de5d0b5cb71895504fce7503eb5d51773ce3c847b3cd9b90a79b79d1ce731166", func := "clepsydra/clepsydralaw01.TickJoins", spec := "tickJoins", apart := false, narrowed := true }
def TickJoinsUptoSaid : Prop := tickJoinsUptoRow.holds Try.pinned (OpenSpec.upto tickJoinsSpec)

end Rows
end Go.Proofs.Ytkcehgmkjkhobaa
