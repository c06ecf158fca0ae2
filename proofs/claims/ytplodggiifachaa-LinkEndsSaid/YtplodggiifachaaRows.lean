/-
  No cell of these rows narrows 'for every input' (looked for: loops, veiled, ifaces, maps, wideKeys, modest, calm, conditions, laid).
  DERIVED. THE GIVEN ROWS OF THIS SEAT. 6 by the template 'for every input the law returns true; each argument reads behind the call as it read before'; 0 by the template 'total and deterministic' (their statements: YtplodggiifachaaTotals.lean).
  GIVEN WITH THE SEED: the statements are not yours to turn. If you find one false, say at which input.
  Laid BY PROGRAM, IN A SANDBOX (cutbox-rows.mjs): the forced cells as the released guide's own fill.sh prints them over the translation 1084e33b8c49bf04… (all of the seat's roots in one cut). By AI agents, Wed Nov 11 2026. No macro, syntax, notation, axiom, sorry.
-/
import Derived.Test.YtplodggiifachaaChecked
import GoSem.Claim
import GoSem.ClaimJoined
import GoSem.ClaimMapViews
import Derived.JoinedTies
import Derived.KernelRfl
namespace Go.Proofs.Ytplodggiifachaa
/- THE CELL 'sum', in the pinned program and in every row, IS THE sha256 OF THE DUMP (.gsa) THAT YtplodggiifachaaProg.lean LOADS. Nothing in Lean hashes anything: it is a label: what it is worth is what the hold of that sum in a sandbox is worth. -/
noncomputable def Try.pinned : Pinned := { name := "ytplodggiifachaa", sum := "1084e33b8c49bf04b057cf1fff5d726dbeaf5fb7030df878d8ce6852d2be74cc", checked := Try.checked }
namespace Rows
def none {H : Type} : Left H := { results := [], args := [] }

/-- 'clepsydralaw15.LinkTakes': WHATEVER THE INPUT: true; the input reads as it did. -/
def linkTakesSpec : ChangeSpec := { name := "linkTakes", fn := fun _ => fun
  | [d1, d2, d3] => { results := [.lit (.bool true)], args := [d1, d2, d3] }
  | _ => none }
def linkTakesRow : OpenClaim := { program := "ytplodggiifachaa", sum := "1084e33b8c49bf04b057cf1fff5d726dbeaf5fb7030df878d8ce6852d2be74cc", func := "clepsydra/clepsydralaw15.LinkTakes", spec := "linkTakes", unfollowed := true, recurses := true, apart := false }
def LinkTakesSaid : Prop := linkTakesRow.holds Try.pinned (OpenSpec.ofChange linkTakesSpec)

/-- ITS FALSE NEIGHBOUR: 'it returns false'. Refute it at one input. -/
def linkTakesWrong : ChangeSpec := { name := "linkTakes", fn := fun _ => fun
  | [d1, d2, d3] => { results := [.lit (.bool false)], args := [d1, d2, d3] }
  | _ => none }
def LinkTakesWrongFalsely : Prop := linkTakesRow.holds Try.pinned (OpenSpec.ofChange linkTakesWrong)

/-- 'clepsydralaw15.LinkAcks': WHATEVER THE INPUT: true; the input reads as it did. -/
def linkAcksSpec : ChangeSpec := { name := "linkAcks", fn := fun _ => fun
  | [d1, d2, d3] => { results := [.lit (.bool true)], args := [d1, d2, d3] }
  | _ => none }
def linkAcksRow : OpenClaim := { program := "ytplodggiifachaa", sum := "1084e33b8c49bf04b057cf1fff5d726dbeaf5fb7030df878d8ce6852d2be74cc", func := "clepsydra/clepsydralaw15.LinkAcks", spec := "linkAcks", unfollowed := true, recurses := true, apart := false }
def LinkAcksSaid : Prop := linkAcksRow.holds Try.pinned (OpenSpec.ofChange linkAcksSpec)

/-- ITS FALSE NEIGHBOUR: 'it returns false'. Refute it at one input. -/
def linkAcksWrong : ChangeSpec := { name := "linkAcks", fn := fun _ => fun
  | [d1, d2, d3] => { results := [.lit (.bool false)], args := [d1, d2, d3] }
  | _ => none }
def LinkAcksWrongFalsely : Prop := linkAcksRow.holds Try.pinned (OpenSpec.ofChange linkAcksWrong)

/-- 'clepsydralaw15.LinkRoom': WHATEVER THE INPUT: true; the input reads as it did. -/
def linkRoomSpec : ChangeSpec := { name := "linkRoom", fn := fun _ => fun
  | [d1, d2] => { results := [.lit (.bool true)], args := [d1, d2] }
  | _ => none }
def linkRoomRow : OpenClaim := { program := "ytplodggiifachaa", sum := "1084e33b8c49bf04b057cf1fff5d726dbeaf5fb7030df878d8ce6852d2be74cc", func := "clepsydra/clepsydralaw15.LinkRoom", spec := "linkRoom", unfollowed := true, recurses := true, apart := false }
def LinkRoomSaid : Prop := linkRoomRow.holds Try.pinned (OpenSpec.ofChange linkRoomSpec)

/-- ITS FALSE NEIGHBOUR: 'it returns false'. Refute it at one input. -/
def linkRoomWrong : ChangeSpec := { name := "linkRoom", fn := fun _ => fun
  | [d1, d2] => { results := [.lit (.bool false)], args := [d1, d2] }
  | _ => none }
def LinkRoomWrongFalsely : Prop := linkRoomRow.holds Try.pinned (OpenSpec.ofChange linkRoomWrong)

/-- 'clepsydralaw15.LinkSends': WHATEVER THE INPUT: true; the input reads as it did. -/
def linkSendsSpec : ChangeSpec := { name := "linkSends", fn := fun _ => fun
  | [d1, d2, d3, d4] => { results := [.lit (.bool true)], args := [d1, d2, d3, d4] }
  | _ => none }
def linkSendsRow : OpenClaim := { program := "ytplodggiifachaa", sum := "1084e33b8c49bf04b057cf1fff5d726dbeaf5fb7030df878d8ce6852d2be74cc", func := "clepsydra/clepsydralaw15.LinkSends", spec := "linkSends", unfollowed := true, recurses := true, apart := false }
def LinkSendsSaid : Prop := linkSendsRow.holds Try.pinned (OpenSpec.ofChange linkSendsSpec)

/-- ITS FALSE NEIGHBOUR: 'it returns false'. Refute it at one input. -/
def linkSendsWrong : ChangeSpec := { name := "linkSends", fn := fun _ => fun
  | [d1, d2, d3, d4] => { results := [.lit (.bool false)], args := [d1, d2, d3, d4] }
  | _ => none }
def LinkSendsWrongFalsely : Prop := linkSendsRow.holds Try.pinned (OpenSpec.ofChange linkSendsWrong)

/-- 'clepsydralaw15.LinkOrder': WHATEVER THE INPUT: true; the input reads as it did. -/
def linkOrderSpec : ChangeSpec := { name := "linkOrder", fn := fun _ => fun
  | [d1, d2] => { results := [.lit (.bool true)], args := [d1, d2] }
  | _ => none }
def linkOrderRow : OpenClaim := { program := "ytplodggiifachaa", sum := "1084e33b8c49bf04b057cf1fff5d726dbeaf5fb7030df878d8ce6852d2be74cc", func := "clepsydra/clepsydralaw15.LinkOrder", spec := "linkOrder", unfollowed := true, recurses := true, apart := false }
def LinkOrderSaid : Prop := linkOrderRow.holds Try.pinned (OpenSpec.ofChange linkOrderSpec)

/-- ITS FALSE NEIGHBOUR: 'it returns false'. Refute it at one input. -/
def linkOrderWrong : ChangeSpec := { name := "linkOrder", fn := fun _ => fun
  | [d1, d2] => { results := [.lit (.bool false)], args := [d1, d2] }
  | _ => none }
def LinkOrderWrongFalsely : Prop := linkOrderRow.holds Try.pinned (OpenSpec.ofChange linkOrderWrong)

/-- 'clepsydralaw15.LinkEnds': WHATEVER THE INPUT: true; the input reads as it did. -/
def linkEndsSpec : ChangeSpec := { name := "linkEnds", fn := fun _ => fun
  | [d1, d2] => { results := [.lit (.bool true)], args := [d1, d2] }
  | _ => none }
def linkEndsRow : OpenClaim := { program := "ytplodggiifachaa", sum := "1084e33b8c49bf04b057cf1fff5d726dbeaf5fb7030df878d8ce6852d2be74cc", func := "clepsydra/clepsydralaw15.LinkEnds", spec := "linkEnds", unfollowed := true, recurses := true, apart := false }
def LinkEndsSaid : Prop := linkEndsRow.holds Try.pinned (OpenSpec.ofChange linkEndsSpec)

/-- ITS FALSE NEIGHBOUR: 'it returns false'. Refute it at one input. -/
def linkEndsWrong : ChangeSpec := { name := "linkEnds", fn := fun _ => fun
  | [d1, d2] => { results := [.lit (.bool false)], args := [d1, d2] }
  | _ => none }
def LinkEndsWrongFalsely : Prop := linkEndsRow.holds Try.pinned (OpenSpec.ofChange linkEndsWrong)

/- THE SECOND FORM. 'bulk': how many values and letters a reading holds, each counted each time it is reached (what is shared counts as often as it is met; a slice's spare places count too). A statement '..UptoSaid' is the law's where the arguments, and the package variables that the reading takes, are together of bulk at most 1048576: NARROWER than '..Said'. Prove '..Said' where nothing that the law and all that it calls make is longer than what came in: it says more and counts as full. Else prove '..UptoSaid'. A law counts once. -/
mutual
def uptoBulk {H : Type} : DataW H → Nat
  | .lit (.string bytes) => bytes.length + 1
  | .lit _ => 1
  | .nil => 1
  | .ptr d => uptoBulk d + 1
  | .slice elems spare => uptoBulkAll elems + uptoBulkAll spare + 1
  | .agg parts => uptoBulkAll parts + 1
  | .iface _ d => uptoBulk d + 1
  | .map entries => uptoBulkEntries entries + 1
  | .held _ => 1
def uptoBulkAll {H : Type} : List (DataW H) → Nat
  | [] => 0
  | d :: r => uptoBulk d + uptoBulkAll r
def uptoBulkEntries {H : Type} : List (Lit × DataW H) → Nat
  | [] => 0
  | x :: r => uptoBulkEntry x + uptoBulkEntries r
def uptoBulkEntry {H : Type} : Lit × DataW H → Nat
  | (.string bytes, d) => bytes.length + uptoBulk d + 1
  | (_, d) => uptoBulk d + 1
 end
def uptoSmall : (H : Type) → List (DataW H) → Bool := fun _ ds => decide (uptoBulkAll ds ≤ 1048576)
def OpenSpec.upto (s : _root_.Go.ChangeSpec) : _root_.Go.OpenSpec := { _root_.Go.OpenSpec.ofChange s with cond := some uptoSmall }

/-- 'clepsydralaw15.LinkTakes', WHERE WHAT IT READS IS OF BULK AT MOST 1048576: true; the input reads as it did. -/
def linkTakesUptoRow : OpenClaim := { program := "ytplodggiifachaa", sum := "1084e33b8c49bf04b057cf1fff5d726dbeaf5fb7030df878d8ce6852d2be74cc", func := "clepsydra/clepsydralaw15.LinkTakes", spec := "linkTakes", unfollowed := true, recurses := true, apart := false, narrowed := true }
def LinkTakesUptoSaid : Prop := linkTakesUptoRow.holds Try.pinned (OpenSpec.upto linkTakesSpec)

/-- 'clepsydralaw15.LinkAcks', WHERE WHAT IT READS IS OF BULK AT MOST 1048576: true; the input reads as it did. -/
def linkAcksUptoRow : OpenClaim := { program := "ytplodggiifachaa", sum := "1084e33b8c49bf04b057cf1fff5d726dbeaf5fb7030df878d8ce6852d2be74cc", func := "clepsydra/clepsydralaw15.LinkAcks", spec := "linkAcks", unfollowed := true, recurses := true, apart := false, narrowed := true }
def LinkAcksUptoSaid : Prop := linkAcksUptoRow.holds Try.pinned (OpenSpec.upto linkAcksSpec)

/-- 'clepsydralaw15.LinkRoom', WHERE WHAT IT READS IS OF BULK AT MOST 1048576: true; the input reads as it did. -/
def linkRoomUptoRow : OpenClaim := { program := "ytplodggiifachaa", sum := "1084e33b8c49bf04b057cf1fff5d726dbeaf5fb7030df878d8ce6852d2be74cc", func := "clepsydra/clepsydralaw15.LinkRoom", spec := "linkRoom", unfollowed := true, recurses := true, apart := false, narrowed := true }
def LinkRoomUptoSaid : Prop := linkRoomUptoRow.holds Try.pinned (OpenSpec.upto linkRoomSpec)

/-- 'clepsydralaw15.LinkSends', WHERE WHAT IT READS IS OF BULK AT MOST 1048576: true; the input reads as it did. -/
def linkSendsUptoRow : OpenClaim := { program := "ytplodggiifachaa", sum := "1084e33b8c49bf04b057cf1fff5d726dbeaf5fb7030df878d8ce6852d2be74cc", func := "clepsydra/clepsydralaw15.LinkSends", spec := "linkSends", unfollowed := true, recurses := true, apart := false, narrowed := true }
def LinkSendsUptoSaid : Prop := linkSendsUptoRow.holds Try.pinned (OpenSpec.upto linkSendsSpec)

/-- 'clepsydralaw15.LinkOrder', WHERE WHAT IT READS IS OF BULK AT MOST 1048576: true; the input reads as it did. -/
def linkOrderUptoRow : OpenClaim := { program := "ytplodggiifachaa", sum := "1084e33b8c49bf04b057cf1fff5d726dbeaf5fb7030df878d8ce6852d2be74cc", func := "clepsydra/clepsydralaw15.LinkOrder", spec := "linkOrder", unfollowed := true, recurses := true, apart := false, narrowed := true }
def LinkOrderUptoSaid : Prop := linkOrderUptoRow.holds Try.pinned (OpenSpec.upto linkOrderSpec)

/-- 'clepsydralaw15.LinkEnds', WHERE WHAT IT READS IS OF BULK AT MOST 1048576: true; the input reads as it did. -/
def linkEndsUptoRow : OpenClaim := { program := "ytplodggiifachaa", sum := "1084e33b8c49bf04b057cf1fff5d726dbeaf5fb7030df878d8ce6852d2be74cc", func := "clepsydra/clepsydralaw15.LinkEnds", spec := "linkEnds", unfollowed := true, recurses := true, apart := false, narrowed := true }
def LinkEndsUptoSaid : Prop := linkEndsUptoRow.holds Try.pinned (OpenSpec.upto linkEndsSpec)

end Rows
end Go.Proofs.Ytplodggiifachaa
