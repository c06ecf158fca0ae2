/-
  No cell of these rows narrows 'for every input' (looked for: loops, veiled, ifaces, maps, wideKeys, modest, calm, conditions, laid).
  DERIVED. THE GIVEN ROWS OF THIS SEAT. 6 by the template 'for every input the law returns true; each argument reads behind the call as it read before'; 0 by the template 'total and deterministic' (their statements: YtmlejdcanlgpdaaTotals.lean).
  GIVEN WITH THE SEED: the statements are not yours to turn. If you find one false, say at which input.
  Laid BY PROGRAM, IN A SANDBOX (cutbox-rows.mjs): the forced cells as the released guide's own fill.sh prints them over the translation 798bcddb0d434851… (all of the seat's roots in one cut). By AI agents, Wed Nov 11 2026. No macro, syntax, notation, axiom, sorry.
-/
import Derived.Test.YtmlejdcanlgpdaaChecked
import GoSem.Claim
import GoSem.ClaimJoined
import GoSem.ClaimMapViews
import Derived.JoinedTies
import Derived.KernelRfl
namespace Go.Proofs.Ytmlejdcanlgpdaa
/- THE CELL 'sum', in the pinned program and in every row, IS THE sha256 OF THE DUMP (.gsa) THAT YtmlejdcanlgpdaaProg.lean LOADS. Nothing in Lean hashes anything: it is a label: what it is worth is what the hold of that sum in a sandbox is worth. -/
noncomputable def Try.pinned : Pinned := { name := "ytmlejdcanlgpdaa", sum := "798bcddb0d434851f1d63662273141fd166e9ee2ee8ba25e5b632b0af085b01e", checked := Try.checked }
namespace Rows
def none {H : Type} : Left H := { results := [], args := [] }

/-- 'clepsydralaw21.SourceSteps': WHATEVER THE INPUT: true; the input reads as it did. -/
def sourceStepsSpec : ChangeSpec := { name := "sourceSteps", fn := fun _ => fun
  | [d1, d2] => { results := [.lit (.bool true)], args := [d1, d2] }
  | _ => none }
def sourceStepsRow : OpenClaim := { program := "ytmlejdcanlgpdaa", sum := "798bcddb0d434851f1d63662273141fd166e9ee2ee8ba25e5b632b0af085b01e", func := "clepsydra/clepsydralaw21.SourceSteps", spec := "sourceSteps", unfollowed := true, recurses := true, apart := false }
def SourceStepsSaid : Prop := sourceStepsRow.holds Try.pinned (OpenSpec.ofChange sourceStepsSpec)

/-- ITS FALSE NEIGHBOUR: 'it returns false'. Refute it at one input. -/
def sourceStepsWrong : ChangeSpec := { name := "sourceSteps", fn := fun _ => fun
  | [d1, d2] => { results := [.lit (.bool false)], args := [d1, d2] }
  | _ => none }
def SourceStepsWrongFalsely : Prop := sourceStepsRow.holds Try.pinned (OpenSpec.ofChange sourceStepsWrong)

/-- 'clepsydralaw21.SourceIdles': WHATEVER THE INPUT: true; the input reads as it did. -/
def sourceIdlesSpec : ChangeSpec := { name := "sourceIdles", fn := fun _ => fun
  | [d1, d2, d3] => { results := [.lit (.bool true)], args := [d1, d2, d3] }
  | _ => none }
def sourceIdlesRow : OpenClaim := { program := "ytmlejdcanlgpdaa", sum := "798bcddb0d434851f1d63662273141fd166e9ee2ee8ba25e5b632b0af085b01e", func := "clepsydra/clepsydralaw21.SourceIdles", spec := "sourceIdles", unfollowed := true, recurses := true, apart := false }
def SourceIdlesSaid : Prop := sourceIdlesRow.holds Try.pinned (OpenSpec.ofChange sourceIdlesSpec)

/-- ITS FALSE NEIGHBOUR: 'it returns false'. Refute it at one input. -/
def sourceIdlesWrong : ChangeSpec := { name := "sourceIdles", fn := fun _ => fun
  | [d1, d2, d3] => { results := [.lit (.bool false)], args := [d1, d2, d3] }
  | _ => none }
def SourceIdlesWrongFalsely : Prop := sourceIdlesRow.holds Try.pinned (OpenSpec.ofChange sourceIdlesWrong)

/-- 'clepsydralaw21.SourceBegins': WHATEVER THE INPUT: true; the input reads as it did. -/
def sourceBeginsSpec : ChangeSpec := { name := "sourceBegins", fn := fun _ => fun
  | [d1, d2, d3] => { results := [.lit (.bool true)], args := [d1, d2, d3] }
  | _ => none }
def sourceBeginsRow : OpenClaim := { program := "ytmlejdcanlgpdaa", sum := "798bcddb0d434851f1d63662273141fd166e9ee2ee8ba25e5b632b0af085b01e", func := "clepsydra/clepsydralaw21.SourceBegins", spec := "sourceBegins", unfollowed := true, recurses := true, apart := false }
def SourceBeginsSaid : Prop := sourceBeginsRow.holds Try.pinned (OpenSpec.ofChange sourceBeginsSpec)

/-- ITS FALSE NEIGHBOUR: 'it returns false'. Refute it at one input. -/
def sourceBeginsWrong : ChangeSpec := { name := "sourceBegins", fn := fun _ => fun
  | [d1, d2, d3] => { results := [.lit (.bool false)], args := [d1, d2, d3] }
  | _ => none }
def SourceBeginsWrongFalsely : Prop := sourceBeginsRow.holds Try.pinned (OpenSpec.ofChange sourceBeginsWrong)

/-- 'clepsydralaw21.SourceMarks': WHATEVER THE INPUT: true; the input reads as it did. -/
def sourceMarksSpec : ChangeSpec := { name := "sourceMarks", fn := fun _ => fun
  | [d1, d2, d3] => { results := [.lit (.bool true)], args := [d1, d2, d3] }
  | _ => none }
def sourceMarksRow : OpenClaim := { program := "ytmlejdcanlgpdaa", sum := "798bcddb0d434851f1d63662273141fd166e9ee2ee8ba25e5b632b0af085b01e", func := "clepsydra/clepsydralaw21.SourceMarks", spec := "sourceMarks", unfollowed := true, recurses := true, apart := false }
def SourceMarksSaid : Prop := sourceMarksRow.holds Try.pinned (OpenSpec.ofChange sourceMarksSpec)

/-- ITS FALSE NEIGHBOUR: 'it returns false'. Refute it at one input. -/
def sourceMarksWrong : ChangeSpec := { name := "sourceMarks", fn := fun _ => fun
  | [d1, d2, d3] => { results := [.lit (.bool false)], args := [d1, d2, d3] }
  | _ => none }
def SourceMarksWrongFalsely : Prop := sourceMarksRow.holds Try.pinned (OpenSpec.ofChange sourceMarksWrong)

/-- 'clepsydralaw21.SourceAgain': WHATEVER THE INPUT: true; the input reads as it did. -/
def sourceAgainSpec : ChangeSpec := { name := "sourceAgain", fn := fun _ => fun
  | [d1, d2, d3] => { results := [.lit (.bool true)], args := [d1, d2, d3] }
  | _ => none }
def sourceAgainRow : OpenClaim := { program := "ytmlejdcanlgpdaa", sum := "798bcddb0d434851f1d63662273141fd166e9ee2ee8ba25e5b632b0af085b01e", func := "clepsydra/clepsydralaw21.SourceAgain", spec := "sourceAgain", unfollowed := true, recurses := true, apart := false }
def SourceAgainSaid : Prop := sourceAgainRow.holds Try.pinned (OpenSpec.ofChange sourceAgainSpec)

/-- ITS FALSE NEIGHBOUR: 'it returns false'. Refute it at one input. -/
def sourceAgainWrong : ChangeSpec := { name := "sourceAgain", fn := fun _ => fun
  | [d1, d2, d3] => { results := [.lit (.bool false)], args := [d1, d2, d3] }
  | _ => none }
def SourceAgainWrongFalsely : Prop := sourceAgainRow.holds Try.pinned (OpenSpec.ofChange sourceAgainWrong)

/-- 'clepsydralaw21.SourceTells': WHATEVER THE INPUT: true; the input reads as it did. -/
def sourceTellsSpec : ChangeSpec := { name := "sourceTells", fn := fun _ => fun
  | [d1, d2, d3] => { results := [.lit (.bool true)], args := [d1, d2, d3] }
  | _ => none }
def sourceTellsRow : OpenClaim := { program := "ytmlejdcanlgpdaa", sum := "798bcddb0d434851f1d63662273141fd166e9ee2ee8ba25e5b632b0af085b01e", func := "clepsydra/clepsydralaw21.SourceTells", spec := "sourceTells", unfollowed := true, recurses := true, apart := false }
def SourceTellsSaid : Prop := sourceTellsRow.holds Try.pinned (OpenSpec.ofChange sourceTellsSpec)

/-- ITS FALSE NEIGHBOUR: 'it returns false'. Refute it at one input. -/
def sourceTellsWrong : ChangeSpec := { name := "sourceTells", fn := fun _ => fun
  | [d1, d2, d3] => { results := [.lit (.bool false)], args := [d1, d2, d3] }
  | _ => none }
def SourceTellsWrongFalsely : Prop := sourceTellsRow.holds Try.pinned (OpenSpec.ofChange sourceTellsWrong)

/- THE SECOND FORM. 'bulk': how many values and letters a reading holds, each counted each time it is reached (what is shared counts as often as it is met; a slice's spare places count too). A statement '..UptoSaid' is the law's where the arguments, and the package variables that the reading takes, are together of bulk at most 1048576: NARROWER than '..Said'. Prove '..Said' where nothing that the law and all that it calls make is longer than what came in: it says more and counts as full. Else prove '..UptoSaid'. A law counts once. -/
mutual
def uptoBulk {H : Type} : DataW H → Nat
  | .lit (.string bytes) => bytes.length + 1
  | .lit _ => 1
  | .nil => 1
  | .ptr d => uptoBulk d + 1
  | .slice elems spare => uptoBulkAll elems + uptoBulkAll spare + 1
  | .agg parts => uptoBulkAll parts + 1
  | .iface _ d => uptoBulk d + 1
  | .map entries => uptoBulkEntries entries + 1
  | .held _ => 1
def uptoBulkAll {H : Type} : List (DataW H) → Nat
  | [] => 0
  | d :: r => uptoBulk d + uptoBulkAll r
def uptoBulkEntries {H : Type} : List (Lit × DataW H) → Nat
  | [] => 0
  | x :: r => uptoBulkEntry x + uptoBulkEntries r
def uptoBulkEntry {H : Type} : Lit × DataW H → Nat
  | (.string bytes, d) => bytes.length + uptoBulk d + 1
  | (_, d) => uptoBulk d + 1
 end
def uptoSmall : (H : Type) → List (DataW H) → Bool := fun _ ds => decide (uptoBulkAll ds ≤ 1048576)
def OpenSpec.upto (s : _root_.Go.ChangeSpec) : _root_.Go.OpenSpec := { _root_.Go.OpenSpec.ofChange s with cond := some uptoSmall }

/-- 'clepsydralaw21.SourceSteps', WHERE WHAT IT READS IS OF BULK AT MOST 1048576: true; the input reads as it did. -/
def sourceStepsUptoRow : OpenClaim := { program := "ytmlejdcanlgpdaa", sum := "798bcddb0d434851f1d63662273141fd166e9ee2ee8ba25e5b632b0af085b01e", func := "clepsydra/clepsydralaw21.SourceSteps", spec := "sourceSteps", unfollowed := true, recurses := true, apart := false, narrowed := true }
def SourceStepsUptoSaid : Prop := sourceStepsUptoRow.holds Try.pinned (OpenSpec.upto sourceStepsSpec)

/-- 'clepsydralaw21.SourceIdles', WHERE WHAT IT READS IS OF BULK AT MOST 1048576: true; the input reads as it did. -/
def sourceIdlesUptoRow : OpenClaim := { program := "ytmlejdcanlgpdaa", sum := "798bcddb0d434851f1d63662273141fd166e9ee2ee8ba25e5b632b0af085b01e", func := "clepsydra/clepsydralaw21.SourceIdles", spec := "sourceIdles", unfollowed := true, recurses := true, apart := false, narrowed := true }
def SourceIdlesUptoSaid : Prop := sourceIdlesUptoRow.holds Try.pinned (OpenSpec.upto sourceIdlesSpec)

/-- 'clepsydralaw21.SourceBegins', WHERE WHAT IT READS IS OF BULK AT MOST 1048576: true; the input reads as it did. -/
def sourceBeginsUptoRow : OpenClaim := { program := "ytmlejdcanlgpdaa", sum := "798bcddb0d434851f1d63662273141fd166e9ee2ee8ba25e5b632b0af085b01e", func := "clepsydra/clepsydralaw21.SourceBegins", spec := "sourceBegins", unfollowed := true, recurses := true, apart := false, narrowed := true }
def SourceBeginsUptoSaid : Prop := sourceBeginsUptoRow.holds Try.pinned (OpenSpec.upto sourceBeginsSpec)

/-- 'clepsydralaw21.SourceMarks', WHERE WHAT IT READS IS OF BULK AT MOST 1048576: true; the input reads as it did. -/
def sourceMarksUptoRow : OpenClaim := { program := "ytmlejdcanlgpdaa", sum := "798bcddb0d434851f1d63662273141fd166e9ee2ee8ba25e5b632b0af085b01e", func := "clepsydra/clepsydralaw21.SourceMarks", spec := "sourceMarks", unfollowed := true, recurses := true, apart := false, narrowed := true }
def SourceMarksUptoSaid : Prop := sourceMarksUptoRow.holds Try.pinned (OpenSpec.upto sourceMarksSpec)

/-- 'clepsydralaw21.SourceAgain', WHERE WHAT IT READS IS OF BULK AT MOST 1048576: true; the input reads as it did. -/
def sourceAgainUptoRow : OpenClaim := { program := "ytmlejdcanlgpdaa", sum := "798bcddb0d434851f1d63662273141fd166e9ee2ee8ba25e5b632b0af085b01e", func := "clepsydra/clepsydralaw21.SourceAgain", spec := "sourceAgain", unfollowed := true, recurses := true, apart := false, narrowed := true }
def SourceAgainUptoSaid : Prop := sourceAgainUptoRow.holds Try.pinned (OpenSpec.upto sourceAgainSpec)

/-- 'clepsydralaw21.SourceTells', WHERE WHAT IT READS IS OF BULK AT MOST 1048576: true; the input reads as it did. -/
def sourceTellsUptoRow : OpenClaim := { program := "ytmlejdcanlgpdaa", sum := "798bcddb0d434851f1d63662273141fd166e9ee2ee8ba25e5b632b0af085b01e", func := "clepsydra/clepsydralaw21.SourceTells", spec := "sourceTells", unfollowed := true, recurses := true, apart := false, narrowed := true }
def SourceTellsUptoSaid : Prop := sourceTellsUptoRow.holds Try.pinned (OpenSpec.upto sourceTellsSpec)

end Rows
end Go.Proofs.Ytmlejdcanlgpdaa
