/-
  No cell of these rows narrows 'for every input' (looked for: loops, veiled, ifaces, maps, wideKeys, modest, calm, conditions, laid).
  DERIVED. THE GIVEN ROWS OF THIS SEAT. 6 by the template 'for every input the law returns true; each argument reads behind the call as it read before'; 0 by the template 'total and deterministic' (their statements: YtinccckpohaoiaaTotals.lean).
  GIVEN WITH THE SEED: the statements are not yours to turn. If you find one false, say at which input.
  Laid BY PROGRAM, IN A SANDBOX (cutbox-rows.mjs): the forced cells as the released guide's own fill.sh prints them over the translation 163f4505e4967610… (all of the seat's roots in one cut). By AI agents, Wed Nov 11 2026. No macro, syntax, notation, axiom, sorry.
-/
import Derived.Test.YtinccckpohaoiaaChecked
import GoSem.Claim
import GoSem.ClaimJoined
import GoSem.ClaimMapViews
import Derived.JoinedTies
import Derived.KernelRfl
namespace Go.Proofs.Ytinccckpohaoiaa
/- THE CELL 'sum', in the pinned program and in every row, IS THE sha256 OF THE DUMP (.gsa) THAT YtinccckpohaoiaaProg.lean LOADS. Nothing in Lean hashes anything: it is a label: what it is worth is what the hold of that sum in a sandbox is worth. -/
noncomputable def Try.pinned : Pinned := { name := "ytinccckpohaoiaa", sum := "163f4505e4967610595646669bf25e60e17729f3d8a3bbc56474116e827e6d41", checked := Try.checked }
namespace Rows
def none {H : Type} : Left H := { results := [], args := [] }

/-- 'clepsydralaw16.LeaseMakes': WHATEVER THE INPUT: true; the input reads as it did. -/
def leaseMakesSpec : ChangeSpec := { name := "leaseMakes", fn := fun _ => fun
  | [d1, d2, d3] => { results := [.lit (.bool true)], args := [d1, d2, d3] }
  | _ => none }
def leaseMakesRow : OpenClaim := { program := "ytinccckpohaoiaa", sum := "163f4505e4967610595646669bf25e60e17729f3d8a3bbc56474116e827e6d41", func := "clepsydra/clepsydralaw16.LeaseMakes", spec := "leaseMakes", unfollowed := true, recurses := true, plainKeys := false, apart := false }
def LeaseMakesSaid : Prop := leaseMakesRow.holds Try.pinned (OpenSpec.ofChange leaseMakesSpec)

/-- ITS FALSE NEIGHBOUR: 'it returns false'. Refute it at one input. -/
def leaseMakesWrong : ChangeSpec := { name := "leaseMakes", fn := fun _ => fun
  | [d1, d2, d3] => { results := [.lit (.bool false)], args := [d1, d2, d3] }
  | _ => none }
def LeaseMakesWrongFalsely : Prop := leaseMakesRow.holds Try.pinned (OpenSpec.ofChange leaseMakesWrong)

/-- 'clepsydralaw16.LeaseGrants': WHATEVER THE INPUT: true; the input reads as it did. -/
def leaseGrantsSpec : ChangeSpec := { name := "leaseGrants", fn := fun _ => fun
  | [d1, d2, d3, d4, d5] => { results := [.lit (.bool true)], args := [d1, d2, d3, d4, d5] }
  | _ => none }
def leaseGrantsRow : OpenClaim := { program := "ytinccckpohaoiaa", sum := "163f4505e4967610595646669bf25e60e17729f3d8a3bbc56474116e827e6d41", func := "clepsydra/clepsydralaw16.LeaseGrants", spec := "leaseGrants", unfollowed := true, recurses := true, plainKeys := false, apart := false }
def LeaseGrantsSaid : Prop := leaseGrantsRow.holds Try.pinned (OpenSpec.ofChange leaseGrantsSpec)

/-- ITS FALSE NEIGHBOUR: 'it returns false'. Refute it at one input. -/
def leaseGrantsWrong : ChangeSpec := { name := "leaseGrants", fn := fun _ => fun
  | [d1, d2, d3, d4, d5] => { results := [.lit (.bool false)], args := [d1, d2, d3, d4, d5] }
  | _ => none }
def LeaseGrantsWrongFalsely : Prop := leaseGrantsRow.holds Try.pinned (OpenSpec.ofChange leaseGrantsWrong)

/-- 'clepsydralaw16.LeaseRenews': WHATEVER THE INPUT: true; the input reads as it did. -/
def leaseRenewsSpec : ChangeSpec := { name := "leaseRenews", fn := fun _ => fun
  | [d1, d2, d3, d4, d5] => { results := [.lit (.bool true)], args := [d1, d2, d3, d4, d5] }
  | _ => none }
def leaseRenewsRow : OpenClaim := { program := "ytinccckpohaoiaa", sum := "163f4505e4967610595646669bf25e60e17729f3d8a3bbc56474116e827e6d41", func := "clepsydra/clepsydralaw16.LeaseRenews", spec := "leaseRenews", unfollowed := true, recurses := true, plainKeys := false, apart := false }
def LeaseRenewsSaid : Prop := leaseRenewsRow.holds Try.pinned (OpenSpec.ofChange leaseRenewsSpec)

/-- ITS FALSE NEIGHBOUR: 'it returns false'. Refute it at one input. -/
def leaseRenewsWrong : ChangeSpec := { name := "leaseRenews", fn := fun _ => fun
  | [d1, d2, d3, d4, d5] => { results := [.lit (.bool false)], args := [d1, d2, d3, d4, d5] }
  | _ => none }
def LeaseRenewsWrongFalsely : Prop := leaseRenewsRow.holds Try.pinned (OpenSpec.ofChange leaseRenewsWrong)

/-- 'clepsydralaw16.LeaseKeeps': WHATEVER THE INPUT: true; the input reads as it did. -/
def leaseKeepsSpec : ChangeSpec := { name := "leaseKeeps", fn := fun _ => fun
  | [d1, d2, d3, d4, d5] => { results := [.lit (.bool true)], args := [d1, d2, d3, d4, d5] }
  | _ => none }
def leaseKeepsRow : OpenClaim := { program := "ytinccckpohaoiaa", sum := "163f4505e4967610595646669bf25e60e17729f3d8a3bbc56474116e827e6d41", func := "clepsydra/clepsydralaw16.LeaseKeeps", spec := "leaseKeeps", unfollowed := true, recurses := true, plainKeys := false, apart := false }
def LeaseKeepsSaid : Prop := leaseKeepsRow.holds Try.pinned (OpenSpec.ofChange leaseKeepsSpec)

/-- ITS FALSE NEIGHBOUR: 'it returns false'. Refute it at one input. -/
def leaseKeepsWrong : ChangeSpec := { name := "leaseKeeps", fn := fun _ => fun
  | [d1, d2, d3, d4, d5] => { results := [.lit (.bool false)], args := [d1, d2, d3, d4, d5] }
  | _ => none }
def LeaseKeepsWrongFalsely : Prop := leaseKeepsRow.holds Try.pinned (OpenSpec.ofChange leaseKeepsWrong)

/-- 'clepsydralaw16.LeaseFences': WHATEVER THE INPUT: true; the input reads as it did. -/
def leaseFencesSpec : ChangeSpec := { name := "leaseFences", fn := fun _ => fun
  | [d1, d2] => { results := [.lit (.bool true)], args := [d1, d2] }
  | _ => none }
def leaseFencesRow : OpenClaim := { program := "ytinccckpohaoiaa", sum := "163f4505e4967610595646669bf25e60e17729f3d8a3bbc56474116e827e6d41", func := "clepsydra/clepsydralaw16.LeaseFences", spec := "leaseFences", unfollowed := true, recurses := true, plainKeys := false, apart := false }
def LeaseFencesSaid : Prop := leaseFencesRow.holds Try.pinned (OpenSpec.ofChange leaseFencesSpec)

/-- ITS FALSE NEIGHBOUR: 'it returns false'. Refute it at one input. -/
def leaseFencesWrong : ChangeSpec := { name := "leaseFences", fn := fun _ => fun
  | [d1, d2] => { results := [.lit (.bool false)], args := [d1, d2] }
  | _ => none }
def LeaseFencesWrongFalsely : Prop := leaseFencesRow.holds Try.pinned (OpenSpec.ofChange leaseFencesWrong)

/-- 'clepsydralaw16.LeaseTurns': WHATEVER THE INPUT: true; the input reads as it did. -/
def leaseTurnsSpec : ChangeSpec := { name := "leaseTurns", fn := fun _ => fun
  | [d1, d2, d3, d4, d5, d6] => { results := [.lit (.bool true)], args := [d1, d2, d3, d4, d5, d6] }
  | _ => none }
def leaseTurnsRow : OpenClaim := { program := "ytinccckpohaoiaa", sum := "163f4505e4967610595646669bf25e60e17729f3d8a3bbc56474116e827e6d41", func := "clepsydra/clepsydralaw16.LeaseTurns", spec := "leaseTurns", unfollowed := true, recurses := true, plainKeys := false, apart := false }
def LeaseTurnsSaid : Prop := leaseTurnsRow.holds Try.pinned (OpenSpec.ofChange leaseTurnsSpec)

/-- ITS FALSE NEIGHBOUR: 'it returns false'. Refute it at one input. -/
def leaseTurnsWrong : ChangeSpec := { name := "leaseTurns", fn := fun _ => fun
  | [d1, d2, d3, d4, d5, d6] => { results := [.lit (.bool false)], args := [d1, d2, d3, d4, d5, d6] }
  | _ => none }
def LeaseTurnsWrongFalsely : Prop := leaseTurnsRow.holds Try.pinned (OpenSpec.ofChange leaseTurnsWrong)

/- THE SECOND FORM. 'bulk': how many values and letters a reading holds, each counted each time it is reached (what is shared counts as often as it is met; a slice's spare places count too). A statement '..UptoSaid' is the law's where the arguments, and the package variables that the reading takes, are together of bulk at most 1048576: NARROWER than '..Said'. Prove '..Said' where nothing that the law and all that it calls make is longer than what came in: it says more and counts as full. Else prove '..UptoSaid'. A law counts once. -/
mutual
def uptoBulk {H : Type} : DataW H → Nat
  | .lit (.string bytes) => bytes.length + 1
  | .lit _ => 1
  | .nil => 1
  | .ptr d => uptoBulk d + 1
  | .slice elems spare => uptoBulkAll elems + uptoBulkAll spare + 1
  | .agg parts => uptoBulkAll parts + 1
  | .iface _ d => uptoBulk d + 1
  | .map entries => uptoBulkEntries entries + 1
  | .held _ => 1
def uptoBulkAll {H : Type} : List (DataW H) → Nat
  | [] => 0
  | d :: r => uptoBulk d + uptoBulkAll r
def uptoBulkEntries {H : Type} : List (Lit × DataW H) → Nat
  | [] => 0
  | x :: r => uptoBulkEntry x + uptoBulkEntries r
def uptoBulkEntry {H : Type} : Lit × DataW H → Nat
  | (.string bytes, d) => bytes.length + uptoBulk d + 1
  | (_, d) => uptoBulk d + 1
 end
def uptoSmall : (H : Type) → List (DataW H) → Bool := fun _ ds => decide (uptoBulkAll ds ≤ 1048576)
def OpenSpec.upto (s : _root_.Go.ChangeSpec) : _root_.Go.OpenSpec := { _root_.Go.OpenSpec.ofChange s with cond := some uptoSmall }

/-- 'clepsydralaw16.LeaseMakes', WHERE WHAT IT READS IS OF BULK AT MOST 1048576: true; the input reads as it did. -/
def leaseMakesUptoRow : OpenClaim := { program := "ytinccckpohaoiaa", sum := "163f4505e4967610595646669bf25e60e17729f3d8a3bbc56474116e827e6d41", func := "clepsydra/clepsydralaw16.LeaseMakes", spec := "leaseMakes", unfollowed := true, recurses := true, plainKeys := false, apart := false, narrowed := true }
def LeaseMakesUptoSaid : Prop := leaseMakesUptoRow.holds Try.pinned (OpenSpec.upto leaseMakesSpec)

/-- 'clepsydralaw16.LeaseGrants', WHERE WHAT IT READS IS OF BULK AT MOST 1048576: true; the input reads as it did. -/
def leaseGrantsUptoRow : OpenClaim := { program := "ytinccckpohaoiaa", sum := "163f4505e4967610595646669bf25e60e17729f3d8a3bbc56474116e827e6d41", func := "clepsydra/clepsydralaw16.LeaseGrants", spec := "leaseGrants", unfollowed := true, recurses := true, plainKeys := false, apart := false, narrowed := true }
def LeaseGrantsUptoSaid : Prop := leaseGrantsUptoRow.holds Try.pinned (OpenSpec.upto leaseGrantsSpec)

/-- 'clepsydralaw16.LeaseRenews', WHERE WHAT IT READS IS OF BULK AT MOST 1048576: true; the input reads as it did. -/
def leaseRenewsUptoRow : OpenClaim := { program := "ytinccckpohaoiaa", sum := "163f4505e4967610595646669bf25e60e17729f3d8a3bbc56474116e827e6d41", func := "clepsydra/clepsydralaw16.LeaseRenews", spec := "leaseRenews", unfollowed := true, recurses := true, plainKeys := false, apart := false, narrowed := true }
def LeaseRenewsUptoSaid : Prop := leaseRenewsUptoRow.holds Try.pinned (OpenSpec.upto leaseRenewsSpec)

/-- 'clepsydralaw16.LeaseKeeps', WHERE WHAT IT READS IS OF BULK AT MOST 1048576: true; the input reads as it did. -/
def leaseKeepsUptoRow : OpenClaim := { program := "ytinccckpohaoiaa", sum := "163f4505e4967610595646669bf25e60e17729f3d8a3bbc56474116e827e6d41", func := "clepsydra/clepsydralaw16.LeaseKeeps", spec := "leaseKeeps", unfollowed := true, recurses := true, plainKeys := false, apart := false, narrowed := true }
def LeaseKeepsUptoSaid : Prop := leaseKeepsUptoRow.holds Try.pinned (OpenSpec.upto leaseKeepsSpec)

/-- 'clepsydralaw16.LeaseFences', WHERE WHAT IT READS IS OF BULK AT MOST 1048576: true; the input reads as it did. -/
def leaseFencesUptoRow : OpenClaim := { program := "ytinccckpohaoiaa", sum := "163f4505e4967610595646669bf25e60e17729f3d8a3bbc56474116e827e6d41", func := "clepsydra/clepsydralaw16.LeaseFences", spec := "leaseFences", unfollowed := true, recurses := true, plainKeys := false, apart := false, narrowed := true }
def LeaseFencesUptoSaid : Prop := leaseFencesUptoRow.holds Try.pinned (OpenSpec.upto leaseFencesSpec)

/-- 'clepsydralaw16.LeaseTurns', WHERE WHAT IT READS IS OF BULK AT MOST 1048576: true; the input reads as it did. -/
def leaseTurnsUptoRow : OpenClaim := { program := "ytinccckpohaoiaa", sum := "163f4505e4967610595646669bf25e60e17729f3d8a3bbc56474116e827e6d41", func := "clepsydra/clepsydralaw16.LeaseTurns", spec := "leaseTurns", unfollowed := true, recurses := true, plainKeys := false, apart := false, narrowed := true }
def LeaseTurnsUptoSaid : Prop := leaseTurnsUptoRow.holds Try.pinned (OpenSpec.upto leaseTurnsSpec)

end Rows
end Go.Proofs.Ytinccckpohaoiaa
