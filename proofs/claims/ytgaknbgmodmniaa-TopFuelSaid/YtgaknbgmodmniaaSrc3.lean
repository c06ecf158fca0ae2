/- Walks of source.Right and of its reference. -/
import Derived.Test.YtgaknbgmodmniaaSrc2
namespace Go.Proofs.Ytgaknbgmodmniaa
open Go.RowKit
set_option linter.unusedVariables false
set_option linter.unusedSimpArgs false

/-- A source: its events, how many are done, the time that it told, for how many ticks nothing came, whether it ended. -/
structure Sr where
  evs : List Ev
  done : Int
  mark : Int
  quiet : Int
  ended : Bool
def srcB (s : Sr) : Bool :=
  inB s.evs && decide (0 ≤ s.done) && decide (s.done ≤ (s.evs.length : Int)) && decide (0 ≤ s.mark) && decide (s.mark ≤ 1099511627776) && decide (0 ≤ s.quiet) && decide (s.quiet ≤ 1048576) && (!s.ended || decide (s.done = (s.evs.length : Int)))
theorem inB_iff {l : List Ev} : inB l = true ↔ l.length ≤ 200 ∧ ∀ e ∈ l, evB e = true := by simp [inB]
theorem srcB_iff {s : Sr} : srcB s = true ↔ inB s.evs = true ∧ (0 ≤ s.done ∧ s.done ≤ s.evs.length) ∧ (0 ≤ s.mark ∧ s.mark ≤ 1099511627776) ∧ (0 ≤ s.quiet ∧ s.quiet ≤ 1048576) ∧ (s.ended = true → s.done = s.evs.length) := by
  unfold srcB
  cases s.ended <;> simp [and_assoc]
end Go.Proofs.Ytgaknbgmodmniaa
