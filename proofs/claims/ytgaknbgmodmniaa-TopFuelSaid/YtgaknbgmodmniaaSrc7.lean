/- Walks of source.step, Next and Tick. -/
import Derived.Test.YtgaknbgmodmniaaSrc6
namespace Go.Proofs.Ytgaknbgmodmniaa
open Go.RowKit
set_option linter.unusedVariables false
set_option linter.unusedSimpArgs false

def zeroS : Sr := ⟨[], 0, 0, 0, false⟩
/-- What source.Next and source.Tick make of a source, what they tell, and the error's number. -/
def nextR (j : Jb) (s : Sr) : Sr × List It × Int :=
  if jobB j = false then (zeroS, [], 130) else if srcB s = false then (zeroS, [], 1) else if s.ended = true then (zeroS, [], 210) else nextZ j s
def tickR (j : Jb) (s : Sr) : Sr × List It × Int :=
  if jobB j = false then (zeroS, [], 130) else if srcB s = false then (zeroS, [], 1) else ((waitZ j s).1, (waitZ j s).2, 0)
theorem nextZ_ok {j : Jb} {s : Sr} (h : s.ended = false) : (nextZ j s).2.2 = 0 := by
  unfold nextZ
  rw [if_neg (by simp [h])]
  split <;> rfl
/-- What a source's values must be for the walks. -/
structure Sr.Wf (s : Sr) : Prop where
  key : ∀ z ∈ s.evs, z.key.size ≤ maxLen
  v : ∀ z ∈ s.evs, -9223372036854775808 ≤ z.v ∧ z.v ≤ 9223372036854775807
theorem srcB_len {s : Sr} (h : srcB s = true) : s.evs.length ≤ 200 := (inB_iff.1 (srcB_iff.1 h).1).1

end Go.Proofs.Ytgaknbgmodmniaa
