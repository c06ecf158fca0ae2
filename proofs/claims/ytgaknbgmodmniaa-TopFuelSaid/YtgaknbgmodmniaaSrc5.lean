/- Walk of a source's way: wait. -/
import Derived.Test.YtgaknbgmodmniaaSrc4
import Derived.StillTailTactics
import Derived.BigRegion
import Derived.Deep.RegionHeld3
import Derived.OneCell
namespace Go.Proofs.Ytgaknbgmodmniaa
open Go.RowKit
set_option linter.unusedVariables false
set_option linter.unusedSimpArgs false

def noIt (k : Int) : It := ⟨k, ⟨⟨#[]⟩, 0, 0⟩, 0⟩
def markIt (t : Int) : It := ⟨2, ⟨⟨#[]⟩, 0, 0⟩, t⟩
/-- What time that goes on makes of a source, and what it tells. -/
def waitZ (j : Jb) (s : Sr) : Sr × List It :=
  if j.idle = 0 ∨ s.ended = true ∨ s.quiet = 1048576 then (s, []) else (⟨s.evs, s.done, s.mark, s.quiet + 1, s.ended⟩, if s.quiet + 1 = j.idle then [noIt 3] else [])
end Go.Proofs.Ytgaknbgmodmniaa
