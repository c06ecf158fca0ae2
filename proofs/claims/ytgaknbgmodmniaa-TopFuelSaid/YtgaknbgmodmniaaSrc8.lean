/- Walks of source.Next and source.Tick, and of the law's alive. -/
import Derived.Test.YtgaknbgmodmniaaSrc7
namespace Go.Proofs.Ytgaknbgmodmniaa
open Go.RowKit
set_option linter.unusedVariables false
set_option linter.unusedSimpArgs false

def job0 : Jb := ⟨1, 1, 1, 2, 0, 0, 0, 0⟩
theorem next0 : nextR job0 zeroS = (⟨[], 0, 0, 0, true⟩, [markIt 1099511627776], 0) := rfl
end Go.Proofs.Ytgaknbgmodmniaa
