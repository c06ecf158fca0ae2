/- Walk of a source's way: next. -/
import Derived.Test.YtgaknbgmodmniaaSrc5
namespace Go.Proofs.Ytgaknbgmodmniaa
open Go.RowKit
set_option linter.unusedVariables false
set_option linter.unusedSimpArgs false

/-- An event as it leaves the loop. -/
def runE (j : Jb) (e : Ev) : Ev := ⟨e.key, e.at_, (runZ (maxZ j.limit) (fuelZ j.fuel).toNat e.v).1⟩
def evIt (e : Ev) : It := ⟨1, e, 0⟩
def toldE (j : Jb) (m : Int) (e : Ev) : List It := if m ≤ e.at_ then [evIt (runE j e)] else []
def toldM (j : Jb) (m : Int) (e : Ev) : List It := if m < subZ e.at_ j.delay then [markIt (subZ e.at_ j.delay)] else []
def markZ (j : Jb) (m : Int) (e : Ev) : Int := if m < subZ e.at_ j.delay then subZ e.at_ j.delay else m
/-- What a step makes of a source, what it tells, and the error's number. -/
def nextZ (j : Jb) (s : Sr) : Sr × List It × Int :=
  if s.ended = true then (s, [], 210)
  else match s.evs[s.done.toNat]? with
    | none => (⟨s.evs, s.done, s.mark, s.quiet, true⟩, [markIt 1099511627776], 0)
    | some e => (⟨s.evs, s.done + 1, markZ j s.mark e, 0, false⟩, toldE j s.mark e ++ toldM j s.mark e, 0)

theorem Turn.drewN {wb base : Nat} {v v' : Value} {w w' : World} (h : Turn wb base v v' w w') (n : Nat) : Turn wb base v v' w (w'.drewN n) := ⟨h.own, h.size, h.keep, fun B a hBa b1 b2 b3 => below_drewN (h.lift B a hBa b1 b2 b3) n⟩
theorem own_drewN {w : World} {base : Nat} {e : TypeId} {size : Nat} {v : Value} {n : Nat} {xs : List Value} (h : w.ownsRow base e size v n xs) (k : Nat) : (w.drewN k).ownsRow base e size v n xs := h
end Go.Proofs.Ytgaknbgmodmniaa
