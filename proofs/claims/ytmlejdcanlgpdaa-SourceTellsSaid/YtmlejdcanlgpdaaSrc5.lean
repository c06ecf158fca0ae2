/- Walk of a source's way: wait. -/
import Derived.Test.YtmlejdcanlgpdaaSrc4
import Derived.StillTailTactics
import Derived.BigRegion
import Derived.Deep.RegionHeld3
import Derived.OneCell
namespace Go.Proofs.Ytmlejdcanlgpdaa
open Go.RowKit
set_option linter.unusedVariables false
set_option linter.unusedSimpArgs false

def noIt (k : Int) : It := ⟨k, ⟨⟨#[]⟩, 0, 0⟩, 0⟩
def markIt (t : Int) : It := ⟨2, ⟨⟨#[]⟩, 0, 0⟩, t⟩
/-- What time that goes on makes of a source, and what it tells. -/
def waitZ (j : Jb) (s : Sr) : Sr × List It :=
  if j.idle = 0 ∨ s.ended = true ∨ s.quiet = 1048576 then (s, []) else (⟨s.evs, s.done, s.mark, s.quiet + 1, s.ended⟩, if s.quiet + 1 = j.idle then [noIt 3] else [])
/-- What a step of a way leaves. -/
def WayPost (wb base : Nat) (j : Jb) (E : Value) (v : Value) (r : Sr × List It) (err : Int) (w : World) (e : Ending) (w' : World) : Prop :=
  e = .returned (.int .i64 err) ∧ WPost wb base j E r.1.done r.1.mark r.1.quiet r.1.ended v r.2 w w'

theorem wpost_nil {wb base : Nat} {j : Jb} {E : Value} {done mark quiet : Int} {ended : Bool} {w w' : World} (hQ : Blk w' wb 76 (wayC j E done mark quiet ended (.slice none 0 0))) (hT : Turn wb base (.slice none 0 0) (.slice none 0 0) w w') : WPost wb base j E done mark quiet ended (.slice none 0 0) [] w w' :=
  ⟨_, hQ, World.ownsRow_nil _ _ _ _, hT⟩
theorem WPost.then_ {wb base : Nat} {j : Jb} {E : Value} {done mark quiet : Int} {ended : Bool} {v v' : Value} {ys : List It} {w w1 w2 : World} (hT : Turn wb base v v' w w1) (h : WPost wb base j E done mark quiet ended v' ys w1 w2) : WPost wb base j E done mark quiet ended v ys w w2 := by
  obtain ⟨v2, h1, h2, h3⟩ := h
  exact ⟨v2, h1, h2, hT.then_ h3⟩

set_option maxHeartbeats 2000000 in
theorem wait_any (wb base : Nat) (j : Jb) (E : Value) (s : Sr) (w : World) (hQ : Blk w wb 76 (wayC j E s.done s.mark s.quiet s.ended (.slice none 0 0))) (hb : base ≤ w.heap.size) (hqb : wb < base) (hq : 0 ≤ s.quiet ∧ s.quiet ≤ 1048576) :
    Calls Try.prog 31 #[.pointer (some ⟨wb, 0, none⟩)] w (WayPost wb base j E (.slice none 0 0) (waitZ j s) 0 w) := by
  have lq := hQ.lt
  have fQ := hQ.frozen
  have q7 : w.cell? ⟨wb, 7, none⟩ = some (.int .i64 j.idle) := hQ.cell 7
  have q11 : w.cell? ⟨wb, 11, none⟩ = some (.int .i64 s.quiet) := hQ.cell 11
  have q12 : w.cell? ⟨wb, 12, none⟩ = some (.bool s.ended) := hQ.cell 12
  cases h1 : (j.idle == 0)
  rotate_left
  · have hz : waitZ j s = (s, []) := if_pos (.inl (by simpa using h1))
    rw [hz]
    go_enter Try.func31, Try.ntmps31
    go_wp2
    go_ret
    exact ⟨rfl, wpost_nil hQ (Turn.refl _ _ _ _)⟩
  cases h2 : s.ended
  rotate_left
  · have hz : waitZ j s = (s, []) := if_pos (.inr (.inl h2))
    rw [hz]
    rw [h2] at q12
    go_enter Try.func31, Try.ntmps31
    go_wp2
    go_ret
    exact ⟨rfl, wpost_nil hQ (Turn.refl _ _ _ _)⟩
  rw [h2] at q12
  cases h3 : (s.quiet == 1048576)
  rotate_left
  · have hz : waitZ j s = (s, []) := if_pos (.inr (.inr (by simpa using h3)))
    rw [hz]
    go_enter Try.func31, Try.ntmps31
    go_wp2
    go_ret
    exact ⟨rfl, wpost_nil hQ (Turn.refl _ _ _ _)⟩
  have hw1 : IntKind.i64.wrap (s.quiet + 1) = s.quiet + 1 := IntWalk.i64_in _ (by omega)
  have bQ1 : Blk (w.setCell ⟨wb, 11, none⟩ (.int .i64 (s.quiet + 1))) wb 76 (wayC j E s.done s.mark (s.quiet + 1) s.ended (.slice none 0 0)) := by simpa [wayC] using hQ.set_ 11 (.int .i64 (s.quiet + 1))
  have hz : waitZ j s = (⟨s.evs, s.done, s.mark, s.quiet + 1, s.ended⟩, if s.quiet + 1 = j.idle then [noIt 3] else []) := if_neg (by simp at h1 h3; simp [h1, h2, h3])
  cases h4 : (s.quiet + 1 == j.idle)
  · rw [hz, if_neg (by simpa using h4)]
    clear hz
    go_enter Try.func31, Try.ntmps31
    go_wp2_with fail
    have T1 : Turn wb base (.slice none 0 0) (.slice none 0 0) w (w.setCell ⟨wb, 11, none⟩ (.int .i64 (s.quiet + 1))) := Turn.set w 11 _
    have s1 : (w.setCell ⟨wb, 11, none⟩ (.int .i64 (s.quiet + 1))).heap.size = w.heap.size := by simp
    generalize w.setCell ⟨wb, 11, none⟩ (.int .i64 (s.quiet + 1)) = W at *
    have r7 : W.cell? ⟨wb, 7, none⟩ = some (.int .i64 j.idle) := bQ1.cell 7
    have r11 : W.cell? ⟨wb, 11, none⟩ = some (.int .i64 (s.quiet + 1)) := bQ1.cell 11
    go_region
    go_wp2
    go_ret
    exact ⟨rfl, wpost_nil bQ1 T1.drew⟩
  · rw [hz, if_pos (by simpa using h4)]
    clear hz
    go_enter Try.func31, Try.ntmps31
    go_wp2_with fail
    have T1 : Turn wb base (.slice none 0 0) (.slice none 0 0) w (w.setCell ⟨wb, 11, none⟩ (.int .i64 (s.quiet + 1))) := Turn.set w 11 _
    have s1 : (w.setCell ⟨wb, 11, none⟩ (.int .i64 (s.quiet + 1))).heap.size = w.heap.size := by simp
    generalize w.setCell ⟨wb, 11, none⟩ (.int .i64 (s.quiet + 1)) = W at *
    have r7 : W.cell? ⟨wb, 7, none⟩ = some (.int .i64 j.idle) := bQ1.cell 7
    have r11 : W.cell? ⟨wb, 11, none⟩ = some (.int .i64 (s.quiet + 1)) := bQ1.cell 11
    go_region
    go_wp2_with fail
    refine (tell_any wb base 0 j E s.done s.mark (s.quiet + 1) s.ended (.slice none 0 0) [] (noIt 3) _ bQ1.drew (World.ownsRow_nil _ _ _ _) (by omega) rfl (by show base ≤ W.heap.size; omega) hqb).mono ?_
    rintro e w2 ⟨rfl, hP⟩
    go_wp2
    go_ret
    exact ⟨rfl, WPost.then_ T1.drew hP⟩

end Go.Proofs.Ytmlejdcanlgpdaa
