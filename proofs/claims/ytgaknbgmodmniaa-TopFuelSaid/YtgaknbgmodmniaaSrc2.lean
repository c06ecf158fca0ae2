/- Walks of job.Right and source.Right and of their references. -/
import Derived.Test.YtgaknbgmodmniaaSrc1
import Derived.Test.YtgaknbgmodmniaaLoop
namespace Go.Proofs.Ytgaknbgmodmniaa
open Go.RowKit
set_option linter.unusedVariables false
set_option linter.unusedSimpArgs false

def rightW (size slide : Int) : Bool := decide (1 ≤ slide) && decide (slide ≤ size) && decide (size ≤ 1048576) && decide (size ≤ 16 * slide)
set_option maxHeartbeats 400000 in
theorem rightW_any (size slide : Int) (w : World) (hs : -9223372036854775808 ≤ size ∧ size ≤ 9223372036854775807) (hl : -9223372036854775808 ≤ slide ∧ slide ≤ 9223372036854775807) :
    Calls Try.prog 20 #[.int .i64 size, .int .i64 slide] w fun e w' => e = .returned (.bool (rightW size slide)) ∧ w = w' := by
  by_cases h1 : 1 ≤ slide
  · by_cases h2 : slide ≤ size
    · by_cases h3 : size ≤ 1048576
      all_goals
        go_enter Try.func20, Try.ntmps20
        go_wp2
        go_ret
        exact ⟨by simp [rightW, h1, h2, h3]; try omega, rfl⟩
    · go_enter Try.func20, Try.ntmps20
      go_wp2
      go_ret
      exact ⟨by simp [rightW]; omega, rfl⟩
  · go_enter Try.func20, Try.ntmps20
    go_wp2
    go_ret
    exact ⟨by simp [rightW]; omega, rfl⟩
def foldB (k : Int) : Bool := decide (1 ≤ k) && decide (k ≤ 5)
set_option maxHeartbeats 400000 in
theorem fold_any (k : Int) (w : World) : Calls Try.prog 21 #[.int .i64 k] w fun e w' => e = .returned (.bool (foldB k)) ∧ w = w' := by
  go_enter Try.func21, Try.ntmps21
  go_wp2
  all_goals go_ret
  all_goals
    refine ⟨ret_bool' ?_, rfl⟩
    unfold foldB
    first | (simp; done) | (simp; omega) | (apply Bool.eq_iff_iff.2; simp; omega)
/-- What is to be done. -/
structure Jb where
  groups : Int
  size : Int
  slide : Int
  fold : Int
  fuel : Int
  limit : Int
  delay : Int
  idle : Int
def jobB (j : Jb) : Bool :=
  decide (1 ≤ j.groups) && decide (j.groups ≤ 32) && (rightW j.size j.slide && foldB j.fold) && decide (0 ≤ j.fuel) && decide (j.fuel ≤ 40) && decide (0 ≤ j.limit) && decide (0 ≤ j.delay) && decide (j.delay ≤ 1099511627776) && decide (0 ≤ j.idle) && decide (j.idle ≤ 1048576)
theorem jobB_iff {j : Jb} : jobB j = true ↔ (1 ≤ j.groups ∧ j.groups ≤ 32) ∧ rightW j.size j.slide = true ∧ foldB j.fold = true ∧ (0 ≤ j.fuel ∧ j.fuel ≤ 40) ∧ 0 ≤ j.limit ∧ (0 ≤ j.delay ∧ j.delay ≤ 1099511627776) ∧ (0 ≤ j.idle ∧ j.idle ≤ 1048576) := by
  simp [jobB, and_assoc]
structure Jb.Wf (j : Jb) : Prop where
  size : -9223372036854775808 ≤ j.size ∧ j.size ≤ 9223372036854775807
  slide : -9223372036854775808 ≤ j.slide ∧ j.slide ≤ 9223372036854775807
  limit : -9223372036854775808 ≤ j.limit ∧ j.limit ≤ 9223372036854775807
set_option maxHeartbeats 2000000 in
theorem job_any (j : Jb) (w : World) (hj : j.Wf) : Calls Try.prog 13 #[.agg #[.int .i64 j.groups, .int .i64 j.size, .int .i64 j.slide, .int .i64 j.fold, .int .i64 j.fuel, .int .i64 j.limit, .int .i64 j.delay, .int .i64 j.idle]] w fun e w' => e = .returned (.bool (jobB j)) ∧ Below w.heap.size w w' := by
  cases hW : rightW j.size j.slide <;> cases hF : foldB j.fold
  all_goals
    go_enter Try.func13, Try.ntmps13
    go_wp2_with (first
      | (go_at_call 20; refine (rightW_any _ _ _ hj.size hj.slide).mono ?_; rw [hW]; rintro e w' ⟨rfl, rfl⟩)
      | (go_at_call 21; refine (fold_any _ _).mono ?_; rw [hF]; rintro e w' ⟨rfl, rfl⟩))
    all_goals go_ret
    all_goals
      refine ⟨ret_bool' ?_, by go_grown⟩
      unfold jobB
      rw [hW, hF]
      first | (simp; done) | (simp; omega) | (apply Bool.eq_iff_iff.2; simp; omega)
end Go.Proofs.Ytgaknbgmodmniaa
