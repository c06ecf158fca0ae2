/- Walks of job.Right and source.Right and of their references. -/
import Derived.Test.YtmlejdcanlgpdaaSrc1
import Derived.Test.YtmlejdcanlgpdaaLoop
namespace Go.Proofs.Ytmlejdcanlgpdaa
open Go.RowKit
set_option linter.unusedVariables false
set_option linter.unusedSimpArgs false

def rightW (size slide : Int) : Bool := decide (1 ≤ slide) && decide (slide ≤ size) && decide (size ≤ 1048576) && decide (size ≤ 16 * slide)
set_option maxHeartbeats 400000 in
theorem rightW_any (size slide : Int) (w : World) (hs : -9223372036854775808 ≤ size ∧ size ≤ 9223372036854775807) (hl : -9223372036854775808 ≤ slide ∧ slide ≤ 9223372036854775807) :
    Calls Try.prog 53 #[.int .i64 size, .int .i64 slide] w fun e w' => e = .returned (.bool (rightW size slide)) ∧ w = w' := by
  by_cases h1 : 1 ≤ slide
  · by_cases h2 : slide ≤ size
    · by_cases h3 : size ≤ 1048576
      all_goals
        go_enter Try.func53, Try.ntmps53
        go_wp2
        go_ret
        exact ⟨by simp [rightW, h1, h2, h3]; try omega, rfl⟩
    · go_enter Try.func53, Try.ntmps53
      go_wp2
      go_ret
      exact ⟨by simp [rightW]; omega, rfl⟩
  · go_enter Try.func53, Try.ntmps53
    go_wp2
    go_ret
    exact ⟨by simp [rightW]; omega, rfl⟩
set_option maxHeartbeats 400000 in
theorem refRightW_any (size slide : Int) (w : World) (hs : -9223372036854775808 ≤ size ∧ size ≤ 9223372036854775807) (hl : -9223372036854775808 ≤ slide ∧ slide ≤ 9223372036854775807) :
    Calls Try.prog 67 #[.int .i64 size, .int .i64 slide] w fun e w' => e = .returned (.bool (rightW size slide)) ∧ w = w' := by
  by_cases h1 : 1 ≤ slide
  · by_cases h2 : slide ≤ size
    · by_cases h3 : size ≤ 1048576
      · go_enter Try.func67, Try.ntmps67
        go_wp2
        go_ret
        exact ⟨by simp [rightW, h1, h2, h3]; omega, rfl⟩
      · go_enter Try.func67, Try.ntmps67
        go_wp2
        go_ret
        exact ⟨by simp [rightW, h1, h2, h3]; omega, rfl⟩
    · go_enter Try.func67, Try.ntmps67
      go_wp2
      go_ret
      exact ⟨by simp [rightW]; omega, rfl⟩
  · go_enter Try.func67, Try.ntmps67
    go_wp2
    go_ret
    exact ⟨by simp [rightW]; omega, rfl⟩

def foldB (k : Int) : Bool := decide (1 ≤ k) && decide (k ≤ 5)
set_option maxHeartbeats 400000 in
theorem fold_any (k : Int) (w : World) : Calls Try.prog 54 #[.int .i64 k] w fun e w' => e = .returned (.bool (foldB k)) ∧ w = w' := by
  go_enter Try.func54, Try.ntmps54
  go_wp2
  all_goals go_ret
  all_goals
    refine ⟨ret_bool' ?_, rfl⟩
    unfold foldB
    first | (simp; done) | (simp; omega) | (apply Bool.eq_iff_iff.2; simp; omega)
set_option maxHeartbeats 400000 in
theorem refFold_any (k : Int) (w : World) : Calls Try.prog 68 #[.int .i64 k] w fun e w' => e = .returned (.bool (foldB k)) ∧ w = w' := by
  go_enter Try.func68, Try.ntmps68
  go_wp2
  all_goals go_ret
  all_goals
    refine ⟨ret_bool' ?_, rfl⟩
    unfold foldB
    first | (simp; done) | (simp; omega) | (apply Bool.eq_iff_iff.2; simp; omega)

/-- What is to be done. -/
structure Jb where
  groups : Int
  size : Int
  slide : Int
  fold : Int
  fuel : Int
  limit : Int
  delay : Int
  idle : Int
def jobB (j : Jb) : Bool :=
  decide (1 ≤ j.groups) && decide (j.groups ≤ 32) && (rightW j.size j.slide && foldB j.fold) && decide (0 ≤ j.fuel) && decide (j.fuel ≤ 40) && decide (0 ≤ j.limit) && decide (0 ≤ j.delay) && decide (j.delay ≤ 1099511627776) && decide (0 ≤ j.idle) && decide (j.idle ≤ 1048576)
theorem jobB_iff {j : Jb} : jobB j = true ↔ (1 ≤ j.groups ∧ j.groups ≤ 32) ∧ rightW j.size j.slide = true ∧ foldB j.fold = true ∧ (0 ≤ j.fuel ∧ j.fuel ≤ 40) ∧ 0 ≤ j.limit ∧ (0 ≤ j.delay ∧ j.delay ≤ 1099511627776) ∧ (0 ≤ j.idle ∧ j.idle ≤ 1048576) := by
  simp [jobB, and_assoc]
structure Jb.Wf (j : Jb) : Prop where
  size : -9223372036854775808 ≤ j.size ∧ j.size ≤ 9223372036854775807
  slide : -9223372036854775808 ≤ j.slide ∧ j.slide ≤ 9223372036854775807
  limit : -9223372036854775808 ≤ j.limit ∧ j.limit ≤ 9223372036854775807
set_option maxHeartbeats 2000000 in
theorem job_any (j : Jb) (w : World) (hj : j.Wf) : Calls Try.prog 34 #[.agg #[.int .i64 j.groups, .int .i64 j.size, .int .i64 j.slide, .int .i64 j.fold, .int .i64 j.fuel, .int .i64 j.limit, .int .i64 j.delay, .int .i64 j.idle]] w fun e w' => e = .returned (.bool (jobB j)) ∧ Below w.heap.size w w' := by
  cases hW : rightW j.size j.slide <;> cases hF : foldB j.fold
  all_goals
    go_enter Try.func34, Try.ntmps34
    go_wp2_with (first
      | (go_at_call 53; refine (rightW_any _ _ _ hj.size hj.slide).mono ?_; rw [hW]; rintro e w' ⟨rfl, rfl⟩)
      | (go_at_call 54; refine (fold_any _ _).mono ?_; rw [hF]; rintro e w' ⟨rfl, rfl⟩))
    all_goals go_ret
    all_goals
      refine ⟨ret_bool' ?_, by go_grown⟩
      unfold jobB
      rw [hW, hF]
      first | (simp; done) | (simp; omega) | (apply Bool.eq_iff_iff.2; simp; omega)
set_option maxHeartbeats 400000 in
theorem refJob9_any (j : Jb) (w : World) (hj : j.Wf) : Calls Try.prog 55 #[.agg #[.int .i64 j.groups, .int .i64 j.size, .int .i64 j.slide, .int .i64 j.fold, .int .i64 j.fuel, .int .i64 j.limit, .int .i64 j.delay, .int .i64 j.idle]] w fun e w' => e = .returned (.bool (rightW j.size j.slide && foldB j.fold)) ∧ Below w.heap.size w w' := by
  cases hW : rightW j.size j.slide <;> cases hF : foldB j.fold
  all_goals
    go_enter Try.func55, Try.ntmps55
    go_wp2_with (first
      | (go_at_call 67; refine (refRightW_any _ _ _ hj.size hj.slide).mono ?_; rw [hW]; rintro e w' ⟨rfl, rfl⟩)
      | (go_at_call 68; refine (refFold_any _ _).mono ?_; rw [hF]; rintro e w' ⟨rfl, rfl⟩))
    all_goals go_ret
    all_goals exact ⟨ret_bool' (by simp), by go_grown⟩
set_option maxHeartbeats 2000000 in
theorem refJob_any (j : Jb) (w : World) (hj : j.Wf) : Calls Try.prog 35 #[.agg #[.int .i64 j.groups, .int .i64 j.size, .int .i64 j.slide, .int .i64 j.fold, .int .i64 j.fuel, .int .i64 j.limit, .int .i64 j.delay, .int .i64 j.idle]] w fun e w' => e = .returned (.bool (jobB j)) ∧ Below w.heap.size w w' := by
  cases hB : (rightW j.size j.slide && foldB j.fold)
  all_goals
    have hB' := Lib.hid hB
    clear hB
    go_enter Try.func35, Try.ntmps35
    go_wp2_with (go_at_call 55; refine (refJob9_any j _ hj).mono ?_; rw [hB'.out]; rintro e w1 ⟨rfl, hb1⟩; have k1 : Below w.heap.size w w1 := next_below (by go_grown) hb1; obtain ⟨c1, f1⟩ := bcell hb1; have y1 := hb1.size; have z1 : w.heap.size < w1.heap.size := (by simp at y1; omega))
    all_goals go_ret
    all_goals
      refine ⟨ret_bool' ?_, by first | assumption | go_grown⟩
      unfold jobB
      rw [hB'.out]
      first | (simp; done) | (simp; omega) | (apply Bool.eq_iff_iff.2; simp; omega)
end Go.Proofs.Ytmlejdcanlgpdaa
