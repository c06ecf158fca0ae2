/- Walks of package tick's functions and of its reference's: each returns what a plain function of integers gives, and leaves the world as it is. -/
import Derived.Test.YtgaknbgmodmniaaRows
import Derived.Handy
import Derived.WalkSpells
import Derived.WalkLawsBesides
import Derived.Lib.Hide
namespace Go.Proofs.Ytgaknbgmodmniaa
open Go.RowKit
set_option linter.unusedVariables false
set_option linter.unusedSimpArgs false

theorem ret_int {k : IntKind} {a b : Int} (h : a = b) : Ending.returned (.int k a) = .returned (.int k b) := by rw [h]

/-- A time made of any number. -/
def clampZ (t : Int) : Int := if t < 0 then 0 else if 1099511627776 < t then 1099511627776 else t
theorem clampZ_bd (t : Int) : 0 ≤ clampZ t ∧ clampZ t ≤ 1099511627776 := by unfold clampZ; (repeat' split) <;> omega
def addZ (a b : Int) : Int := clampZ (clampZ a + clampZ b)
def subZ (a b : Int) : Int := clampZ (clampZ a - clampZ b)
def floorZ (t size : Int) : Int := if size < 1 ∨ 1099511627776 < size then 0 else clampZ t - clampZ t % size

theorem addZ_ref (a b : Int) : addZ a b = if 1099511627776 - clampZ b < clampZ a then 1099511627776 else clampZ a + clampZ b := by
  have := clampZ_bd a; have := clampZ_bd b
  unfold addZ; generalize clampZ a = x at *; generalize clampZ b = y at *
  unfold clampZ; (repeat' split) <;> omega
theorem subZ_ref (a b : Int) : subZ a b = if clampZ a < clampZ b then 0 else clampZ a - clampZ b := by
  have := clampZ_bd a; have := clampZ_bd b
  unfold subZ; generalize clampZ a = x at *; generalize clampZ b = y at *
  unfold clampZ; (repeat' split) <;> omega

set_option maxHeartbeats 400000 in
theorem at_any (t : Int) (w : World) : Calls Try.prog 44 #[.int .i64 t] w fun e w' => e = .returned (.int .i64 (clampZ t)) ∧ w = w' := by
  go_enter Try.func44, Try.ntmps44
  go_wp2
  all_goals
    go_ret
    exact ⟨ret_int (by unfold clampZ; (repeat' split) <;> omega), rfl⟩
set_option maxHeartbeats 400000 in
theorem clamp_any (t : Int) (w : World) : Calls Try.prog 54 #[.int .i64 t] w fun e w' => e = .returned (.int .i64 (clampZ t)) ∧ w = w' := by
  go_enter Try.func54, Try.ntmps54
  go_wp2_with (go_at_call 44; refine (at_any _ _).mono ?_; rintro e w' ⟨rfl, rfl⟩)
  go_ret
  exact ⟨rfl, rfl⟩
set_option maxHeartbeats 400000 in
theorem plus_any (m n : Int) (w : World) (hm : 0 ≤ m) (hm' : m ≤ 1099511627776) (hn : 0 ≤ n) (hn' : n ≤ 1099511627776) :
    Calls Try.prog 55 #[.int .i64 m, .int .i64 n] w fun e w' => e = .returned (.int .i64 (clampZ (m + n))) ∧ w = w' := by
  go_enter Try.func55, Try.ntmps55
  go_wp2_with (go_at_call 44; refine (at_any _ _).mono ?_; rintro e w' ⟨rfl, rfl⟩)
  go_ret
  exact ⟨rfl, rfl⟩
set_option maxHeartbeats 400000 in
theorem both_plus (a b : Int) (w : World) :
    Calls Try.prog 35 #[.int .i64 a, .int .i64 b, .func (.func 55) #[] #[]] w fun e w' => e = .returned (.int .i64 (addZ a b)) ∧ w = w' := by
  have h1 := clampZ_bd a
  have h2 := clampZ_bd b
  go_enter Try.func35, Try.ntmps35
  go_wp2_with (first
    | (go_at_call 44; refine (at_any _ _).mono ?_; rintro e w' ⟨rfl, rfl⟩)
    | (go_at_call 55; refine (plus_any _ _ _ h1.1 h1.2 h2.1 h2.2).mono ?_; rintro e w' ⟨rfl, rfl⟩))
  go_ret
  exact ⟨rfl, rfl⟩
set_option maxHeartbeats 400000 in
theorem add_any (a b : Int) (w : World) : Calls Try.prog 47 #[.int .i64 a, .int .i64 b] w fun e w' => e = .returned (.int .i64 (addZ a b)) ∧ w = w' := by
  go_enter Try.func47, Try.ntmps47
  go_wp2_with (go_at_call 35; refine (both_plus _ _ _).mono ?_; rintro e w' ⟨rfl, rfl⟩)
  go_ret
  exact ⟨rfl, rfl⟩
set_option maxHeartbeats 400000 in
theorem minus_any (m n : Int) (w : World) (hm : 0 ≤ m) (hm' : m ≤ 1099511627776) (hn : 0 ≤ n) (hn' : n ≤ 1099511627776) :
    Calls Try.prog 36 #[.int .i64 m, .int .i64 n] w fun e w' => e = .returned (.int .i64 (clampZ (m - n))) ∧ w = w' := by
  go_enter Try.func36, Try.ntmps36
  go_wp2_with (go_at_call 44; refine (at_any _ _).mono ?_; rintro e w' ⟨rfl, rfl⟩)
  go_ret
  exact ⟨rfl, rfl⟩
set_option maxHeartbeats 400000 in
theorem both_minus (a b : Int) (w : World) :
    Calls Try.prog 35 #[.int .i64 a, .int .i64 b, .func (.func 36) #[] #[]] w fun e w' => e = .returned (.int .i64 (subZ a b)) ∧ w = w' := by
  have h1 := clampZ_bd a
  have h2 := clampZ_bd b
  go_enter Try.func35, Try.ntmps35
  go_wp2_with (first
    | (go_at_call 44; refine (at_any _ _).mono ?_; rintro e w' ⟨rfl, rfl⟩)
    | (go_at_call 36; refine (minus_any _ _ _ h1.1 h1.2 h2.1 h2.2).mono ?_; rintro e w' ⟨rfl, rfl⟩))
  go_ret
  exact ⟨rfl, rfl⟩
set_option maxHeartbeats 400000 in
theorem sub_any (a b : Int) (w : World) : Calls Try.prog 27 #[.int .i64 a, .int .i64 b] w fun e w' => e = .returned (.int .i64 (subZ a b)) ∧ w = w' := by
  go_enter Try.func27, Try.ntmps27
  go_wp2_with (go_at_call 35; refine (both_minus _ _ _).mono ?_; rintro e w' ⟨rfl, rfl⟩)
  go_ret
  exact ⟨rfl, rfl⟩
set_option maxHeartbeats 400000 in
theorem floor_any (t size : Int) (w : World) : Calls Try.prog 46 #[.int .i64 t, .int .i64 size] w fun e w' => e = .returned (.int .i64 (floorZ t size)) ∧ w = w' := by
  have hb := clampZ_bd t
  by_cases h1 : size < 1
  · go_enter Try.func46, Try.ntmps46
    go_wp2_with fail
    go_ret
    exact ⟨ret_int (by unfold floorZ; rw [if_pos (by omega)]), rfl⟩
  · by_cases h2 : 1099511627776 < size
    · go_enter Try.func46, Try.ntmps46
      go_wp2_with fail
      go_ret
      exact ⟨ret_int (by unfold floorZ; rw [if_pos (by omega)]), rfl⟩
    · have h3 : 0 ≤ clampZ t % size := Int.emod_nonneg _ (by omega)
      have h4 : clampZ t % size ≤ clampZ t := by
        have e := Int.emod_add_mul_ediv (clampZ t) size
        have p : 0 ≤ size * (clampZ t / size) := Int.mul_nonneg (by omega) (Int.ediv_nonneg hb.1 (by omega))
        omega
      go_enter Try.func46, Try.ntmps46
      go_wp2_with (go_at_call 54; refine (clamp_any _ _).mono ?_; rintro e w' ⟨rfl, rfl⟩)
      go_ret
      exact ⟨ret_int (by unfold floorZ; rw [if_neg (by omega)]), rfl⟩
end Go.Proofs.Ytgaknbgmodmniaa
