/- Walks of package tick's functions and of its reference's: each returns what a plain function of integers gives, and leaves the world as it is. -/
import Derived.Test.YtinccckpohaoiaaRows
import Derived.Handy
import Derived.WalkSpells
import Derived.WalkLawsBesides
import Derived.Lib.Hide
namespace Go.Proofs.Ytinccckpohaoiaa
open Go.RowKit
set_option linter.unusedVariables false
set_option linter.unusedSimpArgs false

theorem ret_int {k : IntKind} {a b : Int} (h : a = b) : Ending.returned (.int k a) = .returned (.int k b) := by rw [h]

/-- A time made of any number. -/
def clampZ (t : Int) : Int := if t < 0 then 0 else if 1099511627776 < t then 1099511627776 else t
theorem clampZ_bd (t : Int) : 0 ≤ clampZ t ∧ clampZ t ≤ 1099511627776 := by unfold clampZ; (repeat' split) <;> omega
def addZ (a b : Int) : Int := clampZ (clampZ a + clampZ b)
def subZ (a b : Int) : Int := clampZ (clampZ a - clampZ b)
def floorZ (t size : Int) : Int := if size < 1 ∨ 1099511627776 < size then 0 else clampZ t - clampZ t % size

theorem addZ_ref (a b : Int) : addZ a b = if 1099511627776 - clampZ b < clampZ a then 1099511627776 else clampZ a + clampZ b := by
  have := clampZ_bd a; have := clampZ_bd b
  unfold addZ; generalize clampZ a = x at *; generalize clampZ b = y at *
  unfold clampZ; (repeat' split) <;> omega
theorem subZ_ref (a b : Int) : subZ a b = if clampZ a < clampZ b then 0 else clampZ a - clampZ b := by
  have := clampZ_bd a; have := clampZ_bd b
  unfold subZ; generalize clampZ a = x at *; generalize clampZ b = y at *
  unfold clampZ; (repeat' split) <;> omega

set_option maxHeartbeats 400000 in
theorem at_any (t : Int) (w : World) : Calls Try.prog 44 #[.int .i64 t] w fun e w' => e = .returned (.int .i64 (clampZ t)) ∧ w = w' := by
  go_enter Try.func44, Try.ntmps44
  go_wp2
  all_goals
    go_ret
    exact ⟨ret_int (by unfold clampZ; (repeat' split) <;> omega), rfl⟩
set_option maxHeartbeats 400000 in
theorem clamp_any (t : Int) (w : World) : Calls Try.prog 40 #[.int .i64 t] w fun e w' => e = .returned (.int .i64 (clampZ t)) ∧ w = w' := by
  go_enter Try.func40, Try.ntmps40
  go_wp2_with (go_at_call 44; refine (at_any _ _).mono ?_; rintro e w' ⟨rfl, rfl⟩)
  go_ret
  exact ⟨rfl, rfl⟩
set_option maxHeartbeats 400000 in
theorem plus_any (m n : Int) (w : World) (hm : 0 ≤ m) (hm' : m ≤ 1099511627776) (hn : 0 ≤ n) (hn' : n ≤ 1099511627776) :
    Calls Try.prog 43 #[.int .i64 m, .int .i64 n] w fun e w' => e = .returned (.int .i64 (clampZ (m + n))) ∧ w = w' := by
  go_enter Try.func43, Try.ntmps43
  go_wp2_with (go_at_call 44; refine (at_any _ _).mono ?_; rintro e w' ⟨rfl, rfl⟩)
  go_ret
  exact ⟨rfl, rfl⟩
set_option maxHeartbeats 400000 in
theorem both_plus (a b : Int) (w : World) :
    Calls Try.prog 42 #[.int .i64 a, .int .i64 b, .func (.func 43) #[] #[]] w fun e w' => e = .returned (.int .i64 (addZ a b)) ∧ w = w' := by
  have h1 := clampZ_bd a
  have h2 := clampZ_bd b
  go_enter Try.func42, Try.ntmps42
  go_wp2_with (first
    | (go_at_call 44; refine (at_any _ _).mono ?_; rintro e w' ⟨rfl, rfl⟩)
    | (go_at_call 43; refine (plus_any _ _ _ h1.1 h1.2 h2.1 h2.2).mono ?_; rintro e w' ⟨rfl, rfl⟩))
  go_ret
  exact ⟨rfl, rfl⟩
set_option maxHeartbeats 400000 in
theorem add_any (a b : Int) (w : World) : Calls Try.prog 34 #[.int .i64 a, .int .i64 b] w fun e w' => e = .returned (.int .i64 (addZ a b)) ∧ w = w' := by
  go_enter Try.func34, Try.ntmps34
  go_wp2_with (go_at_call 42; refine (both_plus _ _ _).mono ?_; rintro e w' ⟨rfl, rfl⟩)
  go_ret
  exact ⟨rfl, rfl⟩
set_option maxHeartbeats 400000 in
theorem refClamp_any (t : Int) (w : World) : Calls Try.prog 38 #[.int .i64 t] w fun e w' => e = .returned (.int .i64 (clampZ t)) ∧ w = w' := by
  by_cases h1 : t < 0
  · go_enter Try.func38, Try.ntmps38
    go_wp2
    go_ret
    exact ⟨ret_int (by unfold clampZ; rw [if_pos h1]), rfl⟩
  · by_cases h2 : 1099511627776 < t
    · go_enter Try.func38, Try.ntmps38
      go_wp2
      go_ret
      exact ⟨ret_int (by unfold clampZ; rw [if_neg (by omega), if_pos h2]), rfl⟩
    · go_enter Try.func38, Try.ntmps38
      go_wp2
      go_ret
      exact ⟨ret_int (by unfold clampZ; rw [if_neg (by omega), if_neg (by omega)]), rfl⟩
set_option maxHeartbeats 400000 in
theorem refAdd_any (a b : Int) (w : World) : Calls Try.prog 37 #[.int .i64 a, .int .i64 b] w fun e w' => e = .returned (.int .i64 (addZ a b)) ∧ w = w' := by
  have h1 := clampZ_bd a
  have h2 := clampZ_bd b
  by_cases h : 1099511627776 - clampZ b < clampZ a
  · go_enter Try.func37, Try.ntmps37
    go_wp2_with (go_at_call 38; refine (refClamp_any _ _).mono ?_; rintro e w' ⟨rfl, rfl⟩)
    go_ret
    exact ⟨ret_int (by rw [addZ_ref, if_pos h]), rfl⟩
  · go_enter Try.func37, Try.ntmps37
    go_wp2_with (go_at_call 38; refine (refClamp_any _ _).mono ?_; rintro e w' ⟨rfl, rfl⟩)
    go_ret
    exact ⟨ret_int (by rw [addZ_ref, if_neg (by omega)]), rfl⟩
end Go.Proofs.Ytinccckpohaoiaa
