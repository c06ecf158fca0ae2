/- Walks of package tick's functions and of its reference's: each returns what a plain function of integers gives, and leaves the world as it is. -/
import Derived.Test.YtkcehgmkjkhobaaRows
import Derived.Handy
import Derived.WalkSpells
import Derived.WalkLawsBesides
import Derived.Lib.Hide
namespace Go.Proofs.Ytkcehgmkjkhobaa
open Go.RowKit

theorem ret_int {k : IntKind} {a b : Int} (h : a = b) : Ending.returned (.int k a) = .returned (.int k b) := by rw [h]

/-- A time made of any number. -/
def clampZ (t : Int) : Int := if t < 0 then 0 else if 1099511627776 < t then 1099511627776 else t
theorem clampZ_bd (t : Int) : 0 ≤ clampZ t ∧ clampZ t ≤ 1099511627776 := by unfold clampZ; (repeat' split) <;> omega
def addZ (a b : Int) : Int := clampZ (clampZ a + clampZ b)
def subZ (a b : Int) : Int := clampZ (clampZ a - clampZ b)
def floorZ (t size : Int) : Int := if size < 1 ∨ 1099511627776 < size then 0 else clampZ t - clampZ t % size

theorem addZ_ref (a b : Int) : addZ a b = if 1099511627776 - clampZ b < clampZ a then 1099511627776 else clampZ a + clampZ b := by
  have := clampZ_bd a; have := clampZ_bd b
  unfold addZ; generalize clampZ a = x at *; generalize clampZ b = y at *
  unfold clampZ; (repeat' split) <;> omega
theorem subZ_ref (a b : Int) : subZ a b = if clampZ a < clampZ b then 0 else clampZ a - clampZ b := by
  have := clampZ_bd a; have := clampZ_bd b
  unfold subZ; generalize clampZ a = x at *; generalize clampZ b = y at *
  unfold clampZ; (repeat' split) <;> omega

set_option maxHeartbeats 400000 in
theorem at_any (t : Int) (w : World) : Calls Try.prog 22 #[.int .i64 t] w fun e w' => e = .returned (.int .i64 (clampZ t)) ∧ w = w' := by
  go_enter Try.func22, Try.ntmps22
  go_wp2
  all_goals
    go_ret
    exact ⟨ret_int (by unfold clampZ; (repeat' split) <;> omega), rfl⟩
set_option maxHeartbeats 400000 in
theorem clamp_any (t : Int) (w : World) : Calls Try.prog 10 #[.int .i64 t] w fun e w' => e = .returned (.int .i64 (clampZ t)) ∧ w = w' := by
  go_enter Try.func10, Try.ntmps10
  go_wp2_with (go_at_call 22; refine (at_any _ _).mono ?_; rintro e w' ⟨rfl, rfl⟩)
  go_ret
  exact ⟨rfl, rfl⟩
set_option maxHeartbeats 400000 in
theorem plus_any (m n : Int) (w : World) (hm : 0 ≤ m) (hm' : m ≤ 1099511627776) (hn : 0 ≤ n) (hn' : n ≤ 1099511627776) :
    Calls Try.prog 24 #[.int .i64 m, .int .i64 n] w fun e w' => e = .returned (.int .i64 (clampZ (m + n))) ∧ w = w' := by
  go_enter Try.func24, Try.ntmps24
  go_wp2_with (go_at_call 22; refine (at_any _ _).mono ?_; rintro e w' ⟨rfl, rfl⟩)
  go_ret
  exact ⟨rfl, rfl⟩
set_option maxHeartbeats 400000 in
theorem both_plus (a b : Int) (w : World) :
    Calls Try.prog 23 #[.int .i64 a, .int .i64 b, .func (.func 24) #[] #[]] w fun e w' => e = .returned (.int .i64 (addZ a b)) ∧ w = w' := by
  have h1 := clampZ_bd a
  have h2 := clampZ_bd b
  go_enter Try.func23, Try.ntmps23
  go_wp2_with (first
    | (go_at_call 22; refine (at_any _ _).mono ?_; rintro e w' ⟨rfl, rfl⟩)
    | (go_at_call 24; refine (plus_any _ _ _ h1.1 h1.2 h2.1 h2.2).mono ?_; rintro e w' ⟨rfl, rfl⟩))
  go_ret
  exact ⟨rfl, rfl⟩
set_option maxHeartbeats 400000 in
theorem add_any (a b : Int) (w : World) : Calls Try.prog 12 #[.int .i64 a, .int .i64 b] w fun e w' => e = .returned (.int .i64 (addZ a b)) ∧ w = w' := by
  go_enter Try.func12, Try.ntmps12
  go_wp2_with (go_at_call 23; refine (both_plus _ _ _).mono ?_; rintro e w' ⟨rfl, rfl⟩)
  go_ret
  exact ⟨rfl, rfl⟩
set_option maxHeartbeats 400000 in
theorem minus_any (m n : Int) (w : World) (hm : 0 ≤ m) (hm' : m ≤ 1099511627776) (hn : 0 ≤ n) (hn' : n ≤ 1099511627776) :
    Calls Try.prog 25 #[.int .i64 m, .int .i64 n] w fun e w' => e = .returned (.int .i64 (clampZ (m - n))) ∧ w = w' := by
  go_enter Try.func25, Try.ntmps25
  go_wp2_with (go_at_call 22; refine (at_any _ _).mono ?_; rintro e w' ⟨rfl, rfl⟩)
  go_ret
  exact ⟨rfl, rfl⟩
set_option maxHeartbeats 400000 in
theorem both_minus (a b : Int) (w : World) :
    Calls Try.prog 23 #[.int .i64 a, .int .i64 b, .func (.func 25) #[] #[]] w fun e w' => e = .returned (.int .i64 (subZ a b)) ∧ w = w' := by
  have h1 := clampZ_bd a
  have h2 := clampZ_bd b
  go_enter Try.func23, Try.ntmps23
  go_wp2_with (first
    | (go_at_call 22; refine (at_any _ _).mono ?_; rintro e w' ⟨rfl, rfl⟩)
    | (go_at_call 25; refine (minus_any _ _ _ h1.1 h1.2 h2.1 h2.2).mono ?_; rintro e w' ⟨rfl, rfl⟩))
  go_ret
  exact ⟨rfl, rfl⟩
set_option maxHeartbeats 400000 in
theorem sub_any (a b : Int) (w : World) : Calls Try.prog 14 #[.int .i64 a, .int .i64 b] w fun e w' => e = .returned (.int .i64 (subZ a b)) ∧ w = w' := by
  go_enter Try.func14, Try.ntmps14
  go_wp2_with (go_at_call 23; refine (both_minus _ _ _).mono ?_; rintro e w' ⟨rfl, rfl⟩)
  go_ret
  exact ⟨rfl, rfl⟩
set_option maxHeartbeats 400000 in
theorem floor_any (t size : Int) (w : World) : Calls Try.prog 16 #[.int .i64 t, .int .i64 size] w fun e w' => e = .returned (.int .i64 (floorZ t size)) ∧ w = w' := by
  have hb := clampZ_bd t
  by_cases h1 : size < 1
  · go_enter Try.func16, Try.ntmps16
    go_wp2_with fail
    go_ret
    exact ⟨ret_int (by unfold floorZ; rw [if_pos (by omega)]), rfl⟩
  · by_cases h2 : 1099511627776 < size
    · go_enter Try.func16, Try.ntmps16
      go_wp2_with fail
      go_ret
      exact ⟨ret_int (by unfold floorZ; rw [if_pos (by omega)]), rfl⟩
    · have h3 : 0 ≤ clampZ t % size := Int.emod_nonneg _ (by omega)
      have h4 : clampZ t % size ≤ clampZ t := by
        have e := Int.emod_add_mul_ediv (clampZ t) size
        have p : 0 ≤ size * (clampZ t / size) := Int.mul_nonneg (by omega) (Int.ediv_nonneg hb.1 (by omega))
        omega
      go_enter Try.func16, Try.ntmps16
      go_wp2_with (go_at_call 10; refine (clamp_any _ _).mono ?_; rintro e w' ⟨rfl, rfl⟩)
      go_ret
      exact ⟨ret_int (by unfold floorZ; rw [if_neg (by omega)]), rfl⟩
set_option maxHeartbeats 400000 in
theorem refClamp_any (t : Int) (w : World) : Calls Try.prog 11 #[.int .i64 t] w fun e w' => e = .returned (.int .i64 (clampZ t)) ∧ w = w' := by
  by_cases h1 : t < 0
  · go_enter Try.func11, Try.ntmps11
    go_wp2
    go_ret
    exact ⟨ret_int (by unfold clampZ; rw [if_pos h1]), rfl⟩
  · by_cases h2 : 1099511627776 < t
    · go_enter Try.func11, Try.ntmps11
      go_wp2
      go_ret
      exact ⟨ret_int (by unfold clampZ; rw [if_neg (by omega), if_pos h2]), rfl⟩
    · go_enter Try.func11, Try.ntmps11
      go_wp2
      go_ret
      exact ⟨ret_int (by unfold clampZ; rw [if_neg (by omega), if_neg (by omega)]), rfl⟩
set_option maxHeartbeats 400000 in
theorem refAdd_any (a b : Int) (w : World) : Calls Try.prog 13 #[.int .i64 a, .int .i64 b] w fun e w' => e = .returned (.int .i64 (addZ a b)) ∧ w = w' := by
  have h1 := clampZ_bd a
  have h2 := clampZ_bd b
  by_cases h : 1099511627776 - clampZ b < clampZ a
  · go_enter Try.func13, Try.ntmps13
    go_wp2_with (go_at_call 11; refine (refClamp_any _ _).mono ?_; rintro e w' ⟨rfl, rfl⟩)
    go_ret
    exact ⟨ret_int (by rw [addZ_ref, if_pos h]), rfl⟩
  · go_enter Try.func13, Try.ntmps13
    go_wp2_with (go_at_call 11; refine (refClamp_any _ _).mono ?_; rintro e w' ⟨rfl, rfl⟩)
    go_ret
    exact ⟨ret_int (by rw [addZ_ref, if_neg (by omega)]), rfl⟩
set_option maxHeartbeats 400000 in
theorem refSub_any (a b : Int) (w : World) : Calls Try.prog 15 #[.int .i64 a, .int .i64 b] w fun e w' => e = .returned (.int .i64 (subZ a b)) ∧ w = w' := by
  have h1 := clampZ_bd a
  have h2 := clampZ_bd b
  by_cases h : clampZ a < clampZ b
  · go_enter Try.func15, Try.ntmps15
    go_wp2_with (go_at_call 11; refine (refClamp_any _ _).mono ?_; rintro e w' ⟨rfl, rfl⟩)
    go_ret
    exact ⟨ret_int (by rw [subZ_ref, if_pos h]), rfl⟩
  · go_enter Try.func15, Try.ntmps15
    go_wp2_with (go_at_call 11; refine (refClamp_any _ _).mono ?_; rintro e w' ⟨rfl, rfl⟩)
    go_ret
    exact ⟨ret_int (by rw [subZ_ref, if_neg (by omega)]), rfl⟩
set_option maxHeartbeats 400000 in
theorem refFloor_any (t size : Int) (w : World) : Calls Try.prog 17 #[.int .i64 t, .int .i64 size] w fun e w' => e = .returned (.int .i64 (floorZ t size)) ∧ w = w' := by
  have hb := clampZ_bd t
  by_cases h1 : size < 1
  · go_enter Try.func17, Try.ntmps17
    go_wp2_with fail
    go_ret
    exact ⟨ret_int (by unfold floorZ; rw [if_pos (by omega)]), rfl⟩
  · by_cases h2 : 1099511627776 < size
    · go_enter Try.func17, Try.ntmps17
      go_wp2_with fail
      go_ret
      exact ⟨ret_int (by unfold floorZ; rw [if_pos (by omega)]), rfl⟩
    · have h3 : 0 ≤ clampZ t % size := Int.emod_nonneg _ (by omega)
      have e1 := Int.emod_add_mul_ediv (clampZ t) size
      have p : 0 ≤ clampZ t / size * size := Int.mul_nonneg (Int.ediv_nonneg hb.1 (by omega)) (by omega)
      have c := Int.mul_comm (clampZ t / size) size
      have q : clampZ t / size * size ≤ 1099511627776 := by omega
      have E : clampZ t / size * size = floorZ t size := by unfold floorZ; rw [if_neg (by omega)]; omega
      have H := Lib.hid E
      clear E c e1
      go_enter Try.func17, Try.ntmps17
      go_wp2_with (go_at_call 11; refine (refClamp_any _ _).mono ?_; rintro e w' ⟨rfl, rfl⟩)
      go_ret
      exact ⟨ret_int H.out, rfl⟩
end Go.Proofs.Ytkcehgmkjkhobaa
