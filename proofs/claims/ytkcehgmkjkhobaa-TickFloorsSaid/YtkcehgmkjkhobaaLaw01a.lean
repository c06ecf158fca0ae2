/- The walks of chapter 01's laws over integers alone. -/
import Derived.Test.YtkcehgmkjkhobaaTick
namespace Go.Proofs.Ytkcehgmkjkhobaa
open Go.RowKit

theorem clamp7 : clampZ 7 = 7 := by decide
theorem floor72 : floorZ 7 2 = 6 := by decide
theorem add_comm' (a b : Int) : addZ a b = addZ b a := by unfold addZ; rw [Int.add_comm]
theorem clampZ_id {t : Int} (h : 0 ≤ t) (h' : t ≤ 1099511627776) : clampZ t = t := by unfold clampZ; rw [if_neg (by omega), if_neg (by omega)]
theorem clamp_add (a b : Int) : clampZ (addZ a b) = addZ a b := clampZ_id (clampZ_bd _).1 (clampZ_bd _).2
theorem add_assoc' (a b c : Int) : addZ (addZ a b) c = addZ a (addZ b c) := by
  have h1 := clampZ_bd a; have h2 := clampZ_bd b; have h3 := clampZ_bd c
  rw [addZ_ref (addZ a b) c, addZ_ref a (addZ b c), clamp_add, clamp_add, addZ_ref a b, addZ_ref b c]
  generalize clampZ a = x at *; generalize clampZ b = y at *; generalize clampZ c = z at *
  by_cases p : 1099511627776 - y < x <;> by_cases q : 1099511627776 - z < y
  · rw [if_pos p, if_pos q]; split <;> split <;> omega
  · rw [if_pos p, if_neg q]; split <;> split <;> omega
  · rw [if_neg p, if_pos q]; split <;> split <;> omega
  · rw [if_neg p, if_neg q]; split <;> split <;> omega
theorem add_final (a : Int) : addZ 1099511627776 a = 1099511627776 := by
  have h1 := clampZ_bd a
  unfold addZ; generalize clampZ a = x at *
  unfold clampZ; (repeat' split) <;> omega
theorem clamp_mono {a b : Int} (h : a ≤ b) : clampZ a ≤ clampZ b := by unfold clampZ; (repeat' split) <;> omega
theorem add_mono {a b c : Int} (h : a ≤ b) : addZ a c ≤ addZ b c := by
  have := clamp_mono h; unfold addZ; exact clamp_mono (by omega)
theorem sub_mono {a b c : Int} (h : a ≤ b) : subZ a c ≤ subZ b c := by
  have := clamp_mono h; unfold subZ; exact clamp_mono (by omega)
theorem sub_anti {a b c : Int} (h : a ≤ b) : subZ c b ≤ subZ c a := by
  have := clamp_mono h; unfold subZ; exact clamp_mono (by omega)
theorem add_bd (a b : Int) : 0 ≤ addZ a b ∧ addZ a b ≤ 1099511627776 := clampZ_bd _
theorem sub_bd (a b : Int) : 0 ≤ subZ a b ∧ subZ a b ≤ 1099511627776 := clampZ_bd _

set_option maxHeartbeats 400000 in
theorem walkAdds (a b : Int) (_ : -9223372036854775808 ≤ a ∧ a ≤ 9223372036854775807) (_ : -9223372036854775808 ≤ b ∧ b ≤ 9223372036854775807) (w : World) : Calls Try.prog 3 #[.int .i64 a, .int .i64 b] w fun e w' => e = .returned (.bool true) ∧ Below w.heap.size w w' := by
  have h7 := clamp7
  go_enter Try.func3, Try.ntmps3
  go_wp2_with (first
    | (go_at_call 10; refine (clamp_any _ _).mono ?_; rintro e w' ⟨rfl, rfl⟩)
    | (go_at_call 12; refine (add_any _ _ _).mono ?_; rintro e w' ⟨rfl, rfl⟩)
    | (go_at_call 14; refine (sub_any _ _ _).mono ?_; rintro e w' ⟨rfl, rfl⟩)
    | (go_at_call 11; refine (refClamp_any _ _).mono ?_; rintro e w' ⟨rfl, rfl⟩)
    | (go_at_call 13; refine (refAdd_any _ _ _).mono ?_; rintro e w' ⟨rfl, rfl⟩)
    | (go_at_call 15; refine (refSub_any _ _ _).mono ?_; rintro e w' ⟨rfl, rfl⟩))
  go_ret
  exact ⟨rfl, Below.refl _ _⟩

set_option maxHeartbeats 400000 in
theorem walkFloors (a b : Int) (_ : -9223372036854775808 ≤ a ∧ a ≤ 9223372036854775807) (_ : -9223372036854775808 ≤ b ∧ b ≤ 9223372036854775807) (w : World) : Calls Try.prog 6 #[.int .i64 a, .int .i64 b] w fun e w' => e = .returned (.bool true) ∧ Below w.heap.size w w' := by
  have h7 := floor72
  go_enter Try.func6, Try.ntmps6
  go_wp2_with (first
    | (go_at_call 16; refine (floor_any _ _ _).mono ?_; rintro e w' ⟨rfl, rfl⟩)
    | (go_at_call 17; refine (refFloor_any _ _ _).mono ?_; rintro e w' ⟨rfl, rfl⟩))
  go_ret
  exact ⟨rfl, Below.refl _ _⟩

set_option maxHeartbeats 1000000 in
theorem walkOrder (a b c : Int) (_ : -9223372036854775808 ≤ a ∧ a ≤ 9223372036854775807) (_ : -9223372036854775808 ≤ b ∧ b ≤ 9223372036854775807) (_ : -9223372036854775808 ≤ c ∧ c ≤ 9223372036854775807) (w : World) : Calls Try.prog 4 #[.int .i64 a, .int .i64 b, .int .i64 c] w fun e w' => e = .returned (.bool true) ∧ Below w.heap.size w w' := by
  have h7 := clamp7
  have g1 : (addZ a b != addZ b a) = false := by rw [add_comm' a b]; simp
  have g2 : (addZ (addZ a b) c != addZ a (addZ b c)) = false := by rw [add_assoc']; simp
  have g3 : (addZ 1099511627776 a != 1099511627776) = false := by rw [add_final]; simp
  have b1 := add_bd a b
  have b2 := sub_bd a b
  by_cases h : a ≤ b
  · have m1 := add_mono (c := c) h
    have m2 := sub_mono (c := c) h
    have m3 := sub_anti (c := c) h
    go_enter Try.func4, Try.ntmps4
    go_wp2_with (first
      | (go_at_call 10; refine (clamp_any _ _).mono ?_; rintro e w' ⟨rfl, rfl⟩)
      | (go_at_call 12; refine (add_any _ _ _).mono ?_; rintro e w' ⟨rfl, rfl⟩)
      | (go_at_call 14; refine (sub_any _ _ _).mono ?_; rintro e w' ⟨rfl, rfl⟩))
    go_ret
    exact ⟨rfl, Below.refl _ _⟩
  · go_enter Try.func4, Try.ntmps4
    go_wp2_with (first
      | (go_at_call 10; refine (clamp_any _ _).mono ?_; rintro e w' ⟨rfl, rfl⟩)
      | (go_at_call 12; refine (add_any _ _ _).mono ?_; rintro e w' ⟨rfl, rfl⟩)
      | (go_at_call 14; refine (sub_any _ _ _).mono ?_; rintro e w' ⟨rfl, rfl⟩))
    go_ret
    exact ⟨rfl, Below.refl _ _⟩

theorem back1 (a b : Int) (h : clampZ a ≤ 1099511627776 - clampZ b) : subZ (addZ a b) b = clampZ a := by
  have h1 := clampZ_bd a; have h2 := clampZ_bd b
  unfold subZ addZ; generalize clampZ a = x at *; generalize clampZ b = y at *
  unfold clampZ; (repeat' split) <;> omega
theorem back2 (a b : Int) (h : clampZ b ≤ clampZ a) : addZ (subZ a b) b = clampZ a := by
  have h1 := clampZ_bd a; have h2 := clampZ_bd b
  unfold subZ addZ; generalize clampZ a = x at *; generalize clampZ b = y at *
  unfold clampZ; (repeat' split) <;> omega

set_option maxHeartbeats 1000000 in
theorem walkBack (a b : Int) (_ : -9223372036854775808 ≤ a ∧ a ≤ 9223372036854775807) (_ : -9223372036854775808 ≤ b ∧ b ≤ 9223372036854775807) (w : World) : Calls Try.prog 5 #[.int .i64 a, .int .i64 b] w fun e w' => e = .returned (.bool true) ∧ Below w.heap.size w w' := by
  have h7 := clamp7
  have h1 := clampZ_bd a
  have h2 := clampZ_bd b
  by_cases c1 : clampZ a ≤ 1099511627776 - clampZ b <;> by_cases c2 : clampZ a < clampZ b
  all_goals
    have g1 : clampZ a ≤ 1099511627776 - clampZ b → (subZ (addZ a b) b != clampZ a) = false := fun h => by rw [back1 a b h]; simp
    have g2 : ¬ clampZ a < clampZ b → (addZ (subZ a b) b == clampZ a) = true := fun h => by rw [back2 a b (by omega)]; simp
    go_enter Try.func5, Try.ntmps5
    go_wp2_with (first
      | (go_at_call 10; refine (clamp_any _ _).mono ?_; rintro e w' ⟨rfl, rfl⟩)
      | (go_at_call 12; refine (add_any _ _ _).mono ?_; rintro e w' ⟨rfl, rfl⟩)
      | (go_at_call 14; refine (sub_any _ _ _).mono ?_; rintro e w' ⟨rfl, rfl⟩))
    go_ret
    exact ⟨rfl, Below.refl _ _⟩

theorem steps (t size : Int) (h1 : 1 ≤ size) (h2 : size ≤ 1099511627776) :
    floorZ t size % size = 0 ∧ floorZ t size ≤ clampZ t ∧ clampZ t - floorZ t size < size ∧ floorZ (floorZ t size) size = floorZ t size ∧ 0 ≤ floorZ t size := by
  have hb := clampZ_bd t
  have e : floorZ t size = clampZ t - clampZ t % size := by unfold floorZ; rw [if_neg (by omega)]
  have m1 := Int.emod_nonneg (clampZ t) (b := size) (by omega)
  have m2 := Int.emod_lt_of_pos (clampZ t) (b := size) (by omega)
  have q := Int.emod_add_mul_ediv (clampZ t) size
  have p : 0 ≤ size * (clampZ t / size) := Int.mul_nonneg (by omega) (Int.ediv_nonneg hb.1 (by omega))
  have e2 : floorZ t size = size * (clampZ t / size) := by omega
  have m0 : floorZ t size % size = 0 := by rw [e2]; exact Int.mul_emod_right _ _
  refine ⟨m0, by omega, by omega, ?_, by omega⟩
  have c : clampZ (floorZ t size) = floorZ t size := by
    generalize floorZ t size = f at *
    unfold clampZ; (repeat' split) <;> omega
  show (if size < 1 ∨ 1099511627776 < size then 0 else clampZ (floorZ t size) - clampZ (floorZ t size) % size) = _
  rw [if_neg (by omega), c, m0]; omega

set_option maxHeartbeats 1000000 in
theorem walkSteps (t size : Int) (_ : -9223372036854775808 ≤ t ∧ t ≤ 9223372036854775807) (_ : -9223372036854775808 ≤ size ∧ size ≤ 9223372036854775807) (w : World) : Calls Try.prog 7 #[.int .i64 t, .int .i64 size] w fun e w' => e = .returned (.bool true) ∧ Below w.heap.size w w' := by
  have h7 := clamp7
  by_cases c1 : size < 1
  · have g : floorZ t size = 0 := by unfold floorZ; rw [if_pos (by omega)]
    go_enter Try.func7, Try.ntmps7
    go_wp2_with (first
      | (go_at_call 10; refine (clamp_any _ _).mono ?_; rintro e w' ⟨rfl, rfl⟩)
      | (go_at_call 16; refine (floor_any _ _ _).mono ?_; rintro e w' ⟨rfl, rfl⟩))
    go_ret
    exact ⟨rfl, Below.refl _ _⟩
  · by_cases c2 : 1099511627776 < size
    · have g : floorZ t size = 0 := by unfold floorZ; rw [if_pos (by omega)]
      go_enter Try.func7, Try.ntmps7
      go_wp2_with (first
        | (go_at_call 10; refine (clamp_any _ _).mono ?_; rintro e w' ⟨rfl, rfl⟩)
        | (go_at_call 16; refine (floor_any _ _ _).mono ?_; rintro e w' ⟨rfl, rfl⟩))
      go_ret
      exact ⟨rfl, Below.refl _ _⟩
    · obtain ⟨s1, s2, s3, s4, s5⟩ := steps t size (by omega) (by omega)
      have hb := clampZ_bd t
      go_enter Try.func7, Try.ntmps7
      go_wp2_with (first
        | (go_at_call 10; refine (clamp_any _ _).mono ?_; rintro e w' ⟨rfl, rfl⟩)
        | (go_at_call 16; refine (floor_any _ _ _).mono ?_; rintro e w' ⟨rfl, rfl⟩))
      go_ret
      exact ⟨rfl, Below.refl _ _⟩
end Go.Proofs.Ytkcehgmkjkhobaa
