/- The walk of chapter 12's law LoopSplits. -/
import Derived.Test.YtplfimaopegpmaaLaw12a
namespace Go.Proofs.Ytplfimaopegpmaa
open Go.RowKit
set_option linter.unusedVariables false

theorem split_facts (lim a b s v : Int) (hs : a + b = s) (ha : 0 ≤ a ∧ a ≤ 20) (hb : 0 ≤ b ∧ b ≤ 20) (hv : -9223372036854775808 ≤ v ∧ v ≤ 9223372036854775807) : ∃ (x : Int) (n : Nat) (y : Int) (m : Nat), runZ lim (fuelZ a).toNat v = (x, n) ∧ runZ lim (fuelZ b).toNat x = (y, m) ∧ runZ lim (fuelZ s).toNat v = (y, n + m) ∧
    (-9223372036854775808 ≤ x ∧ x ≤ 9223372036854775807) ∧ n ≤ 20 ∧ m ≤ 20 := by
  subst hs
  rw [fuelZ_id ha.1 (by omega), fuelZ_id hb.1 (by omega), fuelZ_id (by omega) (by omega)]
  refine ⟨_, _, _, _, rfl, rfl, ?_, run_bd _ _ _ hv, ?_, ?_⟩
  · rw [show (a + b).toNat = a.toNat + b.toNat from by omega, run_split]
  · have := run_count lim a.toNat v; omega
  · have := run_count lim b.toNat (runZ lim a.toNat v).1; omega

set_option maxHeartbeats 1000000 in
theorem walkSplits1 (key : ByteArray) (at_ v limit a b : Int) (w : World) (a1 : a < 0) (b1 : b < 0) (hv : -9223372036854775808 ≤ v ∧ v ≤ 9223372036854775807) (hl : -9223372036854775808 ≤ limit ∧ limit ≤ 9223372036854775807) :
    Calls Try.prog 5 #[.agg #[.string key, .int .i64 at_, .int .i64 v], .int .i64 limit, .int .i64 a, .int .i64 b] w fun e w' => e = .returned (.bool true) ∧ Below w.heap.size w w' := by
  have h6 := half6
  obtain ⟨x, n, y, m, e1, e2, e3, hx, hn, hm⟩ := split_facts (maxZ limit) 0 0 0 v (by omega) (by omega) (by omega) hv
  have E1 := Lib.hid e1
  have E2 := Lib.hid e2
  have E3 := Lib.hid e3
  clear e1 e2 e3
  go_enter Try.func5, Try.ntmps5
  go_wp2_with fail
  refine (run_any _ _ _ _ _ _ hv hl.2).mono ?_
  rw [E1.out]
  rintro e w1 ⟨rfl, hb1⟩
  obtain ⟨c1, f1⟩ := bcell hb1
  have z1 : w.heap.size < w1.heap.size := by (have := hb1.size; simp at this; omega)
  have k1 : Below w.heap.size w w1 := next_below (by go_grown) hb1
  go_wp2_with fail
  refine (run_any _ _ _ _ _ _ hx hl.2).mono ?_
  rw [E2.out]
  rintro e w2 ⟨rfl, hb2⟩
  obtain ⟨c2, f2⟩ := bcell hb2
  have z2 : w1.heap.size < w2.heap.size := by (have := hb2.size; simp at this; omega)
  have z02 : w.heap.size < w2.heap.size := by omega
  have z01 : w.heap.size < w1.heap.size + 1 := by omega
  have k2 : Below w.heap.size w w2 := next_below (by go_grown) hb2
  go_wp2_with fail
  refine (run_any _ _ _ _ _ _ hv hl.2).mono ?_
  rw [E3.out]
  rintro e w3 ⟨rfl, hb3⟩
  obtain ⟨c3, f3⟩ := bcell hb3
  have z3 : w2.heap.size < w3.heap.size := by (have := hb3.size; simp at this; omega)
  have z13 : w1.heap.size < w3.heap.size := by omega
  have z03 : w.heap.size < w3.heap.size := by omega
  have z12 : w1.heap.size < w2.heap.size + 1 := by omega
  have z02' : w.heap.size < w2.heap.size + 1 := by omega
  have k3 : Below w.heap.size w w3 := next_below (by go_grown) hb3
  go_wp2_with (go_at_call 11; refine (half_any _ _ (by omega)).mono ?_; rintro e w4 ⟨rfl, rfl⟩)
  go_ret
  exact ⟨rfl, by go_grown⟩
set_option maxHeartbeats 1000000 in
theorem walkSplits2 (key : ByteArray) (at_ v limit a b : Int) (w : World) (a1 : a < 0) (b1 : ¬ b < 0) (b2 : 20 < b) (hv : -9223372036854775808 ≤ v ∧ v ≤ 9223372036854775807) (hl : -9223372036854775808 ≤ limit ∧ limit ≤ 9223372036854775807) :
    Calls Try.prog 5 #[.agg #[.string key, .int .i64 at_, .int .i64 v], .int .i64 limit, .int .i64 a, .int .i64 b] w fun e w' => e = .returned (.bool true) ∧ Below w.heap.size w w' := by
  have h6 := half6
  obtain ⟨x, n, y, m, e1, e2, e3, hx, hn, hm⟩ := split_facts (maxZ limit) 0 20 20 v (by omega) (by omega) (by omega) hv
  have E1 := Lib.hid e1
  have E2 := Lib.hid e2
  have E3 := Lib.hid e3
  clear e1 e2 e3
  go_enter Try.func5, Try.ntmps5
  go_wp2_with fail
  refine (run_any _ _ _ _ _ _ hv hl.2).mono ?_
  rw [E1.out]
  rintro e w1 ⟨rfl, hb1⟩
  obtain ⟨c1, f1⟩ := bcell hb1
  have z1 : w.heap.size < w1.heap.size := by (have := hb1.size; simp at this; omega)
  have k1 : Below w.heap.size w w1 := next_below (by go_grown) hb1
  go_wp2_with fail
  refine (run_any _ _ _ _ _ _ hx hl.2).mono ?_
  rw [E2.out]
  rintro e w2 ⟨rfl, hb2⟩
  obtain ⟨c2, f2⟩ := bcell hb2
  have z2 : w1.heap.size < w2.heap.size := by (have := hb2.size; simp at this; omega)
  have z02 : w.heap.size < w2.heap.size := by omega
  have z01 : w.heap.size < w1.heap.size + 1 := by omega
  have k2 : Below w.heap.size w w2 := next_below (by go_grown) hb2
  go_wp2_with fail
  refine (run_any _ _ _ _ _ _ hv hl.2).mono ?_
  rw [E3.out]
  rintro e w3 ⟨rfl, hb3⟩
  obtain ⟨c3, f3⟩ := bcell hb3
  have z3 : w2.heap.size < w3.heap.size := by (have := hb3.size; simp at this; omega)
  have z13 : w1.heap.size < w3.heap.size := by omega
  have z03 : w.heap.size < w3.heap.size := by omega
  have z12 : w1.heap.size < w2.heap.size + 1 := by omega
  have z02' : w.heap.size < w2.heap.size + 1 := by omega
  have k3 : Below w.heap.size w w3 := next_below (by go_grown) hb3
  go_wp2_with (go_at_call 11; refine (half_any _ _ (by omega)).mono ?_; rintro e w4 ⟨rfl, rfl⟩)
  go_ret
  exact ⟨rfl, by go_grown⟩
set_option maxHeartbeats 1000000 in
theorem walkSplits3 (key : ByteArray) (at_ v limit a b : Int) (w : World) (a1 : a < 0) (b1 : ¬ b < 0) (b2 : ¬ 20 < b) (hv : -9223372036854775808 ≤ v ∧ v ≤ 9223372036854775807) (hl : -9223372036854775808 ≤ limit ∧ limit ≤ 9223372036854775807) :
    Calls Try.prog 5 #[.agg #[.string key, .int .i64 at_, .int .i64 v], .int .i64 limit, .int .i64 a, .int .i64 b] w fun e w' => e = .returned (.bool true) ∧ Below w.heap.size w w' := by
  have h6 := half6
  obtain ⟨x, n, y, m, e1, e2, e3, hx, hn, hm⟩ := split_facts (maxZ limit) 0 b b v (by omega) (by omega) (by omega) hv
  have E1 := Lib.hid e1
  have E2 := Lib.hid e2
  have E3 := Lib.hid e3
  clear e1 e2 e3
  go_enter Try.func5, Try.ntmps5
  go_wp2_with fail
  refine (run_any _ _ _ _ _ _ hv hl.2).mono ?_
  rw [E1.out]
  rintro e w1 ⟨rfl, hb1⟩
  obtain ⟨c1, f1⟩ := bcell hb1
  have z1 : w.heap.size < w1.heap.size := by (have := hb1.size; simp at this; omega)
  have k1 : Below w.heap.size w w1 := next_below (by go_grown) hb1
  go_wp2_with fail
  refine (run_any _ _ _ _ _ _ hx hl.2).mono ?_
  rw [E2.out]
  rintro e w2 ⟨rfl, hb2⟩
  obtain ⟨c2, f2⟩ := bcell hb2
  have z2 : w1.heap.size < w2.heap.size := by (have := hb2.size; simp at this; omega)
  have z02 : w.heap.size < w2.heap.size := by omega
  have z01 : w.heap.size < w1.heap.size + 1 := by omega
  have k2 : Below w.heap.size w w2 := next_below (by go_grown) hb2
  go_wp2_with fail
  refine (run_any _ _ _ _ _ _ hv hl.2).mono ?_
  rw [E3.out]
  rintro e w3 ⟨rfl, hb3⟩
  obtain ⟨c3, f3⟩ := bcell hb3
  have z3 : w2.heap.size < w3.heap.size := by (have := hb3.size; simp at this; omega)
  have z13 : w1.heap.size < w3.heap.size := by omega
  have z03 : w.heap.size < w3.heap.size := by omega
  have z12 : w1.heap.size < w2.heap.size + 1 := by omega
  have z02' : w.heap.size < w2.heap.size + 1 := by omega
  have k3 : Below w.heap.size w w3 := next_below (by go_grown) hb3
  go_wp2_with (go_at_call 11; refine (half_any _ _ (by omega)).mono ?_; rintro e w4 ⟨rfl, rfl⟩)
  go_ret
  exact ⟨rfl, by go_grown⟩
set_option maxHeartbeats 1000000 in
theorem walkSplits4 (key : ByteArray) (at_ v limit a b : Int) (w : World) (a1 : ¬ a < 0) (a2 : 20 < a) (b1 : b < 0) (hv : -9223372036854775808 ≤ v ∧ v ≤ 9223372036854775807) (hl : -9223372036854775808 ≤ limit ∧ limit ≤ 9223372036854775807) :
    Calls Try.prog 5 #[.agg #[.string key, .int .i64 at_, .int .i64 v], .int .i64 limit, .int .i64 a, .int .i64 b] w fun e w' => e = .returned (.bool true) ∧ Below w.heap.size w w' := by
  have h6 := half6
  obtain ⟨x, n, y, m, e1, e2, e3, hx, hn, hm⟩ := split_facts (maxZ limit) 20 0 20 v (by omega) (by omega) (by omega) hv
  have E1 := Lib.hid e1
  have E2 := Lib.hid e2
  have E3 := Lib.hid e3
  clear e1 e2 e3
  go_enter Try.func5, Try.ntmps5
  go_wp2_with fail
  refine (run_any _ _ _ _ _ _ hv hl.2).mono ?_
  rw [E1.out]
  rintro e w1 ⟨rfl, hb1⟩
  obtain ⟨c1, f1⟩ := bcell hb1
  have z1 : w.heap.size < w1.heap.size := by (have := hb1.size; simp at this; omega)
  have k1 : Below w.heap.size w w1 := next_below (by go_grown) hb1
  go_wp2_with fail
  refine (run_any _ _ _ _ _ _ hx hl.2).mono ?_
  rw [E2.out]
  rintro e w2 ⟨rfl, hb2⟩
  obtain ⟨c2, f2⟩ := bcell hb2
  have z2 : w1.heap.size < w2.heap.size := by (have := hb2.size; simp at this; omega)
  have z02 : w.heap.size < w2.heap.size := by omega
  have z01 : w.heap.size < w1.heap.size + 1 := by omega
  have k2 : Below w.heap.size w w2 := next_below (by go_grown) hb2
  go_wp2_with fail
  refine (run_any _ _ _ _ _ _ hv hl.2).mono ?_
  rw [E3.out]
  rintro e w3 ⟨rfl, hb3⟩
  obtain ⟨c3, f3⟩ := bcell hb3
  have z3 : w2.heap.size < w3.heap.size := by (have := hb3.size; simp at this; omega)
  have z13 : w1.heap.size < w3.heap.size := by omega
  have z03 : w.heap.size < w3.heap.size := by omega
  have z12 : w1.heap.size < w2.heap.size + 1 := by omega
  have z02' : w.heap.size < w2.heap.size + 1 := by omega
  have k3 : Below w.heap.size w w3 := next_below (by go_grown) hb3
  go_wp2_with (go_at_call 11; refine (half_any _ _ (by omega)).mono ?_; rintro e w4 ⟨rfl, rfl⟩)
  go_ret
  exact ⟨rfl, by go_grown⟩
set_option maxHeartbeats 1000000 in
theorem walkSplits5 (key : ByteArray) (at_ v limit a b : Int) (w : World) (a1 : ¬ a < 0) (a2 : 20 < a) (b1 : ¬ b < 0) (b2 : 20 < b) (hv : -9223372036854775808 ≤ v ∧ v ≤ 9223372036854775807) (hl : -9223372036854775808 ≤ limit ∧ limit ≤ 9223372036854775807) :
    Calls Try.prog 5 #[.agg #[.string key, .int .i64 at_, .int .i64 v], .int .i64 limit, .int .i64 a, .int .i64 b] w fun e w' => e = .returned (.bool true) ∧ Below w.heap.size w w' := by
  have h6 := half6
  obtain ⟨x, n, y, m, e1, e2, e3, hx, hn, hm⟩ := split_facts (maxZ limit) 20 20 40 v (by omega) (by omega) (by omega) hv
  have E1 := Lib.hid e1
  have E2 := Lib.hid e2
  have E3 := Lib.hid e3
  clear e1 e2 e3
  go_enter Try.func5, Try.ntmps5
  go_wp2_with fail
  refine (run_any _ _ _ _ _ _ hv hl.2).mono ?_
  rw [E1.out]
  rintro e w1 ⟨rfl, hb1⟩
  obtain ⟨c1, f1⟩ := bcell hb1
  have z1 : w.heap.size < w1.heap.size := by (have := hb1.size; simp at this; omega)
  have k1 : Below w.heap.size w w1 := next_below (by go_grown) hb1
  go_wp2_with fail
  refine (run_any _ _ _ _ _ _ hx hl.2).mono ?_
  rw [E2.out]
  rintro e w2 ⟨rfl, hb2⟩
  obtain ⟨c2, f2⟩ := bcell hb2
  have z2 : w1.heap.size < w2.heap.size := by (have := hb2.size; simp at this; omega)
  have z02 : w.heap.size < w2.heap.size := by omega
  have z01 : w.heap.size < w1.heap.size + 1 := by omega
  have k2 : Below w.heap.size w w2 := next_below (by go_grown) hb2
  go_wp2_with fail
  refine (run_any _ _ _ _ _ _ hv hl.2).mono ?_
  rw [E3.out]
  rintro e w3 ⟨rfl, hb3⟩
  obtain ⟨c3, f3⟩ := bcell hb3
  have z3 : w2.heap.size < w3.heap.size := by (have := hb3.size; simp at this; omega)
  have z13 : w1.heap.size < w3.heap.size := by omega
  have z03 : w.heap.size < w3.heap.size := by omega
  have z12 : w1.heap.size < w2.heap.size + 1 := by omega
  have z02' : w.heap.size < w2.heap.size + 1 := by omega
  have k3 : Below w.heap.size w w3 := next_below (by go_grown) hb3
  go_wp2_with (go_at_call 11; refine (half_any _ _ (by omega)).mono ?_; rintro e w4 ⟨rfl, rfl⟩)
  go_ret
  exact ⟨rfl, by go_grown⟩
set_option maxHeartbeats 1000000 in
theorem walkSplits6 (key : ByteArray) (at_ v limit a b : Int) (w : World) (a1 : ¬ a < 0) (a2 : 20 < a) (b1 : ¬ b < 0) (b2 : ¬ 20 < b) (hv : -9223372036854775808 ≤ v ∧ v ≤ 9223372036854775807) (hl : -9223372036854775808 ≤ limit ∧ limit ≤ 9223372036854775807) :
    Calls Try.prog 5 #[.agg #[.string key, .int .i64 at_, .int .i64 v], .int .i64 limit, .int .i64 a, .int .i64 b] w fun e w' => e = .returned (.bool true) ∧ Below w.heap.size w w' := by
  have h6 := half6
  obtain ⟨x, n, y, m, e1, e2, e3, hx, hn, hm⟩ := split_facts (maxZ limit) 20 b (20 + b) v (by omega) (by omega) (by omega) hv
  have E1 := Lib.hid e1
  have E2 := Lib.hid e2
  have E3 := Lib.hid e3
  clear e1 e2 e3
  go_enter Try.func5, Try.ntmps5
  go_wp2_with fail
  refine (run_any _ _ _ _ _ _ hv hl.2).mono ?_
  rw [E1.out]
  rintro e w1 ⟨rfl, hb1⟩
  obtain ⟨c1, f1⟩ := bcell hb1
  have z1 : w.heap.size < w1.heap.size := by (have := hb1.size; simp at this; omega)
  have k1 : Below w.heap.size w w1 := next_below (by go_grown) hb1
  go_wp2_with fail
  refine (run_any _ _ _ _ _ _ hx hl.2).mono ?_
  rw [E2.out]
  rintro e w2 ⟨rfl, hb2⟩
  obtain ⟨c2, f2⟩ := bcell hb2
  have z2 : w1.heap.size < w2.heap.size := by (have := hb2.size; simp at this; omega)
  have z02 : w.heap.size < w2.heap.size := by omega
  have z01 : w.heap.size < w1.heap.size + 1 := by omega
  have k2 : Below w.heap.size w w2 := next_below (by go_grown) hb2
  go_wp2_with fail
  refine (run_any _ _ _ _ _ _ hv hl.2).mono ?_
  rw [E3.out]
  rintro e w3 ⟨rfl, hb3⟩
  obtain ⟨c3, f3⟩ := bcell hb3
  have z3 : w2.heap.size < w3.heap.size := by (have := hb3.size; simp at this; omega)
  have z13 : w1.heap.size < w3.heap.size := by omega
  have z03 : w.heap.size < w3.heap.size := by omega
  have z12 : w1.heap.size < w2.heap.size + 1 := by omega
  have z02' : w.heap.size < w2.heap.size + 1 := by omega
  have k3 : Below w.heap.size w w3 := next_below (by go_grown) hb3
  go_wp2_with (go_at_call 11; refine (half_any _ _ (by omega)).mono ?_; rintro e w4 ⟨rfl, rfl⟩)
  go_ret
  exact ⟨rfl, by go_grown⟩
set_option maxHeartbeats 1000000 in
theorem walkSplits7 (key : ByteArray) (at_ v limit a b : Int) (w : World) (a1 : ¬ a < 0) (a2 : ¬ 20 < a) (b1 : b < 0) (hv : -9223372036854775808 ≤ v ∧ v ≤ 9223372036854775807) (hl : -9223372036854775808 ≤ limit ∧ limit ≤ 9223372036854775807) :
    Calls Try.prog 5 #[.agg #[.string key, .int .i64 at_, .int .i64 v], .int .i64 limit, .int .i64 a, .int .i64 b] w fun e w' => e = .returned (.bool true) ∧ Below w.heap.size w w' := by
  have h6 := half6
  obtain ⟨x, n, y, m, e1, e2, e3, hx, hn, hm⟩ := split_facts (maxZ limit) a 0 a v (by omega) (by omega) (by omega) hv
  have E1 := Lib.hid e1
  have E2 := Lib.hid e2
  have E3 := Lib.hid e3
  clear e1 e2 e3
  go_enter Try.func5, Try.ntmps5
  go_wp2_with fail
  refine (run_any _ _ _ _ _ _ hv hl.2).mono ?_
  rw [E1.out]
  rintro e w1 ⟨rfl, hb1⟩
  obtain ⟨c1, f1⟩ := bcell hb1
  have z1 : w.heap.size < w1.heap.size := by (have := hb1.size; simp at this; omega)
  have k1 : Below w.heap.size w w1 := next_below (by go_grown) hb1
  go_wp2_with fail
  refine (run_any _ _ _ _ _ _ hx hl.2).mono ?_
  rw [E2.out]
  rintro e w2 ⟨rfl, hb2⟩
  obtain ⟨c2, f2⟩ := bcell hb2
  have z2 : w1.heap.size < w2.heap.size := by (have := hb2.size; simp at this; omega)
  have z02 : w.heap.size < w2.heap.size := by omega
  have z01 : w.heap.size < w1.heap.size + 1 := by omega
  have k2 : Below w.heap.size w w2 := next_below (by go_grown) hb2
  go_wp2_with fail
  refine (run_any _ _ _ _ _ _ hv hl.2).mono ?_
  rw [E3.out]
  rintro e w3 ⟨rfl, hb3⟩
  obtain ⟨c3, f3⟩ := bcell hb3
  have z3 : w2.heap.size < w3.heap.size := by (have := hb3.size; simp at this; omega)
  have z13 : w1.heap.size < w3.heap.size := by omega
  have z03 : w.heap.size < w3.heap.size := by omega
  have z12 : w1.heap.size < w2.heap.size + 1 := by omega
  have z02' : w.heap.size < w2.heap.size + 1 := by omega
  have k3 : Below w.heap.size w w3 := next_below (by go_grown) hb3
  go_wp2_with (go_at_call 11; refine (half_any _ _ (by omega)).mono ?_; rintro e w4 ⟨rfl, rfl⟩)
  go_ret
  exact ⟨rfl, by go_grown⟩
set_option maxHeartbeats 1000000 in
theorem walkSplits8 (key : ByteArray) (at_ v limit a b : Int) (w : World) (a1 : ¬ a < 0) (a2 : ¬ 20 < a) (b1 : ¬ b < 0) (b2 : 20 < b) (hv : -9223372036854775808 ≤ v ∧ v ≤ 9223372036854775807) (hl : -9223372036854775808 ≤ limit ∧ limit ≤ 9223372036854775807) :
    Calls Try.prog 5 #[.agg #[.string key, .int .i64 at_, .int .i64 v], .int .i64 limit, .int .i64 a, .int .i64 b] w fun e w' => e = .returned (.bool true) ∧ Below w.heap.size w w' := by
  have h6 := half6
  obtain ⟨x, n, y, m, e1, e2, e3, hx, hn, hm⟩ := split_facts (maxZ limit) a 20 (a + 20) v (by omega) (by omega) (by omega) hv
  have E1 := Lib.hid e1
  have E2 := Lib.hid e2
  have E3 := Lib.hid e3
  clear e1 e2 e3
  go_enter Try.func5, Try.ntmps5
  go_wp2_with fail
  refine (run_any _ _ _ _ _ _ hv hl.2).mono ?_
  rw [E1.out]
  rintro e w1 ⟨rfl, hb1⟩
  obtain ⟨c1, f1⟩ := bcell hb1
  have z1 : w.heap.size < w1.heap.size := by (have := hb1.size; simp at this; omega)
  have k1 : Below w.heap.size w w1 := next_below (by go_grown) hb1
  go_wp2_with fail
  refine (run_any _ _ _ _ _ _ hx hl.2).mono ?_
  rw [E2.out]
  rintro e w2 ⟨rfl, hb2⟩
  obtain ⟨c2, f2⟩ := bcell hb2
  have z2 : w1.heap.size < w2.heap.size := by (have := hb2.size; simp at this; omega)
  have z02 : w.heap.size < w2.heap.size := by omega
  have z01 : w.heap.size < w1.heap.size + 1 := by omega
  have k2 : Below w.heap.size w w2 := next_below (by go_grown) hb2
  go_wp2_with fail
  refine (run_any _ _ _ _ _ _ hv hl.2).mono ?_
  rw [E3.out]
  rintro e w3 ⟨rfl, hb3⟩
  obtain ⟨c3, f3⟩ := bcell hb3
  have z3 : w2.heap.size < w3.heap.size := by (have := hb3.size; simp at this; omega)
  have z13 : w1.heap.size < w3.heap.size := by omega
  have z03 : w.heap.size < w3.heap.size := by omega
  have z12 : w1.heap.size < w2.heap.size + 1 := by omega
  have z02' : w.heap.size < w2.heap.size + 1 := by omega
  have k3 : Below w.heap.size w w3 := next_below (by go_grown) hb3
  go_wp2_with (go_at_call 11; refine (half_any _ _ (by omega)).mono ?_; rintro e w4 ⟨rfl, rfl⟩)
  go_ret
  exact ⟨rfl, by go_grown⟩
set_option maxHeartbeats 1000000 in
theorem walkSplits9 (key : ByteArray) (at_ v limit a b : Int) (w : World) (a1 : ¬ a < 0) (a2 : ¬ 20 < a) (b1 : ¬ b < 0) (b2 : ¬ 20 < b) (hv : -9223372036854775808 ≤ v ∧ v ≤ 9223372036854775807) (hl : -9223372036854775808 ≤ limit ∧ limit ≤ 9223372036854775807) :
    Calls Try.prog 5 #[.agg #[.string key, .int .i64 at_, .int .i64 v], .int .i64 limit, .int .i64 a, .int .i64 b] w fun e w' => e = .returned (.bool true) ∧ Below w.heap.size w w' := by
  have h6 := half6
  obtain ⟨x, n, y, m, e1, e2, e3, hx, hn, hm⟩ := split_facts (maxZ limit) a b (a + b) v (by omega) (by omega) (by omega) hv
  have E1 := Lib.hid e1
  have E2 := Lib.hid e2
  have E3 := Lib.hid e3
  clear e1 e2 e3
  go_enter Try.func5, Try.ntmps5
  go_wp2_with fail
  refine (run_any _ _ _ _ _ _ hv hl.2).mono ?_
  rw [E1.out]
  rintro e w1 ⟨rfl, hb1⟩
  obtain ⟨c1, f1⟩ := bcell hb1
  have z1 : w.heap.size < w1.heap.size := by (have := hb1.size; simp at this; omega)
  have k1 : Below w.heap.size w w1 := next_below (by go_grown) hb1
  go_wp2_with fail
  refine (run_any _ _ _ _ _ _ hx hl.2).mono ?_
  rw [E2.out]
  rintro e w2 ⟨rfl, hb2⟩
  obtain ⟨c2, f2⟩ := bcell hb2
  have z2 : w1.heap.size < w2.heap.size := by (have := hb2.size; simp at this; omega)
  have z02 : w.heap.size < w2.heap.size := by omega
  have z01 : w.heap.size < w1.heap.size + 1 := by omega
  have k2 : Below w.heap.size w w2 := next_below (by go_grown) hb2
  go_wp2_with fail
  refine (run_any _ _ _ _ _ _ hv hl.2).mono ?_
  rw [E3.out]
  rintro e w3 ⟨rfl, hb3⟩
  obtain ⟨c3, f3⟩ := bcell hb3
  have z3 : w2.heap.size < w3.heap.size := by (have := hb3.size; simp at this; omega)
  have z13 : w1.heap.size < w3.heap.size := by omega
  have z03 : w.heap.size < w3.heap.size := by omega
  have z12 : w1.heap.size < w2.heap.size + 1 := by omega
  have z02' : w.heap.size < w2.heap.size + 1 := by omega
  have k3 : Below w.heap.size w w3 := next_below (by go_grown) hb3
  go_wp2_with (go_at_call 11; refine (half_any _ _ (by omega)).mono ?_; rintro e w4 ⟨rfl, rfl⟩)
  go_ret
  exact ⟨rfl, by go_grown⟩

theorem walkSplits (key : ByteArray) (at_ v limit a b : Int) (w : World) (hv : -9223372036854775808 ≤ v ∧ v ≤ 9223372036854775807) (hl : -9223372036854775808 ≤ limit ∧ limit ≤ 9223372036854775807) :
    Calls Try.prog 5 #[.agg #[.string key, .int .i64 at_, .int .i64 v], .int .i64 limit, .int .i64 a, .int .i64 b] w fun e w' => e = .returned (.bool true) ∧ Below w.heap.size w w' := by
  by_cases a1 : a < 0
  · by_cases b1 : b < 0
    · exact walkSplits1 key at_ v limit a b w a1 b1 hv hl
    · by_cases b2 : 20 < b
      · exact walkSplits2 key at_ v limit a b w a1 b1 b2 hv hl
      · exact walkSplits3 key at_ v limit a b w a1 b1 b2 hv hl
  · by_cases a2 : 20 < a
    · by_cases b1 : b < 0
      · exact walkSplits4 key at_ v limit a b w a1 a2 b1 hv hl
      · by_cases b2 : 20 < b
        · exact walkSplits5 key at_ v limit a b w a1 a2 b1 b2 hv hl
        · exact walkSplits6 key at_ v limit a b w a1 a2 b1 b2 hv hl
    · by_cases b1 : b < 0
      · exact walkSplits7 key at_ v limit a b w a1 a2 b1 hv hl
      · by_cases b2 : 20 < b
        · exact walkSplits8 key at_ v limit a b w a1 a2 b1 b2 hv hl
        · exact walkSplits9 key at_ v limit a b w a1 a2 b1 b2 hv hl
end Go.Proofs.Ytplfimaopegpmaa
