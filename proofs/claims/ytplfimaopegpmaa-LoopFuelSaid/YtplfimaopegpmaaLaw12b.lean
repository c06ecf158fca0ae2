/- The walk of chapter 12's law LoopFuel. -/
import Derived.Test.YtplfimaopegpmaaLaw12a
namespace Go.Proofs.Ytplfimaopegpmaa
open Go.RowKit
set_option linter.unusedVariables false
set_option maxHeartbeats 4000000 in
theorem walkFuel1 (key : ByteArray) (at_ v limit fuel more : Int) (w : World) (c1 : fuel < 0) (hv : -9223372036854775808 ≤ v ∧ v ≤ 9223372036854775807) (hl : -9223372036854775808 ≤ limit ∧ limit ≤ 9223372036854775807) :
    Calls Try.prog 4 #[.agg #[.string key, .int .i64 at_, .int .i64 v], .int .i64 limit, .int .i64 fuel, .int .i64 more] w fun e w' => e = .returned (.bool true) ∧ Below w.heap.size w w' := by
  have h6 := half6
  by_cases c3 : 0 < more
  · obtain ⟨p1, n1, p2, n2, e1, e2, hle, hsame, hpos, hneg⟩ := fuel_facts (maxZ limit) 0 more v (by omega) (by omega)
    have E1 := Lib.hid e1
    have E2 := Lib.hid e2
    clear e1 e2
    have hn : ¬ (n1 : Int) < 0 := by omega
    clear hsame
    by_cases hs : 0 ≤ v
    · obtain ⟨g1, g2⟩ := hpos hs
      clear hpos hneg
      go_enter Try.func4, Try.ntmps4
      go_wp2_with fail
      refine (run_any _ _ _ _ _ _ hv hl.2).mono ?_
      rw [E1.out]
      rintro e w1 ⟨rfl, hb1⟩
      obtain ⟨c1, f1⟩ := bcell hb1
      have z1 : w.heap.size < w1.heap.size := by (have := hb1.size; simp at this; omega)
      have k1 : Below w.heap.size w w1 := next_below (by go_grown) hb1
      go_wp2_with fail
      refine (run_any _ _ _ _ _ _ hv hl.2).mono ?_
      rw [E2.out]
      rintro e w2 ⟨rfl, hb2⟩
      obtain ⟨c2, f2⟩ := bcell hb2
      have z2 : w1.heap.size < w2.heap.size := by (have := hb2.size; simp at this; omega)
      have z02 : w.heap.size < w2.heap.size := by omega
      have z01 : w.heap.size < w1.heap.size + 1 := by omega
      have k2 : Below w.heap.size w w2 := next_below (by go_grown) hb2
      go_wp2_with (go_at_call 11; refine (half_any _ _ (by omega)).mono ?_; rintro e w3 ⟨rfl, rfl⟩)
      go_ret
      exact ⟨rfl, by go_grown⟩
    · obtain ⟨g1, g2⟩ := hneg (by omega)
      clear hpos hneg
      go_enter Try.func4, Try.ntmps4
      go_wp2_with fail
      refine (run_any _ _ _ _ _ _ hv hl.2).mono ?_
      rw [E1.out]
      rintro e w1 ⟨rfl, hb1⟩
      obtain ⟨c1, f1⟩ := bcell hb1
      have z1 : w.heap.size < w1.heap.size := by (have := hb1.size; simp at this; omega)
      have k1 : Below w.heap.size w w1 := next_below (by go_grown) hb1
      go_wp2_with fail
      refine (run_any _ _ _ _ _ _ hv hl.2).mono ?_
      rw [E2.out]
      rintro e w2 ⟨rfl, hb2⟩
      obtain ⟨c2, f2⟩ := bcell hb2
      have z2 : w1.heap.size < w2.heap.size := by (have := hb2.size; simp at this; omega)
      have z02 : w.heap.size < w2.heap.size := by omega
      have z01 : w.heap.size < w1.heap.size + 1 := by omega
      have k2 : Below w.heap.size w w2 := next_below (by go_grown) hb2
      go_wp2_with (go_at_call 11; refine (half_any _ _ (by omega)).mono ?_; rintro e w3 ⟨rfl, rfl⟩)
      go_ret
      exact ⟨rfl, by go_grown⟩
  · obtain ⟨p1, n1, p2, n2, e1, e2, hle, hsame, hpos, hneg⟩ := fuel_facts (maxZ limit) 0 0 v (by omega) (by omega)
    have E1 := Lib.hid e1
    have E2 := Lib.hid e2
    clear e1 e2
    have hn : ¬ (n1 : Int) < 0 := by omega
    clear hsame
    by_cases hs : 0 ≤ v
    · obtain ⟨g1, g2⟩ := hpos hs
      clear hpos hneg
      go_enter Try.func4, Try.ntmps4
      go_wp2_with fail
      refine (run_any _ _ _ _ _ _ hv hl.2).mono ?_
      rw [E1.out]
      rintro e w1 ⟨rfl, hb1⟩
      obtain ⟨c1, f1⟩ := bcell hb1
      have z1 : w.heap.size < w1.heap.size := by (have := hb1.size; simp at this; omega)
      have k1 : Below w.heap.size w w1 := next_below (by go_grown) hb1
      go_wp2_with fail
      refine (run_any _ _ _ _ _ _ hv hl.2).mono ?_
      rw [E2.out]
      rintro e w2 ⟨rfl, hb2⟩
      obtain ⟨c2, f2⟩ := bcell hb2
      have z2 : w1.heap.size < w2.heap.size := by (have := hb2.size; simp at this; omega)
      have z02 : w.heap.size < w2.heap.size := by omega
      have z01 : w.heap.size < w1.heap.size + 1 := by omega
      have k2 : Below w.heap.size w w2 := next_below (by go_grown) hb2
      go_wp2_with (go_at_call 11; refine (half_any _ _ (by omega)).mono ?_; rintro e w3 ⟨rfl, rfl⟩)
      go_ret
      exact ⟨rfl, by go_grown⟩
    · obtain ⟨g1, g2⟩ := hneg (by omega)
      clear hpos hneg
      go_enter Try.func4, Try.ntmps4
      go_wp2_with fail
      refine (run_any _ _ _ _ _ _ hv hl.2).mono ?_
      rw [E1.out]
      rintro e w1 ⟨rfl, hb1⟩
      obtain ⟨c1, f1⟩ := bcell hb1
      have z1 : w.heap.size < w1.heap.size := by (have := hb1.size; simp at this; omega)
      have k1 : Below w.heap.size w w1 := next_below (by go_grown) hb1
      go_wp2_with fail
      refine (run_any _ _ _ _ _ _ hv hl.2).mono ?_
      rw [E2.out]
      rintro e w2 ⟨rfl, hb2⟩
      obtain ⟨c2, f2⟩ := bcell hb2
      have z2 : w1.heap.size < w2.heap.size := by (have := hb2.size; simp at this; omega)
      have z02 : w.heap.size < w2.heap.size := by omega
      have z01 : w.heap.size < w1.heap.size + 1 := by omega
      have k2 : Below w.heap.size w w2 := next_below (by go_grown) hb2
      go_wp2_with (go_at_call 11; refine (half_any _ _ (by omega)).mono ?_; rintro e w3 ⟨rfl, rfl⟩)
      go_ret
      exact ⟨rfl, by go_grown⟩

set_option maxHeartbeats 4000000 in
theorem walkFuel2 (key : ByteArray) (at_ v limit fuel more : Int) (w : World) (c1 : ¬ fuel < 0) (c2 : 40 < fuel) (hv : -9223372036854775808 ≤ v ∧ v ≤ 9223372036854775807) (hl : -9223372036854775808 ≤ limit ∧ limit ≤ 9223372036854775807) :
    Calls Try.prog 4 #[.agg #[.string key, .int .i64 at_, .int .i64 v], .int .i64 limit, .int .i64 fuel, .int .i64 more] w fun e w' => e = .returned (.bool true) ∧ Below w.heap.size w w' := by
  have h6 := half6
  by_cases c3 : 40 < more
  · obtain ⟨p1, n1, p2, n2, e1, e2, hle, hsame, hpos, hneg⟩ := fuel_facts (maxZ limit) 40 more v (by omega) (by omega)
    have E1 := Lib.hid e1
    have E2 := Lib.hid e2
    clear e1 e2
    by_cases hn : (n1 : Int) < 40
    · obtain rfl := hsame hn
      clear hsame
      by_cases hs : 0 ≤ v
      · obtain ⟨g1, g2⟩ := hpos hs
        clear hpos hneg
        go_enter Try.func4, Try.ntmps4
        go_wp2_with fail
        refine (run_any _ _ _ _ _ _ hv hl.2).mono ?_
        rw [E1.out]
        rintro e w1 ⟨rfl, hb1⟩
        obtain ⟨c1, f1⟩ := bcell hb1
        have z1 : w.heap.size < w1.heap.size := by (have := hb1.size; simp at this; omega)
        have k1 : Below w.heap.size w w1 := next_below (by go_grown) hb1
        go_wp2_with fail
        refine (run_any _ _ _ _ _ _ hv hl.2).mono ?_
        rw [E2.out]
        rintro e w2 ⟨rfl, hb2⟩
        obtain ⟨c2, f2⟩ := bcell hb2
        have z2 : w1.heap.size < w2.heap.size := by (have := hb2.size; simp at this; omega)
        have z02 : w.heap.size < w2.heap.size := by omega
        have z01 : w.heap.size < w1.heap.size + 1 := by omega
        have k2 : Below w.heap.size w w2 := next_below (by go_grown) hb2
        go_wp2_with (go_at_call 11; refine (half_any _ _ (by omega)).mono ?_; rintro e w3 ⟨rfl, rfl⟩)
        go_ret
        exact ⟨rfl, by go_grown⟩
      · obtain ⟨g1, g2⟩ := hneg (by omega)
        clear hpos hneg
        go_enter Try.func4, Try.ntmps4
        go_wp2_with fail
        refine (run_any _ _ _ _ _ _ hv hl.2).mono ?_
        rw [E1.out]
        rintro e w1 ⟨rfl, hb1⟩
        obtain ⟨c1, f1⟩ := bcell hb1
        have z1 : w.heap.size < w1.heap.size := by (have := hb1.size; simp at this; omega)
        have k1 : Below w.heap.size w w1 := next_below (by go_grown) hb1
        go_wp2_with fail
        refine (run_any _ _ _ _ _ _ hv hl.2).mono ?_
        rw [E2.out]
        rintro e w2 ⟨rfl, hb2⟩
        obtain ⟨c2, f2⟩ := bcell hb2
        have z2 : w1.heap.size < w2.heap.size := by (have := hb2.size; simp at this; omega)
        have z02 : w.heap.size < w2.heap.size := by omega
        have z01 : w.heap.size < w1.heap.size + 1 := by omega
        have k2 : Below w.heap.size w w2 := next_below (by go_grown) hb2
        go_wp2_with (go_at_call 11; refine (half_any _ _ (by omega)).mono ?_; rintro e w3 ⟨rfl, rfl⟩)
        go_ret
        exact ⟨rfl, by go_grown⟩
    · clear hsame
      by_cases hs : 0 ≤ v
      · obtain ⟨g1, g2⟩ := hpos hs
        clear hpos hneg
        go_enter Try.func4, Try.ntmps4
        go_wp2_with fail
        refine (run_any _ _ _ _ _ _ hv hl.2).mono ?_
        rw [E1.out]
        rintro e w1 ⟨rfl, hb1⟩
        obtain ⟨c1, f1⟩ := bcell hb1
        have z1 : w.heap.size < w1.heap.size := by (have := hb1.size; simp at this; omega)
        have k1 : Below w.heap.size w w1 := next_below (by go_grown) hb1
        go_wp2_with fail
        refine (run_any _ _ _ _ _ _ hv hl.2).mono ?_
        rw [E2.out]
        rintro e w2 ⟨rfl, hb2⟩
        obtain ⟨c2, f2⟩ := bcell hb2
        have z2 : w1.heap.size < w2.heap.size := by (have := hb2.size; simp at this; omega)
        have z02 : w.heap.size < w2.heap.size := by omega
        have z01 : w.heap.size < w1.heap.size + 1 := by omega
        have k2 : Below w.heap.size w w2 := next_below (by go_grown) hb2
        go_wp2_with (go_at_call 11; refine (half_any _ _ (by omega)).mono ?_; rintro e w3 ⟨rfl, rfl⟩)
        go_ret
        exact ⟨rfl, by go_grown⟩
      · obtain ⟨g1, g2⟩ := hneg (by omega)
        clear hpos hneg
        go_enter Try.func4, Try.ntmps4
        go_wp2_with fail
        refine (run_any _ _ _ _ _ _ hv hl.2).mono ?_
        rw [E1.out]
        rintro e w1 ⟨rfl, hb1⟩
        obtain ⟨c1, f1⟩ := bcell hb1
        have z1 : w.heap.size < w1.heap.size := by (have := hb1.size; simp at this; omega)
        have k1 : Below w.heap.size w w1 := next_below (by go_grown) hb1
        go_wp2_with fail
        refine (run_any _ _ _ _ _ _ hv hl.2).mono ?_
        rw [E2.out]
        rintro e w2 ⟨rfl, hb2⟩
        obtain ⟨c2, f2⟩ := bcell hb2
        have z2 : w1.heap.size < w2.heap.size := by (have := hb2.size; simp at this; omega)
        have z02 : w.heap.size < w2.heap.size := by omega
        have z01 : w.heap.size < w1.heap.size + 1 := by omega
        have k2 : Below w.heap.size w w2 := next_below (by go_grown) hb2
        go_wp2_with (go_at_call 11; refine (half_any _ _ (by omega)).mono ?_; rintro e w3 ⟨rfl, rfl⟩)
        go_ret
        exact ⟨rfl, by go_grown⟩
  · obtain ⟨p1, n1, p2, n2, e1, e2, hle, hsame, hpos, hneg⟩ := fuel_facts (maxZ limit) 40 40 v (by omega) (by omega)
    have E1 := Lib.hid e1
    have E2 := Lib.hid e2
    clear e1 e2
    by_cases hn : (n1 : Int) < 40
    · obtain rfl := hsame hn
      clear hsame
      by_cases hs : 0 ≤ v
      · obtain ⟨g1, g2⟩ := hpos hs
        clear hpos hneg
        go_enter Try.func4, Try.ntmps4
        go_wp2_with fail
        refine (run_any _ _ _ _ _ _ hv hl.2).mono ?_
        rw [E1.out]
        rintro e w1 ⟨rfl, hb1⟩
        obtain ⟨c1, f1⟩ := bcell hb1
        have z1 : w.heap.size < w1.heap.size := by (have := hb1.size; simp at this; omega)
        have k1 : Below w.heap.size w w1 := next_below (by go_grown) hb1
        go_wp2_with fail
        refine (run_any _ _ _ _ _ _ hv hl.2).mono ?_
        rw [E2.out]
        rintro e w2 ⟨rfl, hb2⟩
        obtain ⟨c2, f2⟩ := bcell hb2
        have z2 : w1.heap.size < w2.heap.size := by (have := hb2.size; simp at this; omega)
        have z02 : w.heap.size < w2.heap.size := by omega
        have z01 : w.heap.size < w1.heap.size + 1 := by omega
        have k2 : Below w.heap.size w w2 := next_below (by go_grown) hb2
        go_wp2_with (go_at_call 11; refine (half_any _ _ (by omega)).mono ?_; rintro e w3 ⟨rfl, rfl⟩)
        go_ret
        exact ⟨rfl, by go_grown⟩
      · obtain ⟨g1, g2⟩ := hneg (by omega)
        clear hpos hneg
        go_enter Try.func4, Try.ntmps4
        go_wp2_with fail
        refine (run_any _ _ _ _ _ _ hv hl.2).mono ?_
        rw [E1.out]
        rintro e w1 ⟨rfl, hb1⟩
        obtain ⟨c1, f1⟩ := bcell hb1
        have z1 : w.heap.size < w1.heap.size := by (have := hb1.size; simp at this; omega)
        have k1 : Below w.heap.size w w1 := next_below (by go_grown) hb1
        go_wp2_with fail
        refine (run_any _ _ _ _ _ _ hv hl.2).mono ?_
        rw [E2.out]
        rintro e w2 ⟨rfl, hb2⟩
        obtain ⟨c2, f2⟩ := bcell hb2
        have z2 : w1.heap.size < w2.heap.size := by (have := hb2.size; simp at this; omega)
        have z02 : w.heap.size < w2.heap.size := by omega
        have z01 : w.heap.size < w1.heap.size + 1 := by omega
        have k2 : Below w.heap.size w w2 := next_below (by go_grown) hb2
        go_wp2_with (go_at_call 11; refine (half_any _ _ (by omega)).mono ?_; rintro e w3 ⟨rfl, rfl⟩)
        go_ret
        exact ⟨rfl, by go_grown⟩
    · clear hsame
      by_cases hs : 0 ≤ v
      · obtain ⟨g1, g2⟩ := hpos hs
        clear hpos hneg
        go_enter Try.func4, Try.ntmps4
        go_wp2_with fail
        refine (run_any _ _ _ _ _ _ hv hl.2).mono ?_
        rw [E1.out]
        rintro e w1 ⟨rfl, hb1⟩
        obtain ⟨c1, f1⟩ := bcell hb1
        have z1 : w.heap.size < w1.heap.size := by (have := hb1.size; simp at this; omega)
        have k1 : Below w.heap.size w w1 := next_below (by go_grown) hb1
        go_wp2_with fail
        refine (run_any _ _ _ _ _ _ hv hl.2).mono ?_
        rw [E2.out]
        rintro e w2 ⟨rfl, hb2⟩
        obtain ⟨c2, f2⟩ := bcell hb2
        have z2 : w1.heap.size < w2.heap.size := by (have := hb2.size; simp at this; omega)
        have z02 : w.heap.size < w2.heap.size := by omega
        have z01 : w.heap.size < w1.heap.size + 1 := by omega
        have k2 : Below w.heap.size w w2 := next_below (by go_grown) hb2
        go_wp2_with (go_at_call 11; refine (half_any _ _ (by omega)).mono ?_; rintro e w3 ⟨rfl, rfl⟩)
        go_ret
        exact ⟨rfl, by go_grown⟩
      · obtain ⟨g1, g2⟩ := hneg (by omega)
        clear hpos hneg
        go_enter Try.func4, Try.ntmps4
        go_wp2_with fail
        refine (run_any _ _ _ _ _ _ hv hl.2).mono ?_
        rw [E1.out]
        rintro e w1 ⟨rfl, hb1⟩
        obtain ⟨c1, f1⟩ := bcell hb1
        have z1 : w.heap.size < w1.heap.size := by (have := hb1.size; simp at this; omega)
        have k1 : Below w.heap.size w w1 := next_below (by go_grown) hb1
        go_wp2_with fail
        refine (run_any _ _ _ _ _ _ hv hl.2).mono ?_
        rw [E2.out]
        rintro e w2 ⟨rfl, hb2⟩
        obtain ⟨c2, f2⟩ := bcell hb2
        have z2 : w1.heap.size < w2.heap.size := by (have := hb2.size; simp at this; omega)
        have z02 : w.heap.size < w2.heap.size := by omega
        have z01 : w.heap.size < w1.heap.size + 1 := by omega
        have k2 : Below w.heap.size w w2 := next_below (by go_grown) hb2
        go_wp2_with (go_at_call 11; refine (half_any _ _ (by omega)).mono ?_; rintro e w3 ⟨rfl, rfl⟩)
        go_ret
        exact ⟨rfl, by go_grown⟩

set_option maxHeartbeats 4000000 in
theorem walkFuel3 (key : ByteArray) (at_ v limit fuel more : Int) (w : World) (c1 : ¬ fuel < 0) (c2 : ¬ 40 < fuel) (hv : -9223372036854775808 ≤ v ∧ v ≤ 9223372036854775807) (hl : -9223372036854775808 ≤ limit ∧ limit ≤ 9223372036854775807) :
    Calls Try.prog 4 #[.agg #[.string key, .int .i64 at_, .int .i64 v], .int .i64 limit, .int .i64 fuel, .int .i64 more] w fun e w' => e = .returned (.bool true) ∧ Below w.heap.size w w' := by
  have h6 := half6
  by_cases c3 : fuel < more
  · obtain ⟨p1, n1, p2, n2, e1, e2, hle, hsame, hpos, hneg⟩ := fuel_facts (maxZ limit) fuel more v (by omega) (by omega)
    have E1 := Lib.hid e1
    have E2 := Lib.hid e2
    clear e1 e2
    by_cases hn : (n1 : Int) < fuel
    · obtain rfl := hsame hn
      clear hsame
      by_cases hs : 0 ≤ v
      · obtain ⟨g1, g2⟩ := hpos hs
        clear hpos hneg
        go_enter Try.func4, Try.ntmps4
        go_wp2_with fail
        refine (run_any _ _ _ _ _ _ hv hl.2).mono ?_
        rw [E1.out]
        rintro e w1 ⟨rfl, hb1⟩
        obtain ⟨c1, f1⟩ := bcell hb1
        have z1 : w.heap.size < w1.heap.size := by (have := hb1.size; simp at this; omega)
        have k1 : Below w.heap.size w w1 := next_below (by go_grown) hb1
        go_wp2_with fail
        refine (run_any _ _ _ _ _ _ hv hl.2).mono ?_
        rw [E2.out]
        rintro e w2 ⟨rfl, hb2⟩
        obtain ⟨c2, f2⟩ := bcell hb2
        have z2 : w1.heap.size < w2.heap.size := by (have := hb2.size; simp at this; omega)
        have z02 : w.heap.size < w2.heap.size := by omega
        have z01 : w.heap.size < w1.heap.size + 1 := by omega
        have k2 : Below w.heap.size w w2 := next_below (by go_grown) hb2
        go_wp2_with (go_at_call 11; refine (half_any _ _ (by omega)).mono ?_; rintro e w3 ⟨rfl, rfl⟩)
        go_ret
        exact ⟨rfl, by go_grown⟩
      · obtain ⟨g1, g2⟩ := hneg (by omega)
        clear hpos hneg
        go_enter Try.func4, Try.ntmps4
        go_wp2_with fail
        refine (run_any _ _ _ _ _ _ hv hl.2).mono ?_
        rw [E1.out]
        rintro e w1 ⟨rfl, hb1⟩
        obtain ⟨c1, f1⟩ := bcell hb1
        have z1 : w.heap.size < w1.heap.size := by (have := hb1.size; simp at this; omega)
        have k1 : Below w.heap.size w w1 := next_below (by go_grown) hb1
        go_wp2_with fail
        refine (run_any _ _ _ _ _ _ hv hl.2).mono ?_
        rw [E2.out]
        rintro e w2 ⟨rfl, hb2⟩
        obtain ⟨c2, f2⟩ := bcell hb2
        have z2 : w1.heap.size < w2.heap.size := by (have := hb2.size; simp at this; omega)
        have z02 : w.heap.size < w2.heap.size := by omega
        have z01 : w.heap.size < w1.heap.size + 1 := by omega
        have k2 : Below w.heap.size w w2 := next_below (by go_grown) hb2
        go_wp2_with (go_at_call 11; refine (half_any _ _ (by omega)).mono ?_; rintro e w3 ⟨rfl, rfl⟩)
        go_ret
        exact ⟨rfl, by go_grown⟩
    · clear hsame
      by_cases hs : 0 ≤ v
      · obtain ⟨g1, g2⟩ := hpos hs
        clear hpos hneg
        go_enter Try.func4, Try.ntmps4
        go_wp2_with fail
        refine (run_any _ _ _ _ _ _ hv hl.2).mono ?_
        rw [E1.out]
        rintro e w1 ⟨rfl, hb1⟩
        obtain ⟨c1, f1⟩ := bcell hb1
        have z1 : w.heap.size < w1.heap.size := by (have := hb1.size; simp at this; omega)
        have k1 : Below w.heap.size w w1 := next_below (by go_grown) hb1
        go_wp2_with fail
        refine (run_any _ _ _ _ _ _ hv hl.2).mono ?_
        rw [E2.out]
        rintro e w2 ⟨rfl, hb2⟩
        obtain ⟨c2, f2⟩ := bcell hb2
        have z2 : w1.heap.size < w2.heap.size := by (have := hb2.size; simp at this; omega)
        have z02 : w.heap.size < w2.heap.size := by omega
        have z01 : w.heap.size < w1.heap.size + 1 := by omega
        have k2 : Below w.heap.size w w2 := next_below (by go_grown) hb2
        go_wp2_with (go_at_call 11; refine (half_any _ _ (by omega)).mono ?_; rintro e w3 ⟨rfl, rfl⟩)
        go_ret
        exact ⟨rfl, by go_grown⟩
      · obtain ⟨g1, g2⟩ := hneg (by omega)
        clear hpos hneg
        go_enter Try.func4, Try.ntmps4
        go_wp2_with fail
        refine (run_any _ _ _ _ _ _ hv hl.2).mono ?_
        rw [E1.out]
        rintro e w1 ⟨rfl, hb1⟩
        obtain ⟨c1, f1⟩ := bcell hb1
        have z1 : w.heap.size < w1.heap.size := by (have := hb1.size; simp at this; omega)
        have k1 : Below w.heap.size w w1 := next_below (by go_grown) hb1
        go_wp2_with fail
        refine (run_any _ _ _ _ _ _ hv hl.2).mono ?_
        rw [E2.out]
        rintro e w2 ⟨rfl, hb2⟩
        obtain ⟨c2, f2⟩ := bcell hb2
        have z2 : w1.heap.size < w2.heap.size := by (have := hb2.size; simp at this; omega)
        have z02 : w.heap.size < w2.heap.size := by omega
        have z01 : w.heap.size < w1.heap.size + 1 := by omega
        have k2 : Below w.heap.size w w2 := next_below (by go_grown) hb2
        go_wp2_with (go_at_call 11; refine (half_any _ _ (by omega)).mono ?_; rintro e w3 ⟨rfl, rfl⟩)
        go_ret
        exact ⟨rfl, by go_grown⟩
  · obtain ⟨p1, n1, p2, n2, e1, e2, hle, hsame, hpos, hneg⟩ := fuel_facts (maxZ limit) fuel fuel v (by omega) (by omega)
    have E1 := Lib.hid e1
    have E2 := Lib.hid e2
    clear e1 e2
    by_cases hn : (n1 : Int) < fuel
    · obtain rfl := hsame hn
      clear hsame
      by_cases hs : 0 ≤ v
      · obtain ⟨g1, g2⟩ := hpos hs
        clear hpos hneg
        go_enter Try.func4, Try.ntmps4
        go_wp2_with fail
        refine (run_any _ _ _ _ _ _ hv hl.2).mono ?_
        rw [E1.out]
        rintro e w1 ⟨rfl, hb1⟩
        obtain ⟨c1, f1⟩ := bcell hb1
        have z1 : w.heap.size < w1.heap.size := by (have := hb1.size; simp at this; omega)
        have k1 : Below w.heap.size w w1 := next_below (by go_grown) hb1
        go_wp2_with fail
        refine (run_any _ _ _ _ _ _ hv hl.2).mono ?_
        rw [E2.out]
        rintro e w2 ⟨rfl, hb2⟩
        obtain ⟨c2, f2⟩ := bcell hb2
        have z2 : w1.heap.size < w2.heap.size := by (have := hb2.size; simp at this; omega)
        have z02 : w.heap.size < w2.heap.size := by omega
        have z01 : w.heap.size < w1.heap.size + 1 := by omega
        have k2 : Below w.heap.size w w2 := next_below (by go_grown) hb2
        go_wp2_with (go_at_call 11; refine (half_any _ _ (by omega)).mono ?_; rintro e w3 ⟨rfl, rfl⟩)
        go_ret
        exact ⟨rfl, by go_grown⟩
      · obtain ⟨g1, g2⟩ := hneg (by omega)
        clear hpos hneg
        go_enter Try.func4, Try.ntmps4
        go_wp2_with fail
        refine (run_any _ _ _ _ _ _ hv hl.2).mono ?_
        rw [E1.out]
        rintro e w1 ⟨rfl, hb1⟩
        obtain ⟨c1, f1⟩ := bcell hb1
        have z1 : w.heap.size < w1.heap.size := by (have := hb1.size; simp at this; omega)
        have k1 : Below w.heap.size w w1 := next_below (by go_grown) hb1
        go_wp2_with fail
        refine (run_any _ _ _ _ _ _ hv hl.2).mono ?_
        rw [E2.out]
        rintro e w2 ⟨rfl, hb2⟩
        obtain ⟨c2, f2⟩ := bcell hb2
        have z2 : w1.heap.size < w2.heap.size := by (have := hb2.size; simp at this; omega)
        have z02 : w.heap.size < w2.heap.size := by omega
        have z01 : w.heap.size < w1.heap.size + 1 := by omega
        have k2 : Below w.heap.size w w2 := next_below (by go_grown) hb2
        go_wp2_with (go_at_call 11; refine (half_any _ _ (by omega)).mono ?_; rintro e w3 ⟨rfl, rfl⟩)
        go_ret
        exact ⟨rfl, by go_grown⟩
    · clear hsame
      by_cases hs : 0 ≤ v
      · obtain ⟨g1, g2⟩ := hpos hs
        clear hpos hneg
        go_enter Try.func4, Try.ntmps4
        go_wp2_with fail
        refine (run_any _ _ _ _ _ _ hv hl.2).mono ?_
        rw [E1.out]
        rintro e w1 ⟨rfl, hb1⟩
        obtain ⟨c1, f1⟩ := bcell hb1
        have z1 : w.heap.size < w1.heap.size := by (have := hb1.size; simp at this; omega)
        have k1 : Below w.heap.size w w1 := next_below (by go_grown) hb1
        go_wp2_with fail
        refine (run_any _ _ _ _ _ _ hv hl.2).mono ?_
        rw [E2.out]
        rintro e w2 ⟨rfl, hb2⟩
        obtain ⟨c2, f2⟩ := bcell hb2
        have z2 : w1.heap.size < w2.heap.size := by (have := hb2.size; simp at this; omega)
        have z02 : w.heap.size < w2.heap.size := by omega
        have z01 : w.heap.size < w1.heap.size + 1 := by omega
        have k2 : Below w.heap.size w w2 := next_below (by go_grown) hb2
        go_wp2_with (go_at_call 11; refine (half_any _ _ (by omega)).mono ?_; rintro e w3 ⟨rfl, rfl⟩)
        go_ret
        exact ⟨rfl, by go_grown⟩
      · obtain ⟨g1, g2⟩ := hneg (by omega)
        clear hpos hneg
        go_enter Try.func4, Try.ntmps4
        go_wp2_with fail
        refine (run_any _ _ _ _ _ _ hv hl.2).mono ?_
        rw [E1.out]
        rintro e w1 ⟨rfl, hb1⟩
        obtain ⟨c1, f1⟩ := bcell hb1
        have z1 : w.heap.size < w1.heap.size := by (have := hb1.size; simp at this; omega)
        have k1 : Below w.heap.size w w1 := next_below (by go_grown) hb1
        go_wp2_with fail
        refine (run_any _ _ _ _ _ _ hv hl.2).mono ?_
        rw [E2.out]
        rintro e w2 ⟨rfl, hb2⟩
        obtain ⟨c2, f2⟩ := bcell hb2
        have z2 : w1.heap.size < w2.heap.size := by (have := hb2.size; simp at this; omega)
        have z02 : w.heap.size < w2.heap.size := by omega
        have z01 : w.heap.size < w1.heap.size + 1 := by omega
        have k2 : Below w.heap.size w w2 := next_below (by go_grown) hb2
        go_wp2_with (go_at_call 11; refine (half_any _ _ (by omega)).mono ?_; rintro e w3 ⟨rfl, rfl⟩)
        go_ret
        exact ⟨rfl, by go_grown⟩

theorem walkFuel (key : ByteArray) (at_ v limit fuel more : Int) (w : World) (hv : -9223372036854775808 ≤ v ∧ v ≤ 9223372036854775807) (hl : -9223372036854775808 ≤ limit ∧ limit ≤ 9223372036854775807) :
    Calls Try.prog 4 #[.agg #[.string key, .int .i64 at_, .int .i64 v], .int .i64 limit, .int .i64 fuel, .int .i64 more] w fun e w' => e = .returned (.bool true) ∧ Below w.heap.size w w' := by
  by_cases c1 : fuel < 0
  · exact walkFuel1 key at_ v limit fuel more w c1 hv hl
  · by_cases c2 : 40 < fuel
    · exact walkFuel2 key at_ v limit fuel more w c1 c2 hv hl
    · exact walkFuel3 key at_ v limit fuel more w c1 c2 hv hl
end Go.Proofs.Ytplfimaopegpmaa
