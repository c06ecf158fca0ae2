/- The walk of WindowMoves. -/
import Derived.Test.YtijmjndaieimaaaWin6
namespace Go.Proofs.Ytijmjndaieimaaa
open Go.RowKit Go.Shelf
set_option linter.unusedVariables false
set_option linter.unusedSimpArgs false

/-- The windows of a time that is a slide later. -/
theorem ofL_move {size slide t : Int} (hr : rightW size slide = true) (h0 : size ≤ t) (h1 : t < 1099511627776 - size - slide) :
    (ofL size slide (t + slide)).length = (ofL size slide t).length ∧ 0 < (ofL size slide t).length ∧
    ∀ j, j < (ofL size slide t).length → ∃ lo : Int, 0 ≤ lo ∧ lo ≤ t ∧ (ofL size slide t)[j]? = some (lo, lo + size) ∧ (ofL size slide (t + slide))[j]? = some (lo + slide, lo + size + slide) := by
  obtain ⟨p1, p2, p3, p4⟩ := rightW_iff.1 hr
  have q0 : 0 ≤ t / slide := Int.ediv_nonneg (by omega) (by omega)
  have r0 := Int.emod_nonneg t (b := slide) (by omega)
  have r1 := Int.emod_lt_of_pos t (b := slide) (by omega)
  have e1 : (t + slide) / slide = t / slide + 1 := by
    have := Int.add_mul_ediv_right t 1 (c := slide) (by omega)
    simpa using this
  have e2 : (t + slide) % slide = t % slide := by simp
  have s0 : 0 ≤ (size - 1 - t % slide) / slide := Int.ediv_nonneg (by omega) (by omega)
  have s1 : (size - 1 - t % slide) / slide ≤ t / slide := Int.ediv_le_ediv (by omega) (by omega)
  have hN : winN size slide (t + slide) = winN size slide t := by unfold winN; rw [e1, e2]; omega
  have hF : winF size slide (t + slide) = winF size slide t + 1 := by unfold winF; rw [hN, e1]; unfold winN; omega
  have l1 := ofL_length hr (show 0 ≤ t by omega) (by omega)
  have l2 := ofL_length hr (show 0 ≤ t + slide by omega) (by omega)
  refine ⟨by rw [l1, l2, hN], by rw [l1]; unfold winN; omega, fun j hj => ?_⟩
  obtain ⟨a1, a2, a3, a4⟩ := ofL_at hr (show 0 ≤ t by omega) (by omega) j hj
  obtain ⟨b1, b2, b3, b4⟩ := ofL_at hr (show 0 ≤ t + slide by omega) (by omega) j (by rw [l2, hN, ← l1]; exact hj)
  have em : ((winF size slide (t + slide) + j : Nat) : Int) * slide = ((winF size slide t + j : Nat) : Int) * slide + slide := by
    rw [hF, show ((winF size slide t + 1 + j : Nat) : Int) = ((winF size slide t + j : Nat) : Int) + 1 from by omega, Int.add_mul, Int.one_mul]
  rw [em] at b1
  refine ⟨_, a2, a3, ?_, ?_⟩
  · rw [a1, addZ_val a2 (by omega) (by omega) (by omega), if_pos (by omega)]
  · rw [b1, addZ_val (by omega) (by omega) (by omega) (by omega), if_pos (by omega)]
    congr 2
    omega

set_option maxRecDepth 100000 in
set_option maxHeartbeats 2000000 in
theorem movesYes (size slide t : Int) (w : World) (hr : rightW size slide = true) (h0 : size ≤ t) (h1 : t < 1099511627776 - size - slide) :
    Calls Try.prog 6 #[.int .i64 size, .int .i64 slide, .int .i64 t] w fun e w' => e = .returned (.bool true) ∧ Below w.heap.size w w' := by
  obtain ⟨p1, p2, p3, p4⟩ := rightW_iff.1 hr
  obtain ⟨hl, hp, hat⟩ := ofL_move hr h0 h1
  have hn17 := ofL_len size slide t
  obtain ⟨L, hL⟩ : ∃ L, ofL size slide t = L := ⟨_, rfl⟩
  obtain ⟨M, hM⟩ : ∃ M, ofL size slide (t + slide) = M := ⟨_, rfl⟩
  rw [hL] at hl hp hat hn17
  rw [hM] at hl hat
  obtain ⟨n, hn⟩ : ∃ n, L.length = n := ⟨_, rfl⟩
  rw [hn] at hl hp hat hn17
  have HL := Lib.hid hL
  have HM := Lib.hid hM
  have HN := Lib.hid hn
  have HN' := Lib.hid hl
  have HAt := Lib.hid hat
  have HR := Lib.hid hr
  clear hat hL hM hn hl hr
  have dn1 : ((n : Int) == 0) = false := by simp; omega
  go_enter Try.func6, Try.ntmps6
  go_wp2_with (go_at_call 10; refine (rightW_any _ _ _ (by omega) (by omega)).mono ?_; rw [HR.out]; rintro e w' ⟨rfl, rfl⟩)
  refine (of_own _ _ _ _ (by omega) (by omega) HL.out HN.out).mono ?_
  rintro e w1 ⟨A, c, rfl, ho1, hb1⟩
  go_wp2_with fail
  refine (of_own _ _ _ _ (by omega) (by omega) HM.out HN'.out).mono ?_
  rintro e w2 ⟨B, d, rfl, ho2, hb2⟩
  have ho1' := own_below ho1 hb2
  have k2 := hb1.trans (hb2.mono hb1.size)
  go_wp2_with fail
  go_loopw [51] (fun i wr => ∃ k : Nat, k ≤ n ∧ i = .int .i64 k ∧ Below w2.heap.size w2 wr) (fun i _ => n - (intOf i).toNat)
  case atStart => exact ⟨0, Nat.zero_le _, rfl, Below.refl _ _⟩
  case round =>
    obtain ⟨k, hk, rfl, hB⟩ := hrel
    by_cases hlt : k < n
    · obtain ⟨lo, g0, g1, hx, hy⟩ := HAt.out k hlt
      obtain ⟨g, rfl, hg, x0, x1⟩ := own_at' (own_below ho1' hB) hlt hx
      obtain ⟨g', rfl, hg', y0, y1⟩ := own_at' (own_below ho2 hB) hlt hy
      dsimp only at x0 x1 y0 y1
      have w1' : IntKind.i64.wrap (lo + slide) = lo + slide := IntWalk.i64_in _ (by omega)
      have w2' : IntKind.i64.wrap (lo + size + slide) = lo + size + slide := IntWalk.i64_in _ (by omega)
      have HW := hB.size
      go_wp2_with fail
      go_quiet (fail)
      go_wp2_with fail
      go_roundw
      case rel => exact ⟨k + 1, by omega, by go_num, below_drewN (hB.alloc (by omega) _) _⟩
      case measure => simp [intOf]; omega
    · go_wp2_with (go_at_call 9; refine (alive_any _).mono ?_; rintro e w' ⟨rfl, rfl⟩)
      go_ret
      exact ⟨rfl, k2.trans (hB.mono k2.size)⟩

set_option maxHeartbeats 1000000 in
theorem walkMoves (size slide t : Int) (w : World) (hs : -9223372036854775808 ≤ size ∧ size ≤ 9223372036854775807) (hl : -9223372036854775808 ≤ slide ∧ slide ≤ 9223372036854775807) :
    Calls Try.prog 6 #[.int .i64 size, .int .i64 slide, .int .i64 t] w fun e w' => e = .returned (.bool true) ∧ Below w.heap.size w w' := by
  cases hr : rightW size slide
  · go_enter Try.func6, Try.ntmps6
    go_wp2_with (first
      | (go_at_call 10; refine (rightW_any _ _ _ hs hl).mono ?_; rw [hr]; rintro e w' ⟨rfl, rfl⟩)
      | (go_at_call 9; refine (alive_any _).mono ?_; rintro e w' ⟨rfl, rfl⟩))
    go_ret
    exact ⟨rfl, Below.refl _ _⟩
  · obtain ⟨p1, p2, p3, p4⟩ := rightW_iff.1 hr
    by_cases h0 : size ≤ t
    · by_cases h1 : t < 1099511627776 - size - slide
      · exact movesYes size slide t w hr h0 h1
      · go_enter Try.func6, Try.ntmps6
        go_wp2_with (first
          | (go_at_call 10; refine (rightW_any _ _ _ hs hl).mono ?_; rw [hr]; rintro e w' ⟨rfl, rfl⟩)
          | (go_at_call 9; refine (alive_any _).mono ?_; rintro e w' ⟨rfl, rfl⟩))
        go_ret
        exact ⟨rfl, Below.refl _ _⟩
    · go_enter Try.func6, Try.ntmps6
      go_wp2_with (first
        | (go_at_call 10; refine (rightW_any _ _ _ hs hl).mono ?_; rw [hr]; rintro e w' ⟨rfl, rfl⟩)
        | (go_at_call 9; refine (alive_any _).mono ?_; rintro e w' ⟨rfl, rfl⟩))
      go_ret
      exact ⟨rfl, Below.refl _ _⟩
end Go.Proofs.Ytijmjndaieimaaa
