/- The walk of WindowCounts. -/
import Derived.Test.YtijmjndaieimaaaWin6
namespace Go.Proofs.Ytijmjndaieimaaa
open Go.RowKit Go.Shelf
set_option linter.unusedVariables false
set_option linter.unusedSimpArgs false

set_option maxRecDepth 100000 in
set_option maxHeartbeats 4000000 in
theorem countsYes (size slide t : Int) (w : World) (hr : rightW size slide = true) (ht : 0 ≤ t) (ht' : t < 1099511627776) :
    Calls Try.prog 4 #[.int .i64 size, .int .i64 slide, .int .i64 t] w fun e w' => e = .returned (.bool true) ∧ Below w.heap.size w w' := by
  obtain ⟨h1, h2, h3, h4⟩ := rightW_iff.1 hr
  have hn17 := ofL_len size slide t
  obtain ⟨c1, c2, c3, c4⟩ := winN_counts (t := t) h1 h2 ht
  rw [← ofL_length hr ht ht'] at c1 c2 c3 c4
  have hat := ofL_at hr ht ht'
  obtain ⟨L, hL⟩ : ∃ L, ofL size slide t = L := ⟨_, rfl⟩
  rw [hL] at c1 c2 c3 c4 hn17
  simp only [hL] at hat
  obtain ⟨n, hn⟩ : ∃ n, L.length = n := ⟨_, rfl⟩
  rw [hn] at c1 c2 c3 c4 hn17
  have HL := Lib.hid hL
  have HN := Lib.hid hn
  have HAt := Lib.hid hat
  have HR := Lib.hid hr
  generalize winF size slide t = F at *
  clear hat hL hn hr
  have q0 := Int.ediv_nonneg (a := size) (b := slide) (by omega) (by omega)
  have q1 := Int.ediv_le_self slide (a := size) (by omega)
  have dt1 : decide (t < 0) = false := by simp; omega
  have dt2 : decide (1099511627776 ≤ t) = false := by simp; omega
  have dn1 : decide ((n : Int) < 1) = false := by simp; omega
  have dn2 : decide (size / slide + 1 < (n : Int)) = false := by simp; omega
  -- the two conditions on the number
  have key : ∀ (b1 b2 : Bool), decide (size - 1 ≤ t) = b1 → (size == slide) = b2 → (b1 = true → decide ((n : Int) < size / slide) = false) ∧ (b2 = true → ((n : Int) != 1) = false) := by
    intro b1 b2 e1 e2
    refine ⟨fun h => ?_, fun h => ?_⟩
    · have := c3 (by rw [h] at e1; simpa using e1)
      simp; omega
    · have := c4 (by rw [h] at e2; simpa using e2)
      rw [this]; rfl
  clear c2 c3 c4
  cases e1 : decide (size - 1 ≤ t) <;> cases e2 : (size == slide)
  all_goals
    obtain ⟨k1, k2⟩ := key _ _ e1 e2
    clear key
    try have k1' := k1 rfl
    try have k2' := k2 rfl
    clear k1 k2
    go_enter Try.func4, Try.ntmps4
    go_wp2_with fail
    refine (of_own _ _ _ _ (by omega) (by omega) HL.out HN.out).mono ?_
    rintro e w1 ⟨A, c, rfl, ho1, hb1⟩
    go_wp2_with (go_at_call 10; refine (rightW_any _ _ _ (by omega) (by omega)).mono ?_; rw [HR.out]; rintro e w' ⟨rfl, rfl⟩)
    go_loopw [69] (fun i wr => ∃ k : Nat, k ≤ n ∧ i = .int .i64 k ∧ Below w1.heap.size w1 wr) (fun i _ => n - (intOf i).toNat)
    case atStart => exact ⟨0, Nat.zero_le _, rfl, Below.refl _ _⟩
    case round =>
      obtain ⟨k, hk, rfl, hB⟩ := hrel
      by_cases hlt : k < n
      · obtain ⟨hx, p0, p1, p2⟩ := HAt.out k (by rw [HN.out]; exact hlt)
        have hm : ((F + k : Nat) : Int) * slide % slide = 0 := Int.mul_emod_left _ _
        have hmt : (((F + k : Nat) : Int) * slide).tmod slide = 0 := by rw [Int.tmod_eq_emod_of_nonneg p0]; exact hm
        have hprev : k = 0 ∨ ∃ k', k = k' + 1 ∧ ∃ lo' hi', L[k']? = some (lo', hi') ∧ 0 ≤ lo' ∧ lo' + slide = ((F + k : Nat) : Int) * slide := by
          rcases Nat.eq_zero_or_pos k with h0 | h0
          · exact .inl h0
          · obtain ⟨k', rfl⟩ : ∃ k', k = k' + 1 := ⟨k - 1, by omega⟩
            obtain ⟨hx', p0', _, _⟩ := HAt.out k' (by rw [HN.out]; omega)
            refine .inr ⟨k', rfl, _, _, hx', p0', ?_⟩
            rw [show ((F + (k' + 1) : Nat) : Int) = ((F + k' : Nat) : Int) + 1 from by omega, Int.add_mul, Int.one_mul]
        have hv := addZ_val (size := size) p0 (by omega) (by omega) (by omega)
        generalize ((F + k : Nat) : Int) * slide = lo at *
        generalize hhi : addZ lo size = hi at *
        have hh : t < hi ∧ hi ≤ 1099511627776 ∧ (hi = 1099511627776 ∨ hi - lo = size) := by
          rw [hv]
          split <;> omega
        clear hv hhi
        obtain ⟨g1, g2, g3⟩ := hh
        obtain ⟨g, rfl, hg, x0, x1⟩ := own_at' (own_below ho1 hB) hlt hx
        dsimp only at x0 x1
        have d1 : (lo.tmod slide != 0) = false := by rw [hmt]; rfl
        have d1' : (lo % slide != 0) = false := by rw [hm]; rfl
        clear hm hmt
        have d2 : decide (t < lo) = false := by simp; omega
        have d3 : decide (hi ≤ t) = false := by simp; omega
        have d4 : decide (1099511627776 < hi) = false := by simp; omega
        have w1' : IntKind.i64.wrap (hi - lo) = hi - lo := IntWalk.i64_in _ (by omega)
        have HW := hB.size
        have hdis : (hi != 1099511627776) = false ∨ ((hi != 1099511627776) = true ∧ (hi - lo != size) = false) := by
          rcases g3 with g3 | g3
          · exact .inl (by rw [g3]; rfl)
          · by_cases h : hi = 1099511627776
            · exact .inl (by rw [h]; rfl)
            · exact .inr ⟨by simpa using h, by rw [g3]; simp⟩
        clear g3
        rcases hprev with rfl | ⟨k', rfl, lo', hi', hx', p0', hlo'⟩
        · rcases hdis with d5 | ⟨d5, d6⟩
          all_goals
            go_wp2_with fail
            go_quiet (fail)
            go_wp2_with fail
            go_roundw
            case rel => exact ⟨0 + 1, by omega, by go_num, below_drewN (hB.alloc (by omega) _) _⟩
            case measure => simp [intOf]; omega
        · obtain ⟨g', e', _, y0, y1⟩ := own_at' (own_below ho1 hB) (show k' < n by omega) hx'
          injection e' with e'
          injection e' with e'
          subst e'
          dsimp only at y0 y1
          have d7 : (lo != lo' + slide) = false := by rw [hlo']; simp
          have w2' : IntKind.i64.wrap (lo' + slide) = lo' + slide := IntWalk.i64_in _ (by omega)
          have w3' : IntKind.i64.wrap ((k' : Int) + 1 - 1) = k' := by rw [IntWalk.i64_in _ (by omega)]; omega
          have d0 : decide ((0 : Int) < (k' : Int) + 1) = true := decide_eq_true (by omega)
          clear hlo'
          rcases hdis with d5 | ⟨d5, d6⟩
          all_goals
            go_wp2_with fail
            go_quiet (fail)
            go_wp2_with fail
            go_roundw
            case rel => exact ⟨k' + 1 + 1, by omega, by go_num, below_drewN (hB.alloc (by omega) _) _⟩
            case measure => simp [intOf]; omega
      · go_wp2_with (go_at_call 9; refine (alive_any _).mono ?_; rintro e w' ⟨rfl, rfl⟩)
        go_ret
        exact ⟨rfl, hb1.trans (hB.mono hb1.size)⟩

set_option maxHeartbeats 1000000 in
theorem walkCounts (size slide t : Int) (w : World) (hs : -9223372036854775808 ≤ size ∧ size ≤ 9223372036854775807) (hl : -9223372036854775808 ≤ slide ∧ slide ≤ 9223372036854775807) :
    Calls Try.prog 4 #[.int .i64 size, .int .i64 slide, .int .i64 t] w fun e w' => e = .returned (.bool true) ∧ Below w.heap.size w w' := by
  by_cases h : rightW size slide = true ∧ 0 ≤ t ∧ t < 1099511627776
  · exact countsYes size slide t w h.1 h.2.1 h.2.2
  · have ho := ofL_no h
    have HO := Lib.hid ho
    clear ho
    cases hr : rightW size slide
    · go_enter Try.func4, Try.ntmps4
      go_wp2_with fail
      refine (of_own _ _ _ _ hs hl HO.out rfl).mono ?_
      rintro e w1 ⟨A, c, rfl, ho1, hb1⟩
      go_wp2_with (first
        | (go_at_call 10; refine (rightW_any _ _ _ hs hl).mono ?_; rw [hr]; rintro e w' ⟨rfl, rfl⟩)
        | (go_at_call 9; refine (alive_any _).mono ?_; rintro e w' ⟨rfl, rfl⟩))
      go_ret
      exact ⟨rfl, hb1⟩
    · by_cases ht : 0 ≤ t
      · have ht' : 1099511627776 ≤ t := by
          rcases Int.lt_or_le t 1099511627776 with g | g
          · exact absurd ⟨hr, ht, g⟩ h
          · exact g
        clear h
        go_enter Try.func4, Try.ntmps4
        go_wp2_with fail
        refine (of_own _ _ _ _ hs hl HO.out rfl).mono ?_
        rintro e w1 ⟨A, c, rfl, ho1, hb1⟩
        go_wp2_with (first
          | (go_at_call 10; refine (rightW_any _ _ _ hs hl).mono ?_; rw [hr]; rintro e w' ⟨rfl, rfl⟩)
          | (go_at_call 9; refine (alive_any _).mono ?_; rintro e w' ⟨rfl, rfl⟩))
        go_ret
        exact ⟨rfl, hb1⟩
      · clear h
        go_enter Try.func4, Try.ntmps4
        go_wp2_with fail
        refine (of_own _ _ _ _ hs hl HO.out rfl).mono ?_
        rintro e w1 ⟨A, c, rfl, ho1, hb1⟩
        go_wp2_with (first
          | (go_at_call 10; refine (rightW_any _ _ _ hs hl).mono ?_; rw [hr]; rintro e w' ⟨rfl, rfl⟩)
          | (go_at_call 9; refine (alive_any _).mono ?_; rintro e w' ⟨rfl, rfl⟩))
        go_ret
        exact ⟨rfl, hb1⟩
end Go.Proofs.Ytijmjndaieimaaa
