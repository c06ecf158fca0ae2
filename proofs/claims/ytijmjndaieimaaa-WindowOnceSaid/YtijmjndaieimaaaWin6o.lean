/- The walk of WindowOnce. -/
import Derived.Test.YtijmjndaieimaaaWin6
namespace Go.Proofs.Ytijmjndaieimaaa
open Go.RowKit Go.Shelf
set_option linter.unusedVariables false
set_option linter.unusedSimpArgs false

/-- A window that holds a time is among those of each other time that it holds. -/
theorem ofL_once {size slide t : Int} (hr : rightW size slide = true) (ht : 0 ≤ t) (ht' : t < 1099511627776) (j : Nat) (hj : j < (ofL size slide t).length) :
    ∃ lo hi : Int, (ofL size slide t)[j]? = some (lo, hi) ∧ 0 ≤ lo ∧ lo < hi ∧ hi ≤ 1099511627776 ∧
      ∀ u, lo ≤ u → u < hi → ∃ m, m < (ofL size slide u).length ∧ (ofL size slide u)[m]? = some (lo, hi) := by
  obtain ⟨h1, h2, h3, h4⟩ := rightW_iff.1 hr
  obtain ⟨a1, a2, a3, a4⟩ := ofL_at hr ht ht' j hj
  generalize winF size slide t + j = K at *
  have hv := addZ_val (size := size) a2 (by omega) (by omega) (by omega)
  refine ⟨_, _, a1, a2, by rw [hv]; split <;> omega, by rw [hv]; split <;> omega, fun u hu hu' => ?_⟩
  have hu2 : u < 1099511627776 ∧ u - size < (K : Int) * slide := by
    rw [hv] at hu'
    split at hu' <;> omega
  obtain ⟨hN, A, B, C, D, E, G, d1, d2⟩ := win_facts h1 h2 h3 (show 0 ≤ u by omega) hu2.1
  have hofl : ofL size slide u = (backL size slide u).reverse := by unfold ofL; rw [if_pos ⟨hr, by omega, hu2.1⟩]
  have hlen := ofL_length hr (show 0 ≤ u by omega) hu2.1
  have hK := (A K).1 hu
  have hF := (B K hK).1 hu2.2
  rw [← hofl] at C
  refine ⟨K - winF size slide u, ?_, C K hF hK⟩
  rw [hlen]
  unfold winF at hF ⊢
  omega

set_option maxRecDepth 100000 in
set_option maxHeartbeats 2000000 in
theorem onceYes (size slide t by_ : Int) (k : Int) (w : World) (hr : rightW size slide = true) (ht : 0 ≤ t) (ht' : t < 1099511627776) (hk : -9223372036854775808 ≤ k ∧ k ≤ 9223372036854775807) (hby : -9223372036854775808 ≤ by_ ∧ by_ ≤ 9223372036854775807) :
    Calls Try.prog 5 #[.int .i64 size, .int .i64 slide, .int .i64 t, .int .i64 k, .int .i64 by_] w fun e w' => e = .returned (.bool true) ∧ Below w.heap.size w w' := by
  obtain ⟨p1, p2, p3, p4⟩ := rightW_iff.1 hr
  have hn17 := ofL_len size slide t
  have hpos : 0 < (ofL size slide t).length := by rw [ofL_length hr ht ht']; unfold winN; omega
  obtain ⟨n, hn⟩ : ∃ n, (ofL size slide t).length = n := ⟨_, rfl⟩
  rw [hn] at hpos hn17
  -- which one
  have k0 := Int.tmod_lt_of_pos k (show (0 : Int) < n by omega)
  have k1 : -(n : Int) < k.tmod n := by
    have := Int.lt_tmod_of_pos k (show (0 : Int) < n by omega)
    omega
  obtain ⟨j, hj⟩ := Int.eq_ofNat_of_zero_le (Int.emod_nonneg (k.tmod n + n) (b := n) (by omega))
  have hjn : j < n := by
    have := Int.emod_lt_of_pos (k.tmod n + n) (b := n) (by omega)
    omega
  obtain ⟨lo, hi, hx, l0, l1, l2, hall⟩ := ofL_once hr ht ht' j (by rw [hn]; exact hjn)
  obtain ⟨d, hd⟩ : ∃ d, hi - lo = d := ⟨_, rfl⟩
  have b0 := Int.tmod_lt_of_pos by_ (show (0 : Int) < d by omega)
  have b1 := Int.lt_tmod_of_pos by_ (show (0 : Int) < d by omega)
  obtain ⟨r, hr'⟩ : ∃ r, (by_.tmod d + d).tmod d = r := ⟨_, rfl⟩
  have r0 : 0 ≤ r ∧ r < d := by
    rw [← hr', Int.tmod_eq_emod_of_nonneg (by omega)]
    exact ⟨Int.emod_nonneg _ (by omega), Int.emod_lt_of_pos _ (by omega)⟩
  obtain ⟨m, hm, hy⟩ := hall (lo + r) (by omega) (by omega)
  have hn17' := ofL_len size slide (lo + r)
  obtain ⟨M, hM⟩ : ∃ M, ofL size slide (lo + r) = M := ⟨_, rfl⟩
  rw [hM] at hm hy hn17'
  obtain ⟨n', hn'⟩ : ∃ n', M.length = n' := ⟨_, rfl⟩
  rw [hn'] at hm hn17'
  obtain ⟨L, hL⟩ : ∃ L, ofL size slide t = L := ⟨_, rfl⟩
  rw [hL] at hn hx
  have HL := Lib.hid hL
  have HN := Lib.hid hn
  have HM := Lib.hid hM
  have HN' := Lib.hid hn'
  have e1 : IntKind.i64.wrap (by_.tmod d + d) = by_.tmod d + d := IntWalk.i64_in _ (by omega)
  have e2 : IntKind.i64.wrap (lo + r) = lo + r := IntWalk.i64_in _ (by omega)
  have dn1 : ((n : Int) == 0) = false := by simp; omega
  have dd : decide (d < 1) = false := by simp; omega
  have hd1 : 1 ≤ d := by omega
  have hd2 : d ≤ 1099511627776 := by omega
  clear hL hn hM hn' hr hall
  go_enter Try.func5, Try.ntmps5
  go_wp2_with fail
  refine (of_own _ _ _ _ (by omega) (by omega) HL.out HN.out).mono ?_
  rintro e w1 ⟨A, c, rfl, ho1, hb1⟩
  obtain ⟨g, rfl, hg, x0, x1⟩ := own_at' ho1 hjn hx
  dsimp only at x0 x1
  go_wp2_with fail
  go_quiet (fail)
  go_wp2_with fail
  refine (of_own _ _ _ _ (by omega) (by omega) HM.out HN'.out).mono ?_
  rintro e w2 ⟨B, c', rfl, ho2, hb2⟩
  have kB : Blk w2 w1.heap.size 29 #[.int .i64 lo, .int .i64 hi] := ((Blk.new w1 29 #[.int .i64 lo, .int .i64 hi]).drewN nq).below hb2 ((Blk.new w1 29 #[.int .i64 lo, .int .i64 hi]).drewN nq).lt
  have k2 : Below w.heap.size w w2 := (below_drewN (hb1.alloc hb1.size _) nq).trans (hb2.mono (by have := hb1.size; simp; omega))
  go_wp2_with fail
  go_loopw [60] (fun i wr => ∃ q : Nat, q ≤ m ∧ i = .int .i64 q ∧ Below w2.heap.size w2 wr) (fun i _ => m - (intOf i).toNat)
  case atStart => exact ⟨0, Nat.zero_le _, rfl, Below.refl _ _⟩
  case round =>
    obtain ⟨q, hq, rfl, hB⟩ := hrel
    have kB' := kB.below hB kB.lt
    have z0 := kB'.cell 0
    have z1 := kB'.cell 1
    simp at z0 z1
    have zl := kB'.lt
    have hql : q < n' := by omega
    obtain ⟨xl, xh, hxq⟩ : ∃ xl xh, M[q]? = some (xl, xh) := ⟨_, _, List.getElem?_eq_getElem (by rw [HN'.out]; exact hql)⟩
    obtain ⟨g', rfl, hg', y0, y1⟩ := own_at' (own_below ho2 hB) hql hxq
    dsimp only at y0 y1
    by_cases hqm : q = m
    · subst hqm
      rw [hy] at hxq
      injection hxq with hxq
      injection hxq with e5 e6
      subst e5 e6
      go_wp2_with (go_at_call 9; refine (alive_any _).mono ?_; rintro e w' ⟨rfl, rfl⟩)
      go_ret
      exact ⟨rfl, (k2.trans (hB.mono k2.size)).alloc (by have := k2.size; have := hB.size; omega) _⟩
    · cases c1 : (xl == lo) <;> cases c2 : (xh == hi)
      all_goals
        go_wp2_with (go_at_call 9; refine (alive_any _).mono ?_; rintro e w' ⟨rfl, rfl⟩)
        first
          | (go_roundw
             case rel => exact ⟨q + 1, by omega, by go_num, hB.alloc hB.size _⟩
             case measure => simp [intOf]; omega)
          | (go_ret
             exact ⟨rfl, (k2.trans (hB.mono k2.size)).alloc (by have := k2.size; have := hB.size; omega) _⟩)

set_option maxHeartbeats 1000000 in
theorem walkOnce (size slide t by_ : Int) (k : Int) (w : World) (hs : -9223372036854775808 ≤ size ∧ size ≤ 9223372036854775807) (hl : -9223372036854775808 ≤ slide ∧ slide ≤ 9223372036854775807) (hk : -9223372036854775808 ≤ k ∧ k ≤ 9223372036854775807) (hby : -9223372036854775808 ≤ by_ ∧ by_ ≤ 9223372036854775807) :
    Calls Try.prog 5 #[.int .i64 size, .int .i64 slide, .int .i64 t, .int .i64 k, .int .i64 by_] w fun e w' => e = .returned (.bool true) ∧ Below w.heap.size w w' := by
  by_cases h : rightW size slide = true ∧ 0 ≤ t ∧ t < 1099511627776
  · exact onceYes size slide t by_ k w h.1 h.2.1 h.2.2 hk hby
  · have HO := Lib.hid (ofL_no h)
    clear h
    go_enter Try.func5, Try.ntmps5
    go_wp2_with fail
    refine (of_own _ _ _ _ hs hl HO.out rfl).mono ?_
    rintro e w1 ⟨A, c, rfl, ho1, hb1⟩
    go_wp2_with (go_at_call 9; refine (alive_any _).mono ?_; rintro e w' ⟨rfl, rfl⟩)
    go_ret
    exact ⟨rfl, hb1⟩
end Go.Proofs.Ytijmjndaieimaaa
