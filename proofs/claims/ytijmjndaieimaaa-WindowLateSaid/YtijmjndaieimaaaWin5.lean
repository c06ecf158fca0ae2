/- The reference's Of at whatever arguments; Like of two rows that hold the same windows; the walk of WindowHolds. -/
import Derived.Test.YtijmjndaieimaaaWin4
namespace Go.Proofs.Ytijmjndaieimaaa
open Go.RowKit Go.Shelf
set_option linter.unusedVariables false
set_option linter.unusedSimpArgs false

set_option maxHeartbeats 1000000 in
theorem refOf_any (size slide t : Int) (w : World) (hs : -9223372036854775808 ≤ size ∧ size ≤ 9223372036854775807) (hl : -9223372036854775808 ≤ slide ∧ slide ≤ 9223372036854775807) :
    Calls Try.prog 14 #[.int .i64 size, .int .i64 slide, .int .i64 t] w (OfPost size slide t w) := by
  by_cases h : rightW size slide = true ∧ 0 ≤ t ∧ t < 1099511627776
  · exact refOf_yes size slide t w h.1 h.2.1 h.2.2
  · have ho := ofL_no h
    have hown0 := empty_own w
    unfold OfPost
    rw [ho]
    clear ho
    cases hr : rightW size slide
    · go_enter Try.func14, Try.ntmps14
      go_wp2_with (go_at_call 11; refine (refRight_any _ _ _ hs hl).mono ?_; rw [hr]; rintro e w' ⟨rfl, rfl⟩)
      go_ret
      exact ⟨_, rfl, hown0, by go_grown⟩
    · by_cases ht : 0 ≤ t
      · have ht' : 1099511627776 ≤ t := by
          rcases Int.lt_or_le t 1099511627776 with g | g
          · exact absurd ⟨hr, ht, g⟩ h
          · exact g
        clear h
        go_enter Try.func14, Try.ntmps14
        go_wp2_with (go_at_call 11; refine (refRight_any _ _ _ hs hl).mono ?_; rw [hr]; rintro e w' ⟨rfl, rfl⟩)
        go_ret
        exact ⟨_, rfl, hown0, by go_grown⟩
      · clear h
        go_enter Try.func14, Try.ntmps14
        go_wp2_with (go_at_call 11; refine (refRight_any _ _ _ hs hl).mono ?_; rw [hr]; rintro e w' ⟨rfl, rfl⟩)
        go_ret
        exact ⟨_, rfl, hown0, by go_grown⟩

theorem own_form {w : World} {base : Nat} {e : TypeId} {size : Nat} {v : Value} {n : Nat} {xs : List Value} (h : w.ownsRow base e size v n xs) : ∃ A c, v = .slice A n c := by
  rcases h.2 with ⟨rfl, rfl⟩ | ⟨g, cap, cur, rfl, _⟩
  · exact ⟨_, _, rfl⟩
  · exact ⟨_, _, rfl⟩
/-- The k-th window of an owned row of windows. -/
theorem own_at {w : World} {base n : Nat} {A : Option Addr} {c : Nat} {l : List (Int × Int)} (h : w.ownsRow base 29 2 (.slice A n c) n (winCells l)) {k : Nat} (hk : k < n) :
    ∃ (g : Nat) (hl : k < l.length), A = some ⟨g, 0, none⟩ ∧ g < w.heap.size ∧ w.cell? ⟨g, k * 2, none⟩ = some (.int .i64 l[k].1) ∧ w.cell? ⟨g, k * 2 + 1, none⟩ = some (.int .i64 l[k].2) := by
  obtain ⟨m, rfl⟩ : ∃ m, n = m + 1 := ⟨n - 1, by omega⟩
  obtain ⟨g, cap, e⟩ := ownsRow_succ h
  injection e with e1 _ e3
  subst e1 e3
  obtain ⟨hR, _, hg, _, hlen⟩ := RowW.of_own h
  have hl : k < l.length := by omega
  obtain ⟨c1, c2⟩ := hR.cell hk
  have hx : l.getD k (0, 0) = l[k] := by rw [List.getD_eq_getElem?_getD, List.getElem?_eq_getElem hl]; rfl
  rw [hx] at c1 c2
  exact ⟨g, hl, rfl, hg, c1, c2⟩
theorem own_below {w w' : World} {base : Nat} {e : TypeId} {size : Nat} {v : Value} {n : Nat} {xs : List Value} (h : w.ownsRow base e size v n xs) (hb : Below w.heap.size w w') : w'.ownsRow base e size v n xs := by
  obtain ⟨h1, h2⟩ := h
  refine ⟨h1, ?_⟩
  rcases h2 with h2 | ⟨g, cap, cur, hv, hg, hh, r⟩
  · exact .inl h2
  · exact .inr ⟨g, cap, cur, hv, hg, (hb.block g (Array.getElem?_eq_some_iff.1 hh).1).trans hh, r⟩

set_option maxHeartbeats 1000000 in
theorem like_same (b1 b2 n : Nat) (v1 v2 : Value) (l : List (Int × Int)) (w : World) (h1 : w.ownsRow b1 29 2 v1 n (winCells l)) (h2 : w.ownsRow b2 29 2 v2 n (winCells l)) (hn : n ≤ 1000) :
    Calls Try.prog 12 #[v1, v2] w fun e w' => e = .returned (.bool true) ∧ Below w.heap.size w w' := by
  obtain ⟨A, c, rfl⟩ := own_form h1
  obtain ⟨B, d, rfl⟩ := own_form h2
  go_enter Try.func12, Try.ntmps12
  go_wp2
  go_loopw [13] (fun i wr => ∃ k : Nat, k ≤ n ∧ i = .int .i64 k ∧ ∃ q, wr = w.drewN q) (fun i _ => n - (intOf i).toNat)
  case atStart => exact ⟨0, Nat.zero_le _, rfl, 0, rfl⟩
  case round =>
    obtain ⟨k, hk, rfl, q, rfl⟩ := hrel
    by_cases hlt : k < n
    · obtain ⟨g, hl, rfl, hg, c1, c2⟩ := own_at h1 hlt
      obtain ⟨g', hl', rfl, hg', d1, d2⟩ := own_at h2 hlt
      go_wp2_with fail
      go_quiet (fail)
      go_wp2
      go_roundw
      case rel => exact ⟨k + 1, by omega, by go_num, _, rfl⟩
      case measure => simp [intOf]; omega
    · go_wp2
      go_ret
      exact ⟨rfl, below_drewN (Below.refl _ _) q⟩

theorem ofL_len (size slide t : Int) : (ofL size slide t).length ≤ 17 := by
  unfold ofL
  split
  · rename_i h
    obtain ⟨h1, h2, h3, h4⟩ := rightW_iff.1 h.1
    rw [List.length_reverse, backL_length]
    exact winN_le h1 h2 h4
  · simp

set_option maxHeartbeats 1000000 in
theorem walkHolds (size slide t : Int) (w : World) (hs : -9223372036854775808 ≤ size ∧ size ≤ 9223372036854775807) (hl : -9223372036854775808 ≤ slide ∧ slide ≤ 9223372036854775807) (_ : -9223372036854775808 ≤ t ∧ t ≤ 9223372036854775807) :
    Calls Try.prog 3 #[.int .i64 size, .int .i64 slide, .int .i64 t] w fun e w' => e = .returned (.bool true) ∧ Below w.heap.size w w' := by
  have hn := ofL_len size slide t
  go_enter Try.func3, Try.ntmps3
  go_wp2_with (first
    | (go_at_call 9; refine (alive_any _).mono ?_; rintro e w' ⟨rfl, rfl⟩)
    | (go_at_call 10; refine (rightW_any _ _ _ hs hl).mono ?_; rintro e w' ⟨rfl, rfl⟩)
    | (go_at_call 11; refine (refRight_any _ _ _ hs hl).mono ?_; rintro e w' ⟨rfl, rfl⟩))
  refine (of_any _ _ _ _ hs hl).mono ?_
  rintro e w1 ⟨v1, rfl, ho1, hb1⟩
  go_wp2_with fail
  refine (refOf_any _ _ _ _ hs hl).mono ?_
  rintro e w2 ⟨v2, rfl, ho2, hb2⟩
  have k2 := hb1.trans (hb2.mono hb1.size)
  go_wp2_with fail
  refine (like_same _ _ _ _ _ _ _ (own_below ho1 hb2) ho2 (by omega)).mono ?_
  rintro e w3 ⟨rfl, hb3⟩
  have k3 := k2.trans (hb3.mono k2.size)
  go_wp2
  go_ret
  exact ⟨rfl, k3⟩
end Go.Proofs.Ytijmjndaieimaaa
