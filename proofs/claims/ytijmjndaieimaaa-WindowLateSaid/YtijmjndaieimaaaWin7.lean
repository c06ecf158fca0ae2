/- window.Closed, the closure of window.Open, and slices.IndexFunc at a row of windows. -/
import Derived.Test.YtijmjndaieimaaaWin6
import Derived.Shelf.Abstract
namespace Go.Proofs.Ytijmjndaieimaaa
open Go.RowKit Go.Shelf
set_option linter.unusedVariables false
set_option linter.unusedSimpArgs false

set_option maxHeartbeats 400000 in
theorem closed_any (a b mark : Int) (w : World) : Calls Try.prog 15 #[.agg #[.int .i64 a, .int .i64 b], .int .i64 mark] w fun e w' => e = .returned (.bool (decide (b ≤ mark))) ∧ Below w.heap.size w w' := by
  go_enter Try.func15, Try.ntmps15
  go_wp2
  go_ret
  exact ⟨rfl, by go_grown⟩

set_option maxHeartbeats 400000 in
theorem openFn_any (a b mark : Int) (m : Nat) (w : World) (hml : m < w.heap.size) (hm : w.cell? ⟨m, 0, none⟩ = some (.int .i64 mark)) :
    Calls Try.prog 22 #[.agg #[.int .i64 a, .int .i64 b], .pointer (some ⟨m, 0, none⟩)] w fun e w' => e = .returned (.bool (decide (b ≤ mark))) ∧ Below w.heap.size w w' := by
  go_enter Try.func22, Try.ntmps22
  go_wp2_with (go_at_call 15; refine (closed_any _ _ _ _).mono ?_; rintro e w1 ⟨rfl, hb⟩)
  go_ret
  exact ⟨rfl, next_below (by go_grown) hb⟩

theorem RowW.below {w w' : World} {g cap n : Nat} {f : Nat → Int × Int} (h : RowW w g cap n f) (hb : Below w.heap.size w w') : RowW w' g cap n f := by
  obtain ⟨cur, hbl, r⟩ := h
  exact ⟨cur, hbl.below hb hbl.lt, r⟩
theorem RowW.lt {w : World} {g cap n : Nat} {f : Nat → Int × Int} (h : RowW w g cap n f) : g < w.heap.size := by
  obtain ⟨cur, hbl, r⟩ := h
  exact hbl.lt

/-- The place of the first window that is closed at the mark, or -1. -/
def IdxPost (n : Nat) (f : Nat → Int × Int) (mark : Int) (w : World) (e : Ending) (w' : World) : Prop :=
  Below w.heap.size w w' ∧ ((e = .returned (.int .i64 (-1)) ∧ ∀ p, p < n → mark < (f p).2) ∨ ∃ k : Nat, e = .returned (.int .i64 k) ∧ k < n ∧ (f k).2 ≤ mark ∧ ∀ p, p < k → mark < (f p).2)

set_option maxHeartbeats 2000000 in
theorem indexFunc_any (g cap n m : Nat) (f : Nat → Int × Int) (mark : Int) (w : World) (hR : RowW w g cap n f) (hn : n ≤ 1000) (hm : w.cell? ⟨m, 0, none⟩ = some (.int .i64 mark)) (hml : m < w.heap.size) :
    Calls Try.prog 27 #[.slice (some ⟨g, 0, none⟩) n cap, .func (.func 22) #[] #[.pointer (some ⟨m, 0, none⟩)]] w (IdxPost n f mark w) := by
  go_enter Try.func27, Try.ntmps27
  go_wp2
  go_loopw [8] (fun i wr => ∃ k : Nat, k ≤ n ∧ i = .int .i64 k ∧ Below w.heap.size w wr ∧ ∀ p, p < k → mark < (f p).2) (fun i _ => n - (intOf i).toNat)
  case atStart => exact ⟨0, Nat.zero_le _, rfl, Below.refl _ _, fun p hp => absurd hp (by omega)⟩
  case round =>
    obtain ⟨k, hk, rfl, hB, hall⟩ := hrel
    by_cases hlt : k < n
    · obtain ⟨c1, c2⟩ := (hR.below hB).cell hlt
      have hmm := hB.cell (p := ⟨m, 0, none⟩) hml
      rw [hm] at hmm
      have hlt2 : m < wr.heap.size := Nat.lt_of_lt_of_le hml hB.size
      by_cases hc : (f k).2 ≤ mark
      · have hcd : decide ((f k).2 ≤ mark) = true := by simp [hc]
        go_wp2_with (go_at_call 22; refine (openFn_any _ _ mark m _ hlt2 hmm).mono ?_; rw [hcd]; rintro e w1 ⟨rfl, hb⟩)
        go_ret
        exact ⟨hB.trans (hb.mono hB.size), .inr ⟨k, rfl, hlt, hc, hall⟩⟩
      · have hcd : decide ((f k).2 ≤ mark) = false := by simp; omega
        go_wp2_with (go_at_call 22; refine (openFn_any _ _ mark m _ hlt2 hmm).mono ?_; rw [hcd]; rintro e w1 ⟨rfl, hb⟩)
        go_roundw
        case rel => exact ⟨k + 1, by omega, by go_num, hB.trans (hb.mono hB.size), fun p hp => by
          rcases Nat.lt_succ_iff_lt_or_eq.1 hp with h | h
          · exact hall p h
          · subst h; omega⟩
        case measure => simp [intOf]; omega
    · go_wp2
      go_ret
      exact ⟨hB, .inl ⟨rfl, fun p hp => hall p (by omega)⟩⟩
end Go.Proofs.Ytijmjndaieimaaa
