/- What the windows of a time are, one by one. -/
import Derived.Test.YtijmjndaieimaaaWin5
namespace Go.Proofs.Ytijmjndaieimaaa
open Go.RowKit Go.Shelf
set_option linter.unusedVariables false
set_option linter.unusedSimpArgs false

theorem addZ_val {lo size : Int} (h0 : 0 ≤ lo) (h1 : lo ≤ 1099511627776) (h2 : 0 ≤ size) (h3 : size ≤ 1099511627776) : addZ lo size = if lo + size ≤ 1099511627776 then lo + size else 1099511627776 := by
  have e1 : clampZ lo = lo := by unfold clampZ; rw [if_neg (by omega), if_neg (by omega)]
  have e2 : clampZ size = size := by unfold clampZ; rw [if_neg (by omega), if_neg (by omega)]
  unfold addZ
  rw [e1, e2]
  unfold clampZ
  (repeat' split) <;> omega

/-- Window number j of those that hold a time. -/
theorem ofL_at {size slide t : Int} (hr : rightW size slide = true) (ht : 0 ≤ t) (ht' : t < 1099511627776) (j : Nat) (hj : j < (ofL size slide t).length) :
    (ofL size slide t)[j]? = some (((winF size slide t + j : Nat) : Int) * slide, addZ (((winF size slide t + j : Nat) : Int) * slide) size) ∧ 0 ≤ ((winF size slide t + j : Nat) : Int) * slide ∧ ((winF size slide t + j : Nat) : Int) * slide ≤ t ∧ t - size < ((winF size slide t + j : Nat) : Int) * slide := by
  obtain ⟨h1, h2, h3, h4⟩ := rightW_iff.1 hr
  have hofl : ofL size slide t = (backL size slide t).reverse := by unfold ofL; rw [if_pos ⟨hr, ht, ht'⟩]
  have hlen : (ofL size slide t).length = winN size slide t := by rw [hofl, List.length_reverse, backL_length]
  obtain ⟨hN, A, B, C, D, E, G, d1, d2⟩ := win_facts h1 h2 h3 ht ht'
  rw [← hofl] at C
  have hk : winF size slide t + j ≤ (t / slide).toNat := by unfold winF; omega
  have c := C (winF size slide t + j) (by omega) hk
  rw [show winF size slide t + j - winF size slide t = j from by omega] at c
  exact ⟨c, E _, (A _).2 hk, (B _ hk).2 (by omega)⟩
theorem ofL_length {size slide t : Int} (hr : rightW size slide = true) (ht : 0 ≤ t) (ht' : t < 1099511627776) : (ofL size slide t).length = winN size slide t := by
  have hofl : ofL size slide t = (backL size slide t).reverse := by unfold ofL; rw [if_pos ⟨hr, ht, ht'⟩]
  rw [hofl, List.length_reverse, backL_length]

theorem winN_counts {size slide t : Int} (h1 : 1 ≤ slide) (h2 : slide ≤ size) (ht : 0 ≤ t) : 1 ≤ winN size slide t ∧ (winN size slide t : Int) ≤ size / slide + 1 ∧ (size - 1 ≤ t → size / slide ≤ winN size slide t) ∧ (size = slide → winN size slide t = 1) := by
  have r0 := Int.emod_nonneg t (b := slide) (by omega)
  have r1 := Int.emod_lt_of_pos t (b := slide) (by omega)
  have q0 : 0 ≤ t / slide := Int.ediv_nonneg ht (by omega)
  have s0 : 0 ≤ (size - 1 - t % slide) / slide := Int.ediv_nonneg (by omega) (by omega)
  have a1 : (size - 1 - t % slide) / slide ≤ size / slide := Int.ediv_le_ediv (by omega) (by omega)
  have e1 : (size - slide) / slide = size / slide - 1 := by
    have := Int.sub_mul_ediv_right size 1 (c := slide) (by omega)
    simpa using this
  have a2 : (size - slide) / slide ≤ (size - 1 - t % slide) / slide := Int.ediv_le_ediv (by omega) (by omega)
  refine ⟨by unfold winN; omega, by unfold winN; omega, fun h => ?_, fun h => ?_⟩
  · have a3 : (size - slide) / slide ≤ t / slide := Int.ediv_le_ediv (by omega) (by omega)
    unfold winN; omega
  · have : (size - 1 - t % slide) / slide = 0 := Int.ediv_eq_zero_of_lt (by omega) (by omega)
    unfold winN; omega

theorem own_at' {w : World} {base n : Nat} {A : Option Addr} {c : Nat} {l : List (Int × Int)} (h : w.ownsRow base 29 2 (.slice A n c) n (winCells l)) {k : Nat} (hk : k < n) {x : Int × Int} (hx : l[k]? = some x) :
    ∃ g, A = some ⟨g, 0, none⟩ ∧ g < w.heap.size ∧ w.cell? ⟨g, k * 2, none⟩ = some (.int .i64 x.1) ∧ w.cell? ⟨g, k * 2 + 1, none⟩ = some (.int .i64 x.2) := by
  obtain ⟨g, hl, e, hg, c1, c2⟩ := own_at h hk
  rw [List.getElem?_eq_getElem hl] at hx
  injection hx with hx
  subst hx
  exact ⟨g, e, hg, c1, c2⟩

/-- What window.Of leaves, the windows by name. -/
def OwnPost (L : List (Int × Int)) (n : Nat) (w : World) (e : Ending) (w' : World) : Prop := ∃ A c, e = .returned (.slice A n c) ∧ w'.ownsRow w.heap.size 29 2 (.slice A n c) n (winCells L) ∧ Below w.heap.size w w'
theorem of_own (size slide t : Int) (w : World) (hs : -9223372036854775808 ≤ size ∧ size ≤ 9223372036854775807) (hl : -9223372036854775808 ≤ slide ∧ slide ≤ 9223372036854775807) {L : List (Int × Int)} {n : Nat} (hL : ofL size slide t = L) (hn : L.length = n) :
    Calls Try.prog 13 #[.int .i64 size, .int .i64 slide, .int .i64 t] w (OwnPost L n w) := by
  refine (of_any size slide t w hs hl).mono ?_
  rintro e w1 ⟨v, rfl, ho, hb⟩
  rw [hL, hn] at ho
  obtain ⟨A, c, rfl⟩ := own_form ho
  exact ⟨A, c, rfl, ho, hb⟩

end Go.Proofs.Ytijmjndaieimaaa
