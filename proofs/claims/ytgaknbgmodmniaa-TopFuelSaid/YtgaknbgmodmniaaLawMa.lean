/- Walk of SourceMarks. -/
import Derived.Test.YtgaknbgmodmniaaSrc10
import Derived.Deep.CutRange
namespace Go.Proofs.Ytgaknbgmodmniaa
open Go.RowKit
set_option linter.unusedVariables false
set_option linter.unusedSimpArgs false

theorem undrew1 {W x : World} (h : Below W.drew.heap.size W.drew x) : Below W.heap.size W x := ⟨h.os, h.tape, h.output, h.size, h.block⟩
theorem newZ_ok {j : Jb} {ls : List Ev} (h : (newZ j ls 0).2 = 0) : jobB j = true ∧ inB ls = true ∧ newZ j ls 0 = (⟨ls, 0, markL j [], 0, false⟩, 0) := by
  unfold newZ at h ⊢
  by_cases hJ : jobB j = false
  · rw [if_pos hJ] at h; simp at h
  · rw [if_neg hJ] at h ⊢
    by_cases hB : inB ls = false ∨ (0 : Int) < 0 ∨ (ls.length : Int) < 0
    · rw [if_pos hB] at h; simp at h
    · rw [if_neg hB]
      refine ⟨by simpa using hJ, ?_, rfl⟩
      cases hI : inB ls
      · exact absurd (.inl hI) hB
      · rfl
/-- A source behind so many events. -/
theorem src_at {j : Jb} {ls : List Ev} {k : Nat} (hI : inB ls = true) (hk : k ≤ ls.length) : srcB ⟨ls, k, markL j (ls.take k), 0, false⟩ = true :=
  srcB_iff.2 ⟨hI, ⟨by simp, by simp; omega⟩, markL_bd j _, ⟨by simp, by simp⟩, by simp⟩
theorem next_at {j : Jb} {ls : List Ev} {k : Nat} (hJ : jobB j = true) (hI : inB ls = true) (hk : k < ls.length) :
    ∃ l, nextR j ⟨ls, k, markL j (ls.take k), 0, false⟩ = (⟨ls, (k : Int) + 1, markL j (ls.take (k + 1)), 0, false⟩, l, 0) := by
  refine ⟨toldE j (markL j (ls.take k)) ls[k] ++ toldM j (markL j (ls.take k)) ls[k], ?_⟩
  unfold nextR
  rw [if_neg (by rw [hJ]; simp), if_neg (by rw [src_at hI (by omega)]; simp), if_neg (by simp)]
  unfold nextZ
  rw [if_neg (by simp)]
  simp only [Int.toNat_natCast]
  rw [List.getElem?_eq_getElem hk, markL_take hk]
/-- What 'n' is brought to. -/
theorem mod_at (n : Int) (m : Nat) : ∃ (r : Int) (k : Nat), n.tmod ((m : Int) + 1) = r ∧ -((m : Int) + 1) < r ∧ r < (m : Int) + 1 ∧ (r + m + 1).tmod ((m : Int) + 1) = (k : Int) ∧ k ≤ m := by
  have h1 : (0 : Int) < (m : Int) + 1 := by omega
  have t0 := Int.tmod_lt_of_pos n h1
  have t1 := Int.lt_tmod_of_pos n h1
  refine ⟨n.tmod ((m : Int) + 1), ((n.tmod ((m : Int) + 1) + m + 1).tmod ((m : Int) + 1)).toNat, rfl, by omega, t0, ?_, ?_⟩
  · have : 0 ≤ (n.tmod ((m : Int) + 1) + m + 1).tmod ((m : Int) + 1) := Int.tmod_nonneg _ (by omega)
    omega
  · have := Int.tmod_lt_of_pos (n.tmod ((m : Int) + 1) + m + 1) h1
    omega

end Go.Proofs.Ytgaknbgmodmniaa
