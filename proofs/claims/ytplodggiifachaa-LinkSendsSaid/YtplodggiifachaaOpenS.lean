/- Arguments opened: a slice of strings in a struct's field reads as a list of strings. -/
import Derived.Test.YtplodggiifachaaClose
import Derived.Test.YtplodggiifachaaMem
import Derived.Deep.Strs
namespace Go.Proofs.Ytplodggiifachaa
open Go.ChangeShapes Go.WideShapes Go.ChangeAt Go.RowKit
set_option linter.unusedVariables false
set_option linter.unusedSimpArgs false
section
variable {H : Type} {enc : TypeId × Value → H} {P : Program}

theorem open_strs_field {t e : TypeId} {k : Nat} {W : World} {v : Value} {y : DataW H × List MemPlace} (ht : P.underlying t = some (.slice e)) (he : P.underlying e = some .string) (hC : P.cellsOf e = 1)
    (h : DataW.trod enc P W 0 (fun _ => true) true k t [v] = some y) :
    ∃ (A : Option Addr) (n c : Nat) (zs : List ByteArray), v = .slice A n c ∧ Reads W W.heap.size 1 A n (zs.map Value.string) ∧ n ≤ 9223372036854775807 ∧ n ≤ c ∧ (∀ z ∈ zs, z.size ≤ maxLen) := by
  rcases Go.Deep.open_strs ht he hC h with ⟨hcs, _⟩ | ⟨a, len, cap, m, Sx, hcs, _, hl, hm, hmm, _, hx⟩
  · simp at hcs
    exact ⟨none, 0, 0, [], hcs, Reads.none_, by omega, by omega, by simp⟩
  · simp at hcs hmm
    subst hmm
    refine ⟨some a, len, m, (List.range len).map Sx, hcs, ⟨by simp, fun hn => ⟨a, rfl, ?_, ?_⟩⟩, by unfold maxLen at hm; omega, hl, ?_⟩
    · have := (hx 0 (by omega)).1
      have := World.block_lt_of_cell? W _ this
      rwa [block_of_add] at this
    · intro j u hu
      rw [List.getElem?_map, List.getElem?_map] at hu
      by_cases hj : j < len
      · rw [List.getElem?_range hj] at hu
        simp at hu
        subst hu
        exact (hx j (by omega)).1
      · rw [List.getElem?_eq_none (by simp; omega)] at hu
        cases hu
    · intro z hz
      obtain ⟨i, hi, rfl⟩ := List.mem_map.1 hz
      exact (hx i (by have := List.mem_range.1 hi; omega)).2
end
end Go.Proofs.Ytplodggiifachaa
