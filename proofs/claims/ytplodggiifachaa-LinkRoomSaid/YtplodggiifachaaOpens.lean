/- Arguments opened: a slice of numbers reads as a list of numbers. -/
import Derived.Test.YtplodggiifachaaClose
import Derived.Test.YtplodggiifachaaMem
import Derived.Deep.Slices
namespace Go.Proofs.Ytplodggiifachaa
open Go.ChangeShapes Go.WideShapes Go.ChangeAt Go.RowKit
set_option linter.unusedVariables false
set_option linter.unusedSimpArgs false
section
variable {H : Type} {enc : TypeId × Value → H} {P : Program}

theorem open_ints_reads {t e : TypeId} {r : Reach} {b0 : Nat} {W : World} {v : Value} {d : DataW H} {ps : List MemPlace} (ht : P.underlying t = some (.slice e)) (he : P.underlying e = some (.int .i64)) (hC : P.cellsOf e = 1)
    (hv : Value.okWide P W r b0 t v) (h : DataW.Trod enc P W 0 (fun _ => true) true t v d ps) (hlt : ∀ p ∈ ps, p.block < W.heap.size) :
    ∃ (A : Option Addr) (n c : Nat) (zs : List Int), v = .slice A n c ∧ Reads W W.heap.size 1 A n (zs.map (Value.int .i64)) ∧ n ≤ 9223372036854775807 ∧ (∀ z ∈ zs, (Lit.int .i64 z).wf = true) ∧
      ((d = .nil ∧ n = 0) ∨ ∃ sp, d = .slice (zs.map fun z => .lit (.int .i64 z)) sp) := by
  obtain ⟨a0, len, cap, rfl⟩ := okWide_slice ht hv
  obtain ⟨fuel, hf⟩ := h
  rcases open_ints ht he hC hf with ⟨hcs, hx⟩ | ⟨a, len', cap', zs, hcs, _, hl, hm, hz, hx, hcell, hwz⟩
  · simp [Value.cells] at hcs
    obtain ⟨rfl, rfl, rfl⟩ := hcs
    simp only [Prod.mk.injEq] at hx
    exact ⟨none, 0, 0, [], rfl, Reads.none_, by omega, by simp, .inl ⟨hx.1, rfl⟩⟩
  · simp [Value.cells] at hcs
    obtain ⟨rfl, rfl, rfl⟩ := hcs
    simp at hz
    simp only [Prod.mk.injEq] at hx
    refine ⟨some a, len, cap, zs.take len, rfl, ⟨by simp; omega, fun hn => ⟨a, rfl, ?_, ?_⟩⟩, by unfold maxLen at hm; omega, fun z hz' => hwz z (List.mem_of_mem_take hz'), .inr ⟨_, hx.1⟩⟩
    · have := hcell 0 (by omega)
      have := World.block_lt_of_cell? W _ this
      rwa [block_of_add] at this
    · intro j u hu
      rw [List.getElem?_map] at hu
      rcases h2 : (zs.take len)[j]? with _ | z
      · rw [h2] at hu; cases hu
      · rw [h2] at hu
        simp at hu
        subst hu
        have hj : j < len := by
          have := (List.getElem?_eq_some_iff.1 h2).1
          simp at this; omega
        rw [List.getElem?_take_of_lt hj] at h2
        rw [hcell j (by omega)]
        simp [h2]
end
end Go.Proofs.Ytplodggiifachaa
