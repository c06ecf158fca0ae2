/- A struct by value of five and of eight fields of one cell, opened (as the kit's open_agg4). -/
import Derived.Test.YtgaknbgmodmniaaClose
import Derived.Lib.SmallJoins
import Derived.Deep.Fields
namespace Go.Proofs.Ytgaknbgmodmniaa
open Go.ChangeShapes Go.WideShapes Go.ChangeAt Go.RowKit Go.Joins Go.Deep
set_option linter.unusedVariables false
set_option linter.unusedSimpArgs false
section
variable {H : Type} {enc : TypeId × Value → H} {P : Program} {w : World} {base : Nat} {spare : Nat → Bool} {held : Bool}
theorem array5' {α : Type} {cs : Array α} (h : cs.size = 5) : ∃ c0 c1 c2 c3 c4, cs = #[c0, c1, c2, c3, c4] := by
  obtain ⟨l⟩ := cs
  match l, h with
  | [c0, c1, c2, c3, c4], _ => exact ⟨c0, c1, c2, c3, c4, rfl⟩
theorem open_agg5 {r : Reach} {b0 : Nat} {t : TypeId} {f0 f1 f2 f3 f4 : Field} {v : Value} {d : DataW H} {p : List MemPlace} (hs : P.underlying t = some (.struct #[f0, f1, f2, f3, f4])) (hone : oneCellFields P #[f0, f1, f2, f3, f4] = true) (hC : P.cellsOf t = 5)
    (hv : Value.okWide P w r b0 t v) (h : DataW.Trod enc P w base spare held t v d p) :
    ∃ (v0 v1 v2 v3 v4 : Value) (y0 y1 y2 y3 y4 : DataW H × List MemPlace) (n : Nat), v = .agg #[v0, v1, v2, v3, v4] ∧ d = .agg [y0.1, y1.1, y2.1, y3.1, y4.1] ∧ p = y0.2 ++ (y1.2 ++ (y2.2 ++ (y3.2 ++ (y4.2)))) ∧
      DataW.trod enc P w base spare held n f0.type [v0] = some y0 ∧ DataW.trod enc P w base spare held n f1.type [v1] = some y1 ∧ DataW.trod enc P w base spare held n f2.type [v2] = some y2 ∧ DataW.trod enc P w base spare held n f3.type [v3] = some y3 ∧ DataW.trod enc P w base spare held n f4.type [v4] = some y4 := by
  obtain ⟨cs, rfl, hsz⟩ := okWide_struct hs hv
  obtain ⟨c0, c1, c2, c3, c4, rfl⟩ := array5' (hsz.trans hC)
  obtain ⟨fuel, hf⟩ := h
  obtain ⟨xs, n, _, hx, hl, hlen, hg⟩ := DataW.trod_struct hs hf
  match xs, hlen with
  | [y0, y1, y2, y3, y4], _ =>
    simp only [Prod.mk.injEq] at hx
    have g0 := hg 0 f0 rfl
    obtain ⟨o0, k0⟩ := hone_of hone 0 f0 rfl
    have g1 := hg 1 f1 rfl
    obtain ⟨o1, k1⟩ := hone_of hone 1 f1 rfl
    have g2 := hg 2 f2 rfl
    obtain ⟨o2, k2⟩ := hone_of hone 2 f2 rfl
    have g3 := hg 3 f3 rfl
    obtain ⟨o3, k3⟩ := hone_of hone 3 f3 rfl
    have g4 := hg 4 f4 rfl
    obtain ⟨o4, k4⟩ := hone_of hone 4 f4 rfl
    exact ⟨c0, c1, c2, c3, c4, y0, y1, y2, y3, y4, n, rfl, by simpa using hx.1, by simpa using hx.2, by simpa [Value.cells, o0, k0] using g0, by simpa [Value.cells, o1, k1] using g1, by simpa [Value.cells, o2, k2] using g2, by simpa [Value.cells, o3, k3] using g3, by simpa [Value.cells, o4, k4] using g4⟩
theorem array8' {α : Type} {cs : Array α} (h : cs.size = 8) : ∃ c0 c1 c2 c3 c4 c5 c6 c7, cs = #[c0, c1, c2, c3, c4, c5, c6, c7] := by
  obtain ⟨l⟩ := cs
  match l, h with
  | [c0, c1, c2, c3, c4, c5, c6, c7], _ => exact ⟨c0, c1, c2, c3, c4, c5, c6, c7, rfl⟩
theorem open_agg8 {r : Reach} {b0 : Nat} {t : TypeId} {f0 f1 f2 f3 f4 f5 f6 f7 : Field} {v : Value} {d : DataW H} {p : List MemPlace} (hs : P.underlying t = some (.struct #[f0, f1, f2, f3, f4, f5, f6, f7])) (hone : oneCellFields P #[f0, f1, f2, f3, f4, f5, f6, f7] = true) (hC : P.cellsOf t = 8)
    (hv : Value.okWide P w r b0 t v) (h : DataW.Trod enc P w base spare held t v d p) :
    ∃ (v0 v1 v2 v3 v4 v5 v6 v7 : Value) (y0 y1 y2 y3 y4 y5 y6 y7 : DataW H × List MemPlace) (n : Nat), v = .agg #[v0, v1, v2, v3, v4, v5, v6, v7] ∧ d = .agg [y0.1, y1.1, y2.1, y3.1, y4.1, y5.1, y6.1, y7.1] ∧ p = y0.2 ++ (y1.2 ++ (y2.2 ++ (y3.2 ++ (y4.2 ++ (y5.2 ++ (y6.2 ++ (y7.2))))))) ∧
      DataW.trod enc P w base spare held n f0.type [v0] = some y0 ∧ DataW.trod enc P w base spare held n f1.type [v1] = some y1 ∧ DataW.trod enc P w base spare held n f2.type [v2] = some y2 ∧ DataW.trod enc P w base spare held n f3.type [v3] = some y3 ∧ DataW.trod enc P w base spare held n f4.type [v4] = some y4 ∧ DataW.trod enc P w base spare held n f5.type [v5] = some y5 ∧ DataW.trod enc P w base spare held n f6.type [v6] = some y6 ∧ DataW.trod enc P w base spare held n f7.type [v7] = some y7 := by
  obtain ⟨cs, rfl, hsz⟩ := okWide_struct hs hv
  obtain ⟨c0, c1, c2, c3, c4, c5, c6, c7, rfl⟩ := array8' (hsz.trans hC)
  obtain ⟨fuel, hf⟩ := h
  obtain ⟨xs, n, _, hx, hl, hlen, hg⟩ := DataW.trod_struct hs hf
  match xs, hlen with
  | [y0, y1, y2, y3, y4, y5, y6, y7], _ =>
    simp only [Prod.mk.injEq] at hx
    have g0 := hg 0 f0 rfl
    obtain ⟨o0, k0⟩ := hone_of hone 0 f0 rfl
    have g1 := hg 1 f1 rfl
    obtain ⟨o1, k1⟩ := hone_of hone 1 f1 rfl
    have g2 := hg 2 f2 rfl
    obtain ⟨o2, k2⟩ := hone_of hone 2 f2 rfl
    have g3 := hg 3 f3 rfl
    obtain ⟨o3, k3⟩ := hone_of hone 3 f3 rfl
    have g4 := hg 4 f4 rfl
    obtain ⟨o4, k4⟩ := hone_of hone 4 f4 rfl
    have g5 := hg 5 f5 rfl
    obtain ⟨o5, k5⟩ := hone_of hone 5 f5 rfl
    have g6 := hg 6 f6 rfl
    obtain ⟨o6, k6⟩ := hone_of hone 6 f6 rfl
    have g7 := hg 7 f7 rfl
    obtain ⟨o7, k7⟩ := hone_of hone 7 f7 rfl
    exact ⟨c0, c1, c2, c3, c4, c5, c6, c7, y0, y1, y2, y3, y4, y5, y6, y7, n, rfl, by simpa using hx.1, by simpa using hx.2, by simpa [Value.cells, o0, k0] using g0, by simpa [Value.cells, o1, k1] using g1, by simpa [Value.cells, o2, k2] using g2, by simpa [Value.cells, o3, k3] using g3, by simpa [Value.cells, o4, k4] using g4, by simpa [Value.cells, o5, k5] using g5, by simpa [Value.cells, o6, k6] using g6, by simpa [Value.cells, o7, k7] using g7⟩
end
end Go.Proofs.Ytgaknbgmodmniaa
