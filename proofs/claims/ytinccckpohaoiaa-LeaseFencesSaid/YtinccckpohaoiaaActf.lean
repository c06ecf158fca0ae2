/- A row of what is asked of leases, which comes in: six numbers each. -/
import Derived.Test.YtinccckpohaoiaaLse0
import Derived.Lib.SmallJoins
import Derived.Deep.Fields
import Derived.Deep.Slices
import Derived.Deep.Grids
namespace Go.Proofs.Ytinccckpohaoiaa
open Go.ChangeShapes Go.WideShapes Go.ChangeAt Go.RowKit Go.Joins Go.Deep
set_option linter.unusedVariables false
set_option linter.unusedSimpArgs false

/-- A number of 64 bits. -/
def I64 (a : Int) : Prop := -9223372036854775808 ≤ a ∧ a ≤ 9223372036854775807
/-- The elements of a row, six numbers each. -/
def ActsR (w : World) (B : Nat) (A : Option Addr) (n : Nat) : Prop :=
  ∀ i, i < n → ∃ (ad : Addr) (a0 a1 a2 a3 a4 a5 : Int), A = some ad ∧ ad.block < B ∧ w.cell? (ad.add (i * 6)) = some (.int .i64 a0) ∧ w.cell? ⟨(ad.add (i * 6)).block, (ad.add (i * 6)).off + 1, none⟩ = some (.int .i64 a1) ∧ w.cell? ⟨(ad.add (i * 6)).block, (ad.add (i * 6)).off + 2, none⟩ = some (.int .i64 a2) ∧ w.cell? ⟨(ad.add (i * 6)).block, (ad.add (i * 6)).off + 3, none⟩ = some (.int .i64 a3) ∧ w.cell? ⟨(ad.add (i * 6)).block, (ad.add (i * 6)).off + 4, none⟩ = some (.int .i64 a4) ∧ w.cell? ⟨(ad.add (i * 6)).block, (ad.add (i * 6)).off + 5, none⟩ = some (.int .i64 a5) ∧ I64 a0 ∧ I64 a1 ∧ I64 a2 ∧ I64 a3 ∧ I64 a4 ∧ I64 a5
theorem ActsR.below {w w' : World} {B n : Nat} {A : Option Addr} (h : ActsR w B A n) (hb : Below B w w') : ActsR w' B A n := by
  intro i hi
  obtain ⟨ad, a0, a1, a2, a3, a4, a5, e, hl, c0, c1, c2, c3, c4, c5, r⟩ := h i hi
  have hl0 : (ad.add (i * 6)).block < B := by rw [block_of_add]; exact hl
  exact ⟨ad, a0, a1, a2, a3, a4, a5, e, hl, (hb.cell hl0).trans c0, (hb.cell (p := ⟨(ad.add (i * 6)).block, (ad.add (i * 6)).off + 1, none⟩) hl0).trans c1, (hb.cell (p := ⟨(ad.add (i * 6)).block, (ad.add (i * 6)).off + 2, none⟩) hl0).trans c2, (hb.cell (p := ⟨(ad.add (i * 6)).block, (ad.add (i * 6)).off + 3, none⟩) hl0).trans c3, (hb.cell (p := ⟨(ad.add (i * 6)).block, (ad.add (i * 6)).off + 4, none⟩) hl0).trans c4, (hb.cell (p := ⟨(ad.add (i * 6)).block, (ad.add (i * 6)).off + 5, none⟩) hl0).trans c5, r⟩
section
variable {H : Type} {enc : TypeId × Value → H} {P : Program}
theorem open_acts {t e : TypeId} {f0 f1 f2 f3 f4 f5 : Field} {k : Nat} {W : World} {v : Value} {y : DataW H × List MemPlace} (ht : P.underlying t = some (.slice e)) (he : P.underlying e = some (.struct #[f0, f1, f2, f3, f4, f5])) (hone : oneCellFields P #[f0, f1, f2, f3, f4, f5] = true) (hC : P.cellsOf e = 6)
    (u0 : P.underlying f0.type = some (.int .i64)) (u1 : P.underlying f1.type = some (.int .i64)) (u2 : P.underlying f2.type = some (.int .i64)) (u3 : P.underlying f3.type = some (.int .i64)) (u4 : P.underlying f4.type = some (.int .i64)) (u5 : P.underlying f5.type = some (.int .i64))
    (h : DataW.trod enc P W 0 (fun _ => true) true k t [v] = some y) :
    ∃ (A : Option Addr) (n c : Nat), v = .slice A n c ∧ ActsR W W.heap.size A n ∧ n ≤ 9223372036854775807 ∧ n ≤ c := by
  rcases Go.Deep.open_slice ht h with ⟨hcs, _⟩ | ⟨a, len, cap, m, n, D, Pl, hcs, _, hl, hm, hmm, _, hx⟩
  · simp at hcs
    exact ⟨none, 0, 0, hcs, fun i hi => by omega, by omega, by omega⟩
  · simp at hcs hmm
    subst hmm
    refine ⟨some a, len, m, hcs, fun i hi => ?_, by unfold maxLen at hm; omega, hl⟩
    obtain ⟨cs', h1, h2⟩ := hx i (by omega)
    rw [hC] at h1
    obtain ⟨_, hlen, hcell⟩ := World.cells?_some h1
    obtain ⟨xs, n', _, hx', hl', hlen', hg⟩ := DataW.trod_struct he h2
    match cs', hlen, xs, hlen' with
    | [v0, v1, v2, v3, v4, v5], _, [y0, y1, y2, y3, y4, y5], _ =>
      have g0 := hg 0 f0 rfl
      obtain ⟨o0, k0⟩ := hone_of hone 0 f0 rfl
      have g1 := hg 1 f1 rfl
      obtain ⟨o1, k1⟩ := hone_of hone 1 f1 rfl
      have g2 := hg 2 f2 rfl
      obtain ⟨o2, k2⟩ := hone_of hone 2 f2 rfl
      have g3 := hg 3 f3 rfl
      obtain ⟨o3, k3⟩ := hone_of hone 3 f3 rfl
      have g4 := hg 4 f4 rfl
      obtain ⟨o4, k4⟩ := hone_of hone 4 f4 rfl
      have g5 := hg 5 f5 rfl
      obtain ⟨o5, k5⟩ := hone_of hone 5 f5 rfl
      obtain ⟨z0, e0, -, w0⟩ := DataW.trod_int u0 (show DataW.trod enc P W 0 (fun _ => true) true n' f0.type [v0] = some y0 by simpa [o0, k0] using g0)
      simp at e0
      subst e0
      have d0 := hcell 0 (by omega)
      rw [add_of_add] at d0
      obtain ⟨z1, e1, -, w1⟩ := DataW.trod_int u1 (show DataW.trod enc P W 0 (fun _ => true) true n' f1.type [v1] = some y1 by simpa [o1, k1] using g1)
      simp at e1
      subst e1
      have d1 := hcell 1 (by omega)
      rw [add_of_add] at d1
      obtain ⟨z2, e2, -, w2⟩ := DataW.trod_int u2 (show DataW.trod enc P W 0 (fun _ => true) true n' f2.type [v2] = some y2 by simpa [o2, k2] using g2)
      simp at e2
      subst e2
      have d2 := hcell 2 (by omega)
      rw [add_of_add] at d2
      obtain ⟨z3, e3, -, w3⟩ := DataW.trod_int u3 (show DataW.trod enc P W 0 (fun _ => true) true n' f3.type [v3] = some y3 by simpa [o3, k3] using g3)
      simp at e3
      subst e3
      have d3 := hcell 3 (by omega)
      rw [add_of_add] at d3
      obtain ⟨z4, e4, -, w4⟩ := DataW.trod_int u4 (show DataW.trod enc P W 0 (fun _ => true) true n' f4.type [v4] = some y4 by simpa [o4, k4] using g4)
      simp at e4
      subst e4
      have d4 := hcell 4 (by omega)
      rw [add_of_add] at d4
      obtain ⟨z5, e5, -, w5⟩ := DataW.trod_int u5 (show DataW.trod enc P W 0 (fun _ => true) true n' f5.type [v5] = some y5 by simpa [o5, k5] using g5)
      simp at e5
      subst e5
      have d5 := hcell 5 (by omega)
      rw [add_of_add] at d5
      have hb : a.block < W.heap.size := by
        have := World.block_lt_of_cell? W _ d0
        rwa [block_of_add] at this
      exact ⟨a, z0, z1, z2, z3, z4, z5, rfl, hb, by simpa using d0, by rw [← add_pos_eq _ (by omega : (1 : Nat) ≠ 0), add_of_add]; simpa using d1, by rw [← add_pos_eq _ (by omega : (2 : Nat) ≠ 0), add_of_add]; simpa using d2, by rw [← add_pos_eq _ (by omega : (3 : Nat) ≠ 0), add_of_add]; simpa using d3, by rw [← add_pos_eq _ (by omega : (4 : Nat) ≠ 0), add_of_add]; simpa using d4, by rw [← add_pos_eq _ (by omega : (5 : Nat) ≠ 0), add_of_add]; simpa using d5, i64_of w0, i64_of w1, i64_of w2, i64_of w3, i64_of w4, i64_of w5⟩
end
end Go.Proofs.Ytinccckpohaoiaa
