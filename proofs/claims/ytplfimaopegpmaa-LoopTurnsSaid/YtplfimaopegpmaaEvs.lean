/- Rows of events in plain Lean, and a row of events that comes in. -/
import Derived.Test.YtplfimaopegpmaaRow1
import Derived.Test.YtplfimaopegpmaaClose
import Derived.Deep.Strs
import Derived.Deep.Slices
import Derived.Deep.Grids
namespace Go.Proofs.Ytplfimaopegpmaa
open Go.ChangeShapes Go.WideShapes Go.ChangeAt Go.RowKit
set_option linter.unusedVariables false
set_option linter.unusedSimpArgs false

theorem evs_cons' (l : Rnd) (ls : List Rnd) : evs (l :: ls) = .string l.key :: .int .i64 l.at_ :: .int .i64 l.v :: evs ls := rfl
theorem evs_length (l : List Rnd) : (evs l).length = l.length * 3 := by
  induction l with
  | nil => rfl
  | cons r l ih => rw [evs_cons']; simp only [List.length_cons, ih]; omega
theorem evs_at : ∀ (ls : List Rnd) (p : Nat), (evs ls)[p * 3]? = (ls[p]?).map (fun x => Value.string x.key) ∧ (evs ls)[p * 3 + 1]? = (ls[p]?).map (fun x => Value.int .i64 x.at_) ∧ (evs ls)[p * 3 + 2]? = (ls[p]?).map (fun x => Value.int .i64 x.v)
  | [], p => by simp [evs]
  | l :: ls, 0 => by simp [evs_cons']
  | l :: ls, p + 1 => by
    have h := evs_at ls p
    rw [evs_cons', show (p + 1) * 3 = p * 3 + 3 from by omega, show p * 3 + 3 + 1 = p * 3 + 1 + 3 from by omega, show p * 3 + 3 + 2 = p * 3 + 2 + 3 from by omega]
    simpa using h
theorem add_pos_eq (a : Addr) {n : Nat} (h : n ≠ 0) : a.add n = ⟨a.block, a.off + n, none⟩ := by unfold Addr.add; rw [if_neg h]
/-- The k-th lease of a row. -/
theorem evs_get {w : World} {B n : Nat} {A : Option Addr} {ls : List Rnd} (h : Reads w B 3 A n (evs ls)) {k : Nat} (hk : k < n) :
    ∃ (ad : Addr) (hl : k < ls.length), A = some ad ∧ ad.block < B ∧ w.cell? (ad.add (k * 3)) = some (.string ls[k].key) ∧ w.cell? ⟨(ad.add (k * 3)).block, (ad.add (k * 3)).off + 1, none⟩ = some (.int .i64 ls[k].at_) ∧ w.cell? ⟨(ad.add (k * 3)).block, (ad.add (k * 3)).off + 2, none⟩ = some (.int .i64 ls[k].v) := by
  obtain ⟨hlen, h2⟩ := h
  rw [evs_length] at hlen
  obtain ⟨ad, rfl, hb, hc⟩ := h2 (by omega)
  have hl : k < ls.length := by omega
  obtain ⟨e0, e1, e2⟩ := evs_at ls k
  rw [List.getElem?_eq_getElem hl] at e0 e1 e2
  exact ⟨ad, hl, rfl, hb, hc _ _ e0, by rw [← add_pos_eq _ (by omega : (1 : Nat) ≠ 0), add_of_add]; exact hc _ _ e1, by rw [← add_pos_eq _ (by omega : (2 : Nat) ≠ 0), add_of_add]; exact hc _ _ e2⟩
theorem evs_len {w : World} {B n : Nat} {A : Option Addr} {ls : List Rnd} (h : Reads w B 3 A n (evs ls)) : ls.length = n := by
  have := h.1
  rw [evs_length] at this
  omega
section
variable {H : Type} {enc : TypeId × Value → H} {P : Program}
/-- A row of leases that comes in. -/
theorem open_evs {t e ti : TypeId} {f0 f1 f2 : Field} {k : Nat} {W : World} {v : Value} {y : DataW H × List MemPlace} (ht : P.underlying t = some (.slice e)) (he : P.underlying e = some (.struct #[f0, f1, f2])) (hC : P.cellsOf e = 3)
    (o0 : f0.offset = 0) (o1 : f1.offset = 1) (o2 : f2.offset = 2) (c0 : P.cellsOf f0.type = 1) (c1 : P.cellsOf f1.type = 1) (c2 : P.cellsOf f2.type = 1)
    (u0 : P.underlying f0.type = some .string) (u1 : P.underlying f1.type = some (.int .i64)) (u2 : P.underlying f2.type = some (.int .i64))
    (h : DataW.trod enc P W 0 (fun _ => true) true k t [v] = some y) :
    ∃ (A : Option Addr) (n c : Nat) (ls : List Rnd), v = .slice A n c ∧ Reads W W.heap.size 3 A n (evs ls) ∧ n ≤ 9223372036854775807 ∧ n ≤ c ∧
      ∀ l ∈ ls, l.key.size ≤ maxLen ∧ l.n = 0 ∧ (Lit.int .i64 l.at_).wf = true ∧ (Lit.int .i64 l.v).wf = true := by
  rcases Go.Deep.open_slice ht h with ⟨hcs, _⟩ | ⟨a, len, cap, m, n, D, Pl, hcs, _, hl, hm, hmm, _, hx⟩
  · simp at hcs
    exact ⟨none, 0, 0, [], hcs, Reads.none_, by omega, by omega, by simp⟩
  · simp at hcs hmm
    subst hmm
    have each : ∀ i, i < len → ∃ q : ByteArray × Int × Int, W.cell? (a.add (i * 3)) = some (.string q.1) ∧ W.cell? (a.add (i * 3 + 1)) = some (.int .i64 q.2.1) ∧ W.cell? (a.add (i * 3 + 2)) = some (.int .i64 q.2.2) ∧
        q.1.size ≤ maxLen ∧ (Lit.int .i64 q.2.1).wf = true ∧ (Lit.int .i64 q.2.2).wf = true := by
      intro i hi
      obtain ⟨cs', h1, h2⟩ := hx i (by omega)
      rw [hC] at h1
      obtain ⟨_, hlen, hcell⟩ := World.cells?_some h1
      obtain ⟨y0, y1, y2, n', _, _, g0, g1, g2⟩ := Go.Deep.trod_struct3 he h2
      match cs', hlen with
      | [v0, v1, v2], _ =>
        simp [o0, o1, o2, c0, c1, c2] at g0 g1 g2
        obtain ⟨z0, e0, rfl, w0⟩ := DataW.trod_string u0 g0
        obtain ⟨z1, e1, rfl, w1⟩ := DataW.trod_int u1 g1
        obtain ⟨z2, e2, rfl, w2⟩ := DataW.trod_int u2 g2
        simp at e0 e1 e2
        subst e0 e1 e2
        have d0 := hcell 0 (by omega)
        have d1 := hcell 1 (by omega)
        have d2 := hcell 2 (by omega)
        rw [add_of_add] at d0 d1 d2
        exact ⟨(z0, z1, z2), by simpa using d0, by simpa using d1, by simpa using d2, w0, w1, w2⟩
    obtain ⟨q, hq⟩ := Go.Deep.choose_lt each
    have hlen : ((List.range len).map fun i => (⟨(q i).1, (q i).2.1, (q i).2.2, 0⟩ : Rnd)).length = len := by simp
    refine ⟨some a, len, m, (List.range len).map fun i => ⟨(q i).1, (q i).2.1, (q i).2.2, 0⟩, hcs, ⟨by rw [evs_length, hlen], fun hn => ⟨a, rfl, ?_, ?_⟩⟩, by unfold maxLen at hm; omega, hl, ?_⟩
    · have := (hq 0 (by omega)).1
      have := World.block_lt_of_cell? W _ this
      rwa [block_of_add] at this
    · intro j u hu
      have hj : j < len * 3 := by
        have := (List.getElem?_eq_some_iff.1 hu).1
        rw [evs_length, hlen] at this
        exact this
      obtain ⟨e0, e1, e2⟩ := evs_at ((List.range len).map fun i => (⟨(q i).1, (q i).2.1, (q i).2.2, 0⟩ : Rnd)) (j / 3)
      rw [List.getElem?_map, List.getElem?_range (by omega)] at e0 e1 e2
      obtain ⟨d0, d1, d2, _⟩ := hq (j / 3) (by omega)
      rcases (show j = j / 3 * 3 ∨ j = j / 3 * 3 + 1 ∨ j = j / 3 * 3 + 2 by omega) with e | e | e
      · rw [e] at hu ⊢; rw [e0] at hu; rw [d0, ← hu]; rfl
      · rw [e] at hu ⊢; rw [e1] at hu; rw [d1, ← hu]; rfl
      · rw [e] at hu ⊢; rw [e2] at hu; rw [d2, ← hu]; rfl
    · intro l hl
      obtain ⟨i, hi, rfl⟩ := List.mem_map.1 hl
      obtain ⟨_, _, _, a1, a2, a3⟩ := hq i (List.mem_range.1 hi)
      exact ⟨a1, rfl, a2, a3⟩
theorem open_bools_reads {t e : TypeId} {k : Nat} {W : World} {v : Value} {y : DataW H × List MemPlace} (ht : P.underlying t = some (.slice e)) (he : P.underlying e = some .bool) (hC : P.cellsOf e = 1)
    (h : DataW.trod enc P W 0 (fun _ => true) true k t [v] = some y) :
    ∃ (A : Option Addr) (n c : Nat) (bs : List Bool), v = .slice A n c ∧ Reads W W.heap.size 1 A n (bs.map Value.bool) ∧ n ≤ 9223372036854775807 := by
  rcases Go.Deep.open_bools ht he hC h with ⟨hcs, _⟩ | ⟨a, len, cap, B, hcs, _, hl, hm, _, hx⟩
  · simp at hcs
    exact ⟨none, 0, 0, [], hcs, Reads.none_, by omega⟩
  · simp at hcs
    refine ⟨some a, len, cap, (List.range len).map B, hcs, ⟨by simp, fun hn => ⟨a, rfl, ?_, ?_⟩⟩, by unfold maxLen at hm; omega⟩
    · have := World.block_lt_of_cell? W _ (hx 0 (by omega))
      rwa [block_of_add] at this
    · intro j u hu
      have hj : j < len := by
        have := (List.getElem?_eq_some_iff.1 hu).1
        simpa using this
      rw [List.getElem?_map, List.getElem?_map, List.getElem?_range hj] at hu
      rw [hx j (by omega), ← hu]
      rfl
end
end Go.Proofs.Ytplfimaopegpmaa
