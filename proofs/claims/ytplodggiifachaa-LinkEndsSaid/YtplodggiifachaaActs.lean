/- What happens to a link, in plain Lean, and a row of it that comes in. -/
import Derived.Test.YtplodggiifachaaPly0
import Derived.Deep.Strs
import Derived.Deep.Slices
import Derived.Deep.Grids
import Derived.Lib.Strings
namespace Go.Proofs.Ytplodggiifachaa
open Go.ChangeShapes Go.WideShapes Go.ChangeAt Go.RowKit
set_option linter.unusedVariables false
set_option linter.unusedSimpArgs false

/-- Something that happens: what, to which, with which body. -/
structure Hp where
  what : Int
  which : Int
  body : ByteArray
def Hp.vals (e : Hp) : List Value := [.int .i64 e.what, .int .i64 e.which, .string e.body]
def hps (l : List Hp) : List Value := l.flatMap Hp.vals
theorem hps_cons (l : Hp) (ls : List Hp) : hps (l :: ls) = .int .i64 l.what :: .int .i64 l.which :: .string l.body :: hps ls := rfl
theorem hps_length (l : List Hp) : (hps l).length = l.length * 3 := by
  induction l with
  | nil => rfl
  | cons r l ih => rw [hps_cons]; simp only [List.length_cons, ih]; omega
theorem hps_at : ∀ (ls : List Hp) (p : Nat), (hps ls)[p * 3]? = (ls[p]?).map (fun x => Value.int .i64 x.what) ∧ (hps ls)[p * 3 + 1]? = (ls[p]?).map (fun x => Value.int .i64 x.which) ∧ (hps ls)[p * 3 + 2]? = (ls[p]?).map (fun x => Value.string x.body)
  | [], p => by simp [hps]
  | l :: ls, 0 => by simp [hps_cons]
  | l :: ls, p + 1 => by
    have h := hps_at ls p
    rw [hps_cons, show (p + 1) * 3 = p * 3 + 3 from by omega, show p * 3 + 3 + 1 = p * 3 + 1 + 3 from by omega, show p * 3 + 3 + 2 = p * 3 + 2 + 3 from by omega]
    simpa using h
/-- The k-th of a row. -/
theorem hps_get {w : World} {B n : Nat} {A : Option Addr} {ls : List Hp} (h : Reads w B 3 A n (hps ls)) {k : Nat} (hk : k < n) :
    ∃ (ad : Addr) (hl : k < ls.length), A = some ad ∧ ad.block < B ∧ w.cell? (ad.add (k * 3)) = some (.int .i64 ls[k].what) ∧ w.cell? ⟨(ad.add (k * 3)).block, (ad.add (k * 3)).off + 1, none⟩ = some (.int .i64 ls[k].which) ∧ w.cell? ⟨(ad.add (k * 3)).block, (ad.add (k * 3)).off + 2, none⟩ = some (.string ls[k].body) := by
  obtain ⟨hlen, h2⟩ := h
  rw [hps_length] at hlen
  obtain ⟨ad, rfl, hb, hc⟩ := h2 (by omega)
  have hl : k < ls.length := by omega
  obtain ⟨e0, e1, e2⟩ := hps_at ls k
  rw [List.getElem?_eq_getElem hl] at e0 e1 e2
  exact ⟨ad, hl, rfl, hb, hc _ _ e0, by rw [← add_pos_eq _ (by omega : (1 : Nat) ≠ 0), add_of_add]; exact hc _ _ e1, by rw [← add_pos_eq _ (by omega : (2 : Nat) ≠ 0), add_of_add]; exact hc _ _ e2⟩
theorem hps_len {w : World} {B n : Nat} {A : Option Addr} {ls : List Hp} (h : Reads w B 3 A n (hps ls)) : ls.length = n := by
  have := h.1
  rw [hps_length] at this
  omega
section
variable {H : Type} {enc : TypeId × Value → H} {P : Program}
/-- A row that comes in. -/
theorem open_hps {t e : TypeId} {f0 f1 f2 : Field} {k : Nat} {W : World} {v : Value} {y : DataW H × List MemPlace} (ht : P.underlying t = some (.slice e)) (he : P.underlying e = some (.struct #[f0, f1, f2])) (hC : P.cellsOf e = 3)
    (o0 : f0.offset = 0) (o1 : f1.offset = 1) (o2 : f2.offset = 2) (c0 : P.cellsOf f0.type = 1) (c1 : P.cellsOf f1.type = 1) (c2 : P.cellsOf f2.type = 1)
    (u0 : P.underlying f0.type = some (.int .i64)) (u1 : P.underlying f1.type = some (.int .i64)) (u2 : P.underlying f2.type = some .string)
    (h : DataW.trod enc P W 0 (fun _ => true) true k t [v] = some y) :
    ∃ (A : Option Addr) (n c : Nat) (ls : List Hp), v = .slice A n c ∧ Reads W W.heap.size 3 A n (hps ls) ∧ n ≤ 9223372036854775807 ∧ n ≤ c ∧
      ∀ l ∈ ls, (Lit.int .i64 l.what).wf = true ∧ (Lit.int .i64 l.which).wf = true ∧ l.body.size ≤ maxLen := by
  rcases Go.Deep.open_slice ht h with ⟨hcs, _⟩ | ⟨a, len, cap, m, n, D, Pl, hcs, _, hl, hm, hmm, _, hx⟩
  · simp at hcs
    exact ⟨none, 0, 0, [], hcs, Reads.none_, by omega, by omega, by simp⟩
  · simp at hcs hmm
    subst hmm
    have each : ∀ i, i < len → ∃ q : Int × Int × ByteArray, W.cell? (a.add (i * 3)) = some (.int .i64 q.1) ∧ W.cell? (a.add (i * 3 + 1)) = some (.int .i64 q.2.1) ∧ W.cell? (a.add (i * 3 + 2)) = some (.string q.2.2) ∧
        (Lit.int .i64 q.1).wf = true ∧ (Lit.int .i64 q.2.1).wf = true ∧ q.2.2.size ≤ maxLen := by
      intro i hi
      obtain ⟨cs', h1, h2⟩ := hx i (by omega)
      rw [hC] at h1
      obtain ⟨_, hlen, hcell⟩ := World.cells?_some h1
      obtain ⟨y0, y1, y2, n', _, _, g0, g1, g2⟩ := Go.Deep.trod_struct3 he h2
      match cs', hlen with
      | [v0, v1, v2], _ =>
        simp [o0, o1, o2, c0, c1, c2] at g0 g1 g2
        obtain ⟨z0, e0, rfl, w0⟩ := DataW.trod_int u0 g0
        obtain ⟨z1, e1, rfl, w1⟩ := DataW.trod_int u1 g1
        obtain ⟨z2, e2, rfl, w2⟩ := DataW.trod_string u2 g2
        simp at e0 e1 e2
        subst e0 e1 e2
        have d0 := hcell 0 (by omega)
        have d1 := hcell 1 (by omega)
        have d2 := hcell 2 (by omega)
        rw [add_of_add] at d0 d1 d2
        exact ⟨(z0, z1, z2), by simpa using d0, by simpa using d1, by simpa using d2, w0, w1, w2⟩
    obtain ⟨q, hq⟩ := Go.Deep.choose_lt each
    have hlen : ((List.range len).map fun i => (⟨(q i).1, (q i).2.1, (q i).2.2⟩ : Hp)).length = len := by simp
    refine ⟨some a, len, m, (List.range len).map fun i => ⟨(q i).1, (q i).2.1, (q i).2.2⟩, hcs, ⟨by rw [hps_length, hlen], fun hn => ⟨a, rfl, ?_, ?_⟩⟩, by unfold maxLen at hm; omega, hl, ?_⟩
    · have := (hq 0 (by omega)).1
      have := World.block_lt_of_cell? W _ this
      rwa [block_of_add] at this
    · intro j u hu
      have hj : j < len * 3 := by
        have := (List.getElem?_eq_some_iff.1 hu).1
        rw [hps_length, hlen] at this
        exact this
      obtain ⟨e0, e1, e2⟩ := hps_at ((List.range len).map fun i => (⟨(q i).1, (q i).2.1, (q i).2.2⟩ : Hp)) (j / 3)
      rw [List.getElem?_map, List.getElem?_range (by omega)] at e0 e1 e2
      obtain ⟨d0, d1, d2, _⟩ := hq (j / 3) (by omega)
      rcases (show j = j / 3 * 3 ∨ j = j / 3 * 3 + 1 ∨ j = j / 3 * 3 + 2 by omega) with e | e | e
      · rw [e] at hu ⊢; rw [e0] at hu; rw [d0, ← hu]; rfl
      · rw [e] at hu ⊢; rw [e1] at hu; rw [d1, ← hu]; rfl
      · rw [e] at hu ⊢; rw [e2] at hu; rw [d2, ← hu]; rfl
    · intro l hl
      obtain ⟨i, hi, rfl⟩ := List.mem_map.1 hl
      obtain ⟨_, _, _, a1, a2, a3⟩ := hq i (List.mem_range.1 hi)
      exact ⟨a1, a2, a3⟩
end
end Go.Proofs.Ytplodggiifachaa
