/- Leases and tables of them in plain Lean: which tables may be; a row of leases in memory; a table that comes in. -/
import Derived.Test.YtinccckpohaoiaaClose
import Derived.Test.YtinccckpohaoiaaMem
import Derived.Deep.Strs
import Derived.Deep.Slices
namespace Go.Proofs.Ytinccckpohaoiaa
open Go.ChangeShapes Go.WideShapes Go.ChangeAt Go.RowKit
set_option linter.unusedVariables false
set_option linter.unusedSimpArgs false

theorem ret_bool {a b : Bool} (h : a = b) : Ending.returned (.bool a) = .returned (.bool b) := by rw [h]

/-- A group's lease: its owner, its token, until when it counts. -/
structure Lse where
  own : Int
  tok : Int
  til : Int
def Lse.vals (l : Lse) : List Value := [.int .i64 l.own, .int .i64 l.tok, .int .i64 l.til]
def flat (ls : List Lse) : List Value := ls.flatMap Lse.vals
theorem flat_cons (l : Lse) (ls : List Lse) : flat (l :: ls) = .int .i64 l.own :: .int .i64 l.tok :: .int .i64 l.til :: flat ls := rfl
theorem flat_append (a b : List Lse) : flat (a ++ b) = flat a ++ flat b := by simp [flat]
theorem flat_length (ls : List Lse) : (flat ls).length = ls.length * 3 := by
  induction ls with
  | nil => rfl
  | cons l ls ih => rw [flat_cons]; simp only [List.length_cons, ih]; omega
theorem flat_at : ∀ (ls : List Lse) (p : Nat), (flat ls)[p * 3]? = (ls[p]?).map (fun x => Value.int .i64 x.own) ∧ (flat ls)[p * 3 + 1]? = (ls[p]?).map (fun x => Value.int .i64 x.tok) ∧ (flat ls)[p * 3 + 2]? = (ls[p]?).map (fun x => Value.int .i64 x.til)
  | [], p => by simp [flat]
  | l :: ls, 0 => by simp [flat_cons]
  | l :: ls, p + 1 => by
    have h := flat_at ls p
    rw [flat_cons, show (p + 1) * 3 = p * 3 + 3 from by omega, show p * 3 + 3 + 1 = p * 3 + 1 + 3 from by omega, show p * 3 + 3 + 2 = p * 3 + 2 + 3 from by omega]
    simpa using h
theorem flat_one (ls : List Lse) : ∀ u ∈ flat ls, u.oneCell' = true := by
  intro u hu
  obtain ⟨l, _, h⟩ := List.mem_flatMap.1 hu
  simp only [Lse.vals, List.mem_cons, List.not_mem_nil, or_false] at h
  rcases h with rfl | rfl | rfl <;> rfl

theorem add_pos_eq (a : Addr) {n : Nat} (h : n ≠ 0) : a.add n = ⟨a.block, a.off + n, none⟩ := by unfold Addr.add; rw [if_neg h]
/-- The k-th lease of a row. -/
theorem lse_at {w : World} {B n : Nat} {A : Option Addr} {ls : List Lse} (h : Reads w B 3 A n (flat ls)) {k : Nat} (hk : k < n) :
    ∃ (ad : Addr) (hl : k < ls.length), A = some ad ∧ ad.block < B ∧ w.cell? (ad.add (k * 3)) = some (.int .i64 ls[k].own) ∧ w.cell? ⟨(ad.add (k * 3)).block, (ad.add (k * 3)).off + 1, none⟩ = some (.int .i64 ls[k].tok) ∧ w.cell? ⟨(ad.add (k * 3)).block, (ad.add (k * 3)).off + 2, none⟩ = some (.int .i64 ls[k].til) := by
  obtain ⟨hlen, h2⟩ := h
  rw [flat_length] at hlen
  obtain ⟨ad, rfl, hb, hc⟩ := h2 (by omega)
  have hl : k < ls.length := by omega
  obtain ⟨e0, e1, e2⟩ := flat_at ls k
  rw [List.getElem?_eq_getElem hl] at e0 e1 e2
  exact ⟨ad, hl, rfl, hb, hc _ _ e0, by rw [← add_pos_eq _ (by omega : (1 : Nat) ≠ 0), add_of_add]; exact hc _ _ e1, by rw [← add_pos_eq _ (by omega : (2 : Nat) ≠ 0), add_of_add]; exact hc _ _ e2⟩
theorem lse_len {w : World} {B n : Nat} {A : Option Addr} {ls : List Lse} (h : Reads w B 3 A n (flat ls)) : ls.length = n := by
  have := h.1
  rw [flat_length] at this
  omega

/-- A lease that may not be in a table with that last token. -/
def badB (last : Int) (l : Lse) : Bool :=
  decide (l.own < 0) || decide (99 < l.own) || decide (l.tok < 0) || decide (last < l.tok) || decide (l.til < 0) || decide (1099511627776 < l.til) || (decide (l.own = 0) && !decide (l.til = 0)) || (!decide (l.own = 0) && decide (l.tok = 0))
theorem badB_false {last : Int} {l : Lse} : badB last l = false ↔ 0 ≤ l.own ∧ l.own ≤ 99 ∧ 0 ≤ l.tok ∧ l.tok ≤ last ∧ 0 ≤ l.til ∧ l.til ≤ 1099511627776 ∧ (l.own = 0 → l.til = 0) ∧ (l.own ≠ 0 → l.tok ≠ 0) := by
  unfold badB
  simp only [Bool.or_eq_false_iff, Bool.and_eq_false_iff, Bool.not_eq_false', decide_eq_false_iff_not, decide_eq_true_iff]
  omega
theorem badB_true {last : Int} {l : Lse} : badB last l = true ↔ ¬ (0 ≤ l.own ∧ l.own ≤ 99 ∧ 0 ≤ l.tok ∧ l.tok ≤ last ∧ 0 ≤ l.til ∧ l.til ≤ 1099511627776 ∧ (l.own = 0 → l.til = 0) ∧ (l.own ≠ 0 → l.tok ≠ 0)) := by
  rw [← badB_false, Bool.not_eq_false]
/-- Is a token among those of leases? -/
def hasB (t : Int) (ls : List Lse) : Bool := ls.any fun x => x.tok == t
def goodAt (last : Int) (ls : List Lse) (i : Nat) : Bool :=
  match ls[i]? with
  | none => true
  | some l => !badB last l && !(!(l.tok == 0) && hasB l.tok (ls.take i))
def goodTo (last : Int) (ls : List Lse) (k : Nat) : Bool := (List.range k).all (goodAt last ls)
/-- May a table be? -/
def rightT (ls : List Lse) (last : Int) : Bool :=
  decide (1 ≤ ls.length) && decide (ls.length ≤ 32) && decide (0 ≤ last) && decide (last ≤ 1073741824) && goodTo last ls ls.length
theorem goodAt_eq {last : Int} {ls : List Lse} {i : Nat} (h : i < ls.length) : goodAt last ls i = (!badB last ls[i] && !(!(ls[i].tok == 0) && hasB ls[i].tok (ls.take i))) := by
  unfold goodAt; rw [List.getElem?_eq_getElem h]
theorem goodTo_succ (last : Int) (ls : List Lse) (k : Nat) : goodTo last ls (k + 1) = (goodTo last ls k && goodAt last ls k) := by
  unfold goodTo; rw [List.range_succ, List.all_append]; simp
theorem goodTo_false {last : Int} {ls : List Lse} {k n : Nat} (hk : k < n) (h : goodAt last ls k = false) : goodTo last ls n = false := by
  unfold goodTo
  rw [List.all_eq_false]
  exact ⟨k, by simpa using hk, by simp [h]⟩
theorem rightT_iff {ls : List Lse} {last : Int} : rightT ls last = true ↔ (1 ≤ ls.length ∧ ls.length ≤ 32) ∧ (0 ≤ last ∧ last ≤ 1073741824) ∧ ∀ i (h : i < ls.length), badB last ls[i] = false ∧ (ls[i].tok ≠ 0 → hasB ls[i].tok (ls.take i) = false) := by
  unfold rightT goodTo
  simp only [Bool.and_eq_true, decide_eq_true_iff, List.all_eq_true, List.mem_range]
  constructor
  · rintro ⟨⟨⟨⟨a, b⟩, c⟩, d⟩, e⟩
    refine ⟨⟨a, b⟩, ⟨c, d⟩, fun i hi => ?_⟩
    have := e i hi
    rw [goodAt_eq hi] at this
    simp at this
    refine ⟨this.1, fun h => ?_⟩
    rcases this.2 with h2 | h2
    · exact absurd h2 h
    · exact h2
  · rintro ⟨⟨a, b⟩, ⟨c, d⟩, e⟩
    refine ⟨⟨⟨⟨a, b⟩, c⟩, d⟩, fun i hi => ?_⟩
    rw [goodAt_eq hi]
    obtain ⟨h1, h2⟩ := e i hi
    by_cases h : ls[i].tok = 0
    · simp [h1, h]
    · simp [h1, h2 h]

theorem infoLse : (Try.prog.info? 40).map (fun i => (i.zero, i.size, i.bytes)) = some (some (.agg #[.int .i64 0, .int .i64 0, .int .i64 0]), 3, 24) := by kernel_rfl

section
variable {H : Type} {enc : TypeId × Value → H} {P : Program}
/-- A row of leases that comes in. -/
theorem open_leases {t e ti : TypeId} {f0 f1 f2 : Field} {k : Nat} {W : World} {v : Value} {y : DataW H × List MemPlace} (ht : P.underlying t = some (.slice e)) (he : P.underlying e = some (.struct #[f0, f1, f2])) (hC : P.cellsOf e = 3)
    (o0 : f0.offset = 0) (o1 : f1.offset = 1) (o2 : f2.offset = 2) (c0 : P.cellsOf f0.type = 1) (c1 : P.cellsOf f1.type = 1) (c2 : P.cellsOf f2.type = 1)
    (u0 : P.underlying f0.type = some (.int .i64)) (u1 : P.underlying f1.type = some (.int .i64)) (u2 : P.underlying f2.type = some (.int .i64))
    (h : DataW.trod enc P W 0 (fun _ => true) true k t [v] = some y) :
    ∃ (A : Option Addr) (n c : Nat) (ls : List Lse), v = .slice A n c ∧ Reads W W.heap.size 3 A n (flat ls) ∧ n ≤ 9223372036854775807 ∧ n ≤ c ∧
      ∀ l ∈ ls, (Lit.int .i64 l.own).wf = true ∧ (Lit.int .i64 l.tok).wf = true ∧ (Lit.int .i64 l.til).wf = true := by
  rcases Go.Deep.open_slice ht h with ⟨hcs, _⟩ | ⟨a, len, cap, m, n, D, Pl, hcs, _, hl, hm, hmm, _, hx⟩
  · simp at hcs
    exact ⟨none, 0, 0, [], hcs, Reads.none_, by omega, by omega, by simp⟩
  · simp at hcs hmm
    subst hmm
    have each : ∀ i, i < len → ∃ q : Int × Int × Int, W.cell? (a.add (i * 3)) = some (.int .i64 q.1) ∧ W.cell? (a.add (i * 3 + 1)) = some (.int .i64 q.2.1) ∧ W.cell? (a.add (i * 3 + 2)) = some (.int .i64 q.2.2) ∧
        (Lit.int .i64 q.1).wf = true ∧ (Lit.int .i64 q.2.1).wf = true ∧ (Lit.int .i64 q.2.2).wf = true := by
      intro i hi
      obtain ⟨cs', h1, h2⟩ := hx i (by omega)
      rw [hC] at h1
      obtain ⟨_, hlen, hcell⟩ := World.cells?_some h1
      obtain ⟨y0, y1, y2, n', _, _, g0, g1, g2⟩ := Go.Deep.trod_struct3 he h2
      match cs', hlen with
      | [v0, v1, v2], _ =>
        simp [o0, o1, o2, c0, c1, c2] at g0 g1 g2
        obtain ⟨z0, e0, rfl, w0⟩ := DataW.trod_int u0 g0
        obtain ⟨z1, e1, rfl, w1⟩ := DataW.trod_int u1 g1
        obtain ⟨z2, e2, rfl, w2⟩ := DataW.trod_int u2 g2
        simp at e0 e1 e2
        subst e0 e1 e2
        have d0 := hcell 0 (by omega)
        have d1 := hcell 1 (by omega)
        have d2 := hcell 2 (by omega)
        rw [add_of_add] at d0 d1 d2
        exact ⟨(z0, z1, z2), by simpa using d0, by simpa using d1, by simpa using d2, w0, w1, w2⟩
    obtain ⟨q, hq⟩ := Go.Deep.choose_lt each
    have hlen : ((List.range len).map fun i => (⟨(q i).1, (q i).2.1, (q i).2.2⟩ : Lse)).length = len := by simp
    refine ⟨some a, len, m, (List.range len).map fun i => ⟨(q i).1, (q i).2.1, (q i).2.2⟩, hcs, ⟨by rw [flat_length, hlen], fun hn => ⟨a, rfl, ?_, ?_⟩⟩, by unfold maxLen at hm; omega, hl, ?_⟩
    · have := (hq 0 (by omega)).1
      have := World.block_lt_of_cell? W _ this
      rwa [block_of_add] at this
    · intro j u hu
      have hj : j < len * 3 := by
        have := (List.getElem?_eq_some_iff.1 hu).1
        rw [flat_length, hlen] at this
        exact this
      obtain ⟨e0, e1, e2⟩ := flat_at ((List.range len).map fun i => (⟨(q i).1, (q i).2.1, (q i).2.2⟩ : Lse)) (j / 3)
      rw [List.getElem?_map, List.getElem?_range (by omega)] at e0 e1 e2
      obtain ⟨d0, d1, d2, _⟩ := hq (j / 3) (by omega)
      rcases (show j = j / 3 * 3 ∨ j = j / 3 * 3 + 1 ∨ j = j / 3 * 3 + 2 by omega) with e | e | e
      · rw [e] at hu ⊢; rw [e0] at hu; rw [d0, ← hu]; rfl
      · rw [e] at hu ⊢; rw [e1] at hu; rw [d1, ← hu]; rfl
      · rw [e] at hu ⊢; rw [e2] at hu; rw [d2, ← hu]; rfl
    · intro l hl
      obtain ⟨i, hi, rfl⟩ := List.mem_map.1 hl
      obtain ⟨_, _, _, a1, a2, a3⟩ := hq i (List.mem_range.1 hi)
      exact ⟨a1, a2, a3⟩
end
end Go.Proofs.Ytinccckpohaoiaa
