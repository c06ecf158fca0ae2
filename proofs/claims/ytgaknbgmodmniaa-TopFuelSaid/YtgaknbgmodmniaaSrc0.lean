/- Events in plain Lean, a row of events that comes in, and the walks of what tells whether events may be. -/
import Derived.Test.YtgaknbgmodmniaaMem
import Derived.Test.YtgaknbgmodmniaaClose
import Derived.Deep.Strs
import Derived.Deep.Slices
import Derived.Deep.Grids
import Derived.Lib.Strings
namespace Go.Proofs.Ytgaknbgmodmniaa
open Go.ChangeShapes Go.WideShapes Go.ChangeAt Go.RowKit
set_option linter.unusedVariables false
set_option linter.unusedSimpArgs false

theorem ret_bool' {a b : Bool} (h : a = b) : Ending.returned (.bool a) = .returned (.bool b) := by rw [h]

/-- An event: its key, time, value. -/
structure Ev where
  key : ByteArray
  at_ : Int
  v : Int
def Ev.vals (e : Ev) : List Value := [.string e.key, .int .i64 e.at_, .int .i64 e.v]
def evs (l : List Ev) : List Value := l.flatMap Ev.vals
theorem evs_cons (l : Ev) (ls : List Ev) : evs (l :: ls) = .string l.key :: .int .i64 l.at_ :: .int .i64 l.v :: evs ls := rfl
theorem evs_append (a b : List Ev) : evs (a ++ b) = evs a ++ evs b := by simp [evs]
theorem evs_length (l : List Ev) : (evs l).length = l.length * 3 := by
  induction l with
  | nil => rfl
  | cons r l ih => rw [evs_cons]; simp only [List.length_cons, ih]; omega
theorem evs_one (l : List Ev) : ∀ u ∈ evs l, u.oneCell' = true := by
  intro u hu
  obtain ⟨r, _, h⟩ := List.mem_flatMap.1 hu
  simp only [Ev.vals, List.mem_cons, List.not_mem_nil, or_false] at h
  rcases h with rfl | rfl | rfl <;> rfl
theorem evs_at : ∀ (ls : List Ev) (p : Nat), (evs ls)[p * 3]? = (ls[p]?).map (fun x => Value.string x.key) ∧ (evs ls)[p * 3 + 1]? = (ls[p]?).map (fun x => Value.int .i64 x.at_) ∧ (evs ls)[p * 3 + 2]? = (ls[p]?).map (fun x => Value.int .i64 x.v)
  | [], p => by simp [evs]
  | l :: ls, 0 => by simp [evs_cons]
  | l :: ls, p + 1 => by
    have h := evs_at ls p
    rw [evs_cons, show (p + 1) * 3 = p * 3 + 3 from by omega, show p * 3 + 3 + 1 = p * 3 + 1 + 3 from by omega, show p * 3 + 3 + 2 = p * 3 + 2 + 3 from by omega]
    simpa using h
theorem add_pos_eq (a : Addr) {n : Nat} (h : n ≠ 0) : a.add n = ⟨a.block, a.off + n, none⟩ := by unfold Addr.add; rw [if_neg h]
/-- The k-th event of a row. -/
theorem evs_get {w : World} {B n : Nat} {A : Option Addr} {ls : List Ev} (h : Reads w B 3 A n (evs ls)) {k : Nat} (hk : k < n) :
    ∃ (ad : Addr) (hl : k < ls.length), A = some ad ∧ ad.block < B ∧ w.cell? (ad.add (k * 3)) = some (.string ls[k].key) ∧ w.cell? ⟨(ad.add (k * 3)).block, (ad.add (k * 3)).off + 1, none⟩ = some (.int .i64 ls[k].at_) ∧ w.cell? ⟨(ad.add (k * 3)).block, (ad.add (k * 3)).off + 2, none⟩ = some (.int .i64 ls[k].v) := by
  obtain ⟨hlen, h2⟩ := h
  rw [evs_length] at hlen
  obtain ⟨ad, rfl, hb, hc⟩ := h2 (by omega)
  have hl : k < ls.length := by omega
  obtain ⟨e0, e1, e2⟩ := evs_at ls k
  rw [List.getElem?_eq_getElem hl] at e0 e1 e2
  exact ⟨ad, hl, rfl, hb, hc _ _ e0, by rw [← add_pos_eq _ (by omega : (1 : Nat) ≠ 0), add_of_add]; exact hc _ _ e1, by rw [← add_pos_eq _ (by omega : (2 : Nat) ≠ 0), add_of_add]; exact hc _ _ e2⟩
theorem evs_len {w : World} {B n : Nat} {A : Option Addr} {ls : List Ev} (h : Reads w B 3 A n (evs ls)) : ls.length = n := by
  have := h.1
  rw [evs_length] at this
  omega
section
variable {H : Type} {enc : TypeId × Value → H} {P : Program}
/-- A row of events that comes in. -/
theorem open_evs {t e : TypeId} {f0 f1 f2 : Field} {k : Nat} {W : World} {v : Value} {y : DataW H × List MemPlace} (ht : P.underlying t = some (.slice e)) (he : P.underlying e = some (.struct #[f0, f1, f2])) (hC : P.cellsOf e = 3)
    (o0 : f0.offset = 0) (o1 : f1.offset = 1) (o2 : f2.offset = 2) (c0 : P.cellsOf f0.type = 1) (c1 : P.cellsOf f1.type = 1) (c2 : P.cellsOf f2.type = 1)
    (u0 : P.underlying f0.type = some .string) (u1 : P.underlying f1.type = some (.int .i64)) (u2 : P.underlying f2.type = some (.int .i64))
    (h : DataW.trod enc P W 0 (fun _ => true) true k t [v] = some y) :
    ∃ (A : Option Addr) (n c : Nat) (ls : List Ev), v = .slice A n c ∧ Reads W W.heap.size 3 A n (evs ls) ∧ n ≤ 9223372036854775807 ∧ n ≤ c ∧
      ∀ l ∈ ls, l.key.size ≤ maxLen ∧ (Lit.int .i64 l.at_).wf = true ∧ (Lit.int .i64 l.v).wf = true := by
  rcases Go.Deep.open_slice ht h with ⟨hcs, _⟩ | ⟨a, len, cap, m, n, D, Pl, hcs, _, hl, hm, hmm, _, hx⟩
  · simp at hcs
    exact ⟨none, 0, 0, [], hcs, Reads.none_, by omega, by omega, by simp⟩
  · simp at hcs hmm
    subst hmm
    have each : ∀ i, i < len → ∃ q : ByteArray × Int × Int, W.cell? (a.add (i * 3)) = some (.string q.1) ∧ W.cell? (a.add (i * 3 + 1)) = some (.int .i64 q.2.1) ∧ W.cell? (a.add (i * 3 + 2)) = some (.int .i64 q.2.2) ∧
        q.1.size ≤ maxLen ∧ (Lit.int .i64 q.2.1).wf = true ∧ (Lit.int .i64 q.2.2).wf = true := by
      intro i hi
      obtain ⟨cs', h1, h2⟩ := hx i (by omega)
      rw [hC] at h1
      obtain ⟨_, hlen, hcell⟩ := World.cells?_some h1
      obtain ⟨y0, y1, y2, n', _, _, g0, g1, g2⟩ := Go.Deep.trod_struct3 he h2
      match cs', hlen with
      | [v0, v1, v2], _ =>
        simp [o0, o1, o2, c0, c1, c2] at g0 g1 g2
        obtain ⟨z0, e0, rfl, w0⟩ := DataW.trod_string u0 g0
        obtain ⟨z1, e1, rfl, w1⟩ := DataW.trod_int u1 g1
        obtain ⟨z2, e2, rfl, w2⟩ := DataW.trod_int u2 g2
        simp at e0 e1 e2
        subst e0 e1 e2
        have d0 := hcell 0 (by omega)
        have d1 := hcell 1 (by omega)
        have d2 := hcell 2 (by omega)
        rw [add_of_add] at d0 d1 d2
        exact ⟨(z0, z1, z2), by simpa using d0, by simpa using d1, by simpa using d2, w0, w1, w2⟩
    obtain ⟨q, hq⟩ := Go.Deep.choose_lt each
    have hlen : ((List.range len).map fun i => (⟨(q i).1, (q i).2.1, (q i).2.2⟩ : Ev)).length = len := by simp
    refine ⟨some a, len, m, (List.range len).map fun i => ⟨(q i).1, (q i).2.1, (q i).2.2⟩, hcs, ⟨by rw [evs_length, hlen], fun hn => ⟨a, rfl, ?_, ?_⟩⟩, by unfold maxLen at hm; omega, hl, ?_⟩
    · have := (hq 0 (by omega)).1
      have := World.block_lt_of_cell? W _ this
      rwa [block_of_add] at this
    · intro j u hu
      have hj : j < len * 3 := by
        have := (List.getElem?_eq_some_iff.1 hu).1
        rw [evs_length, hlen] at this
        exact this
      obtain ⟨e0, e1, e2⟩ := evs_at ((List.range len).map fun i => (⟨(q i).1, (q i).2.1, (q i).2.2⟩ : Ev)) (j / 3)
      rw [List.getElem?_map, List.getElem?_range (by omega)] at e0 e1 e2
      obtain ⟨d0, d1, d2, _⟩ := hq (j / 3) (by omega)
      rcases (show j = j / 3 * 3 ∨ j = j / 3 * 3 + 1 ∨ j = j / 3 * 3 + 2 by omega) with e | e | e
      · rw [e] at hu ⊢; rw [e0] at hu; rw [d0, ← hu]; rfl
      · rw [e] at hu ⊢; rw [e1] at hu; rw [d1, ← hu]; rfl
      · rw [e] at hu ⊢; rw [e2] at hu; rw [d2, ← hu]; rfl
    · intro l hl
      obtain ⟨i, hi, rfl⟩ := List.mem_map.1 hl
      obtain ⟨_, _, _, a1, a2, a3⟩ := hq i (List.mem_range.1 hi)
      exact ⟨a1, a2, a3⟩
end

theorem alloc_cell {w : World} {a : Addr} {v : Value} (ha : a.block < w.heap.size) (h : w.cell? a = some v) : ∀ o : Obj, (w.alloc o).cell? a = some v := fun o => (World.cell?_alloc_lt w o a ha).trans h
theorem reads_alloc {w : World} {size n : Nat} {A : Option Addr} {xs : List Value} {o : Obj} (h : Reads w w.heap.size size A n xs) : Reads (w.alloc o) (w.alloc o).heap.size size A n xs := (h.alloc (Nat.le_refl _) o).more (by simp)
theorem reads_below {w w' : World} {size n : Nat} {A : Option Addr} {xs : List Value} (h : Reads w w.heap.size size A n xs) (hb : Below w.heap.size w w') : Reads w' w'.heap.size size A n xs := (h.below hb).more hb.size

/-- A key that may be; an event that may be; a source's events that may be. -/
def keyB (k : ByteArray) : Bool := decide (1 ≤ k.size) && decide (k.size ≤ 16)
def evB (e : Ev) : Bool := keyB e.key && decide (0 ≤ e.at_) && decide (e.at_ < 1099511627776)
def inB (l : List Ev) : Bool := decide (l.length ≤ 200) && l.all evB
def badB (l : List Ev) : Bool := l.any fun e => !evB e
theorem inB_eq (l : List Ev) : inB l = (decide (l.length ≤ 200) && !badB l) := by
  unfold inB badB
  congr 1
  induction l with
  | nil => rfl
  | cons x l ih => simp [ih]

theorem str_size (s : ByteArray) : s.toList.length = s.size := by rw [Lib.toList_data, Lib.size_eq]
set_option maxHeartbeats 400000 in
theorem key_any (s : ByteArray) (w : World) (hs : s.size ≤ maxLen) : Calls Try.prog 34 #[.string s] w fun e w' => e = .returned (.bool (keyB s)) ∧ w = w' := by
  unfold maxLen at hs
  have hl := Lib.hid (str_size s)
  go_enter Try.func34, Try.ntmps34
  go_wp2
  all_goals go_ret
  all_goals
    have h := hl.out
    refine ⟨ret_bool' ?_, rfl⟩
    unfold keyB
    cases hs : s.toList with
    | nil => simp [hs] at h ⊢; try omega
    | cons a l => first | (rename_i hx; rw [hs] at hx; cases hx; done) | (simp [hs] at h ⊢; try (apply Bool.eq_iff_iff.2; simp; omega))
set_option maxHeartbeats 400000 in
theorem event_any (x : Ev) (w : World) (hs : x.key.size ≤ maxLen) : Calls Try.prog 26 #[.agg #[.string x.key, .int .i64 x.at_, .int .i64 x.v]] w fun e w' => e = .returned (.bool (evB x)) ∧ Below w.heap.size w w' := by
  cases hk : keyB x.key
  all_goals
    go_enter Try.func26, Try.ntmps26
    go_wp2_with (go_at_call 34; refine (key_any _ _ hs).mono ?_; rw [hk]; rintro e w' ⟨rfl, rfl⟩)
    all_goals go_ret
    all_goals
      refine ⟨ret_bool' ?_, by go_grown⟩
      unfold evB
      rw [hk]
      first | (simp; done) | (simp; omega) | (apply Bool.eq_iff_iff.2; simp; omega)
end Go.Proofs.Ytgaknbgmodmniaa
