/- A map of the call's own of which each entry is known to have a property; ranged over with a store at a key that is there. -/
import Derived.Test.YtinccckpohaoiaaMem
import Derived.Maps.OwnOps
import Derived.Maps.RangeWalk
import Derived.WideKeyEntry
import Derived.DeepKeys5
namespace Go.Proofs.Ytinccckpohaoiaa
open Go.ChangeMaps Go.MapKept Go.WideShapes Go.RowKit
open Go.Maps (Keyed)
set_option linter.unusedVariables false
set_option linter.unusedSimpArgs false

/-- Block b is a map of at most n entries, each with the property Q. -/
def Ents (w : World) (b n : Nat) (Q : Value → Value → Prop) : Prop :=
  ∃ es clock, w.heap[b]? = some (.map es clock) ∧ Stamped es clock ∧ es.size ≤ n ∧ ∀ x ∈ es.toList, Q x.key x.val
/-- A range over it is under way (block r), so many are still to come. -/
def Rng (w : World) (b r n : Nat) (Q : Value → Value → Prop) (cnt : Nat) : Prop :=
  ∃ es clock since seen c0, w.heap[b]? = some (.map es clock) ∧ Stamped es clock ∧ es.size ≤ n ∧ (∀ x ∈ es.toList, Q x.key x.val) ∧ w.heap[r]? = some (.mapIter (some b) since seen c0) ∧ (∀ x ∈ es.toList, x.born < since) ∧ (leftOf es seen).size = cnt ∧ since ≤ c0 ∧ since ≤ clock
/-- There is an entry at a key. -/
def KeyIn (w : World) (b : Nat) (key : Value) : Prop := ∃ es clock, w.heap[b]? = some (.map es clock) ∧ ∃ x ∈ es.toList, x.key = key
section
variable {P : Program} {w w' : World} {b r n cnt : Nat} {Q Q' : Value → Value → Prop} {k e t : TypeId} {key val : Value}
theorem Ents.lt (h : Ents w b n Q) : b < w.heap.size := by
  obtain ⟨es, clock, hb, _⟩ := h
  exact (Array.getElem?_eq_some_iff.1 hb).1
theorem Ents.weak (h : Ents w b n Q) (hq : ∀ key val, Q key val → Q' key val) : Ents w b n Q' := by
  obtain ⟨es, clock, hb, hs, hn, hx⟩ := h
  exact ⟨es, clock, hb, hs, hn, fun x hm => hq _ _ (hx x hm)⟩
theorem Ents.made (w : World) : Ents (w.alloc (.map #[] 0)) w.heap.size 0 Q := ⟨#[], 0, (heap_alloc w _).1, stamped_empty 0, by simp, by simp⟩
theorem Ents.heap (h : Ents w b n Q) (e : w'.heap[b]? = w.heap[b]?) : Ents w' b n Q := by
  obtain ⟨es, clock, hb, rest⟩ := h
  exact ⟨es, clock, e.trans hb, rest⟩
theorem Ents.below {B : Nat} (h : Ents w b n Q) (hb : Below B w w') (hB : b < B) : Ents w' b n Q := h.heap (hb.block b hB)
theorem Ents.alloc (h : Ents w b n Q) (o : Obj) : Ents (w.alloc o) b n Q := h.heap ((heap_alloc w o).2 b h.lt)
theorem KeyIn.heap (h : KeyIn w b key) (e : w'.heap[b]? = w.heap[b]?) : KeyIn w' b key := by
  obtain ⟨es, clock, hb, rest⟩ := h
  exact ⟨es, clock, e.trans hb, rest⟩
theorem Rng.lt (h : Rng w b r n Q cnt) : r < w.heap.size := by
  obtain ⟨es, clock, since, seen, c0, _, _, _, _, hr, _⟩ := h
  exact (Array.getElem?_eq_some_iff.1 hr).1
theorem Rng.ents (h : Rng w b r n Q cnt) : Ents w b n Q := by
  obtain ⟨es, clock, since, seen, c0, hb, hs, hn, hx, _⟩ := h
  exact ⟨es, clock, hb, hs, hn, hx⟩
theorem Rng.left_eq (h : Rng w b r n Q cnt) : w.rangeLeft b r = cnt := by
  obtain ⟨es, clock, since, seen, c0, hb, _, _, _, hr, _, hc, _⟩ := h
  simp only [World.rangeLeft, hb, hr]
  exact hc
theorem Rng.ne (h : Rng w b r n Q cnt) : r ≠ b := by
  obtain ⟨es, clock, since, seen, c0, hb, _, _, _, hr, _⟩ := h
  intro e
  rw [e, hb] at hr
  cases hr
theorem Rng.heap (h : Rng w b r n Q cnt) (e : w'.heap[b]? = w.heap[b]?) (e' : w'.heap[r]? = w.heap[r]?) : Rng w' b r n Q cnt := by
  obtain ⟨es, clock, since, seen, c0, hb, hs, hn, hx, hr, rest⟩ := h
  exact ⟨es, clock, since, seen, c0, e.trans hb, hs, hn, hx, e'.trans hr, rest⟩
theorem Rng.below (h : Rng w b r n Q cnt) (hb : Below w.heap.size w w') : Rng w' b r n Q cnt := h.heap (hb.block b h.ents.lt) (hb.block r h.lt)
theorem KeyIn.lt (h : KeyIn w b key) : b < w.heap.size := by
  obtain ⟨es, clock, hb, _⟩ := h
  exact (Array.getElem?_eq_some_iff.1 hb).1
theorem KeyIn.below (h : KeyIn w b key) (hb : Below w.heap.size w w') : KeyIn w' b key := h.heap (hb.block b h.lt)
/-- What a store at a key that is there makes of the entries. -/
theorem modify_there {es : Array MapEntry} {clock j : Nat} {e0 : MapEntry} (hs : Stamped es clock) (h2 : es.toList[j]? = some e0) (h3 : e0.key = key) (hx : ∀ x ∈ es.toList, Q x.key x.val) (hq : Q key val) :
    Stamped (es.modify j (fun e' => { e' with key := key, val := val })) clock ∧ (es.modify j (fun e' => { e' with key := key, val := val })).size = es.size ∧
      (∀ x ∈ (es.modify j (fun e' => { e' with key := key, val := val })).toList, Q x.key x.val) ∧ (es.modify j (fun e' => { e' with key := key, val := val })).toList.map (·.born) = es.toList.map (·.born) := by
  have hj : es[j]? = some e0 := by simpa using h2
  have hlist : (es.modify j (fun e' => { e' with key := key, val := val })).toList = es.toList.set j { e0 with key := key, val := val } := by rw [Array.toList_modify, modify_eq_set _ _ _ _ h2]
  refine ⟨stamped_modify hs _ _ (fun _ _ => rfl) (fun e' _ he' => ?_), by simp, fun x hm => ?_, ?_⟩
  · rw [hj] at he'; cases he'; exact h3.symm
  · rw [hlist] at hm
    rcases List.mem_or_eq_of_mem_set hm with h | rfl
    · exact hx x h
    · exact hq
  · rw [hlist, List.map_set]
    apply List.ext_getElem?
    intro i
    rw [List.getElem?_set]
    split
    · rename_i hi
      subst hi
      have hl : j < es.toList.length := (List.getElem?_eq_some_iff.1 h2).1
      rw [if_pos (by simpa using hl), List.getElem?_map, h2]
      rfl
    · rfl
/-- 'm[k] = v'. -/
theorem Ents.update (h : Ents w b n Q) (K : Keyed P k) (ht : P.underlying t = some (.map k e)) (hQ : ∀ key val, Q key val → ∃ l, keyOf P k key = some l) (hq : Q key val) :
    ∃ w', (Instr.mapUpdate t (.map (some b)) key val).run P w = .ok () w' ∧ Ents w' b (n + 1) Q ∧ w.grownBy w' (some b) := by
  obtain ⟨es, clock, hb, hs, hn, hx⟩ := h
  obtain ⟨kl, hkey⟩ := hQ _ _ hq
  rcases K.find w hkey es.toList (fun x hm => hQ _ _ (hx x hm)) with ⟨h1, h2⟩ | ⟨j, e0, h1, h2, h3⟩
  · refine ⟨setBlock w b (.map (es.push ⟨key, val, clock⟩) (clock + 1)), ?_, ⟨_, _, heap_setBlock_same hb _, stamped_push hs h2, by simp; omega, fun x hm => ?_⟩, ⟨rfl, rfl, rfl, by simp [setBlock], fun i _ hi => heap_setBlock_other hb _ (fun e => hi (by rw [e]))⟩⟩
    · simp [Instr.mapUpdate, run_underlying ht, MapKept.run_getObj_map hb, K.check w false hkey, h1, MapKept.run_setObj_map _ hb, Result.andThen, setBlock]
    · simp only [Array.toList_push, List.mem_append, List.mem_singleton] at hm
      rcases hm with hm | rfl
      · exact hx x hm
      · exact hq
  · have hj : es[j]? = some e0 := by simpa using h2
    obtain ⟨m1, m2, m3, m4⟩ := modify_there (Q := Q) hs h2 h3 hx hq
    refine ⟨setBlock w b (.map (es.modify j (fun e' => { e' with key := key, val := val })) clock), ?_, ⟨_, _, heap_setBlock_same hb _, m1, by omega, m3⟩, ⟨rfl, rfl, rfl, by simp [setBlock], fun i _ hi => heap_setBlock_other hb _ (fun e => hi (by rw [e]))⟩⟩
    simp [Instr.mapUpdate, run_underlying ht, MapKept.run_getObj_map hb, K.check w false hkey, h1, hj, h3, K.stays w hkey, MapKept.run_setObj_map _ hb, Result.andThen, setBlock]
theorem left_born {es es' : Array MapEntry} {seen : Array Nat} (h : es'.toList.map (·.born) = es.toList.map (·.born)) : (leftOf es' seen).size = (leftOf es seen).size := by
  have e1 : ∀ a : Array MapEntry, (leftOf a seen).size = ((a.toList.map (·.born)).filter fun x => !seen.contains x).length := fun a => by
    unfold leftOf
    rw [← Array.length_toList, Array.toList_filter, List.filter_map, List.length_map]
    rfl
  rw [e1, e1, h]
/-- 'm[k] = v' in a round, at a key that is there. -/
theorem Rng.update (h : Rng w b r n Q cnt) (K : Keyed P k) (ht : P.underlying t = some (.map k e)) (hQ : ∀ key val, Q key val → ∃ l, keyOf P k key = some l) (hq : Q key val) (hin : KeyIn w b key) :
    ∃ w', (Instr.mapUpdate t (.map (some b)) key val).run P w = .ok () w' ∧ Rng w' b r n Q cnt ∧ w.grownBy w' (some b) := by
  have hne := h.ne
  obtain ⟨es, clock, since, seen, c0, hb, hs, hn, hx, hr, hold, hc, hsc, hsk⟩ := h
  obtain ⟨kl, hkey⟩ := hQ _ _ hq
  obtain ⟨es1, clock1, hb1, x1, hx1, hk1⟩ := hin
  rw [hb] at hb1
  cases hb1
  rcases K.find w hkey es.toList (fun x hm => hQ _ _ (hx x hm)) with ⟨h1, h2⟩ | ⟨j, e0, h1, h2, h3⟩
  · exact absurd hk1 (h2 x1 hx1)
  · have hj : es[j]? = some e0 := by simpa using h2
    obtain ⟨m1, m2, m3, m4⟩ := modify_there (Q := Q) hs h2 h3 hx hq
    refine ⟨setBlock w b (.map (es.modify j (fun e' => { e' with key := key, val := val })) clock), ?_, ⟨_, _, since, seen, c0, heap_setBlock_same hb _, m1, by omega, m3, (heap_setBlock_other hb _ hne).trans hr, fun x hm => ?_, (left_born m4).trans hc, hsc, hsk⟩, ⟨rfl, rfl, rfl, by simp [setBlock], fun i _ hi => heap_setBlock_other hb _ (fun e => hi (by rw [e]))⟩⟩
    · simp [Instr.mapUpdate, run_underlying ht, MapKept.run_getObj_map hb, K.check w false hkey, h1, hj, h3, K.stays w hkey, MapKept.run_setObj_map _ hb, Result.andThen, setBlock]
    · have hm' : x.born ∈ es.toList.map (·.born) := m4 ▸ List.mem_map.2 ⟨x, hm, rfl⟩
      obtain ⟨y, hy, ey⟩ := List.mem_map.1 hm'
      rw [← ey]
      exact hold y hy
/-- 'range m'. -/
theorem Ents.range (h : Ents w b n Q) (ht : P.underlying t = some (.map k e)) :
    ∃ w' cnt, (Instr.range t (.map (some b))).run P w = .ok (.pointer (some ⟨w.heap.size, 0, none⟩)) w' ∧ Rng w' b w.heap.size n Q cnt ∧ Below w.heap.size w w' ∧ w'.heap.size = w.heap.size + 1 := by
  have hlt := h.lt
  obtain ⟨es, clock, hb, hs, hn, hx⟩ := h
  exact ⟨_, _, run_range_map w t k e b es clock ht hb, ⟨es, clock, clock, #[], clock, ((heap_alloc w _).2 b hlt).trans hb, hs, hn, hx, (heap_alloc w _).1, hs.1, rfl, Nat.le_refl _, Nat.le_refl _⟩, (Below.refl _ w).alloc (Nat.le_refl _) _, by simp⟩
/-- The step. -/
theorem Rng.next (h : Rng w b r n Q cnt) (ty : TypeId) :
    (cnt = 0 ∧ (Instr.next (.pointer (some ⟨r, 0, none⟩)) false ty).run P w = .ok (.tuple #[.bool false]) w) ∨
    ∃ key v w' cnt', Q key v ∧ KeyIn w' b key ∧ (Instr.next (.pointer (some ⟨r, 0, none⟩)) false ty).run P w = .ok (.tuple #[.bool true, key, v]) w' ∧ Rng w' b r n Q cnt' ∧ cnt' < cnt ∧ w.grownBy w' (some r) ∧ w'.heap.size = w.heap.size ∧
      (Instr.entry (.pointer (some ⟨r, 0, none⟩))).run P w' = .ok (.tuple #[key, v]) w' := by
  have hne := h.ne
  obtain ⟨es, clock, since, seen, c0, hb, hs, hn, hx, hr, hold, rfl, hsc, hsk⟩ := h
  rcases run_next_at (P := P) w ty r b since c0 seen es clock hr hb hold hsc with ⟨h0, hrun⟩ | ⟨e, he, w1, hal, hrun⟩
  · exact Or.inl ⟨h0, hrun⟩
  · obtain ⟨hem, hes⟩ := mem_left he
    have hr1 : w1.heap[r]? = some (.mapIter (some b) since seen c0) := by rcases hal with rfl | rfl <;> exact hr
    have hb1 : w1.heap[b]? = some (.map es clock) := by rcases hal with rfl | rfl <;> exact hb
    have hset := heap_set (o' := .mapIter (some b) since (seen.push e.born) clock) hr1
    have hb' : (setBlock w1 r (.mapIter (some b) since (seen.push e.born) clock)).heap[b]? = some (.map es clock) := (hset.2 b (fun e1 => hne e1.symm)).trans hb1
    refine Or.inr ⟨e.key, e.val, _, _, hx e hem, ⟨es, clock, hb', e, hem, rfl⟩, hrun, ⟨es, clock, since, seen.push e.born, clock, hb', hs, hn, hx, hset.1, hold, rfl, hsk, hsk⟩, left_shrinks es seen e he, ?_, ?_,
      run_entry_at _ r b since seen es clock e hset.1 hb' hem ((stamped_iff es clock).1 hs).2.1⟩
    · rcases hal with rfl | rfl <;> exact ⟨rfl, rfl, rfl, by simp [setBlock], fun i _ hi => hset.2 i (fun e1 => hi (by rw [e1]))⟩
    · rcases hal with rfl | rfl <;> simp [setBlock]
end
section
variable {P : Program} (w : World) {ops : Array Oper} {rest : List Oper} {o : Oper} {a : Act} {Z : Exit → Act → World → Prop} {Q : Value → Value → Prop}
theorem wpList_range_ents (hg : o.guard = none) (m : Operand) (t : TypeId) (hop : o.op = Op.range t m) (k e : TypeId) (ht : P.underlying t = some (.map k e)) (b n : Nat) (hm : a.eval m = .map (some b)) (h : Ents w b n Q)
    (hK : ∀ w' cnt, Rng w' b w.heap.size n Q cnt → Below w.heap.size w w' → w'.heap.size = w.heap.size + 1 → wpList P ops Z rest (a.put o.dst (.pointer (some ⟨w.heap.size, 0, none⟩))) w') :
    wpList P ops Z (o :: rest) a w := by
  refine wpList_plain hg fun K' hK' => ?_
  obtain ⟨w', cnt, hrun, r1, r2, r3⟩ := h.range ht
  unfold Oper.wp
  simp [execOp, hop, hm, hrun, Result.andThen]
  exact hK' _ _ (hK w' cnt r1 r2 r3)
theorem wpList_next_rng (hg : o.guard = none) (it : Operand) (hop : o.op = Op.next it false) (b r n cnt : Nat) (hit : a.eval it = .pointer (some ⟨r, 0, none⟩)) (h : Rng w b r n Q cnt)
    {α β : Type} (mkK : α → Value) (mkV : β → Value) (inv : ∀ key v, Q key v → ∃ x c, key = mkK x ∧ v = mkV c)
    (hDone : cnt = 0 → wpList P ops Z rest (a.put o.dst (.tuple #[.bool false])) w)
    (hMore : ∀ (x : α) (c : β) (w' : World) (cnt' : Nat), Q (mkK x) (mkV c) → KeyIn w' b (mkK x) → Rng w' b r n Q cnt' → cnt' < cnt → w.grownBy w' (some r) → w'.heap.size = w.heap.size →
      (Instr.entry (.pointer (some ⟨r, 0, none⟩))).run P w' = .ok (.tuple #[mkK x, mkV c]) w' → wpList P ops Z rest (a.put o.dst (.tuple #[.bool true, mkK x, mkV c])) w') :
    wpList P ops Z (o :: rest) a w := by
  refine wpList_plain hg fun K' hK' => ?_
  unfold Oper.wp
  rcases h.next (P := P) o.type with ⟨h0, hrun⟩ | ⟨key, v, w', cnt', hq, hin, hrun, hrg, hlt, hgr, hsz, hen⟩
  · simp [execOp, hop, hit, hrun, Result.andThen]
    exact hK' _ _ (hDone h0)
  · obtain ⟨x, c, rfl, rfl⟩ := inv key v hq
    simp [execOp, hop, hit, hrun, Result.andThen]
    exact hK' _ _ (hMore x c w' cnt' hq hin hrg hlt hgr hsz hen)
theorem wpList_update_ents (hg : o.guard = none) (m x v : Operand) (t : TypeId) (hop : o.op = Op.mapUpdate t m x v) (k e : TypeId) (K : Keyed P k) (ht : P.underlying t = some (.map k e)) (b n : Nat) (hm : a.eval m = .map (some b)) (h : Ents w b n Q)
    (hQ : ∀ key val, Q key val → ∃ l, keyOf P k key = some l) (key val : Value) (hx : a.eval x = key) (hv : a.eval v = val) (hq : Q key val)
    (hK : ∀ w', Ents w' b (n + 1) Q → w.grownBy w' (some b) → wpList P ops Z rest (a.put o.dst undef) w') :
    wpList P ops Z (o :: rest) a w := by
  refine wpList_plain hg fun K' hK' => ?_
  obtain ⟨w', hrun, r1, r2⟩ := h.update K ht hQ hq
  unfold Oper.wp
  simp [execOp, hop, hm, hx, hv, hrun, Result.andThen]
  exact hK' _ _ (hK w' r1 r2)
theorem wpList_update_rng (hg : o.guard = none) (m x v : Operand) (t : TypeId) (hop : o.op = Op.mapUpdate t m x v) (k e : TypeId) (K : Keyed P k) (ht : P.underlying t = some (.map k e)) (b r n cnt : Nat) (hm : a.eval m = .map (some b)) (h : Rng w b r n Q cnt)
    (hQ : ∀ key val, Q key val → ∃ l, keyOf P k key = some l) (key val : Value) (hx : a.eval x = key) (hv : a.eval v = val) (hq : Q key val) (hin : KeyIn w b key)
    (hK : ∀ w', Rng w' b r n Q cnt → w.grownBy w' (some b) → wpList P ops Z rest (a.put o.dst undef) w') :
    wpList P ops Z (o :: rest) a w := by
  refine wpList_plain hg fun K' hK' => ?_
  obtain ⟨w', hrun, r1, r2⟩ := h.update K ht hQ hq hin
  unfold Oper.wp
  simp [execOp, hop, hm, hx, hv, hrun, Result.andThen]
  exact hK' _ _ (hK w' r1 r2)
end
end Go.Proofs.Ytinccckpohaoiaa
