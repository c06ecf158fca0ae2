/- Walks of package loop's queue: New, Len, the ring's put and take. -/
import Derived.Test.YtplfimaopegpmaaLoop
import Derived.Test.YtplfimaopegpmaaMem
import Derived.Deep.RegionLaw
namespace Go.Proofs.Ytplfimaopegpmaa
open Go.RowKit
set_option linter.unusedVariables false
set_option linter.unusedSimpArgs false

/-- An event that goes round: its key, time, value, and how often it went. -/
structure Rnd where
  key : ByteArray
  at_ : Int
  v : Int
  n : Int
def Rnd.vals (r : Rnd) : List Value := [.string r.key, .int .i64 r.at_, .int .i64 r.v, .int .i64 r.n]
def rnds (l : List Rnd) : List Value := l.flatMap Rnd.vals
theorem rnds_cons (r : Rnd) (l : List Rnd) : rnds (r :: l) = .string r.key :: .int .i64 r.at_ :: .int .i64 r.v :: .int .i64 r.n :: rnds l := rfl
theorem rnds_append (a b : List Rnd) : rnds (a ++ b) = rnds a ++ rnds b := by simp [rnds]
theorem rnds_length (l : List Rnd) : (rnds l).length = l.length * 4 := by
  induction l with
  | nil => rfl
  | cons r l ih => rw [rnds_cons]; simp only [List.length_cons, ih]; omega
theorem rnds_one (l : List Rnd) : ∀ u ∈ rnds l, u.oneCell' = true := by
  intro u hu
  obtain ⟨r, _, h⟩ := List.mem_flatMap.1 hu
  simp only [Rnd.vals, List.mem_cons, List.not_mem_nil, or_false] at h
  rcases h with rfl | rfl | rfl | rfl <;> rfl
theorem infoRnd : (Try.prog.info? 59).map (fun i => (i.zero, i.size, i.bytes)) = some (some (.agg #[.string .empty, .int .i64 0, .int .i64 0, .int .i64 0]), 4, 40) := by kernel_rfl

/-- A queue that is made. -/
def NewQ (lim fuel : Int) (w : World) (e : Ending) (w' : World) : Prop :=
  ∃ qb, e = .returned (.pointer (some ⟨qb, 0, none⟩)) ∧ w.heap.size ≤ qb ∧ Blk w' qb 56 #[.int .i64 (maxZ lim), .int .i64 (fuelZ fuel), .slice none 0 0] ∧ Below w.heap.size w w'
set_option maxHeartbeats 400000 in
theorem newQ_any (lim fuel : Int) (w : World) : Calls Try.prog 13 #[.int .i64 lim, .int .i64 fuel] w (NewQ lim fuel w) := by
  go_enter Try.func13, Try.ntmps13
  go_wp2_with fail
  refine (ruleOf_any _ _ _).mono ?_
  rintro e w1 ⟨rfl, hb⟩
  go_wp2
  go_ret
  exact ⟨_, rfl, hb.size, Blk.new _ _ _, hb.alloc hb.size _⟩
set_option maxHeartbeats 400000 in
theorem lenQ_any (qb n c : Nat) (A : Option Addr) (w : World) (hq : w.cell? ⟨qb, 2, none⟩ = some (.slice A n c)) : Calls Try.prog 17 #[.pointer (some ⟨qb, 0, none⟩)] w fun e w' => e = .returned (.int .i64 n) ∧ w = w' := by
  go_enter Try.func17, Try.ntmps17
  go_wp2
  go_ret
  exact ⟨rfl, rfl⟩
set_option maxHeartbeats 400000 in
theorem lenQ_nil (w : World) : Calls Try.prog 17 #[.pointer none] w fun e w' => e = .returned (.int .i64 0) ∧ w = w' := by
  go_enter Try.func17, Try.ntmps17
  go_wp2
  go_ret
  exact ⟨rfl, rfl⟩

theorem rnd_new (w : World) (a b c d : Value) (t : TypeId) : ∀ j u, [a, b, c, d][j]? = some u → (w.alloc (.cells #[a, b, c, d] t)).cell? ((⟨w.heap.size, 0, none⟩ : Addr).add j) = some u := by
  intro j u hu
  have hB := Blk.new w t #[a, b, c, d]
  match j, hu with
  | 0, hu => simpa [Addr.add] using (hB.cell 0).trans hu
  | 1, hu => simpa [Addr.add] using (hB.cell 1).trans hu
  | 2, hu => simpa [Addr.add] using (hB.cell 2).trans hu
  | 3, hu => simpa [Addr.add] using (hB.cell 3).trans hu
theorem own_succ {w : World} {base : Nat} {e : TypeId} {size n : Nat} {v : Value} {xs : List Value} (h : w.ownsRow base e size v (n + 1) xs) : ∃ g cap, v = .slice (some ⟨g, 0, none⟩) (n + 1) cap := by
  rcases h.2 with ⟨rfl, h0⟩ | ⟨g, cap, cur, rfl, _⟩
  · omega
  · exact ⟨_, _, rfl⟩
theorem blk_far {w w1 : World} {base g n size : Nat} {t e : TypeId} {cs : Array Value} {v : Value} {xs : List Value} (h : Blk w g t cs) (ho : w.ownsRow base e size v n xs) (hg : g < base) (hgr : w.grownBy w1 v.ownBlock) : Blk w1 g t cs :=
  h.grown hgr fun e => by have := (ho.lt _ e.symm).1; omega
theorem own_set {w : World} {base : Nat} {e : TypeId} {size : Nat} {v : Value} {n : Nat} {xs : List Value} (h : w.ownsRow base e size v n xs) {p : Addr} (u : Value) (hg : p.block < base) : (w.setCell p u).ownsRow base e size v n xs :=
  h.kept (only_setCell (World.grownBy.refl w (some p.block)) (.inl rfl) u) (.inr fun e => by have := (h.lt _ e).1; omega)
theorem below_drew' {B : Nat} {a w : World} (h : Below B a w) : Below B a w.drew := ⟨h.os, h.tape, h.output, h.size, h.block⟩
/-- What a call leaves that turns the queue in block qb: its cells and its row; what else was there is as it was. -/
def QPost (qb base : Nat) (lim fuel : Int) (v : Value) (ys : List Rnd) (w w' : World) : Prop :=
  ∃ v', Blk w' qb 56 #[.int .i64 lim, .int .i64 fuel, v'] ∧ w'.ownsRow base 59 4 v' ys.length (rnds ys) ∧ (∀ i, v'.ownBlock = some i → v.ownBlock = some i ∨ w.heap.size ≤ i) ∧ w.heap.size ≤ w'.heap.size ∧
    (∀ i, i < w.heap.size → i ≠ qb → v.ownBlock ≠ some i → w'.heap[i]? = w.heap[i]?) ∧ ∀ (B : Nat) (a : World), Below B a w → B ≤ qb → B ≤ base → B ≤ w.heap.size → Below B a w'
def PutPost (qb base : Nat) (lim fuel : Int) (v : Value) (ys : List Rnd) (w : World) (e : Ending) (w' : World) : Prop := e = .returned (.tuple #[]) ∧ QPost qb base lim fuel v ys w w'

set_option maxHeartbeats 1000000 in
theorem put_any (qb base n : Nat) (lim fuel : Int) (v : Value) (xs : List Rnd) (key : ByteArray) (a b k : Int) (w : World) (hQ : Blk w qb 56 #[.int .i64 lim, .int .i64 fuel, v]) (ho : w.ownsRow base 59 4 v n (rnds xs)) (hn : n ≤ 100) (hl : xs.length = n) (hb : base ≤ w.heap.size) (hqb : qb < base) :
    Calls Try.prog 21 #[.pointer (some ⟨qb, 2, none⟩), .agg #[.string key, .int .i64 a, .int .i64 b, .int .i64 k]] w (PutPost qb base lim fuel v (xs ++ [⟨key, a, b, k⟩]) w) := by
  obtain ⟨i0, hi, hz0, hz1, hz2⟩ := info_parts infoRnd
  have q2 : w.cell? ⟨qb, 2, none⟩ = some v := hQ.cell 2
  have lq := hQ.lt
  go_enter Try.func21, Try.ntmps21
  go_wp2_with fail
  have hX := rnd_new (w.alloc (.cells #[.string key, .int .i64 a, .int .i64 b, .int .i64 k] 59)) (.string key) (.int .i64 a) (.int .i64 b) (.int .i64 k) 59
  have ho2 := (ho.alloc (.cells #[.string key, .int .i64 a, .int .i64 b, .int .i64 k] 59)).alloc (.cells #[.string key, .int .i64 a, .int .i64 b, .int .i64 k] 59)
  have bQ2 := (hQ.alloc (.cells #[.string key, .int .i64 a, .int .i64 b, .int .i64 k] 59)).alloc (.cells #[.string key, .int .i64 a, .int .i64 b, .int .i64 k] 59)
  have hRd : Reads ((w.alloc (.cells #[.string key, .int .i64 a, .int .i64 b, .int .i64 k] 59)).alloc (.cells #[.string key, .int .i64 a, .int .i64 b, .int .i64 k] 59)) (w.heap.size + 2) 4 (some ⟨w.heap.size + 1, 0, none⟩) 1 [.string key, .int .i64 a, .int .i64 b, .int .i64 k] := ⟨rfl, fun _ => ⟨_, rfl, by simp, by simpa using hX⟩⟩
  have ho2d : ((w.alloc (.cells #[.string key, .int .i64 a, .int .i64 b, .int .i64 k] 59)).alloc (.cells #[.string key, .int .i64 a, .int .i64 b, .int .i64 k] 59)).drew.ownsRow base 59 4 v n (rnds xs) := ho2
  go_region_law (go_loud (refine step_append_any _ rfl (.tmp 8) (.tmp 10) 52 rfl base 59 i0 _ 4 40 Try.underlying52 hi hz0 hz1 hz2 rfl ?_ v n (rnds xs) ?_ ?_ (w.heap.size + 2) (some ⟨w.heap.size + 1, 0, none⟩) 1 1 [.string key, .int .i64 a, .int .i64 b, .int .i64 k] ?_ ?_ ?_ ?_ ?_ ?_ ?_; (first | decide); (first | rfl | simp [Act.eval, Act.put]); (first | exact ho2d); (first | rfl | simp [Act.eval, Act.put]); (first | exact hRd); (first | simp [Value.oneCell']); (first | (unfold maxLen; omega)); (first | omega); (first | (simp [World.drew]; omega)); intro v' w3 hown' hgrow hnb; obtain ⟨g3, cap3, rfl⟩ := own_succ hown'; have bQ3 := blk_far bQ2.drew ho2d hqb hgrow; have q3 : w3.cell? ⟨qb, 2, none⟩ = some v := bQ3.cell 2; have fQ3 := bQ3.frozen; have hgs := hgrow.size))
  all_goals
    go_end0
    have hys : (xs ++ [(⟨key, a, b, k⟩ : Rnd)]).length = n + 1 := by simp [hl]
    refine ⟨rfl, .slice (some ⟨g3, 0, none⟩) (n + 1) cap3, by simpa using bQ3.set_ 2 (.slice (some ⟨g3, 0, none⟩) (n + 1) cap3), ?_, ?_, ?_, ?_, ?_⟩
    · rw [hys, rnds_append]
      exact own_set hown' _ hqb
    · intro i hi
      rcases hnb with h | h
      · exact .inl (h ▸ hi)
      · rw [h] at hi
        simp [World.drew] at hi
        exact .inr (by omega)
    · simp at hgs ⊢
      omega
    · intro i hi hne hv
      refine (Below.heap_setCell w3 ⟨qb, 2, none⟩ _ i hne).trans ((hgrow.block i (by simp; omega) (fun e => hv e.symm)).trans ?_)
      exact (Below.heap_alloc _ _ i (by simp; omega)).trans (Below.heap_alloc _ _ i hi)
    · intro B a' hBa h1 h2 h3
      exact (((below_drew' ((hBa.alloc h3 _).alloc (by simp; omega) _)).grown hgrow (by simp; omega) (fun g hg => by have := (ho.lt g hg).1; omega)).setCell (p := ⟨qb, 2, none⟩) h1 _)
end Go.Proofs.Ytplfimaopegpmaa
