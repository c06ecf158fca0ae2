/- Walk of the ring's take. -/
import Derived.Test.YtplfimaopegpmaaQue1
namespace Go.Proofs.Ytplfimaopegpmaa
open Go.RowKit
set_option linter.unusedVariables false
set_option linter.unusedSimpArgs false

theorem own_mono {w : World} {base base' : Nat} {e : TypeId} {size : Nat} {v : Value} {n : Nat} {xs : List Value} (h : w.ownsRow base e size v n xs) (hb : base' ≤ base) : w.ownsRow base' e size v n xs := by
  obtain ⟨h1, h2⟩ := h
  refine ⟨h1, ?_⟩
  rcases h2 with h2 | ⟨g, cap, cur, hv, hg, r⟩
  · exact .inl h2
  · exact .inr ⟨g, cap, cur, hv, by omega, r⟩
theorem own_form {w : World} {b : Nat} {e : TypeId} {size n : Nat} {v : Value} {xs : List Value} (h : w.ownsRow b e size v n xs) : ∃ A c, v = .slice A n c := by
  rcases h.2 with ⟨rfl, rfl⟩ | ⟨g', cap, cur, rfl, _⟩
  · exact ⟨_, _, rfl⟩
  · exact ⟨_, _, rfl⟩
/-- What taking the first one leaves. -/
def TakePost (qb base : Nat) (lim fuel : Int) (v : Value) (xs : List Rnd) (w : World) (e : Ending) (w' : World) : Prop :=
  match xs with
  | [] => e = .returned (.tuple #[.agg #[.string .empty, .int .i64 0, .int .i64 0, .int .i64 0], .bool false]) ∧ Below w.heap.size w w'
  | x :: ys => e = .returned (.tuple #[.agg #[.string x.key, .int .i64 x.at_, .int .i64 x.v, .int .i64 x.n], .bool true]) ∧ QPost qb base lim fuel v ys w w'

set_option maxHeartbeats 1000000 in
theorem take_nil (qb base c : Nat) (lim fuel : Int) (A : Option Addr) (w : World) (hQ : Blk w qb 56 #[.int .i64 lim, .int .i64 fuel, .slice A 0 c]) :
    Calls Try.prog 22 #[.pointer (some ⟨qb, 2, none⟩)] w (TakePost qb base lim fuel (.slice A 0 c) [] w) := by
  have q2 : w.cell? ⟨qb, 2, none⟩ = some (.slice A 0 c) := hQ.cell 2
  have lq := hQ.lt
  go_enter Try.func22, Try.ntmps22
  go_wp2
  exact bodyPost_ret (v := .tuple #[.agg #[.string .empty, .int .i64 0, .int .i64 0, .int .i64 0], .bool false]) (by simp [results, Try.results22, go_sem, World.cell?_setCell_other]; rfl) rfl ⟨rfl, by go_grown⟩

set_option maxHeartbeats 1000000 in
theorem take_some (qb base n : Nat) (lim fuel : Int) (v : Value) (x : Rnd) (ys : List Rnd) (w : World) (hQ : Blk w qb 56 #[.int .i64 lim, .int .i64 fuel, v]) (ho : w.ownsRow base 59 4 v (n + 1) (rnds (x :: ys))) (hn : n ≤ 100) (hl : ys.length = n) (hb : base ≤ w.heap.size) (hqb : qb < base) :
    Calls Try.prog 22 #[.pointer (some ⟨qb, 2, none⟩)] w (TakePost qb base lim fuel v (x :: ys) w) := by
  obtain ⟨i0, hi, hz0, hz1, hz2⟩ := info_parts infoRnd
  obtain ⟨g, c, rfl⟩ := own_succ ho
  have hrd := Reads.of_own ho
  obtain ⟨ad, ea, hgl, hc⟩ := hrd.2 (by omega)
  obtain rfl := Option.some.inj ea
  have x0 : w.cell? ⟨g, 0, none⟩ = some (.string x.key) := by simpa [Addr.add] using hc 0 _ rfl
  have x1 : w.cell? ⟨g, 1, none⟩ = some (.int .i64 x.at_) := by simpa [Addr.add] using hc 1 _ rfl
  have x2 : w.cell? ⟨g, 2, none⟩ = some (.int .i64 x.v) := by simpa [Addr.add] using hc 2 _ rfl
  have x3 : w.cell? ⟨g, 3, none⟩ = some (.int .i64 x.n) := by simpa [Addr.add] using hc 3 _ rfl
  have q2 : w.cell? ⟨qb, 2, none⟩ = some (.slice (some ⟨g, 0, none⟩) (n + 1) c) := hQ.cell 2
  have lq := hQ.lt
  have fQ := hQ.frozen
  have lq1 : qb < w.heap.size + 1 := by omega
  have lq2 : qb < w.heap.size + 1 + 1 := by omega
  have hsrc : Reads w w.heap.size 4 (some ⟨g, 4, none⟩) n (rnds ys) := ⟨by rw [rnds_length, hl], fun h0 => ⟨_, rfl, hgl, fun j u hu => by
    rw [show (⟨g, 4, none⟩ : Addr) = (⟨g, 0, none⟩ : Addr).add 4 from rfl, add_of_add]
    refine hc _ _ ?_
    rw [rnds_cons, show 4 + j = j + 1 + 1 + 1 + 1 from by omega]
    exact hu⟩⟩
  clear ea hc
  by_cases hc1 : c = 1
  · subst hc1
    have hn0 : n = 0 := by
      rcases ho.2 with ⟨e1, e2⟩ | ⟨g', cap, cur, e1, _, _, e2, _⟩
      · omega
      · injection e1 with _ _ e3
        omega
    subst hn0
    obtain rfl : ys = [] := List.eq_nil_of_length_eq_zero hl
    go_enter Try.func22, Try.ntmps22
    go_wp2
    all_goals
      refine bodyPost_ret (v := .tuple #[.agg #[.string x.key, .int .i64 x.at_, .int .i64 x.v, .int .i64 x.n], .bool true]) (by simp [results, Try.results22, go_sem, World.cell?_setCell_other]) rfl ⟨rfl, .slice none 0 0, ?_, World.ownsRow_nil _ _ _ _, (fun i hi => by simp [Value.ownBlock] at hi), ?_, ?_, ?_⟩
      · simpa using (((hQ.set_ 2 (.slice none 0 0)).alloc _).alloc _).alloc _
      · simp
        omega
      · intro i hi hne hv
        exact (Below.heap_alloc _ _ i (by simp; omega)).trans ((Below.heap_alloc _ _ i (by simp; omega)).trans ((Below.heap_alloc _ _ i (by simpa using hi)).trans (Below.heap_setCell w ⟨qb, 2, none⟩ _ i hne)))
      · intro B a' hBa h1 h2 h3
        exact (((hBa.setCell (p := ⟨qb, 2, none⟩) h1 _).alloc (by simpa using h3) _).alloc (by simp; omega) _).alloc (by simp; omega) _
  · go_enter Try.func22, Try.ntmps22
    go_wp2_with (at_builtin; go_loud (refine wpList_append_any _ rfl (.const (.slice none 0 0)) (.tmp 24) 52 rfl (w.heap.size + 1) 59 i0 _ 4 40 Try.underlying52 hi hz0 hz1 hz2 rfl (by decide) (.slice none 0 0) 0 [] rfl (World.ownsRow_nil _ _ _ _) w.heap.size (some ⟨g, 4, none⟩) n (c - 1) (rnds ys) rfl (((hsrc.alloc (Nat.le_refl _) _).alloc (by simp) _).alloc (by simp; omega) _) (rnds_one ys) (by unfold maxLen; omega) (by omega) (by simp <;> omega) ?_; intro v' w3 hown' hgrow hnb; obtain ⟨A', c', rfl⟩ := own_form hown'; have hgs := hgrow.size; have hno : ∀ q, some q ≠ (Value.slice none 0 0).ownBlock := (fun q e => by simp [Value.ownBlock] at e); have bQ3 := (((hQ.alloc (.cells #[.string ⟨#[]⟩, .int .i64 0, .int .i64 0, .int .i64 0] 59)).alloc (.cells #[.string ⟨#[]⟩, .int .i64 0, .int .i64 0, .int .i64 0] 59)).alloc (.cells #[.string x.key, .int .i64 x.at_, .int .i64 x.v, .int .i64 x.n] 59)).grown hgrow (hno _); have bR3 := (((Blk.new w 59 #[.string ⟨#[]⟩, .int .i64 0, .int .i64 0, .int .i64 0]).alloc (.cells #[.string ⟨#[]⟩, .int .i64 0, .int .i64 0, .int .i64 0] 59)).alloc (.cells #[.string x.key, .int .i64 x.at_, .int .i64 x.v, .int .i64 x.n] 59)).grown hgrow (hno _); have bX3 : Blk w3 (w.heap.size + 1 + 1) 59 #[.string x.key, .int .i64 x.at_, .int .i64 x.v, .int .i64 x.n] := (by simpa using (Blk.new ((w.alloc (.cells #[.string ⟨#[]⟩, .int .i64 0, .int .i64 0, .int .i64 0] 59)).alloc (.cells #[.string ⟨#[]⟩, .int .i64 0, .int .i64 0, .int .i64 0] 59)) 59 #[.string x.key, .int .i64 x.at_, .int .i64 x.v, .int .i64 x.n]) : Blk _ (w.heap.size + 1 + 1) _ _).grown hgrow (hno _); have p2 : w3.cell? ⟨qb, 2, none⟩ = some (.slice (some ⟨g, 0, none⟩) (n + 1) c) := bQ3.cell 2; have fQ3 := bQ3.frozen; have fR3 := bR3.frozen; have r0 : w3.cell? ⟨w.heap.size, 0, none⟩ = some (.string ⟨#[]⟩) := bR3.cell 0; have r1 : w3.cell? ⟨w.heap.size, 1, none⟩ = some (.int .i64 0) := bR3.cell 1; have r2 : w3.cell? ⟨w.heap.size, 2, none⟩ = some (.int .i64 0) := bR3.cell 2; have r3 : w3.cell? ⟨w.heap.size, 3, none⟩ = some (.int .i64 0) := bR3.cell 3; have y0 : w3.cell? ⟨w.heap.size + 1 + 1, 0, none⟩ = some (.string x.key) := bX3.cell 0; have y1 : w3.cell? ⟨w.heap.size + 1 + 1, 1, none⟩ = some (.int .i64 x.at_) := bX3.cell 1; have y2 : w3.cell? ⟨w.heap.size + 1 + 1, 2, none⟩ = some (.int .i64 x.v) := bX3.cell 2; have y3 : w3.cell? ⟨w.heap.size + 1 + 1, 3, none⟩ = some (.int .i64 x.n) := bX3.cell 3))
    have n1 : qb ≠ w.heap.size := by omega
    refine bodyPost_ret (v := .tuple #[.agg #[.string x.key, .int .i64 x.at_, .int .i64 x.v, .int .i64 x.n], .bool true]) (by simp [results, Try.results22, go_sem, r0, r1, r2, r3, n1, n1.symm, World.cell?_setCell_other]) rfl ⟨rfl, .slice A' n c', ?_, ?_, ?_, ?_, ?_, ?_⟩
    · simpa using ((((bQ3.set_ 2 (.slice A' n c')).far (p := ⟨w.heap.size, 0, none⟩) n1 (.string x.key)).far (p := ⟨w.heap.size, 1, none⟩) n1 (.int .i64 x.at_)).far (p := ⟨w.heap.size, 2, none⟩) n1 (.int .i64 x.v)).far (p := ⟨w.heap.size, 3, none⟩) n1 (.int .i64 x.n)
    · rw [hl]
      refine own_mono (base := w.heap.size + 1) ?_ (by omega)
      have h := hown'
      rw [Nat.zero_add, List.nil_append] at h
      exact own_set (own_set (own_set (own_set (own_set h _ (show qb < w.heap.size + 1 by omega)) _ (Nat.lt_succ_self _)) _ (Nat.lt_succ_self _)) _ (Nat.lt_succ_self _)) _ (Nat.lt_succ_self _)
    · intro i hi
      rw [Nat.zero_add] at hnb
      rcases hnb with h | h
      · rw [h] at hi
        simp [Value.ownBlock] at hi
      · rw [h] at hi
        simp at hi
        exact .inr (by omega)
    · simp at hgs ⊢
      omega
    · intro i hi hne hv
      have n2 : i ≠ w.heap.size := by omega
      refine (Below.heap_setCell _ ⟨w.heap.size, 3, none⟩ _ i n2).trans ((Below.heap_setCell _ ⟨w.heap.size, 2, none⟩ _ i n2).trans ((Below.heap_setCell _ ⟨w.heap.size, 1, none⟩ _ i n2).trans ((Below.heap_setCell _ ⟨w.heap.size, 0, none⟩ _ i n2).trans ((Below.heap_setCell w3 ⟨qb, 2, none⟩ _ i hne).trans ((hgrow.block i (by simp; omega) (hno i)).trans ?_)))))
      exact (Below.heap_alloc _ _ i (by simp; omega)).trans ((Below.heap_alloc _ _ i (by simp; omega)).trans (Below.heap_alloc _ _ i hi))
    · intro B a' hBa h1 h2 h3
      exact (((((((((hBa.alloc h3 _).alloc (by simp; omega) _).alloc (by simp; omega) _).grown hgrow (by simp; omega) (fun g hg => absurd hg.symm (hno g))).setCell (p := ⟨qb, 2, none⟩) h1 _).setCell (p := ⟨w.heap.size, 0, none⟩) h3 _).setCell (p := ⟨w.heap.size, 1, none⟩) h3 _).setCell (p := ⟨w.heap.size, 2, none⟩) h3 _).setCell (p := ⟨w.heap.size, 3, none⟩) h3 _)
end Go.Proofs.Ytplfimaopegpmaa
