/- Walks of package loop's functions Half, ruleOf, leaves, Run and of their references. -/
import Derived.Test.YtgaknbgmodmniaaMem
namespace Go.Proofs.Ytgaknbgmodmniaa
open Go.RowKit
set_option linter.unusedVariables false
set_option linter.unusedSimpArgs false

theorem ret_int' {k : IntKind} {a b : Int} (h : a = b) : Ending.returned (.int k a) = .returned (.int k b) := by rw [h]
theorem ret_bool {a b : Bool} (h : a = b) : Ending.returned (.bool a) = .returned (.bool b) := by rw [h]

theorem ret_agg2 {a b c d : Int} (h : a = c) (h' : b = d) : Ending.returned (.agg #[.int .i64 a, .int .i64 b]) = .returned (.agg #[.int .i64 c, .int .i64 d]) := by rw [h, h']

def halfZ (v : Int) : Int := v.tdiv 2
def maxZ (a : Int) : Int := if a < 0 then 0 else a
def fuelZ (f : Int) : Int := if f < 0 then 0 else if 40 < f then 40 else f
def leavesB (lim fuel v n : Int) : Bool := decide (fuel ≤ n) || (decide (v ≤ lim) && decide (-lim ≤ v))

set_option maxHeartbeats 400000 in
theorem half_any (v : Int) (w : World) (h : -9223372036854775808 ≤ v ∧ v ≤ 9223372036854775807) : Calls Try.prog 7 #[.int .i64 v] w fun e w' => e = .returned (.int .i64 (halfZ v)) ∧ w = w' := by
  go_enter Try.func7, Try.ntmps7
  go_wp2
  go_ret
  exact ⟨rfl, rfl⟩

theorem half_eq (v : Int) : halfZ v = if 0 ≤ v then v / 2 else -((-v) / 2) := by
  unfold halfZ
  split
  · exact Int.tdiv_eq_ediv_of_nonneg ‹_›
  · rw [← Int.tdiv_eq_ediv_of_nonneg (by omega), Int.neg_tdiv, Int.neg_neg]
theorem tmod2 (v : Int) : v.tmod 2 = v - 2 * halfZ v := Int.tmod_def v 2

set_option maxHeartbeats 400000 in
theorem ruleOf_any (lim fuel : Int) (w : World) : Calls Try.prog 11 #[.int .i64 lim, .int .i64 fuel] w fun e w' => e = .returned (.agg #[.int .i64 (maxZ lim), .int .i64 (fuelZ fuel)]) ∧ Below w.heap.size w w' := by
  go_enter Try.func11, Try.ntmps11
  go_wp2
  all_goals
    go_returns
    exact ⟨ret_agg2 (by unfold maxZ; split <;> omega) (by unfold fuelZ; (repeat' split) <;> omega), by go_grown⟩

theorem leavesB_false {lim fuel v n : Int} : leavesB lim fuel v n = false ↔ n < fuel ∧ (lim < v ∨ v < -lim) := by
  simp only [leavesB, Bool.or_eq_false_iff, Bool.and_eq_false_iff, decide_eq_false_iff_not]; omega
theorem leavesB_true {lim fuel v n : Int} : leavesB lim fuel v n = true ↔ fuel ≤ n ∨ (v ≤ lim ∧ -lim ≤ v) := by
  simp only [leavesB, Bool.or_eq_true, Bool.and_eq_true, decide_eq_true_eq]

set_option maxHeartbeats 400000 in
theorem leaves_any (lim fuel v n : Int) (w : World) (h0 : 0 ≤ lim) (h0' : lim ≤ 9223372036854775807) :
    Calls Try.prog 12 #[.agg #[.int .i64 lim, .int .i64 fuel], .int .i64 v, .int .i64 n] w fun e w' => e = .returned (.bool (leavesB lim fuel v n)) ∧ Below w.heap.size w w' := by
  go_enter Try.func12, Try.ntmps12
  go_wp2
  all_goals go_ret
  all_goals refine ⟨ret_bool ?_, by go_grown⟩
  all_goals unfold leavesB
  all_goals first | (simp; done) | (simp; omega) | (apply Bool.eq_iff_iff.2; simp; omega)

/-- Events that go round: what is left of the amount, and after how many rounds, with so much fuel. -/
def runZ (lim : Int) : Nat → Int → Int × Nat
  | 0, v => (v, 0)
  | k + 1, v => if v ≤ lim ∧ -lim ≤ v then (v, 0) else ((runZ lim k (halfZ v)).1, (runZ lim k (halfZ v)).2 + 1)
theorem runZ_stop {lim : Int} {k : Nat} {v : Int} (h : v ≤ lim ∧ -lim ≤ v) : runZ lim k v = (v, 0) := by
  cases k with
  | zero => rfl
  | succ k => rw [runZ, if_pos h]
theorem runZ_go {lim : Int} {k : Nat} {v : Int} (h : ¬ (v ≤ lim ∧ -lim ≤ v)) : runZ lim (k + 1) v = ((runZ lim k (halfZ v)).1, (runZ lim k (halfZ v)).2 + 1) := by rw [runZ, if_neg h]
theorem half_bd {v : Int} (h : -9223372036854775808 ≤ v ∧ v ≤ 9223372036854775807) : -9223372036854775808 ≤ halfZ v ∧ halfZ v ≤ 9223372036854775807 := by
  rw [half_eq]; split <;> omega
theorem fuelZ_bd (f : Int) : 0 ≤ fuelZ f ∧ fuelZ f ≤ 40 := by unfold fuelZ; (repeat' split) <;> omega
theorem maxZ_bd {f : Int} (h : f ≤ 9223372036854775807) : 0 ≤ maxZ f ∧ maxZ f ≤ 9223372036854775807 := by unfold maxZ; split <;> omega

/-- Two blocks of a call of its own, in the midst of a loop that goes round an event: the event, and the place of the result. -/
structure Two (w wr : World) (t : TypeId) (cs ds : Array Value) : Prop where
  a : Blk wr w.heap.size t cs
  b : Blk wr (w.heap.size + 1) t ds
  below : Below w.heap.size w wr
theorem Two.start {w w1 : World} {t : TypeId} {cs ds : Array Value} (hb : Below ((w.alloc (.cells cs t)).alloc (.cells ds t)).heap.size ((w.alloc (.cells cs t)).alloc (.cells ds t)) w1) : Two w w1 t cs ds :=
  ⟨((Blk.new w t cs).alloc _).below hb ((Blk.new w t cs).alloc _).lt, by simpa using (Blk.new (w.alloc (.cells cs t)) t ds).below hb (Blk.new (w.alloc (.cells cs t)) t ds).lt,
    (((Below.refl _ _).alloc (Nat.le_refl _) _).alloc (by simp) _).trans (hb.mono (by simp; omega))⟩
theorem Two.to {w wr w2 : World} {t : TypeId} {cs ds : Array Value} (h : Two w wr t cs ds) (hb : Below wr.heap.size wr w2) : Two w w2 t cs ds :=
  ⟨h.a.below hb h.a.lt, h.b.below hb h.b.lt, h.below.trans (hb.mono h.below.size)⟩

set_option maxHeartbeats 1000000 in
theorem run_any (key : ByteArray) (at_ v limit fuel : Int) (w : World) (hv : -9223372036854775808 ≤ v ∧ v ≤ 9223372036854775807) (hl : limit ≤ 9223372036854775807) :
    Calls Try.prog 6 #[.agg #[.string key, .int .i64 at_, .int .i64 v], .int .i64 limit, .int .i64 fuel] w fun e w' =>
      e = .returned (.tuple #[.agg #[.string key, .int .i64 at_, .int .i64 (runZ (maxZ limit) (fuelZ fuel).toNat v).1], .int .i64 (runZ (maxZ limit) (fuelZ fuel).toNat v).2]) ∧ Below w.heap.size w w' := by
  have hF := fuelZ_bd fuel
  have hL := maxZ_bd hl
  obtain ⟨F, hFe⟩ := Int.eq_ofNat_of_zero_le hF.1
  obtain ⟨lim, hLe⟩ : ∃ lim, maxZ limit = lim := ⟨_, rfl⟩
  rw [hFe] at hF
  rw [hLe] at hL
  rw [hFe, hLe, Int.toNat_natCast]
  have HF := Lib.hid hFe
  have HL := Lib.hid hLe
  clear hFe hLe
  go_enter Try.func6, Try.ntmps6
  go_wp2_with (go_at_call 11; refine (ruleOf_any _ _ _).mono ?_; rw [HF.out, HL.out]; rintro e w1 ⟨rfl, hbel⟩)
  have h2 : Two w w1 30 #[.string key, .int .i64 at_, .int .i64 v] #[.string { data := #[] }, .int .i64 0, .int .i64 0] := Two.start hbel
  clear hbel
  go_loopw [9] (fun i wr => ∃ (j k : Nat) (u : Int), i = .int .i64 j ∧ F = k + j ∧ (runZ lim F v = ((runZ lim k u).1, (runZ lim k u).2 + j)) ∧ (-9223372036854775808 ≤ u ∧ u ≤ 9223372036854775807) ∧ Two w wr 30 #[.string key, .int .i64 at_, .int .i64 u] #[.string { data := #[] }, .int .i64 0, .int .i64 0])
    (fun i _ => F - (intOf i).toNat)
  case atStart => exact ⟨0, F, v, rfl, rfl, rfl, hv, h2⟩
  case round =>
    clear h2
    obtain ⟨j, k, u, rfl, hjk, hrun, hu, h2⟩ := hrel
    have HR := Lib.hid hrun
    have HJ := Lib.hid hjk
    have hjk' : k + j ≤ F := by omega
    clear hrun hjk
    have c2 := h2.a.cell 2
    simp at c2
    by_cases hz : leavesB lim F u j = true
    · go_wp2_with (go_at_call 12; (refine (leaves_any _ _ _ _ _ hL.1 hL.2).mono ?_; rw [hz]; rintro e w2 ⟨rfl, hb2⟩; have h3 := h2.to hb2; have a0 := h3.a.cell 0; have a1 := h3.a.cell 1; have a2 := h3.a.cell 2; have b0 := h3.b.cell 0; have b1 := h3.b.cell 1; have b2 := h3.b.cell 2; have f0 := h3.b.frozen 0; have f1 := h3.b.frozen 1; have f2 := h3.b.frozen 2; simp at a0 a1 a2 b0 b1 b2))
      have hr : runZ lim F v = (u, j) := by
        have e1 := HR.out
        have e2 := HJ.out
        rcases leavesB_true.1 hz with h | h
        · obtain rfl : k = 0 := by omega
          rw [e1]; simp [runZ]
        · rw [e1, runZ_stop h]; simp
      refine bodyPost_ret (v := .tuple #[.agg #[.string key, .int .i64 at_, .int .i64 u], .int .i64 j]) (by simp [results, Try.results6, go_sem, b0, b1, b2]) rfl ?_
      rw [hr]
      have hbl := h3.below
      exact ⟨rfl, by go_grown⟩
    · have hz' : leavesB lim F u j = false := by simpa using hz
      clear hz
      go_wp2_with (first
        | (go_at_call 12; refine (leaves_any _ _ _ _ _ hL.1 hL.2).mono ?_; rw [hz']; rintro e w2 ⟨rfl, hb2⟩; have h3 := h2.to hb2; have a2 := h3.a.cell 2; have f2 := h3.a.frozen 2; simp at a2)
        | (go_at_call 7; refine (half_any _ _ hu).mono ?_; rintro e w3 ⟨rfl, rfl⟩))
      obtain ⟨hjF, hout⟩ := leavesB_false.1 hz'
      have e2 := HJ.out
      obtain ⟨k, rfl⟩ : ∃ k', k = k' + 1 := ⟨k - 1, by omega⟩
      have e1 := HR.out
      rw [runZ_go (by omega)] at e1
      go_roundw
      case rel => exact ⟨j + 1, k, halfZ u, by go_num, by omega, by rw [e1]; simp; omega, half_bd hu, ⟨by simpa using h3.a.set_ 2 (.int .i64 (halfZ u)), h3.b.far (by simp) _, h3.below.setCell (by simp) _⟩⟩
      case measure => simp [intOf]; omega

end Go.Proofs.Ytgaknbgmodmniaa
