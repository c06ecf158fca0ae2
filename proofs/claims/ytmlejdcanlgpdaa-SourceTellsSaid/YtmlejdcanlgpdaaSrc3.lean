/- Walks of source.Right and of its reference. -/
import Derived.Test.YtmlejdcanlgpdaaSrc2
namespace Go.Proofs.Ytmlejdcanlgpdaa
open Go.RowKit
set_option linter.unusedVariables false
set_option linter.unusedSimpArgs false

/-- A source: its events, how many are done, the time that it told, for how many ticks nothing came, whether it ended. -/
structure Sr where
  evs : List Ev
  done : Int
  mark : Int
  quiet : Int
  ended : Bool
def srcB (s : Sr) : Bool :=
  inB s.evs && decide (0 ≤ s.done) && decide (s.done ≤ (s.evs.length : Int)) && decide (0 ≤ s.mark) && decide (s.mark ≤ 1099511627776) && decide (0 ≤ s.quiet) && decide (s.quiet ≤ 1048576) && (!s.ended || decide (s.done = (s.evs.length : Int)))
theorem inB_iff {l : List Ev} : inB l = true ↔ l.length ≤ 200 ∧ ∀ e ∈ l, evB e = true := by simp [inB]
theorem srcB_iff {s : Sr} : srcB s = true ↔ inB s.evs = true ∧ (0 ≤ s.done ∧ s.done ≤ s.evs.length) ∧ (0 ≤ s.mark ∧ s.mark ≤ 1099511627776) ∧ (0 ≤ s.quiet ∧ s.quiet ≤ 1048576) ∧ (s.ended = true → s.done = s.evs.length) := by
  unfold srcB
  cases s.ended <;> simp [and_assoc]
set_option maxHeartbeats 4000000 in
theorem src_any (done mark quiet : Int) (ended : Bool) (ls : List Ev) (A : Option Addr) (n c : Nat) (w : World) (hr : Reads w w.heap.size 3 A n (evs ls)) (hm : n ≤ 9223372036854775807) (hs : ∀ z ∈ ls, z.key.size ≤ maxLen) :
    Calls Try.prog 14 #[.agg #[.slice A n c, .int .i64 done, .int .i64 mark, .int .i64 quiet, .bool ended]] w fun e w' => e = .returned (.bool (srcB ⟨ls, done, mark, quiet, ended⟩)) ∧ Below w.heap.size w w' := by
  have HL := Lib.hid (evs_len hr)
  have hr2 : ∀ o o', Reads ((w.alloc o).alloc o') ((w.alloc o).alloc o').heap.size 3 A n (evs ls) := fun o o' => reads_alloc (reads_alloc hr)
  have hcell : ∀ o v t, ((w.alloc o).alloc (.cells #[v] t)).cell? ⟨w.heap.size + 1, 0, none⟩ = some v := fun o v t => by simp
  cases hI : inB ls <;> cases ended
  all_goals
    have HI := Lib.hid hI
    clear hI
    go_enter Try.func14, Try.ntmps14
    go_wp2_with (go_at_call 32; refine (inputs_any _ A n c ls _ (hcell _ _ _) (hr2 _ _) hm hs).mono ?_; rw [HI.out]; rintro e w1 ⟨rfl, hb1⟩; have k1 : Below w.heap.size w w1 := next_below (by go_grown) hb1; obtain ⟨c1, f1⟩ := bcell hb1; have y1 := hb1.size; have z1 : w.heap.size < w1.heap.size := (by simp at y1; omega))
    all_goals go_ret
    all_goals
      refine ⟨ret_bool' ?_, by first | assumption | go_grown⟩
      unfold srcB
      simp only [HL.out, HI.out]
      first | (simp; done) | (simp; omega) | (apply Bool.eq_iff_iff.2; simp; omega)
set_option maxHeartbeats 4000000 in
theorem refSrc_any (done mark quiet : Int) (ended : Bool) (ls : List Ev) (A : Option Addr) (n c : Nat) (w : World) (hr : Reads w w.heap.size 3 A n (evs ls)) (hm : n ≤ 9223372036854775807) (hs : ∀ z ∈ ls, z.key.size ≤ maxLen) :
    Calls Try.prog 15 #[.agg #[.slice A n c, .int .i64 done, .int .i64 mark, .int .i64 quiet, .bool ended]] w fun e w' => e = .returned (.bool (srcB ⟨ls, done, mark, quiet, ended⟩)) ∧ Below w.heap.size w w' := by
  have HL := Lib.hid (evs_len hr)
  have hr2 : ∀ o o', Reads ((w.alloc o).alloc o') ((w.alloc o).alloc o').heap.size 3 A n (evs ls) := fun o o' => reads_alloc (reads_alloc hr)
  have hcell : ∀ o v t, ((w.alloc o).alloc (.cells #[v] t)).cell? ⟨w.heap.size + 1, 0, none⟩ = some v := fun o v t => by simp
  cases hI : inB ls <;> cases ended
  all_goals
    have HI := Lib.hid hI
    clear hI
    go_enter Try.func15, Try.ntmps15
    go_wp2_with (go_at_call 33; refine (refInputs_any _ A n c ls _ (hcell _ _ _) (by simp) (hr2 _ _) hm hs).mono ?_; rw [HI.out]; rintro e w1 ⟨rfl, hb1⟩; have k1 : Below w.heap.size w w1 := next_below (by go_grown) hb1; obtain ⟨c1, f1⟩ := bcell hb1; have y1 := hb1.size; have z1 : w.heap.size < w1.heap.size := (by simp at y1; omega))
    all_goals go_ret
    all_goals
      refine ⟨ret_bool' ?_, by first | assumption | go_grown⟩
      unfold srcB
      simp only [HL.out, HI.out]
      first | (simp; done) | (simp; omega) | (apply Bool.eq_iff_iff.2; simp; omega)
end Go.Proofs.Ytmlejdcanlgpdaa
