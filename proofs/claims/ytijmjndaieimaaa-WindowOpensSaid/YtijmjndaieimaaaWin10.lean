/- The walk of WindowOpens. -/
import Derived.Test.YtijmjndaieimaaaWin9
import Derived.Deep.RegionHeld3
namespace Go.Proofs.Ytijmjndaieimaaa
open Go.RowKit Go.Shelf
set_option linter.unusedVariables false
set_option linter.unusedSimpArgs false

set_option maxHeartbeats 1000000 in
theorem walkOpens (size slide t mark a b : Int) (w : World) (hs : -9223372036854775808 ≤ size ∧ size ≤ 9223372036854775807) (hl : -9223372036854775808 ≤ slide ∧ slide ≤ 9223372036854775807) :
    Calls Try.prog 7 #[.int .i64 size, .int .i64 slide, .int .i64 t, .int .i64 mark, .agg #[.int .i64 a, .int .i64 b]] w fun e w' => e = .returned (.bool true) ∧ Below w.heap.size w w' := by
  obtain ⟨L, hL⟩ : ∃ L, openL size slide t mark = L := ⟨_, rfl⟩
  obtain ⟨n, hn⟩ : ∃ n, L.length = n := ⟨_, rfl⟩
  have hn17 : n ≤ 17 := by
    have h1 := ofL_len size slide t
    have h2 := List.length_filter_le (keep mark) (ofL size slide t)
    rw [← hn, ← hL]
    unfold openL
    omega
  have bW := Blk.new w 29 #[.int .i64 a, .int .i64 b]
  have c0 : (w.alloc (.cells #[.int .i64 a, .int .i64 b] 29)).cell? ⟨w.heap.size, 0, none⟩ = some (.int .i64 a) := bW.cell 0
  have c1 : (w.alloc (.cells #[.int .i64 a, .int .i64 b] 29)).cell? ⟨w.heap.size, 1, none⟩ = some (.int .i64 b) := bW.cell 1
  rcases Bool.eq_false_or_eq_true (decide (b ≤ mark)) with hcd | hcd
  all_goals
    go_enter Try.func7, Try.ntmps7
    go_wp2_with fail
    go_region_held3 (fun w' => w'.cell? ⟨w.heap.size, 0, none⟩ = some (.int .i64 a) ∧ w'.cell? ⟨w.heap.size, 1, none⟩ = some (.int .i64 b))
      (first | exact ⟨s0, s1⟩ | exact ⟨t0, t1⟩ | exact ⟨q0, q1⟩ | exact ⟨r0, r1⟩ | exact ⟨c0, c1⟩ | go_keep)
      (first
        | (go_at_call 9; refine (alive_any _).mono ?_; rintro e w' ⟨rfl, rfl⟩)
        | (go_at_call 15; refine (closed_any _ _ _ _).mono ?_; rw [hcd]; rintro e w1 ⟨rfl, hb1⟩; have s0 := (hb1.cell (p := ⟨w.heap.size, 0, none⟩) (by simp)).trans c0; have s1 := (hb1.cell (p := ⟨w.heap.size, 1, none⟩) (by simp)).trans c1; have y1 := hb1.size; simp at y1; have k1 : Below w.heap.size w w1 := next_below (by go_grown) hb1)
        | (go_at_call 16; refine (open_any _ _ _ _ _ hs hl hL hn).mono ?_; rintro e w2 ⟨A, c, rfl, ho, hb2⟩; have y2 := hb2.size; have t0 := (hb2.cell (p := ⟨w.heap.size, 0, none⟩) y1).trans s0; have t1 := (hb2.cell (p := ⟨w.heap.size, 1, none⟩) y1).trans s1)
        | (go_at_call 17; refine (refOpen_any _ _ _ _ _ hs hl hL hn).mono ?_; rintro e w3 ⟨A3, c3, rfl, ho3, hb3⟩; have y3 := hb3.size; have q0 := (hb3.cell (p := ⟨w.heap.size, 0, none⟩) (Nat.lt_of_lt_of_le y1 y2)).trans t0; have q1 := (hb3.cell (p := ⟨w.heap.size, 1, none⟩) (Nat.lt_of_lt_of_le y1 y2)).trans t1)
        | (go_at_call 12; refine (like_same _ _ _ _ _ _ _ (own_below ho hb3) ho3 (by omega)).mono ?_; rintro e w4 ⟨rfl, hb4⟩; have r0 := (hb4.cell (p := ⟨w.heap.size, 0, none⟩) (Nat.lt_of_lt_of_le (Nat.lt_of_lt_of_le y1 y2) y3)).trans q0; have r1 := (hb4.cell (p := ⟨w.heap.size, 1, none⟩) (Nat.lt_of_lt_of_le (Nat.lt_of_lt_of_le y1 y2) y3)).trans q1))
    have k2 := k1.trans (hb2.mono k1.size)
    have k3 := k2.trans (hb3.mono k2.size)
    have k4 := k3.trans (hb4.mono k3.size)
    go_wp2
    go_ret
    exact ⟨rfl, k4⟩
end Go.Proofs.Ytijmjndaieimaaa
