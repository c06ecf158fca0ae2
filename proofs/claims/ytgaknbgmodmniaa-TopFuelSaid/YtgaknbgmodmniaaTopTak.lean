/- Walk of package model's take at the one event. -/
import Derived.Test.YtgaknbgmodmniaaTopRes
namespace Go.Proofs.Ytgaknbgmodmniaa
open Go.RowKit
set_option linter.unusedVariables false
set_option linter.unusedSimpArgs false

/-- The cells of a gatherer of the one job. -/
def gatC (v : Value) : Array Value := #[.int .i64 1, .int .i64 1, .int .i64 1, .int .i64 2, .int .i64 0, .int .i64 0, .int .i64 0, .int .i64 0, v, .int .i64 0]
theorem ofL_c : ofL 1 1 0 = [(0, 1)] := by decide
/-- What taking the event leaves. -/
def TakePost (gb : Nat) (w : World) (e : Ending) (w' : World) : Prop :=
  e = .returned (.bool true) ∧ (∃ g c, Blk w' gb 58 (gatC (.slice (some ⟨g, 0, none⟩) 1 c)) ∧ PanAt w' g ∧ 1 ≤ c) ∧ w.grownBy w' (some gb)

set_option maxRecDepth 100000 in
set_option maxHeartbeats 2000000 in
theorem take_c (gb : Nat) (w : World) (h : Blk w gb 58 (gatC (.slice none 0 0))) :
    Calls Try.prog 18 #[.pointer (some ⟨gb, 0, none⟩), .agg #[.string ⟨#[97]⟩, .int .i64 0, .int .i64 0]] w (TakePost gb w) := by
  have lg := h.lt
  go_enter Try.func18, Try.ntmps18
  go_wp2_with fail
  have bE := Blk.new w 30 #[.string ⟨#[97]⟩, .int .i64 0, .int .i64 0]
  have bG := h.alloc (.cells #[.string ⟨#[97]⟩, .int .i64 0, .int .i64 0] 30)
  have k0 : Below w.heap.size w (w.alloc (.cells #[.string ⟨#[97]⟩, .int .i64 0, .int .i64 0] 30)) := by go_grown
  generalize w.alloc (.cells #[.string ⟨#[97]⟩, .int .i64 0, .int .i64 0] 30) = V at *
  have lE := bE.lt
  have hwV := k0.size
  have e0 : V.cell? ⟨gb, 1, none⟩ = some (.int .i64 1) := bG.cell 1
  have e1 : V.cell? ⟨gb, 2, none⟩ = some (.int .i64 1) := bG.cell 2
  have e2 : V.cell? ⟨w.heap.size, 1, none⟩ = some (.int .i64 0) := bE.cell 1
  go_region_held3 (fun y => y.cell? ⟨gb, 1, none⟩ = some (.int .i64 1) ∧ y.cell? ⟨gb, 2, none⟩ = some (.int .i64 1) ∧ y.cell? ⟨w.heap.size, 1, none⟩ = some (.int .i64 0))
    (first | with_reducible exact ⟨e0, e1, e2⟩ | with_reducible exact ⟨ee0, ee1, ee2⟩ | go_keep)
    (first | (go_at_call 28; refine (of_any 1 1 0 _ (by omega) (by omega)).mono ?_; unfold OfPost; rw [ofL_c]; rintro e w3 ⟨v3, rfl, ho3, hb3⟩; have k3 : Below V.heap.size V w3 := ⟨hb3.os, hb3.tape, hb3.output, hb3.size, hb3.block⟩; obtain ⟨g3, d3, rfl⟩ := own_succ ho3; obtain ⟨hrow, hg3, hg3', hd3, -⟩ := RowW.of_own ho3; have bG3 := bG.below k3 bG.lt; have bE3 := bE.below k3 bE.lt; have ee0 : w3.cell? ⟨gb, 1, none⟩ = some (.int .i64 1) := bG3.cell 1; have ee1 : w3.cell? ⟨gb, 2, none⟩ = some (.int .i64 1) := bG3.cell 2; have ee2 : w3.cell? ⟨w.heap.size, 1, none⟩ = some (.int .i64 0) := bE3.cell 1))
  have c0 : w3.cell? ⟨g3, 0, none⟩ = some (.int .i64 0) := (hrow.cell (p := 0) (by simp)).1
  have c1 : w3.cell? ⟨g3, 1, none⟩ = some (.int .i64 1) := (hrow.cell (p := 0) (by simp)).2
  clear hrow ho3 e0 e1 e2 ee0 ee1 ee2
  have k4 := next_below k0 k3
  go_wp2
  go_loopw [23] (fun i wr => (i = .int .i64 0 ∧ w3 = wr) ∨ (i = .int .i64 1 ∧ (∃ g c, Blk wr gb 58 (gatC (.slice (some ⟨g, 0, none⟩) 1 c)) ∧ PanAt wr g ∧ 1 ≤ c) ∧ w.grownBy wr (some gb))) (fun i _ => 1 - (intOf i).toNat)
  case atStart => exact .inl ⟨rfl, rfl⟩
  case round =>
    rcases hrel with ⟨rfl, rfl⟩ | ⟨rfl, ⟨g, c, hB, hP, hc⟩, hgr⟩
    · go_upto_region 4 with fail
      have b6 := Blk.new w3 69 #[.int .i64 0, .int .i64 1]
      have bG4 := bG3.alloc (.cells #[.int .i64 0, .int .i64 1] 69)
      have bE4 := bE3.alloc (.cells #[.int .i64 0, .int .i64 1] 69)
      have k6 : Below w.heap.size w (w3.alloc (.cells #[.int .i64 0, .int .i64 1] 69)) := k4.alloc k4.size _
      generalize w3.alloc (.cells #[.int .i64 0, .int .i64 1] 69) = U at *
      have q0 : U.cell? ⟨gb, 3, none⟩ = some (.int .i64 2) := bG4.cell 3
      have q1 : U.cell? ⟨gb, 8, none⟩ = some (.slice none 0 0) := bG4.cell 8
      have q2 : U.cell? ⟨w.heap.size, 0, none⟩ = some (.string ⟨#[97]⟩) := bE4.cell 0
      have q3 : U.cell? ⟨w.heap.size, 2, none⟩ = some (.int .i64 0) := bE4.cell 2
      have q4 : U.cell? ⟨w3.heap.size, 0, none⟩ = some (.int .i64 0) := b6.cell 0
      have q5 : U.cell? ⟨w3.heap.size, 1, none⟩ = some (.int .i64 1) := b6.cell 1
      go_region_held3 (fun y => y.cell? ⟨gb, 3, none⟩ = some (.int .i64 2) ∧ y.cell? ⟨gb, 8, none⟩ = some (.slice none 0 0) ∧ y.cell? ⟨w.heap.size, 0, none⟩ = some (.string ⟨#[97]⟩) ∧ y.cell? ⟨w.heap.size, 2, none⟩ = some (.int .i64 0) ∧ y.cell? ⟨w3.heap.size, 0, none⟩ = some (.int .i64 0) ∧ y.cell? ⟨w3.heap.size, 1, none⟩ = some (.int .i64 1))
        (first | with_reducible exact ⟨q0, q1, q2, q3, q4, q5⟩ | with_reducible exact ⟨r0, r1, r2, r3, r4, r5⟩ | go_keep)
        (first | (go_at_call 29; refine (add_c _).mono ?_; rintro e w5 ⟨A, c, rfl, ho5, hb5⟩; have k5 : Below U.heap.size U w5 := ⟨hb5.os, hb5.tape, hb5.output, hb5.size, hb5.block⟩; have ho6 : w5.ownsRow U.heap.size 76 6 (.slice A 1 c) 1 paneL := ho5; have bG5 := bG4.below k5 bG4.lt; have bE5 := bE4.below k5 bE4.lt; have b7 := b6.below k5 b6.lt; have r0 : w5.cell? ⟨gb, 3, none⟩ = some (.int .i64 2) := bG5.cell 3; have r1 : w5.cell? ⟨gb, 8, none⟩ = some (.slice none 0 0) := bG5.cell 8; have r2 : w5.cell? ⟨w.heap.size, 0, none⟩ = some (.string ⟨#[97]⟩) := bE5.cell 0; have r3 : w5.cell? ⟨w.heap.size, 2, none⟩ = some (.int .i64 0) := bE5.cell 2; have r4 : w5.cell? ⟨w3.heap.size, 0, none⟩ = some (.int .i64 0) := b7.cell 0; have r5 : w5.cell? ⟨w3.heap.size, 1, none⟩ = some (.int .i64 1) := b7.cell 1))
      obtain ⟨g5, rfl, hg5, hP5, hc5⟩ := panAt_of_own ho6
      have k7 := next_below k6 k5
      have fG := bG5.frozen
      clear q0 q1 q2 q3 q4 q5 r0 r1 r2 r3 r4 r5 bE bE3 bE4 bE5 b6 b7 bG bG3
      have lG4 := bG4.lt
      go_wp2
      go_roundw
      case rel =>
        exact .inr ⟨rfl, ⟨g5, c, by simpa [gatC] using bG5.set_ 8 (.slice (some ⟨g5, 0, none⟩) 1 c), hP5.heap (Below.heap_setCell _ _ _ _ (by simp; omega)), hc5⟩, only_setCell (only_of_below k7 (some gb)) (.inl rfl) _⟩
      case measure => simp [intOf]
    · go_wp2
      go_ret
      exact ⟨rfl, ⟨g, c, hB, hP, hc⟩, hgr⟩

end Go.Proofs.Ytgaknbgmodmniaa
