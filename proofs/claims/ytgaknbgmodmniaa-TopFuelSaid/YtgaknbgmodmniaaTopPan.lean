/- Walks of packages fold and pane at the one event of 'alive': a pane of the window from 0 to 1, its key 'a', its sum 0. -/
import Derived.Test.YtgaknbgmodmniaaWin3
import Derived.BigQuiet
import Derived.Deep.RegionHeld3
import Derived.Deep.CutBlock
namespace Go.Proofs.Ytgaknbgmodmniaa
open Go.RowKit
set_option linter.unusedVariables false
set_option linter.unusedSimpArgs false

def keyA : ByteArray := ⟨#[97]⟩
/-- The pane's cells. -/
def paneC : Array Value := #[.int .i64 0, .int .i64 1, .string ⟨#[97]⟩, .int .i64 1, .int .i64 0, .int .i64 0]

set_option maxHeartbeats 400000 in
theorem one_c (w : World) : Calls Try.prog 39 #[.int .i64 2, .int .i64 0] w fun e w' => e = .returned (.agg #[.int .i64 1, .int .i64 0, .int .i64 0]) ∧ Below w.heap.size w w' := by
  go_enter Try.func39, Try.ntmps39
  go_wp2
  go_returns
  exact ⟨rfl, by go_grown⟩
set_option maxHeartbeats 400000 in
theorem val_c (w : World) : Calls Try.prog 31 #[.int .i64 2, .agg #[.int .i64 1, .int .i64 0, .int .i64 0]] w fun e w' => e = .returned (.int .i64 0) ∧ Below w.heap.size w w' := by
  go_enter Try.func31, Try.ntmps31
  go_wp2_with (go_at_call 21; refine (fold_any _ _).mono ?_; rw [show foldB 2 = true from rfl]; rintro e w' ⟨rfl, rfl⟩)
  go_ret
  exact ⟨rfl, by go_grown⟩
set_option maxHeartbeats 400000 in
theorem may_c (w : World) : Calls Try.prog 40 #[.agg paneC] w fun e w' => e = .returned (.bool true) ∧ Below w.heap.size w w' := by
  unfold paneC
  go_enter Try.func40, Try.ntmps40
  go_wp2
  go_ret
  exact ⟨rfl, by go_grown⟩
set_option maxHeartbeats 400000 in
theorem right0_c (w : World) : Calls Try.prog 30 #[.slice none 0 0] w fun e w' => e = .returned (.bool true) ∧ Below w.heap.size w w' := by
  go_enter Try.func30, Try.ntmps30
  go_wp2
  go_loopw [10] (fun i wr => i = .int .i64 0 ∧ w = wr) (fun _ _ => 0)
  case atStart => exact ⟨rfl, rfl⟩
  case round =>
    obtain ⟨rfl, rfl⟩ := hrel
    go_wp2
    go_ret
    exact ⟨rfl, Below.refl _ _⟩
set_option maxHeartbeats 400000 in
theorem place_c (w : World) : Calls Try.prog 48 #[.slice none 0 0, .agg paneC, .func (.func 43) #[] #[]] w fun e w' => e = .returned (.tuple #[.int .i64 0, .bool false]) ∧ Below w.heap.size w w' := by
  unfold paneC
  go_enter Try.func48, Try.ntmps48
  go_wp2
  go_loopw [8, 9] (fun i j wr => i = .int .i64 0 ∧ j = .int .i64 0 ∧ Below w.heap.size w wr) (fun _ _ _ => 0)
  case atStart => exact ⟨rfl, rfl, by go_grown⟩
  case round =>
    obtain ⟨rfl, rfl, hB⟩ := hrel
    go_wp2
    go_quiet (fail)
    go_wp2
    refine bodyPost_ret (v := .tuple #[.int .i64 0, .bool false]) (by simp [results, Try.results48, go_sem]) rfl ?_
    exact ⟨rfl, hB.os, hB.tape, hB.output, hB.size, hB.block⟩
set_option maxHeartbeats 400000 in
theorem clone0_c (w : World) : Calls Try.prog 42 #[.slice none 0 0] w fun e w' => e = .returned (.slice none 0 0) ∧ w = w' := by
  have q22 := fun (w : World) (a : Option Addr) (n c n' c' : Nat) => Lib.run_eql_slice_nil w _ _ a n c n' c' Try.underlying56
  go_enter Try.func42, Try.ntmps42
  go_wp2
  go_ret
  exact ⟨rfl, rfl⟩

theorem infoPan : (Try.prog.info? 76).map (fun i => (i.zero, i.size, i.bytes)) = some (some (.agg #[.int .i64 0, .int .i64 0, .string .empty, .int .i64 0, .int .i64 0, .int .i64 0]), 6, 56) := by kernel_rfl
def paneL : List Value := [.int .i64 0, .int .i64 1, .string ⟨#[97]⟩, .int .i64 1, .int .i64 0, .int .i64 0]
/-- What a call leaves that returns a row of the one pane in memory of its own. -/
def PanPost (w : World) (A : Option Addr) (c : Nat) (w' : World) : Prop := w'.ownsRow w.heap.size 76 6 (.slice A 1 c) 1 paneL ∧ Below w.heap.size w w'
theorem reads_new (w : World) (t : TypeId) : Reads (w.alloc (.cells paneC t)) (w.alloc (.cells paneC t)).heap.size 6 (some ⟨w.heap.size, 0, none⟩) 1 paneL := by
  refine ⟨rfl, fun _ => ⟨_, rfl, by simp, fun j u hu => ?_⟩⟩
  have e : (⟨w.heap.size, 0, none⟩ : Addr).add j = ⟨w.heap.size, j, none⟩ := by
    unfold Addr.add
    split
    · rename_i h
      rw [h]
    · simp
  rw [e]
  have h := (Blk.new w t paneC).cell j
  rw [h]
  unfold paneC
  unfold paneL at hu
  simpa using hu
set_option maxHeartbeats 1000000 in
theorem insert_c (b : Nat) (w : World) (hr : Reads w w.heap.size 6 (some ⟨b, 0, none⟩) 1 paneL) : Calls Try.prog 49 #[.slice none 0 0, .int .i64 0, .slice (some ⟨b, 0, none⟩) 1 1] w fun e w' => ∃ A c, e = .returned (.slice A 1 c) ∧ PanPost w A c w' := by
  obtain ⟨i0, hi, hz0, hz1, hz2⟩ := info_parts infoPan
  have h0 : w.ownsRow w.heap.size 76 6 (.slice none 0 0) 0 [] := World.ownsRow_nil _ _ _ _
  go_enter Try.func49, Try.ntmps49
  go_wp2_with (at_builtin; refine wpList_append_any _ rfl (.tmp 23) (.tmp 24) 56 rfl w.heap.size 76 i0 _ 6 56 Try.underlying56 hi hz0 hz1 hz2 rfl (by decide) _ _ _ rfl h0 w.heap.size (some ⟨b, 0, none⟩) 1 1 paneL rfl hr (by simp [paneL, Value.oneCell']) (by unfold maxLen; omega) (by omega) (Nat.le_refl _) ?_; intro v' w1 hown hgrow _)
  rw [Nat.zero_add] at hown
  obtain ⟨A', c', rfl⟩ := own_form hown
  go_wp2
  go_ret
  exact ⟨_, _, rfl, by simpa using hown, (Below.refl _ w).grown hgrow (Nat.le_refl _) (fun k hk => (h0.lt k hk).1)⟩
set_option maxHeartbeats 1000000 in
theorem put_c (w : World) : Calls Try.prog 41 #[.slice none 0 0, .int .i64 2, .agg paneC] w fun e w' => ∃ A c, e = .returned (.tuple #[.slice A 1 c, .int .i64 0]) ∧ PanPost w A c w' := by
  have hp := reads_new
  unfold paneC at hp ⊢
  go_enter Try.func41, Try.ntmps41
  go_wp2_with fail
  refine (place_c _).mono ?_
  rintro e w1 ⟨rfl, hb1⟩
  have bX := (Blk.new w 76 paneC).below hb1 (by simp)
  unfold paneC at bX
  have k1 : Below w.heap.size w w1 := next_below (by go_grown) hb1
  have x0 := bX.cell 0
  have x1 := bX.cell 1
  have x2 := bX.cell 2
  have x3 := bX.cell 3
  have x4 := bX.cell 4
  have x5 := bX.cell 5
  simp at x0 x1 x2 x3 x4 x5
  go_wp2_with fail
  refine (insert_c _ _ (hp w1 _)).mono ?_
  rintro e w2 ⟨A, c, rfl, ho, hb2⟩
  go_wp2
  refine bodyPost_ret (v := .tuple #[.slice A 1 c, .int .i64 0]) (by simp [results, Try.results41, go_sem]) rfl ?_
  exact ⟨_, _, rfl, own_mono ho (by have := k1.size; simp; omega), next_below (k1.alloc k1.size _) hb2⟩
set_option maxRecDepth 100000 in
set_option maxHeartbeats 2000000 in
theorem add_c (w : World) : Calls Try.prog 29 #[.slice none 0 0, .int .i64 2, .string ⟨#[97]⟩, .agg #[.int .i64 0, .int .i64 1], .int .i64 0] w fun e w' => ∃ A c, e = .returned (.tuple #[.slice A 1 c, .int .i64 0]) ∧ PanPost w A c w' := by
  go_enter Try.func29, Try.ntmps29
  go_wp2_with fail
  have b8 := Blk.new w 69 #[.int .i64 0, .int .i64 1]
  have k0 : Below w.heap.size w (w.alloc (.cells #[.int .i64 0, .int .i64 1] 69)) := by go_grown
  generalize w.alloc (.cells #[.int .i64 0, .int .i64 1] 69) = V0 at *
  have l8 := b8.lt
  have nW : w.heap.size ≠ V0.heap.size := by omega
  have hwV : w.heap.size ≤ V0.heap.size := k0.size
  have e0 : V0.cell? ⟨w.heap.size, 0, none⟩ = some (.int .i64 0) := b8.cell 0
  have e1 : V0.cell? ⟨w.heap.size, 1, none⟩ = some (.int .i64 1) := b8.cell 1
  go_region_held3 (fun y => y.cell? ⟨w.heap.size, 0, none⟩ = some (.int .i64 0) ∧ y.cell? ⟨w.heap.size, 1, none⟩ = some (.int .i64 1))
    (first | with_reducible exact ⟨e0, e1⟩ | with_reducible exact ⟨ee0, ee1⟩ | with_reducible exact ⟨ff0, ff1⟩ | go_keep)
    (first | (go_at_call 39; refine (one_c _).mono ?_; rintro e w3 ⟨rfl, hb3⟩; first
      | (have k3 : Below V0.heap.size V0 w3 := ⟨hb3.os, hb3.tape, hb3.output, hb3.size, hb3.block⟩; have ordA := True.intro; have b3 := b8.below k3 l8; have ee0 : w3.cell? ⟨w.heap.size, 0, none⟩ = some (.int .i64 0) := b3.cell 0; have ee1 : w3.cell? ⟨w.heap.size, 1, none⟩ = some (.int .i64 1) := b3.cell 1)
      | (have k3 : Below V0.heap.size V0 w3 := next_below (by go_grown) hb3; have ordB := True.intro; have bN3 : Blk w3 V0.heap.size 76 #[.int .i64 0, .int .i64 0, .string ⟨#[]⟩, .int .i64 0, .int .i64 0, .int .i64 0] := (Blk.new V0.drew 76 #[.int .i64 0, .int .i64 0, .string ⟨#[]⟩, .int .i64 0, .int .i64 0, .int .i64 0]).below hb3 (by simp); have fN := bN3.frozen; have nn0 : w3.cell? ⟨V0.heap.size, 0, none⟩ = some (.int .i64 0) := bN3.cell 0; have nn1 : w3.cell? ⟨V0.heap.size, 1, none⟩ = some (.int .i64 0) := bN3.cell 1; have nn2 : w3.cell? ⟨V0.heap.size, 2, none⟩ = some (.string ⟨#[]⟩) := bN3.cell 2; have nn3 : w3.cell? ⟨V0.heap.size, 3, none⟩ = some (.int .i64 0) := bN3.cell 3; have nn4 : w3.cell? ⟨V0.heap.size, 4, none⟩ = some (.int .i64 0) := bN3.cell 4; have nn5 : w3.cell? ⟨V0.heap.size, 5, none⟩ = some (.int .i64 0) := bN3.cell 5; have b3 := b8.below k3 l8; have ee0 : w3.cell? ⟨w.heap.size, 0, none⟩ = some (.int .i64 0) := b3.cell 0; have ee1 : w3.cell? ⟨w.heap.size, 1, none⟩ = some (.int .i64 1) := b3.cell 1; have b4 := ((((((b8.below k3 l8).far (p := ⟨V0.heap.size, 0, none⟩) nW (.int .i64 0)).far (p := ⟨V0.heap.size, 1, none⟩) nW (.int .i64 1)).far (p := ⟨V0.heap.size, 2, none⟩) nW (.string ⟨#[97]⟩)).far (p := ⟨V0.heap.size, 3, none⟩) nW (.int .i64 1)).far (p := ⟨V0.heap.size, 4, none⟩) nW (.int .i64 0)).far (p := ⟨V0.heap.size, 5, none⟩) nW (.int .i64 0); have ff0 := b4.cell 0; have ff1 := b4.cell 1; simp at ff0 ff1)))
  all_goals
    first
      | (have := ordA; have bU := Blk.new w3 76 #[.int .i64 0, .int .i64 1, .string ⟨#[97]⟩, .int .i64 1, .int .i64 0, .int .i64 0]; have kU := k0.trans ((k3.alloc k3.size (.cells #[.int .i64 0, .int .i64 1, .string ⟨#[97]⟩, .int .i64 1, .int .i64 0, .int .i64 0] 76)).mono hwV); have hp : w.heap.size ≤ w3.heap.size := Nat.le_trans hwV k3.size; generalize w3.alloc (.cells #[.int .i64 0, .int .i64 1, .string ⟨#[97]⟩, .int .i64 1, .int .i64 0, .int .i64 0] 76) = U at *; generalize w3.heap.size = p at *)
      | (have := ordB; have bU := ((((((bN3.set_ 0 (.int .i64 0)).set_ 1 (.int .i64 1)).set_ 2 (.string ⟨#[97]⟩)).set_ 3 (.int .i64 1)).set_ 4 (.int .i64 0)).set_ 5 (.int .i64 0)); have kU := k0.trans ((((((((k3.setCell (p := ⟨V0.heap.size, 0, none⟩) (Nat.le_refl _) (.int .i64 0)).setCell (p := ⟨V0.heap.size, 1, none⟩) (Nat.le_refl _) (.int .i64 1)).setCell (p := ⟨V0.heap.size, 2, none⟩) (Nat.le_refl _) (.string ⟨#[97]⟩)).setCell (p := ⟨V0.heap.size, 3, none⟩) (Nat.le_refl _) (.int .i64 1)).setCell (p := ⟨V0.heap.size, 4, none⟩) (Nat.le_refl _) (.int .i64 0)).setCell (p := ⟨V0.heap.size, 5, none⟩) (Nat.le_refl _) (.int .i64 0))).mono hwV); have hp := hwV; clear nn0 nn1 nn2 nn3 nn4 nn5 ff0 ff1 b4 bN3 fN; generalize ((((((w3.setCell ⟨V0.heap.size, 0, none⟩ (.int .i64 0)).setCell ⟨V0.heap.size, 1, none⟩ (.int .i64 1)).setCell ⟨V0.heap.size, 2, none⟩ (.string ⟨#[97]⟩)).setCell ⟨V0.heap.size, 3, none⟩ (.int .i64 1)).setCell ⟨V0.heap.size, 4, none⟩ (.int .i64 0)).setCell ⟨V0.heap.size, 5, none⟩ (.int .i64 0)) = U at *; generalize V0.heap.size = p at *)
    try simp at bU
    have hwU := kU.size
    clear e0 e1 ee0 ee1 b3 b8
    go_wp2_with fail
    refine (right0_c _).mono ?_
    rintro e w4 ⟨rfl, hb4⟩
    have b4 := bU.below hb4 bU.lt
    have k4 := next_below kU hb4
    have x0 : w4.cell? ⟨p, 0, none⟩ = some (.int .i64 0) := b4.cell 0
    have x1 : w4.cell? ⟨p, 1, none⟩ = some (.int .i64 1) := b4.cell 1
    have x2 : w4.cell? ⟨p, 2, none⟩ = some (.string ⟨#[97]⟩) := b4.cell 2
    have x3 : w4.cell? ⟨p, 3, none⟩ = some (.int .i64 1) := b4.cell 3
    have x4 : w4.cell? ⟨p, 4, none⟩ = some (.int .i64 0) := b4.cell 4
    have x5 : w4.cell? ⟨p, 5, none⟩ = some (.int .i64 0) := b4.cell 5
    go_wp2_with fail
    refine (fold_any _ _).mono ?_
    rw [show foldB 2 = true from rfl]
    rintro e w' ⟨rfl, rfl⟩
    go_wp2_with fail
    refine (may_c _).mono ?_
    rintro e w5 ⟨rfl, hb5⟩
    have b5 := b4.below hb5 b4.lt
    have k5 := next_below k4 hb5
    clear x0 x1 x2 x3 x4 x5
    have q0 : w5.cell? ⟨p, 0, none⟩ = some (.int .i64 0) := b5.cell 0
    have q1 : w5.cell? ⟨p, 1, none⟩ = some (.int .i64 1) := b5.cell 1
    have q2 : w5.cell? ⟨p, 2, none⟩ = some (.string ⟨#[97]⟩) := b5.cell 2
    have q3 : w5.cell? ⟨p, 3, none⟩ = some (.int .i64 1) := b5.cell 3
    have q4 : w5.cell? ⟨p, 4, none⟩ = some (.int .i64 0) := b5.cell 4
    have q5 : w5.cell? ⟨p, 5, none⟩ = some (.int .i64 0) := b5.cell 5
    go_wp2_with fail
    go_region_held3 (fun y => y.cell? ⟨p, 0, none⟩ = some (.int .i64 0) ∧ y.cell? ⟨p, 1, none⟩ = some (.int .i64 1) ∧ y.cell? ⟨p, 2, none⟩ = some (.string ⟨#[97]⟩) ∧ y.cell? ⟨p, 3, none⟩ = some (.int .i64 1) ∧ y.cell? ⟨p, 4, none⟩ = some (.int .i64 0) ∧ y.cell? ⟨p, 5, none⟩ = some (.int .i64 0))
      (first | with_reducible exact ⟨q0, q1, q2, q3, q4, q5⟩ | with_reducible exact ⟨r0, r1, r2, r3, r4, r5⟩ | go_keep)
      (first
        | (go_at_call 42; refine (clone0_c _).mono ?_; rintro e w' ⟨rfl, rfl⟩)
        | (go_at_call 41; refine (put_c _).mono ?_; rintro e w6 ⟨A, c, rfl, ho, hb6⟩; have k6 : Below w5.heap.size w5 w6 := ⟨hb6.os, hb6.tape, hb6.output, hb6.size, hb6.block⟩; have ho6 : w6.ownsRow w5.heap.size 76 6 (.slice A 1 c) 1 paneL := ho; have b6 := b5.below k6 b5.lt; have r0 : w6.cell? ⟨p, 0, none⟩ = some (.int .i64 0) := b6.cell 0; have r1 : w6.cell? ⟨p, 1, none⟩ = some (.int .i64 1) := b6.cell 1; have r2 : w6.cell? ⟨p, 2, none⟩ = some (.string ⟨#[97]⟩) := b6.cell 2; have r3 : w6.cell? ⟨p, 3, none⟩ = some (.int .i64 1) := b6.cell 3; have r4 : w6.cell? ⟨p, 4, none⟩ = some (.int .i64 0) := b6.cell 4; have r5 : w6.cell? ⟨p, 5, none⟩ = some (.int .i64 0) := b6.cell 5))
    go_wp2
    refine bodyPost_ret (v := .tuple #[.slice A 1 c, .int .i64 0]) (by simp [results, Try.results29, go_sem]) rfl ?_
    exact ⟨_, _, rfl, own_mono ho6 k5.size, next_below k5 k6⟩
end Go.Proofs.Ytgaknbgmodmniaa
