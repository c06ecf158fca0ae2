/- Walk of the play's do: a packet of another epoch is told. -/
import Derived.Test.YtplodggiifachaaPly4
namespace Go.Proofs.Ytplodggiifachaa
open Go.RowKit
set_option linter.unusedVariables false
set_option linter.unusedSimpArgs false

set_option maxRecDepth 100000 in
set_option maxHeartbeats 2000000 in
theorem do6_low (pb : Nat) (p : Ply) (z : Int) (b : ByteArray) (w : World) (hl : p.way.length ≤ 100000 ∧ p.got.length ≤ 100000 ∧ p.wants.length ≤ 100000) (hM : PlyM pb p w) (kk : Int) (h6 : kk < 0) (hw : p.way.length = 0) (hok : p.ok = true) (hre : 0 ≤ p.rE ∧ p.rE ≤ 1073741824) (hrw : 0 ≤ p.rW ∧ p.rW ≤ 1073741824) :
    Calls Try.prog 23 #[.pointer (some ⟨pb, 0, none⟩), .agg #[.int .i64 kk, .int .i64 z, .string b]] w (PlyPost pb p w) := by
  have hM1 := hM.alloc (.cells #[.int .i64 kk, .int .i64 z, .string b] 55)
  obtain ⟨A, c, vw, vp, vg, vn, hQ, hc, hR⟩ := hM
  obtain ⟨Aw, cw, rfl⟩ := own_succ' hR.ow
  obtain ⟨An, cn, rfl⟩ := own_succ' hR.on
  have lq := hQ.lt
  have p6 : w.cell? ⟨pb, 6, none⟩ = some (.slice Aw p.way.length cw) := hQ.cell 6
  have kA : Below pb w (w.alloc (.cells #[.int .i64 kk, .int .i64 z, .string b] 55)) := (Below.refl _ w).alloc (by omega) _
  obtain ⟨y, hy⟩ : ∃ y, (z.tmod 3 + 3).tmod 3 = y := ⟨_, rfl⟩
  have t0 := Int.tmod_lt_of_pos z (show (0 : Int) < 3 by omega)
  have t1 := Int.lt_tmod_of_pos z (show (0 : Int) < 3 by omega)
  have u0 : 0 ≤ (z.tmod 3 + 3).tmod 3 := Int.tmod_nonneg _ (by omega)
  have u1 := Int.tmod_lt_of_pos (z.tmod 3 + 3) (show (0 : Int) < 3 by omega)
  rw [hy] at u0 u1
  have hw1 : IntKind.i64.wrap (p.rE + 1) = p.rE + 1 := IntWalk.i64_in _ (by omega)
  have hw2 : IntKind.i64.wrap (z.tmod 3 + 3) = z.tmod 3 + 3 := IntWalk.i64_in _ (by omega)
  have hw3 : IntKind.i64.wrap (p.rE + 1 + y) = p.rE + 1 + y := IntWalk.i64_in _ (by omega)
  have hk : takeZ p.rE p.rW (p.rE + 1 + y) p.rW ⟨#[120]⟩ = (0, 0, false, 150) := by
    unfold takeZ
    rw [withinB_true.2 hre, withinB_true.2 hrw, decide_eq_false (by decide), if_neg (by simp), if_pos (by omega)]
  have HK := Lib.hid hk
  clear hk t0 t1
  have g0 : (kk == 0) = false := by rw [beq_eq_false_iff_ne]; omega
  have g1 : (kk == 1) = false := by rw [beq_eq_false_iff_ne]; omega
  have g2 : (kk == 2) = false := by rw [beq_eq_false_iff_ne]; omega
  have g3 : (kk == 3) = false := by rw [beq_eq_false_iff_ne]; omega
  have g4 : (kk == 4) = false := by rw [beq_eq_false_iff_ne]; omega
  have g5 : (kk == 5) = false := by rw [beq_eq_false_iff_ne]; omega
  have hd1 : decide ((1 : Int) ≤ kk) = false := by rw [decide_eq_false_iff_not]; omega
  have hR1 := hR.alloc (.cells #[.int .i64 kk, .int .i64 z, .string b] 55)
  have bQ1 := hQ.alloc (.cells #[.int .i64 kk, .int .i64 z, .string b] 55)
  have bA1 := Blk.new w 55 #[.int .i64 kk, .int .i64 z, .string b]
  have hn0 : decide (0 < p.way.length) = false := by rw [hw]; rfl
  clear h6 hw
  go_enter Try.func23, Try.ntmps23
  go_wp2_with fail
  have hVs : w.heap.size + 1 = (w.alloc (.cells #[.int .i64 kk, .int .i64 z, .string b] 55)).heap.size := by simp
  generalize w.alloc (.cells #[.int .i64 kk, .int .i64 z, .string b] 55) = V at *
  clear p6
  go_cut [14, 15, 16] from 42 to 69 (fun rp is er wx => ∃ rb, rp = .pointer (some ⟨rb, 0, none⟩) ∧ is = .bool false ∧ er = .int .i64 150 ∧ Blk wx rb 23 #[.int .i64 0, .int .i64 0] ∧ Blk wx pb 53 (plyC p A c (.slice Aw p.way.length cw) vp vg (.slice An p.wants.length cn)) ∧ Rws pb p A (.slice Aw p.way.length cw) vp vg (.slice An p.wants.length cn) wx ∧ Below pb w wx ∧ w.heap.size < rb)
  case first =>
    have lA := bA1.lt
    have lQ := bQ1.lt
    have p4 : V.cell? ⟨pb, 4, none⟩ = some (.int .i64 p.rE) := bQ1.cell 4
    have p5 : V.cell? ⟨pb, 5, none⟩ = some (.int .i64 p.rW) := bQ1.cell 5
    have a1 : V.cell? ⟨w.heap.size, 1, none⟩ = some (.int .i64 z) := bA1.cell 1
    have hQV : ∀ y, Below V.heap.size V y → y.cell? ⟨pb, 4, none⟩ = some (.int .i64 p.rE) ∧ y.cell? ⟨pb, 5, none⟩ = some (.int .i64 p.rW) ∧ y.cell? ⟨w.heap.size, 1, none⟩ = some (.int .i64 z) := fun y hy => ⟨(bQ1.below hy lQ).cell 4, (bQ1.below hy lQ).cell 5, (bA1.below hy lA).cell 1⟩
    have kx0 : Below V.heap.size V V := Below.refl _ _
    go_region_held3 (fun y => y.cell? ⟨pb, 4, none⟩ = some (.int .i64 p.rE) ∧ y.cell? ⟨pb, 5, none⟩ = some (.int .i64 p.rW) ∧ y.cell? ⟨w.heap.size, 1, none⟩ = some (.int .i64 z))
      (first | exact hQV _ kx0 | exact hQV _ kx2 | exact hQV _ kx4 | exact hQV _ kx3 | go_keep)
      (first | (go_at_call 9; refine (take_any p.rE p.rW (p.rE + 1 + y) p.rW ⟨#[120]⟩ _ (by unfold maxLen; decide)).mono ?_; rw [HK.out]; rintro e w2 ⟨rfl, hb2⟩; first
        | (have kx2 : Below V.heap.size V w2 := ⟨hb2.os, hb2.tape, hb2.output, hb2.size, hb2.block⟩; have ordA := True.intro)
        | (have kx3 : Below V.heap.size V w2 := next_below (by go_grown) hb2; have ordB := True.intro; have bN2 : Blk w2 V.heap.size 23 #[.int .i64 0, .int .i64 0] := (Blk.new V.drew 23 #[.int .i64 0, .int .i64 0]).below hb2 (by simp); have nn0 : w2.cell? ⟨V.heap.size, 0, none⟩ = some (.int .i64 0) := bN2.cell 0; have nn1 : w2.cell? ⟨V.heap.size, 1, none⟩ = some (.int .i64 0) := bN2.cell 1; have fN := bN2.frozen; have kx4 := (kx3.setCell (p := ⟨V.heap.size, 0, none⟩) (Nat.le_refl _) (.int .i64 0)).setCell (p := ⟨V.heap.size, 1, none⟩) (Nat.le_refl _) (.int .i64 0))))
    · have := ordA
      clear hQV
      go_wp2_with fail
      go_meet
      have hs2 := kx2.size
      exact ⟨w2.heap.size, rfl, rfl, rfl, Blk.new w2 _ _, (bQ1.below kx2 lQ).alloc _, (hR1.below kx2).alloc _, (kA.trans (kx2.mono (by omega))).alloc (by omega) _, by omega⟩
    · have := ordB
      clear hQV
      go_wp2_with fail
      go_meet
      have hs2 := kx4.size
      exact ⟨V.heap.size, rfl, rfl, rfl, (bN2.set_ 0 (.int .i64 0)).set_ 1 (.int .i64 0), bQ1.below kx4 lQ, hR1.below kx4, kA.trans (kx4.mono (by omega)), by omega⟩
  case rest =>
    obtain ⟨rb, rfl, rfl, rfl, bN, bQ3, hR3, k3, hrb⟩ := hcut
    have lN := bN.lt
    have lQ3 := bQ3.lt
    have r0 : wc.cell? ⟨rb, 0, none⟩ = some (.int .i64 0) := bN.cell 0
    have r1 : wc.cell? ⟨rb, 1, none⟩ = some (.int .i64 0) := bN.cell 1
    have nRQ : rb ≠ pb := by omega
    have p9 : wc.cell? ⟨pb, 9, none⟩ = some (.bool p.ok) := bQ3.cell 9
    have fQ := bQ3.frozen
    clear hR1 bQ1 bA1 hM1 kA bN
    go_wp2_with fail
    go_end0
    exact ⟨rfl, ⟨A, c, _, vp, vg, _, by simpa [plyC, hok] using bQ3.set_ 9 (.bool true), hc, hR3.set 9 _⟩, k3.setCell (p := ⟨pb, 9, none⟩) (Nat.le_refl _) _, by simp; omega⟩

set_option maxRecDepth 100000 in
set_option maxHeartbeats 2000000 in
theorem do6_high (pb : Nat) (p : Ply) (z : Int) (b : ByteArray) (w : World) (hl : p.way.length ≤ 100000 ∧ p.got.length ≤ 100000 ∧ p.wants.length ≤ 100000) (hM : PlyM pb p w) (kk : Int) (h6 : 5 < kk) (hw : p.way.length = 0) (hok : p.ok = true) (hre : 0 ≤ p.rE ∧ p.rE ≤ 1073741824) (hrw : 0 ≤ p.rW ∧ p.rW ≤ 1073741824) :
    Calls Try.prog 23 #[.pointer (some ⟨pb, 0, none⟩), .agg #[.int .i64 kk, .int .i64 z, .string b]] w (PlyPost pb p w) := by
  have hM1 := hM.alloc (.cells #[.int .i64 kk, .int .i64 z, .string b] 55)
  obtain ⟨A, c, vw, vp, vg, vn, hQ, hc, hR⟩ := hM
  obtain ⟨Aw, cw, rfl⟩ := own_succ' hR.ow
  obtain ⟨An, cn, rfl⟩ := own_succ' hR.on
  have lq := hQ.lt
  have p6 : w.cell? ⟨pb, 6, none⟩ = some (.slice Aw p.way.length cw) := hQ.cell 6
  have kA : Below pb w (w.alloc (.cells #[.int .i64 kk, .int .i64 z, .string b] 55)) := (Below.refl _ w).alloc (by omega) _
  obtain ⟨y, hy⟩ : ∃ y, (z.tmod 3 + 3).tmod 3 = y := ⟨_, rfl⟩
  have t0 := Int.tmod_lt_of_pos z (show (0 : Int) < 3 by omega)
  have t1 := Int.lt_tmod_of_pos z (show (0 : Int) < 3 by omega)
  have u0 : 0 ≤ (z.tmod 3 + 3).tmod 3 := Int.tmod_nonneg _ (by omega)
  have u1 := Int.tmod_lt_of_pos (z.tmod 3 + 3) (show (0 : Int) < 3 by omega)
  rw [hy] at u0 u1
  have hw1 : IntKind.i64.wrap (p.rE + 1) = p.rE + 1 := IntWalk.i64_in _ (by omega)
  have hw2 : IntKind.i64.wrap (z.tmod 3 + 3) = z.tmod 3 + 3 := IntWalk.i64_in _ (by omega)
  have hw3 : IntKind.i64.wrap (p.rE + 1 + y) = p.rE + 1 + y := IntWalk.i64_in _ (by omega)
  have hk : takeZ p.rE p.rW (p.rE + 1 + y) p.rW ⟨#[120]⟩ = (0, 0, false, 150) := by
    unfold takeZ
    rw [withinB_true.2 hre, withinB_true.2 hrw, decide_eq_false (by decide), if_neg (by simp), if_pos (by omega)]
  have HK := Lib.hid hk
  clear hk t0 t1
  have g0 : (kk == 0) = false := by rw [beq_eq_false_iff_ne]; omega
  have g1 : (kk == 1) = false := by rw [beq_eq_false_iff_ne]; omega
  have g2 : (kk == 2) = false := by rw [beq_eq_false_iff_ne]; omega
  have g3 : (kk == 3) = false := by rw [beq_eq_false_iff_ne]; omega
  have g4 : (kk == 4) = false := by rw [beq_eq_false_iff_ne]; omega
  have g5 : (kk == 5) = false := by rw [beq_eq_false_iff_ne]; omega
  have hd1 : (1 : Int) ≤ kk := by omega
  have hd3 : decide (kk ≤ (3 : Int)) = false := by rw [decide_eq_false_iff_not]; omega
  have hR1 := hR.alloc (.cells #[.int .i64 kk, .int .i64 z, .string b] 55)
  have bQ1 := hQ.alloc (.cells #[.int .i64 kk, .int .i64 z, .string b] 55)
  have bA1 := Blk.new w 55 #[.int .i64 kk, .int .i64 z, .string b]
  have hn0 : decide (0 < p.way.length) = false := by rw [hw]; rfl
  clear h6 hw
  go_enter Try.func23, Try.ntmps23
  go_wp2_with fail
  have hVs : w.heap.size + 1 = (w.alloc (.cells #[.int .i64 kk, .int .i64 z, .string b] 55)).heap.size := by simp
  generalize w.alloc (.cells #[.int .i64 kk, .int .i64 z, .string b] 55) = V at *
  clear p6
  go_cut [14, 15, 16] from 42 to 69 (fun rp is er wx => ∃ rb, rp = .pointer (some ⟨rb, 0, none⟩) ∧ is = .bool false ∧ er = .int .i64 150 ∧ Blk wx rb 23 #[.int .i64 0, .int .i64 0] ∧ Blk wx pb 53 (plyC p A c (.slice Aw p.way.length cw) vp vg (.slice An p.wants.length cn)) ∧ Rws pb p A (.slice Aw p.way.length cw) vp vg (.slice An p.wants.length cn) wx ∧ Below pb w wx ∧ w.heap.size < rb)
  case first =>
    have lA := bA1.lt
    have lQ := bQ1.lt
    have p4 : V.cell? ⟨pb, 4, none⟩ = some (.int .i64 p.rE) := bQ1.cell 4
    have p5 : V.cell? ⟨pb, 5, none⟩ = some (.int .i64 p.rW) := bQ1.cell 5
    have a1 : V.cell? ⟨w.heap.size, 1, none⟩ = some (.int .i64 z) := bA1.cell 1
    have hQV : ∀ y, Below V.heap.size V y → y.cell? ⟨pb, 4, none⟩ = some (.int .i64 p.rE) ∧ y.cell? ⟨pb, 5, none⟩ = some (.int .i64 p.rW) ∧ y.cell? ⟨w.heap.size, 1, none⟩ = some (.int .i64 z) := fun y hy => ⟨(bQ1.below hy lQ).cell 4, (bQ1.below hy lQ).cell 5, (bA1.below hy lA).cell 1⟩
    have kx0 : Below V.heap.size V V := Below.refl _ _
    go_region_held3 (fun y => y.cell? ⟨pb, 4, none⟩ = some (.int .i64 p.rE) ∧ y.cell? ⟨pb, 5, none⟩ = some (.int .i64 p.rW) ∧ y.cell? ⟨w.heap.size, 1, none⟩ = some (.int .i64 z))
      (first | exact hQV _ kx0 | exact hQV _ kx2 | exact hQV _ kx4 | exact hQV _ kx3 | go_keep)
      (first | (go_at_call 9; refine (take_any p.rE p.rW (p.rE + 1 + y) p.rW ⟨#[120]⟩ _ (by unfold maxLen; decide)).mono ?_; rw [HK.out]; rintro e w2 ⟨rfl, hb2⟩; first
        | (have kx2 : Below V.heap.size V w2 := ⟨hb2.os, hb2.tape, hb2.output, hb2.size, hb2.block⟩; have ordA := True.intro)
        | (have kx3 : Below V.heap.size V w2 := next_below (by go_grown) hb2; have ordB := True.intro; have bN2 : Blk w2 V.heap.size 23 #[.int .i64 0, .int .i64 0] := (Blk.new V.drew 23 #[.int .i64 0, .int .i64 0]).below hb2 (by simp); have nn0 : w2.cell? ⟨V.heap.size, 0, none⟩ = some (.int .i64 0) := bN2.cell 0; have nn1 : w2.cell? ⟨V.heap.size, 1, none⟩ = some (.int .i64 0) := bN2.cell 1; have fN := bN2.frozen; have kx4 := (kx3.setCell (p := ⟨V.heap.size, 0, none⟩) (Nat.le_refl _) (.int .i64 0)).setCell (p := ⟨V.heap.size, 1, none⟩) (Nat.le_refl _) (.int .i64 0))))
    · have := ordA
      clear hQV
      go_wp2_with fail
      go_meet
      have hs2 := kx2.size
      exact ⟨w2.heap.size, rfl, rfl, rfl, Blk.new w2 _ _, (bQ1.below kx2 lQ).alloc _, (hR1.below kx2).alloc _, (kA.trans (kx2.mono (by omega))).alloc (by omega) _, by omega⟩
    · have := ordB
      clear hQV
      go_wp2_with fail
      go_meet
      have hs2 := kx4.size
      exact ⟨V.heap.size, rfl, rfl, rfl, (bN2.set_ 0 (.int .i64 0)).set_ 1 (.int .i64 0), bQ1.below kx4 lQ, hR1.below kx4, kA.trans (kx4.mono (by omega)), by omega⟩
  case rest =>
    obtain ⟨rb, rfl, rfl, rfl, bN, bQ3, hR3, k3, hrb⟩ := hcut
    have lN := bN.lt
    have lQ3 := bQ3.lt
    have r0 : wc.cell? ⟨rb, 0, none⟩ = some (.int .i64 0) := bN.cell 0
    have r1 : wc.cell? ⟨rb, 1, none⟩ = some (.int .i64 0) := bN.cell 1
    have nRQ : rb ≠ pb := by omega
    have p9 : wc.cell? ⟨pb, 9, none⟩ = some (.bool p.ok) := bQ3.cell 9
    have fQ := bQ3.frozen
    clear hR1 bQ1 bA1 hM1 kA bN
    go_wp2_with fail
    go_end0
    exact ⟨rfl, ⟨A, c, _, vp, vg, _, by simpa [plyC, hok] using bQ3.set_ 9 (.bool true), hc, hR3.set 9 _⟩, k3.setCell (p := ⟨pb, 9, none⟩) (Nat.le_refl _) _, by simp; omega⟩

set_option maxRecDepth 100000 in
set_option maxHeartbeats 2000000 in
theorem do6_some (pb : Nat) (p : Ply) (z : Int) (b : ByteArray) (w : World) (hl : p.way.length ≤ 100000 ∧ p.got.length ≤ 100000 ∧ p.wants.length ≤ 100000) (hM : PlyM pb p w) (kk : Int) (h6 : kk < 0 ∨ 5 < kk) (hw : 0 < p.way.length) (hok : p.ok = true) (hre : 0 ≤ p.rE ∧ p.rE ≤ 1073741824) (hrw : 0 ≤ p.rW ∧ p.rW ≤ 1073741824) :
    Calls Try.prog 23 #[.pointer (some ⟨pb, 0, none⟩), .agg #[.int .i64 kk, .int .i64 z, .string b]] w (PlyPost pb p w) := by
  have hM1 := hM.alloc (.cells #[.int .i64 kk, .int .i64 z, .string b] 55)
  obtain ⟨A, c, vw, vp, vg, vn, hQ, hc, hR⟩ := hM
  obtain ⟨Aw, cw, rfl⟩ := own_succ' hR.ow
  obtain ⟨An, cn, rfl⟩ := own_succ' hR.on
  have lq := hQ.lt
  have p6 : w.cell? ⟨pb, 6, none⟩ = some (.slice Aw p.way.length cw) := hQ.cell 6
  have kA : Below pb w (w.alloc (.cells #[.int .i64 kk, .int .i64 z, .string b] 55)) := (Below.refl _ w).alloc (by omega) _
  obtain ⟨y, hy⟩ : ∃ y, (z.tmod 3 + 3).tmod 3 = y := ⟨_, rfl⟩
  have t0 := Int.tmod_lt_of_pos z (show (0 : Int) < 3 by omega)
  have t1 := Int.lt_tmod_of_pos z (show (0 : Int) < 3 by omega)
  have u0 : 0 ≤ (z.tmod 3 + 3).tmod 3 := Int.tmod_nonneg _ (by omega)
  have u1 := Int.tmod_lt_of_pos (z.tmod 3 + 3) (show (0 : Int) < 3 by omega)
  rw [hy] at u0 u1
  have hw1 : IntKind.i64.wrap (p.rE + 1) = p.rE + 1 := IntWalk.i64_in _ (by omega)
  have hw2 : IntKind.i64.wrap (z.tmod 3 + 3) = z.tmod 3 + 3 := IntWalk.i64_in _ (by omega)
  have hw3 : IntKind.i64.wrap (p.rE + 1 + y) = p.rE + 1 + y := IntWalk.i64_in _ (by omega)
  have hk : takeZ p.rE p.rW (p.rE + 1 + y) p.rW ⟨#[120]⟩ = (0, 0, false, 150) := by
    unfold takeZ
    rw [withinB_true.2 hre, withinB_true.2 hrw, decide_eq_false (by decide), if_neg (by simp), if_pos (by omega)]
  have HK := Lib.hid hk
  clear hk t0 t1
  have g0 : (kk == 0) = false := by rw [beq_eq_false_iff_ne]; omega
  have g1 : (kk == 1) = false := by rw [beq_eq_false_iff_ne]; omega
  have g2 : (kk == 2) = false := by rw [beq_eq_false_iff_ne]; omega
  have g3 : (kk == 3) = false := by rw [beq_eq_false_iff_ne]; omega
  have g4 : (kk == 4) = false := by rw [beq_eq_false_iff_ne]; omega
  have g5 : (kk == 5) = false := by rw [beq_eq_false_iff_ne]; omega
  have hR1 := hR.alloc (.cells #[.int .i64 kk, .int .i64 z, .string b] 55)
  have bQ1 := hQ.alloc (.cells #[.int .i64 kk, .int .i64 z, .string b] 55)
  have bA1 := Blk.new w 55 #[.int .i64 kk, .int .i64 z, .string b]
  obtain ⟨e1, e2, e3⟩ := which_at z hw (by omega)
  have hn0 : (0 : Int) < (p.way.length : Int) := by omega
  have hnz : ((p.way.length : Int) == 0) = false := by rw [beq_eq_false_iff_ne]; omega
  clear h6
  go_enter Try.func23, Try.ntmps23
  go_wp2_with fail
  have hVs : w.heap.size + 1 = (w.alloc (.cells #[.int .i64 kk, .int .i64 z, .string b] 55)).heap.size := by simp
  generalize w.alloc (.cells #[.int .i64 kk, .int .i64 z, .string b] 55) = V at *
  clear p6
  go_cut [14, 15, 16] from 42 to 69 (fun rp is er wx => ∃ rb, rp = .pointer (some ⟨rb, 0, none⟩) ∧ is = .bool false ∧ er = .int .i64 150 ∧ Blk wx rb 23 #[.int .i64 0, .int .i64 0] ∧ Blk wx pb 53 (plyC p A c (.slice Aw p.way.length cw) vp vg (.slice An p.wants.length cn)) ∧ Rws pb p A (.slice Aw p.way.length cw) vp vg (.slice An p.wants.length cn) wx ∧ Below pb w wx ∧ w.heap.size < rb)
  case first =>
    have lA := bA1.lt
    have lQ := bQ1.lt
    have p4 : V.cell? ⟨pb, 4, none⟩ = some (.int .i64 p.rE) := bQ1.cell 4
    have p5 : V.cell? ⟨pb, 5, none⟩ = some (.int .i64 p.rW) := bQ1.cell 5
    have a1 : V.cell? ⟨w.heap.size, 1, none⟩ = some (.int .i64 z) := bA1.cell 1
    have hQV : ∀ y, Below V.heap.size V y → y.cell? ⟨pb, 4, none⟩ = some (.int .i64 p.rE) ∧ y.cell? ⟨pb, 5, none⟩ = some (.int .i64 p.rW) ∧ y.cell? ⟨w.heap.size, 1, none⟩ = some (.int .i64 z) := fun y hy => ⟨(bQ1.below hy lQ).cell 4, (bQ1.below hy lQ).cell 5, (bA1.below hy lA).cell 1⟩
    have kx0 : Below V.heap.size V V := Below.refl _ _
    go_region_held3 (fun y => y.cell? ⟨pb, 4, none⟩ = some (.int .i64 p.rE) ∧ y.cell? ⟨pb, 5, none⟩ = some (.int .i64 p.rW) ∧ y.cell? ⟨w.heap.size, 1, none⟩ = some (.int .i64 z))
      (first | exact hQV _ kx0 | exact hQV _ kx2 | exact hQV _ kx4 | exact hQV _ kx3 | go_keep)
      (first | (go_at_call 9; refine (take_any p.rE p.rW (p.rE + 1 + y) p.rW ⟨#[120]⟩ _ (by unfold maxLen; decide)).mono ?_; rw [HK.out]; rintro e w2 ⟨rfl, hb2⟩; first
        | (have kx2 : Below V.heap.size V w2 := ⟨hb2.os, hb2.tape, hb2.output, hb2.size, hb2.block⟩; have ordA := True.intro)
        | (have kx3 : Below V.heap.size V w2 := next_below (by go_grown) hb2; have ordB := True.intro; have bN2 : Blk w2 V.heap.size 23 #[.int .i64 0, .int .i64 0] := (Blk.new V.drew 23 #[.int .i64 0, .int .i64 0]).below hb2 (by simp); have nn0 : w2.cell? ⟨V.heap.size, 0, none⟩ = some (.int .i64 0) := bN2.cell 0; have nn1 : w2.cell? ⟨V.heap.size, 1, none⟩ = some (.int .i64 0) := bN2.cell 1; have fN := bN2.frozen; have kx4 := (kx3.setCell (p := ⟨V.heap.size, 0, none⟩) (Nat.le_refl _) (.int .i64 0)).setCell (p := ⟨V.heap.size, 1, none⟩) (Nat.le_refl _) (.int .i64 0))))
    · have := ordA
      clear hQV
      go_wp2_with fail
      go_meet
      have hs2 := kx2.size
      exact ⟨w2.heap.size, rfl, rfl, rfl, Blk.new w2 _ _, (bQ1.below kx2 lQ).alloc _, (hR1.below kx2).alloc _, (kA.trans (kx2.mono (by omega))).alloc (by omega) _, by omega⟩
    · have := ordB
      clear hQV
      go_wp2_with fail
      go_meet
      have hs2 := kx4.size
      exact ⟨V.heap.size, rfl, rfl, rfl, (bN2.set_ 0 (.int .i64 0)).set_ 1 (.int .i64 0), bQ1.below kx4 lQ, hR1.below kx4, kA.trans (kx4.mono (by omega)), by omega⟩
  case rest =>
    obtain ⟨rb, rfl, rfl, rfl, bN, bQ3, hR3, k3, hrb⟩ := hcut
    have lN := bN.lt
    have lQ3 := bQ3.lt
    have r0 : wc.cell? ⟨rb, 0, none⟩ = some (.int .i64 0) := bN.cell 0
    have r1 : wc.cell? ⟨rb, 1, none⟩ = some (.int .i64 0) := bN.cell 1
    have nRQ : rb ≠ pb := by omega
    have p9 : wc.cell? ⟨pb, 9, none⟩ = some (.bool p.ok) := bQ3.cell 9
    have fQ := bQ3.frozen
    clear hR1 bQ1 bA1 hM1 kA bN
    go_wp2_with fail
    go_end0
    exact ⟨rfl, ⟨A, c, _, vp, vg, _, by simpa [plyC, hok] using bQ3.set_ 9 (.bool true), hc, hR3.set 9 _⟩, k3.setCell (p := ⟨pb, 9, none⟩) (Nat.le_refl _) _, by simp; omega⟩

end Go.Proofs.Ytplodggiifachaa
