/- The walk of chapter 16's law LeaseKeeps. -/
import Derived.Test.YtinccckpohaoiaaLse10
namespace Go.Proofs.Ytinccckpohaoiaa
open Go.RowKit
set_option linter.unusedVariables false
set_option linter.unusedSimpArgs false

theorem renewZ_len (ls : List Lse) (last g tok now long : Int) : (renewZ ls last g tok now long).1.1.length ≤ ls.length := by
  unfold renewZ
  (repeat' split) <;> simp
theorem giveZ_len (ls : List Lse) (last g tok : Int) : (giveZ ls last g tok).1.1.length ≤ ls.length := by
  unfold giveZ
  (repeat' split) <;> simp
theorem undrew {W x : World} {n : Nat} (h : Below (W.drewN n).heap.size (W.drewN n) x) : Below W.heap.size W x := ⟨h.os, h.tape, h.output, h.size, h.block⟩
theorem undrew1 {W x : World} (h : Below W.drew.heap.size W.drew x) : Below W.heap.size W x := ⟨h.os, h.tape, h.output, h.size, h.block⟩

set_option maxRecDepth 100000 in
set_option maxHeartbeats 4000000 in
theorem walkKeeps (A : Option Addr) (n c : Nat) (last g tok now long : Int) (ls : List Lse) (w : World) (hr : Reads w w.heap.size 3 A n (flat ls)) (hm : n ≤ 9223372036854775807) (hc : n ≤ c) :
    Calls Try.prog 6 #[.agg #[.slice A n c, .int .i64 last], .int .i64 g, .int .i64 tok, .int .i64 now, .int .i64 long] w fun e w' => e = .returned (.bool true) ∧ Below w.heap.size w w' := by
  cases hs : decide ((n : Int) ≤ 100)
  · go_enter Try.func6, Try.ntmps6
    go_wp2_with (go_at_call 9; refine (small_any _ _ _ _ _).mono ?_; rw [hs]; rintro e w1 ⟨rfl, hb1⟩)
    go_ret
    exact ⟨rfl, next_below (by go_grown) hb1⟩
  · have HS := Lib.hid hs
    clear hs
    obtain ⟨⟨⟨rl, rlast⟩, rerr⟩, hZ⟩ : ∃ Z, renewZ ls last g tok now long = Z := ⟨_, rfl⟩
    obtain ⟨⟨⟨gl, glast⟩, gerr⟩, hY⟩ : ∃ Z, giveZ ls last g tok = Z := ⟨_, rfl⟩
    have hln := renewZ_len ls last g tok now long
    have hlg := giveZ_len ls last g tok
    rw [hZ, lse_len hr] at hln
    rw [hY, lse_len hr] at hlg
    simp only at hln hlg
    have HZ := Lib.hid hZ
    have HY := Lib.hid hY
    obtain ⟨f, hF⟩ : ∃ f, fencedB ls last g tok = f := ⟨_, rfl⟩
    have HF := Lib.hid hF
    clear hZ hY hF
    go_enter Try.func6, Try.ntmps6
    go_wp2_with fail
    refine (small_any _ _ _ _ _).mono ?_
    rw [HS.out]
    rintro e w1 ⟨rfl, hb1⟩
    obtain ⟨c1, f1⟩ := bcell hb1
    have y1 := hb1.size
    try simp at y1
    have z0_0_1 : w.heap.size < w1.heap.size := by omega
    have k1 : Below w.heap.size w w1 := next_below (by go_grown) hb1

    go_wp2_with fail
    refine (renew_any A n c last g tok now long ls _ ((hr.below k1).more k1.size) hm hc).mono ?_
    rw [HZ.out]
    rintro e w2 ⟨A2, c2', rfl, hr2, hc2, hf2, hb2⟩
    obtain ⟨c2, f2⟩ := bcell hb2
    have y2 := hb2.size
    try simp at y2
    have z0_0_2 : w.heap.size < w2.heap.size := by omega
    have k2 : Below w.heap.size w w2 := next_below (by go_grown) hb2

    go_wp2_with fail
    refine (refRenew_any A n c last g tok now long ls _ (reads_alloc ((hr.below k2).more k2.size)) hm hc).mono ?_
    rw [HZ.out]
    rintro e w3 ⟨A3, c3', rfl, hr3, hc3, hf3, hb3⟩
    obtain ⟨c3, f3⟩ := bcell hb3
    have y3 := hb3.size
    try simp at y3
    have z0_0_3 : w.heap.size < w3.heap.size := by omega
    have zz0_0_3 : w.heap.size < w2.heap.size + 1 := by omega
    have z2_0_3 : w2.heap.size < w3.heap.size := by omega
    have k3 : Below w.heap.size w w3 := next_below (by go_grown) hb3

    go_wp2_with fail
    refine (give_any A n c last g tok ls _ (reads_alloc ((hr.below k3).more k3.size)) hm hc).mono ?_
    rw [HY.out]
    rintro e w4 ⟨A4, c4', rfl, hr4, hc4, hf4, hb4⟩
    obtain ⟨c4, f4⟩ := bcell hb4
    have y4 := hb4.size
    try simp at y4
    have z0_0_4 : w.heap.size < w4.heap.size := by omega
    have zz0_0_4 : w.heap.size < w3.heap.size + 1 := by omega
    have z2_0_4 : w2.heap.size < w4.heap.size := by omega
    have zz2_0_4 : w2.heap.size < w3.heap.size + 1 := by omega
    have z3_0_4 : w3.heap.size < w4.heap.size := by omega
    have k4 : Below w.heap.size w w4 := next_below (by go_grown) hb4

    go_wp2_with fail
    refine (refGive_any A n c last g tok ls _ (reads_alloc ((hr.below k4).more k4.size)) hm hc).mono ?_
    rw [HY.out]
    rintro e w5 ⟨A5, c5', rfl, hr5, hc5, hf5, hb5⟩
    obtain ⟨c5, f5⟩ := bcell hb5
    have y5 := hb5.size
    try simp at y5
    have z0_0_5 : w.heap.size < w5.heap.size := by omega
    have zz0_0_5 : w.heap.size < w4.heap.size + 1 := by omega
    have z2_0_5 : w2.heap.size < w5.heap.size := by omega
    have zz2_0_5 : w2.heap.size < w4.heap.size + 1 := by omega
    have z3_0_5 : w3.heap.size < w5.heap.size := by omega
    have zz3_0_5 : w3.heap.size < w4.heap.size + 1 := by omega
    have z4_0_5 : w4.heap.size < w5.heap.size := by omega
    have k5 : Below w.heap.size w w5 := next_below (by go_grown) hb5

    try simp only at hr2 hr3 hr4 hr5 hc2 hc3 hc4 hc5
    go_wp2_with fail
    have bT : Blk w5 w.heap.size 24 #[.slice A n c, .int .i64 last] := (((((((((Blk.new w _ _).below hb1 (by simp)).below hb2 z0_0_1).alloc (.cells #[.slice A2 rl.length c2', .int .i64 rlast] 24)).below hb3 (by simp; omega)).alloc (.cells #[.slice A3 rl.length c3', .int .i64 rlast] 24)).below hb4 (by simp; omega)).alloc (.cells #[.slice A4 gl.length c4', .int .i64 glast] 24)).below hb5 (by simp; omega))
    have bA : Blk w5 w2.heap.size 24 #[.slice A2 rl.length c2', .int .i64 rlast] := ((((((Blk.new w2 24 #[.slice A2 rl.length c2', .int .i64 rlast]).below hb3 (by simp)).alloc (.cells #[.slice A3 rl.length c3', .int .i64 rlast] 24)).below hb4 (by simp; omega)).alloc (.cells #[.slice A4 gl.length c4', .int .i64 glast] 24)).below hb5 (by simp; omega))
    have bB : Blk w5 w3.heap.size 24 #[.slice A3 rl.length c3', .int .i64 rlast] := ((((Blk.new w3 24 #[.slice A3 rl.length c3', .int .i64 rlast]).below hb4 (by simp)).alloc (.cells #[.slice A4 gl.length c4', .int .i64 glast] 24)).below hb5 (by simp; omega))
    have bC : Blk w5 w4.heap.size 24 #[.slice A4 gl.length c4', .int .i64 glast] := (Blk.new w4 24 #[.slice A4 gl.length c4', .int .i64 glast]).below hb5 (by simp)
    have r2 := (reads_below (reads_alloc (o := .cells #[.slice A4 gl.length c4', .int .i64 glast] 24) (reads_below (reads_alloc (o := .cells #[.slice A3 rl.length c3', .int .i64 rlast] 24) (reads_below (reads_alloc (o := .cells #[.slice A2 rl.length c2', .int .i64 rlast] 24) hr2) hb3)) hb4)) hb5)
    have r3 := (reads_below (reads_alloc (o := .cells #[.slice A4 gl.length c4', .int .i64 glast] 24) (reads_below (reads_alloc (o := .cells #[.slice A3 rl.length c3', .int .i64 rlast] 24) hr3) hb4)) hb5)
    have r4 := (reads_below (reads_alloc (o := .cells #[.slice A4 gl.length c4', .int .i64 glast] 24) hr4) hb5)
    have r0 := (hr.below k5).more k5.size
    have bTV := bT.alloc (.cells #[.slice A5 gl.length c5', .int .i64 glast] 24)
    have bAV := bA.alloc (.cells #[.slice A5 gl.length c5', .int .i64 glast] 24)
    have bBV := bB.alloc (.cells #[.slice A5 gl.length c5', .int .i64 glast] 24)
    have bCV := bC.alloc (.cells #[.slice A5 gl.length c5', .int .i64 glast] 24)
    have bDV := Blk.new w5 24 #[.slice A5 gl.length c5', .int .i64 glast]
    have r2V := reads_alloc (o := .cells #[.slice A5 gl.length c5', .int .i64 glast] 24) r2
    have r3V := reads_alloc (o := .cells #[.slice A5 gl.length c5', .int .i64 glast] 24) r3
    have r4V := reads_alloc (o := .cells #[.slice A5 gl.length c5', .int .i64 glast] 24) r4
    have r5V := reads_alloc (o := .cells #[.slice A5 gl.length c5', .int .i64 glast] 24) hr5
    have r0V := reads_alloc (o := .cells #[.slice A5 gl.length c5', .int .i64 glast] 24) r0
    have kV := k5.alloc k5.size (.cells #[.slice A5 gl.length c5', .int .i64 glast] 24)
    clear c1 f1 c2 f2 c3 f3 c4 f4 c5 f5 hb1 hb2 hb3 hb4 hb5 bT bA bB bC r2 r3 r4 r0 hr2 hr3 hr4 hr5
    generalize w5.alloc (.cells #[.slice A5 gl.length c5', .int .i64 glast] 24) = V at *
    generalize w.heap.size = bt at bTV ⊢
    generalize w2.heap.size = ba at bAV ⊢
    generalize w3.heap.size = bb at bBV ⊢
    generalize w4.heap.size = bc at bCV ⊢
    generalize w5.heap.size = bd at bDV ⊢
    have hS : ∀ x : World, Below V.heap.size V x → x.cell? ⟨bt, 0, none⟩ = some (.slice A n c) ∧ x.cell? ⟨bt, 1, none⟩ = some (.int .i64 last) ∧ x.cell? ⟨ba, 0, none⟩ = some (.slice A2 rl.length c2') ∧ x.cell? ⟨ba, 1, none⟩ = some (.int .i64 rlast) ∧
        x.cell? ⟨bb, 0, none⟩ = some (.slice A3 rl.length c3') ∧ x.cell? ⟨bb, 1, none⟩ = some (.int .i64 rlast) ∧ x.cell? ⟨bc, 0, none⟩ = some (.slice A4 gl.length c4') ∧ x.cell? ⟨bc, 1, none⟩ = some (.int .i64 glast) ∧ x.cell? ⟨bd, 0, none⟩ = some (.slice A5 gl.length c5') ∧ x.cell? ⟨bd, 1, none⟩ = some (.int .i64 glast) := fun x hx =>
      ⟨(bTV.below hx bTV.lt).cell 0, (bTV.below hx bTV.lt).cell 1, (bAV.below hx bAV.lt).cell 0, (bAV.below hx bAV.lt).cell 1, (bBV.below hx bBV.lt).cell 0, (bBV.below hx bBV.lt).cell 1, (bCV.below hx bCV.lt).cell 0, (bCV.below hx bCV.lt).cell 1, (bDV.below hx bDV.lt).cell 0, (bDV.below hx bDV.lt).cell 1⟩
    have kx0 : Below V.heap.size V V := Below.refl _ _
    go_region_held3 (fun x => x.cell? ⟨bt, 0, none⟩ = some (.slice A n c) ∧ x.cell? ⟨bt, 1, none⟩ = some (.int .i64 last) ∧ x.cell? ⟨ba, 0, none⟩ = some (.slice A2 rl.length c2') ∧ x.cell? ⟨ba, 1, none⟩ = some (.int .i64 rlast) ∧
        x.cell? ⟨bb, 0, none⟩ = some (.slice A3 rl.length c3') ∧ x.cell? ⟨bb, 1, none⟩ = some (.int .i64 rlast) ∧ x.cell? ⟨bc, 0, none⟩ = some (.slice A4 gl.length c4') ∧ x.cell? ⟨bc, 1, none⟩ = some (.int .i64 glast) ∧ x.cell? ⟨bd, 0, none⟩ = some (.slice A5 gl.length c5') ∧ x.cell? ⟨bd, 1, none⟩ = some (.int .i64 glast))
      (first | exact hS _ kx5 | exact hS _ kx4 | exact hS _ kx3 | exact hS _ kx2 | exact hS _ kx1 | exact hS _ kx0 | exact hS _ (below_drew kx0) | go_keep)
      (first
        | (go_at_call 12; refine (alive_any _).mono ?_; rintro e x1 ⟨rfl, hx1⟩; have kx1 : Below V.heap.size V x1 := undrew1 hx1)
        | (go_at_call 11; have q := kx2; clear q; refine (like_same glast gl A4 A5 gl.length c4' c5' _ (reads_below r4V kx2) (reads_below r5V kx2) (by omega)).mono ?_; rintro e x3 ⟨rfl, hx3⟩; have kx3 := kx2.trans (hx3.mono kx2.size))
        | (go_at_call 11; refine (like_same rlast rl A2 A3 rl.length c2' c3' _ (reads_below r2V kx1) (reads_below r3V kx1) (by omega)).mono ?_; rintro e x2 ⟨rfl, hx2⟩; have kx2 := kx1.trans (hx2.mono kx1.size))
        | (go_at_call 22; refine (fenced_any A n c last g tok ls _ (reads_below r0V kx3) hm hc).mono ?_; rw [HF.out]; rintro e x4 ⟨rfl, hx4⟩; have kx4 := kx3.trans (hx4.mono kx3.size))
        | (go_at_call 26; refine (refFenced_any A n c last g tok ls _ (reads_below r0V kx4) hm hc).mono ?_; rw [HF.out]; rintro e x5 ⟨rfl, hx5⟩; have kx5 := kx4.trans (hx5.mono kx4.size)))
    go_wp2
    go_ret
    exact ⟨by simp, kV.trans (kx5.mono kV.size)⟩

end Go.Proofs.Ytinccckpohaoiaa
