/- The walk of chapter 16's law LeaseMakes. -/
import Derived.Test.YtinccckpohaoiaaLse11
namespace Go.Proofs.Ytinccckpohaoiaa
open Go.RowKit
set_option linter.unusedVariables false
set_option linter.unusedSimpArgs false

theorem undrew1 {W x : World} (h : Below W.drew.heap.size W.drew x) : Below W.heap.size W x := ⟨h.os, h.tape, h.output, h.size, h.block⟩
theorem ownersZ_len (ls : List Lse) (last now : Int) : (ownersZ ls last now).length ≤ 32 := by
  unfold ownersZ
  cases h : rightT ls last
  · simp
  · have := (rightT_iff.1 h).1.2
    simpa [ownL] using this

set_option maxRecDepth 100000 in
set_option maxHeartbeats 4000000 in
theorem walkMakes (A : Option Addr) (n c : Nat) (last g now : Int) (ls : List Lse) (w : World) (hr : Reads w w.heap.size 3 A n (flat ls)) (hm : n ≤ 9223372036854775807) (hc : n ≤ c) :
    Calls Try.prog 3 #[.int .i64 g, .agg #[.slice A n c, .int .i64 last], .int .i64 now] w fun e w' => e = .returned (.bool true) ∧ Below w.heap.size w w' := by
  cases hs : decide ((n : Int) ≤ 100)
  · go_enter Try.func3, Try.ntmps3
    go_wp2_with (go_at_call 9; refine (small_any _ _ _ _ _).mono ?_; rw [hs]; rintro e w1 ⟨rfl, hb1⟩)
    go_ret
    exact ⟨rfl, next_below (by go_grown) hb1⟩
  have HS := Lib.hid hs
  clear hs
  obtain ⟨rr, hRR⟩ : ∃ rr, rightT ls last = rr := ⟨_, rfl⟩
  have HRR := Lib.hid hRR
  obtain ⟨zs, hz⟩ : ∃ zs, ownersZ ls last now = zs := ⟨_, rfl⟩
  obtain ⟨m, hzm⟩ : ∃ m, zs.length = m := ⟨_, rfl⟩
  have hm32 : m ≤ 32 := by rw [← hzm, ← hz]; exact ownersZ_len _ _ _
  have HZ := Lib.hid hz
  have HZM := Lib.hid hzm
  clear hRR hz hzm
  obtain ⟨i0, hi, hz0, hz1, hz2⟩ := info_parts infoLse
  by_cases hg : 1 ≤ g ∧ g ≤ 32
  rotate_left
  · have hN : newZ g = (([], 0), 1) := by unfold newZ; rw [if_neg hg]
    have HN := Lib.hid hN
    clear hN
    rcases (show g < 1 ∨ (1 ≤ g ∧ 32 < g) by omega) with hg1 | ⟨hg1, hg2⟩
    · clear hg
      go_enter Try.func3, Try.ntmps3
      go_wp2_with fail
      refine (small_any _ _ _ _ _).mono ?_
      rw [HS.out]
      rintro e w1 ⟨rfl, hb1⟩
      obtain ⟨c1, f1⟩ := bcell hb1
      have y1 := hb1.size
      try simp at y1
      have z0_0_1 : w.heap.size < w1.heap.size := by omega
      have k1 : Below w.heap.size w w1 := next_below (by go_grown) hb1
      go_wp2_with fail
      refine (new_any g _).mono ?_
      rw [HN.out]
      rintro e w2 ⟨A2, c2', rfl, hr2, hc2, hf2, hb2⟩
      obtain ⟨c2, f2⟩ := bcell hb2
      have y2 := hb2.size
      try simp at y2
      have z0_0_2 : w.heap.size < w2.heap.size := by omega
      have k2 : Below w.heap.size w w2 := next_below (by go_grown) hb2
      try simp only [List.length_nil] at hr2 hc2 ⊢
      go_wp2_with fail
      have bTY : Blk (w2.alloc (.cells #[.slice A2 0 c2', .int .i64 0] 24)) w.heap.size 24 #[.slice A n c, .int .i64 last] := (((Blk.new w _ _).below hb1 (by simp)).below hb2 z0_0_1).alloc _
      have r0Y := reads_alloc (o := .cells #[.slice A2 0 c2', .int .i64 0] 24) ((hr.below k2).more k2.size)
      have kY := k2.alloc k2.size (.cells #[.slice A2 0 c2', .int .i64 0] 24)
      clear c1 f1 c2 f2 hb1 hb2 hr2
      generalize (w2.alloc (.cells #[.slice A2 0 c2', .int .i64 0] 24)) = Y at *
      have lTY := bTY.lt
      have hS : ∀ x : World, Below Y.heap.size Y x → x.cell? ⟨w.heap.size, 0, none⟩ = some (.slice A n c) ∧ x.cell? ⟨w.heap.size, 1, none⟩ = some (.int .i64 last) := fun x hx => ⟨(bTY.below hx lTY).cell 0, (bTY.below hx lTY).cell 1⟩
      have kx0 : Below Y.heap.size Y Y := Below.refl _ _
      cases rr
      all_goals
        go_region_held3 (fun x => x.cell? ⟨w.heap.size, 0, none⟩ = some (.slice A n c) ∧ x.cell? ⟨w.heap.size, 1, none⟩ = some (.int .i64 last))
          (first | exact hS _ kx6 | exact hS _ kx5 | exact hS _ kx4 | exact hS _ kx3 | exact hS _ kx2 | exact hS _ kx1 | exact hS _ kx0 | go_keep)
          (first
            | (go_at_call 12; refine (alive_any _).mono ?_; rintro e x1 ⟨rfl, hx1⟩; have kx1 : Below Y.heap.size Y x1 := undrew1 hx1)
            | (go_at_call 13; refine (right_any A n c last ls _ (reads_below r0Y kx1) hm hc).mono ?_; rw [HRR.out]; rintro e x2 ⟨rfl, hx2⟩; have kx2 := kx1.trans (hx2.mono kx1.size))
            | (go_at_call 14; refine (refRight_any A n c last ls _ (reads_below r0Y kx2) hm hc).mono ?_; rw [HRR.out]; rintro e x3 ⟨rfl, hx3⟩; have kx3 := kx2.trans (hx3.mono kx2.size))
            | (go_at_call 16; refine (owners_any A n c last now ls _ (reads_below r0Y kx3) hm hc HZ.out HZM.out).mono ?_; rintro e x4 ⟨A4, c4, rfl, ho4, hx4⟩; have kx4 := kx3.trans (hx4.mono kx3.size))
            | (go_at_call 17; refine (refOwners_any A n c last now ls _ (reads_below r0Y kx4) hm hc HZ.out HZM.out).mono ?_; rintro e x5 ⟨A5, c5, rfl, ho5, hx5⟩; have kx5 := kx4.trans (hx5.mono kx4.size))
            | (go_at_call 15; refine (ints_same zs A4 A5 m c4 c5 _ (reads_below (Reads.of_own ho4) hx5) (Reads.of_own ho5) (by omega)).mono ?_; rintro e x6 ⟨rfl, hx6⟩; have kx6 := kx5.trans (hx6.mono kx5.size)))
        go_wp2
        go_ret
        exact ⟨by simp, kY.trans (kx6.mono kY.size)⟩
    · clear hg
      go_enter Try.func3, Try.ntmps3
      go_wp2_with fail
      refine (small_any _ _ _ _ _).mono ?_
      rw [HS.out]
      rintro e w1 ⟨rfl, hb1⟩
      obtain ⟨c1, f1⟩ := bcell hb1
      have y1 := hb1.size
      try simp at y1
      have z0_0_1 : w.heap.size < w1.heap.size := by omega
      have k1 : Below w.heap.size w w1 := next_below (by go_grown) hb1
      go_wp2_with fail
      refine (new_any g _).mono ?_
      rw [HN.out]
      rintro e w2 ⟨A2, c2', rfl, hr2, hc2, hf2, hb2⟩
      obtain ⟨c2, f2⟩ := bcell hb2
      have y2 := hb2.size
      try simp at y2
      have z0_0_2 : w.heap.size < w2.heap.size := by omega
      have k2 : Below w.heap.size w w2 := next_below (by go_grown) hb2
      try simp only [List.length_nil] at hr2 hc2 ⊢
      go_wp2_with fail
      have bTY : Blk (w2.alloc (.cells #[.slice A2 0 c2', .int .i64 0] 24)) w.heap.size 24 #[.slice A n c, .int .i64 last] := (((Blk.new w _ _).below hb1 (by simp)).below hb2 z0_0_1).alloc _
      have r0Y := reads_alloc (o := .cells #[.slice A2 0 c2', .int .i64 0] 24) ((hr.below k2).more k2.size)
      have kY := k2.alloc k2.size (.cells #[.slice A2 0 c2', .int .i64 0] 24)
      clear c1 f1 c2 f2 hb1 hb2 hr2
      generalize (w2.alloc (.cells #[.slice A2 0 c2', .int .i64 0] 24)) = Y at *
      have lTY := bTY.lt
      have hS : ∀ x : World, Below Y.heap.size Y x → x.cell? ⟨w.heap.size, 0, none⟩ = some (.slice A n c) ∧ x.cell? ⟨w.heap.size, 1, none⟩ = some (.int .i64 last) := fun x hx => ⟨(bTY.below hx lTY).cell 0, (bTY.below hx lTY).cell 1⟩
      have kx0 : Below Y.heap.size Y Y := Below.refl _ _
      cases rr
      all_goals
        go_region_held3 (fun x => x.cell? ⟨w.heap.size, 0, none⟩ = some (.slice A n c) ∧ x.cell? ⟨w.heap.size, 1, none⟩ = some (.int .i64 last))
          (first | exact hS _ kx6 | exact hS _ kx5 | exact hS _ kx4 | exact hS _ kx3 | exact hS _ kx2 | exact hS _ kx1 | exact hS _ kx0 | go_keep)
          (first
            | (go_at_call 12; refine (alive_any _).mono ?_; rintro e x1 ⟨rfl, hx1⟩; have kx1 : Below Y.heap.size Y x1 := undrew1 hx1)
            | (go_at_call 13; refine (right_any A n c last ls _ (reads_below r0Y kx1) hm hc).mono ?_; rw [HRR.out]; rintro e x2 ⟨rfl, hx2⟩; have kx2 := kx1.trans (hx2.mono kx1.size))
            | (go_at_call 14; refine (refRight_any A n c last ls _ (reads_below r0Y kx2) hm hc).mono ?_; rw [HRR.out]; rintro e x3 ⟨rfl, hx3⟩; have kx3 := kx2.trans (hx3.mono kx2.size))
            | (go_at_call 16; refine (owners_any A n c last now ls _ (reads_below r0Y kx3) hm hc HZ.out HZM.out).mono ?_; rintro e x4 ⟨A4, c4, rfl, ho4, hx4⟩; have kx4 := kx3.trans (hx4.mono kx3.size))
            | (go_at_call 17; refine (refOwners_any A n c last now ls _ (reads_below r0Y kx4) hm hc HZ.out HZM.out).mono ?_; rintro e x5 ⟨A5, c5, rfl, ho5, hx5⟩; have kx5 := kx4.trans (hx5.mono kx4.size))
            | (go_at_call 15; refine (ints_same zs A4 A5 m c4 c5 _ (reads_below (Reads.of_own ho4) hx5) (Reads.of_own ho5) (by omega)).mono ?_; rintro e x6 ⟨rfl, hx6⟩; have kx6 := kx5.trans (hx6.mono kx5.size)))
        go_wp2
        go_ret
        exact ⟨by simp, kY.trans (kx6.mono kY.size)⟩

  · obtain ⟨p, rfl⟩ : ∃ p : Nat, g = p := ⟨g.toNat, by omega⟩
    have hN : newZ p = ((freeL p, 0), 0) := by unfold newZ; rw [if_pos hg, Int.toNat_natCast]
    have HN := Lib.hid hN
    have hp32 : p ≤ 32 := by omega
    have hg1 := hg.1
    have hg2 := hg.2
    clear hN hg
    have HFL := Lib.hid (freeL_length p)
    obtain ⟨F, hF⟩ : ∃ F, (flat (freeL p)).toArray = F := ⟨_, rfl⟩
    have hmk : ∀ w : World, (Instr.makeSlice 22 (.int .i64 (p : Int)) (.int .i64 (p : Int))).run Try.prog w = .ok (.slice (some ⟨w.heap.size, 0, none⟩) p p) (w.alloc (.cells F 40)) := fun w => by
      have h := run_make (P := Try.prog) w 22 40 i0 _ Try.underlying22 hi hz0 .i64 .i64 p p (by omega) (by omega) (by rw [hz2]; omega) (by omega)
      rw [Int.toNat_natCast, hz1, made_flat, hF] at h
      exact h
    have hRF : ∀ w : World, Reads (w.alloc (.cells F 40)) (w.alloc (.cells F 40)).heap.size 3 (some ⟨w.heap.size, 0, none⟩) p (flat (freeL p)) := fun w => by
      rw [← hF]
      exact reads_new w _ _ p (freeL_length p)
    have HRF := Lib.hid hRF
    clear hRF hF
    go_enter Try.func3, Try.ntmps3
    go_wp2_with fail
    refine (small_any _ _ _ _ _).mono ?_
    rw [HS.out]
    rintro e w1 ⟨rfl, hb1⟩
    obtain ⟨c1, f1⟩ := bcell hb1
    have y1 := hb1.size
    try simp at y1
    have z0_0_1 : w.heap.size < w1.heap.size := by omega
    have k1 : Below w.heap.size w w1 := next_below (by go_grown) hb1
    go_wp2_with fail
    refine (new_any p _).mono ?_
    rw [HN.out]
    rintro e w2 ⟨A2, c2', rfl, hr2, hc2, hf2, hb2⟩
    obtain ⟨c2, f2⟩ := bcell hb2
    have y2 := hb2.size
    try simp at y2
    have z0_0_2 : w.heap.size < w2.heap.size := by omega
    have k2 : Below w.heap.size w w2 := next_below (by go_grown) hb2
    try simp only at hr2 hc2
    rw [HFL.out] at hr2 hc2 ⊢
    go_wp2_with fail
    have bTV : Blk (w2.alloc (.cells #[.slice A2 p c2', .int .i64 0] 24)) w.heap.size 24 #[.slice A n c, .int .i64 last] := (((Blk.new w _ _).below hb1 (by simp)).below hb2 z0_0_1).alloc _
    have r0V := reads_alloc (o := .cells #[.slice A2 p c2', .int .i64 0] 24) ((hr.below k2).more k2.size)
    have kV := k2.alloc k2.size (.cells #[.slice A2 p c2', .int .i64 0] 24)
    have bAV := Blk.new w2 24 #[.slice A2 p c2', .int .i64 0]
    have r2V := reads_alloc (o := .cells #[.slice A2 p c2', .int .i64 0] 24) hr2
    clear c1 f1 c2 f2 hb1 hb2 hr2
    generalize (w2.alloc (.cells #[.slice A2 p c2', .int .i64 0] 24)) = V at *
    generalize w2.heap.size = ba at bAV ⊢
    have hSV : ∀ x : World, Below V.heap.size V x → x.cell? ⟨ba, 0, none⟩ = some (.slice A2 p c2') ∧ x.cell? ⟨ba, 1, none⟩ = some (.int .i64 0) := fun x hx => ⟨(bAV.below hx bAV.lt).cell 0, (bAV.below hx bAV.lt).cell 1⟩
    have kv0 : Below V.heap.size V V := Below.refl _ _
    have kvF : Below V.heap.size V (V.alloc (.cells F 40)) := (Below.refl _ _).alloc (Nat.le_refl _) _
    go_region_held3 (fun x => x.cell? ⟨ba, 0, none⟩ = some (.slice A2 p c2') ∧ x.cell? ⟨ba, 1, none⟩ = some (.int .i64 0))
      (first | exact hSV _ kv1 | exact hSV _ kvF | exact hSV _ kv0 | go_keep)
      (first
        | (go_at_call 11; refine (like_same 0 (freeL p) A2 (some ⟨V.heap.size, 0, none⟩) p c2' p _ ?_ ?_ (by omega)).mono ?_; (first | exact reads_alloc r2V); (first | exact HRF.out V); rintro e Y ⟨rfl, hv1⟩; have kv1 : Below V.heap.size V Y := kvF.trans ((undrew1 hv1).mono kvF.size)))
    have bTY := bTV.below kv1 bTV.lt
    have r0Y := reads_below r0V kv1
    have kY := kV.trans (kv1.mono kV.size)
    clear bTV bAV r0V r2V hSV kv0 kvF
    go_wp2_with fail
    have lTY := bTY.lt
    have hS : ∀ x : World, Below Y.heap.size Y x → x.cell? ⟨w.heap.size, 0, none⟩ = some (.slice A n c) ∧ x.cell? ⟨w.heap.size, 1, none⟩ = some (.int .i64 last) := fun x hx => ⟨(bTY.below hx lTY).cell 0, (bTY.below hx lTY).cell 1⟩
    have kx0 : Below Y.heap.size Y Y := Below.refl _ _
    cases rr
    all_goals
      go_region_held3 (fun x => x.cell? ⟨w.heap.size, 0, none⟩ = some (.slice A n c) ∧ x.cell? ⟨w.heap.size, 1, none⟩ = some (.int .i64 last))
        (first | exact hS _ kx6 | exact hS _ kx5 | exact hS _ kx4 | exact hS _ kx3 | exact hS _ kx2 | exact hS _ kx1 | exact hS _ kx0 | go_keep)
        (first
          | (go_at_call 12; refine (alive_any _).mono ?_; rintro e x1 ⟨rfl, hx1⟩; have kx1 : Below Y.heap.size Y x1 := undrew1 hx1)
          | (go_at_call 13; refine (right_any A n c last ls _ (reads_below r0Y kx1) hm hc).mono ?_; rw [HRR.out]; rintro e x2 ⟨rfl, hx2⟩; have kx2 := kx1.trans (hx2.mono kx1.size))
          | (go_at_call 14; refine (refRight_any A n c last ls _ (reads_below r0Y kx2) hm hc).mono ?_; rw [HRR.out]; rintro e x3 ⟨rfl, hx3⟩; have kx3 := kx2.trans (hx3.mono kx2.size))
          | (go_at_call 16; refine (owners_any A n c last now ls _ (reads_below r0Y kx3) hm hc HZ.out HZM.out).mono ?_; rintro e x4 ⟨A4, c4, rfl, ho4, hx4⟩; have kx4 := kx3.trans (hx4.mono kx3.size))
          | (go_at_call 17; refine (refOwners_any A n c last now ls _ (reads_below r0Y kx4) hm hc HZ.out HZM.out).mono ?_; rintro e x5 ⟨A5, c5, rfl, ho5, hx5⟩; have kx5 := kx4.trans (hx5.mono kx4.size))
          | (go_at_call 15; refine (ints_same zs A4 A5 m c4 c5 _ (reads_below (Reads.of_own ho4) hx5) (Reads.of_own ho5) (by omega)).mono ?_; rintro e x6 ⟨rfl, hx6⟩; have kx6 := kx5.trans (hx6.mono kx5.size)))
      go_wp2
      go_ret
      exact ⟨by simp, kY.trans (kx6.mono kY.size)⟩

end Go.Proofs.Ytinccckpohaoiaa
