/- The walk of chapter 16's law LeaseTurns. -/
import Derived.Test.YtinccckpohaoiaaTurnP
namespace Go.Proofs.Ytinccckpohaoiaa
open Go.RowKit
set_option linter.unusedVariables false
set_option linter.unusedSimpArgs false

theorem undrew1 {W x : World} (h : Below W.drew.heap.size W.drew x) : Below W.heap.size W x := ⟨h.os, h.tape, h.output, h.size, h.block⟩

set_option maxRecDepth 100000 in
set_option maxHeartbeats 4000000 in
theorem walkTurns (groups group a b now long : Int) (w : World) (hg : -9223372036854775808 ≤ groups ∧ groups ≤ 9223372036854775807) (hgr : -9223372036854775808 ≤ group ∧ group ≤ 9223372036854775807) :
    Calls Try.prog 8 #[.int .i64 groups, .int .i64 group, .int .i64 a, .int .i64 b, .int .i64 now, .int .i64 long] w fun e w' => e = .returned (.bool true) ∧ Below w.heap.size w w' := by
  have hmx : ∀ x y : Int, (if x < y then y else x) = max x y := fun x y => by split <;> omega
  have hmn : ∀ x y : Int, (if x < y then x else y) = min y x := fun x y => by split <;> omega
  obtain ⟨p, hP, hp⟩ : ∃ p : Nat, min (max groups 1) 32 = p ∧ 1 ≤ p ∧ p ≤ 32 := ⟨(min (max groups 1) 32).toNat, by omega, by omega, by omega⟩
  obtain ⟨AA, hAA, ha⟩ : ∃ v : Int, min (max a 1) 99 = v ∧ 1 ≤ v ∧ v ≤ 99 := ⟨_, rfl, by omega, by omega⟩
  obtain ⟨BB, hBB, hb⟩ : ∃ v : Int, min (max b 1) 99 = v ∧ 1 ≤ v ∧ v ≤ 99 := ⟨_, rfl, by omega, by omega⟩
  obtain ⟨nw, hNW, hn⟩ : ∃ v : Int, min (max now 0) 1073741824 = v ∧ 0 ≤ v ∧ v ≤ 1073741824 := ⟨_, rfl, by omega, by omega⟩
  obtain ⟨lg, hLG, hl⟩ : ∃ v : Int, min (max long 1) 1073741824 = v ∧ 1 ≤ v ∧ v ≤ 1073741824 := ⟨_, rfl, by omega, by omega⟩
  have hp1 : (1 : Int) ≤ (p : Int) := by omega
  have tg1 := Int.lt_tmod_of_pos group (show (0 : Int) < p by omega)
  have tg0 := Int.tmod_lt_of_pos group (show (0 : Int) < p by omega)
  have wg : IntKind.i64.wrap (group.tmod (p : Int) + (p : Int)) = group.tmod (p : Int) + (p : Int) := IntWalk.i64_in _ (by omega)
  obtain ⟨G, eG, hG⟩ : ∃ G : Nat, (group.tmod (p : Int) + (p : Int)).tmod (p : Int) = G ∧ G < p := by
    refine ⟨((group.tmod (p : Int) + (p : Int)).tmod (p : Int)).toNat, ?_, ?_⟩
    · rw [Int.tmod_eq_emod_of_nonneg (by omega)]
      have := Int.emod_nonneg (group.tmod (p : Int) + (p : Int)) (b := (p : Int)) (by omega)
      omega
    · have := Int.tmod_lt_of_pos (group.tmod (p : Int) + (p : Int)) (show (0 : Int) < p by omega)
      have h2 : 0 ≤ (group.tmod (p : Int) + (p : Int)).tmod (p : Int) := Int.tmod_nonneg _ (by omega)
      omega
  clear tg0 tg1
  have hpz : ((p : Int) == 0) = false := by simp; omega
  have HN := Lib.hid (show newZ p = ((freeL p, 0), 0) from by unfold newZ; rw [if_pos (by omega), Int.toNat_natCast])
  have HFL := Lib.hid (freeL_length p)
  have H1 := Lib.hid (turn_first hp hG ha hn hl).1
  have HF := Lib.hid (turn_fence hp hG ha hn hl)
  have HB1 := Lib.hid (turn_owners hp hG ha hn hl (nw + lg - 1))
  have HB2 := Lib.hid (turn_owners hp hG ha hn hl (nw + lg))
  have HL1 := Lib.hid (turn_own_len (p := p) (G := G) (a := AA) (nw := nw) (lg := lg) (nw + lg - 1))
  have HL2 := Lib.hid (turn_own_len (p := p) (G := G) (a := AA) (nw := nw) (lg := lg) (nw + lg))
  have HV1 := Lib.hid (turn_before (a := AA) hG ha hn hl)
  have HV2 := Lib.hid (turn_behind (a := AA) hG hn hl)
  have H2 := Lib.hid (turn_refused hp hG ha hb hn hl)
  have H3 := Lib.hid (turn_next hp hG ha hb hn hl)
  have H4 := Lib.hid (turn_give hp hG ha hn hl)
  have H5 := Lib.hid (turn_last hp hG ha hb hn hl)
  have HF2 := Lib.hid (turn_f2 (a := AA) (b := BB) (nw := nw) (lg := lg) hG)
  have HF3 := Lib.hid (turn_f3 (a := AA) (nw := nw) (lg := lg) hG)
  have HLM := Lib.hid (turnM_len (p := p) (G := G) (a := AA) (nw := nw) (lg := lg))
  have HL3 := Lib.hid (show ((turnM p G AA nw lg).set G ⟨BB, 2, addZ (nw + lg) lg⟩).length = p from by rw [List.length_set]; exact HLM.out)
  have HL4 := Lib.hid (show ((turnM p G AA nw lg).set G ⟨0, 1, 0⟩).length = p from by rw [List.length_set]; exact HLM.out)
  have HL5 := Lib.hid (show ((turnM p G AA nw lg).set G ⟨BB, 2, addZ nw lg⟩).length = p from by rw [List.length_set]; exact HLM.out)
  generalize hM : turnM p G AA nw lg = M at *
  generalize hM3 : M.set G ⟨BB, 2, addZ (nw + lg) lg⟩ = M3 at *
  generalize hM4 : M.set G ⟨0, 1, 0⟩ = M4 at *
  generalize hM5 : M.set G ⟨BB, 2, addZ nw lg⟩ = M5 at *
  generalize hO1 : ownL (nw + lg - 1) M = O1 at *
  generalize hO2 : ownL (nw + lg) M = O2 at *
  clear hM hM3 hM4 hM5 hO1 hO2
  have hp2 : p ≤ 32 := hp.2
  go_enter Try.func8, Try.ntmps8
  go_wp2_with fail
  refine (new_any p _).mono ?_
  rw [HN.out]
  rintro e w1 ⟨A1, c1', rfl, hr1, hc1, hf1, hb1⟩
  obtain ⟨c1, f1⟩ := bcell hb1
  have y1 := hb1.size
  try simp at y1
  have k1 : Below w.heap.size w w1 := next_below (by go_grown) hb1

  try simp only at hr1 hc1
  rw [HFL.out] at hr1 hc1 ⊢
  go_wp2_with fail
  refine (grant_any A1 p c1' 0 G AA nw lg (freeL p) _ (reads_alloc hr1) (by omega) hc1).mono ?_
  rw [H1.out]
  rintro e w2 ⟨A2, c2', rfl, hr2, hc2, hf2, hb2⟩
  obtain ⟨c2, f2⟩ := bcell hb2
  have y2 := hb2.size
  try simp at y2
  have z1_0_2 : w1.heap.size < w2.heap.size := by omega
  have k2 : Below w.heap.size w w2 := next_below (by go_grown) hb2
  try simp only at hr2 hc2
  rw [HLM.out] at hr2 hc2 ⊢
  have bT : Blk w2 w1.heap.size 24 #[.slice A1 p c1', .int .i64 0] := (Blk.new w1 24 #[.slice A1 p c1', .int .i64 0]).below hb2 (by simp)
  have u0 : w2.cell? ⟨w1.heap.size, 0, none⟩ = some (.slice A1 p c1') := bT.cell 0
  have u1 : w2.cell? ⟨w1.heap.size, 1, none⟩ = some (.int .i64 0) := bT.cell 1
  have fT := bT.frozen
  have lT := bT.lt
  clear c1 f1 c2 f2
  go_wp2_with fail
  have hne2 := fresh_of (w := w) (W := w1.alloc (.cells #[.slice A1 p c1', .int .i64 0] 24)) (b := w1.heap.size) hf2 (by simp)
  have bV : Blk ((w2.setCell ⟨w1.heap.size, 0, none⟩ (.slice A2 p c2')).setCell ⟨w1.heap.size, 1, none⟩ (.int .i64 1)) w1.heap.size 24 #[.slice A2 p c2', .int .i64 1] := by simpa using (bT.set_ 0 (.slice A2 p c2')).set_ 1 (.int .i64 1)
  have rV : Reads ((w2.setCell ⟨w1.heap.size, 0, none⟩ (.slice A2 p c2')).setCell ⟨w1.heap.size, 1, none⟩ (.int .i64 1)) ((w2.setCell ⟨w1.heap.size, 0, none⟩ (.slice A2 p c2')).setCell ⟨w1.heap.size, 1, none⟩ (.int .i64 1)).heap.size 3 A2 p (flat M) := (reads_far' (q := ⟨w1.heap.size, 1, none⟩) (reads_far' (q := ⟨w1.heap.size, 0, none⟩) hr2 hne2 _) hne2 _).more (by simp)
  have kV : Below w.heap.size w ((w2.setCell ⟨w1.heap.size, 0, none⟩ (.slice A2 p c2')).setCell ⟨w1.heap.size, 1, none⟩ (.int .i64 1)) := (k2.setCell (p := ⟨w1.heap.size, 0, none⟩) (by simpa using k1.size) _).setCell (p := ⟨w1.heap.size, 1, none⟩) (by simpa using k1.size) _
  clear bT u0 u1 fT hr1 hr2 hb1 hb2
  generalize ((w2.setCell ⟨w1.heap.size, 0, none⟩ (.slice A2 p c2')).setCell ⟨w1.heap.size, 1, none⟩ (.int .i64 1)) = V at *
  generalize w1.heap.size = bt at bV ⊢
  have lV := bV.lt
  have hS : ∀ x : World, Below V.heap.size V x → x.cell? ⟨bt, 0, none⟩ = some (.slice A2 p c2') ∧ x.cell? ⟨bt, 1, none⟩ = some (.int .i64 1) := fun x hx => ⟨(bV.below hx lV).cell 0, (bV.below hx lV).cell 1⟩
  have kx0 : Below V.heap.size V V := Below.refl _ _
  have hw1 : IntKind.i64.wrap (nw + lg) = nw + lg := IntWalk.i64_in _ (by omega)
  have hw2 : IntKind.i64.wrap (nw + lg - 1) = nw + lg - 1 := IntWalk.i64_in _ (by omega)
  go_region_held3 (fun x => x.cell? ⟨bt, 0, none⟩ = some (.slice A2 p c2') ∧ x.cell? ⟨bt, 1, none⟩ = some (.int .i64 1))
    (first | exact hS _ kx2 | exact hS _ kx1 | exact hS _ kx0 | go_keep)
    (first
      | (go_at_call 16; have q := kx1; clear q; refine (owners_any A2 p c2' 1 (nw + lg) M _ (reads_below rV kx1) (by omega) hc2 HB2.out HL2.out).mono ?_; rintro e x2 ⟨A4, c4, rfl, ho4, hx2⟩; have kx2 := kx1.trans (hx2.mono kx1.size))
      | (go_at_call 16; refine (owners_any A2 p c2' 1 (nw + lg - 1) M _ ?_ (by omega) hc2 HB1.out HL1.out).mono ?_; (first | exact rV); rintro e x1 ⟨A3, c3, rfl, ho3, hx1⟩; have kx1 : Below V.heap.size V x1 := undrew1 hx1))
  obtain ⟨s20, s21⟩ := hS _ kx2
  go_wp2_with fail
  refine (fenced_any A2 p c2' 1 G 1 M _ (reads_below rV kx2) (by omega) hc2).mono ?_
  rw [HF.out]
  rintro e x3 ⟨rfl, hx3⟩
  have kx3 := kx2.trans (hx3.mono kx2.size)
  obtain ⟨s30, s31⟩ := hS _ kx3
  obtain ⟨d3, hl3, rfl, e3⟩ := ints_at (reads_below (reads_below (Reads.of_own ho3) hx2) hx3) hG
  obtain ⟨d4, hl4, rfl, e4⟩ := ints_at (reads_below (Reads.of_own ho4) hx3) hG
  rw [HV1.out hl3] at e3
  rw [HV2.out hl4] at e4
  clear s20 s21
  go_wp2_with fail
  refine (grant_any A2 p c2' 1 G BB (nw + lg - 1) lg M _ (reads_below rV kx3) (by omega) hc2).mono ?_
  rw [H2.out]
  rintro e x4 ⟨A6, c6, rfl, hr6, hc6, hf6, hx4⟩
  have kx4 := kx3.trans (hx4.mono kx3.size)
  obtain ⟨s40, s41⟩ := hS _ kx4
  have l4 := Nat.lt_of_lt_of_le lV kx4.size
  try simp only [List.length_nil] at hr6 hc6 ⊢
  clear s30 s31
  go_wp2_with fail
  have kx4' := kx4.alloc kx4.size (.cells #[.slice A6 0 c6, .int .i64 0] 24)
  refine (grant_any A2 p c2' 1 G BB (nw + lg) lg M _ (reads_below rV kx4') (by omega) hc2).mono ?_
  rw [H3.out]
  rintro e x5 ⟨A7, c7, rfl, hr7, hc7, hf7, hx5⟩
  have kx5 := kx4'.trans (hx5.mono kx4'.size)
  obtain ⟨s50, s51⟩ := hS _ kx5
  have l5 := Nat.lt_of_lt_of_le lV kx5.size
  try simp only at hr7 hc7
  rw [HL3.out] at hr7 hc7 ⊢
  clear s40 s41
  go_wp2_with fail
  have bU := Blk.new x5 24 #[.slice A7 p c7, .int .i64 2]
  have kx5' := kx5.alloc kx5.size (.cells #[.slice A7 p c7, .int .i64 2] 24)
  have rU := reads_alloc (o := .cells #[.slice A7 p c7, .int .i64 2] 24) hr7
  refine (give_any A2 p c2' 1 G 1 M _ (reads_below rV kx5') (by omega) hc2).mono ?_
  rw [H4.out]
  rintro e x6 ⟨A8, c8, rfl, hr8, hc8, hf8, hx6⟩
  have kx6 := kx5'.trans (hx6.mono kx5'.size)
  try simp only at hr8 hc8
  rw [HL4.out] at hr8 hc8 ⊢
  have bU6 := bU.below hx6 bU.lt
  have rU6 := reads_below rU hx6
  clear s50 s51
  have lU6 := bU6.lt
  go_wp2_with fail
  have bW := Blk.new x6 24 #[.slice A8 p c8, .int .i64 1]
  have rW := reads_alloc (o := .cells #[.slice A8 p c8, .int .i64 1] 24) hr8
  have kx6' := kx6.alloc kx6.size (.cells #[.slice A8 p c8, .int .i64 1] 24)
  refine (grant_any A8 p c8 1 G BB nw lg M4 _ rW (by omega) hc8).mono ?_
  rw [H5.out]
  rintro e x7 ⟨A9, c9, rfl, hr9, hc9, hf9, hx7⟩
  have kx7 := kx6'.trans (hx7.mono kx6'.size)
  have bU7 := (bU6.alloc (.cells #[.slice A8 p c8, .int .i64 1] 24)).below hx7 (by simp; omega)
  have rU7 := reads_below (reads_alloc (o := .cells #[.slice A8 p c8, .int .i64 1] 24) rU6) hx7
  have bW7 := bW.below hx7 (by simp)
  have rW7 := reads_below rW hx7
  try simp only at hr9 hc9
  rw [HL5.out] at hr9 hc9 ⊢
  have lU7 := bU7.lt
  have lW7 := bW7.lt
  go_wp2_with fail
  have kx7' := kx7.alloc kx7.size (.cells #[.slice A9 p c9, .int .i64 2] 24)
  refine (alive_any _).mono ?_
  rintro e x8 ⟨rfl, hx8⟩
  have kx8 := kx7'.trans (hx8.mono kx7'.size)
  have bU8 := (bU7.alloc (.cells #[.slice A9 p c9, .int .i64 2] 24)).below hx8 (by simp; omega)
  have rU8 := reads_below (reads_alloc (o := .cells #[.slice A9 p c9, .int .i64 2] 24) rU7) hx8
  have bW8 := (bW7.alloc (.cells #[.slice A9 p c9, .int .i64 2] 24)).below hx8 (by simp; omega)
  have rW8 := reads_below (reads_alloc (o := .cells #[.slice A9 p c9, .int .i64 2] 24) rW7) hx8
  have u80 : x8.cell? ⟨x5.heap.size, 0, none⟩ = some (.slice A7 p c7) := bU8.cell 0
  have u81 : x8.cell? ⟨x5.heap.size, 1, none⟩ = some (.int .i64 2) := bU8.cell 1
  have v80 : x8.cell? ⟨x6.heap.size, 0, none⟩ = some (.slice A8 p c8) := bW8.cell 0
  have v81 : x8.cell? ⟨x6.heap.size, 1, none⟩ = some (.int .i64 1) := bW8.cell 1
  go_wp2_with fail
  refine (fenced_any A7 p c7 2 G 1 M3 _ rU8 (by omega) hc7).mono ?_
  rw [HF2.out]
  rintro e x9 ⟨rfl, hx9⟩
  have kx9 := kx8.trans (hx9.mono kx8.size)
  have bW9 := bW8.below hx9 bW8.lt
  have rW9 := reads_below rW8 hx9
  have v90 : x9.cell? ⟨x6.heap.size, 0, none⟩ = some (.slice A8 p c8) := bW9.cell 0
  have v91 : x9.cell? ⟨x6.heap.size, 1, none⟩ = some (.int .i64 1) := bW9.cell 1
  clear u80 u81 v80 v81
  go_wp2_with fail
  refine (fenced_any A8 p c8 1 G 1 M4 _ rW9 (by omega) hc8).mono ?_
  rw [HF3.out]
  rintro e x10 ⟨rfl, hx10⟩
  have kx10 := kx9.trans (hx10.mono kx9.size)
  go_wp2
  go_ret
  exact ⟨by simp, kV.trans (kx10.mono kV.size)⟩

end Go.Proofs.Ytinccckpohaoiaa
