/- Walk of the play's do: time goes on; a packet of another epoch is told. -/
import Derived.Test.YtplodggiifachaaPly4
import Derived.Test.YtplodggiifachaaPlyP
namespace Go.Proofs.Ytplodggiifachaa
open Go.RowKit
set_option linter.unusedVariables false
set_option linter.unusedSimpArgs false

theorem sent_len (s : Snd) (u : Bool) : (if u = true then s.bodies.length else 0) = (if u = true then pkL s.ep s.base s.bodies else []).length := by cases u <;> simp [pkL_length]
theorem sent_cells (s : Snd) (u : Bool) : (if u = true then pkCells s.ep s.base s.bodies else []) = pks (if u = true then pkL s.ep s.base s.bodies else []) := by cases u <;> simp [pkL_cells, pks]
theorem sent_le (s : Snd) (u : Bool) : (if u = true then pkL s.ep s.base s.bodies else []).length ≤ s.bodies.length := by cases u <;> simp [pkL_length]

set_option maxRecDepth 100000 in
set_option maxHeartbeats 6000000 in
theorem do5_full (pb : Nat) (p : Ply) (z : Int) (b : ByteArray) (w : World) (hl : p.way.length ≤ 100000 ∧ p.got.length ≤ 100000 ∧ p.wants.length ≤ 100000) (hM : PlyM pb p w) (hw : 100 ≤ p.way.length) (hb8 : p.s.bodies.length ≤ 1000) (hs : ∀ y ∈ p.s.bodies, y.size ≤ maxLen) :
    Calls Try.prog 23 #[.pointer (some ⟨pb, 0, none⟩), .agg #[.int .i64 5, .int .i64 z, .string b]] w (PlyPost pb (tickP p) w) := by
  have hM1 := hM.alloc (.cells #[.int .i64 5, .int .i64 z, .string b] 55)
  obtain ⟨A, c, vw, vp, vg, vn, hQ, hc, hR⟩ := hM
  obtain ⟨Aw, cw, rfl⟩ := own_succ' hR.ow
  obtain ⟨An, cn, rfl⟩ := own_succ' hR.on
  have lq := hQ.lt
  have p6 : w.cell? ⟨pb, 6, none⟩ = some (.slice Aw p.way.length cw) := hQ.cell 6
  have kA : Below pb w (w.alloc (.cells #[.int .i64 5, .int .i64 z, .string b] 55)) := (Below.refl _ w).alloc (by omega) _
  have hwn : decide (0 < p.way.length) = false ∨ 0 < p.way.length := by
    rcases Nat.eq_zero_or_pos p.way.length with h | h
    · exact .inl (by rw [h]; rfl)
    · exact .inr h
  have p0 : w.cell? ⟨pb, 0, none⟩ = some (.int .i64 p.s.ep) := hQ.cell 0
  have p1 : w.cell? ⟨pb, 1, none⟩ = some (.int .i64 p.s.base) := hQ.cell 1
  have p2 : w.cell? ⟨pb, 2, none⟩ = some (.slice A p.s.bodies.length c) := hQ.cell 2
  have p3 : w.cell? ⟨pb, 3, none⟩ = some (.int .i64 p.s.timer) := hQ.cell 3
  obtain ⟨t, u, hT⟩ : ∃ t u, tickT p.s = (t, u) := ⟨_, _, rfl⟩
  obtain ⟨l, hll⟩ : ∃ l, (if u = true then pkL p.s.ep p.s.base p.s.bodies else []) = l := ⟨_, rfl⟩
  have hlb := sent_le p.s u
  rw [hll] at hlb
  have hp : tickP p = { p with s := { p.s with timer := t } } := by unfold tickP; rw [hT]; simp only; rw [if_neg (by omega)]
  rw [hp]
  have HT := Lib.hid hT
  have HL := Lib.hid hll
  clear hT hll hp
  have hwf : decide ((p.way.length : Int) < 100) = false := by rw [decide_eq_false_iff_not]; omega
  clear hw
  have hR1 := hR.alloc (.cells #[.int .i64 5, .int .i64 z, .string b] 55)
  have bQ1 := hQ.alloc (.cells #[.int .i64 5, .int .i64 z, .string b] 55)
  have hr1 := hR1.rd
  
  go_enter Try.func23, Try.ntmps23
  rcases hwn with hn0 | hn
  · go_wp2_with fail
    have hVs : w.heap.size + 1 = (w.alloc (.cells #[.int .i64 5, .int .i64 z, .string b] 55)).heap.size := by simp
    generalize w.alloc (.cells #[.int .i64 5, .int .i64 z, .string b] 55) = V at *
    refine (tick_any p.s.ep p.s.base p.s.timer p.s.bodies A p.s.bodies.length c _ hr1 (by omega) hs).mono ?_
    intro e w2 hpost
    have hpost : TickPost p.s.ep p.s.base p.s.bodies A p.s.bodies.length c (t, u) V e w2 := by rw [← HT.out]; exact hpost
    obtain ⟨A2, c2, he, ho2, hb2⟩ := hpost
    simp only at he ho2
    rw [sent_len, HL.out] at he ho2
    rw [sent_cells, HL.out] at ho2
    subst he
    have lQ1 := bQ1.lt
    have bQ2 := bQ1.below hb2 lQ1
    have hR2 := hR1.below hb2
    have k2 : Below pb w w2 := kA.trans (hb2.mono (by omega))
    have p0 : w2.cell? ⟨pb, 0, none⟩ = some (.int .i64 p.s.ep) := bQ2.cell 0
    have p1 : w2.cell? ⟨pb, 1, none⟩ = some (.int .i64 p.s.base) := bQ2.cell 1
    have p2 : w2.cell? ⟨pb, 2, none⟩ = some (.slice A p.s.bodies.length c) := bQ2.cell 2
    have p3 : w2.cell? ⟨pb, 3, none⟩ = some (.int .i64 p.s.timer) := bQ2.cell 3
    have p6 : w2.cell? ⟨pb, 6, none⟩ = some (.slice Aw p.way.length cw) := bQ2.cell 6
    have fQ := bQ2.frozen
    have lQ := bQ2.lt
    have hs2 := hb2.size
    have bQ3 : Blk (((((w2.setCell ⟨pb, 0, none⟩ (.int .i64 p.s.ep)).setCell ⟨pb, 1, none⟩ (.int .i64 p.s.base)).setCell ⟨pb, 2, none⟩ (.slice A p.s.bodies.length c)).setCell ⟨pb, 3, none⟩ (.int .i64 t)).alloc (.cells #[.int .i64 p.s.ep, .int .i64 p.s.base, .slice A p.s.bodies.length c, .int .i64 t] 31)) pb 53 (plyC { p with s := { p.s with timer := t } } A c (.slice Aw p.way.length cw) vp vg (.slice An p.wants.length cn)) := by simpa [plyC] using ((((bQ2.set_ 0 (.int .i64 p.s.ep)).set_ 1 (.int .i64 p.s.base)).set_ 2 (.slice A p.s.bodies.length c)).set_ 3 (.int .i64 t)).alloc (.cells #[.int .i64 p.s.ep, .int .i64 p.s.base, .slice A p.s.bodies.length c, .int .i64 t] 31)
    have hR3 := ((((hR2.set 0 (.int .i64 p.s.ep)).set 1 (.int .i64 p.s.base)).set 2 (.slice A p.s.bodies.length c)).set 3 (.int .i64 t)).alloc (.cells #[.int .i64 p.s.ep, .int .i64 p.s.base, .slice A p.s.bodies.length c, .int .i64 t] 31)
    have hR4 := hR3.new_s (s := { p.s with timer := t }) hR3.rd hR3.far
    have k4 : Below pb w (((((w2.setCell ⟨pb, 0, none⟩ (.int .i64 p.s.ep)).setCell ⟨pb, 1, none⟩ (.int .i64 p.s.base)).setCell ⟨pb, 2, none⟩ (.slice A p.s.bodies.length c)).setCell ⟨pb, 3, none⟩ (.int .i64 t)).alloc (.cells #[.int .i64 p.s.ep, .int .i64 p.s.base, .slice A p.s.bodies.length c, .int .i64 t] 31)) := ((((k2.setCell (p := ⟨pb, 0, none⟩) (Nat.le_refl _) (.int .i64 p.s.ep)).setCell (p := ⟨pb, 1, none⟩) (Nat.le_refl _) (.int .i64 p.s.base)).setCell (p := ⟨pb, 2, none⟩) (Nat.le_refl _) (.slice A p.s.bodies.length c)).setCell (p := ⟨pb, 3, none⟩) (Nat.le_refl _) (.int .i64 t)).alloc (by simp; omega) (.cells #[.int .i64 p.s.ep, .int .i64 p.s.base, .slice A p.s.bodies.length c, .int .i64 t] 31)
    have hs4 : w.heap.size ≤ (((((w2.setCell ⟨pb, 0, none⟩ (.int .i64 p.s.ep)).setCell ⟨pb, 1, none⟩ (.int .i64 p.s.base)).setCell ⟨pb, 2, none⟩ (.slice A p.s.bodies.length c)).setCell ⟨pb, 3, none⟩ (.int .i64 t)).alloc (.cells #[.int .i64 p.s.ep, .int .i64 p.s.base, .slice A p.s.bodies.length c, .int .i64 t] 31)).heap.size := by simp; omega
    clear bQ1 hR1 hM1 kA hQ
    go_wp2_with fail
    go_end0
    exact ⟨rfl, ⟨A, c, _, vp, vg, _, bQ3, hc, hR4⟩, k4, hs4⟩
  · obtain ⟨e1, e2, e3⟩ := which_at z hn (by omega)
    have hn0 : (0 : Int) < (p.way.length : Int) := by omega
    have hnz : ((p.way.length : Int) == 0) = false := by rw [beq_eq_false_iff_ne]; omega
    go_wp2_with fail
    have hVs : w.heap.size + 1 = (w.alloc (.cells #[.int .i64 5, .int .i64 z, .string b] 55)).heap.size := by simp
    generalize w.alloc (.cells #[.int .i64 5, .int .i64 z, .string b] 55) = V at *
    refine (tick_any p.s.ep p.s.base p.s.timer p.s.bodies A p.s.bodies.length c _ hr1 (by omega) hs).mono ?_
    intro e w2 hpost
    have hpost : TickPost p.s.ep p.s.base p.s.bodies A p.s.bodies.length c (t, u) V e w2 := by rw [← HT.out]; exact hpost
    obtain ⟨A2, c2, he, ho2, hb2⟩ := hpost
    simp only at he ho2
    rw [sent_len, HL.out] at he ho2
    rw [sent_cells, HL.out] at ho2
    subst he
    have lQ1 := bQ1.lt
    have bQ2 := bQ1.below hb2 lQ1
    have hR2 := hR1.below hb2
    have k2 : Below pb w w2 := kA.trans (hb2.mono (by omega))
    have p0 : w2.cell? ⟨pb, 0, none⟩ = some (.int .i64 p.s.ep) := bQ2.cell 0
    have p1 : w2.cell? ⟨pb, 1, none⟩ = some (.int .i64 p.s.base) := bQ2.cell 1
    have p2 : w2.cell? ⟨pb, 2, none⟩ = some (.slice A p.s.bodies.length c) := bQ2.cell 2
    have p3 : w2.cell? ⟨pb, 3, none⟩ = some (.int .i64 p.s.timer) := bQ2.cell 3
    have p6 : w2.cell? ⟨pb, 6, none⟩ = some (.slice Aw p.way.length cw) := bQ2.cell 6
    have fQ := bQ2.frozen
    have lQ := bQ2.lt
    have hs2 := hb2.size
    have bQ3 : Blk (((((w2.setCell ⟨pb, 0, none⟩ (.int .i64 p.s.ep)).setCell ⟨pb, 1, none⟩ (.int .i64 p.s.base)).setCell ⟨pb, 2, none⟩ (.slice A p.s.bodies.length c)).setCell ⟨pb, 3, none⟩ (.int .i64 t)).alloc (.cells #[.int .i64 p.s.ep, .int .i64 p.s.base, .slice A p.s.bodies.length c, .int .i64 t] 31)) pb 53 (plyC { p with s := { p.s with timer := t } } A c (.slice Aw p.way.length cw) vp vg (.slice An p.wants.length cn)) := by simpa [plyC] using ((((bQ2.set_ 0 (.int .i64 p.s.ep)).set_ 1 (.int .i64 p.s.base)).set_ 2 (.slice A p.s.bodies.length c)).set_ 3 (.int .i64 t)).alloc (.cells #[.int .i64 p.s.ep, .int .i64 p.s.base, .slice A p.s.bodies.length c, .int .i64 t] 31)
    have hR3 := ((((hR2.set 0 (.int .i64 p.s.ep)).set 1 (.int .i64 p.s.base)).set 2 (.slice A p.s.bodies.length c)).set 3 (.int .i64 t)).alloc (.cells #[.int .i64 p.s.ep, .int .i64 p.s.base, .slice A p.s.bodies.length c, .int .i64 t] 31)
    have hR4 := hR3.new_s (s := { p.s with timer := t }) hR3.rd hR3.far
    have k4 : Below pb w (((((w2.setCell ⟨pb, 0, none⟩ (.int .i64 p.s.ep)).setCell ⟨pb, 1, none⟩ (.int .i64 p.s.base)).setCell ⟨pb, 2, none⟩ (.slice A p.s.bodies.length c)).setCell ⟨pb, 3, none⟩ (.int .i64 t)).alloc (.cells #[.int .i64 p.s.ep, .int .i64 p.s.base, .slice A p.s.bodies.length c, .int .i64 t] 31)) := ((((k2.setCell (p := ⟨pb, 0, none⟩) (Nat.le_refl _) (.int .i64 p.s.ep)).setCell (p := ⟨pb, 1, none⟩) (Nat.le_refl _) (.int .i64 p.s.base)).setCell (p := ⟨pb, 2, none⟩) (Nat.le_refl _) (.slice A p.s.bodies.length c)).setCell (p := ⟨pb, 3, none⟩) (Nat.le_refl _) (.int .i64 t)).alloc (by simp; omega) (.cells #[.int .i64 p.s.ep, .int .i64 p.s.base, .slice A p.s.bodies.length c, .int .i64 t] 31)
    have hs4 : w.heap.size ≤ (((((w2.setCell ⟨pb, 0, none⟩ (.int .i64 p.s.ep)).setCell ⟨pb, 1, none⟩ (.int .i64 p.s.base)).setCell ⟨pb, 2, none⟩ (.slice A p.s.bodies.length c)).setCell ⟨pb, 3, none⟩ (.int .i64 t)).alloc (.cells #[.int .i64 p.s.ep, .int .i64 p.s.base, .slice A p.s.bodies.length c, .int .i64 t] 31)).heap.size := by simp; omega
    clear bQ1 hR1 hM1 kA hQ
    go_wp2_with fail
    go_end0
    exact ⟨rfl, ⟨A, c, _, vp, vg, _, bQ3, hc, hR4⟩, k4, hs4⟩

set_option maxRecDepth 100000 in
set_option maxHeartbeats 6000000 in
theorem do5_free (pb : Nat) (p : Ply) (z : Int) (b : ByteArray) (w : World) (hl : p.way.length ≤ 100000 ∧ p.got.length ≤ 100000 ∧ p.wants.length ≤ 100000) (hM : PlyM pb p w) (hw : p.way.length < 100) (hb8 : p.s.bodies.length ≤ 1000) (hs : ∀ y ∈ p.s.bodies, y.size ≤ maxLen) :
    Calls Try.prog 23 #[.pointer (some ⟨pb, 0, none⟩), .agg #[.int .i64 5, .int .i64 z, .string b]] w (PlyPost pb (tickP p) w) := by
  have hM1 := hM.alloc (.cells #[.int .i64 5, .int .i64 z, .string b] 55)
  obtain ⟨A, c, vw, vp, vg, vn, hQ, hc, hR⟩ := hM
  obtain ⟨Aw, cw, rfl⟩ := own_succ' hR.ow
  obtain ⟨An, cn, rfl⟩ := own_succ' hR.on
  have lq := hQ.lt
  have p6 : w.cell? ⟨pb, 6, none⟩ = some (.slice Aw p.way.length cw) := hQ.cell 6
  have kA : Below pb w (w.alloc (.cells #[.int .i64 5, .int .i64 z, .string b] 55)) := (Below.refl _ w).alloc (by omega) _
  have hwn : decide (0 < p.way.length) = false ∨ 0 < p.way.length := by
    rcases Nat.eq_zero_or_pos p.way.length with h | h
    · exact .inl (by rw [h]; rfl)
    · exact .inr h
  have p0 : w.cell? ⟨pb, 0, none⟩ = some (.int .i64 p.s.ep) := hQ.cell 0
  have p1 : w.cell? ⟨pb, 1, none⟩ = some (.int .i64 p.s.base) := hQ.cell 1
  have p2 : w.cell? ⟨pb, 2, none⟩ = some (.slice A p.s.bodies.length c) := hQ.cell 2
  have p3 : w.cell? ⟨pb, 3, none⟩ = some (.int .i64 p.s.timer) := hQ.cell 3
  obtain ⟨t, u, hT⟩ : ∃ t u, tickT p.s = (t, u) := ⟨_, _, rfl⟩
  obtain ⟨l, hll⟩ : ∃ l, (if u = true then pkL p.s.ep p.s.base p.s.bodies else []) = l := ⟨_, rfl⟩
  have hlb := sent_le p.s u
  rw [hll] at hlb
  have hp : tickP p = { p with s := { p.s with timer := t }, way := p.way ++ l } := by unfold tickP; rw [hT]; simp only; rw [if_pos (by omega), hll]
  rw [hp]
  have HT := Lib.hid hT
  have HL := Lib.hid hll
  clear hT hll hp
  have hwf : (p.way.length : Int) < 100 := by omega
  clear hw
  have hR1 := hR.alloc (.cells #[.int .i64 5, .int .i64 z, .string b] 55)
  have bQ1 := hQ.alloc (.cells #[.int .i64 5, .int .i64 z, .string b] 55)
  have hr1 := hR1.rd
  obtain ⟨i0, hi0, hz0, hz1, hz2⟩ := info_parts infoPk
  go_enter Try.func23, Try.ntmps23
  rcases hwn with hn0 | hn
  · go_wp2_with fail
    have hVs : w.heap.size + 1 = (w.alloc (.cells #[.int .i64 5, .int .i64 z, .string b] 55)).heap.size := by simp
    generalize w.alloc (.cells #[.int .i64 5, .int .i64 z, .string b] 55) = V at *
    refine (tick_any p.s.ep p.s.base p.s.timer p.s.bodies A p.s.bodies.length c _ hr1 (by omega) hs).mono ?_
    intro e w2 hpost
    have hpost : TickPost p.s.ep p.s.base p.s.bodies A p.s.bodies.length c (t, u) V e w2 := by rw [← HT.out]; exact hpost
    obtain ⟨A2, c2, he, ho2, hb2⟩ := hpost
    simp only at he ho2
    rw [sent_len, HL.out] at he ho2
    rw [sent_cells, HL.out] at ho2
    subst he
    have lQ1 := bQ1.lt
    have bQ2 := bQ1.below hb2 lQ1
    have hR2 := hR1.below hb2
    have k2 : Below pb w w2 := kA.trans (hb2.mono (by omega))
    have p0 : w2.cell? ⟨pb, 0, none⟩ = some (.int .i64 p.s.ep) := bQ2.cell 0
    have p1 : w2.cell? ⟨pb, 1, none⟩ = some (.int .i64 p.s.base) := bQ2.cell 1
    have p2 : w2.cell? ⟨pb, 2, none⟩ = some (.slice A p.s.bodies.length c) := bQ2.cell 2
    have p3 : w2.cell? ⟨pb, 3, none⟩ = some (.int .i64 p.s.timer) := bQ2.cell 3
    have p6 : w2.cell? ⟨pb, 6, none⟩ = some (.slice Aw p.way.length cw) := bQ2.cell 6
    have fQ := bQ2.frozen
    have lQ := bQ2.lt
    have hs2 := hb2.size
    have bQ3 : Blk (((((w2.setCell ⟨pb, 0, none⟩ (.int .i64 p.s.ep)).setCell ⟨pb, 1, none⟩ (.int .i64 p.s.base)).setCell ⟨pb, 2, none⟩ (.slice A p.s.bodies.length c)).setCell ⟨pb, 3, none⟩ (.int .i64 t)).alloc (.cells #[.int .i64 p.s.ep, .int .i64 p.s.base, .slice A p.s.bodies.length c, .int .i64 t] 31)) pb 53 (plyC { p with s := { p.s with timer := t } } A c (.slice Aw p.way.length cw) vp vg (.slice An p.wants.length cn)) := by simpa [plyC] using ((((bQ2.set_ 0 (.int .i64 p.s.ep)).set_ 1 (.int .i64 p.s.base)).set_ 2 (.slice A p.s.bodies.length c)).set_ 3 (.int .i64 t)).alloc (.cells #[.int .i64 p.s.ep, .int .i64 p.s.base, .slice A p.s.bodies.length c, .int .i64 t] 31)
    have hR3 := ((((hR2.set 0 (.int .i64 p.s.ep)).set 1 (.int .i64 p.s.base)).set 2 (.slice A p.s.bodies.length c)).set 3 (.int .i64 t)).alloc (.cells #[.int .i64 p.s.ep, .int .i64 p.s.base, .slice A p.s.bodies.length c, .int .i64 t] 31)
    have hR4 := hR3.new_s (s := { p.s with timer := t }) hR3.rd hR3.far
    have k4 : Below pb w (((((w2.setCell ⟨pb, 0, none⟩ (.int .i64 p.s.ep)).setCell ⟨pb, 1, none⟩ (.int .i64 p.s.base)).setCell ⟨pb, 2, none⟩ (.slice A p.s.bodies.length c)).setCell ⟨pb, 3, none⟩ (.int .i64 t)).alloc (.cells #[.int .i64 p.s.ep, .int .i64 p.s.base, .slice A p.s.bodies.length c, .int .i64 t] 31)) := ((((k2.setCell (p := ⟨pb, 0, none⟩) (Nat.le_refl _) (.int .i64 p.s.ep)).setCell (p := ⟨pb, 1, none⟩) (Nat.le_refl _) (.int .i64 p.s.base)).setCell (p := ⟨pb, 2, none⟩) (Nat.le_refl _) (.slice A p.s.bodies.length c)).setCell (p := ⟨pb, 3, none⟩) (Nat.le_refl _) (.int .i64 t)).alloc (by simp; omega) (.cells #[.int .i64 p.s.ep, .int .i64 p.s.base, .slice A p.s.bodies.length c, .int .i64 t] 31)
    have hs4 : w.heap.size ≤ (((((w2.setCell ⟨pb, 0, none⟩ (.int .i64 p.s.ep)).setCell ⟨pb, 1, none⟩ (.int .i64 p.s.base)).setCell ⟨pb, 2, none⟩ (.slice A p.s.bodies.length c)).setCell ⟨pb, 3, none⟩ (.int .i64 t)).alloc (.cells #[.int .i64 p.s.ep, .int .i64 p.s.base, .slice A p.s.bodies.length c, .int .i64 t] 31)).heap.size := by simp; omega
    have ho4 := (own_setCell (own_setCell (own_setCell (own_setCell ho2 pb 0 (.int .i64 p.s.ep) (by omega)) pb 1 (.int .i64 p.s.base) (by omega)) pb 2 (.slice A p.s.bodies.length c) (by omega)) pb 3 (.int .i64 t) (by omega)).alloc (.cells #[.int .i64 p.s.ep, .int .i64 p.s.base, .slice A p.s.bodies.length c, .int .i64 t] 31)
    clear bQ1 hR1 hM1 kA hQ hR3
    go_upto_region 36 with fail
    generalize (((((w2.setCell ⟨pb, 0, none⟩ (.int .i64 p.s.ep)).setCell ⟨pb, 1, none⟩ (.int .i64 p.s.base)).setCell ⟨pb, 2, none⟩ (.slice A p.s.bodies.length c)).setCell ⟨pb, 3, none⟩ (.int .i64 t)).alloc (.cells #[.int .i64 p.s.ep, .int .i64 p.s.base, .slice A p.s.bodies.length c, .int .i64 t] 31)) = W at *
    clear p0 p1 p2 p3 p6 fQ lQ bQ2 hR2 k2 ho2 hb2
    have p6 : W.cell? ⟨pb, 6, none⟩ = some (.slice Aw p.way.length cw) := bQ3.cell 6
    have fQ := bQ3.frozen
    have lQ3 := bQ3.lt
    go_wp2_with (at_builtin; refine wpList_append_any _ rfl (.tmp 259) (.tmp 260) 45 rfl (pb + 1) 25 i0 _ 3 32 Try.underlying45 hi0 hz0 hz1 hz2 rfl (by decide) (.slice Aw p.way.length cw) p.way.length (pks p.way) rfl hR4.ow W.heap.size A2 l.length c2 (pks l) rfl (Reads.of_own ho4) (pks_one _) (by unfold maxLen; omega) (by omega) (by omega) ?_; intro v' w5 hown' hgrow hnb; obtain ⟨A5, cap3, rfl⟩ := own_form hown'; have hR6 := hR4.app_way hgrow hown' hnb; have bQ6 := blk_far bQ3 hR4.ow (Nat.lt_succ_self _) hgrow; have fQ6 := bQ6.frozen; have q6 : w5.cell? ⟨pb, 6, none⟩ = some (.slice Aw p.way.length cw) := bQ6.cell 6; have kk6 := k4.grown hgrow (by omega) (fun g hg => by have := (hR4.ow.lt g hg).1; omega); have hgs := hgrow.size)
    go_end0
    exact ⟨rfl, ⟨A, c, _, vp, vg, _, by simpa [plyC] using bQ6.set_ 6 (.slice A5 (p.way.length + l.length) cap3), hc, hR6.set 6 _⟩, kk6.setCell (p := ⟨pb, 6, none⟩) (Nat.le_refl _) _, by simp; omega⟩
  · obtain ⟨e1, e2, e3⟩ := which_at z hn (by omega)
    have hn0 : (0 : Int) < (p.way.length : Int) := by omega
    have hnz : ((p.way.length : Int) == 0) = false := by rw [beq_eq_false_iff_ne]; omega
    go_wp2_with fail
    have hVs : w.heap.size + 1 = (w.alloc (.cells #[.int .i64 5, .int .i64 z, .string b] 55)).heap.size := by simp
    generalize w.alloc (.cells #[.int .i64 5, .int .i64 z, .string b] 55) = V at *
    refine (tick_any p.s.ep p.s.base p.s.timer p.s.bodies A p.s.bodies.length c _ hr1 (by omega) hs).mono ?_
    intro e w2 hpost
    have hpost : TickPost p.s.ep p.s.base p.s.bodies A p.s.bodies.length c (t, u) V e w2 := by rw [← HT.out]; exact hpost
    obtain ⟨A2, c2, he, ho2, hb2⟩ := hpost
    simp only at he ho2
    rw [sent_len, HL.out] at he ho2
    rw [sent_cells, HL.out] at ho2
    subst he
    have lQ1 := bQ1.lt
    have bQ2 := bQ1.below hb2 lQ1
    have hR2 := hR1.below hb2
    have k2 : Below pb w w2 := kA.trans (hb2.mono (by omega))
    have p0 : w2.cell? ⟨pb, 0, none⟩ = some (.int .i64 p.s.ep) := bQ2.cell 0
    have p1 : w2.cell? ⟨pb, 1, none⟩ = some (.int .i64 p.s.base) := bQ2.cell 1
    have p2 : w2.cell? ⟨pb, 2, none⟩ = some (.slice A p.s.bodies.length c) := bQ2.cell 2
    have p3 : w2.cell? ⟨pb, 3, none⟩ = some (.int .i64 p.s.timer) := bQ2.cell 3
    have p6 : w2.cell? ⟨pb, 6, none⟩ = some (.slice Aw p.way.length cw) := bQ2.cell 6
    have fQ := bQ2.frozen
    have lQ := bQ2.lt
    have hs2 := hb2.size
    have bQ3 : Blk (((((w2.setCell ⟨pb, 0, none⟩ (.int .i64 p.s.ep)).setCell ⟨pb, 1, none⟩ (.int .i64 p.s.base)).setCell ⟨pb, 2, none⟩ (.slice A p.s.bodies.length c)).setCell ⟨pb, 3, none⟩ (.int .i64 t)).alloc (.cells #[.int .i64 p.s.ep, .int .i64 p.s.base, .slice A p.s.bodies.length c, .int .i64 t] 31)) pb 53 (plyC { p with s := { p.s with timer := t } } A c (.slice Aw p.way.length cw) vp vg (.slice An p.wants.length cn)) := by simpa [plyC] using ((((bQ2.set_ 0 (.int .i64 p.s.ep)).set_ 1 (.int .i64 p.s.base)).set_ 2 (.slice A p.s.bodies.length c)).set_ 3 (.int .i64 t)).alloc (.cells #[.int .i64 p.s.ep, .int .i64 p.s.base, .slice A p.s.bodies.length c, .int .i64 t] 31)
    have hR3 := ((((hR2.set 0 (.int .i64 p.s.ep)).set 1 (.int .i64 p.s.base)).set 2 (.slice A p.s.bodies.length c)).set 3 (.int .i64 t)).alloc (.cells #[.int .i64 p.s.ep, .int .i64 p.s.base, .slice A p.s.bodies.length c, .int .i64 t] 31)
    have hR4 := hR3.new_s (s := { p.s with timer := t }) hR3.rd hR3.far
    have k4 : Below pb w (((((w2.setCell ⟨pb, 0, none⟩ (.int .i64 p.s.ep)).setCell ⟨pb, 1, none⟩ (.int .i64 p.s.base)).setCell ⟨pb, 2, none⟩ (.slice A p.s.bodies.length c)).setCell ⟨pb, 3, none⟩ (.int .i64 t)).alloc (.cells #[.int .i64 p.s.ep, .int .i64 p.s.base, .slice A p.s.bodies.length c, .int .i64 t] 31)) := ((((k2.setCell (p := ⟨pb, 0, none⟩) (Nat.le_refl _) (.int .i64 p.s.ep)).setCell (p := ⟨pb, 1, none⟩) (Nat.le_refl _) (.int .i64 p.s.base)).setCell (p := ⟨pb, 2, none⟩) (Nat.le_refl _) (.slice A p.s.bodies.length c)).setCell (p := ⟨pb, 3, none⟩) (Nat.le_refl _) (.int .i64 t)).alloc (by simp; omega) (.cells #[.int .i64 p.s.ep, .int .i64 p.s.base, .slice A p.s.bodies.length c, .int .i64 t] 31)
    have hs4 : w.heap.size ≤ (((((w2.setCell ⟨pb, 0, none⟩ (.int .i64 p.s.ep)).setCell ⟨pb, 1, none⟩ (.int .i64 p.s.base)).setCell ⟨pb, 2, none⟩ (.slice A p.s.bodies.length c)).setCell ⟨pb, 3, none⟩ (.int .i64 t)).alloc (.cells #[.int .i64 p.s.ep, .int .i64 p.s.base, .slice A p.s.bodies.length c, .int .i64 t] 31)).heap.size := by simp; omega
    have ho4 := (own_setCell (own_setCell (own_setCell (own_setCell ho2 pb 0 (.int .i64 p.s.ep) (by omega)) pb 1 (.int .i64 p.s.base) (by omega)) pb 2 (.slice A p.s.bodies.length c) (by omega)) pb 3 (.int .i64 t) (by omega)).alloc (.cells #[.int .i64 p.s.ep, .int .i64 p.s.base, .slice A p.s.bodies.length c, .int .i64 t] 31)
    clear bQ1 hR1 hM1 kA hQ hR3
    go_upto_region 36 with fail
    generalize (((((w2.setCell ⟨pb, 0, none⟩ (.int .i64 p.s.ep)).setCell ⟨pb, 1, none⟩ (.int .i64 p.s.base)).setCell ⟨pb, 2, none⟩ (.slice A p.s.bodies.length c)).setCell ⟨pb, 3, none⟩ (.int .i64 t)).alloc (.cells #[.int .i64 p.s.ep, .int .i64 p.s.base, .slice A p.s.bodies.length c, .int .i64 t] 31)) = W at *
    clear p0 p1 p2 p3 p6 fQ lQ bQ2 hR2 k2 ho2 hb2
    have p6 : W.cell? ⟨pb, 6, none⟩ = some (.slice Aw p.way.length cw) := bQ3.cell 6
    have fQ := bQ3.frozen
    have lQ3 := bQ3.lt
    go_wp2_with (at_builtin; refine wpList_append_any _ rfl (.tmp 259) (.tmp 260) 45 rfl (pb + 1) 25 i0 _ 3 32 Try.underlying45 hi0 hz0 hz1 hz2 rfl (by decide) (.slice Aw p.way.length cw) p.way.length (pks p.way) rfl hR4.ow W.heap.size A2 l.length c2 (pks l) rfl (Reads.of_own ho4) (pks_one _) (by unfold maxLen; omega) (by omega) (by omega) ?_; intro v' w5 hown' hgrow hnb; obtain ⟨A5, cap3, rfl⟩ := own_form hown'; have hR6 := hR4.app_way hgrow hown' hnb; have bQ6 := blk_far bQ3 hR4.ow (Nat.lt_succ_self _) hgrow; have fQ6 := bQ6.frozen; have q6 : w5.cell? ⟨pb, 6, none⟩ = some (.slice Aw p.way.length cw) := bQ6.cell 6; have kk6 := k4.grown hgrow (by omega) (fun g hg => by have := (hR4.ow.lt g hg).1; omega); have hgs := hgrow.size)
    go_end0
    exact ⟨rfl, ⟨A, c, _, vp, vg, _, by simpa [plyC] using bQ6.set_ 6 (.slice A5 (p.way.length + l.length) cap3), hc, hR6.set 6 _⟩, kk6.setCell (p := ⟨pb, 6, none⟩) (Nat.le_refl _) _, by simp; omega⟩

end Go.Proofs.Ytplodggiifachaa
