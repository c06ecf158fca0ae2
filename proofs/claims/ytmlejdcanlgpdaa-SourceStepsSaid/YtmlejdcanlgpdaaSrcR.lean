/- Walks of the source reference's check, Tick and Next. -/
import Derived.Test.YtmlejdcanlgpdaaSrcL
namespace Go.Proofs.Ytmlejdcanlgpdaa
open Go.RowKit
set_option linter.unusedVariables false
set_option linter.unusedSimpArgs false

theorem waitZ_neg {j : Jb} {s : Sr} (h1 : j.idle ≠ 0) (h2 : s.ended = false) (h3 : s.quiet ≠ 1048576) : waitZ j s = (⟨s.evs, s.done, s.mark, s.quiet + 1, s.ended⟩, if s.quiet + 1 = j.idle then [noIt 3] else []) :=
  if_neg (by
    rintro (hc | hc | hc)
    · exact h1 hc
    · rw [h2] at hc; cases hc
    · exact h3 hc)
def checkS (j : Jb) (s : Sr) : Int := if jobB j = false then 130 else if srcB s = false then 1 else 0
set_option maxHeartbeats 2000000 in
theorem checkS_any (j : Jb) (s : Sr) (A : Option Addr) (n c : Nat) (w : World) (hj : j.Wf) (hs : s.Wf) (hr : Reads w w.heap.size 3 A n (evs s.evs)) (hm : n ≤ 9223372036854775807) :
    Calls Try.prog 27 #[.agg #[.int .i64 j.groups, .int .i64 j.size, .int .i64 j.slide, .int .i64 j.fold, .int .i64 j.fuel, .int .i64 j.limit, .int .i64 j.delay, .int .i64 j.idle], .agg #[.slice A n c, .int .i64 s.done, .int .i64 s.mark, .int .i64 s.quiet, .bool s.ended]] w fun e w' => e = .returned (.int .i64 (checkS j s)) ∧ Below w.heap.size w w' := by
  cases hJ : jobB j
  · have hz : checkS j s = 130 := if_pos hJ
    rw [hz]
    go_enter Try.func27, Try.ntmps27
    go_wp2_with fail
    refine (refJob_any j _ hj).mono ?_
    rw [hJ]
    rintro e w1 ⟨rfl, hb1⟩
    obtain ⟨c1, f1⟩ := bcell hb1
    have y1 := hb1.size
    try simp at y1
    have z0_0_1 : w.heap.size < w1.heap.size := by omega
    have z0_1_1 : w.heap.size + 1 < w1.heap.size := by omega
    have k1 : Below w.heap.size w w1 := next_below (by go_grown) hb1
    go_wp2
    go_ret
    exact ⟨rfl, k1⟩
  obtain ⟨kz, hz⟩ : ∃ kz, checkS j s = kz := ⟨_, rfl⟩
  have hkz := hz
  unfold checkS at hkz
  rw [hJ, if_neg (by simp)] at hkz
  cases hB : srcB s
  all_goals
    rw [hB] at hkz
    simp at hkz
    rw [hz, ← hkz]
    clear hz
    go_enter Try.func27, Try.ntmps27
    go_wp2_with fail
    refine (refJob_any j _ hj).mono ?_
    rw [hJ]
    rintro e w1 ⟨rfl, hb1⟩
    obtain ⟨c1, f1⟩ := bcell hb1
    have y1 := hb1.size
    try simp at y1
    have z0_0_1 : w.heap.size < w1.heap.size := by omega
    have z0_1_1 : w.heap.size + 1 < w1.heap.size := by omega
    have k1 : Below w.heap.size w w1 := next_below (by go_grown) hb1
    have bS1 : Blk w1 (w.heap.size + 1) 26 _ := (by simpa using Blk.new (w.alloc (.cells #[.int .i64 j.groups, .int .i64 j.size, .int .i64 j.slide, .int .i64 j.fold, .int .i64 j.fuel, .int .i64 j.limit, .int .i64 j.delay, .int .i64 j.idle] 23)) 26 #[.slice A n c, .int .i64 s.done, .int .i64 s.mark, .int .i64 s.quiet, .bool s.ended] : Blk _ (w.heap.size + 1) _ _).below hb1 (by simp)
    go_wp2_with fail
    refine (refSrc_any s.done s.mark s.quiet s.ended s.evs A n c _ ((hr.below k1).more k1.size) hm hs.key).mono ?_
    rw [show srcB ⟨s.evs, s.done, s.mark, s.quiet, s.ended⟩ = _ from hB]
    rintro e w2 ⟨rfl, hb2⟩
    have k2 : Below w.heap.size w w2 := next_below k1 hb2
    go_wp2
    go_ret
    exact ⟨rfl, k2⟩
set_option maxHeartbeats 1000000 in
theorem refTick_bad (j : Jb) (s : Sr) (A : Option Addr) (n c : Nat) (w : World) (hj : j.Wf) (hs : s.Wf) (hr : Reads w w.heap.size 3 A n (evs s.evs)) (hm : n ≤ 9223372036854775807) (er : Int) (her : checkS j s = er) (hC : er ≠ 0) :
    Calls Try.prog 12 #[.agg #[.int .i64 j.groups, .int .i64 j.size, .int .i64 j.slide, .int .i64 j.fold, .int .i64 j.fuel, .int .i64 j.limit, .int .i64 j.delay, .int .i64 j.idle], .agg #[.slice A n c, .int .i64 s.done, .int .i64 s.mark, .int .i64 s.quiet, .bool s.ended]] w (StepPost A n c (zeroS, [], er) w) := by
    have hne : (er != 0) = true := by simpa using hC
    have hne' : (er == 0) = false := by simpa using hC
    have HC := Lib.hid hC
    have HER := Lib.hid her
    clear hC her
    go_enter Try.func12, Try.ntmps12
    go_wp2_with fail
    refine (checkS_any j s A n c _ hj hs (reads_alloc (reads_alloc (reads_alloc hr))) hm).mono ?_
    rw [HER.out]
    rintro e w1 ⟨rfl, hb1⟩
    obtain ⟨c1, f1⟩ := bcell hb1
    have y1 := hb1.size
    try simp at y1
    have z0_0_1 : w.heap.size < w1.heap.size := by omega
    have z0_1_1 : w.heap.size + 1 < w1.heap.size := by omega
    have z0_2_1 : w.heap.size + 1 + 1 < w1.heap.size := by omega
    have k1 : Below w.heap.size w w1 := next_below (by go_grown) hb1
    have bJ1 : Blk w1 w.heap.size 23 _ := (((Blk.new w 23 #[.int .i64 j.groups, .int .i64 j.size, .int .i64 j.slide, .int .i64 j.fold, .int .i64 j.fuel, .int .i64 j.limit, .int .i64 j.delay, .int .i64 j.idle]).alloc (.cells #[.slice A n c, .int .i64 s.done, .int .i64 s.mark, .int .i64 s.quiet, .bool s.ended] 26)).alloc (.cells #[.slice none 0 0, .int .i64 0, .int .i64 0, .int .i64 0, .bool false] 26)).below hb1 (by simp; omega)
    have bS1 : Blk w1 (w.heap.size + 1) 26 #[.slice A n c, .int .i64 s.done, .int .i64 s.mark, .int .i64 s.quiet, .bool s.ended] := ((by simpa using (Blk.new (w.alloc (.cells #[.int .i64 j.groups, .int .i64 j.size, .int .i64 j.slide, .int .i64 j.fold, .int .i64 j.fuel, .int .i64 j.limit, .int .i64 j.delay, .int .i64 j.idle] 23)) 26 #[.slice A n c, .int .i64 s.done, .int .i64 s.mark, .int .i64 s.quiet, .bool s.ended]).alloc (.cells #[.slice none 0 0, .int .i64 0, .int .i64 0, .int .i64 0, .bool false] 26) : Blk _ (w.heap.size + 1) _ _)).below hb1 (by simp)
    have bR1 : Blk w1 (w.heap.size + 1 + 1) 26 #[.slice none 0 0, .int .i64 0, .int .i64 0, .int .i64 0, .bool false] := ((by simpa using Blk.new ((w.alloc (.cells #[.int .i64 j.groups, .int .i64 j.size, .int .i64 j.slide, .int .i64 j.fold, .int .i64 j.fuel, .int .i64 j.limit, .int .i64 j.delay, .int .i64 j.idle] 23)).alloc (.cells #[.slice A n c, .int .i64 s.done, .int .i64 s.mark, .int .i64 s.quiet, .bool s.ended] 26)) 26 #[.slice none 0 0, .int .i64 0, .int .i64 0, .int .i64 0, .bool false] : Blk _ (w.heap.size + 1 + 1) _ _)).below hb1 (by simp)
    have rr0 : w1.cell? ⟨w.heap.size + 1 + 1, 0, none⟩ = some (.slice none 0 0) := bR1.cell 0
    have rr1 : w1.cell? ⟨w.heap.size + 1 + 1, 1, none⟩ = some (.int .i64 0) := bR1.cell 1
    have rr2 : w1.cell? ⟨w.heap.size + 1 + 1, 2, none⟩ = some (.int .i64 0) := bR1.cell 2
    have rr3 : w1.cell? ⟨w.heap.size + 1 + 1, 3, none⟩ = some (.int .i64 0) := bR1.cell 3
    have rr4 : w1.cell? ⟨w.heap.size + 1 + 1, 4, none⟩ = some (.bool false) := bR1.cell 4
    have fR := bR1.frozen
    have s0 : w1.cell? ⟨w.heap.size + 1, 0, none⟩ = some (.slice A n c) := bS1.cell 0
    have s1 : w1.cell? ⟨w.heap.size + 1, 1, none⟩ = some (.int .i64 s.done) := bS1.cell 1
    have s2 : w1.cell? ⟨w.heap.size + 1, 2, none⟩ = some (.int .i64 s.mark) := bS1.cell 2
    have s3 : w1.cell? ⟨w.heap.size + 1, 3, none⟩ = some (.int .i64 s.quiet) := bS1.cell 3
    have s4 : w1.cell? ⟨w.heap.size + 1, 4, none⟩ = some (.bool s.ended) := bS1.cell 4
    have fS := bS1.frozen
    clear c1 f1
    go_wp2
    refine bodyPost_ret (v := .tuple #[.agg #[.slice none 0 0, .int .i64 0, .int .i64 0, .int .i64 0, .bool false], .slice none 0 0, .int .i64 er]) (by simp [results, Try.results12, go_sem, rr0, rr1, rr2, rr3, rr4, World.cell?_setCell_other]) rfl ?_
    exact ⟨by go_grown, .inr ⟨HC.out, rfl⟩⟩

set_option maxHeartbeats 1000000 in
theorem refTick_a (j : Jb) (s : Sr) (A : Option Addr) (n c : Nat) (w : World) (hj : j.Wf) (hs : s.Wf) (hr : Reads w w.heap.size 3 A n (evs s.evs)) (hm : n ≤ 9223372036854775807) (hC0 : checkS j s = 0) (h1 : (j.idle == 0) = true) :
    Calls Try.prog 12 #[.agg #[.int .i64 j.groups, .int .i64 j.size, .int .i64 j.slide, .int .i64 j.fold, .int .i64 j.fuel, .int .i64 j.limit, .int .i64 j.delay, .int .i64 j.idle], .agg #[.slice A n c, .int .i64 s.done, .int .i64 s.mark, .int .i64 s.quiet, .bool s.ended]] w (StepPost A n c (s, [], 0) w) := by
    go_enter Try.func12, Try.ntmps12
    go_wp2_with fail
    refine (checkS_any j s A n c _ hj hs (reads_alloc (reads_alloc (reads_alloc hr))) hm).mono ?_
    rw [hC0]
    rintro e w1 ⟨rfl, hb1⟩
    obtain ⟨c1, f1⟩ := bcell hb1
    have y1 := hb1.size
    try simp at y1
    have z0_0_1 : w.heap.size < w1.heap.size := by omega
    have z0_1_1 : w.heap.size + 1 < w1.heap.size := by omega
    have z0_2_1 : w.heap.size + 1 + 1 < w1.heap.size := by omega
    have k1 : Below w.heap.size w w1 := next_below (by go_grown) hb1
    have bJ1 : Blk w1 w.heap.size 23 _ := (((Blk.new w 23 #[.int .i64 j.groups, .int .i64 j.size, .int .i64 j.slide, .int .i64 j.fold, .int .i64 j.fuel, .int .i64 j.limit, .int .i64 j.delay, .int .i64 j.idle]).alloc (.cells #[.slice A n c, .int .i64 s.done, .int .i64 s.mark, .int .i64 s.quiet, .bool s.ended] 26)).alloc (.cells #[.slice none 0 0, .int .i64 0, .int .i64 0, .int .i64 0, .bool false] 26)).below hb1 (by simp; omega)
    have bS1 : Blk w1 (w.heap.size + 1) 26 #[.slice A n c, .int .i64 s.done, .int .i64 s.mark, .int .i64 s.quiet, .bool s.ended] := ((by simpa using (Blk.new (w.alloc (.cells #[.int .i64 j.groups, .int .i64 j.size, .int .i64 j.slide, .int .i64 j.fold, .int .i64 j.fuel, .int .i64 j.limit, .int .i64 j.delay, .int .i64 j.idle] 23)) 26 #[.slice A n c, .int .i64 s.done, .int .i64 s.mark, .int .i64 s.quiet, .bool s.ended]).alloc (.cells #[.slice none 0 0, .int .i64 0, .int .i64 0, .int .i64 0, .bool false] 26) : Blk _ (w.heap.size + 1) _ _)).below hb1 (by simp)
    have bR1 : Blk w1 (w.heap.size + 1 + 1) 26 #[.slice none 0 0, .int .i64 0, .int .i64 0, .int .i64 0, .bool false] := ((by simpa using Blk.new ((w.alloc (.cells #[.int .i64 j.groups, .int .i64 j.size, .int .i64 j.slide, .int .i64 j.fold, .int .i64 j.fuel, .int .i64 j.limit, .int .i64 j.delay, .int .i64 j.idle] 23)).alloc (.cells #[.slice A n c, .int .i64 s.done, .int .i64 s.mark, .int .i64 s.quiet, .bool s.ended] 26)) 26 #[.slice none 0 0, .int .i64 0, .int .i64 0, .int .i64 0, .bool false] : Blk _ (w.heap.size + 1 + 1) _ _)).below hb1 (by simp)
    have rr0 : w1.cell? ⟨w.heap.size + 1 + 1, 0, none⟩ = some (.slice none 0 0) := bR1.cell 0
    have rr1 : w1.cell? ⟨w.heap.size + 1 + 1, 1, none⟩ = some (.int .i64 0) := bR1.cell 1
    have rr2 : w1.cell? ⟨w.heap.size + 1 + 1, 2, none⟩ = some (.int .i64 0) := bR1.cell 2
    have rr3 : w1.cell? ⟨w.heap.size + 1 + 1, 3, none⟩ = some (.int .i64 0) := bR1.cell 3
    have rr4 : w1.cell? ⟨w.heap.size + 1 + 1, 4, none⟩ = some (.bool false) := bR1.cell 4
    have fR := bR1.frozen
    have s0 : w1.cell? ⟨w.heap.size + 1, 0, none⟩ = some (.slice A n c) := bS1.cell 0
    have s1 : w1.cell? ⟨w.heap.size + 1, 1, none⟩ = some (.int .i64 s.done) := bS1.cell 1
    have s2 : w1.cell? ⟨w.heap.size + 1, 2, none⟩ = some (.int .i64 s.mark) := bS1.cell 2
    have s3 : w1.cell? ⟨w.heap.size + 1, 3, none⟩ = some (.int .i64 s.quiet) := bS1.cell 3
    have s4 : w1.cell? ⟨w.heap.size + 1, 4, none⟩ = some (.bool s.ended) := bS1.cell 4
    have fS := bS1.frozen
    clear c1 f1
    clear hC0
    have j7 : w1.cell? ⟨w.heap.size, 7, none⟩ = some (.int .i64 j.idle) := bJ1.cell 7
    go_wp2
    have bZ := (((((bR1.set_ 0 (.slice A n c)).set_ 1 (.int .i64 s.done)).set_ 2 (.int .i64 s.mark)).set_ 3 (.int .i64 s.quiet)).set_ 4 (.bool s.ended)).alloc (.cells #[] 43)
    have e0 : World.cell? _ ⟨w.heap.size + 1 + 1, 0, none⟩ = some (.slice A n c) := bZ.cell 0
    have e1 : World.cell? _ ⟨w.heap.size + 1 + 1, 1, none⟩ = some (.int .i64 s.done) := bZ.cell 1
    have e2 : World.cell? _ ⟨w.heap.size + 1 + 1, 2, none⟩ = some (.int .i64 s.mark) := bZ.cell 2
    have e3 : World.cell? _ ⟨w.heap.size + 1 + 1, 3, none⟩ = some (.int .i64 s.quiet) := bZ.cell 3
    have e4 : World.cell? _ ⟨w.heap.size + 1 + 1, 4, none⟩ = some (.bool s.ended) := bZ.cell 4
    refine bodyPost_ret (v := .tuple #[.agg #[(.slice A n c), (.int .i64 s.done), (.int .i64 s.mark), (.int .i64 s.quiet), (.bool s.ended)], .slice (some ⟨w1.heap.size, 0, none⟩) 0 0, .int .i64 0]) (by simp [results, Try.results12, go_sem, e0, e1, e2, e3, e4]) rfl ?_
    refine ⟨by go_grown, .inl ⟨rfl, _, rfl, ?_⟩⟩
    have hM := World.ownsRow_made (base := w.heap.size) (e := 43) (size := 11) ((((((((((w1).setCell ⟨w.heap.size + 1 + 1, 0, none⟩ (.slice A n c))).setCell ⟨w.heap.size + 1 + 1, 1, none⟩ (.int .i64 s.done))).setCell ⟨w.heap.size + 1 + 1, 2, none⟩ (.int .i64 s.mark))).setCell ⟨w.heap.size + 1 + 1, 3, none⟩ (.int .i64 s.quiet))).setCell ⟨w.heap.size + 1 + 1, 4, none⟩ (.bool s.ended)) #[] 0 (by simp; omega) (by unfold maxLen; omega) rfl
    simpa [itms] using hM

set_option maxHeartbeats 1000000 in
theorem refTick_b (j : Jb) (s : Sr) (A : Option Addr) (n c : Nat) (w : World) (hj : j.Wf) (hs : s.Wf) (hr : Reads w w.heap.size 3 A n (evs s.evs)) (hm : n ≤ 9223372036854775807) (hC0 : checkS j s = 0) (h1 : (j.idle == 0) = false) (h2 : s.ended = true) :
    Calls Try.prog 12 #[.agg #[.int .i64 j.groups, .int .i64 j.size, .int .i64 j.slide, .int .i64 j.fold, .int .i64 j.fuel, .int .i64 j.limit, .int .i64 j.delay, .int .i64 j.idle], .agg #[.slice A n c, .int .i64 s.done, .int .i64 s.mark, .int .i64 s.quiet, .bool s.ended]] w (StepPost A n c (s, [], 0) w) := by
    have H2 := Lib.hid h2
    clear h2
    go_enter Try.func12, Try.ntmps12
    go_wp2_with fail
    refine (checkS_any j s A n c _ hj hs (reads_alloc (reads_alloc (reads_alloc hr))) hm).mono ?_
    rw [hC0]
    rintro e w1 ⟨rfl, hb1⟩
    obtain ⟨c1, f1⟩ := bcell hb1
    have y1 := hb1.size
    try simp at y1
    have z0_0_1 : w.heap.size < w1.heap.size := by omega
    have z0_1_1 : w.heap.size + 1 < w1.heap.size := by omega
    have z0_2_1 : w.heap.size + 1 + 1 < w1.heap.size := by omega
    have k1 : Below w.heap.size w w1 := next_below (by go_grown) hb1
    have bJ1 : Blk w1 w.heap.size 23 _ := (((Blk.new w 23 #[.int .i64 j.groups, .int .i64 j.size, .int .i64 j.slide, .int .i64 j.fold, .int .i64 j.fuel, .int .i64 j.limit, .int .i64 j.delay, .int .i64 j.idle]).alloc (.cells #[.slice A n c, .int .i64 s.done, .int .i64 s.mark, .int .i64 s.quiet, .bool s.ended] 26)).alloc (.cells #[.slice none 0 0, .int .i64 0, .int .i64 0, .int .i64 0, .bool false] 26)).below hb1 (by simp; omega)
    have bS1 : Blk w1 (w.heap.size + 1) 26 #[.slice A n c, .int .i64 s.done, .int .i64 s.mark, .int .i64 s.quiet, .bool s.ended] := ((by simpa using (Blk.new (w.alloc (.cells #[.int .i64 j.groups, .int .i64 j.size, .int .i64 j.slide, .int .i64 j.fold, .int .i64 j.fuel, .int .i64 j.limit, .int .i64 j.delay, .int .i64 j.idle] 23)) 26 #[.slice A n c, .int .i64 s.done, .int .i64 s.mark, .int .i64 s.quiet, .bool s.ended]).alloc (.cells #[.slice none 0 0, .int .i64 0, .int .i64 0, .int .i64 0, .bool false] 26) : Blk _ (w.heap.size + 1) _ _)).below hb1 (by simp)
    have bR1 : Blk w1 (w.heap.size + 1 + 1) 26 #[.slice none 0 0, .int .i64 0, .int .i64 0, .int .i64 0, .bool false] := ((by simpa using Blk.new ((w.alloc (.cells #[.int .i64 j.groups, .int .i64 j.size, .int .i64 j.slide, .int .i64 j.fold, .int .i64 j.fuel, .int .i64 j.limit, .int .i64 j.delay, .int .i64 j.idle] 23)).alloc (.cells #[.slice A n c, .int .i64 s.done, .int .i64 s.mark, .int .i64 s.quiet, .bool s.ended] 26)) 26 #[.slice none 0 0, .int .i64 0, .int .i64 0, .int .i64 0, .bool false] : Blk _ (w.heap.size + 1 + 1) _ _)).below hb1 (by simp)
    have rr0 : w1.cell? ⟨w.heap.size + 1 + 1, 0, none⟩ = some (.slice none 0 0) := bR1.cell 0
    have rr1 : w1.cell? ⟨w.heap.size + 1 + 1, 1, none⟩ = some (.int .i64 0) := bR1.cell 1
    have rr2 : w1.cell? ⟨w.heap.size + 1 + 1, 2, none⟩ = some (.int .i64 0) := bR1.cell 2
    have rr3 : w1.cell? ⟨w.heap.size + 1 + 1, 3, none⟩ = some (.int .i64 0) := bR1.cell 3
    have rr4 : w1.cell? ⟨w.heap.size + 1 + 1, 4, none⟩ = some (.bool false) := bR1.cell 4
    have fR := bR1.frozen
    have s0 : w1.cell? ⟨w.heap.size + 1, 0, none⟩ = some (.slice A n c) := bS1.cell 0
    have s1 : w1.cell? ⟨w.heap.size + 1, 1, none⟩ = some (.int .i64 s.done) := bS1.cell 1
    have s2 : w1.cell? ⟨w.heap.size + 1, 2, none⟩ = some (.int .i64 s.mark) := bS1.cell 2
    have s3 : w1.cell? ⟨w.heap.size + 1, 3, none⟩ = some (.int .i64 s.quiet) := bS1.cell 3
    have s4 : w1.cell? ⟨w.heap.size + 1, 4, none⟩ = some (.bool s.ended) := bS1.cell 4
    have fS := bS1.frozen
    clear c1 f1
    clear hC0
    rw [H2.out] at s4
    have j7 : w1.cell? ⟨w.heap.size, 7, none⟩ = some (.int .i64 j.idle) := bJ1.cell 7
    go_wp2
    have bZ := (((((bR1.set_ 0 (.slice A n c)).set_ 1 (.int .i64 s.done)).set_ 2 (.int .i64 s.mark)).set_ 3 (.int .i64 s.quiet)).set_ 4 (.bool true)).alloc (.cells #[] 43)
    have e0 : World.cell? _ ⟨w.heap.size + 1 + 1, 0, none⟩ = some (.slice A n c) := bZ.cell 0
    have e1 : World.cell? _ ⟨w.heap.size + 1 + 1, 1, none⟩ = some (.int .i64 s.done) := bZ.cell 1
    have e2 : World.cell? _ ⟨w.heap.size + 1 + 1, 2, none⟩ = some (.int .i64 s.mark) := bZ.cell 2
    have e3 : World.cell? _ ⟨w.heap.size + 1 + 1, 3, none⟩ = some (.int .i64 s.quiet) := bZ.cell 3
    have e4 : World.cell? _ ⟨w.heap.size + 1 + 1, 4, none⟩ = some (.bool true) := bZ.cell 4
    refine bodyPost_ret (v := .tuple #[.agg #[(.slice A n c), (.int .i64 s.done), (.int .i64 s.mark), (.int .i64 s.quiet), (.bool true)], .slice (some ⟨w1.heap.size, 0, none⟩) 0 0, .int .i64 0]) (by simp [results, Try.results12, go_sem, e0, e1, e2, e3, e4]) rfl ?_
    refine ⟨by go_grown, .inl ⟨rfl, _, by rw [H2.out], ?_⟩⟩
    have hM := World.ownsRow_made (base := w.heap.size) (e := 43) (size := 11) ((((((((((w1).setCell ⟨w.heap.size + 1 + 1, 0, none⟩ (.slice A n c))).setCell ⟨w.heap.size + 1 + 1, 1, none⟩ (.int .i64 s.done))).setCell ⟨w.heap.size + 1 + 1, 2, none⟩ (.int .i64 s.mark))).setCell ⟨w.heap.size + 1 + 1, 3, none⟩ (.int .i64 s.quiet))).setCell ⟨w.heap.size + 1 + 1, 4, none⟩ (.bool true)) #[] 0 (by simp; omega) (by unfold maxLen; omega) rfl
    simpa [itms] using hM

set_option maxHeartbeats 1000000 in
theorem refTick_c0 (j : Jb) (s : Sr) (A : Option Addr) (n c : Nat) (w : World) (hj : j.Wf) (hs : s.Wf) (hr : Reads w w.heap.size 3 A n (evs s.evs)) (hm : n ≤ 9223372036854775807) (hC0 : checkS j s = 0) (h1 : (j.idle == 0) = false) (h2 : s.ended = false) (h3 : s.quiet = 1048576) (h4 : (s.quiet == j.idle) = false) :
    Calls Try.prog 12 #[.agg #[.int .i64 j.groups, .int .i64 j.size, .int .i64 j.slide, .int .i64 j.fold, .int .i64 j.fuel, .int .i64 j.limit, .int .i64 j.delay, .int .i64 j.idle], .agg #[.slice A n c, .int .i64 s.done, .int .i64 s.mark, .int .i64 s.quiet, .bool s.ended]] w (StepPost A n c (s, [], 0) w) := by
    have hlq : decide (s.quiet < 1048576) = false := by simp; omega
    clear h3
    have H2 := Lib.hid h2
    clear h2
    go_enter Try.func12, Try.ntmps12
    go_wp2_with fail
    refine (checkS_any j s A n c _ hj hs (reads_alloc (reads_alloc (reads_alloc hr))) hm).mono ?_
    rw [hC0]
    rintro e w1 ⟨rfl, hb1⟩
    obtain ⟨c1, f1⟩ := bcell hb1
    have y1 := hb1.size
    try simp at y1
    have z0_0_1 : w.heap.size < w1.heap.size := by omega
    have z0_1_1 : w.heap.size + 1 < w1.heap.size := by omega
    have z0_2_1 : w.heap.size + 1 + 1 < w1.heap.size := by omega
    have k1 : Below w.heap.size w w1 := next_below (by go_grown) hb1
    have bJ1 : Blk w1 w.heap.size 23 _ := (((Blk.new w 23 #[.int .i64 j.groups, .int .i64 j.size, .int .i64 j.slide, .int .i64 j.fold, .int .i64 j.fuel, .int .i64 j.limit, .int .i64 j.delay, .int .i64 j.idle]).alloc (.cells #[.slice A n c, .int .i64 s.done, .int .i64 s.mark, .int .i64 s.quiet, .bool s.ended] 26)).alloc (.cells #[.slice none 0 0, .int .i64 0, .int .i64 0, .int .i64 0, .bool false] 26)).below hb1 (by simp; omega)
    have bS1 : Blk w1 (w.heap.size + 1) 26 #[.slice A n c, .int .i64 s.done, .int .i64 s.mark, .int .i64 s.quiet, .bool s.ended] := ((by simpa using (Blk.new (w.alloc (.cells #[.int .i64 j.groups, .int .i64 j.size, .int .i64 j.slide, .int .i64 j.fold, .int .i64 j.fuel, .int .i64 j.limit, .int .i64 j.delay, .int .i64 j.idle] 23)) 26 #[.slice A n c, .int .i64 s.done, .int .i64 s.mark, .int .i64 s.quiet, .bool s.ended]).alloc (.cells #[.slice none 0 0, .int .i64 0, .int .i64 0, .int .i64 0, .bool false] 26) : Blk _ (w.heap.size + 1) _ _)).below hb1 (by simp)
    have bR1 : Blk w1 (w.heap.size + 1 + 1) 26 #[.slice none 0 0, .int .i64 0, .int .i64 0, .int .i64 0, .bool false] := ((by simpa using Blk.new ((w.alloc (.cells #[.int .i64 j.groups, .int .i64 j.size, .int .i64 j.slide, .int .i64 j.fold, .int .i64 j.fuel, .int .i64 j.limit, .int .i64 j.delay, .int .i64 j.idle] 23)).alloc (.cells #[.slice A n c, .int .i64 s.done, .int .i64 s.mark, .int .i64 s.quiet, .bool s.ended] 26)) 26 #[.slice none 0 0, .int .i64 0, .int .i64 0, .int .i64 0, .bool false] : Blk _ (w.heap.size + 1 + 1) _ _)).below hb1 (by simp)
    have rr0 : w1.cell? ⟨w.heap.size + 1 + 1, 0, none⟩ = some (.slice none 0 0) := bR1.cell 0
    have rr1 : w1.cell? ⟨w.heap.size + 1 + 1, 1, none⟩ = some (.int .i64 0) := bR1.cell 1
    have rr2 : w1.cell? ⟨w.heap.size + 1 + 1, 2, none⟩ = some (.int .i64 0) := bR1.cell 2
    have rr3 : w1.cell? ⟨w.heap.size + 1 + 1, 3, none⟩ = some (.int .i64 0) := bR1.cell 3
    have rr4 : w1.cell? ⟨w.heap.size + 1 + 1, 4, none⟩ = some (.bool false) := bR1.cell 4
    have fR := bR1.frozen
    have s0 : w1.cell? ⟨w.heap.size + 1, 0, none⟩ = some (.slice A n c) := bS1.cell 0
    have s1 : w1.cell? ⟨w.heap.size + 1, 1, none⟩ = some (.int .i64 s.done) := bS1.cell 1
    have s2 : w1.cell? ⟨w.heap.size + 1, 2, none⟩ = some (.int .i64 s.mark) := bS1.cell 2
    have s3 : w1.cell? ⟨w.heap.size + 1, 3, none⟩ = some (.int .i64 s.quiet) := bS1.cell 3
    have s4 : w1.cell? ⟨w.heap.size + 1, 4, none⟩ = some (.bool s.ended) := bS1.cell 4
    have fS := bS1.frozen
    clear c1 f1
    clear hC0
    rw [H2.out] at s4
    have j7 : w1.cell? ⟨w.heap.size, 7, none⟩ = some (.int .i64 j.idle) := bJ1.cell 7
    go_wp2
    have bZ := (((((bR1.set_ 0 (.slice A n c)).set_ 1 (.int .i64 s.done)).set_ 2 (.int .i64 s.mark)).set_ 3 (.int .i64 s.quiet)).set_ 4 (.bool false)).alloc (.cells #[] 43)
    have e0 : World.cell? _ ⟨w.heap.size + 1 + 1, 0, none⟩ = some (.slice A n c) := bZ.cell 0
    have e1 : World.cell? _ ⟨w.heap.size + 1 + 1, 1, none⟩ = some (.int .i64 s.done) := bZ.cell 1
    have e2 : World.cell? _ ⟨w.heap.size + 1 + 1, 2, none⟩ = some (.int .i64 s.mark) := bZ.cell 2
    have e3 : World.cell? _ ⟨w.heap.size + 1 + 1, 3, none⟩ = some (.int .i64 s.quiet) := bZ.cell 3
    have e4 : World.cell? _ ⟨w.heap.size + 1 + 1, 4, none⟩ = some (.bool false) := bZ.cell 4
    refine bodyPost_ret (v := .tuple #[.agg #[(.slice A n c), (.int .i64 s.done), (.int .i64 s.mark), (.int .i64 s.quiet), (.bool false)], .slice (some ⟨w1.heap.size, 0, none⟩) 0 0, .int .i64 0]) (by simp [results, Try.results12, go_sem, e0, e1, e2, e3, e4]) rfl ?_
    refine ⟨by go_grown, .inl ⟨rfl, _, by rw [H2.out], ?_⟩⟩
    have hM := World.ownsRow_made (base := w.heap.size) (e := 43) (size := 11) ((((((((((w1).setCell ⟨w.heap.size + 1 + 1, 0, none⟩ (.slice A n c))).setCell ⟨w.heap.size + 1 + 1, 1, none⟩ (.int .i64 s.done))).setCell ⟨w.heap.size + 1 + 1, 2, none⟩ (.int .i64 s.mark))).setCell ⟨w.heap.size + 1 + 1, 3, none⟩ (.int .i64 s.quiet))).setCell ⟨w.heap.size + 1 + 1, 4, none⟩ (.bool false)) #[] 0 (by simp; omega) (by unfold maxLen; omega) rfl
    simpa [itms] using hM

set_option maxHeartbeats 1000000 in
theorem refTick_c1 (j : Jb) (s : Sr) (A : Option Addr) (n c : Nat) (w : World) (hj : j.Wf) (hs : s.Wf) (hr : Reads w w.heap.size 3 A n (evs s.evs)) (hm : n ≤ 9223372036854775807) (hC0 : checkS j s = 0) (h1 : (j.idle == 0) = false) (h2 : s.ended = false) (h3 : s.quiet = 1048576) (h4 : (s.quiet == j.idle) = true) :
    Calls Try.prog 12 #[.agg #[.int .i64 j.groups, .int .i64 j.size, .int .i64 j.slide, .int .i64 j.fold, .int .i64 j.fuel, .int .i64 j.limit, .int .i64 j.delay, .int .i64 j.idle], .agg #[.slice A n c, .int .i64 s.done, .int .i64 s.mark, .int .i64 s.quiet, .bool s.ended]] w (StepPost A n c (s, [], 0) w) := by
    have hlq : decide (s.quiet < 1048576) = false := by simp; omega
    have hne : (s.quiet != j.idle) = false := by simp at h4; simp [h4]
    clear h3
    have H2 := Lib.hid h2
    clear h2
    go_enter Try.func12, Try.ntmps12
    go_wp2_with fail
    refine (checkS_any j s A n c _ hj hs (reads_alloc (reads_alloc (reads_alloc hr))) hm).mono ?_
    rw [hC0]
    rintro e w1 ⟨rfl, hb1⟩
    obtain ⟨c1, f1⟩ := bcell hb1
    have y1 := hb1.size
    try simp at y1
    have z0_0_1 : w.heap.size < w1.heap.size := by omega
    have z0_1_1 : w.heap.size + 1 < w1.heap.size := by omega
    have z0_2_1 : w.heap.size + 1 + 1 < w1.heap.size := by omega
    have k1 : Below w.heap.size w w1 := next_below (by go_grown) hb1
    have bJ1 : Blk w1 w.heap.size 23 _ := (((Blk.new w 23 #[.int .i64 j.groups, .int .i64 j.size, .int .i64 j.slide, .int .i64 j.fold, .int .i64 j.fuel, .int .i64 j.limit, .int .i64 j.delay, .int .i64 j.idle]).alloc (.cells #[.slice A n c, .int .i64 s.done, .int .i64 s.mark, .int .i64 s.quiet, .bool s.ended] 26)).alloc (.cells #[.slice none 0 0, .int .i64 0, .int .i64 0, .int .i64 0, .bool false] 26)).below hb1 (by simp; omega)
    have bS1 : Blk w1 (w.heap.size + 1) 26 #[.slice A n c, .int .i64 s.done, .int .i64 s.mark, .int .i64 s.quiet, .bool s.ended] := ((by simpa using (Blk.new (w.alloc (.cells #[.int .i64 j.groups, .int .i64 j.size, .int .i64 j.slide, .int .i64 j.fold, .int .i64 j.fuel, .int .i64 j.limit, .int .i64 j.delay, .int .i64 j.idle] 23)) 26 #[.slice A n c, .int .i64 s.done, .int .i64 s.mark, .int .i64 s.quiet, .bool s.ended]).alloc (.cells #[.slice none 0 0, .int .i64 0, .int .i64 0, .int .i64 0, .bool false] 26) : Blk _ (w.heap.size + 1) _ _)).below hb1 (by simp)
    have bR1 : Blk w1 (w.heap.size + 1 + 1) 26 #[.slice none 0 0, .int .i64 0, .int .i64 0, .int .i64 0, .bool false] := ((by simpa using Blk.new ((w.alloc (.cells #[.int .i64 j.groups, .int .i64 j.size, .int .i64 j.slide, .int .i64 j.fold, .int .i64 j.fuel, .int .i64 j.limit, .int .i64 j.delay, .int .i64 j.idle] 23)).alloc (.cells #[.slice A n c, .int .i64 s.done, .int .i64 s.mark, .int .i64 s.quiet, .bool s.ended] 26)) 26 #[.slice none 0 0, .int .i64 0, .int .i64 0, .int .i64 0, .bool false] : Blk _ (w.heap.size + 1 + 1) _ _)).below hb1 (by simp)
    have rr0 : w1.cell? ⟨w.heap.size + 1 + 1, 0, none⟩ = some (.slice none 0 0) := bR1.cell 0
    have rr1 : w1.cell? ⟨w.heap.size + 1 + 1, 1, none⟩ = some (.int .i64 0) := bR1.cell 1
    have rr2 : w1.cell? ⟨w.heap.size + 1 + 1, 2, none⟩ = some (.int .i64 0) := bR1.cell 2
    have rr3 : w1.cell? ⟨w.heap.size + 1 + 1, 3, none⟩ = some (.int .i64 0) := bR1.cell 3
    have rr4 : w1.cell? ⟨w.heap.size + 1 + 1, 4, none⟩ = some (.bool false) := bR1.cell 4
    have fR := bR1.frozen
    have s0 : w1.cell? ⟨w.heap.size + 1, 0, none⟩ = some (.slice A n c) := bS1.cell 0
    have s1 : w1.cell? ⟨w.heap.size + 1, 1, none⟩ = some (.int .i64 s.done) := bS1.cell 1
    have s2 : w1.cell? ⟨w.heap.size + 1, 2, none⟩ = some (.int .i64 s.mark) := bS1.cell 2
    have s3 : w1.cell? ⟨w.heap.size + 1, 3, none⟩ = some (.int .i64 s.quiet) := bS1.cell 3
    have s4 : w1.cell? ⟨w.heap.size + 1, 4, none⟩ = some (.bool s.ended) := bS1.cell 4
    have fS := bS1.frozen
    clear c1 f1
    clear hC0
    rw [H2.out] at s4
    have j7 : w1.cell? ⟨w.heap.size, 7, none⟩ = some (.int .i64 j.idle) := bJ1.cell 7
    go_wp2
    have bZ := (((((bR1.set_ 0 (.slice A n c)).set_ 1 (.int .i64 s.done)).set_ 2 (.int .i64 s.mark)).set_ 3 (.int .i64 s.quiet)).set_ 4 (.bool false)).alloc (.cells #[] 43)
    have e0 : World.cell? _ ⟨w.heap.size + 1 + 1, 0, none⟩ = some (.slice A n c) := bZ.cell 0
    have e1 : World.cell? _ ⟨w.heap.size + 1 + 1, 1, none⟩ = some (.int .i64 s.done) := bZ.cell 1
    have e2 : World.cell? _ ⟨w.heap.size + 1 + 1, 2, none⟩ = some (.int .i64 s.mark) := bZ.cell 2
    have e3 : World.cell? _ ⟨w.heap.size + 1 + 1, 3, none⟩ = some (.int .i64 s.quiet) := bZ.cell 3
    have e4 : World.cell? _ ⟨w.heap.size + 1 + 1, 4, none⟩ = some (.bool false) := bZ.cell 4
    refine bodyPost_ret (v := .tuple #[.agg #[(.slice A n c), (.int .i64 s.done), (.int .i64 s.mark), (.int .i64 s.quiet), (.bool false)], .slice (some ⟨w1.heap.size, 0, none⟩) 0 0, .int .i64 0]) (by simp [results, Try.results12, go_sem, e0, e1, e2, e3, e4]) rfl ?_
    refine ⟨by go_grown, .inl ⟨rfl, _, by rw [H2.out], ?_⟩⟩
    have hM := World.ownsRow_made (base := w.heap.size) (e := 43) (size := 11) ((((((((((w1).setCell ⟨w.heap.size + 1 + 1, 0, none⟩ (.slice A n c))).setCell ⟨w.heap.size + 1 + 1, 1, none⟩ (.int .i64 s.done))).setCell ⟨w.heap.size + 1 + 1, 2, none⟩ (.int .i64 s.mark))).setCell ⟨w.heap.size + 1 + 1, 3, none⟩ (.int .i64 s.quiet))).setCell ⟨w.heap.size + 1 + 1, 4, none⟩ (.bool false)) #[] 0 (by simp; omega) (by unfold maxLen; omega) rfl
    simpa [itms] using hM

end Go.Proofs.Ytmlejdcanlgpdaa
