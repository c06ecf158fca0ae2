/- Walk of the source reference's Tick, whole, and of its Next. -/
import Derived.Test.YtmlejdcanlgpdaaSrcR2
namespace Go.Proofs.Ytmlejdcanlgpdaa
open Go.RowKit
set_option linter.unusedVariables false
set_option linter.unusedSimpArgs false

theorem checkS_ok {j : Jb} {s : Sr} (h : checkS j s = 0) : jobB j = true ∧ srcB s = true := by
  unfold checkS at h
  by_cases hJ : jobB j = false
  · rw [if_pos hJ] at h; simp at h
  · rw [if_neg hJ] at h
    by_cases hB : srcB s = false
    · rw [if_pos hB] at h; simp at h
    · exact ⟨by simpa using hJ, by simpa using hB⟩
theorem tickR_bad {j : Jb} {s : Sr} (h : checkS j s ≠ 0) : tickR j s = (zeroS, [], checkS j s) := by
  unfold checkS tickR at *
  by_cases hJ : jobB j = false
  · rw [if_pos hJ, if_pos hJ]
  · rw [if_neg hJ] at h
    by_cases hB : srcB s = false
    · rw [if_neg hJ, if_pos hB, if_neg hJ, if_pos hB]
    · rw [if_neg hB] at h; exact absurd rfl h
theorem nextR_bad {j : Jb} {s : Sr} (h : checkS j s ≠ 0) : nextR j s = (zeroS, [], checkS j s) := by
  unfold checkS nextR at *
  by_cases hJ : jobB j = false
  · rw [if_pos hJ, if_pos hJ]
  · rw [if_neg hJ] at h
    by_cases hB : srcB s = false
    · rw [if_neg hJ, if_pos hB, if_neg hJ, if_pos hB]
    · rw [if_neg hB] at h; exact absurd rfl h

theorem refTick_any (j : Jb) (s : Sr) (A : Option Addr) (n c : Nat) (w : World) (hj : j.Wf) (hs : s.Wf) (hr : Reads w w.heap.size 3 A n (evs s.evs)) (hm : n ≤ 9223372036854775807) :
    Calls Try.prog 12 #[.agg #[.int .i64 j.groups, .int .i64 j.size, .int .i64 j.slide, .int .i64 j.fold, .int .i64 j.fuel, .int .i64 j.limit, .int .i64 j.delay, .int .i64 j.idle], .agg #[.slice A n c, .int .i64 s.done, .int .i64 s.mark, .int .i64 s.quiet, .bool s.ended]] w (StepPost A n c (tickR j s) w) := by
  by_cases hC : checkS j s = 0
  · obtain ⟨hJ, hB⟩ := checkS_ok hC
    have hq := (srcB_iff.1 hB).2.2.2.1
    have hz : tickR j s = ((waitZ j s).1, (waitZ j s).2, 0) := by unfold tickR; rw [if_neg (by rw [hJ]; simp), if_neg (by rw [hB]; simp)]
    rw [hz]
    by_cases h1 : j.idle = 0
    · rw [show waitZ j s = (s, []) from if_pos (.inl h1)]
      exact refTick_a j s A n c w hj hs hr hm hC (by simpa using h1)
    have h1' : (j.idle == 0) = false := by simpa using h1
    by_cases h2 : s.ended = true
    · rw [show waitZ j s = (s, []) from if_pos (.inr (.inl h2))]
      exact refTick_b j s A n c w hj hs hr hm hC h1' h2
    have h2' : s.ended = false := by simpa using h2
    by_cases h3 : s.quiet = 1048576
    · rw [show waitZ j s = (s, []) from if_pos (.inr (.inr h3))]
      cases h4 : (s.quiet == j.idle)
      · exact refTick_c0 j s A n c w hj hs hr hm hC h1' h2' h3 h4
      · exact refTick_c1 j s A n c w hj hs hr hm hC h1' h2' h3 h4
    rw [waitZ_neg h1 h2' h3]
    cases h4 : (s.quiet + 1 == j.idle)
    · rw [if_neg (by simpa using h4)]
      exact refTick_d j s A n c w hj hs hr hm hC h1' h2' ⟨hq.1, by omega⟩ h4
    · rw [if_pos (by simpa using h4)]
      exact refTick_e j s A n c w hj hs hr hm hC h1' h2' ⟨hq.1, by omega⟩ h4
  · rw [tickR_bad hC]
    exact refTick_bad j s A n c w hj hs hr hm _ rfl hC

set_option maxHeartbeats 1000000 in
theorem refNext_bad (j : Jb) (s : Sr) (A : Option Addr) (n c : Nat) (w : World) (hj : j.Wf) (hs : s.Wf) (hr : Reads w w.heap.size 3 A n (evs s.evs)) (hm : n ≤ 9223372036854775807) (er : Int) (her : checkS j s = er) (hC : er ≠ 0) :
    Calls Try.prog 10 #[.agg #[.int .i64 j.groups, .int .i64 j.size, .int .i64 j.slide, .int .i64 j.fold, .int .i64 j.fuel, .int .i64 j.limit, .int .i64 j.delay, .int .i64 j.idle], .agg #[.slice A n c, .int .i64 s.done, .int .i64 s.mark, .int .i64 s.quiet, .bool s.ended]] w (StepPost A n c (zeroS, [], er) w) := by
    have hne : (er != 0) = true := by simpa using hC
    have hne' : (er == 0) = false := by simpa using hC
    have HC := Lib.hid hC
    have HER := Lib.hid her
    clear hC her
    go_enter Try.func10, Try.ntmps10
    go_wp2_with fail
    refine (checkS_any j s A n c _ hj hs (reads_alloc (reads_alloc (reads_alloc hr))) hm).mono ?_
    rw [HER.out]
    rintro e w1 ⟨rfl, hb1⟩
    obtain ⟨c1, f1⟩ := bcell hb1
    have y1 := hb1.size
    try simp at y1
    have z0_0_1 : w.heap.size < w1.heap.size := by omega
    have z0_1_1 : w.heap.size + 1 < w1.heap.size := by omega
    have z0_2_1 : w.heap.size + 1 + 1 < w1.heap.size := by omega
    have k1 : Below w.heap.size w w1 := next_below (by go_grown) hb1
    have bJ1 : Blk w1 w.heap.size 23 _ := (((Blk.new w 23 #[.int .i64 j.groups, .int .i64 j.size, .int .i64 j.slide, .int .i64 j.fold, .int .i64 j.fuel, .int .i64 j.limit, .int .i64 j.delay, .int .i64 j.idle]).alloc (.cells #[.slice A n c, .int .i64 s.done, .int .i64 s.mark, .int .i64 s.quiet, .bool s.ended] 26)).alloc (.cells #[.slice none 0 0, .int .i64 0, .int .i64 0, .int .i64 0, .bool false] 26)).below hb1 (by simp; omega)
    have bS1 : Blk w1 (w.heap.size + 1) 26 #[.slice A n c, .int .i64 s.done, .int .i64 s.mark, .int .i64 s.quiet, .bool s.ended] := ((by simpa using (Blk.new (w.alloc (.cells #[.int .i64 j.groups, .int .i64 j.size, .int .i64 j.slide, .int .i64 j.fold, .int .i64 j.fuel, .int .i64 j.limit, .int .i64 j.delay, .int .i64 j.idle] 23)) 26 #[.slice A n c, .int .i64 s.done, .int .i64 s.mark, .int .i64 s.quiet, .bool s.ended]).alloc (.cells #[.slice none 0 0, .int .i64 0, .int .i64 0, .int .i64 0, .bool false] 26) : Blk _ (w.heap.size + 1) _ _)).below hb1 (by simp)
    have bR1 : Blk w1 (w.heap.size + 1 + 1) 26 #[.slice none 0 0, .int .i64 0, .int .i64 0, .int .i64 0, .bool false] := ((by simpa using Blk.new ((w.alloc (.cells #[.int .i64 j.groups, .int .i64 j.size, .int .i64 j.slide, .int .i64 j.fold, .int .i64 j.fuel, .int .i64 j.limit, .int .i64 j.delay, .int .i64 j.idle] 23)).alloc (.cells #[.slice A n c, .int .i64 s.done, .int .i64 s.mark, .int .i64 s.quiet, .bool s.ended] 26)) 26 #[.slice none 0 0, .int .i64 0, .int .i64 0, .int .i64 0, .bool false] : Blk _ (w.heap.size + 1 + 1) _ _)).below hb1 (by simp)
    have rr0 : w1.cell? ⟨w.heap.size + 1 + 1, 0, none⟩ = some (.slice none 0 0) := bR1.cell 0
    have rr1 : w1.cell? ⟨w.heap.size + 1 + 1, 1, none⟩ = some (.int .i64 0) := bR1.cell 1
    have rr2 : w1.cell? ⟨w.heap.size + 1 + 1, 2, none⟩ = some (.int .i64 0) := bR1.cell 2
    have rr3 : w1.cell? ⟨w.heap.size + 1 + 1, 3, none⟩ = some (.int .i64 0) := bR1.cell 3
    have rr4 : w1.cell? ⟨w.heap.size + 1 + 1, 4, none⟩ = some (.bool false) := bR1.cell 4
    have fR := bR1.frozen
    have s0 : w1.cell? ⟨w.heap.size + 1, 0, none⟩ = some (.slice A n c) := bS1.cell 0
    have s1 : w1.cell? ⟨w.heap.size + 1, 1, none⟩ = some (.int .i64 s.done) := bS1.cell 1
    have s2 : w1.cell? ⟨w.heap.size + 1, 2, none⟩ = some (.int .i64 s.mark) := bS1.cell 2
    have s3 : w1.cell? ⟨w.heap.size + 1, 3, none⟩ = some (.int .i64 s.quiet) := bS1.cell 3
    have s4 : w1.cell? ⟨w.heap.size + 1, 4, none⟩ = some (.bool s.ended) := bS1.cell 4
    have fS := bS1.frozen
    clear c1 f1
    go_wp2
    refine bodyPost_ret (v := .tuple #[.agg #[.slice none 0 0, .int .i64 0, .int .i64 0, .int .i64 0, .bool false], .slice none 0 0, .int .i64 er]) (by simp [results, Try.results10, go_sem, rr0, rr1, rr2, rr3, rr4, World.cell?_setCell_other]) rfl ?_
    exact ⟨by go_grown, .inr ⟨HC.out, rfl⟩⟩

set_option maxHeartbeats 1000000 in
theorem refNext_ended (j : Jb) (s : Sr) (A : Option Addr) (n c : Nat) (w : World) (hj : j.Wf) (hs : s.Wf) (hr : Reads w w.heap.size 3 A n (evs s.evs)) (hm : n ≤ 9223372036854775807) (hC0 : checkS j s = 0) (h2 : s.ended = true) :
    Calls Try.prog 10 #[.agg #[.int .i64 j.groups, .int .i64 j.size, .int .i64 j.slide, .int .i64 j.fold, .int .i64 j.fuel, .int .i64 j.limit, .int .i64 j.delay, .int .i64 j.idle], .agg #[.slice A n c, .int .i64 s.done, .int .i64 s.mark, .int .i64 s.quiet, .bool s.ended]] w (StepPost A n c (zeroS, [], 210) w) := by
    have H2 := Lib.hid h2
    clear h2
    go_enter Try.func10, Try.ntmps10
    go_wp2_with fail
    refine (checkS_any j s A n c _ hj hs (reads_alloc (reads_alloc (reads_alloc hr))) hm).mono ?_
    rw [hC0]
    rintro e w1 ⟨rfl, hb1⟩
    obtain ⟨c1, f1⟩ := bcell hb1
    have y1 := hb1.size
    try simp at y1
    have z0_0_1 : w.heap.size < w1.heap.size := by omega
    have z0_1_1 : w.heap.size + 1 < w1.heap.size := by omega
    have z0_2_1 : w.heap.size + 1 + 1 < w1.heap.size := by omega
    have k1 : Below w.heap.size w w1 := next_below (by go_grown) hb1
    have bJ1 : Blk w1 w.heap.size 23 _ := (((Blk.new w 23 #[.int .i64 j.groups, .int .i64 j.size, .int .i64 j.slide, .int .i64 j.fold, .int .i64 j.fuel, .int .i64 j.limit, .int .i64 j.delay, .int .i64 j.idle]).alloc (.cells #[.slice A n c, .int .i64 s.done, .int .i64 s.mark, .int .i64 s.quiet, .bool s.ended] 26)).alloc (.cells #[.slice none 0 0, .int .i64 0, .int .i64 0, .int .i64 0, .bool false] 26)).below hb1 (by simp; omega)
    have bS1 : Blk w1 (w.heap.size + 1) 26 #[.slice A n c, .int .i64 s.done, .int .i64 s.mark, .int .i64 s.quiet, .bool s.ended] := ((by simpa using (Blk.new (w.alloc (.cells #[.int .i64 j.groups, .int .i64 j.size, .int .i64 j.slide, .int .i64 j.fold, .int .i64 j.fuel, .int .i64 j.limit, .int .i64 j.delay, .int .i64 j.idle] 23)) 26 #[.slice A n c, .int .i64 s.done, .int .i64 s.mark, .int .i64 s.quiet, .bool s.ended]).alloc (.cells #[.slice none 0 0, .int .i64 0, .int .i64 0, .int .i64 0, .bool false] 26) : Blk _ (w.heap.size + 1) _ _)).below hb1 (by simp)
    have bR1 : Blk w1 (w.heap.size + 1 + 1) 26 #[.slice none 0 0, .int .i64 0, .int .i64 0, .int .i64 0, .bool false] := ((by simpa using Blk.new ((w.alloc (.cells #[.int .i64 j.groups, .int .i64 j.size, .int .i64 j.slide, .int .i64 j.fold, .int .i64 j.fuel, .int .i64 j.limit, .int .i64 j.delay, .int .i64 j.idle] 23)).alloc (.cells #[.slice A n c, .int .i64 s.done, .int .i64 s.mark, .int .i64 s.quiet, .bool s.ended] 26)) 26 #[.slice none 0 0, .int .i64 0, .int .i64 0, .int .i64 0, .bool false] : Blk _ (w.heap.size + 1 + 1) _ _)).below hb1 (by simp)
    have rr0 : w1.cell? ⟨w.heap.size + 1 + 1, 0, none⟩ = some (.slice none 0 0) := bR1.cell 0
    have rr1 : w1.cell? ⟨w.heap.size + 1 + 1, 1, none⟩ = some (.int .i64 0) := bR1.cell 1
    have rr2 : w1.cell? ⟨w.heap.size + 1 + 1, 2, none⟩ = some (.int .i64 0) := bR1.cell 2
    have rr3 : w1.cell? ⟨w.heap.size + 1 + 1, 3, none⟩ = some (.int .i64 0) := bR1.cell 3
    have rr4 : w1.cell? ⟨w.heap.size + 1 + 1, 4, none⟩ = some (.bool false) := bR1.cell 4
    have fR := bR1.frozen
    have s0 : w1.cell? ⟨w.heap.size + 1, 0, none⟩ = some (.slice A n c) := bS1.cell 0
    have s1 : w1.cell? ⟨w.heap.size + 1, 1, none⟩ = some (.int .i64 s.done) := bS1.cell 1
    have s2 : w1.cell? ⟨w.heap.size + 1, 2, none⟩ = some (.int .i64 s.mark) := bS1.cell 2
    have s3 : w1.cell? ⟨w.heap.size + 1, 3, none⟩ = some (.int .i64 s.quiet) := bS1.cell 3
    have s4 : w1.cell? ⟨w.heap.size + 1, 4, none⟩ = some (.bool s.ended) := bS1.cell 4
    have fS := bS1.frozen
    clear c1 f1
    clear hC0
    rw [H2.out] at s4
    go_wp2
    refine bodyPost_ret (v := .tuple #[.agg #[.slice none 0 0, .int .i64 0, .int .i64 0, .int .i64 0, .bool false], .slice none 0 0, .int .i64 210]) (by simp [results, Try.results10, go_sem, rr0, rr1, rr2, rr3, rr4, World.cell?_setCell_other]) rfl ?_
    exact ⟨by go_grown, .inr ⟨by decide, rfl⟩⟩

set_option maxHeartbeats 1000000 in
theorem refNext_end (j : Jb) (s : Sr) (A : Option Addr) (n c : Nat) (w : World) (hj : j.Wf) (hs : s.Wf) (hr : Reads w w.heap.size 3 A n (evs s.evs)) (hm : n ≤ 9223372036854775807) (hC0 : checkS j s = 0) (h2 : s.ended = false) (hd : s.done = n) :
    Calls Try.prog 10 #[.agg #[.int .i64 j.groups, .int .i64 j.size, .int .i64 j.slide, .int .i64 j.fold, .int .i64 j.fuel, .int .i64 j.limit, .int .i64 j.delay, .int .i64 j.idle], .agg #[.slice A n c, .int .i64 s.done, .int .i64 s.mark, .int .i64 s.quiet, .bool s.ended]] w (StepPost A n c ((⟨s.evs, s.done, s.mark, s.quiet, true⟩ : Sr), [markIt 1099511627776], 0) w) := by
    have hdn : (s.done == (n : Int)) = true := by simpa using hd
    clear hd
    obtain ⟨i0, hi0, hz0, hz1, hz2⟩ := info_parts infoItm
    have H2 := Lib.hid h2
    clear h2
    go_enter Try.func10, Try.ntmps10
    go_wp2_with fail
    refine (checkS_any j s A n c _ hj hs (reads_alloc (reads_alloc (reads_alloc hr))) hm).mono ?_
    rw [hC0]
    rintro e w1 ⟨rfl, hb1⟩
    obtain ⟨c1, f1⟩ := bcell hb1
    have y1 := hb1.size
    try simp at y1
    have z0_0_1 : w.heap.size < w1.heap.size := by omega
    have z0_1_1 : w.heap.size + 1 < w1.heap.size := by omega
    have z0_2_1 : w.heap.size + 1 + 1 < w1.heap.size := by omega
    have k1 : Below w.heap.size w w1 := next_below (by go_grown) hb1
    have bJ1 : Blk w1 w.heap.size 23 _ := (((Blk.new w 23 #[.int .i64 j.groups, .int .i64 j.size, .int .i64 j.slide, .int .i64 j.fold, .int .i64 j.fuel, .int .i64 j.limit, .int .i64 j.delay, .int .i64 j.idle]).alloc (.cells #[.slice A n c, .int .i64 s.done, .int .i64 s.mark, .int .i64 s.quiet, .bool s.ended] 26)).alloc (.cells #[.slice none 0 0, .int .i64 0, .int .i64 0, .int .i64 0, .bool false] 26)).below hb1 (by simp; omega)
    have bS1 : Blk w1 (w.heap.size + 1) 26 #[.slice A n c, .int .i64 s.done, .int .i64 s.mark, .int .i64 s.quiet, .bool s.ended] := ((by simpa using (Blk.new (w.alloc (.cells #[.int .i64 j.groups, .int .i64 j.size, .int .i64 j.slide, .int .i64 j.fold, .int .i64 j.fuel, .int .i64 j.limit, .int .i64 j.delay, .int .i64 j.idle] 23)) 26 #[.slice A n c, .int .i64 s.done, .int .i64 s.mark, .int .i64 s.quiet, .bool s.ended]).alloc (.cells #[.slice none 0 0, .int .i64 0, .int .i64 0, .int .i64 0, .bool false] 26) : Blk _ (w.heap.size + 1) _ _)).below hb1 (by simp)
    have bR1 : Blk w1 (w.heap.size + 1 + 1) 26 #[.slice none 0 0, .int .i64 0, .int .i64 0, .int .i64 0, .bool false] := ((by simpa using Blk.new ((w.alloc (.cells #[.int .i64 j.groups, .int .i64 j.size, .int .i64 j.slide, .int .i64 j.fold, .int .i64 j.fuel, .int .i64 j.limit, .int .i64 j.delay, .int .i64 j.idle] 23)).alloc (.cells #[.slice A n c, .int .i64 s.done, .int .i64 s.mark, .int .i64 s.quiet, .bool s.ended] 26)) 26 #[.slice none 0 0, .int .i64 0, .int .i64 0, .int .i64 0, .bool false] : Blk _ (w.heap.size + 1 + 1) _ _)).below hb1 (by simp)
    have rr0 : w1.cell? ⟨w.heap.size + 1 + 1, 0, none⟩ = some (.slice none 0 0) := bR1.cell 0
    have rr1 : w1.cell? ⟨w.heap.size + 1 + 1, 1, none⟩ = some (.int .i64 0) := bR1.cell 1
    have rr2 : w1.cell? ⟨w.heap.size + 1 + 1, 2, none⟩ = some (.int .i64 0) := bR1.cell 2
    have rr3 : w1.cell? ⟨w.heap.size + 1 + 1, 3, none⟩ = some (.int .i64 0) := bR1.cell 3
    have rr4 : w1.cell? ⟨w.heap.size + 1 + 1, 4, none⟩ = some (.bool false) := bR1.cell 4
    have fR := bR1.frozen
    have s0 : w1.cell? ⟨w.heap.size + 1, 0, none⟩ = some (.slice A n c) := bS1.cell 0
    have s1 : w1.cell? ⟨w.heap.size + 1, 1, none⟩ = some (.int .i64 s.done) := bS1.cell 1
    have s2 : w1.cell? ⟨w.heap.size + 1, 2, none⟩ = some (.int .i64 s.mark) := bS1.cell 2
    have s3 : w1.cell? ⟨w.heap.size + 1, 3, none⟩ = some (.int .i64 s.quiet) := bS1.cell 3
    have s4 : w1.cell? ⟨w.heap.size + 1, 4, none⟩ = some (.bool s.ended) := bS1.cell 4
    have fS := bS1.frozen
    clear c1 f1
    clear hC0
    rw [H2.out] at s4
    go_upto_region 7 with fail
    have st0 : RefSt j (.slice A n c) s.done s.mark s.quiet s.ended (.slice (some ⟨w1.heap.size, 0, none⟩) 0 0) [] w1.heap.size w (w1.alloc (.cells #[] 43)) := ⟨bJ1.alloc _, bS1.alloc _, bR1.alloc _, World.ownsRow_made w1 #[] 0 (Nat.le_refl _) (by unfold maxLen; omega) rfl, by omega, by simp, k1.alloc k1.size _⟩
    clear bJ1 bS1 bR1
    have kV : Below w.heap.size w (w1.alloc (.cells #[] 43)) := st0.below
    clear hb1 k1
    clear s0 s1 s2 s3 s4 rr0 rr1 rr2 rr3 rr4 fR fS
    generalize w1.alloc (.cells #[] 43) = V at *
    generalize w1.heap.size = bo at *
    have lV := st0.bs.lt
    have s0 : V.cell? ⟨w.heap.size + 1, 0, none⟩ = some (.slice A n c) := st0.bs.cell 0
    have s1 : V.cell? ⟨w.heap.size + 1, 1, none⟩ = some (.int .i64 s.done) := st0.bs.cell 1
    have s2 : V.cell? ⟨w.heap.size + 1, 2, none⟩ = some (.int .i64 s.mark) := st0.bs.cell 2
    have s3 : V.cell? ⟨w.heap.size + 1, 3, none⟩ = some (.int .i64 s.quiet) := st0.bs.cell 3
    have s4 : V.cell? ⟨w.heap.size + 1, 4, none⟩ = some (.bool s.ended) := st0.bs.cell 4
    have rr0 : V.cell? ⟨w.heap.size + 1 + 1, 0, none⟩ = some (.slice none 0 0) := st0.br.cell 0
    have rr1 : V.cell? ⟨w.heap.size + 1 + 1, 1, none⟩ = some (.int .i64 0) := st0.br.cell 1
    have rr2 : V.cell? ⟨w.heap.size + 1 + 1, 2, none⟩ = some (.int .i64 0) := st0.br.cell 2
    have rr3 : V.cell? ⟨w.heap.size + 1 + 1, 3, none⟩ = some (.int .i64 0) := st0.br.cell 3
    have rr4 : V.cell? ⟨w.heap.size + 1 + 1, 4, none⟩ = some (.bool false) := st0.br.cell 4
    have fR := st0.br.frozen
    have fS := st0.bs.frozen
    go_upto_region 9 with fail
    have st := st0.set 4 (.bool true) (ended' := true) rfl
    clear st0 kV
    clear s0 s1 s2 s3 s4 rr0 rr1 rr2 rr3 rr4 fR fS
    generalize V.setCell ⟨w.heap.size + 1, 4, none⟩ (.bool true) = U at *
    have s0 : U.cell? ⟨w.heap.size + 1, 0, none⟩ = some (.slice A n c) := st.bs.cell 0
    have s1 : U.cell? ⟨w.heap.size + 1, 1, none⟩ = some (.int .i64 s.done) := st.bs.cell 1
    have s2 : U.cell? ⟨w.heap.size + 1, 2, none⟩ = some (.int .i64 s.mark) := st.bs.cell 2
    have s3 : U.cell? ⟨w.heap.size + 1, 3, none⟩ = some (.int .i64 s.quiet) := st.bs.cell 3
    have s4 : U.cell? ⟨w.heap.size + 1, 4, none⟩ = some (.bool true) := st.bs.cell 4
    have rr0 : U.cell? ⟨w.heap.size + 1 + 1, 0, none⟩ = some (.slice none 0 0) := st.br.cell 0
    have rr1 : U.cell? ⟨w.heap.size + 1 + 1, 1, none⟩ = some (.int .i64 0) := st.br.cell 1
    have rr2 : U.cell? ⟨w.heap.size + 1 + 1, 2, none⟩ = some (.int .i64 0) := st.br.cell 2
    have rr3 : U.cell? ⟨w.heap.size + 1 + 1, 3, none⟩ = some (.int .i64 0) := st.br.cell 3
    have rr4 : U.cell? ⟨w.heap.size + 1 + 1, 4, none⟩ = some (.bool false) := st.br.cell 4
    have fR := st.br.frozen
    have fS := st.bs.frozen
    go_upto_region 10 with (at_builtin; refine wpList_append_any _ rfl (.tmp 33) (.tmp 35) 27 rfl _ 43 i0 _ 11 104 Try.underlying27 hi0 hz0 hz1 hz2 rfl (by decide) _ _ _ rfl (st.own.alloc _) (U.heap.size + 1) (some ⟨U.heap.size, 0, none⟩) 1 1 #[.int .i64 2, .string ⟨#[]⟩, .int .i64 0, .int .i64 0, .int .i64 1099511627776, .int .i64 0, .int .i64 0, .int .i64 0, .string ⟨#[]⟩, .int .i64 0, .int .i64 0].toList rfl ⟨rfl, fun _ => ⟨_, rfl, by simp, cell_new _ _ _⟩⟩ (by simp [Value.oneCell']) (by simp; unfold maxLen; omega) (by simp) (by have := st.hi; simp; omega) ?_; intro v3 w3 hown hgrow hnb; have st3 := RefSt.app (x := ⟨2, ⟨⟨#[]⟩, 0, 0⟩, 1099511627776⟩) st hown hgrow)
    obtain ⟨A3, c3, rfl⟩ := own_form st3.own
    clear s0 s1 s2 s3 s4 rr0 rr1 rr2 rr3 rr4 fR fS
    have s0 : w3.cell? ⟨w.heap.size + 1, 0, none⟩ = some (.slice A n c) := st3.bs.cell 0
    have s1 : w3.cell? ⟨w.heap.size + 1, 1, none⟩ = some (.int .i64 s.done) := st3.bs.cell 1
    have s2 : w3.cell? ⟨w.heap.size + 1, 2, none⟩ = some (.int .i64 s.mark) := st3.bs.cell 2
    have s3 : w3.cell? ⟨w.heap.size + 1, 3, none⟩ = some (.int .i64 s.quiet) := st3.bs.cell 3
    have s4 : w3.cell? ⟨w.heap.size + 1, 4, none⟩ = some (.bool true) := st3.bs.cell 4
    have rr0 : w3.cell? ⟨w.heap.size + 1 + 1, 0, none⟩ = some (.slice none 0 0) := st3.br.cell 0
    have rr1 : w3.cell? ⟨w.heap.size + 1 + 1, 1, none⟩ = some (.int .i64 0) := st3.br.cell 1
    have rr2 : w3.cell? ⟨w.heap.size + 1 + 1, 2, none⟩ = some (.int .i64 0) := st3.br.cell 2
    have rr3 : w3.cell? ⟨w.heap.size + 1 + 1, 3, none⟩ = some (.int .i64 0) := st3.br.cell 3
    have rr4 : w3.cell? ⟨w.heap.size + 1 + 1, 4, none⟩ = some (.bool false) := st3.br.cell 4
    have fR := st3.br.frozen
    have fS := st3.bs.frozen
    go_wp2
    have bZ := ((((st3.br.set_ 0 (.slice A n c)).set_ 1 (.int .i64 s.done)).set_ 2 (.int .i64 s.mark)).set_ 3 (.int .i64 s.quiet)).set_ 4 (.bool true)
    have e0 : World.cell? _ ⟨w.heap.size + 1 + 1, 0, none⟩ = some (.slice A n c) := bZ.cell 0
    have e1 : World.cell? _ ⟨w.heap.size + 1 + 1, 1, none⟩ = some (.int .i64 s.done) := bZ.cell 1
    have e2 : World.cell? _ ⟨w.heap.size + 1 + 1, 2, none⟩ = some (.int .i64 s.mark) := bZ.cell 2
    have e3 : World.cell? _ ⟨w.heap.size + 1 + 1, 3, none⟩ = some (.int .i64 s.quiet) := bZ.cell 3
    have e4 : World.cell? _ ⟨w.heap.size + 1 + 1, 4, none⟩ = some (.bool true) := bZ.cell 4
    have kB := st3.below
    have kO := st3.own
    have zR := st3.lo
    refine bodyPost_ret (v := .tuple #[.agg #[(.slice A n c), (.int .i64 s.done), (.int .i64 s.mark), (.int .i64 s.quiet), (.bool true)], .slice A3 1 c3, .int .i64 0]) (by simp [results, Try.results10, go_sem, e0, e1, e2, e3, e4]) rfl ?_
    refine ⟨by go_grown, .inl ⟨rfl, .slice A3 1 c3, rfl, ?_⟩⟩
    exact own_mono (own_set (own_set (own_set (own_set (own_set kO (p := ⟨w.heap.size + 1 + 1, 0, none⟩) _ zR) (p := ⟨w.heap.size + 1 + 1, 1, none⟩) _ zR) (p := ⟨w.heap.size + 1 + 1, 2, none⟩) _ zR) (p := ⟨w.heap.size + 1 + 1, 3, none⟩) _ zR) (p := ⟨w.heap.size + 1 + 1, 4, none⟩) _ zR) (by omega)

end Go.Proofs.Ytmlejdcanlgpdaa
