/- Walks of source.step, Next and Tick. -/
import Derived.Test.YtmlejdcanlgpdaaSrc6
namespace Go.Proofs.Ytmlejdcanlgpdaa
open Go.RowKit
set_option linter.unusedVariables false
set_option linter.unusedSimpArgs false

def zeroS : Sr := ⟨[], 0, 0, 0, false⟩
/-- What source.Next and source.Tick make of a source, what they tell, and the error's number. -/
def nextR (j : Jb) (s : Sr) : Sr × List It × Int :=
  if jobB j = false then (zeroS, [], 130) else if srcB s = false then (zeroS, [], 1) else if s.ended = true then (zeroS, [], 210) else nextZ j s
def tickR (j : Jb) (s : Sr) : Sr × List It × Int :=
  if jobB j = false then (zeroS, [], 130) else if srcB s = false then (zeroS, [], 1) else ((waitZ j s).1, (waitZ j s).2, 0)
/-- What a step leaves: a source, or an error's number. -/
def StepPost (A : Option Addr) (n c : Nat) (r : Sr × List It × Int) (w : World) (e : Ending) (w' : World) : Prop :=
  Below w.heap.size w w' ∧ ((r.2.2 = 0 ∧ ∃ v', e = .returned (.tuple #[.agg #[.slice A n c, .int .i64 r.1.done, .int .i64 r.1.mark, .int .i64 r.1.quiet, .bool r.1.ended], v', .int .i64 0]) ∧ w'.ownsRow w.heap.size 43 11 v' r.2.1.length (itms r.2.1)) ∨
    (r.2.2 ≠ 0 ∧ e = .returned (.tuple #[.agg #[.slice none 0 0, .int .i64 0, .int .i64 0, .int .i64 0, .bool false], .slice none 0 0, .int .i64 r.2.2])))
theorem nextZ_ok {j : Jb} {s : Sr} (h : s.ended = false) : (nextZ j s).2.2 = 0 := by
  unfold nextZ
  rw [if_neg (by simp [h])]
  split <;> rfl
/-- What a source's values must be for the walks. -/
structure Sr.Wf (s : Sr) : Prop where
  key : ∀ z ∈ s.evs, z.key.size ≤ maxLen
  v : ∀ z ∈ s.evs, -9223372036854775808 ≤ z.v ∧ z.v ≤ 9223372036854775807
theorem srcB_len {s : Sr} (h : srcB s = true) : s.evs.length ≤ 200 := (inB_iff.1 (srcB_iff.1 h).1).1

set_option maxHeartbeats 400000 in
theorem stepN_mk (p : Value) (w : World) : Calls Try.prog 25 #[p] w fun e w' => e = .returned (.func (.func 26) #[p] #[]) ∧ w = w' := by
  go_enter Try.func25, Try.ntmps25
  go_wp2
  go_ret
  exact ⟨rfl, rfl⟩
set_option maxHeartbeats 4000000 in
theorem stepN_any (j : Jb) (s : Sr) (A : Option Addr) (n c : Nat) (w : World) (hj : j.Wf) (hs : s.Wf) (hr : Reads w w.heap.size 3 A n (evs s.evs)) (hm : n ≤ 9223372036854775807) :
    Calls Try.prog 24 #[.agg #[.int .i64 j.groups, .int .i64 j.size, .int .i64 j.slide, .int .i64 j.fold, .int .i64 j.fuel, .int .i64 j.limit, .int .i64 j.delay, .int .i64 j.idle], .agg #[.slice A n c, .int .i64 s.done, .int .i64 s.mark, .int .i64 s.quiet, .bool s.ended], .func (.func 25) #[] #[]] w (StepPost A n c (nextR j s) w) := by
  have HL := Lib.hid (evs_len hr)
  cases hJ : jobB j
  · have hz : nextR j s = (zeroS, [], 130) := if_pos hJ
    rw [hz]
    go_enter Try.func24, Try.ntmps24
    go_wp2_with fail
    refine (job_any j _ hj).mono ?_
    rw [hJ]
    rintro e w1 ⟨rfl, hb1⟩
    obtain ⟨c1, f1⟩ := bcell hb1
    have y1 := hb1.size
    try simp at y1
    have z0_0_1 : w.heap.size < w1.heap.size := by omega
    have z0_1_1 : w.heap.size + 1 < w1.heap.size := by omega
    have z0_2_1 : w.heap.size + 1 + 1 < w1.heap.size := by omega
    have k1 : Below w.heap.size w w1 := next_below (by go_grown) hb1
    have bJ1 : Blk w1 w.heap.size 23 _ := (((Blk.new w 23 #[.int .i64 j.groups, .int .i64 j.size, .int .i64 j.slide, .int .i64 j.fold, .int .i64 j.fuel, .int .i64 j.limit, .int .i64 j.delay, .int .i64 j.idle]).alloc (.cells #[.slice A n c, .int .i64 s.done, .int .i64 s.mark, .int .i64 s.quiet, .bool s.ended] 26)).alloc (.cells #[.slice none 0 0, .int .i64 0, .int .i64 0, .int .i64 0, .bool false] 26)).below hb1 (by simp; omega)
    have bS1 : Blk w1 (w.heap.size + 1) 26 _ := ((by simpa using (Blk.new (w.alloc (.cells #[.int .i64 j.groups, .int .i64 j.size, .int .i64 j.slide, .int .i64 j.fold, .int .i64 j.fuel, .int .i64 j.limit, .int .i64 j.delay, .int .i64 j.idle] 23)) 26 #[.slice A n c, .int .i64 s.done, .int .i64 s.mark, .int .i64 s.quiet, .bool s.ended]).alloc (.cells #[.slice none 0 0, .int .i64 0, .int .i64 0, .int .i64 0, .bool false] 26) : Blk _ (w.heap.size + 1) _ _)).below hb1 (by simp)
    have bR1 : Blk w1 (w.heap.size + 1 + 1) 26 _ := ((by simpa using Blk.new ((w.alloc (.cells #[.int .i64 j.groups, .int .i64 j.size, .int .i64 j.slide, .int .i64 j.fold, .int .i64 j.fuel, .int .i64 j.limit, .int .i64 j.delay, .int .i64 j.idle] 23)).alloc (.cells #[.slice A n c, .int .i64 s.done, .int .i64 s.mark, .int .i64 s.quiet, .bool s.ended] 26)) 26 #[.slice none 0 0, .int .i64 0, .int .i64 0, .int .i64 0, .bool false] : Blk _ (w.heap.size + 1 + 1) _ _)).below hb1 (by simp)
    clear bJ1 bS1
    have fR := bR1.frozen
    have rr0 : w1.cell? ⟨w.heap.size + 1 + 1, 0, none⟩ = some (.slice none 0 0) := bR1.cell 0
    have rr1 : w1.cell? ⟨w.heap.size + 1 + 1, 1, none⟩ = some (.int .i64 0) := bR1.cell 1
    have rr2 : w1.cell? ⟨w.heap.size + 1 + 1, 2, none⟩ = some (.int .i64 0) := bR1.cell 2
    have rr3 : w1.cell? ⟨w.heap.size + 1 + 1, 3, none⟩ = some (.int .i64 0) := bR1.cell 3
    have rr4 : w1.cell? ⟨w.heap.size + 1 + 1, 4, none⟩ = some (.bool false) := bR1.cell 4
    go_wp2
    exact bodyPost_ret (v := .tuple #[.agg #[.slice none 0 0, .int .i64 0, .int .i64 0, .int .i64 0, .bool false], .slice none 0 0, .int .i64 130]) (by simp [results, Try.results24, go_sem, rr0, rr1, rr2, rr3, rr4, World.cell?_setCell_other]) rfl ⟨by first | assumption | go_grown, .inr ⟨by decide, rfl⟩⟩
  cases hB : srcB s
  · have hz : nextR j s = (zeroS, [], 1) := by unfold nextR; rw [if_neg (by rw [hJ]; simp), if_pos hB]
    rw [hz]
    go_enter Try.func24, Try.ntmps24
    go_wp2_with fail
    refine (job_any j _ hj).mono ?_
    rw [hJ]
    rintro e w1 ⟨rfl, hb1⟩
    obtain ⟨c1, f1⟩ := bcell hb1
    have y1 := hb1.size
    try simp at y1
    have z0_0_1 : w.heap.size < w1.heap.size := by omega
    have z0_1_1 : w.heap.size + 1 < w1.heap.size := by omega
    have z0_2_1 : w.heap.size + 1 + 1 < w1.heap.size := by omega
    have k1 : Below w.heap.size w w1 := next_below (by go_grown) hb1
    have bJ1 : Blk w1 w.heap.size 23 _ := (((Blk.new w 23 #[.int .i64 j.groups, .int .i64 j.size, .int .i64 j.slide, .int .i64 j.fold, .int .i64 j.fuel, .int .i64 j.limit, .int .i64 j.delay, .int .i64 j.idle]).alloc (.cells #[.slice A n c, .int .i64 s.done, .int .i64 s.mark, .int .i64 s.quiet, .bool s.ended] 26)).alloc (.cells #[.slice none 0 0, .int .i64 0, .int .i64 0, .int .i64 0, .bool false] 26)).below hb1 (by simp; omega)
    have bS1 : Blk w1 (w.heap.size + 1) 26 _ := ((by simpa using (Blk.new (w.alloc (.cells #[.int .i64 j.groups, .int .i64 j.size, .int .i64 j.slide, .int .i64 j.fold, .int .i64 j.fuel, .int .i64 j.limit, .int .i64 j.delay, .int .i64 j.idle] 23)) 26 #[.slice A n c, .int .i64 s.done, .int .i64 s.mark, .int .i64 s.quiet, .bool s.ended]).alloc (.cells #[.slice none 0 0, .int .i64 0, .int .i64 0, .int .i64 0, .bool false] 26) : Blk _ (w.heap.size + 1) _ _)).below hb1 (by simp)
    have bR1 : Blk w1 (w.heap.size + 1 + 1) 26 _ := ((by simpa using Blk.new ((w.alloc (.cells #[.int .i64 j.groups, .int .i64 j.size, .int .i64 j.slide, .int .i64 j.fold, .int .i64 j.fuel, .int .i64 j.limit, .int .i64 j.delay, .int .i64 j.idle] 23)).alloc (.cells #[.slice A n c, .int .i64 s.done, .int .i64 s.mark, .int .i64 s.quiet, .bool s.ended] 26)) 26 #[.slice none 0 0, .int .i64 0, .int .i64 0, .int .i64 0, .bool false] : Blk _ (w.heap.size + 1 + 1) _ _)).below hb1 (by simp)
    go_wp2_with fail
    refine (src_any s.done s.mark s.quiet s.ended s.evs A n c _ ((hr.below k1).more k1.size) hm hs.key).mono ?_
    rw [show srcB ⟨s.evs, s.done, s.mark, s.quiet, s.ended⟩ = _ from hB]
    rintro e w2 ⟨rfl, hb2⟩
    obtain ⟨c2, f2⟩ := bcell hb2
    have y2 := hb2.size
    try simp at y2
    have z0_0_2 : w.heap.size < w2.heap.size := by omega
    have z0_1_2 : w.heap.size + 1 < w2.heap.size := by omega
    have z0_2_2 : w.heap.size + 1 + 1 < w2.heap.size := by omega
    have k2 : Below w.heap.size w w2 := next_below (by go_grown) hb2
    have bJ2 := bJ1.below hb2 bJ1.lt
    have bS2 := bS1.below hb2 bS1.lt
    have bR2 := bR1.below hb2 bR1.lt
    clear bJ1 bS1 bR1 bJ2 bS2
    have fR := bR2.frozen
    have rr0 : w2.cell? ⟨w.heap.size + 1 + 1, 0, none⟩ = some (.slice none 0 0) := bR2.cell 0
    have rr1 : w2.cell? ⟨w.heap.size + 1 + 1, 1, none⟩ = some (.int .i64 0) := bR2.cell 1
    have rr2 : w2.cell? ⟨w.heap.size + 1 + 1, 2, none⟩ = some (.int .i64 0) := bR2.cell 2
    have rr3 : w2.cell? ⟨w.heap.size + 1 + 1, 3, none⟩ = some (.int .i64 0) := bR2.cell 3
    have rr4 : w2.cell? ⟨w.heap.size + 1 + 1, 4, none⟩ = some (.bool false) := bR2.cell 4
    go_wp2
    exact bodyPost_ret (v := .tuple #[.agg #[.slice none 0 0, .int .i64 0, .int .i64 0, .int .i64 0, .bool false], .slice none 0 0, .int .i64 1]) (by simp [results, Try.results24, go_sem, rr0, rr1, rr2, rr3, rr4, World.cell?_setCell_other]) rfl ⟨by first | assumption | go_grown, .inr ⟨by decide, rfl⟩⟩
  have hsr := srcB_iff.1 hB
  have hl200 := srcB_len hB
  have hn200 : n ≤ 200 := by have := HL.out; omega
  by_cases hE : s.ended = true
  · have hz : nextR j s = (zeroS, [], 210) := by unfold nextR; rw [if_neg (by rw [hJ]; simp), if_neg (by rw [hB]; simp), if_pos hE]
    have hz' : nextZ j s = (s, [], 210) := if_pos hE
    rw [hz]
    have HE := Lib.hid hE
    clear hE hz
    go_enter Try.func24, Try.ntmps24
    go_wp2_with fail
    refine (job_any j _ hj).mono ?_
    rw [hJ]
    rintro e w1 ⟨rfl, hb1⟩
    obtain ⟨c1, f1⟩ := bcell hb1
    have y1 := hb1.size
    try simp at y1
    have z0_0_1 : w.heap.size < w1.heap.size := by omega
    have z0_1_1 : w.heap.size + 1 < w1.heap.size := by omega
    have z0_2_1 : w.heap.size + 1 + 1 < w1.heap.size := by omega
    have k1 : Below w.heap.size w w1 := next_below (by go_grown) hb1
    have bJ1 : Blk w1 w.heap.size 23 _ := (((Blk.new w 23 #[.int .i64 j.groups, .int .i64 j.size, .int .i64 j.slide, .int .i64 j.fold, .int .i64 j.fuel, .int .i64 j.limit, .int .i64 j.delay, .int .i64 j.idle]).alloc (.cells #[.slice A n c, .int .i64 s.done, .int .i64 s.mark, .int .i64 s.quiet, .bool s.ended] 26)).alloc (.cells #[.slice none 0 0, .int .i64 0, .int .i64 0, .int .i64 0, .bool false] 26)).below hb1 (by simp; omega)
    have bS1 : Blk w1 (w.heap.size + 1) 26 _ := ((by simpa using (Blk.new (w.alloc (.cells #[.int .i64 j.groups, .int .i64 j.size, .int .i64 j.slide, .int .i64 j.fold, .int .i64 j.fuel, .int .i64 j.limit, .int .i64 j.delay, .int .i64 j.idle] 23)) 26 #[.slice A n c, .int .i64 s.done, .int .i64 s.mark, .int .i64 s.quiet, .bool s.ended]).alloc (.cells #[.slice none 0 0, .int .i64 0, .int .i64 0, .int .i64 0, .bool false] 26) : Blk _ (w.heap.size + 1) _ _)).below hb1 (by simp)
    have bR1 : Blk w1 (w.heap.size + 1 + 1) 26 _ := ((by simpa using Blk.new ((w.alloc (.cells #[.int .i64 j.groups, .int .i64 j.size, .int .i64 j.slide, .int .i64 j.fold, .int .i64 j.fuel, .int .i64 j.limit, .int .i64 j.delay, .int .i64 j.idle] 23)).alloc (.cells #[.slice A n c, .int .i64 s.done, .int .i64 s.mark, .int .i64 s.quiet, .bool s.ended] 26)) 26 #[.slice none 0 0, .int .i64 0, .int .i64 0, .int .i64 0, .bool false] : Blk _ (w.heap.size + 1 + 1) _ _)).below hb1 (by simp)
    go_wp2_with fail
    refine (src_any s.done s.mark s.quiet s.ended s.evs A n c _ ((hr.below k1).more k1.size) hm hs.key).mono ?_
    rw [show srcB ⟨s.evs, s.done, s.mark, s.quiet, s.ended⟩ = _ from hB]
    rintro e w2 ⟨rfl, hb2⟩
    obtain ⟨c2, f2⟩ := bcell hb2
    have y2 := hb2.size
    try simp at y2
    have z0_0_2 : w.heap.size < w2.heap.size := by omega
    have z0_1_2 : w.heap.size + 1 < w2.heap.size := by omega
    have z0_2_2 : w.heap.size + 1 + 1 < w2.heap.size := by omega
    have k2 : Below w.heap.size w w2 := next_below (by go_grown) hb2
    have bJ2 := bJ1.below hb2 bJ1.lt
    have bS2 := bS1.below hb2 bS1.lt
    have bR2 := bR1.below hb2 bR1.lt
    go_wp2_with fail
    refine (stepN_mk _ _).mono ?_
    rintro e w2' ⟨rfl, rfl⟩
    have bW3 := Blk.new w2 76 (wayC j (.slice A n c) s.done s.mark s.quiet s.ended (.slice none 0 0))
    have bR3 := bR2.alloc (.cells (wayC j (.slice A n c) s.done s.mark s.quiet s.ended (.slice none 0 0)) 76)
    have k3 := k2.alloc k2.size (.cells (wayC j (.slice A n c) s.done s.mark s.quiet s.ended (.slice none 0 0)) 76)
    have hr3 := (((hr.below k2).more k2.size).alloc (Nat.le_refl _) (.cells (wayC j (.slice A n c) s.done s.mark s.quiet s.ended (.slice none 0 0)) 76)).more (by simp : w2.heap.size ≤ (w2.alloc (.cells (wayC j (.slice A n c) s.done s.mark s.quiet s.ended (.slice none 0 0)) 76)).heap.size)
    have hA3 : ∀ ad, A = some ad → 0 < n → ad.block < w2.heap.size := fun ad e h0 => by obtain ⟨ad', e', hlt, _⟩ := ((hr.below k2).more k2.size).2 h0; rw [e] at e'; injection e' with e'; subst e'; exact hlt
    have hw3 : w2.heap.size < (w2.alloc (.cells (wayC j (.slice A n c) s.done s.mark s.quiet s.ended (.slice none 0 0)) 76)).heap.size := by simp
    have hw3' : w2.heap.size + 1 ≤ (w2.alloc (.cells (wayC j (.slice A n c) s.done s.mark s.quiet s.ended (.slice none 0 0)) 76)).heap.size := by simp
    go_wp2_with fail
    refine (next_any w2.heap.size (w2.heap.size + 1) j A n c s _ bW3 hw3' (by omega) hr3 (by omega) ⟨hsr.2.1.1, by have := HL.out; omega⟩ hj.limit hs.v (fun ad e h0 => by have := hA3 ad e h0; omega)).mono ?_
    rw [hz']
    rintro e w4 ⟨rfl, v4, bQ4, hO4, T4⟩
    have bR4 : Blk w4 (w.heap.size + 1 + 1) 26 _ := T4.blk bR3 (by omega) (by simp [Value.ownBlock])
    have k4 : Below w.heap.size w w4 := T4.lift _ _ k3 (by omega) (by omega) (by simp; omega)
    have fR := bR4.frozen
    have y4 := k4.size
    have n4 : w.heap.size + 1 + 1 ≠ w2.heap.size := by omega
    clear bJ1 bS1 bR1 bJ2 bS2 bR2 bW3 bR3 c1 f1 c2 f2
    have rr0 : w4.cell? ⟨w.heap.size + 1 + 1, 0, none⟩ = some (.slice none 0 0) := bR4.cell 0
    have rr1 : w4.cell? ⟨w.heap.size + 1 + 1, 1, none⟩ = some (.int .i64 0) := bR4.cell 1
    have rr2 : w4.cell? ⟨w.heap.size + 1 + 1, 2, none⟩ = some (.int .i64 0) := bR4.cell 2
    have rr3 : w4.cell? ⟨w.heap.size + 1 + 1, 3, none⟩ = some (.int .i64 0) := bR4.cell 3
    have rr4 : w4.cell? ⟨w.heap.size + 1 + 1, 4, none⟩ = some (.bool false) := bR4.cell 4
    go_wp2
    exact bodyPost_ret (v := .tuple #[.agg #[.slice none 0 0, .int .i64 0, .int .i64 0, .int .i64 0, .bool false], .slice none 0 0, .int .i64 210]) (by simp [results, Try.results24, go_sem, rr0, rr1, rr2, rr3, rr4, World.cell?_setCell_other]) rfl ⟨by first | assumption | go_grown, .inr ⟨by decide, rfl⟩⟩

  have hz : nextR j s = nextZ j s := by unfold nextR; rw [if_neg (by rw [hJ]; simp), if_neg (by rw [hB]; simp), if_neg hE]
  have hz' : (nextZ j s).2.2 = 0 := nextZ_ok (by simpa using hE)
  have hzz : nextZ j s = ((nextZ j s).1, (nextZ j s).2.1, 0) := by rw [← hz']
  rw [hz, hzz]
  clear hzz
  · clear hE hz
    go_enter Try.func24, Try.ntmps24
    go_wp2_with fail
    refine (job_any j _ hj).mono ?_
    rw [hJ]
    rintro e w1 ⟨rfl, hb1⟩
    obtain ⟨c1, f1⟩ := bcell hb1
    have y1 := hb1.size
    try simp at y1
    have z0_0_1 : w.heap.size < w1.heap.size := by omega
    have z0_1_1 : w.heap.size + 1 < w1.heap.size := by omega
    have z0_2_1 : w.heap.size + 1 + 1 < w1.heap.size := by omega
    have k1 : Below w.heap.size w w1 := next_below (by go_grown) hb1
    have bJ1 : Blk w1 w.heap.size 23 _ := (((Blk.new w 23 #[.int .i64 j.groups, .int .i64 j.size, .int .i64 j.slide, .int .i64 j.fold, .int .i64 j.fuel, .int .i64 j.limit, .int .i64 j.delay, .int .i64 j.idle]).alloc (.cells #[.slice A n c, .int .i64 s.done, .int .i64 s.mark, .int .i64 s.quiet, .bool s.ended] 26)).alloc (.cells #[.slice none 0 0, .int .i64 0, .int .i64 0, .int .i64 0, .bool false] 26)).below hb1 (by simp; omega)
    have bS1 : Blk w1 (w.heap.size + 1) 26 _ := ((by simpa using (Blk.new (w.alloc (.cells #[.int .i64 j.groups, .int .i64 j.size, .int .i64 j.slide, .int .i64 j.fold, .int .i64 j.fuel, .int .i64 j.limit, .int .i64 j.delay, .int .i64 j.idle] 23)) 26 #[.slice A n c, .int .i64 s.done, .int .i64 s.mark, .int .i64 s.quiet, .bool s.ended]).alloc (.cells #[.slice none 0 0, .int .i64 0, .int .i64 0, .int .i64 0, .bool false] 26) : Blk _ (w.heap.size + 1) _ _)).below hb1 (by simp)
    have bR1 : Blk w1 (w.heap.size + 1 + 1) 26 _ := ((by simpa using Blk.new ((w.alloc (.cells #[.int .i64 j.groups, .int .i64 j.size, .int .i64 j.slide, .int .i64 j.fold, .int .i64 j.fuel, .int .i64 j.limit, .int .i64 j.delay, .int .i64 j.idle] 23)).alloc (.cells #[.slice A n c, .int .i64 s.done, .int .i64 s.mark, .int .i64 s.quiet, .bool s.ended] 26)) 26 #[.slice none 0 0, .int .i64 0, .int .i64 0, .int .i64 0, .bool false] : Blk _ (w.heap.size + 1 + 1) _ _)).below hb1 (by simp)
    go_wp2_with fail
    refine (src_any s.done s.mark s.quiet s.ended s.evs A n c _ ((hr.below k1).more k1.size) hm hs.key).mono ?_
    rw [show srcB ⟨s.evs, s.done, s.mark, s.quiet, s.ended⟩ = _ from hB]
    rintro e w2 ⟨rfl, hb2⟩
    obtain ⟨c2, f2⟩ := bcell hb2
    have y2 := hb2.size
    try simp at y2
    have z0_0_2 : w.heap.size < w2.heap.size := by omega
    have z0_1_2 : w.heap.size + 1 < w2.heap.size := by omega
    have z0_2_2 : w.heap.size + 1 + 1 < w2.heap.size := by omega
    have k2 : Below w.heap.size w w2 := next_below (by go_grown) hb2
    have bJ2 := bJ1.below hb2 bJ1.lt
    have bS2 := bS1.below hb2 bS1.lt
    have bR2 := bR1.below hb2 bR1.lt
    go_wp2_with fail
    refine (stepN_mk _ _).mono ?_
    rintro e w2' ⟨rfl, rfl⟩
    have bW3 := Blk.new w2 76 (wayC j (.slice A n c) s.done s.mark s.quiet s.ended (.slice none 0 0))
    have bR3 := bR2.alloc (.cells (wayC j (.slice A n c) s.done s.mark s.quiet s.ended (.slice none 0 0)) 76)
    have k3 := k2.alloc k2.size (.cells (wayC j (.slice A n c) s.done s.mark s.quiet s.ended (.slice none 0 0)) 76)
    have hr3 := (((hr.below k2).more k2.size).alloc (Nat.le_refl _) (.cells (wayC j (.slice A n c) s.done s.mark s.quiet s.ended (.slice none 0 0)) 76)).more (by simp : w2.heap.size ≤ (w2.alloc (.cells (wayC j (.slice A n c) s.done s.mark s.quiet s.ended (.slice none 0 0)) 76)).heap.size)
    have hA3 : ∀ ad, A = some ad → 0 < n → ad.block < w2.heap.size := fun ad e h0 => by obtain ⟨ad', e', hlt, _⟩ := ((hr.below k2).more k2.size).2 h0; rw [e] at e'; injection e' with e'; subst e'; exact hlt
    have hw3 : w2.heap.size < (w2.alloc (.cells (wayC j (.slice A n c) s.done s.mark s.quiet s.ended (.slice none 0 0)) 76)).heap.size := by simp
    have hw3' : w2.heap.size + 1 ≤ (w2.alloc (.cells (wayC j (.slice A n c) s.done s.mark s.quiet s.ended (.slice none 0 0)) 76)).heap.size := by simp
    go_wp2_with fail
    refine (next_any w2.heap.size (w2.heap.size + 1) j A n c s _ bW3 hw3' (by omega) hr3 (by omega) ⟨hsr.2.1.1, by have := HL.out; omega⟩ hj.limit hs.v (fun ad e h0 => by have := hA3 ad e h0; omega)).mono ?_
    rw [hz']
    rintro e w4 ⟨rfl, v4, bQ4, hO4, T4⟩
    have bR4 : Blk w4 (w.heap.size + 1 + 1) 26 _ := T4.blk bR3 (by omega) (by simp [Value.ownBlock])
    have k4 : Below w.heap.size w w4 := T4.lift _ _ k3 (by omega) (by omega) (by simp; omega)
    have fR := bR4.frozen
    have y4 := k4.size
    have n4 : w.heap.size + 1 + 1 ≠ w2.heap.size := by omega
    clear bJ1 bS1 bR1 bJ2 bS2 bR2 bW3 bR3 c1 f1 c2 f2
    have rr0 : w4.cell? ⟨w.heap.size + 1 + 1, 0, none⟩ = some (.slice none 0 0) := bR4.cell 0
    have rr1 : w4.cell? ⟨w.heap.size + 1 + 1, 1, none⟩ = some (.int .i64 0) := bR4.cell 1
    have rr2 : w4.cell? ⟨w.heap.size + 1 + 1, 2, none⟩ = some (.int .i64 0) := bR4.cell 2
    have rr3 : w4.cell? ⟨w.heap.size + 1 + 1, 3, none⟩ = some (.int .i64 0) := bR4.cell 3
    have rr4 : w4.cell? ⟨w.heap.size + 1 + 1, 4, none⟩ = some (.bool false) := bR4.cell 4
    obtain ⟨r, hr'⟩ : ∃ r, (nextZ j s).1 = r := ⟨_, rfl⟩
    obtain ⟨l, hl'⟩ : ∃ l, (nextZ j s).2.1 = l := ⟨_, rfl⟩
    try simp only at bQ4 hO4
    rw [hr'] at bQ4
    rw [hl'] at hO4
    have HR' := Lib.hid hr'
    have HL' := Lib.hid hl'
    clear hr' hl'
    have q8 : w4.cell? ⟨w2.heap.size, 8, none⟩ = some (.slice A n c) := bQ4.cell 8
    have q9 : w4.cell? ⟨w2.heap.size, 9, none⟩ = some (.int .i64 r.done) := bQ4.cell 9
    have q10 : w4.cell? ⟨w2.heap.size, 10, none⟩ = some (.int .i64 r.mark) := bQ4.cell 10
    have q11 : w4.cell? ⟨w2.heap.size, 11, none⟩ = some (.int .i64 r.quiet) := bQ4.cell 11
    have q12 : w4.cell? ⟨w2.heap.size, 12, none⟩ = some (.bool r.ended) := bQ4.cell 12
    have q13 : w4.cell? ⟨w2.heap.size, 13, none⟩ = some v4 := bQ4.cell 13
    go_wp2_with fail
    go_region
    go_wp2
    have bZ := ((((bR4.set_ 0 (.slice A n c)).set_ 1 (.int .i64 r.done)).set_ 2 (.int .i64 r.mark)).set_ 3 (.int .i64 r.quiet)).set_ 4 (.bool r.ended)
    have e0 : World.cell? _ ⟨w.heap.size + 1 + 1, 0, none⟩ = some (.slice A n c) := bZ.cell 0
    have e1 : World.cell? _ ⟨w.heap.size + 1 + 1, 1, none⟩ = some (.int .i64 r.done) := bZ.cell 1
    have e2 : World.cell? _ ⟨w.heap.size + 1 + 1, 2, none⟩ = some (.int .i64 r.mark) := bZ.cell 2
    have e3 : World.cell? _ ⟨w.heap.size + 1 + 1, 3, none⟩ = some (.int .i64 r.quiet) := bZ.cell 3
    have e4 : World.cell? _ ⟨w.heap.size + 1 + 1, 4, none⟩ = some (.bool r.ended) := bZ.cell 4
    refine bodyPost_ret (v := .tuple #[.agg #[(.slice A n c), (.int .i64 r.done), (.int .i64 r.mark), (.int .i64 r.quiet), (.bool r.ended)], v4, .int .i64 0]) (by simp [results, Try.results24, go_sem, e0, e1, e2, e3, e4]) rfl ?_
    rw [HR'.out, HL'.out]
    refine ⟨by go_grown, .inl ⟨rfl, v4, rfl, ?_⟩⟩
    have zR : w.heap.size + 1 + 1 < w2.heap.size + 1 := by omega
    exact own_mono (own_set (own_set (own_set (own_set (own_set hO4 (p := ⟨w.heap.size + 1 + 1, 0, none⟩) _ zR) (p := ⟨w.heap.size + 1 + 1, 1, none⟩) _ zR) (p := ⟨w.heap.size + 1 + 1, 2, none⟩) _ zR) (p := ⟨w.heap.size + 1 + 1, 3, none⟩) _ zR) (p := ⟨w.heap.size + 1 + 1, 4, none⟩) _ zR) (by omega)

set_option maxHeartbeats 400000 in
theorem stepT_mk (p : Value) (w : World) : Calls Try.prog 30 #[p] w fun e w' => e = .returned (.func (.func 31) #[p] #[]) ∧ w = w' := by
  go_enter Try.func30, Try.ntmps30
  go_wp2
  go_ret
  exact ⟨rfl, rfl⟩
set_option maxHeartbeats 4000000 in
theorem stepT_any (j : Jb) (s : Sr) (A : Option Addr) (n c : Nat) (w : World) (hj : j.Wf) (hs : s.Wf) (hr : Reads w w.heap.size 3 A n (evs s.evs)) (hm : n ≤ 9223372036854775807) :
    Calls Try.prog 24 #[.agg #[.int .i64 j.groups, .int .i64 j.size, .int .i64 j.slide, .int .i64 j.fold, .int .i64 j.fuel, .int .i64 j.limit, .int .i64 j.delay, .int .i64 j.idle], .agg #[.slice A n c, .int .i64 s.done, .int .i64 s.mark, .int .i64 s.quiet, .bool s.ended], .func (.func 30) #[] #[]] w (StepPost A n c (tickR j s) w) := by
  have HL := Lib.hid (evs_len hr)
  cases hJ : jobB j
  · have hz : tickR j s = (zeroS, [], 130) := if_pos hJ
    rw [hz]
    go_enter Try.func24, Try.ntmps24
    go_wp2_with fail
    refine (job_any j _ hj).mono ?_
    rw [hJ]
    rintro e w1 ⟨rfl, hb1⟩
    obtain ⟨c1, f1⟩ := bcell hb1
    have y1 := hb1.size
    try simp at y1
    have z0_0_1 : w.heap.size < w1.heap.size := by omega
    have z0_1_1 : w.heap.size + 1 < w1.heap.size := by omega
    have z0_2_1 : w.heap.size + 1 + 1 < w1.heap.size := by omega
    have k1 : Below w.heap.size w w1 := next_below (by go_grown) hb1
    have bJ1 : Blk w1 w.heap.size 23 _ := (((Blk.new w 23 #[.int .i64 j.groups, .int .i64 j.size, .int .i64 j.slide, .int .i64 j.fold, .int .i64 j.fuel, .int .i64 j.limit, .int .i64 j.delay, .int .i64 j.idle]).alloc (.cells #[.slice A n c, .int .i64 s.done, .int .i64 s.mark, .int .i64 s.quiet, .bool s.ended] 26)).alloc (.cells #[.slice none 0 0, .int .i64 0, .int .i64 0, .int .i64 0, .bool false] 26)).below hb1 (by simp; omega)
    have bS1 : Blk w1 (w.heap.size + 1) 26 _ := ((by simpa using (Blk.new (w.alloc (.cells #[.int .i64 j.groups, .int .i64 j.size, .int .i64 j.slide, .int .i64 j.fold, .int .i64 j.fuel, .int .i64 j.limit, .int .i64 j.delay, .int .i64 j.idle] 23)) 26 #[.slice A n c, .int .i64 s.done, .int .i64 s.mark, .int .i64 s.quiet, .bool s.ended]).alloc (.cells #[.slice none 0 0, .int .i64 0, .int .i64 0, .int .i64 0, .bool false] 26) : Blk _ (w.heap.size + 1) _ _)).below hb1 (by simp)
    have bR1 : Blk w1 (w.heap.size + 1 + 1) 26 _ := ((by simpa using Blk.new ((w.alloc (.cells #[.int .i64 j.groups, .int .i64 j.size, .int .i64 j.slide, .int .i64 j.fold, .int .i64 j.fuel, .int .i64 j.limit, .int .i64 j.delay, .int .i64 j.idle] 23)).alloc (.cells #[.slice A n c, .int .i64 s.done, .int .i64 s.mark, .int .i64 s.quiet, .bool s.ended] 26)) 26 #[.slice none 0 0, .int .i64 0, .int .i64 0, .int .i64 0, .bool false] : Blk _ (w.heap.size + 1 + 1) _ _)).below hb1 (by simp)
    clear bJ1 bS1
    have fR := bR1.frozen
    have rr0 : w1.cell? ⟨w.heap.size + 1 + 1, 0, none⟩ = some (.slice none 0 0) := bR1.cell 0
    have rr1 : w1.cell? ⟨w.heap.size + 1 + 1, 1, none⟩ = some (.int .i64 0) := bR1.cell 1
    have rr2 : w1.cell? ⟨w.heap.size + 1 + 1, 2, none⟩ = some (.int .i64 0) := bR1.cell 2
    have rr3 : w1.cell? ⟨w.heap.size + 1 + 1, 3, none⟩ = some (.int .i64 0) := bR1.cell 3
    have rr4 : w1.cell? ⟨w.heap.size + 1 + 1, 4, none⟩ = some (.bool false) := bR1.cell 4
    go_wp2
    exact bodyPost_ret (v := .tuple #[.agg #[.slice none 0 0, .int .i64 0, .int .i64 0, .int .i64 0, .bool false], .slice none 0 0, .int .i64 130]) (by simp [results, Try.results24, go_sem, rr0, rr1, rr2, rr3, rr4, World.cell?_setCell_other]) rfl ⟨by first | assumption | go_grown, .inr ⟨by decide, rfl⟩⟩
  cases hB : srcB s
  · have hz : tickR j s = (zeroS, [], 1) := by unfold tickR; rw [if_neg (by rw [hJ]; simp), if_pos hB]
    rw [hz]
    go_enter Try.func24, Try.ntmps24
    go_wp2_with fail
    refine (job_any j _ hj).mono ?_
    rw [hJ]
    rintro e w1 ⟨rfl, hb1⟩
    obtain ⟨c1, f1⟩ := bcell hb1
    have y1 := hb1.size
    try simp at y1
    have z0_0_1 : w.heap.size < w1.heap.size := by omega
    have z0_1_1 : w.heap.size + 1 < w1.heap.size := by omega
    have z0_2_1 : w.heap.size + 1 + 1 < w1.heap.size := by omega
    have k1 : Below w.heap.size w w1 := next_below (by go_grown) hb1
    have bJ1 : Blk w1 w.heap.size 23 _ := (((Blk.new w 23 #[.int .i64 j.groups, .int .i64 j.size, .int .i64 j.slide, .int .i64 j.fold, .int .i64 j.fuel, .int .i64 j.limit, .int .i64 j.delay, .int .i64 j.idle]).alloc (.cells #[.slice A n c, .int .i64 s.done, .int .i64 s.mark, .int .i64 s.quiet, .bool s.ended] 26)).alloc (.cells #[.slice none 0 0, .int .i64 0, .int .i64 0, .int .i64 0, .bool false] 26)).below hb1 (by simp; omega)
    have bS1 : Blk w1 (w.heap.size + 1) 26 _ := ((by simpa using (Blk.new (w.alloc (.cells #[.int .i64 j.groups, .int .i64 j.size, .int .i64 j.slide, .int .i64 j.fold, .int .i64 j.fuel, .int .i64 j.limit, .int .i64 j.delay, .int .i64 j.idle] 23)) 26 #[.slice A n c, .int .i64 s.done, .int .i64 s.mark, .int .i64 s.quiet, .bool s.ended]).alloc (.cells #[.slice none 0 0, .int .i64 0, .int .i64 0, .int .i64 0, .bool false] 26) : Blk _ (w.heap.size + 1) _ _)).below hb1 (by simp)
    have bR1 : Blk w1 (w.heap.size + 1 + 1) 26 _ := ((by simpa using Blk.new ((w.alloc (.cells #[.int .i64 j.groups, .int .i64 j.size, .int .i64 j.slide, .int .i64 j.fold, .int .i64 j.fuel, .int .i64 j.limit, .int .i64 j.delay, .int .i64 j.idle] 23)).alloc (.cells #[.slice A n c, .int .i64 s.done, .int .i64 s.mark, .int .i64 s.quiet, .bool s.ended] 26)) 26 #[.slice none 0 0, .int .i64 0, .int .i64 0, .int .i64 0, .bool false] : Blk _ (w.heap.size + 1 + 1) _ _)).below hb1 (by simp)
    go_wp2_with fail
    refine (src_any s.done s.mark s.quiet s.ended s.evs A n c _ ((hr.below k1).more k1.size) hm hs.key).mono ?_
    rw [show srcB ⟨s.evs, s.done, s.mark, s.quiet, s.ended⟩ = _ from hB]
    rintro e w2 ⟨rfl, hb2⟩
    obtain ⟨c2, f2⟩ := bcell hb2
    have y2 := hb2.size
    try simp at y2
    have z0_0_2 : w.heap.size < w2.heap.size := by omega
    have z0_1_2 : w.heap.size + 1 < w2.heap.size := by omega
    have z0_2_2 : w.heap.size + 1 + 1 < w2.heap.size := by omega
    have k2 : Below w.heap.size w w2 := next_below (by go_grown) hb2
    have bJ2 := bJ1.below hb2 bJ1.lt
    have bS2 := bS1.below hb2 bS1.lt
    have bR2 := bR1.below hb2 bR1.lt
    clear bJ1 bS1 bR1 bJ2 bS2
    have fR := bR2.frozen
    have rr0 : w2.cell? ⟨w.heap.size + 1 + 1, 0, none⟩ = some (.slice none 0 0) := bR2.cell 0
    have rr1 : w2.cell? ⟨w.heap.size + 1 + 1, 1, none⟩ = some (.int .i64 0) := bR2.cell 1
    have rr2 : w2.cell? ⟨w.heap.size + 1 + 1, 2, none⟩ = some (.int .i64 0) := bR2.cell 2
    have rr3 : w2.cell? ⟨w.heap.size + 1 + 1, 3, none⟩ = some (.int .i64 0) := bR2.cell 3
    have rr4 : w2.cell? ⟨w.heap.size + 1 + 1, 4, none⟩ = some (.bool false) := bR2.cell 4
    go_wp2
    exact bodyPost_ret (v := .tuple #[.agg #[.slice none 0 0, .int .i64 0, .int .i64 0, .int .i64 0, .bool false], .slice none 0 0, .int .i64 1]) (by simp [results, Try.results24, go_sem, rr0, rr1, rr2, rr3, rr4, World.cell?_setCell_other]) rfl ⟨by first | assumption | go_grown, .inr ⟨by decide, rfl⟩⟩
  have hsr := srcB_iff.1 hB
  have hl200 := srcB_len hB
  have hn200 : n ≤ 200 := by have := HL.out; omega
  have hz : tickR j s = ((waitZ j s).1, (waitZ j s).2, 0) := by unfold tickR; rw [if_neg (by rw [hJ]; simp), if_neg (by rw [hB]; simp)]
  rw [hz]
  · clear hz
    go_enter Try.func24, Try.ntmps24
    go_wp2_with fail
    refine (job_any j _ hj).mono ?_
    rw [hJ]
    rintro e w1 ⟨rfl, hb1⟩
    obtain ⟨c1, f1⟩ := bcell hb1
    have y1 := hb1.size
    try simp at y1
    have z0_0_1 : w.heap.size < w1.heap.size := by omega
    have z0_1_1 : w.heap.size + 1 < w1.heap.size := by omega
    have z0_2_1 : w.heap.size + 1 + 1 < w1.heap.size := by omega
    have k1 : Below w.heap.size w w1 := next_below (by go_grown) hb1
    have bJ1 : Blk w1 w.heap.size 23 _ := (((Blk.new w 23 #[.int .i64 j.groups, .int .i64 j.size, .int .i64 j.slide, .int .i64 j.fold, .int .i64 j.fuel, .int .i64 j.limit, .int .i64 j.delay, .int .i64 j.idle]).alloc (.cells #[.slice A n c, .int .i64 s.done, .int .i64 s.mark, .int .i64 s.quiet, .bool s.ended] 26)).alloc (.cells #[.slice none 0 0, .int .i64 0, .int .i64 0, .int .i64 0, .bool false] 26)).below hb1 (by simp; omega)
    have bS1 : Blk w1 (w.heap.size + 1) 26 _ := ((by simpa using (Blk.new (w.alloc (.cells #[.int .i64 j.groups, .int .i64 j.size, .int .i64 j.slide, .int .i64 j.fold, .int .i64 j.fuel, .int .i64 j.limit, .int .i64 j.delay, .int .i64 j.idle] 23)) 26 #[.slice A n c, .int .i64 s.done, .int .i64 s.mark, .int .i64 s.quiet, .bool s.ended]).alloc (.cells #[.slice none 0 0, .int .i64 0, .int .i64 0, .int .i64 0, .bool false] 26) : Blk _ (w.heap.size + 1) _ _)).below hb1 (by simp)
    have bR1 : Blk w1 (w.heap.size + 1 + 1) 26 _ := ((by simpa using Blk.new ((w.alloc (.cells #[.int .i64 j.groups, .int .i64 j.size, .int .i64 j.slide, .int .i64 j.fold, .int .i64 j.fuel, .int .i64 j.limit, .int .i64 j.delay, .int .i64 j.idle] 23)).alloc (.cells #[.slice A n c, .int .i64 s.done, .int .i64 s.mark, .int .i64 s.quiet, .bool s.ended] 26)) 26 #[.slice none 0 0, .int .i64 0, .int .i64 0, .int .i64 0, .bool false] : Blk _ (w.heap.size + 1 + 1) _ _)).below hb1 (by simp)
    go_wp2_with fail
    refine (src_any s.done s.mark s.quiet s.ended s.evs A n c _ ((hr.below k1).more k1.size) hm hs.key).mono ?_
    rw [show srcB ⟨s.evs, s.done, s.mark, s.quiet, s.ended⟩ = _ from hB]
    rintro e w2 ⟨rfl, hb2⟩
    obtain ⟨c2, f2⟩ := bcell hb2
    have y2 := hb2.size
    try simp at y2
    have z0_0_2 : w.heap.size < w2.heap.size := by omega
    have z0_1_2 : w.heap.size + 1 < w2.heap.size := by omega
    have z0_2_2 : w.heap.size + 1 + 1 < w2.heap.size := by omega
    have k2 : Below w.heap.size w w2 := next_below (by go_grown) hb2
    have bJ2 := bJ1.below hb2 bJ1.lt
    have bS2 := bS1.below hb2 bS1.lt
    have bR2 := bR1.below hb2 bR1.lt
    go_wp2_with fail
    refine (stepT_mk _ _).mono ?_
    rintro e w2' ⟨rfl, rfl⟩
    have bW3 := Blk.new w2 76 (wayC j (.slice A n c) s.done s.mark s.quiet s.ended (.slice none 0 0))
    have bR3 := bR2.alloc (.cells (wayC j (.slice A n c) s.done s.mark s.quiet s.ended (.slice none 0 0)) 76)
    have k3 := k2.alloc k2.size (.cells (wayC j (.slice A n c) s.done s.mark s.quiet s.ended (.slice none 0 0)) 76)
    have hr3 := (((hr.below k2).more k2.size).alloc (Nat.le_refl _) (.cells (wayC j (.slice A n c) s.done s.mark s.quiet s.ended (.slice none 0 0)) 76)).more (by simp : w2.heap.size ≤ (w2.alloc (.cells (wayC j (.slice A n c) s.done s.mark s.quiet s.ended (.slice none 0 0)) 76)).heap.size)
    have hA3 : ∀ ad, A = some ad → 0 < n → ad.block < w2.heap.size := fun ad e h0 => by obtain ⟨ad', e', hlt, _⟩ := ((hr.below k2).more k2.size).2 h0; rw [e] at e'; injection e' with e'; subst e'; exact hlt
    have hw3 : w2.heap.size < (w2.alloc (.cells (wayC j (.slice A n c) s.done s.mark s.quiet s.ended (.slice none 0 0)) 76)).heap.size := by simp
    have hw3' : w2.heap.size + 1 ≤ (w2.alloc (.cells (wayC j (.slice A n c) s.done s.mark s.quiet s.ended (.slice none 0 0)) 76)).heap.size := by simp
    go_wp2_with fail
    refine (wait_any w2.heap.size (w2.heap.size + 1) j (.slice A n c) s _ bW3 hw3' (by omega) hsr.2.2.2.1).mono ?_
    rintro e w4 ⟨rfl, v4, bQ4, hO4, T4⟩
    have bR4 : Blk w4 (w.heap.size + 1 + 1) 26 _ := T4.blk bR3 (by omega) (by simp [Value.ownBlock])
    have k4 : Below w.heap.size w w4 := T4.lift _ _ k3 (by omega) (by omega) (by simp; omega)
    have fR := bR4.frozen
    have y4 := k4.size
    have n4 : w.heap.size + 1 + 1 ≠ w2.heap.size := by omega
    clear bJ1 bS1 bR1 bJ2 bS2 bR2 bW3 bR3 c1 f1 c2 f2
    have rr0 : w4.cell? ⟨w.heap.size + 1 + 1, 0, none⟩ = some (.slice none 0 0) := bR4.cell 0
    have rr1 : w4.cell? ⟨w.heap.size + 1 + 1, 1, none⟩ = some (.int .i64 0) := bR4.cell 1
    have rr2 : w4.cell? ⟨w.heap.size + 1 + 1, 2, none⟩ = some (.int .i64 0) := bR4.cell 2
    have rr3 : w4.cell? ⟨w.heap.size + 1 + 1, 3, none⟩ = some (.int .i64 0) := bR4.cell 3
    have rr4 : w4.cell? ⟨w.heap.size + 1 + 1, 4, none⟩ = some (.bool false) := bR4.cell 4
    obtain ⟨r, hr'⟩ : ∃ r, (waitZ j s).1 = r := ⟨_, rfl⟩
    obtain ⟨l, hl'⟩ : ∃ l, (waitZ j s).2 = l := ⟨_, rfl⟩
    try simp only at bQ4 hO4
    rw [hr'] at bQ4
    rw [hl'] at hO4
    have HR' := Lib.hid hr'
    have HL' := Lib.hid hl'
    clear hr' hl'
    have q8 : w4.cell? ⟨w2.heap.size, 8, none⟩ = some (.slice A n c) := bQ4.cell 8
    have q9 : w4.cell? ⟨w2.heap.size, 9, none⟩ = some (.int .i64 r.done) := bQ4.cell 9
    have q10 : w4.cell? ⟨w2.heap.size, 10, none⟩ = some (.int .i64 r.mark) := bQ4.cell 10
    have q11 : w4.cell? ⟨w2.heap.size, 11, none⟩ = some (.int .i64 r.quiet) := bQ4.cell 11
    have q12 : w4.cell? ⟨w2.heap.size, 12, none⟩ = some (.bool r.ended) := bQ4.cell 12
    have q13 : w4.cell? ⟨w2.heap.size, 13, none⟩ = some v4 := bQ4.cell 13
    go_wp2_with fail
    go_region
    go_wp2
    have bZ := ((((bR4.set_ 0 (.slice A n c)).set_ 1 (.int .i64 r.done)).set_ 2 (.int .i64 r.mark)).set_ 3 (.int .i64 r.quiet)).set_ 4 (.bool r.ended)
    have e0 : World.cell? _ ⟨w.heap.size + 1 + 1, 0, none⟩ = some (.slice A n c) := bZ.cell 0
    have e1 : World.cell? _ ⟨w.heap.size + 1 + 1, 1, none⟩ = some (.int .i64 r.done) := bZ.cell 1
    have e2 : World.cell? _ ⟨w.heap.size + 1 + 1, 2, none⟩ = some (.int .i64 r.mark) := bZ.cell 2
    have e3 : World.cell? _ ⟨w.heap.size + 1 + 1, 3, none⟩ = some (.int .i64 r.quiet) := bZ.cell 3
    have e4 : World.cell? _ ⟨w.heap.size + 1 + 1, 4, none⟩ = some (.bool r.ended) := bZ.cell 4
    refine bodyPost_ret (v := .tuple #[.agg #[(.slice A n c), (.int .i64 r.done), (.int .i64 r.mark), (.int .i64 r.quiet), (.bool r.ended)], v4, .int .i64 0]) (by simp [results, Try.results24, go_sem, e0, e1, e2, e3, e4]) rfl ?_
    rw [HR'.out, HL'.out]
    refine ⟨by go_grown, .inl ⟨rfl, v4, rfl, ?_⟩⟩
    have zR : w.heap.size + 1 + 1 < w2.heap.size + 1 := by omega
    exact own_mono (own_set (own_set (own_set (own_set (own_set hO4 (p := ⟨w.heap.size + 1 + 1, 0, none⟩) _ zR) (p := ⟨w.heap.size + 1 + 1, 1, none⟩) _ zR) (p := ⟨w.heap.size + 1 + 1, 2, none⟩) _ zR) (p := ⟨w.heap.size + 1 + 1, 3, none⟩) _ zR) (p := ⟨w.heap.size + 1 + 1, 4, none⟩) _ zR) (by omega)

end Go.Proofs.Ytmlejdcanlgpdaa
