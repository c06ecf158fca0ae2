/- Walk of SourceSteps. -/
import Derived.Test.YtmlejdcanlgpdaaSrcR5
import Derived.Deep.CutRange
namespace Go.Proofs.Ytmlejdcanlgpdaa
open Go.RowKit
set_option linter.unusedVariables false
set_option linter.unusedSimpArgs false

theorem undrew1 {W x : World} (h : Below W.drew.heap.size W.drew x) : Below W.heap.size W x := ⟨h.os, h.tape, h.output, h.size, h.block⟩
theorem evs_take (ls : List Ev) (k : Nat) : evs (ls.take k) = (evs ls).take (k * 3) := by
  induction ls generalizing k with
  | nil => simp [evs]
  | cons a ls ih =>
    cases k with
    | zero => simp [evs]
    | succ k => rw [List.take_succ_cons, evs_cons, evs_cons, ih, show (k + 1) * 3 = k * 3 + 1 + 1 + 1 from by omega]; rfl
theorem reads_take3 {w : World} {B n k : Nat} {A : Option Addr} {ls : List Ev} (h : Reads w B 3 A n (evs ls)) (hk : k ≤ n) : Reads w B 3 A k (evs (ls.take k)) := by
  have hl := evs_len h
  refine ⟨by rw [evs_length, List.length_take]; omega, fun h0 => ?_⟩
  obtain ⟨ad, e, hb, hc⟩ := h.2 (by omega)
  refine ⟨ad, e, hb, fun j u hu => hc j u ?_⟩
  rw [← hu, evs_take]
  have hj := (List.getElem?_eq_some_iff.1 hu).1
  rw [evs_length, List.length_take] at hj
  rw [List.getElem?_take_of_lt (by omega)]

def outS (r : Sr × List It × Int) : Sr := if r.2.2 = 0 then r.1 else zeroS
def outL (r : Sr × List It × Int) : List It := if r.2.2 = 0 then r.2.1 else []
def outA (A : Option Addr) (r : Sr × List It × Int) : Option Addr := if r.2.2 = 0 then A else none
def outN (n : Nat) (r : Sr × List It × Int) : Nat := if r.2.2 = 0 then n else 0
theorem step_out {A : Option Addr} {n c : Nat} {r : Sr × List It × Int} {w w' : World} {e : Ending} {ls : List Ev} (hr : Reads w w.heap.size 3 A n (evs ls)) (hl : r.2.2 = 0 → r.1.evs = ls) (h : StepPost A n c r w e w') :
    Below w.heap.size w w' ∧ ∃ Av cv, e = .returned (.tuple #[.agg #[.slice (outA A r) (outN n r) (outN c r), .int .i64 (outS r).done, .int .i64 (outS r).mark, .int .i64 (outS r).quiet, .bool (outS r).ended], .slice Av (outL r).length cv, .int .i64 r.2.2]) ∧
      Reads w' w'.heap.size 11 Av (outL r).length (itms (outL r)) ∧ Reads w' w'.heap.size 3 (outA A r) (outN n r) (evs (outS r).evs) := by
  obtain ⟨hb, ⟨hz, v', rfl, ho⟩ | ⟨hz, rfl⟩⟩ := h
  · obtain ⟨Av, cv, rfl⟩ := own_form ho
    refine ⟨hb, Av, cv, ?_, ?_, ?_⟩
    · unfold outA outN outS outL
      rw [if_pos hz, if_pos hz, if_pos hz, if_pos hz, if_pos hz, hz]
    · unfold outL
      rw [if_pos hz]
      exact Reads.of_own ho
    · unfold outA outN outS
      rw [if_pos hz, if_pos hz, if_pos hz, hl hz]
      exact reads_below hr hb
  · refine ⟨hb, none, 0, ?_, ?_, ?_⟩
    · unfold outA outN outS outL
      rw [if_neg hz, if_neg hz, if_neg hz, if_neg hz, if_neg hz]
      rfl
    · unfold outL
      rw [if_neg hz]
      exact Reads.none_
    · unfold outA outN outS
      rw [if_neg hz, if_neg hz, if_neg hz]
      exact Reads.none_
theorem nextR_evs {j : Jb} {s : Sr} (h : (nextR j s).2.2 = 0) : (nextR j s).1.evs = s.evs := by
  unfold nextR at h ⊢
  by_cases hJ : jobB j = false
  · rw [if_pos hJ] at h; simp at h
  · rw [if_neg hJ] at h ⊢
    by_cases hB : srcB s = false
    · rw [if_pos hB] at h; simp at h
    · rw [if_neg hB] at h ⊢
      by_cases hE : s.ended = true
      · rw [if_pos hE] at h; simp at h
      · rw [if_neg hE]
        unfold nextZ
        rw [if_neg hE]
        split <;> rfl
theorem tickR_evs {j : Jb} {s : Sr} (h : (tickR j s).2.2 = 0) : (tickR j s).1.evs = s.evs := by
  unfold tickR at h ⊢
  by_cases hJ : jobB j = false
  · rw [if_pos hJ] at h; simp at h
  · rw [if_neg hJ] at h ⊢
    by_cases hB : srcB s = false
    · rw [if_pos hB] at h; simp at h
    · rw [if_neg hB]
      show (waitZ j s).1.evs = s.evs
      unfold waitZ
      split <;> rfl
theorem outN_le (n : Nat) (r : Sr × List It × Int) : outN n r ≤ n := by unfold outN; split <;> omega
theorem outL_len {r : Sr × List It × Int} (h : r.2.1.length ≤ 2) : (outL r).length ≤ 2 := by
  unfold outL
  split
  · exact h
  · simp
theorem nextR_len (j : Jb) (s : Sr) : (nextR j s).2.1.length ≤ 2 := by
  unfold nextR
  split
  · simp
  split
  · simp
  split
  · simp
  unfold nextZ
  split
  · simp
  split
  · simp
  · unfold toldE toldM
    simp only [List.length_append]
    split <;> split <;> simp
theorem tickR_len (j : Jb) (s : Sr) : (tickR j s).2.1.length ≤ 2 := by
  unfold tickR
  split
  · simp
  split
  · simp
  show (waitZ j s).2.length ≤ 2
  unfold waitZ
  split
  · simp
  · simp only
    split <;> simp

set_option maxRecDepth 100000 in
set_option maxHeartbeats 4000000 in
theorem walkSteps (j : Jb) (s : Sr) (A : Option Addr) (n c : Nat) (w : World) (hj : j.Wf) (hs : s.Wf) (hr : Reads w w.heap.size 3 A n (evs s.evs)) (hm : n ≤ 9223372036854775807) (hc : n ≤ c) :
    Calls Try.prog 3 #[.agg #[.int .i64 j.groups, .int .i64 j.size, .int .i64 j.slide, .int .i64 j.fold, .int .i64 j.fuel, .int .i64 j.limit, .int .i64 j.delay, .int .i64 j.idle], .agg #[.slice A n c, .int .i64 s.done, .int .i64 s.mark, .int .i64 s.quiet, .bool s.ended]] w fun e w' => e = .returned (.bool true) ∧ Below w.heap.size w w' := by
  by_cases h1 : n ≤ 60
  · have hc1 : (n : Int) ≤ 60 := by omega
    clear h1
    go_enter Try.func3, Try.ntmps3
    go_upto_region 3 with fail
    obtain ⟨rN, hN⟩ : ∃ r, nextR j ⟨s.evs, s.done, s.mark, s.quiet, s.ended⟩ = r := ⟨_, rfl⟩
    have hNe : rN.2.2 = 0 → rN.1.evs = s.evs := fun h => by subst hN; exact nextR_evs h
    have hNl : (outL rN).length ≤ 2 := outL_len (by rw [← hN]; exact nextR_len _ _)
    obtain ⟨rT, hT⟩ : ∃ r, tickR j ⟨s.evs, s.done, s.mark, s.quiet, s.ended⟩ = r := ⟨_, rfl⟩
    have hTe : rT.2.2 = 0 → rT.1.evs = s.evs := fun h => by subst hT; exact tickR_evs h
    have hTl : (outL rT).length ≤ 2 := outL_len (by rw [← hT]; exact tickR_len _ _)
    have hS : Sr.Wf ⟨s.evs, s.done, s.mark, s.quiet, s.ended⟩ := ⟨fun z hz => hs.key z (hz), fun z hz => hs.v z (hz)⟩
    have bJ_0 : Blk ((w.alloc (.cells #[.int .i64 j.groups, .int .i64 j.size, .int .i64 j.slide, .int .i64 j.fold, .int .i64 j.fuel, .int .i64 j.limit, .int .i64 j.delay, .int .i64 j.idle] 23)).alloc (.cells #[.slice A n c, .int .i64 s.done, .int .i64 s.mark, .int .i64 s.quiet, .bool s.ended] 26)) w.heap.size 23 #[.int .i64 j.groups, .int .i64 j.size, .int .i64 j.slide, .int .i64 j.fold, .int .i64 j.fuel, .int .i64 j.limit, .int .i64 j.delay, .int .i64 j.idle] := (Blk.new w _ _).alloc _
    have bS_0 : Blk ((w.alloc (.cells #[.int .i64 j.groups, .int .i64 j.size, .int .i64 j.slide, .int .i64 j.fold, .int .i64 j.fuel, .int .i64 j.limit, .int .i64 j.delay, .int .i64 j.idle] 23)).alloc (.cells #[.slice A n c, .int .i64 s.done, .int .i64 s.mark, .int .i64 s.quiet, .bool s.ended] 26)) (w.heap.size + 1) 26 #[.slice A n c, .int .i64 s.done, .int .i64 s.mark, .int .i64 s.quiet, .bool s.ended] := by simpa using Blk.new (w.alloc (.cells #[.int .i64 j.groups, .int .i64 j.size, .int .i64 j.slide, .int .i64 j.fold, .int .i64 j.fuel, .int .i64 j.limit, .int .i64 j.delay, .int .i64 j.idle] 23)) 26 #[.slice A n c, .int .i64 s.done, .int .i64 s.mark, .int .i64 s.quiet, .bool s.ended]
    have kV_0 : Below w.heap.size w ((w.alloc (.cells #[.int .i64 j.groups, .int .i64 j.size, .int .i64 j.slide, .int .i64 j.fold, .int .i64 j.fuel, .int .i64 j.limit, .int .i64 j.delay, .int .i64 j.idle] 23)).alloc (.cells #[.slice A n c, .int .i64 s.done, .int .i64 s.mark, .int .i64 s.quiet, .bool s.ended] 26)) := by go_grown
    have hrd_0 := reads_alloc (o := .cells #[.slice A n c, .int .i64 s.done, .int .i64 s.mark, .int .i64 s.quiet, .bool s.ended] 26) (reads_alloc (o := .cells #[.int .i64 j.groups, .int .i64 j.size, .int .i64 j.slide, .int .i64 j.fold, .int .i64 j.fuel, .int .i64 j.limit, .int .i64 j.delay, .int .i64 j.idle] 23) hr)
    generalize ((w.alloc (.cells #[.int .i64 j.groups, .int .i64 j.size, .int .i64 j.slide, .int .i64 j.fold, .int .i64 j.fuel, .int .i64 j.limit, .int .i64 j.delay, .int .i64 j.idle] 23)).alloc (.cells #[.slice A n c, .int .i64 s.done, .int .i64 s.mark, .int .i64 s.quiet, .bool s.ended] 26)) = V0 at *
    have j0 : V0.cell? ⟨w.heap.size, 0, none⟩ = some (.int .i64 j.groups) := bJ_0.cell 0
    have j1 : V0.cell? ⟨w.heap.size, 1, none⟩ = some (.int .i64 j.size) := bJ_0.cell 1
    have j2 : V0.cell? ⟨w.heap.size, 2, none⟩ = some (.int .i64 j.slide) := bJ_0.cell 2
    have j3 : V0.cell? ⟨w.heap.size, 3, none⟩ = some (.int .i64 j.fold) := bJ_0.cell 3
    have j4 : V0.cell? ⟨w.heap.size, 4, none⟩ = some (.int .i64 j.fuel) := bJ_0.cell 4
    have j5 : V0.cell? ⟨w.heap.size, 5, none⟩ = some (.int .i64 j.limit) := bJ_0.cell 5
    have j6 : V0.cell? ⟨w.heap.size, 6, none⟩ = some (.int .i64 j.delay) := bJ_0.cell 6
    have j7 : V0.cell? ⟨w.heap.size, 7, none⟩ = some (.int .i64 j.idle) := bJ_0.cell 7
    have s0 : V0.cell? ⟨w.heap.size + 1, 0, none⟩ = some (.slice A n c) := bS_0.cell 0
    have s1 : V0.cell? ⟨w.heap.size + 1, 1, none⟩ = some (.int .i64 s.done) := bS_0.cell 1
    have s2 : V0.cell? ⟨w.heap.size + 1, 2, none⟩ = some (.int .i64 s.mark) := bS_0.cell 2
    have s3 : V0.cell? ⟨w.heap.size + 1, 3, none⟩ = some (.int .i64 s.quiet) := bS_0.cell 3
    have s4 : V0.cell? ⟨w.heap.size + 1, 4, none⟩ = some (.bool s.ended) := bS_0.cell 4
    go_wp2_with fail
    refine (nextP_any j ⟨s.evs, s.done, s.mark, s.quiet, s.ended⟩ A n c _ hj hS hrd_0 hm).mono ?_
    rw [hN]
    intro e w1 hp
    obtain ⟨hb1, A1, c1, rfl, it1_x, ev1_x⟩ := step_out hrd_0 hNe hp
    clear hp
    have kk := kV_0.trans (hb1.mono kV_0.size)
    clear j0 j1 j2 j3 j4 j5 j6 j7 s0 s1 s2 s3 s4
    have lS := Nat.lt_of_lt_of_le bS_0.lt hb1.size
    go_upto_region 4 with fail
    have ba_1 := Blk.new w1 26 #[.slice (outA A rN) (outN n rN) (outN c rN), .int .i64 (outS rN).done, .int .i64 (outS rN).mark, .int .i64 (outS rN).quiet, .bool (outS rN).ended]
    have bJ_1 := (bJ_0.below hb1 bJ_0.lt).alloc (.cells #[.slice (outA A rN) (outN n rN) (outN c rN), .int .i64 (outS rN).done, .int .i64 (outS rN).mark, .int .i64 (outS rN).quiet, .bool (outS rN).ended] 26)
    have bS_1 := (bS_0.below hb1 bS_0.lt).alloc (.cells #[.slice (outA A rN) (outN n rN) (outN c rN), .int .i64 (outS rN).done, .int .i64 (outS rN).mark, .int .i64 (outS rN).quiet, .bool (outS rN).ended] 26)
    have kV_1 := kk.alloc kk.size (.cells #[.slice (outA A rN) (outN n rN) (outN c rN), .int .i64 (outS rN).done, .int .i64 (outS rN).mark, .int .i64 (outS rN).quiet, .bool (outS rN).ended] 26)
    have hrd_1 := reads_alloc (o := .cells #[.slice (outA A rN) (outN n rN) (outN c rN), .int .i64 (outS rN).done, .int .i64 (outS rN).mark, .int .i64 (outS rN).quiet, .bool (outS rN).ended] 26) (reads_below hrd_0 hb1)
    have it1_1 := reads_alloc (o := .cells #[.slice (outA A rN) (outN n rN) (outN c rN), .int .i64 (outS rN).done, .int .i64 (outS rN).mark, .int .i64 (outS rN).quiet, .bool (outS rN).ended] 26) it1_x
    have ev1_1 := reads_alloc (o := .cells #[.slice (outA A rN) (outN n rN) (outN c rN), .int .i64 (outS rN).done, .int .i64 (outS rN).mark, .int .i64 (outS rN).quiet, .bool (outS rN).ended] 26) ev1_x
    clear kk hb1 lS it1_x ev1_x kV_0 hrd_0 bJ_0 bS_0 
    generalize w1.alloc (.cells #[.slice (outA A rN) (outN n rN) (outN c rN), .int .i64 (outS rN).done, .int .i64 (outS rN).mark, .int .i64 (outS rN).quiet, .bool (outS rN).ended] 26) = V1 at *
    generalize w1.heap.size = na at *
    have j0 : V1.cell? ⟨w.heap.size, 0, none⟩ = some (.int .i64 j.groups) := bJ_1.cell 0
    have j1 : V1.cell? ⟨w.heap.size, 1, none⟩ = some (.int .i64 j.size) := bJ_1.cell 1
    have j2 : V1.cell? ⟨w.heap.size, 2, none⟩ = some (.int .i64 j.slide) := bJ_1.cell 2
    have j3 : V1.cell? ⟨w.heap.size, 3, none⟩ = some (.int .i64 j.fold) := bJ_1.cell 3
    have j4 : V1.cell? ⟨w.heap.size, 4, none⟩ = some (.int .i64 j.fuel) := bJ_1.cell 4
    have j5 : V1.cell? ⟨w.heap.size, 5, none⟩ = some (.int .i64 j.limit) := bJ_1.cell 5
    have j6 : V1.cell? ⟨w.heap.size, 6, none⟩ = some (.int .i64 j.delay) := bJ_1.cell 6
    have j7 : V1.cell? ⟨w.heap.size, 7, none⟩ = some (.int .i64 j.idle) := bJ_1.cell 7
    have s0 : V1.cell? ⟨w.heap.size + 1, 0, none⟩ = some (.slice A n c) := bS_1.cell 0
    have s1 : V1.cell? ⟨w.heap.size + 1, 1, none⟩ = some (.int .i64 s.done) := bS_1.cell 1
    have s2 : V1.cell? ⟨w.heap.size + 1, 2, none⟩ = some (.int .i64 s.mark) := bS_1.cell 2
    have s3 : V1.cell? ⟨w.heap.size + 1, 3, none⟩ = some (.int .i64 s.quiet) := bS_1.cell 3
    have s4 : V1.cell? ⟨w.heap.size + 1, 4, none⟩ = some (.bool s.ended) := bS_1.cell 4
    go_wp2_with fail
    refine (refNext_any j ⟨s.evs, s.done, s.mark, s.quiet, s.ended⟩ A n c _ hj hS hrd_1 hm).mono ?_
    rw [hN]
    intro e w2 hp
    obtain ⟨hb2, A2, c2, rfl, it2_x, ev2_x⟩ := step_out hrd_1 hNe hp
    clear hp
    have kk := kV_1.trans (hb2.mono kV_1.size)
    clear j0 j1 j2 j3 j4 j5 j6 j7 s0 s1 s2 s3 s4
    have lS := Nat.lt_of_lt_of_le bS_1.lt hb2.size
    go_upto_region 5 with fail
    have bb_2 := Blk.new w2 26 #[.slice (outA A rN) (outN n rN) (outN c rN), .int .i64 (outS rN).done, .int .i64 (outS rN).mark, .int .i64 (outS rN).quiet, .bool (outS rN).ended]
    have ba_2 := (ba_1.below hb2 ba_1.lt).alloc (.cells #[.slice (outA A rN) (outN n rN) (outN c rN), .int .i64 (outS rN).done, .int .i64 (outS rN).mark, .int .i64 (outS rN).quiet, .bool (outS rN).ended] 26)
    have bJ_2 := (bJ_1.below hb2 bJ_1.lt).alloc (.cells #[.slice (outA A rN) (outN n rN) (outN c rN), .int .i64 (outS rN).done, .int .i64 (outS rN).mark, .int .i64 (outS rN).quiet, .bool (outS rN).ended] 26)
    have bS_2 := (bS_1.below hb2 bS_1.lt).alloc (.cells #[.slice (outA A rN) (outN n rN) (outN c rN), .int .i64 (outS rN).done, .int .i64 (outS rN).mark, .int .i64 (outS rN).quiet, .bool (outS rN).ended] 26)
    have kV_2 := kk.alloc kk.size (.cells #[.slice (outA A rN) (outN n rN) (outN c rN), .int .i64 (outS rN).done, .int .i64 (outS rN).mark, .int .i64 (outS rN).quiet, .bool (outS rN).ended] 26)
    have hrd_2 := reads_alloc (o := .cells #[.slice (outA A rN) (outN n rN) (outN c rN), .int .i64 (outS rN).done, .int .i64 (outS rN).mark, .int .i64 (outS rN).quiet, .bool (outS rN).ended] 26) (reads_below hrd_1 hb2)
    have it1_2 := reads_alloc (o := .cells #[.slice (outA A rN) (outN n rN) (outN c rN), .int .i64 (outS rN).done, .int .i64 (outS rN).mark, .int .i64 (outS rN).quiet, .bool (outS rN).ended] 26) (reads_below it1_1 hb2)
    have ev1_2 := reads_alloc (o := .cells #[.slice (outA A rN) (outN n rN) (outN c rN), .int .i64 (outS rN).done, .int .i64 (outS rN).mark, .int .i64 (outS rN).quiet, .bool (outS rN).ended] 26) (reads_below ev1_1 hb2)
    have it2_2 := reads_alloc (o := .cells #[.slice (outA A rN) (outN n rN) (outN c rN), .int .i64 (outS rN).done, .int .i64 (outS rN).mark, .int .i64 (outS rN).quiet, .bool (outS rN).ended] 26) it2_x
    have ev2_2 := reads_alloc (o := .cells #[.slice (outA A rN) (outN n rN) (outN c rN), .int .i64 (outS rN).done, .int .i64 (outS rN).mark, .int .i64 (outS rN).quiet, .bool (outS rN).ended] 26) ev2_x
    clear kk hb2 lS it2_x ev2_x kV_1 hrd_1 ba_1 bJ_1 bS_1 it1_1 ev1_1
    generalize w2.alloc (.cells #[.slice (outA A rN) (outN n rN) (outN c rN), .int .i64 (outS rN).done, .int .i64 (outS rN).mark, .int .i64 (outS rN).quiet, .bool (outS rN).ended] 26) = V2 at *
    generalize w2.heap.size = nb at *
    have j0 : V2.cell? ⟨w.heap.size, 0, none⟩ = some (.int .i64 j.groups) := bJ_2.cell 0
    have j1 : V2.cell? ⟨w.heap.size, 1, none⟩ = some (.int .i64 j.size) := bJ_2.cell 1
    have j2 : V2.cell? ⟨w.heap.size, 2, none⟩ = some (.int .i64 j.slide) := bJ_2.cell 2
    have j3 : V2.cell? ⟨w.heap.size, 3, none⟩ = some (.int .i64 j.fold) := bJ_2.cell 3
    have j4 : V2.cell? ⟨w.heap.size, 4, none⟩ = some (.int .i64 j.fuel) := bJ_2.cell 4
    have j5 : V2.cell? ⟨w.heap.size, 5, none⟩ = some (.int .i64 j.limit) := bJ_2.cell 5
    have j6 : V2.cell? ⟨w.heap.size, 6, none⟩ = some (.int .i64 j.delay) := bJ_2.cell 6
    have j7 : V2.cell? ⟨w.heap.size, 7, none⟩ = some (.int .i64 j.idle) := bJ_2.cell 7
    have s0 : V2.cell? ⟨w.heap.size + 1, 0, none⟩ = some (.slice A n c) := bS_2.cell 0
    have s1 : V2.cell? ⟨w.heap.size + 1, 1, none⟩ = some (.int .i64 s.done) := bS_2.cell 1
    have s2 : V2.cell? ⟨w.heap.size + 1, 2, none⟩ = some (.int .i64 s.mark) := bS_2.cell 2
    have s3 : V2.cell? ⟨w.heap.size + 1, 3, none⟩ = some (.int .i64 s.quiet) := bS_2.cell 3
    have s4 : V2.cell? ⟨w.heap.size + 1, 4, none⟩ = some (.bool s.ended) := bS_2.cell 4
    go_wp2_with fail
    refine (tickP_any j ⟨s.evs, s.done, s.mark, s.quiet, s.ended⟩ A n c _ hj hS hrd_2 hm).mono ?_
    rw [hT]
    intro e w3 hp
    obtain ⟨hb3, A3, c3, rfl, it3_x, ev3_x⟩ := step_out hrd_2 hTe hp
    clear hp
    have kk := kV_2.trans (hb3.mono kV_2.size)
    clear j0 j1 j2 j3 j4 j5 j6 j7 s0 s1 s2 s3 s4
    have lS := Nat.lt_of_lt_of_le bS_2.lt hb3.size
    go_upto_region 6 with fail
    have bc_3 := Blk.new w3 26 #[.slice (outA A rT) (outN n rT) (outN c rT), .int .i64 (outS rT).done, .int .i64 (outS rT).mark, .int .i64 (outS rT).quiet, .bool (outS rT).ended]
    have ba_3 := (ba_2.below hb3 ba_2.lt).alloc (.cells #[.slice (outA A rT) (outN n rT) (outN c rT), .int .i64 (outS rT).done, .int .i64 (outS rT).mark, .int .i64 (outS rT).quiet, .bool (outS rT).ended] 26)
    have bb_3 := (bb_2.below hb3 bb_2.lt).alloc (.cells #[.slice (outA A rT) (outN n rT) (outN c rT), .int .i64 (outS rT).done, .int .i64 (outS rT).mark, .int .i64 (outS rT).quiet, .bool (outS rT).ended] 26)
    have bJ_3 := (bJ_2.below hb3 bJ_2.lt).alloc (.cells #[.slice (outA A rT) (outN n rT) (outN c rT), .int .i64 (outS rT).done, .int .i64 (outS rT).mark, .int .i64 (outS rT).quiet, .bool (outS rT).ended] 26)
    have bS_3 := (bS_2.below hb3 bS_2.lt).alloc (.cells #[.slice (outA A rT) (outN n rT) (outN c rT), .int .i64 (outS rT).done, .int .i64 (outS rT).mark, .int .i64 (outS rT).quiet, .bool (outS rT).ended] 26)
    have kV_3 := kk.alloc kk.size (.cells #[.slice (outA A rT) (outN n rT) (outN c rT), .int .i64 (outS rT).done, .int .i64 (outS rT).mark, .int .i64 (outS rT).quiet, .bool (outS rT).ended] 26)
    have hrd_3 := reads_alloc (o := .cells #[.slice (outA A rT) (outN n rT) (outN c rT), .int .i64 (outS rT).done, .int .i64 (outS rT).mark, .int .i64 (outS rT).quiet, .bool (outS rT).ended] 26) (reads_below hrd_2 hb3)
    have it1_3 := reads_alloc (o := .cells #[.slice (outA A rT) (outN n rT) (outN c rT), .int .i64 (outS rT).done, .int .i64 (outS rT).mark, .int .i64 (outS rT).quiet, .bool (outS rT).ended] 26) (reads_below it1_2 hb3)
    have ev1_3 := reads_alloc (o := .cells #[.slice (outA A rT) (outN n rT) (outN c rT), .int .i64 (outS rT).done, .int .i64 (outS rT).mark, .int .i64 (outS rT).quiet, .bool (outS rT).ended] 26) (reads_below ev1_2 hb3)
    have it2_3 := reads_alloc (o := .cells #[.slice (outA A rT) (outN n rT) (outN c rT), .int .i64 (outS rT).done, .int .i64 (outS rT).mark, .int .i64 (outS rT).quiet, .bool (outS rT).ended] 26) (reads_below it2_2 hb3)
    have ev2_3 := reads_alloc (o := .cells #[.slice (outA A rT) (outN n rT) (outN c rT), .int .i64 (outS rT).done, .int .i64 (outS rT).mark, .int .i64 (outS rT).quiet, .bool (outS rT).ended] 26) (reads_below ev2_2 hb3)
    have it3_3 := reads_alloc (o := .cells #[.slice (outA A rT) (outN n rT) (outN c rT), .int .i64 (outS rT).done, .int .i64 (outS rT).mark, .int .i64 (outS rT).quiet, .bool (outS rT).ended] 26) it3_x
    have ev3_3 := reads_alloc (o := .cells #[.slice (outA A rT) (outN n rT) (outN c rT), .int .i64 (outS rT).done, .int .i64 (outS rT).mark, .int .i64 (outS rT).quiet, .bool (outS rT).ended] 26) ev3_x
    clear kk hb3 lS it3_x ev3_x kV_2 hrd_2 ba_2 bb_2 bJ_2 bS_2 it1_2 ev1_2 it2_2 ev2_2
    generalize w3.alloc (.cells #[.slice (outA A rT) (outN n rT) (outN c rT), .int .i64 (outS rT).done, .int .i64 (outS rT).mark, .int .i64 (outS rT).quiet, .bool (outS rT).ended] 26) = V3 at *
    generalize w3.heap.size = nc at *
    have j0 : V3.cell? ⟨w.heap.size, 0, none⟩ = some (.int .i64 j.groups) := bJ_3.cell 0
    have j1 : V3.cell? ⟨w.heap.size, 1, none⟩ = some (.int .i64 j.size) := bJ_3.cell 1
    have j2 : V3.cell? ⟨w.heap.size, 2, none⟩ = some (.int .i64 j.slide) := bJ_3.cell 2
    have j3 : V3.cell? ⟨w.heap.size, 3, none⟩ = some (.int .i64 j.fold) := bJ_3.cell 3
    have j4 : V3.cell? ⟨w.heap.size, 4, none⟩ = some (.int .i64 j.fuel) := bJ_3.cell 4
    have j5 : V3.cell? ⟨w.heap.size, 5, none⟩ = some (.int .i64 j.limit) := bJ_3.cell 5
    have j6 : V3.cell? ⟨w.heap.size, 6, none⟩ = some (.int .i64 j.delay) := bJ_3.cell 6
    have j7 : V3.cell? ⟨w.heap.size, 7, none⟩ = some (.int .i64 j.idle) := bJ_3.cell 7
    have s0 : V3.cell? ⟨w.heap.size + 1, 0, none⟩ = some (.slice A n c) := bS_3.cell 0
    have s1 : V3.cell? ⟨w.heap.size + 1, 1, none⟩ = some (.int .i64 s.done) := bS_3.cell 1
    have s2 : V3.cell? ⟨w.heap.size + 1, 2, none⟩ = some (.int .i64 s.mark) := bS_3.cell 2
    have s3 : V3.cell? ⟨w.heap.size + 1, 3, none⟩ = some (.int .i64 s.quiet) := bS_3.cell 3
    have s4 : V3.cell? ⟨w.heap.size + 1, 4, none⟩ = some (.bool s.ended) := bS_3.cell 4
    go_wp2_with fail
    refine (refTick_any j ⟨s.evs, s.done, s.mark, s.quiet, s.ended⟩ A n c _ hj hS hrd_3 hm).mono ?_
    rw [hT]
    intro e w4 hp
    obtain ⟨hb4, A4, c4, rfl, it4_x, ev4_x⟩ := step_out hrd_3 hTe hp
    clear hp
    have kk := kV_3.trans (hb4.mono kV_3.size)
    clear j0 j1 j2 j3 j4 j5 j6 j7 s0 s1 s2 s3 s4
    have lS := Nat.lt_of_lt_of_le bS_3.lt hb4.size
    go_wp2_with fail
    have bd_4 := Blk.new w4 26 #[.slice (outA A rT) (outN n rT) (outN c rT), .int .i64 (outS rT).done, .int .i64 (outS rT).mark, .int .i64 (outS rT).quiet, .bool (outS rT).ended]
    have ba_4 := (ba_3.below hb4 ba_3.lt).alloc (.cells #[.slice (outA A rT) (outN n rT) (outN c rT), .int .i64 (outS rT).done, .int .i64 (outS rT).mark, .int .i64 (outS rT).quiet, .bool (outS rT).ended] 26)
    have bb_4 := (bb_3.below hb4 bb_3.lt).alloc (.cells #[.slice (outA A rT) (outN n rT) (outN c rT), .int .i64 (outS rT).done, .int .i64 (outS rT).mark, .int .i64 (outS rT).quiet, .bool (outS rT).ended] 26)
    have bc_4 := (bc_3.below hb4 bc_3.lt).alloc (.cells #[.slice (outA A rT) (outN n rT) (outN c rT), .int .i64 (outS rT).done, .int .i64 (outS rT).mark, .int .i64 (outS rT).quiet, .bool (outS rT).ended] 26)
    have bJ_4 := (bJ_3.below hb4 bJ_3.lt).alloc (.cells #[.slice (outA A rT) (outN n rT) (outN c rT), .int .i64 (outS rT).done, .int .i64 (outS rT).mark, .int .i64 (outS rT).quiet, .bool (outS rT).ended] 26)
    have bS_4 := (bS_3.below hb4 bS_3.lt).alloc (.cells #[.slice (outA A rT) (outN n rT) (outN c rT), .int .i64 (outS rT).done, .int .i64 (outS rT).mark, .int .i64 (outS rT).quiet, .bool (outS rT).ended] 26)
    have kV_4 := kk.alloc kk.size (.cells #[.slice (outA A rT) (outN n rT) (outN c rT), .int .i64 (outS rT).done, .int .i64 (outS rT).mark, .int .i64 (outS rT).quiet, .bool (outS rT).ended] 26)
    have hrd_4 := reads_alloc (o := .cells #[.slice (outA A rT) (outN n rT) (outN c rT), .int .i64 (outS rT).done, .int .i64 (outS rT).mark, .int .i64 (outS rT).quiet, .bool (outS rT).ended] 26) (reads_below hrd_3 hb4)
    have it1_4 := reads_alloc (o := .cells #[.slice (outA A rT) (outN n rT) (outN c rT), .int .i64 (outS rT).done, .int .i64 (outS rT).mark, .int .i64 (outS rT).quiet, .bool (outS rT).ended] 26) (reads_below it1_3 hb4)
    have ev1_4 := reads_alloc (o := .cells #[.slice (outA A rT) (outN n rT) (outN c rT), .int .i64 (outS rT).done, .int .i64 (outS rT).mark, .int .i64 (outS rT).quiet, .bool (outS rT).ended] 26) (reads_below ev1_3 hb4)
    have it2_4 := reads_alloc (o := .cells #[.slice (outA A rT) (outN n rT) (outN c rT), .int .i64 (outS rT).done, .int .i64 (outS rT).mark, .int .i64 (outS rT).quiet, .bool (outS rT).ended] 26) (reads_below it2_3 hb4)
    have ev2_4 := reads_alloc (o := .cells #[.slice (outA A rT) (outN n rT) (outN c rT), .int .i64 (outS rT).done, .int .i64 (outS rT).mark, .int .i64 (outS rT).quiet, .bool (outS rT).ended] 26) (reads_below ev2_3 hb4)
    have it3_4 := reads_alloc (o := .cells #[.slice (outA A rT) (outN n rT) (outN c rT), .int .i64 (outS rT).done, .int .i64 (outS rT).mark, .int .i64 (outS rT).quiet, .bool (outS rT).ended] 26) (reads_below it3_3 hb4)
    have ev3_4 := reads_alloc (o := .cells #[.slice (outA A rT) (outN n rT) (outN c rT), .int .i64 (outS rT).done, .int .i64 (outS rT).mark, .int .i64 (outS rT).quiet, .bool (outS rT).ended] 26) (reads_below ev3_3 hb4)
    have it4_4 := reads_alloc (o := .cells #[.slice (outA A rT) (outN n rT) (outN c rT), .int .i64 (outS rT).done, .int .i64 (outS rT).mark, .int .i64 (outS rT).quiet, .bool (outS rT).ended] 26) it4_x
    have ev4_4 := reads_alloc (o := .cells #[.slice (outA A rT) (outN n rT) (outN c rT), .int .i64 (outS rT).done, .int .i64 (outS rT).mark, .int .i64 (outS rT).quiet, .bool (outS rT).ended] 26) ev4_x
    clear kk hb4 lS it4_x ev4_x kV_3 hrd_3 ba_3 bb_3 bc_3 bJ_3 bS_3 it1_3 ev1_3 it2_3 ev2_3 it3_3 ev3_3
    generalize w4.alloc (.cells #[.slice (outA A rT) (outN n rT) (outN c rT), .int .i64 (outS rT).done, .int .i64 (outS rT).mark, .int .i64 (outS rT).quiet, .bool (outS rT).ended] 26) = V4 at *
    generalize w4.heap.size = nd at *
    obtain ⟨sb, hsb⟩ : ∃ sb, srcB ⟨s.evs, s.done, s.mark, s.quiet, s.ended⟩ = sb := ⟨_, rfl⟩
    have HSB := Lib.hid hsb
    clear hsb
    have hQ : ∀ x : World, Below V4.heap.size V4 x → x.cell? ⟨w.heap.size + 1, 0, none⟩ = some (.slice A n c) ∧ x.cell? ⟨w.heap.size + 1, 1, none⟩ = some (.int .i64 s.done) ∧ x.cell? ⟨w.heap.size + 1, 2, none⟩ = some (.int .i64 s.mark) ∧ x.cell? ⟨w.heap.size + 1, 3, none⟩ = some (.int .i64 s.quiet) ∧ x.cell? ⟨w.heap.size + 1, 4, none⟩ = some (.bool s.ended) ∧ x.cell? ⟨na, 0, none⟩ = some (.slice (outA A rN) (outN n rN) (outN c rN)) ∧ x.cell? ⟨na, 1, none⟩ = some (.int .i64 (outS rN).done) ∧ x.cell? ⟨na, 2, none⟩ = some (.int .i64 (outS rN).mark) ∧ x.cell? ⟨na, 3, none⟩ = some (.int .i64 (outS rN).quiet) ∧ x.cell? ⟨na, 4, none⟩ = some (.bool (outS rN).ended) ∧ x.cell? ⟨nb, 0, none⟩ = some (.slice (outA A rN) (outN n rN) (outN c rN)) ∧ x.cell? ⟨nb, 1, none⟩ = some (.int .i64 (outS rN).done) ∧ x.cell? ⟨nb, 2, none⟩ = some (.int .i64 (outS rN).mark) ∧ x.cell? ⟨nb, 3, none⟩ = some (.int .i64 (outS rN).quiet) ∧ x.cell? ⟨nb, 4, none⟩ = some (.bool (outS rN).ended) ∧ x.cell? ⟨nc, 0, none⟩ = some (.slice (outA A rT) (outN n rT) (outN c rT)) ∧ x.cell? ⟨nc, 1, none⟩ = some (.int .i64 (outS rT).done) ∧ x.cell? ⟨nc, 2, none⟩ = some (.int .i64 (outS rT).mark) ∧ x.cell? ⟨nc, 3, none⟩ = some (.int .i64 (outS rT).quiet) ∧ x.cell? ⟨nc, 4, none⟩ = some (.bool (outS rT).ended) ∧ x.cell? ⟨nd, 0, none⟩ = some (.slice (outA A rT) (outN n rT) (outN c rT)) ∧ x.cell? ⟨nd, 1, none⟩ = some (.int .i64 (outS rT).done) ∧ x.cell? ⟨nd, 2, none⟩ = some (.int .i64 (outS rT).mark) ∧ x.cell? ⟨nd, 3, none⟩ = some (.int .i64 (outS rT).quiet) ∧ x.cell? ⟨nd, 4, none⟩ = some (.bool (outS rT).ended) := fun x hx => ⟨(bS_4.below hx bS_4.lt).cell 0, (bS_4.below hx bS_4.lt).cell 1, (bS_4.below hx bS_4.lt).cell 2, (bS_4.below hx bS_4.lt).cell 3, (bS_4.below hx bS_4.lt).cell 4, (ba_4.below hx ba_4.lt).cell 0, (ba_4.below hx ba_4.lt).cell 1, (ba_4.below hx ba_4.lt).cell 2, (ba_4.below hx ba_4.lt).cell 3, (ba_4.below hx ba_4.lt).cell 4, (bb_4.below hx bb_4.lt).cell 0, (bb_4.below hx bb_4.lt).cell 1, (bb_4.below hx bb_4.lt).cell 2, (bb_4.below hx bb_4.lt).cell 3, (bb_4.below hx bb_4.lt).cell 4, (bc_4.below hx bc_4.lt).cell 0, (bc_4.below hx bc_4.lt).cell 1, (bc_4.below hx bc_4.lt).cell 2, (bc_4.below hx bc_4.lt).cell 3, (bc_4.below hx bc_4.lt).cell 4, (bd_4.below hx bd_4.lt).cell 0, (bd_4.below hx bd_4.lt).cell 1, (bd_4.below hx bd_4.lt).cell 2, (bd_4.below hx bd_4.lt).cell 3, (bd_4.below hx bd_4.lt).cell 4⟩
    have kx0 : Below V4.heap.size V4 V4 := Below.refl _ _
    have hNm := outN_le n rN
    have hTm := outN_le n rT
    go_region_held3 (fun x => x.cell? ⟨w.heap.size + 1, 0, none⟩ = some (.slice A n c) ∧ x.cell? ⟨w.heap.size + 1, 1, none⟩ = some (.int .i64 s.done) ∧ x.cell? ⟨w.heap.size + 1, 2, none⟩ = some (.int .i64 s.mark) ∧ x.cell? ⟨w.heap.size + 1, 3, none⟩ = some (.int .i64 s.quiet) ∧ x.cell? ⟨w.heap.size + 1, 4, none⟩ = some (.bool s.ended) ∧ x.cell? ⟨na, 0, none⟩ = some (.slice (outA A rN) (outN n rN) (outN c rN)) ∧ x.cell? ⟨na, 1, none⟩ = some (.int .i64 (outS rN).done) ∧ x.cell? ⟨na, 2, none⟩ = some (.int .i64 (outS rN).mark) ∧ x.cell? ⟨na, 3, none⟩ = some (.int .i64 (outS rN).quiet) ∧ x.cell? ⟨na, 4, none⟩ = some (.bool (outS rN).ended) ∧ x.cell? ⟨nb, 0, none⟩ = some (.slice (outA A rN) (outN n rN) (outN c rN)) ∧ x.cell? ⟨nb, 1, none⟩ = some (.int .i64 (outS rN).done) ∧ x.cell? ⟨nb, 2, none⟩ = some (.int .i64 (outS rN).mark) ∧ x.cell? ⟨nb, 3, none⟩ = some (.int .i64 (outS rN).quiet) ∧ x.cell? ⟨nb, 4, none⟩ = some (.bool (outS rN).ended) ∧ x.cell? ⟨nc, 0, none⟩ = some (.slice (outA A rT) (outN n rT) (outN c rT)) ∧ x.cell? ⟨nc, 1, none⟩ = some (.int .i64 (outS rT).done) ∧ x.cell? ⟨nc, 2, none⟩ = some (.int .i64 (outS rT).mark) ∧ x.cell? ⟨nc, 3, none⟩ = some (.int .i64 (outS rT).quiet) ∧ x.cell? ⟨nc, 4, none⟩ = some (.bool (outS rT).ended) ∧ x.cell? ⟨nd, 0, none⟩ = some (.slice (outA A rT) (outN n rT) (outN c rT)) ∧ x.cell? ⟨nd, 1, none⟩ = some (.int .i64 (outS rT).done) ∧ x.cell? ⟨nd, 2, none⟩ = some (.int .i64 (outS rT).mark) ∧ x.cell? ⟨nd, 3, none⟩ = some (.int .i64 (outS rT).quiet) ∧ x.cell? ⟨nd, 4, none⟩ = some (.bool (outS rT).ended))
      (first | exact hQ _ kx7 | exact hQ _ kx6 | exact hQ _ kx5 | exact hQ _ kx4 | exact hQ _ kx3 | exact hQ _ kx2 | exact hQ _ kx1 | exact hQ _ kx0 | go_keep)
      (first
        | (go_at_call 13; refine (alive_any _).mono ?_; rintro e x1 ⟨rfl, hx1⟩; have kx1 : Below V4.heap.size V4 x1 := undrew1 hx1)
        | (go_at_call 14; refine (src_any s.done s.mark s.quiet s.ended s.evs A n c _ (reads_below hrd_4 kx1) (by omega) hS.key).mono ?_; rw [HSB.out]; rintro e x2 ⟨rfl, hx2⟩; have kx2 := kx1.trans (hx2.mono kx1.size))
        | (go_at_call 15; refine (refSrc_any s.done s.mark s.quiet s.ended s.evs A n c _ (reads_below hrd_4 kx2) (by omega) hS.key).mono ?_; rw [HSB.out]; rintro e x3 ⟨rfl, hx3⟩; have kx3 := kx2.trans (hx3.mono kx2.size))
        | (go_at_call 17; have q := kx6; refine (likeItms_same (outL rT) A3 A4 (outL rT).length c3 c4 _ (reads_below it3_4 kx6) (reads_below it4_4 kx6) (by omega)).mono ?_; rintro e x7 ⟨rfl, hx7⟩; have kx7 := kx6.trans (hx7.mono kx6.size))
        | (go_at_call 16; have q := kx5; refine (like_same (outS rT).done (outS rT).mark (outS rT).quiet (outS rT).ended (outS rT).evs (outA A rT) (outA A rT) (outN n rT) (outN c rT) (outN c rT) _ (reads_below ev3_4 kx5) (reads_below ev4_4 kx5) (by omega)).mono ?_; rintro e x6 ⟨rfl, hx6⟩; have kx6 := kx5.trans (hx6.mono kx5.size))
        | (go_at_call 17; have q := kx4; refine (likeItms_same (outL rN) A1 A2 (outL rN).length c1 c2 _ (reads_below it1_4 kx4) (reads_below it2_4 kx4) (by omega)).mono ?_; rintro e x5 ⟨rfl, hx5⟩; have kx5 := kx4.trans (hx5.mono kx4.size))
        | (go_at_call 16; have q := kx3; refine (like_same (outS rN).done (outS rN).mark (outS rN).quiet (outS rN).ended (outS rN).evs (outA A rN) (outA A rN) (outN n rN) (outN c rN) (outN c rN) _ (reads_below ev1_4 kx3) (reads_below ev2_4 kx3) (by omega)).mono ?_; rintro e x4 ⟨rfl, hx4⟩; have kx4 := kx3.trans (hx4.mono kx3.size)))
    go_wp2
    go_ret
    exact ⟨by simp, kV_4.trans (kx7.mono kV_4.size)⟩

  by_cases h2 : n ≤ 200
  · have hc1 : (60 : Int) < n := by omega
    have hc2 : (n : Int) ≤ 200 := by omega
    have hrt := reads_take3 hr (show 60 ≤ n by omega)
    have hm : 60 ≤ 9223372036854775807 := by omega
    have hcc : 60 ≤ c := by omega
    clear h1 h2
    go_enter Try.func3, Try.ntmps3
    go_upto_region 3 with fail
    obtain ⟨rN, hN⟩ : ∃ r, nextR j ⟨s.evs.take 60, s.done, s.mark, s.quiet, s.ended⟩ = r := ⟨_, rfl⟩
    have hNe : rN.2.2 = 0 → rN.1.evs = s.evs.take 60 := fun h => by subst hN; exact nextR_evs h
    have hNl : (outL rN).length ≤ 2 := outL_len (by rw [← hN]; exact nextR_len _ _)
    obtain ⟨rT, hT⟩ : ∃ r, tickR j ⟨s.evs.take 60, s.done, s.mark, s.quiet, s.ended⟩ = r := ⟨_, rfl⟩
    have hTe : rT.2.2 = 0 → rT.1.evs = s.evs.take 60 := fun h => by subst hT; exact tickR_evs h
    have hTl : (outL rT).length ≤ 2 := outL_len (by rw [← hT]; exact tickR_len _ _)
    have hS : Sr.Wf ⟨s.evs.take 60, s.done, s.mark, s.quiet, s.ended⟩ := ⟨fun z hz => hs.key z (List.mem_of_mem_take hz), fun z hz => hs.v z (List.mem_of_mem_take hz)⟩
    have bJ_0 : Blk ((w.alloc (.cells #[.int .i64 j.groups, .int .i64 j.size, .int .i64 j.slide, .int .i64 j.fold, .int .i64 j.fuel, .int .i64 j.limit, .int .i64 j.delay, .int .i64 j.idle] 23)).alloc (.cells #[.slice A 60 c, .int .i64 s.done, .int .i64 s.mark, .int .i64 s.quiet, .bool s.ended] 26)) w.heap.size 23 #[.int .i64 j.groups, .int .i64 j.size, .int .i64 j.slide, .int .i64 j.fold, .int .i64 j.fuel, .int .i64 j.limit, .int .i64 j.delay, .int .i64 j.idle] := (Blk.new w _ _).alloc _
    have bS_0 : Blk ((w.alloc (.cells #[.int .i64 j.groups, .int .i64 j.size, .int .i64 j.slide, .int .i64 j.fold, .int .i64 j.fuel, .int .i64 j.limit, .int .i64 j.delay, .int .i64 j.idle] 23)).alloc (.cells #[.slice A 60 c, .int .i64 s.done, .int .i64 s.mark, .int .i64 s.quiet, .bool s.ended] 26)) (w.heap.size + 1) 26 #[.slice A 60 c, .int .i64 s.done, .int .i64 s.mark, .int .i64 s.quiet, .bool s.ended] := by simpa using Blk.new (w.alloc (.cells #[.int .i64 j.groups, .int .i64 j.size, .int .i64 j.slide, .int .i64 j.fold, .int .i64 j.fuel, .int .i64 j.limit, .int .i64 j.delay, .int .i64 j.idle] 23)) 26 #[.slice A 60 c, .int .i64 s.done, .int .i64 s.mark, .int .i64 s.quiet, .bool s.ended]
    have kV_0 : Below w.heap.size w ((w.alloc (.cells #[.int .i64 j.groups, .int .i64 j.size, .int .i64 j.slide, .int .i64 j.fold, .int .i64 j.fuel, .int .i64 j.limit, .int .i64 j.delay, .int .i64 j.idle] 23)).alloc (.cells #[.slice A 60 c, .int .i64 s.done, .int .i64 s.mark, .int .i64 s.quiet, .bool s.ended] 26)) := by go_grown
    have hrd_0 := reads_alloc (o := .cells #[.slice A 60 c, .int .i64 s.done, .int .i64 s.mark, .int .i64 s.quiet, .bool s.ended] 26) (reads_alloc (o := .cells #[.int .i64 j.groups, .int .i64 j.size, .int .i64 j.slide, .int .i64 j.fold, .int .i64 j.fuel, .int .i64 j.limit, .int .i64 j.delay, .int .i64 j.idle] 23) hrt)
    generalize ((w.alloc (.cells #[.int .i64 j.groups, .int .i64 j.size, .int .i64 j.slide, .int .i64 j.fold, .int .i64 j.fuel, .int .i64 j.limit, .int .i64 j.delay, .int .i64 j.idle] 23)).alloc (.cells #[.slice A 60 c, .int .i64 s.done, .int .i64 s.mark, .int .i64 s.quiet, .bool s.ended] 26)) = V0 at *
    have j0 : V0.cell? ⟨w.heap.size, 0, none⟩ = some (.int .i64 j.groups) := bJ_0.cell 0
    have j1 : V0.cell? ⟨w.heap.size, 1, none⟩ = some (.int .i64 j.size) := bJ_0.cell 1
    have j2 : V0.cell? ⟨w.heap.size, 2, none⟩ = some (.int .i64 j.slide) := bJ_0.cell 2
    have j3 : V0.cell? ⟨w.heap.size, 3, none⟩ = some (.int .i64 j.fold) := bJ_0.cell 3
    have j4 : V0.cell? ⟨w.heap.size, 4, none⟩ = some (.int .i64 j.fuel) := bJ_0.cell 4
    have j5 : V0.cell? ⟨w.heap.size, 5, none⟩ = some (.int .i64 j.limit) := bJ_0.cell 5
    have j6 : V0.cell? ⟨w.heap.size, 6, none⟩ = some (.int .i64 j.delay) := bJ_0.cell 6
    have j7 : V0.cell? ⟨w.heap.size, 7, none⟩ = some (.int .i64 j.idle) := bJ_0.cell 7
    have s0 : V0.cell? ⟨w.heap.size + 1, 0, none⟩ = some (.slice A 60 c) := bS_0.cell 0
    have s1 : V0.cell? ⟨w.heap.size + 1, 1, none⟩ = some (.int .i64 s.done) := bS_0.cell 1
    have s2 : V0.cell? ⟨w.heap.size + 1, 2, none⟩ = some (.int .i64 s.mark) := bS_0.cell 2
    have s3 : V0.cell? ⟨w.heap.size + 1, 3, none⟩ = some (.int .i64 s.quiet) := bS_0.cell 3
    have s4 : V0.cell? ⟨w.heap.size + 1, 4, none⟩ = some (.bool s.ended) := bS_0.cell 4
    go_wp2_with fail
    refine (nextP_any j ⟨s.evs.take 60, s.done, s.mark, s.quiet, s.ended⟩ A 60 c _ hj hS hrd_0 hm).mono ?_
    rw [hN]
    intro e w1 hp
    obtain ⟨hb1, A1, c1, rfl, it1_x, ev1_x⟩ := step_out hrd_0 hNe hp
    clear hp
    have kk := kV_0.trans (hb1.mono kV_0.size)
    clear j0 j1 j2 j3 j4 j5 j6 j7 s0 s1 s2 s3 s4
    have lS := Nat.lt_of_lt_of_le bS_0.lt hb1.size
    go_upto_region 4 with fail
    have ba_1 := Blk.new w1 26 #[.slice (outA A rN) (outN 60 rN) (outN c rN), .int .i64 (outS rN).done, .int .i64 (outS rN).mark, .int .i64 (outS rN).quiet, .bool (outS rN).ended]
    have bJ_1 := (bJ_0.below hb1 bJ_0.lt).alloc (.cells #[.slice (outA A rN) (outN 60 rN) (outN c rN), .int .i64 (outS rN).done, .int .i64 (outS rN).mark, .int .i64 (outS rN).quiet, .bool (outS rN).ended] 26)
    have bS_1 := (bS_0.below hb1 bS_0.lt).alloc (.cells #[.slice (outA A rN) (outN 60 rN) (outN c rN), .int .i64 (outS rN).done, .int .i64 (outS rN).mark, .int .i64 (outS rN).quiet, .bool (outS rN).ended] 26)
    have kV_1 := kk.alloc kk.size (.cells #[.slice (outA A rN) (outN 60 rN) (outN c rN), .int .i64 (outS rN).done, .int .i64 (outS rN).mark, .int .i64 (outS rN).quiet, .bool (outS rN).ended] 26)
    have hrd_1 := reads_alloc (o := .cells #[.slice (outA A rN) (outN 60 rN) (outN c rN), .int .i64 (outS rN).done, .int .i64 (outS rN).mark, .int .i64 (outS rN).quiet, .bool (outS rN).ended] 26) (reads_below hrd_0 hb1)
    have it1_1 := reads_alloc (o := .cells #[.slice (outA A rN) (outN 60 rN) (outN c rN), .int .i64 (outS rN).done, .int .i64 (outS rN).mark, .int .i64 (outS rN).quiet, .bool (outS rN).ended] 26) it1_x
    have ev1_1 := reads_alloc (o := .cells #[.slice (outA A rN) (outN 60 rN) (outN c rN), .int .i64 (outS rN).done, .int .i64 (outS rN).mark, .int .i64 (outS rN).quiet, .bool (outS rN).ended] 26) ev1_x
    clear kk hb1 lS it1_x ev1_x kV_0 hrd_0 bJ_0 bS_0 
    generalize w1.alloc (.cells #[.slice (outA A rN) (outN 60 rN) (outN c rN), .int .i64 (outS rN).done, .int .i64 (outS rN).mark, .int .i64 (outS rN).quiet, .bool (outS rN).ended] 26) = V1 at *
    generalize w1.heap.size = na at *
    have j0 : V1.cell? ⟨w.heap.size, 0, none⟩ = some (.int .i64 j.groups) := bJ_1.cell 0
    have j1 : V1.cell? ⟨w.heap.size, 1, none⟩ = some (.int .i64 j.size) := bJ_1.cell 1
    have j2 : V1.cell? ⟨w.heap.size, 2, none⟩ = some (.int .i64 j.slide) := bJ_1.cell 2
    have j3 : V1.cell? ⟨w.heap.size, 3, none⟩ = some (.int .i64 j.fold) := bJ_1.cell 3
    have j4 : V1.cell? ⟨w.heap.size, 4, none⟩ = some (.int .i64 j.fuel) := bJ_1.cell 4
    have j5 : V1.cell? ⟨w.heap.size, 5, none⟩ = some (.int .i64 j.limit) := bJ_1.cell 5
    have j6 : V1.cell? ⟨w.heap.size, 6, none⟩ = some (.int .i64 j.delay) := bJ_1.cell 6
    have j7 : V1.cell? ⟨w.heap.size, 7, none⟩ = some (.int .i64 j.idle) := bJ_1.cell 7
    have s0 : V1.cell? ⟨w.heap.size + 1, 0, none⟩ = some (.slice A 60 c) := bS_1.cell 0
    have s1 : V1.cell? ⟨w.heap.size + 1, 1, none⟩ = some (.int .i64 s.done) := bS_1.cell 1
    have s2 : V1.cell? ⟨w.heap.size + 1, 2, none⟩ = some (.int .i64 s.mark) := bS_1.cell 2
    have s3 : V1.cell? ⟨w.heap.size + 1, 3, none⟩ = some (.int .i64 s.quiet) := bS_1.cell 3
    have s4 : V1.cell? ⟨w.heap.size + 1, 4, none⟩ = some (.bool s.ended) := bS_1.cell 4
    go_wp2_with fail
    refine (refNext_any j ⟨s.evs.take 60, s.done, s.mark, s.quiet, s.ended⟩ A 60 c _ hj hS hrd_1 hm).mono ?_
    rw [hN]
    intro e w2 hp
    obtain ⟨hb2, A2, c2, rfl, it2_x, ev2_x⟩ := step_out hrd_1 hNe hp
    clear hp
    have kk := kV_1.trans (hb2.mono kV_1.size)
    clear j0 j1 j2 j3 j4 j5 j6 j7 s0 s1 s2 s3 s4
    have lS := Nat.lt_of_lt_of_le bS_1.lt hb2.size
    go_upto_region 5 with fail
    have bb_2 := Blk.new w2 26 #[.slice (outA A rN) (outN 60 rN) (outN c rN), .int .i64 (outS rN).done, .int .i64 (outS rN).mark, .int .i64 (outS rN).quiet, .bool (outS rN).ended]
    have ba_2 := (ba_1.below hb2 ba_1.lt).alloc (.cells #[.slice (outA A rN) (outN 60 rN) (outN c rN), .int .i64 (outS rN).done, .int .i64 (outS rN).mark, .int .i64 (outS rN).quiet, .bool (outS rN).ended] 26)
    have bJ_2 := (bJ_1.below hb2 bJ_1.lt).alloc (.cells #[.slice (outA A rN) (outN 60 rN) (outN c rN), .int .i64 (outS rN).done, .int .i64 (outS rN).mark, .int .i64 (outS rN).quiet, .bool (outS rN).ended] 26)
    have bS_2 := (bS_1.below hb2 bS_1.lt).alloc (.cells #[.slice (outA A rN) (outN 60 rN) (outN c rN), .int .i64 (outS rN).done, .int .i64 (outS rN).mark, .int .i64 (outS rN).quiet, .bool (outS rN).ended] 26)
    have kV_2 := kk.alloc kk.size (.cells #[.slice (outA A rN) (outN 60 rN) (outN c rN), .int .i64 (outS rN).done, .int .i64 (outS rN).mark, .int .i64 (outS rN).quiet, .bool (outS rN).ended] 26)
    have hrd_2 := reads_alloc (o := .cells #[.slice (outA A rN) (outN 60 rN) (outN c rN), .int .i64 (outS rN).done, .int .i64 (outS rN).mark, .int .i64 (outS rN).quiet, .bool (outS rN).ended] 26) (reads_below hrd_1 hb2)
    have it1_2 := reads_alloc (o := .cells #[.slice (outA A rN) (outN 60 rN) (outN c rN), .int .i64 (outS rN).done, .int .i64 (outS rN).mark, .int .i64 (outS rN).quiet, .bool (outS rN).ended] 26) (reads_below it1_1 hb2)
    have ev1_2 := reads_alloc (o := .cells #[.slice (outA A rN) (outN 60 rN) (outN c rN), .int .i64 (outS rN).done, .int .i64 (outS rN).mark, .int .i64 (outS rN).quiet, .bool (outS rN).ended] 26) (reads_below ev1_1 hb2)
    have it2_2 := reads_alloc (o := .cells #[.slice (outA A rN) (outN 60 rN) (outN c rN), .int .i64 (outS rN).done, .int .i64 (outS rN).mark, .int .i64 (outS rN).quiet, .bool (outS rN).ended] 26) it2_x
    have ev2_2 := reads_alloc (o := .cells #[.slice (outA A rN) (outN 60 rN) (outN c rN), .int .i64 (outS rN).done, .int .i64 (outS rN).mark, .int .i64 (outS rN).quiet, .bool (outS rN).ended] 26) ev2_x
    clear kk hb2 lS it2_x ev2_x kV_1 hrd_1 ba_1 bJ_1 bS_1 it1_1 ev1_1
    generalize w2.alloc (.cells #[.slice (outA A rN) (outN 60 rN) (outN c rN), .int .i64 (outS rN).done, .int .i64 (outS rN).mark, .int .i64 (outS rN).quiet, .bool (outS rN).ended] 26) = V2 at *
    generalize w2.heap.size = nb at *
    have j0 : V2.cell? ⟨w.heap.size, 0, none⟩ = some (.int .i64 j.groups) := bJ_2.cell 0
    have j1 : V2.cell? ⟨w.heap.size, 1, none⟩ = some (.int .i64 j.size) := bJ_2.cell 1
    have j2 : V2.cell? ⟨w.heap.size, 2, none⟩ = some (.int .i64 j.slide) := bJ_2.cell 2
    have j3 : V2.cell? ⟨w.heap.size, 3, none⟩ = some (.int .i64 j.fold) := bJ_2.cell 3
    have j4 : V2.cell? ⟨w.heap.size, 4, none⟩ = some (.int .i64 j.fuel) := bJ_2.cell 4
    have j5 : V2.cell? ⟨w.heap.size, 5, none⟩ = some (.int .i64 j.limit) := bJ_2.cell 5
    have j6 : V2.cell? ⟨w.heap.size, 6, none⟩ = some (.int .i64 j.delay) := bJ_2.cell 6
    have j7 : V2.cell? ⟨w.heap.size, 7, none⟩ = some (.int .i64 j.idle) := bJ_2.cell 7
    have s0 : V2.cell? ⟨w.heap.size + 1, 0, none⟩ = some (.slice A 60 c) := bS_2.cell 0
    have s1 : V2.cell? ⟨w.heap.size + 1, 1, none⟩ = some (.int .i64 s.done) := bS_2.cell 1
    have s2 : V2.cell? ⟨w.heap.size + 1, 2, none⟩ = some (.int .i64 s.mark) := bS_2.cell 2
    have s3 : V2.cell? ⟨w.heap.size + 1, 3, none⟩ = some (.int .i64 s.quiet) := bS_2.cell 3
    have s4 : V2.cell? ⟨w.heap.size + 1, 4, none⟩ = some (.bool s.ended) := bS_2.cell 4
    go_wp2_with fail
    refine (tickP_any j ⟨s.evs.take 60, s.done, s.mark, s.quiet, s.ended⟩ A 60 c _ hj hS hrd_2 hm).mono ?_
    rw [hT]
    intro e w3 hp
    obtain ⟨hb3, A3, c3, rfl, it3_x, ev3_x⟩ := step_out hrd_2 hTe hp
    clear hp
    have kk := kV_2.trans (hb3.mono kV_2.size)
    clear j0 j1 j2 j3 j4 j5 j6 j7 s0 s1 s2 s3 s4
    have lS := Nat.lt_of_lt_of_le bS_2.lt hb3.size
    go_upto_region 6 with fail
    have bc_3 := Blk.new w3 26 #[.slice (outA A rT) (outN 60 rT) (outN c rT), .int .i64 (outS rT).done, .int .i64 (outS rT).mark, .int .i64 (outS rT).quiet, .bool (outS rT).ended]
    have ba_3 := (ba_2.below hb3 ba_2.lt).alloc (.cells #[.slice (outA A rT) (outN 60 rT) (outN c rT), .int .i64 (outS rT).done, .int .i64 (outS rT).mark, .int .i64 (outS rT).quiet, .bool (outS rT).ended] 26)
    have bb_3 := (bb_2.below hb3 bb_2.lt).alloc (.cells #[.slice (outA A rT) (outN 60 rT) (outN c rT), .int .i64 (outS rT).done, .int .i64 (outS rT).mark, .int .i64 (outS rT).quiet, .bool (outS rT).ended] 26)
    have bJ_3 := (bJ_2.below hb3 bJ_2.lt).alloc (.cells #[.slice (outA A rT) (outN 60 rT) (outN c rT), .int .i64 (outS rT).done, .int .i64 (outS rT).mark, .int .i64 (outS rT).quiet, .bool (outS rT).ended] 26)
    have bS_3 := (bS_2.below hb3 bS_2.lt).alloc (.cells #[.slice (outA A rT) (outN 60 rT) (outN c rT), .int .i64 (outS rT).done, .int .i64 (outS rT).mark, .int .i64 (outS rT).quiet, .bool (outS rT).ended] 26)
    have kV_3 := kk.alloc kk.size (.cells #[.slice (outA A rT) (outN 60 rT) (outN c rT), .int .i64 (outS rT).done, .int .i64 (outS rT).mark, .int .i64 (outS rT).quiet, .bool (outS rT).ended] 26)
    have hrd_3 := reads_alloc (o := .cells #[.slice (outA A rT) (outN 60 rT) (outN c rT), .int .i64 (outS rT).done, .int .i64 (outS rT).mark, .int .i64 (outS rT).quiet, .bool (outS rT).ended] 26) (reads_below hrd_2 hb3)
    have it1_3 := reads_alloc (o := .cells #[.slice (outA A rT) (outN 60 rT) (outN c rT), .int .i64 (outS rT).done, .int .i64 (outS rT).mark, .int .i64 (outS rT).quiet, .bool (outS rT).ended] 26) (reads_below it1_2 hb3)
    have ev1_3 := reads_alloc (o := .cells #[.slice (outA A rT) (outN 60 rT) (outN c rT), .int .i64 (outS rT).done, .int .i64 (outS rT).mark, .int .i64 (outS rT).quiet, .bool (outS rT).ended] 26) (reads_below ev1_2 hb3)
    have it2_3 := reads_alloc (o := .cells #[.slice (outA A rT) (outN 60 rT) (outN c rT), .int .i64 (outS rT).done, .int .i64 (outS rT).mark, .int .i64 (outS rT).quiet, .bool (outS rT).ended] 26) (reads_below it2_2 hb3)
    have ev2_3 := reads_alloc (o := .cells #[.slice (outA A rT) (outN 60 rT) (outN c rT), .int .i64 (outS rT).done, .int .i64 (outS rT).mark, .int .i64 (outS rT).quiet, .bool (outS rT).ended] 26) (reads_below ev2_2 hb3)
    have it3_3 := reads_alloc (o := .cells #[.slice (outA A rT) (outN 60 rT) (outN c rT), .int .i64 (outS rT).done, .int .i64 (outS rT).mark, .int .i64 (outS rT).quiet, .bool (outS rT).ended] 26) it3_x
    have ev3_3 := reads_alloc (o := .cells #[.slice (outA A rT) (outN 60 rT) (outN c rT), .int .i64 (outS rT).done, .int .i64 (outS rT).mark, .int .i64 (outS rT).quiet, .bool (outS rT).ended] 26) ev3_x
    clear kk hb3 lS it3_x ev3_x kV_2 hrd_2 ba_2 bb_2 bJ_2 bS_2 it1_2 ev1_2 it2_2 ev2_2
    generalize w3.alloc (.cells #[.slice (outA A rT) (outN 60 rT) (outN c rT), .int .i64 (outS rT).done, .int .i64 (outS rT).mark, .int .i64 (outS rT).quiet, .bool (outS rT).ended] 26) = V3 at *
    generalize w3.heap.size = nc at *
    have j0 : V3.cell? ⟨w.heap.size, 0, none⟩ = some (.int .i64 j.groups) := bJ_3.cell 0
    have j1 : V3.cell? ⟨w.heap.size, 1, none⟩ = some (.int .i64 j.size) := bJ_3.cell 1
    have j2 : V3.cell? ⟨w.heap.size, 2, none⟩ = some (.int .i64 j.slide) := bJ_3.cell 2
    have j3 : V3.cell? ⟨w.heap.size, 3, none⟩ = some (.int .i64 j.fold) := bJ_3.cell 3
    have j4 : V3.cell? ⟨w.heap.size, 4, none⟩ = some (.int .i64 j.fuel) := bJ_3.cell 4
    have j5 : V3.cell? ⟨w.heap.size, 5, none⟩ = some (.int .i64 j.limit) := bJ_3.cell 5
    have j6 : V3.cell? ⟨w.heap.size, 6, none⟩ = some (.int .i64 j.delay) := bJ_3.cell 6
    have j7 : V3.cell? ⟨w.heap.size, 7, none⟩ = some (.int .i64 j.idle) := bJ_3.cell 7
    have s0 : V3.cell? ⟨w.heap.size + 1, 0, none⟩ = some (.slice A 60 c) := bS_3.cell 0
    have s1 : V3.cell? ⟨w.heap.size + 1, 1, none⟩ = some (.int .i64 s.done) := bS_3.cell 1
    have s2 : V3.cell? ⟨w.heap.size + 1, 2, none⟩ = some (.int .i64 s.mark) := bS_3.cell 2
    have s3 : V3.cell? ⟨w.heap.size + 1, 3, none⟩ = some (.int .i64 s.quiet) := bS_3.cell 3
    have s4 : V3.cell? ⟨w.heap.size + 1, 4, none⟩ = some (.bool s.ended) := bS_3.cell 4
    go_wp2_with fail
    refine (refTick_any j ⟨s.evs.take 60, s.done, s.mark, s.quiet, s.ended⟩ A 60 c _ hj hS hrd_3 hm).mono ?_
    rw [hT]
    intro e w4 hp
    obtain ⟨hb4, A4, c4, rfl, it4_x, ev4_x⟩ := step_out hrd_3 hTe hp
    clear hp
    have kk := kV_3.trans (hb4.mono kV_3.size)
    clear j0 j1 j2 j3 j4 j5 j6 j7 s0 s1 s2 s3 s4
    have lS := Nat.lt_of_lt_of_le bS_3.lt hb4.size
    go_wp2_with fail
    have bd_4 := Blk.new w4 26 #[.slice (outA A rT) (outN 60 rT) (outN c rT), .int .i64 (outS rT).done, .int .i64 (outS rT).mark, .int .i64 (outS rT).quiet, .bool (outS rT).ended]
    have ba_4 := (ba_3.below hb4 ba_3.lt).alloc (.cells #[.slice (outA A rT) (outN 60 rT) (outN c rT), .int .i64 (outS rT).done, .int .i64 (outS rT).mark, .int .i64 (outS rT).quiet, .bool (outS rT).ended] 26)
    have bb_4 := (bb_3.below hb4 bb_3.lt).alloc (.cells #[.slice (outA A rT) (outN 60 rT) (outN c rT), .int .i64 (outS rT).done, .int .i64 (outS rT).mark, .int .i64 (outS rT).quiet, .bool (outS rT).ended] 26)
    have bc_4 := (bc_3.below hb4 bc_3.lt).alloc (.cells #[.slice (outA A rT) (outN 60 rT) (outN c rT), .int .i64 (outS rT).done, .int .i64 (outS rT).mark, .int .i64 (outS rT).quiet, .bool (outS rT).ended] 26)
    have bJ_4 := (bJ_3.below hb4 bJ_3.lt).alloc (.cells #[.slice (outA A rT) (outN 60 rT) (outN c rT), .int .i64 (outS rT).done, .int .i64 (outS rT).mark, .int .i64 (outS rT).quiet, .bool (outS rT).ended] 26)
    have bS_4 := (bS_3.below hb4 bS_3.lt).alloc (.cells #[.slice (outA A rT) (outN 60 rT) (outN c rT), .int .i64 (outS rT).done, .int .i64 (outS rT).mark, .int .i64 (outS rT).quiet, .bool (outS rT).ended] 26)
    have kV_4 := kk.alloc kk.size (.cells #[.slice (outA A rT) (outN 60 rT) (outN c rT), .int .i64 (outS rT).done, .int .i64 (outS rT).mark, .int .i64 (outS rT).quiet, .bool (outS rT).ended] 26)
    have hrd_4 := reads_alloc (o := .cells #[.slice (outA A rT) (outN 60 rT) (outN c rT), .int .i64 (outS rT).done, .int .i64 (outS rT).mark, .int .i64 (outS rT).quiet, .bool (outS rT).ended] 26) (reads_below hrd_3 hb4)
    have it1_4 := reads_alloc (o := .cells #[.slice (outA A rT) (outN 60 rT) (outN c rT), .int .i64 (outS rT).done, .int .i64 (outS rT).mark, .int .i64 (outS rT).quiet, .bool (outS rT).ended] 26) (reads_below it1_3 hb4)
    have ev1_4 := reads_alloc (o := .cells #[.slice (outA A rT) (outN 60 rT) (outN c rT), .int .i64 (outS rT).done, .int .i64 (outS rT).mark, .int .i64 (outS rT).quiet, .bool (outS rT).ended] 26) (reads_below ev1_3 hb4)
    have it2_4 := reads_alloc (o := .cells #[.slice (outA A rT) (outN 60 rT) (outN c rT), .int .i64 (outS rT).done, .int .i64 (outS rT).mark, .int .i64 (outS rT).quiet, .bool (outS rT).ended] 26) (reads_below it2_3 hb4)
    have ev2_4 := reads_alloc (o := .cells #[.slice (outA A rT) (outN 60 rT) (outN c rT), .int .i64 (outS rT).done, .int .i64 (outS rT).mark, .int .i64 (outS rT).quiet, .bool (outS rT).ended] 26) (reads_below ev2_3 hb4)
    have it3_4 := reads_alloc (o := .cells #[.slice (outA A rT) (outN 60 rT) (outN c rT), .int .i64 (outS rT).done, .int .i64 (outS rT).mark, .int .i64 (outS rT).quiet, .bool (outS rT).ended] 26) (reads_below it3_3 hb4)
    have ev3_4 := reads_alloc (o := .cells #[.slice (outA A rT) (outN 60 rT) (outN c rT), .int .i64 (outS rT).done, .int .i64 (outS rT).mark, .int .i64 (outS rT).quiet, .bool (outS rT).ended] 26) (reads_below ev3_3 hb4)
    have it4_4 := reads_alloc (o := .cells #[.slice (outA A rT) (outN 60 rT) (outN c rT), .int .i64 (outS rT).done, .int .i64 (outS rT).mark, .int .i64 (outS rT).quiet, .bool (outS rT).ended] 26) it4_x
    have ev4_4 := reads_alloc (o := .cells #[.slice (outA A rT) (outN 60 rT) (outN c rT), .int .i64 (outS rT).done, .int .i64 (outS rT).mark, .int .i64 (outS rT).quiet, .bool (outS rT).ended] 26) ev4_x
    clear kk hb4 lS it4_x ev4_x kV_3 hrd_3 ba_3 bb_3 bc_3 bJ_3 bS_3 it1_3 ev1_3 it2_3 ev2_3 it3_3 ev3_3
    generalize w4.alloc (.cells #[.slice (outA A rT) (outN 60 rT) (outN c rT), .int .i64 (outS rT).done, .int .i64 (outS rT).mark, .int .i64 (outS rT).quiet, .bool (outS rT).ended] 26) = V4 at *
    generalize w4.heap.size = nd at *
    obtain ⟨sb, hsb⟩ : ∃ sb, srcB ⟨s.evs.take 60, s.done, s.mark, s.quiet, s.ended⟩ = sb := ⟨_, rfl⟩
    have HSB := Lib.hid hsb
    clear hsb
    have hQ : ∀ x : World, Below V4.heap.size V4 x → x.cell? ⟨w.heap.size + 1, 0, none⟩ = some (.slice A 60 c) ∧ x.cell? ⟨w.heap.size + 1, 1, none⟩ = some (.int .i64 s.done) ∧ x.cell? ⟨w.heap.size + 1, 2, none⟩ = some (.int .i64 s.mark) ∧ x.cell? ⟨w.heap.size + 1, 3, none⟩ = some (.int .i64 s.quiet) ∧ x.cell? ⟨w.heap.size + 1, 4, none⟩ = some (.bool s.ended) ∧ x.cell? ⟨na, 0, none⟩ = some (.slice (outA A rN) (outN 60 rN) (outN c rN)) ∧ x.cell? ⟨na, 1, none⟩ = some (.int .i64 (outS rN).done) ∧ x.cell? ⟨na, 2, none⟩ = some (.int .i64 (outS rN).mark) ∧ x.cell? ⟨na, 3, none⟩ = some (.int .i64 (outS rN).quiet) ∧ x.cell? ⟨na, 4, none⟩ = some (.bool (outS rN).ended) ∧ x.cell? ⟨nb, 0, none⟩ = some (.slice (outA A rN) (outN 60 rN) (outN c rN)) ∧ x.cell? ⟨nb, 1, none⟩ = some (.int .i64 (outS rN).done) ∧ x.cell? ⟨nb, 2, none⟩ = some (.int .i64 (outS rN).mark) ∧ x.cell? ⟨nb, 3, none⟩ = some (.int .i64 (outS rN).quiet) ∧ x.cell? ⟨nb, 4, none⟩ = some (.bool (outS rN).ended) ∧ x.cell? ⟨nc, 0, none⟩ = some (.slice (outA A rT) (outN 60 rT) (outN c rT)) ∧ x.cell? ⟨nc, 1, none⟩ = some (.int .i64 (outS rT).done) ∧ x.cell? ⟨nc, 2, none⟩ = some (.int .i64 (outS rT).mark) ∧ x.cell? ⟨nc, 3, none⟩ = some (.int .i64 (outS rT).quiet) ∧ x.cell? ⟨nc, 4, none⟩ = some (.bool (outS rT).ended) ∧ x.cell? ⟨nd, 0, none⟩ = some (.slice (outA A rT) (outN 60 rT) (outN c rT)) ∧ x.cell? ⟨nd, 1, none⟩ = some (.int .i64 (outS rT).done) ∧ x.cell? ⟨nd, 2, none⟩ = some (.int .i64 (outS rT).mark) ∧ x.cell? ⟨nd, 3, none⟩ = some (.int .i64 (outS rT).quiet) ∧ x.cell? ⟨nd, 4, none⟩ = some (.bool (outS rT).ended) := fun x hx => ⟨(bS_4.below hx bS_4.lt).cell 0, (bS_4.below hx bS_4.lt).cell 1, (bS_4.below hx bS_4.lt).cell 2, (bS_4.below hx bS_4.lt).cell 3, (bS_4.below hx bS_4.lt).cell 4, (ba_4.below hx ba_4.lt).cell 0, (ba_4.below hx ba_4.lt).cell 1, (ba_4.below hx ba_4.lt).cell 2, (ba_4.below hx ba_4.lt).cell 3, (ba_4.below hx ba_4.lt).cell 4, (bb_4.below hx bb_4.lt).cell 0, (bb_4.below hx bb_4.lt).cell 1, (bb_4.below hx bb_4.lt).cell 2, (bb_4.below hx bb_4.lt).cell 3, (bb_4.below hx bb_4.lt).cell 4, (bc_4.below hx bc_4.lt).cell 0, (bc_4.below hx bc_4.lt).cell 1, (bc_4.below hx bc_4.lt).cell 2, (bc_4.below hx bc_4.lt).cell 3, (bc_4.below hx bc_4.lt).cell 4, (bd_4.below hx bd_4.lt).cell 0, (bd_4.below hx bd_4.lt).cell 1, (bd_4.below hx bd_4.lt).cell 2, (bd_4.below hx bd_4.lt).cell 3, (bd_4.below hx bd_4.lt).cell 4⟩
    have kx0 : Below V4.heap.size V4 V4 := Below.refl _ _
    have hNm := outN_le 60 rN
    have hTm := outN_le 60 rT
    go_region_held3 (fun x => x.cell? ⟨w.heap.size + 1, 0, none⟩ = some (.slice A 60 c) ∧ x.cell? ⟨w.heap.size + 1, 1, none⟩ = some (.int .i64 s.done) ∧ x.cell? ⟨w.heap.size + 1, 2, none⟩ = some (.int .i64 s.mark) ∧ x.cell? ⟨w.heap.size + 1, 3, none⟩ = some (.int .i64 s.quiet) ∧ x.cell? ⟨w.heap.size + 1, 4, none⟩ = some (.bool s.ended) ∧ x.cell? ⟨na, 0, none⟩ = some (.slice (outA A rN) (outN 60 rN) (outN c rN)) ∧ x.cell? ⟨na, 1, none⟩ = some (.int .i64 (outS rN).done) ∧ x.cell? ⟨na, 2, none⟩ = some (.int .i64 (outS rN).mark) ∧ x.cell? ⟨na, 3, none⟩ = some (.int .i64 (outS rN).quiet) ∧ x.cell? ⟨na, 4, none⟩ = some (.bool (outS rN).ended) ∧ x.cell? ⟨nb, 0, none⟩ = some (.slice (outA A rN) (outN 60 rN) (outN c rN)) ∧ x.cell? ⟨nb, 1, none⟩ = some (.int .i64 (outS rN).done) ∧ x.cell? ⟨nb, 2, none⟩ = some (.int .i64 (outS rN).mark) ∧ x.cell? ⟨nb, 3, none⟩ = some (.int .i64 (outS rN).quiet) ∧ x.cell? ⟨nb, 4, none⟩ = some (.bool (outS rN).ended) ∧ x.cell? ⟨nc, 0, none⟩ = some (.slice (outA A rT) (outN 60 rT) (outN c rT)) ∧ x.cell? ⟨nc, 1, none⟩ = some (.int .i64 (outS rT).done) ∧ x.cell? ⟨nc, 2, none⟩ = some (.int .i64 (outS rT).mark) ∧ x.cell? ⟨nc, 3, none⟩ = some (.int .i64 (outS rT).quiet) ∧ x.cell? ⟨nc, 4, none⟩ = some (.bool (outS rT).ended) ∧ x.cell? ⟨nd, 0, none⟩ = some (.slice (outA A rT) (outN 60 rT) (outN c rT)) ∧ x.cell? ⟨nd, 1, none⟩ = some (.int .i64 (outS rT).done) ∧ x.cell? ⟨nd, 2, none⟩ = some (.int .i64 (outS rT).mark) ∧ x.cell? ⟨nd, 3, none⟩ = some (.int .i64 (outS rT).quiet) ∧ x.cell? ⟨nd, 4, none⟩ = some (.bool (outS rT).ended))
      (first | exact hQ _ kx7 | exact hQ _ kx6 | exact hQ _ kx5 | exact hQ _ kx4 | exact hQ _ kx3 | exact hQ _ kx2 | exact hQ _ kx1 | exact hQ _ kx0 | go_keep)
      (first
        | (go_at_call 13; refine (alive_any _).mono ?_; rintro e x1 ⟨rfl, hx1⟩; have kx1 : Below V4.heap.size V4 x1 := undrew1 hx1)
        | (go_at_call 14; refine (src_any s.done s.mark s.quiet s.ended (s.evs.take 60) A 60 c _ (reads_below hrd_4 kx1) (by omega) hS.key).mono ?_; rw [HSB.out]; rintro e x2 ⟨rfl, hx2⟩; have kx2 := kx1.trans (hx2.mono kx1.size))
        | (go_at_call 15; refine (refSrc_any s.done s.mark s.quiet s.ended (s.evs.take 60) A 60 c _ (reads_below hrd_4 kx2) (by omega) hS.key).mono ?_; rw [HSB.out]; rintro e x3 ⟨rfl, hx3⟩; have kx3 := kx2.trans (hx3.mono kx2.size))
        | (go_at_call 17; have q := kx6; refine (likeItms_same (outL rT) A3 A4 (outL rT).length c3 c4 _ (reads_below it3_4 kx6) (reads_below it4_4 kx6) (by omega)).mono ?_; rintro e x7 ⟨rfl, hx7⟩; have kx7 := kx6.trans (hx7.mono kx6.size))
        | (go_at_call 16; have q := kx5; refine (like_same (outS rT).done (outS rT).mark (outS rT).quiet (outS rT).ended (outS rT).evs (outA A rT) (outA A rT) (outN 60 rT) (outN c rT) (outN c rT) _ (reads_below ev3_4 kx5) (reads_below ev4_4 kx5) (by omega)).mono ?_; rintro e x6 ⟨rfl, hx6⟩; have kx6 := kx5.trans (hx6.mono kx5.size))
        | (go_at_call 17; have q := kx4; refine (likeItms_same (outL rN) A1 A2 (outL rN).length c1 c2 _ (reads_below it1_4 kx4) (reads_below it2_4 kx4) (by omega)).mono ?_; rintro e x5 ⟨rfl, hx5⟩; have kx5 := kx4.trans (hx5.mono kx4.size))
        | (go_at_call 16; have q := kx3; refine (like_same (outS rN).done (outS rN).mark (outS rN).quiet (outS rN).ended (outS rN).evs (outA A rN) (outA A rN) (outN 60 rN) (outN c rN) (outN c rN) _ (reads_below ev1_4 kx3) (reads_below ev2_4 kx3) (by omega)).mono ?_; rintro e x4 ⟨rfl, hx4⟩; have kx4 := kx3.trans (hx4.mono kx3.size)))
    go_wp2
    go_ret
    exact ⟨by simp, kV_4.trans (kx7.mono kV_4.size)⟩

  · have hc1 : (60 : Int) < n := by omega
    have hc2 : (200 : Int) < n := by omega
    clear h1 h2
    go_enter Try.func3, Try.ntmps3
    go_upto_region 3 with fail
    obtain ⟨rN, hN⟩ : ∃ r, nextR j ⟨s.evs, s.done, s.mark, s.quiet, s.ended⟩ = r := ⟨_, rfl⟩
    have hNe : rN.2.2 = 0 → rN.1.evs = s.evs := fun h => by subst hN; exact nextR_evs h
    have hNl : (outL rN).length ≤ 2 := outL_len (by rw [← hN]; exact nextR_len _ _)
    obtain ⟨rT, hT⟩ : ∃ r, tickR j ⟨s.evs, s.done, s.mark, s.quiet, s.ended⟩ = r := ⟨_, rfl⟩
    have hTe : rT.2.2 = 0 → rT.1.evs = s.evs := fun h => by subst hT; exact tickR_evs h
    have hTl : (outL rT).length ≤ 2 := outL_len (by rw [← hT]; exact tickR_len _ _)
    have hS : Sr.Wf ⟨s.evs, s.done, s.mark, s.quiet, s.ended⟩ := ⟨fun z hz => hs.key z (hz), fun z hz => hs.v z (hz)⟩
    have bJ_0 : Blk ((w.alloc (.cells #[.int .i64 j.groups, .int .i64 j.size, .int .i64 j.slide, .int .i64 j.fold, .int .i64 j.fuel, .int .i64 j.limit, .int .i64 j.delay, .int .i64 j.idle] 23)).alloc (.cells #[.slice A n c, .int .i64 s.done, .int .i64 s.mark, .int .i64 s.quiet, .bool s.ended] 26)) w.heap.size 23 #[.int .i64 j.groups, .int .i64 j.size, .int .i64 j.slide, .int .i64 j.fold, .int .i64 j.fuel, .int .i64 j.limit, .int .i64 j.delay, .int .i64 j.idle] := (Blk.new w _ _).alloc _
    have bS_0 : Blk ((w.alloc (.cells #[.int .i64 j.groups, .int .i64 j.size, .int .i64 j.slide, .int .i64 j.fold, .int .i64 j.fuel, .int .i64 j.limit, .int .i64 j.delay, .int .i64 j.idle] 23)).alloc (.cells #[.slice A n c, .int .i64 s.done, .int .i64 s.mark, .int .i64 s.quiet, .bool s.ended] 26)) (w.heap.size + 1) 26 #[.slice A n c, .int .i64 s.done, .int .i64 s.mark, .int .i64 s.quiet, .bool s.ended] := by simpa using Blk.new (w.alloc (.cells #[.int .i64 j.groups, .int .i64 j.size, .int .i64 j.slide, .int .i64 j.fold, .int .i64 j.fuel, .int .i64 j.limit, .int .i64 j.delay, .int .i64 j.idle] 23)) 26 #[.slice A n c, .int .i64 s.done, .int .i64 s.mark, .int .i64 s.quiet, .bool s.ended]
    have kV_0 : Below w.heap.size w ((w.alloc (.cells #[.int .i64 j.groups, .int .i64 j.size, .int .i64 j.slide, .int .i64 j.fold, .int .i64 j.fuel, .int .i64 j.limit, .int .i64 j.delay, .int .i64 j.idle] 23)).alloc (.cells #[.slice A n c, .int .i64 s.done, .int .i64 s.mark, .int .i64 s.quiet, .bool s.ended] 26)) := by go_grown
    have hrd_0 := reads_alloc (o := .cells #[.slice A n c, .int .i64 s.done, .int .i64 s.mark, .int .i64 s.quiet, .bool s.ended] 26) (reads_alloc (o := .cells #[.int .i64 j.groups, .int .i64 j.size, .int .i64 j.slide, .int .i64 j.fold, .int .i64 j.fuel, .int .i64 j.limit, .int .i64 j.delay, .int .i64 j.idle] 23) hr)
    generalize ((w.alloc (.cells #[.int .i64 j.groups, .int .i64 j.size, .int .i64 j.slide, .int .i64 j.fold, .int .i64 j.fuel, .int .i64 j.limit, .int .i64 j.delay, .int .i64 j.idle] 23)).alloc (.cells #[.slice A n c, .int .i64 s.done, .int .i64 s.mark, .int .i64 s.quiet, .bool s.ended] 26)) = V0 at *
    have j0 : V0.cell? ⟨w.heap.size, 0, none⟩ = some (.int .i64 j.groups) := bJ_0.cell 0
    have j1 : V0.cell? ⟨w.heap.size, 1, none⟩ = some (.int .i64 j.size) := bJ_0.cell 1
    have j2 : V0.cell? ⟨w.heap.size, 2, none⟩ = some (.int .i64 j.slide) := bJ_0.cell 2
    have j3 : V0.cell? ⟨w.heap.size, 3, none⟩ = some (.int .i64 j.fold) := bJ_0.cell 3
    have j4 : V0.cell? ⟨w.heap.size, 4, none⟩ = some (.int .i64 j.fuel) := bJ_0.cell 4
    have j5 : V0.cell? ⟨w.heap.size, 5, none⟩ = some (.int .i64 j.limit) := bJ_0.cell 5
    have j6 : V0.cell? ⟨w.heap.size, 6, none⟩ = some (.int .i64 j.delay) := bJ_0.cell 6
    have j7 : V0.cell? ⟨w.heap.size, 7, none⟩ = some (.int .i64 j.idle) := bJ_0.cell 7
    have s0 : V0.cell? ⟨w.heap.size + 1, 0, none⟩ = some (.slice A n c) := bS_0.cell 0
    have s1 : V0.cell? ⟨w.heap.size + 1, 1, none⟩ = some (.int .i64 s.done) := bS_0.cell 1
    have s2 : V0.cell? ⟨w.heap.size + 1, 2, none⟩ = some (.int .i64 s.mark) := bS_0.cell 2
    have s3 : V0.cell? ⟨w.heap.size + 1, 3, none⟩ = some (.int .i64 s.quiet) := bS_0.cell 3
    have s4 : V0.cell? ⟨w.heap.size + 1, 4, none⟩ = some (.bool s.ended) := bS_0.cell 4
    go_wp2_with fail
    refine (nextP_any j ⟨s.evs, s.done, s.mark, s.quiet, s.ended⟩ A n c _ hj hS hrd_0 hm).mono ?_
    rw [hN]
    intro e w1 hp
    obtain ⟨hb1, A1, c1, rfl, it1_x, ev1_x⟩ := step_out hrd_0 hNe hp
    clear hp
    have kk := kV_0.trans (hb1.mono kV_0.size)
    clear j0 j1 j2 j3 j4 j5 j6 j7 s0 s1 s2 s3 s4
    have lS := Nat.lt_of_lt_of_le bS_0.lt hb1.size
    go_upto_region 4 with fail
    have ba_1 := Blk.new w1 26 #[.slice (outA A rN) (outN n rN) (outN c rN), .int .i64 (outS rN).done, .int .i64 (outS rN).mark, .int .i64 (outS rN).quiet, .bool (outS rN).ended]
    have bJ_1 := (bJ_0.below hb1 bJ_0.lt).alloc (.cells #[.slice (outA A rN) (outN n rN) (outN c rN), .int .i64 (outS rN).done, .int .i64 (outS rN).mark, .int .i64 (outS rN).quiet, .bool (outS rN).ended] 26)
    have bS_1 := (bS_0.below hb1 bS_0.lt).alloc (.cells #[.slice (outA A rN) (outN n rN) (outN c rN), .int .i64 (outS rN).done, .int .i64 (outS rN).mark, .int .i64 (outS rN).quiet, .bool (outS rN).ended] 26)
    have kV_1 := kk.alloc kk.size (.cells #[.slice (outA A rN) (outN n rN) (outN c rN), .int .i64 (outS rN).done, .int .i64 (outS rN).mark, .int .i64 (outS rN).quiet, .bool (outS rN).ended] 26)
    have hrd_1 := reads_alloc (o := .cells #[.slice (outA A rN) (outN n rN) (outN c rN), .int .i64 (outS rN).done, .int .i64 (outS rN).mark, .int .i64 (outS rN).quiet, .bool (outS rN).ended] 26) (reads_below hrd_0 hb1)
    have it1_1 := reads_alloc (o := .cells #[.slice (outA A rN) (outN n rN) (outN c rN), .int .i64 (outS rN).done, .int .i64 (outS rN).mark, .int .i64 (outS rN).quiet, .bool (outS rN).ended] 26) it1_x
    have ev1_1 := reads_alloc (o := .cells #[.slice (outA A rN) (outN n rN) (outN c rN), .int .i64 (outS rN).done, .int .i64 (outS rN).mark, .int .i64 (outS rN).quiet, .bool (outS rN).ended] 26) ev1_x
    clear kk hb1 lS it1_x ev1_x kV_0 hrd_0 bJ_0 bS_0 
    generalize w1.alloc (.cells #[.slice (outA A rN) (outN n rN) (outN c rN), .int .i64 (outS rN).done, .int .i64 (outS rN).mark, .int .i64 (outS rN).quiet, .bool (outS rN).ended] 26) = V1 at *
    generalize w1.heap.size = na at *
    have j0 : V1.cell? ⟨w.heap.size, 0, none⟩ = some (.int .i64 j.groups) := bJ_1.cell 0
    have j1 : V1.cell? ⟨w.heap.size, 1, none⟩ = some (.int .i64 j.size) := bJ_1.cell 1
    have j2 : V1.cell? ⟨w.heap.size, 2, none⟩ = some (.int .i64 j.slide) := bJ_1.cell 2
    have j3 : V1.cell? ⟨w.heap.size, 3, none⟩ = some (.int .i64 j.fold) := bJ_1.cell 3
    have j4 : V1.cell? ⟨w.heap.size, 4, none⟩ = some (.int .i64 j.fuel) := bJ_1.cell 4
    have j5 : V1.cell? ⟨w.heap.size, 5, none⟩ = some (.int .i64 j.limit) := bJ_1.cell 5
    have j6 : V1.cell? ⟨w.heap.size, 6, none⟩ = some (.int .i64 j.delay) := bJ_1.cell 6
    have j7 : V1.cell? ⟨w.heap.size, 7, none⟩ = some (.int .i64 j.idle) := bJ_1.cell 7
    have s0 : V1.cell? ⟨w.heap.size + 1, 0, none⟩ = some (.slice A n c) := bS_1.cell 0
    have s1 : V1.cell? ⟨w.heap.size + 1, 1, none⟩ = some (.int .i64 s.done) := bS_1.cell 1
    have s2 : V1.cell? ⟨w.heap.size + 1, 2, none⟩ = some (.int .i64 s.mark) := bS_1.cell 2
    have s3 : V1.cell? ⟨w.heap.size + 1, 3, none⟩ = some (.int .i64 s.quiet) := bS_1.cell 3
    have s4 : V1.cell? ⟨w.heap.size + 1, 4, none⟩ = some (.bool s.ended) := bS_1.cell 4
    go_wp2_with fail
    refine (refNext_any j ⟨s.evs, s.done, s.mark, s.quiet, s.ended⟩ A n c _ hj hS hrd_1 hm).mono ?_
    rw [hN]
    intro e w2 hp
    obtain ⟨hb2, A2, c2, rfl, it2_x, ev2_x⟩ := step_out hrd_1 hNe hp
    clear hp
    have kk := kV_1.trans (hb2.mono kV_1.size)
    clear j0 j1 j2 j3 j4 j5 j6 j7 s0 s1 s2 s3 s4
    have lS := Nat.lt_of_lt_of_le bS_1.lt hb2.size
    go_upto_region 5 with fail
    have bb_2 := Blk.new w2 26 #[.slice (outA A rN) (outN n rN) (outN c rN), .int .i64 (outS rN).done, .int .i64 (outS rN).mark, .int .i64 (outS rN).quiet, .bool (outS rN).ended]
    have ba_2 := (ba_1.below hb2 ba_1.lt).alloc (.cells #[.slice (outA A rN) (outN n rN) (outN c rN), .int .i64 (outS rN).done, .int .i64 (outS rN).mark, .int .i64 (outS rN).quiet, .bool (outS rN).ended] 26)
    have bJ_2 := (bJ_1.below hb2 bJ_1.lt).alloc (.cells #[.slice (outA A rN) (outN n rN) (outN c rN), .int .i64 (outS rN).done, .int .i64 (outS rN).mark, .int .i64 (outS rN).quiet, .bool (outS rN).ended] 26)
    have bS_2 := (bS_1.below hb2 bS_1.lt).alloc (.cells #[.slice (outA A rN) (outN n rN) (outN c rN), .int .i64 (outS rN).done, .int .i64 (outS rN).mark, .int .i64 (outS rN).quiet, .bool (outS rN).ended] 26)
    have kV_2 := kk.alloc kk.size (.cells #[.slice (outA A rN) (outN n rN) (outN c rN), .int .i64 (outS rN).done, .int .i64 (outS rN).mark, .int .i64 (outS rN).quiet, .bool (outS rN).ended] 26)
    have hrd_2 := reads_alloc (o := .cells #[.slice (outA A rN) (outN n rN) (outN c rN), .int .i64 (outS rN).done, .int .i64 (outS rN).mark, .int .i64 (outS rN).quiet, .bool (outS rN).ended] 26) (reads_below hrd_1 hb2)
    have it1_2 := reads_alloc (o := .cells #[.slice (outA A rN) (outN n rN) (outN c rN), .int .i64 (outS rN).done, .int .i64 (outS rN).mark, .int .i64 (outS rN).quiet, .bool (outS rN).ended] 26) (reads_below it1_1 hb2)
    have ev1_2 := reads_alloc (o := .cells #[.slice (outA A rN) (outN n rN) (outN c rN), .int .i64 (outS rN).done, .int .i64 (outS rN).mark, .int .i64 (outS rN).quiet, .bool (outS rN).ended] 26) (reads_below ev1_1 hb2)
    have it2_2 := reads_alloc (o := .cells #[.slice (outA A rN) (outN n rN) (outN c rN), .int .i64 (outS rN).done, .int .i64 (outS rN).mark, .int .i64 (outS rN).quiet, .bool (outS rN).ended] 26) it2_x
    have ev2_2 := reads_alloc (o := .cells #[.slice (outA A rN) (outN n rN) (outN c rN), .int .i64 (outS rN).done, .int .i64 (outS rN).mark, .int .i64 (outS rN).quiet, .bool (outS rN).ended] 26) ev2_x
    clear kk hb2 lS it2_x ev2_x kV_1 hrd_1 ba_1 bJ_1 bS_1 it1_1 ev1_1
    generalize w2.alloc (.cells #[.slice (outA A rN) (outN n rN) (outN c rN), .int .i64 (outS rN).done, .int .i64 (outS rN).mark, .int .i64 (outS rN).quiet, .bool (outS rN).ended] 26) = V2 at *
    generalize w2.heap.size = nb at *
    have j0 : V2.cell? ⟨w.heap.size, 0, none⟩ = some (.int .i64 j.groups) := bJ_2.cell 0
    have j1 : V2.cell? ⟨w.heap.size, 1, none⟩ = some (.int .i64 j.size) := bJ_2.cell 1
    have j2 : V2.cell? ⟨w.heap.size, 2, none⟩ = some (.int .i64 j.slide) := bJ_2.cell 2
    have j3 : V2.cell? ⟨w.heap.size, 3, none⟩ = some (.int .i64 j.fold) := bJ_2.cell 3
    have j4 : V2.cell? ⟨w.heap.size, 4, none⟩ = some (.int .i64 j.fuel) := bJ_2.cell 4
    have j5 : V2.cell? ⟨w.heap.size, 5, none⟩ = some (.int .i64 j.limit) := bJ_2.cell 5
    have j6 : V2.cell? ⟨w.heap.size, 6, none⟩ = some (.int .i64 j.delay) := bJ_2.cell 6
    have j7 : V2.cell? ⟨w.heap.size, 7, none⟩ = some (.int .i64 j.idle) := bJ_2.cell 7
    have s0 : V2.cell? ⟨w.heap.size + 1, 0, none⟩ = some (.slice A n c) := bS_2.cell 0
    have s1 : V2.cell? ⟨w.heap.size + 1, 1, none⟩ = some (.int .i64 s.done) := bS_2.cell 1
    have s2 : V2.cell? ⟨w.heap.size + 1, 2, none⟩ = some (.int .i64 s.mark) := bS_2.cell 2
    have s3 : V2.cell? ⟨w.heap.size + 1, 3, none⟩ = some (.int .i64 s.quiet) := bS_2.cell 3
    have s4 : V2.cell? ⟨w.heap.size + 1, 4, none⟩ = some (.bool s.ended) := bS_2.cell 4
    go_wp2_with fail
    refine (tickP_any j ⟨s.evs, s.done, s.mark, s.quiet, s.ended⟩ A n c _ hj hS hrd_2 hm).mono ?_
    rw [hT]
    intro e w3 hp
    obtain ⟨hb3, A3, c3, rfl, it3_x, ev3_x⟩ := step_out hrd_2 hTe hp
    clear hp
    have kk := kV_2.trans (hb3.mono kV_2.size)
    clear j0 j1 j2 j3 j4 j5 j6 j7 s0 s1 s2 s3 s4
    have lS := Nat.lt_of_lt_of_le bS_2.lt hb3.size
    go_upto_region 6 with fail
    have bc_3 := Blk.new w3 26 #[.slice (outA A rT) (outN n rT) (outN c rT), .int .i64 (outS rT).done, .int .i64 (outS rT).mark, .int .i64 (outS rT).quiet, .bool (outS rT).ended]
    have ba_3 := (ba_2.below hb3 ba_2.lt).alloc (.cells #[.slice (outA A rT) (outN n rT) (outN c rT), .int .i64 (outS rT).done, .int .i64 (outS rT).mark, .int .i64 (outS rT).quiet, .bool (outS rT).ended] 26)
    have bb_3 := (bb_2.below hb3 bb_2.lt).alloc (.cells #[.slice (outA A rT) (outN n rT) (outN c rT), .int .i64 (outS rT).done, .int .i64 (outS rT).mark, .int .i64 (outS rT).quiet, .bool (outS rT).ended] 26)
    have bJ_3 := (bJ_2.below hb3 bJ_2.lt).alloc (.cells #[.slice (outA A rT) (outN n rT) (outN c rT), .int .i64 (outS rT).done, .int .i64 (outS rT).mark, .int .i64 (outS rT).quiet, .bool (outS rT).ended] 26)
    have bS_3 := (bS_2.below hb3 bS_2.lt).alloc (.cells #[.slice (outA A rT) (outN n rT) (outN c rT), .int .i64 (outS rT).done, .int .i64 (outS rT).mark, .int .i64 (outS rT).quiet, .bool (outS rT).ended] 26)
    have kV_3 := kk.alloc kk.size (.cells #[.slice (outA A rT) (outN n rT) (outN c rT), .int .i64 (outS rT).done, .int .i64 (outS rT).mark, .int .i64 (outS rT).quiet, .bool (outS rT).ended] 26)
    have hrd_3 := reads_alloc (o := .cells #[.slice (outA A rT) (outN n rT) (outN c rT), .int .i64 (outS rT).done, .int .i64 (outS rT).mark, .int .i64 (outS rT).quiet, .bool (outS rT).ended] 26) (reads_below hrd_2 hb3)
    have it1_3 := reads_alloc (o := .cells #[.slice (outA A rT) (outN n rT) (outN c rT), .int .i64 (outS rT).done, .int .i64 (outS rT).mark, .int .i64 (outS rT).quiet, .bool (outS rT).ended] 26) (reads_below it1_2 hb3)
    have ev1_3 := reads_alloc (o := .cells #[.slice (outA A rT) (outN n rT) (outN c rT), .int .i64 (outS rT).done, .int .i64 (outS rT).mark, .int .i64 (outS rT).quiet, .bool (outS rT).ended] 26) (reads_below ev1_2 hb3)
    have it2_3 := reads_alloc (o := .cells #[.slice (outA A rT) (outN n rT) (outN c rT), .int .i64 (outS rT).done, .int .i64 (outS rT).mark, .int .i64 (outS rT).quiet, .bool (outS rT).ended] 26) (reads_below it2_2 hb3)
    have ev2_3 := reads_alloc (o := .cells #[.slice (outA A rT) (outN n rT) (outN c rT), .int .i64 (outS rT).done, .int .i64 (outS rT).mark, .int .i64 (outS rT).quiet, .bool (outS rT).ended] 26) (reads_below ev2_2 hb3)
    have it3_3 := reads_alloc (o := .cells #[.slice (outA A rT) (outN n rT) (outN c rT), .int .i64 (outS rT).done, .int .i64 (outS rT).mark, .int .i64 (outS rT).quiet, .bool (outS rT).ended] 26) it3_x
    have ev3_3 := reads_alloc (o := .cells #[.slice (outA A rT) (outN n rT) (outN c rT), .int .i64 (outS rT).done, .int .i64 (outS rT).mark, .int .i64 (outS rT).quiet, .bool (outS rT).ended] 26) ev3_x
    clear kk hb3 lS it3_x ev3_x kV_2 hrd_2 ba_2 bb_2 bJ_2 bS_2 it1_2 ev1_2 it2_2 ev2_2
    generalize w3.alloc (.cells #[.slice (outA A rT) (outN n rT) (outN c rT), .int .i64 (outS rT).done, .int .i64 (outS rT).mark, .int .i64 (outS rT).quiet, .bool (outS rT).ended] 26) = V3 at *
    generalize w3.heap.size = nc at *
    have j0 : V3.cell? ⟨w.heap.size, 0, none⟩ = some (.int .i64 j.groups) := bJ_3.cell 0
    have j1 : V3.cell? ⟨w.heap.size, 1, none⟩ = some (.int .i64 j.size) := bJ_3.cell 1
    have j2 : V3.cell? ⟨w.heap.size, 2, none⟩ = some (.int .i64 j.slide) := bJ_3.cell 2
    have j3 : V3.cell? ⟨w.heap.size, 3, none⟩ = some (.int .i64 j.fold) := bJ_3.cell 3
    have j4 : V3.cell? ⟨w.heap.size, 4, none⟩ = some (.int .i64 j.fuel) := bJ_3.cell 4
    have j5 : V3.cell? ⟨w.heap.size, 5, none⟩ = some (.int .i64 j.limit) := bJ_3.cell 5
    have j6 : V3.cell? ⟨w.heap.size, 6, none⟩ = some (.int .i64 j.delay) := bJ_3.cell 6
    have j7 : V3.cell? ⟨w.heap.size, 7, none⟩ = some (.int .i64 j.idle) := bJ_3.cell 7
    have s0 : V3.cell? ⟨w.heap.size + 1, 0, none⟩ = some (.slice A n c) := bS_3.cell 0
    have s1 : V3.cell? ⟨w.heap.size + 1, 1, none⟩ = some (.int .i64 s.done) := bS_3.cell 1
    have s2 : V3.cell? ⟨w.heap.size + 1, 2, none⟩ = some (.int .i64 s.mark) := bS_3.cell 2
    have s3 : V3.cell? ⟨w.heap.size + 1, 3, none⟩ = some (.int .i64 s.quiet) := bS_3.cell 3
    have s4 : V3.cell? ⟨w.heap.size + 1, 4, none⟩ = some (.bool s.ended) := bS_3.cell 4
    go_wp2_with fail
    refine (refTick_any j ⟨s.evs, s.done, s.mark, s.quiet, s.ended⟩ A n c _ hj hS hrd_3 hm).mono ?_
    rw [hT]
    intro e w4 hp
    obtain ⟨hb4, A4, c4, rfl, it4_x, ev4_x⟩ := step_out hrd_3 hTe hp
    clear hp
    have kk := kV_3.trans (hb4.mono kV_3.size)
    clear j0 j1 j2 j3 j4 j5 j6 j7 s0 s1 s2 s3 s4
    have lS := Nat.lt_of_lt_of_le bS_3.lt hb4.size
    go_wp2_with fail
    have bd_4 := Blk.new w4 26 #[.slice (outA A rT) (outN n rT) (outN c rT), .int .i64 (outS rT).done, .int .i64 (outS rT).mark, .int .i64 (outS rT).quiet, .bool (outS rT).ended]
    have ba_4 := (ba_3.below hb4 ba_3.lt).alloc (.cells #[.slice (outA A rT) (outN n rT) (outN c rT), .int .i64 (outS rT).done, .int .i64 (outS rT).mark, .int .i64 (outS rT).quiet, .bool (outS rT).ended] 26)
    have bb_4 := (bb_3.below hb4 bb_3.lt).alloc (.cells #[.slice (outA A rT) (outN n rT) (outN c rT), .int .i64 (outS rT).done, .int .i64 (outS rT).mark, .int .i64 (outS rT).quiet, .bool (outS rT).ended] 26)
    have bc_4 := (bc_3.below hb4 bc_3.lt).alloc (.cells #[.slice (outA A rT) (outN n rT) (outN c rT), .int .i64 (outS rT).done, .int .i64 (outS rT).mark, .int .i64 (outS rT).quiet, .bool (outS rT).ended] 26)
    have bJ_4 := (bJ_3.below hb4 bJ_3.lt).alloc (.cells #[.slice (outA A rT) (outN n rT) (outN c rT), .int .i64 (outS rT).done, .int .i64 (outS rT).mark, .int .i64 (outS rT).quiet, .bool (outS rT).ended] 26)
    have bS_4 := (bS_3.below hb4 bS_3.lt).alloc (.cells #[.slice (outA A rT) (outN n rT) (outN c rT), .int .i64 (outS rT).done, .int .i64 (outS rT).mark, .int .i64 (outS rT).quiet, .bool (outS rT).ended] 26)
    have kV_4 := kk.alloc kk.size (.cells #[.slice (outA A rT) (outN n rT) (outN c rT), .int .i64 (outS rT).done, .int .i64 (outS rT).mark, .int .i64 (outS rT).quiet, .bool (outS rT).ended] 26)
    have hrd_4 := reads_alloc (o := .cells #[.slice (outA A rT) (outN n rT) (outN c rT), .int .i64 (outS rT).done, .int .i64 (outS rT).mark, .int .i64 (outS rT).quiet, .bool (outS rT).ended] 26) (reads_below hrd_3 hb4)
    have it1_4 := reads_alloc (o := .cells #[.slice (outA A rT) (outN n rT) (outN c rT), .int .i64 (outS rT).done, .int .i64 (outS rT).mark, .int .i64 (outS rT).quiet, .bool (outS rT).ended] 26) (reads_below it1_3 hb4)
    have ev1_4 := reads_alloc (o := .cells #[.slice (outA A rT) (outN n rT) (outN c rT), .int .i64 (outS rT).done, .int .i64 (outS rT).mark, .int .i64 (outS rT).quiet, .bool (outS rT).ended] 26) (reads_below ev1_3 hb4)
    have it2_4 := reads_alloc (o := .cells #[.slice (outA A rT) (outN n rT) (outN c rT), .int .i64 (outS rT).done, .int .i64 (outS rT).mark, .int .i64 (outS rT).quiet, .bool (outS rT).ended] 26) (reads_below it2_3 hb4)
    have ev2_4 := reads_alloc (o := .cells #[.slice (outA A rT) (outN n rT) (outN c rT), .int .i64 (outS rT).done, .int .i64 (outS rT).mark, .int .i64 (outS rT).quiet, .bool (outS rT).ended] 26) (reads_below ev2_3 hb4)
    have it3_4 := reads_alloc (o := .cells #[.slice (outA A rT) (outN n rT) (outN c rT), .int .i64 (outS rT).done, .int .i64 (outS rT).mark, .int .i64 (outS rT).quiet, .bool (outS rT).ended] 26) (reads_below it3_3 hb4)
    have ev3_4 := reads_alloc (o := .cells #[.slice (outA A rT) (outN n rT) (outN c rT), .int .i64 (outS rT).done, .int .i64 (outS rT).mark, .int .i64 (outS rT).quiet, .bool (outS rT).ended] 26) (reads_below ev3_3 hb4)
    have it4_4 := reads_alloc (o := .cells #[.slice (outA A rT) (outN n rT) (outN c rT), .int .i64 (outS rT).done, .int .i64 (outS rT).mark, .int .i64 (outS rT).quiet, .bool (outS rT).ended] 26) it4_x
    have ev4_4 := reads_alloc (o := .cells #[.slice (outA A rT) (outN n rT) (outN c rT), .int .i64 (outS rT).done, .int .i64 (outS rT).mark, .int .i64 (outS rT).quiet, .bool (outS rT).ended] 26) ev4_x
    clear kk hb4 lS it4_x ev4_x kV_3 hrd_3 ba_3 bb_3 bc_3 bJ_3 bS_3 it1_3 ev1_3 it2_3 ev2_3 it3_3 ev3_3
    generalize w4.alloc (.cells #[.slice (outA A rT) (outN n rT) (outN c rT), .int .i64 (outS rT).done, .int .i64 (outS rT).mark, .int .i64 (outS rT).quiet, .bool (outS rT).ended] 26) = V4 at *
    generalize w4.heap.size = nd at *
    obtain ⟨sb, hsb⟩ : ∃ sb, srcB ⟨s.evs, s.done, s.mark, s.quiet, s.ended⟩ = sb := ⟨_, rfl⟩
    have HSB := Lib.hid hsb
    clear hsb
    have hQ : ∀ x : World, Below V4.heap.size V4 x → x.cell? ⟨w.heap.size + 1, 0, none⟩ = some (.slice A n c) ∧ x.cell? ⟨w.heap.size + 1, 1, none⟩ = some (.int .i64 s.done) ∧ x.cell? ⟨w.heap.size + 1, 2, none⟩ = some (.int .i64 s.mark) ∧ x.cell? ⟨w.heap.size + 1, 3, none⟩ = some (.int .i64 s.quiet) ∧ x.cell? ⟨w.heap.size + 1, 4, none⟩ = some (.bool s.ended) ∧ x.cell? ⟨na, 0, none⟩ = some (.slice (outA A rN) (outN n rN) (outN c rN)) ∧ x.cell? ⟨na, 1, none⟩ = some (.int .i64 (outS rN).done) ∧ x.cell? ⟨na, 2, none⟩ = some (.int .i64 (outS rN).mark) ∧ x.cell? ⟨na, 3, none⟩ = some (.int .i64 (outS rN).quiet) ∧ x.cell? ⟨na, 4, none⟩ = some (.bool (outS rN).ended) ∧ x.cell? ⟨nb, 0, none⟩ = some (.slice (outA A rN) (outN n rN) (outN c rN)) ∧ x.cell? ⟨nb, 1, none⟩ = some (.int .i64 (outS rN).done) ∧ x.cell? ⟨nb, 2, none⟩ = some (.int .i64 (outS rN).mark) ∧ x.cell? ⟨nb, 3, none⟩ = some (.int .i64 (outS rN).quiet) ∧ x.cell? ⟨nb, 4, none⟩ = some (.bool (outS rN).ended) ∧ x.cell? ⟨nc, 0, none⟩ = some (.slice (outA A rT) (outN n rT) (outN c rT)) ∧ x.cell? ⟨nc, 1, none⟩ = some (.int .i64 (outS rT).done) ∧ x.cell? ⟨nc, 2, none⟩ = some (.int .i64 (outS rT).mark) ∧ x.cell? ⟨nc, 3, none⟩ = some (.int .i64 (outS rT).quiet) ∧ x.cell? ⟨nc, 4, none⟩ = some (.bool (outS rT).ended) ∧ x.cell? ⟨nd, 0, none⟩ = some (.slice (outA A rT) (outN n rT) (outN c rT)) ∧ x.cell? ⟨nd, 1, none⟩ = some (.int .i64 (outS rT).done) ∧ x.cell? ⟨nd, 2, none⟩ = some (.int .i64 (outS rT).mark) ∧ x.cell? ⟨nd, 3, none⟩ = some (.int .i64 (outS rT).quiet) ∧ x.cell? ⟨nd, 4, none⟩ = some (.bool (outS rT).ended) := fun x hx => ⟨(bS_4.below hx bS_4.lt).cell 0, (bS_4.below hx bS_4.lt).cell 1, (bS_4.below hx bS_4.lt).cell 2, (bS_4.below hx bS_4.lt).cell 3, (bS_4.below hx bS_4.lt).cell 4, (ba_4.below hx ba_4.lt).cell 0, (ba_4.below hx ba_4.lt).cell 1, (ba_4.below hx ba_4.lt).cell 2, (ba_4.below hx ba_4.lt).cell 3, (ba_4.below hx ba_4.lt).cell 4, (bb_4.below hx bb_4.lt).cell 0, (bb_4.below hx bb_4.lt).cell 1, (bb_4.below hx bb_4.lt).cell 2, (bb_4.below hx bb_4.lt).cell 3, (bb_4.below hx bb_4.lt).cell 4, (bc_4.below hx bc_4.lt).cell 0, (bc_4.below hx bc_4.lt).cell 1, (bc_4.below hx bc_4.lt).cell 2, (bc_4.below hx bc_4.lt).cell 3, (bc_4.below hx bc_4.lt).cell 4, (bd_4.below hx bd_4.lt).cell 0, (bd_4.below hx bd_4.lt).cell 1, (bd_4.below hx bd_4.lt).cell 2, (bd_4.below hx bd_4.lt).cell 3, (bd_4.below hx bd_4.lt).cell 4⟩
    have kx0 : Below V4.heap.size V4 V4 := Below.refl _ _
    have hNm := outN_le n rN
    have hTm := outN_le n rT
    go_region_held3 (fun x => x.cell? ⟨w.heap.size + 1, 0, none⟩ = some (.slice A n c) ∧ x.cell? ⟨w.heap.size + 1, 1, none⟩ = some (.int .i64 s.done) ∧ x.cell? ⟨w.heap.size + 1, 2, none⟩ = some (.int .i64 s.mark) ∧ x.cell? ⟨w.heap.size + 1, 3, none⟩ = some (.int .i64 s.quiet) ∧ x.cell? ⟨w.heap.size + 1, 4, none⟩ = some (.bool s.ended) ∧ x.cell? ⟨na, 0, none⟩ = some (.slice (outA A rN) (outN n rN) (outN c rN)) ∧ x.cell? ⟨na, 1, none⟩ = some (.int .i64 (outS rN).done) ∧ x.cell? ⟨na, 2, none⟩ = some (.int .i64 (outS rN).mark) ∧ x.cell? ⟨na, 3, none⟩ = some (.int .i64 (outS rN).quiet) ∧ x.cell? ⟨na, 4, none⟩ = some (.bool (outS rN).ended) ∧ x.cell? ⟨nb, 0, none⟩ = some (.slice (outA A rN) (outN n rN) (outN c rN)) ∧ x.cell? ⟨nb, 1, none⟩ = some (.int .i64 (outS rN).done) ∧ x.cell? ⟨nb, 2, none⟩ = some (.int .i64 (outS rN).mark) ∧ x.cell? ⟨nb, 3, none⟩ = some (.int .i64 (outS rN).quiet) ∧ x.cell? ⟨nb, 4, none⟩ = some (.bool (outS rN).ended) ∧ x.cell? ⟨nc, 0, none⟩ = some (.slice (outA A rT) (outN n rT) (outN c rT)) ∧ x.cell? ⟨nc, 1, none⟩ = some (.int .i64 (outS rT).done) ∧ x.cell? ⟨nc, 2, none⟩ = some (.int .i64 (outS rT).mark) ∧ x.cell? ⟨nc, 3, none⟩ = some (.int .i64 (outS rT).quiet) ∧ x.cell? ⟨nc, 4, none⟩ = some (.bool (outS rT).ended) ∧ x.cell? ⟨nd, 0, none⟩ = some (.slice (outA A rT) (outN n rT) (outN c rT)) ∧ x.cell? ⟨nd, 1, none⟩ = some (.int .i64 (outS rT).done) ∧ x.cell? ⟨nd, 2, none⟩ = some (.int .i64 (outS rT).mark) ∧ x.cell? ⟨nd, 3, none⟩ = some (.int .i64 (outS rT).quiet) ∧ x.cell? ⟨nd, 4, none⟩ = some (.bool (outS rT).ended))
      (first | exact hQ _ kx7 | exact hQ _ kx6 | exact hQ _ kx5 | exact hQ _ kx4 | exact hQ _ kx3 | exact hQ _ kx2 | exact hQ _ kx1 | exact hQ _ kx0 | go_keep)
      (first
        | (go_at_call 13; refine (alive_any _).mono ?_; rintro e x1 ⟨rfl, hx1⟩; have kx1 : Below V4.heap.size V4 x1 := undrew1 hx1)
        | (go_at_call 14; refine (src_any s.done s.mark s.quiet s.ended s.evs A n c _ (reads_below hrd_4 kx1) (by omega) hS.key).mono ?_; rw [HSB.out]; rintro e x2 ⟨rfl, hx2⟩; have kx2 := kx1.trans (hx2.mono kx1.size))
        | (go_at_call 15; refine (refSrc_any s.done s.mark s.quiet s.ended s.evs A n c _ (reads_below hrd_4 kx2) (by omega) hS.key).mono ?_; rw [HSB.out]; rintro e x3 ⟨rfl, hx3⟩; have kx3 := kx2.trans (hx3.mono kx2.size))
        | (go_at_call 17; have q := kx6; refine (likeItms_same (outL rT) A3 A4 (outL rT).length c3 c4 _ (reads_below it3_4 kx6) (reads_below it4_4 kx6) (by omega)).mono ?_; rintro e x7 ⟨rfl, hx7⟩; have kx7 := kx6.trans (hx7.mono kx6.size))
        | (go_at_call 16; have q := kx5; refine (like_same (outS rT).done (outS rT).mark (outS rT).quiet (outS rT).ended (outS rT).evs (outA A rT) (outA A rT) (outN n rT) (outN c rT) (outN c rT) _ (reads_below ev3_4 kx5) (reads_below ev4_4 kx5) (by omega)).mono ?_; rintro e x6 ⟨rfl, hx6⟩; have kx6 := kx5.trans (hx6.mono kx5.size))
        | (go_at_call 17; have q := kx4; refine (likeItms_same (outL rN) A1 A2 (outL rN).length c1 c2 _ (reads_below it1_4 kx4) (reads_below it2_4 kx4) (by omega)).mono ?_; rintro e x5 ⟨rfl, hx5⟩; have kx5 := kx4.trans (hx5.mono kx4.size))
        | (go_at_call 16; have q := kx3; refine (like_same (outS rN).done (outS rN).mark (outS rN).quiet (outS rN).ended (outS rN).evs (outA A rN) (outA A rN) (outN n rN) (outN c rN) (outN c rN) _ (reads_below ev1_4 kx3) (reads_below ev2_4 kx3) (by omega)).mono ?_; rintro e x4 ⟨rfl, hx4⟩; have kx4 := kx3.trans (hx4.mono kx3.size)))
    go_wp2
    go_ret
    exact ⟨by simp, kV_4.trans (kx7.mono kV_4.size)⟩


end Go.Proofs.Ytmlejdcanlgpdaa
