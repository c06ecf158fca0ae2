/- Walk of SourceBegins. -/
import Derived.Test.YtmlejdcanlgpdaaSrcN
import Derived.Deep.CutRange
namespace Go.Proofs.Ytmlejdcanlgpdaa
open Go.RowKit
set_option linter.unusedVariables false
set_option linter.unusedSimpArgs false

def begS (r : Sr × Int) : Sr := if r.2 = 0 then r.1 else zeroS
def begA (A : Option Addr) (r : Sr × Int) : Option Addr := if r.2 = 0 then A else none
def begN (n : Nat) (r : Sr × Int) : Nat := if r.2 = 0 then n else 0
theorem begN_le (n : Nat) (r : Sr × Int) : begN n r ≤ n := by unfold begN; split <;> omega
theorem new_out {A : Option Addr} {n c : Nat} {r : Sr × Int} {w w' : World} {e : Ending} {ls : List Ev} (hr : Reads w w.heap.size 3 A n (evs ls)) (hl : r.2 = 0 → r.1.evs = ls) (h : NewPost A n c r w e w') :
    Below w.heap.size w w' ∧ e = .returned (.tuple #[.agg #[.slice (begA A r) (begN n r) (begN c r), .int .i64 (begS r).done, .int .i64 (begS r).mark, .int .i64 (begS r).quiet, .bool (begS r).ended], .int .i64 r.2]) ∧
      Reads w' w'.heap.size 3 (begA A r) (begN n r) (evs (begS r).evs) := by
  obtain ⟨hb, ⟨hz, rfl⟩ | ⟨hz, rfl⟩⟩ := h
  · refine ⟨hb, ?_, ?_⟩
    · unfold begA begN begS
      rw [if_pos hz, if_pos hz, if_pos hz, if_pos hz, hz]
    · unfold begA begN begS
      rw [if_pos hz, if_pos hz, if_pos hz, hl hz]
      exact reads_below hr hb
  · refine ⟨hb, ?_, ?_⟩
    · unfold begA begN begS
      rw [if_neg hz, if_neg hz, if_neg hz, if_neg hz]
      rfl
    · unfold begA begN begS
      rw [if_neg hz, if_neg hz, if_neg hz]
      exact Reads.none_
theorem newZ_evs {j : Jb} {ls : List Ev} {done : Int} (h : (newZ j ls done).2 = 0) : (newZ j ls done).1.evs = ls := by
  unfold newZ at h ⊢
  by_cases hJ : jobB j = false
  · rw [if_pos hJ] at h; simp at h
  · rw [if_neg hJ] at h ⊢
    by_cases hB : inB ls = false ∨ done < 0 ∨ (ls.length : Int) < done
    · rw [if_pos hB] at h; simp at h
    · rw [if_neg hB]

set_option maxHeartbeats 4000000 in
theorem walkBegins (j : Jb) (ls : List Ev) (done : Int) (A : Option Addr) (n c : Nat) (w : World) (hj : j.Wf) (hr : Reads w w.heap.size 3 A n (evs ls)) (hm : n ≤ 9223372036854775807) (hcm : n ≤ c) (hs : ∀ z ∈ ls, z.key.size ≤ maxLen) (hv : ∀ z ∈ ls, -9223372036854775808 ≤ z.v ∧ z.v ≤ 9223372036854775807) :
    Calls Try.prog 5 #[.agg #[.int .i64 j.groups, .int .i64 j.size, .int .i64 j.slide, .int .i64 j.fold, .int .i64 j.fuel, .int .i64 j.limit, .int .i64 j.delay, .int .i64 j.idle], .slice A n c, .int .i64 done] w fun e w' => e = .returned (.bool true) ∧ Below w.heap.size w w' := by
  by_cases h1 : n ≤ 60
  · have hc1 : (n : Int) ≤ 60 := by omega
    clear h1
    go_enter Try.func5, Try.ntmps5
    go_upto_region 3 with fail
    have hs' : ∀ z ∈ ls, z.key.size ≤ maxLen := fun z hz => hs z (hz)
    have hv' : ∀ z ∈ ls, -9223372036854775808 ≤ z.v ∧ z.v ≤ 9223372036854775807 := fun z hz => hv z (hz)
    have bJ0 : Blk (w.alloc (.cells #[.int .i64 j.groups, .int .i64 j.size, .int .i64 j.slide, .int .i64 j.fold, .int .i64 j.fuel, .int .i64 j.limit, .int .i64 j.delay, .int .i64 j.idle] 23)) w.heap.size 23 #[.int .i64 j.groups, .int .i64 j.size, .int .i64 j.slide, .int .i64 j.fold, .int .i64 j.fuel, .int .i64 j.limit, .int .i64 j.delay, .int .i64 j.idle] := Blk.new w _ _
    have kV0 : Below w.heap.size w (w.alloc (.cells #[.int .i64 j.groups, .int .i64 j.size, .int .i64 j.slide, .int .i64 j.fold, .int .i64 j.fuel, .int .i64 j.limit, .int .i64 j.delay, .int .i64 j.idle] 23)) := by go_grown
    have hrd0 := reads_alloc (o := .cells #[.int .i64 j.groups, .int .i64 j.size, .int .i64 j.slide, .int .i64 j.fold, .int .i64 j.fuel, .int .i64 j.limit, .int .i64 j.delay, .int .i64 j.idle] 23) hr
    generalize w.alloc (.cells #[.int .i64 j.groups, .int .i64 j.size, .int .i64 j.slide, .int .i64 j.fold, .int .i64 j.fuel, .int .i64 j.limit, .int .i64 j.delay, .int .i64 j.idle] 23) = V0 at *
    have lJ0 := bJ0.lt
    have j0 : V0.cell? ⟨w.heap.size, 0, none⟩ = some (.int .i64 j.groups) := bJ0.cell 0
    have j1 : V0.cell? ⟨w.heap.size, 1, none⟩ = some (.int .i64 j.size) := bJ0.cell 1
    have j2 : V0.cell? ⟨w.heap.size, 2, none⟩ = some (.int .i64 j.slide) := bJ0.cell 2
    have j3 : V0.cell? ⟨w.heap.size, 3, none⟩ = some (.int .i64 j.fold) := bJ0.cell 3
    have j4 : V0.cell? ⟨w.heap.size, 4, none⟩ = some (.int .i64 j.fuel) := bJ0.cell 4
    have j5 : V0.cell? ⟨w.heap.size, 5, none⟩ = some (.int .i64 j.limit) := bJ0.cell 5
    have j6 : V0.cell? ⟨w.heap.size, 6, none⟩ = some (.int .i64 j.delay) := bJ0.cell 6
    have j7 : V0.cell? ⟨w.heap.size, 7, none⟩ = some (.int .i64 j.idle) := bJ0.cell 7
    obtain ⟨r, hR⟩ : ∃ r, newZ j (ls) done = r := ⟨_, rfl⟩
    have hRe : r.2 = 0 → r.1.evs = ls := fun h => by subst hR; exact newZ_evs h
    go_wp2_with fail
    refine (new_any j (ls) done A n c _ hj hrd0 hm hcm hs' hv').mono ?_
    rw [hR]
    intro e w1 hp
    obtain ⟨hb1, rfl, ev1⟩ := new_out hrd0 hRe hp
    clear hp
    clear j0 j1 j2 j3 j4 j5 j6 j7
    go_upto_region 4 with fail
    have bA1 := Blk.new w1 26 #[(.slice (begA A r) (begN n r) (begN c r)), (.int .i64 (begS r).done), (.int .i64 (begS r).mark), (.int .i64 (begS r).quiet), (.bool (begS r).ended)]
    have bJ1 := (bJ0.below hb1 lJ0).alloc (.cells #[(.slice (begA A r) (begN n r) (begN c r)), (.int .i64 (begS r).done), (.int .i64 (begS r).mark), (.int .i64 (begS r).quiet), (.bool (begS r).ended)] 26)
    have k1 := kV0.trans (hb1.mono kV0.size)
    have kV1 := k1.alloc k1.size (.cells #[(.slice (begA A r) (begN n r) (begN c r)), (.int .i64 (begS r).done), (.int .i64 (begS r).mark), (.int .i64 (begS r).quiet), (.bool (begS r).ended)] 26)
    have hrd1 := reads_alloc (o := .cells #[(.slice (begA A r) (begN n r) (begN c r)), (.int .i64 (begS r).done), (.int .i64 (begS r).mark), (.int .i64 (begS r).quiet), (.bool (begS r).ended)] 26) (reads_below hrd0 hb1)
    have ev1' := reads_alloc (o := .cells #[(.slice (begA A r) (begN n r) (begN c r)), (.int .i64 (begS r).done), (.int .i64 (begS r).mark), (.int .i64 (begS r).quiet), (.bool (begS r).ended)] 26) ev1
    clear k1 ev1 hb1 bJ0 kV0 hrd0 lJ0
    generalize w1.alloc (.cells #[(.slice (begA A r) (begN n r) (begN c r)), (.int .i64 (begS r).done), (.int .i64 (begS r).mark), (.int .i64 (begS r).quiet), (.bool (begS r).ended)] 26) = V1 at *
    generalize w1.heap.size = na at *
    have lJ1 := bJ1.lt
    have j0 : V1.cell? ⟨w.heap.size, 0, none⟩ = some (.int .i64 j.groups) := bJ1.cell 0
    have j1 : V1.cell? ⟨w.heap.size, 1, none⟩ = some (.int .i64 j.size) := bJ1.cell 1
    have j2 : V1.cell? ⟨w.heap.size, 2, none⟩ = some (.int .i64 j.slide) := bJ1.cell 2
    have j3 : V1.cell? ⟨w.heap.size, 3, none⟩ = some (.int .i64 j.fold) := bJ1.cell 3
    have j4 : V1.cell? ⟨w.heap.size, 4, none⟩ = some (.int .i64 j.fuel) := bJ1.cell 4
    have j5 : V1.cell? ⟨w.heap.size, 5, none⟩ = some (.int .i64 j.limit) := bJ1.cell 5
    have j6 : V1.cell? ⟨w.heap.size, 6, none⟩ = some (.int .i64 j.delay) := bJ1.cell 6
    have j7 : V1.cell? ⟨w.heap.size, 7, none⟩ = some (.int .i64 j.idle) := bJ1.cell 7
    go_wp2_with fail
    refine (refNew_any j (ls) done A n c _ hj hrd1 hm hcm hs' hv').mono ?_
    rw [hR]
    intro e w2 hp
    obtain ⟨hb2, rfl, ev2⟩ := new_out hrd1 hRe hp
    clear hp hR hRe
    clear j0 j1 j2 j3 j4 j5 j6 j7
    go_upto_region 5 with fail
    have bB2 := Blk.new w2 26 #[(.slice (begA A r) (begN n r) (begN c r)), (.int .i64 (begS r).done), (.int .i64 (begS r).mark), (.int .i64 (begS r).quiet), (.bool (begS r).ended)]
    have bA2 := (bA1.below hb2 bA1.lt).alloc (.cells #[(.slice (begA A r) (begN n r) (begN c r)), (.int .i64 (begS r).done), (.int .i64 (begS r).mark), (.int .i64 (begS r).quiet), (.bool (begS r).ended)] 26)
    have k2 := kV1.trans (hb2.mono kV1.size)
    have kV2 := k2.alloc k2.size (.cells #[(.slice (begA A r) (begN n r) (begN c r)), (.int .i64 (begS r).done), (.int .i64 (begS r).mark), (.int .i64 (begS r).quiet), (.bool (begS r).ended)] 26)
    have ea := reads_alloc (o := .cells #[(.slice (begA A r) (begN n r) (begN c r)), (.int .i64 (begS r).done), (.int .i64 (begS r).mark), (.int .i64 (begS r).quiet), (.bool (begS r).ended)] 26) (reads_below ev1' hb2)
    have eb := reads_alloc (o := .cells #[(.slice (begA A r) (begN n r) (begN c r)), (.int .i64 (begS r).done), (.int .i64 (begS r).mark), (.int .i64 (begS r).quiet), (.bool (begS r).ended)] 26) ev2
    clear k2 ev1' ev2 hb2 bA1 bJ1 kV1 hrd1 lJ1
    generalize w2.alloc (.cells #[(.slice (begA A r) (begN n r) (begN c r)), (.int .i64 (begS r).done), (.int .i64 (begS r).mark), (.int .i64 (begS r).quiet), (.bool (begS r).ended)] 26) = V2 at *
    generalize w2.heap.size = nb at *
    go_wp2_with fail
    refine (alive_any _).mono ?_
    rintro e w3 ⟨rfl, hb3⟩
    have bA3 := bA2.below hb3 bA2.lt
    have bB3 := bB2.below hb3 bB2.lt
    have k3 := kV2.trans (hb3.mono kV2.size)
    have a0 : w3.cell? ⟨na, 0, none⟩ = some (.slice (begA A r) (begN n r) (begN c r)) := bA3.cell 0
    have b0 : w3.cell? ⟨nb, 0, none⟩ = some (.slice (begA A r) (begN n r) (begN c r)) := bB3.cell 0
    have a1 : w3.cell? ⟨na, 1, none⟩ = some (.int .i64 (begS r).done) := bA3.cell 1
    have b1 : w3.cell? ⟨nb, 1, none⟩ = some (.int .i64 (begS r).done) := bB3.cell 1
    have a2 : w3.cell? ⟨na, 2, none⟩ = some (.int .i64 (begS r).mark) := bA3.cell 2
    have b2 : w3.cell? ⟨nb, 2, none⟩ = some (.int .i64 (begS r).mark) := bB3.cell 2
    have a3 : w3.cell? ⟨na, 3, none⟩ = some (.int .i64 (begS r).quiet) := bA3.cell 3
    have b3 : w3.cell? ⟨nb, 3, none⟩ = some (.int .i64 (begS r).quiet) := bB3.cell 3
    have a4 : w3.cell? ⟨na, 4, none⟩ = some (.bool (begS r).ended) := bA3.cell 4
    have b4 : w3.cell? ⟨nb, 4, none⟩ = some (.bool (begS r).ended) := bB3.cell 4
    have hle := begN_le n r
    go_wp2_with fail
    refine (like_same (begS r).done (begS r).mark (begS r).quiet (begS r).ended (begS r).evs (begA A r) (begA A r) (begN n r) (begN c r) (begN c r) _ (reads_below ea hb3) (reads_below eb hb3) (by omega)).mono ?_
    rintro e w4 ⟨rfl, hb4⟩
    have k4 := k3.trans (hb4.mono k3.size)
    go_wp2
    go_ret
    exact ⟨by simp, k4⟩

  by_cases h2 : n ≤ 200
  · have hc1 : (60 : Int) < n := by omega
    have hc2 : (n : Int) ≤ 200 := by omega
    have hrt := reads_take3 hr (show 60 ≤ n by omega)
    have hcc : 60 ≤ c := by omega
    have hn60 : 60 ≤ n := by omega
    obtain ⟨L, hL⟩ : ∃ L, ls.take 60 = L := ⟨_, rfl⟩
    rw [hL] at hrt
    have hmem : ∀ z ∈ L, z ∈ ls := fun z hz => List.mem_of_mem_take (by rw [hL]; exact hz)
    clear hL
    have hm : 60 ≤ 9223372036854775807 := by omega
    have hcm : 60 ≤ c := by omega
    clear h1 h2
    go_enter Try.func5, Try.ntmps5
    go_upto_region 3 with fail
    have hs' : ∀ z ∈ L, z.key.size ≤ maxLen := fun z hz => hs z (hmem z hz)
    have hv' : ∀ z ∈ L, -9223372036854775808 ≤ z.v ∧ z.v ≤ 9223372036854775807 := fun z hz => hv z (hmem z hz)
    have bJ0 : Blk (w.alloc (.cells #[.int .i64 j.groups, .int .i64 j.size, .int .i64 j.slide, .int .i64 j.fold, .int .i64 j.fuel, .int .i64 j.limit, .int .i64 j.delay, .int .i64 j.idle] 23)) w.heap.size 23 #[.int .i64 j.groups, .int .i64 j.size, .int .i64 j.slide, .int .i64 j.fold, .int .i64 j.fuel, .int .i64 j.limit, .int .i64 j.delay, .int .i64 j.idle] := Blk.new w _ _
    have kV0 : Below w.heap.size w (w.alloc (.cells #[.int .i64 j.groups, .int .i64 j.size, .int .i64 j.slide, .int .i64 j.fold, .int .i64 j.fuel, .int .i64 j.limit, .int .i64 j.delay, .int .i64 j.idle] 23)) := by go_grown
    have hrd0 := reads_alloc (o := .cells #[.int .i64 j.groups, .int .i64 j.size, .int .i64 j.slide, .int .i64 j.fold, .int .i64 j.fuel, .int .i64 j.limit, .int .i64 j.delay, .int .i64 j.idle] 23) hrt
    generalize w.alloc (.cells #[.int .i64 j.groups, .int .i64 j.size, .int .i64 j.slide, .int .i64 j.fold, .int .i64 j.fuel, .int .i64 j.limit, .int .i64 j.delay, .int .i64 j.idle] 23) = V0 at *
    have lJ0 := bJ0.lt
    have j0 : V0.cell? ⟨w.heap.size, 0, none⟩ = some (.int .i64 j.groups) := bJ0.cell 0
    have j1 : V0.cell? ⟨w.heap.size, 1, none⟩ = some (.int .i64 j.size) := bJ0.cell 1
    have j2 : V0.cell? ⟨w.heap.size, 2, none⟩ = some (.int .i64 j.slide) := bJ0.cell 2
    have j3 : V0.cell? ⟨w.heap.size, 3, none⟩ = some (.int .i64 j.fold) := bJ0.cell 3
    have j4 : V0.cell? ⟨w.heap.size, 4, none⟩ = some (.int .i64 j.fuel) := bJ0.cell 4
    have j5 : V0.cell? ⟨w.heap.size, 5, none⟩ = some (.int .i64 j.limit) := bJ0.cell 5
    have j6 : V0.cell? ⟨w.heap.size, 6, none⟩ = some (.int .i64 j.delay) := bJ0.cell 6
    have j7 : V0.cell? ⟨w.heap.size, 7, none⟩ = some (.int .i64 j.idle) := bJ0.cell 7
    obtain ⟨r, hR⟩ : ∃ r, newZ j (L) done = r := ⟨_, rfl⟩
    have hRe : r.2 = 0 → r.1.evs = L := fun h => by subst hR; exact newZ_evs h
    go_wp2_with fail
    refine (new_any j (L) done A 60 c _ hj hrd0 hm hcm hs' hv').mono ?_
    rw [hR]
    intro e w1 hp
    obtain ⟨hb1, rfl, ev1⟩ := new_out hrd0 hRe hp
    clear hp
    clear j0 j1 j2 j3 j4 j5 j6 j7
    go_upto_region 4 with fail
    have bA1 := Blk.new w1 26 #[(.slice (begA A r) (begN 60 r) (begN c r)), (.int .i64 (begS r).done), (.int .i64 (begS r).mark), (.int .i64 (begS r).quiet), (.bool (begS r).ended)]
    have bJ1 := (bJ0.below hb1 lJ0).alloc (.cells #[(.slice (begA A r) (begN 60 r) (begN c r)), (.int .i64 (begS r).done), (.int .i64 (begS r).mark), (.int .i64 (begS r).quiet), (.bool (begS r).ended)] 26)
    have k1 := kV0.trans (hb1.mono kV0.size)
    have kV1 := k1.alloc k1.size (.cells #[(.slice (begA A r) (begN 60 r) (begN c r)), (.int .i64 (begS r).done), (.int .i64 (begS r).mark), (.int .i64 (begS r).quiet), (.bool (begS r).ended)] 26)
    have hrd1 := reads_alloc (o := .cells #[(.slice (begA A r) (begN 60 r) (begN c r)), (.int .i64 (begS r).done), (.int .i64 (begS r).mark), (.int .i64 (begS r).quiet), (.bool (begS r).ended)] 26) (reads_below hrd0 hb1)
    have ev1' := reads_alloc (o := .cells #[(.slice (begA A r) (begN 60 r) (begN c r)), (.int .i64 (begS r).done), (.int .i64 (begS r).mark), (.int .i64 (begS r).quiet), (.bool (begS r).ended)] 26) ev1
    clear k1 ev1 hb1 bJ0 kV0 hrd0 lJ0
    generalize w1.alloc (.cells #[(.slice (begA A r) (begN 60 r) (begN c r)), (.int .i64 (begS r).done), (.int .i64 (begS r).mark), (.int .i64 (begS r).quiet), (.bool (begS r).ended)] 26) = V1 at *
    generalize w1.heap.size = na at *
    have lJ1 := bJ1.lt
    have j0 : V1.cell? ⟨w.heap.size, 0, none⟩ = some (.int .i64 j.groups) := bJ1.cell 0
    have j1 : V1.cell? ⟨w.heap.size, 1, none⟩ = some (.int .i64 j.size) := bJ1.cell 1
    have j2 : V1.cell? ⟨w.heap.size, 2, none⟩ = some (.int .i64 j.slide) := bJ1.cell 2
    have j3 : V1.cell? ⟨w.heap.size, 3, none⟩ = some (.int .i64 j.fold) := bJ1.cell 3
    have j4 : V1.cell? ⟨w.heap.size, 4, none⟩ = some (.int .i64 j.fuel) := bJ1.cell 4
    have j5 : V1.cell? ⟨w.heap.size, 5, none⟩ = some (.int .i64 j.limit) := bJ1.cell 5
    have j6 : V1.cell? ⟨w.heap.size, 6, none⟩ = some (.int .i64 j.delay) := bJ1.cell 6
    have j7 : V1.cell? ⟨w.heap.size, 7, none⟩ = some (.int .i64 j.idle) := bJ1.cell 7
    go_wp2_with fail
    refine (refNew_any j (L) done A 60 c _ hj hrd1 hm hcm hs' hv').mono ?_
    rw [hR]
    intro e w2 hp
    obtain ⟨hb2, rfl, ev2⟩ := new_out hrd1 hRe hp
    clear hp hR hRe
    clear j0 j1 j2 j3 j4 j5 j6 j7
    go_upto_region 5 with fail
    have bB2 := Blk.new w2 26 #[(.slice (begA A r) (begN 60 r) (begN c r)), (.int .i64 (begS r).done), (.int .i64 (begS r).mark), (.int .i64 (begS r).quiet), (.bool (begS r).ended)]
    have bA2 := (bA1.below hb2 bA1.lt).alloc (.cells #[(.slice (begA A r) (begN 60 r) (begN c r)), (.int .i64 (begS r).done), (.int .i64 (begS r).mark), (.int .i64 (begS r).quiet), (.bool (begS r).ended)] 26)
    have k2 := kV1.trans (hb2.mono kV1.size)
    have kV2 := k2.alloc k2.size (.cells #[(.slice (begA A r) (begN 60 r) (begN c r)), (.int .i64 (begS r).done), (.int .i64 (begS r).mark), (.int .i64 (begS r).quiet), (.bool (begS r).ended)] 26)
    have ea := reads_alloc (o := .cells #[(.slice (begA A r) (begN 60 r) (begN c r)), (.int .i64 (begS r).done), (.int .i64 (begS r).mark), (.int .i64 (begS r).quiet), (.bool (begS r).ended)] 26) (reads_below ev1' hb2)
    have eb := reads_alloc (o := .cells #[(.slice (begA A r) (begN 60 r) (begN c r)), (.int .i64 (begS r).done), (.int .i64 (begS r).mark), (.int .i64 (begS r).quiet), (.bool (begS r).ended)] 26) ev2
    clear k2 ev1' ev2 hb2 bA1 bJ1 kV1 hrd1 lJ1
    generalize w2.alloc (.cells #[(.slice (begA A r) (begN 60 r) (begN c r)), (.int .i64 (begS r).done), (.int .i64 (begS r).mark), (.int .i64 (begS r).quiet), (.bool (begS r).ended)] 26) = V2 at *
    generalize w2.heap.size = nb at *
    go_wp2_with fail
    refine (alive_any _).mono ?_
    rintro e w3 ⟨rfl, hb3⟩
    have bA3 := bA2.below hb3 bA2.lt
    have bB3 := bB2.below hb3 bB2.lt
    have k3 := kV2.trans (hb3.mono kV2.size)
    have a0 : w3.cell? ⟨na, 0, none⟩ = some (.slice (begA A r) (begN 60 r) (begN c r)) := bA3.cell 0
    have b0 : w3.cell? ⟨nb, 0, none⟩ = some (.slice (begA A r) (begN 60 r) (begN c r)) := bB3.cell 0
    have a1 : w3.cell? ⟨na, 1, none⟩ = some (.int .i64 (begS r).done) := bA3.cell 1
    have b1 : w3.cell? ⟨nb, 1, none⟩ = some (.int .i64 (begS r).done) := bB3.cell 1
    have a2 : w3.cell? ⟨na, 2, none⟩ = some (.int .i64 (begS r).mark) := bA3.cell 2
    have b2 : w3.cell? ⟨nb, 2, none⟩ = some (.int .i64 (begS r).mark) := bB3.cell 2
    have a3 : w3.cell? ⟨na, 3, none⟩ = some (.int .i64 (begS r).quiet) := bA3.cell 3
    have b3 : w3.cell? ⟨nb, 3, none⟩ = some (.int .i64 (begS r).quiet) := bB3.cell 3
    have a4 : w3.cell? ⟨na, 4, none⟩ = some (.bool (begS r).ended) := bA3.cell 4
    have b4 : w3.cell? ⟨nb, 4, none⟩ = some (.bool (begS r).ended) := bB3.cell 4
    have hle := begN_le 60 r
    go_wp2_with fail
    refine (like_same (begS r).done (begS r).mark (begS r).quiet (begS r).ended (begS r).evs (begA A r) (begA A r) (begN 60 r) (begN c r) (begN c r) _ (reads_below ea hb3) (reads_below eb hb3) (by omega)).mono ?_
    rintro e w4 ⟨rfl, hb4⟩
    have k4 := k3.trans (hb4.mono k3.size)
    go_wp2
    go_ret
    exact ⟨by simp, k4⟩

  · have hc1 : (60 : Int) < n := by omega
    have hc2 : (200 : Int) < n := by omega
    clear h1 h2
    go_enter Try.func5, Try.ntmps5
    go_upto_region 3 with fail
    have hs' : ∀ z ∈ ls, z.key.size ≤ maxLen := fun z hz => hs z (hz)
    have hv' : ∀ z ∈ ls, -9223372036854775808 ≤ z.v ∧ z.v ≤ 9223372036854775807 := fun z hz => hv z (hz)
    have bJ0 : Blk (w.alloc (.cells #[.int .i64 j.groups, .int .i64 j.size, .int .i64 j.slide, .int .i64 j.fold, .int .i64 j.fuel, .int .i64 j.limit, .int .i64 j.delay, .int .i64 j.idle] 23)) w.heap.size 23 #[.int .i64 j.groups, .int .i64 j.size, .int .i64 j.slide, .int .i64 j.fold, .int .i64 j.fuel, .int .i64 j.limit, .int .i64 j.delay, .int .i64 j.idle] := Blk.new w _ _
    have kV0 : Below w.heap.size w (w.alloc (.cells #[.int .i64 j.groups, .int .i64 j.size, .int .i64 j.slide, .int .i64 j.fold, .int .i64 j.fuel, .int .i64 j.limit, .int .i64 j.delay, .int .i64 j.idle] 23)) := by go_grown
    have hrd0 := reads_alloc (o := .cells #[.int .i64 j.groups, .int .i64 j.size, .int .i64 j.slide, .int .i64 j.fold, .int .i64 j.fuel, .int .i64 j.limit, .int .i64 j.delay, .int .i64 j.idle] 23) hr
    generalize w.alloc (.cells #[.int .i64 j.groups, .int .i64 j.size, .int .i64 j.slide, .int .i64 j.fold, .int .i64 j.fuel, .int .i64 j.limit, .int .i64 j.delay, .int .i64 j.idle] 23) = V0 at *
    have lJ0 := bJ0.lt
    have j0 : V0.cell? ⟨w.heap.size, 0, none⟩ = some (.int .i64 j.groups) := bJ0.cell 0
    have j1 : V0.cell? ⟨w.heap.size, 1, none⟩ = some (.int .i64 j.size) := bJ0.cell 1
    have j2 : V0.cell? ⟨w.heap.size, 2, none⟩ = some (.int .i64 j.slide) := bJ0.cell 2
    have j3 : V0.cell? ⟨w.heap.size, 3, none⟩ = some (.int .i64 j.fold) := bJ0.cell 3
    have j4 : V0.cell? ⟨w.heap.size, 4, none⟩ = some (.int .i64 j.fuel) := bJ0.cell 4
    have j5 : V0.cell? ⟨w.heap.size, 5, none⟩ = some (.int .i64 j.limit) := bJ0.cell 5
    have j6 : V0.cell? ⟨w.heap.size, 6, none⟩ = some (.int .i64 j.delay) := bJ0.cell 6
    have j7 : V0.cell? ⟨w.heap.size, 7, none⟩ = some (.int .i64 j.idle) := bJ0.cell 7
    obtain ⟨r, hR⟩ : ∃ r, newZ j (ls) done = r := ⟨_, rfl⟩
    have hRe : r.2 = 0 → r.1.evs = ls := fun h => by subst hR; exact newZ_evs h
    go_wp2_with fail
    refine (new_any j (ls) done A n c _ hj hrd0 hm hcm hs' hv').mono ?_
    rw [hR]
    intro e w1 hp
    obtain ⟨hb1, rfl, ev1⟩ := new_out hrd0 hRe hp
    clear hp
    clear j0 j1 j2 j3 j4 j5 j6 j7
    go_upto_region 4 with fail
    have bA1 := Blk.new w1 26 #[(.slice (begA A r) (begN n r) (begN c r)), (.int .i64 (begS r).done), (.int .i64 (begS r).mark), (.int .i64 (begS r).quiet), (.bool (begS r).ended)]
    have bJ1 := (bJ0.below hb1 lJ0).alloc (.cells #[(.slice (begA A r) (begN n r) (begN c r)), (.int .i64 (begS r).done), (.int .i64 (begS r).mark), (.int .i64 (begS r).quiet), (.bool (begS r).ended)] 26)
    have k1 := kV0.trans (hb1.mono kV0.size)
    have kV1 := k1.alloc k1.size (.cells #[(.slice (begA A r) (begN n r) (begN c r)), (.int .i64 (begS r).done), (.int .i64 (begS r).mark), (.int .i64 (begS r).quiet), (.bool (begS r).ended)] 26)
    have hrd1 := reads_alloc (o := .cells #[(.slice (begA A r) (begN n r) (begN c r)), (.int .i64 (begS r).done), (.int .i64 (begS r).mark), (.int .i64 (begS r).quiet), (.bool (begS r).ended)] 26) (reads_below hrd0 hb1)
    have ev1' := reads_alloc (o := .cells #[(.slice (begA A r) (begN n r) (begN c r)), (.int .i64 (begS r).done), (.int .i64 (begS r).mark), (.int .i64 (begS r).quiet), (.bool (begS r).ended)] 26) ev1
    clear k1 ev1 hb1 bJ0 kV0 hrd0 lJ0
    generalize w1.alloc (.cells #[(.slice (begA A r) (begN n r) (begN c r)), (.int .i64 (begS r).done), (.int .i64 (begS r).mark), (.int .i64 (begS r).quiet), (.bool (begS r).ended)] 26) = V1 at *
    generalize w1.heap.size = na at *
    have lJ1 := bJ1.lt
    have j0 : V1.cell? ⟨w.heap.size, 0, none⟩ = some (.int .i64 j.groups) := bJ1.cell 0
    have j1 : V1.cell? ⟨w.heap.size, 1, none⟩ = some (.int .i64 j.size) := bJ1.cell 1
    have j2 : V1.cell? ⟨w.heap.size, 2, none⟩ = some (.int .i64 j.slide) := bJ1.cell 2
    have j3 : V1.cell? ⟨w.heap.size, 3, none⟩ = some (.int .i64 j.fold) := bJ1.cell 3
    have j4 : V1.cell? ⟨w.heap.size, 4, none⟩ = some (.int .i64 j.fuel) := bJ1.cell 4
    have j5 : V1.cell? ⟨w.heap.size, 5, none⟩ = some (.int .i64 j.limit) := bJ1.cell 5
    have j6 : V1.cell? ⟨w.heap.size, 6, none⟩ = some (.int .i64 j.delay) := bJ1.cell 6
    have j7 : V1.cell? ⟨w.heap.size, 7, none⟩ = some (.int .i64 j.idle) := bJ1.cell 7
    go_wp2_with fail
    refine (refNew_any j (ls) done A n c _ hj hrd1 hm hcm hs' hv').mono ?_
    rw [hR]
    intro e w2 hp
    obtain ⟨hb2, rfl, ev2⟩ := new_out hrd1 hRe hp
    clear hp hR hRe
    clear j0 j1 j2 j3 j4 j5 j6 j7
    go_upto_region 5 with fail
    have bB2 := Blk.new w2 26 #[(.slice (begA A r) (begN n r) (begN c r)), (.int .i64 (begS r).done), (.int .i64 (begS r).mark), (.int .i64 (begS r).quiet), (.bool (begS r).ended)]
    have bA2 := (bA1.below hb2 bA1.lt).alloc (.cells #[(.slice (begA A r) (begN n r) (begN c r)), (.int .i64 (begS r).done), (.int .i64 (begS r).mark), (.int .i64 (begS r).quiet), (.bool (begS r).ended)] 26)
    have k2 := kV1.trans (hb2.mono kV1.size)
    have kV2 := k2.alloc k2.size (.cells #[(.slice (begA A r) (begN n r) (begN c r)), (.int .i64 (begS r).done), (.int .i64 (begS r).mark), (.int .i64 (begS r).quiet), (.bool (begS r).ended)] 26)
    have ea := reads_alloc (o := .cells #[(.slice (begA A r) (begN n r) (begN c r)), (.int .i64 (begS r).done), (.int .i64 (begS r).mark), (.int .i64 (begS r).quiet), (.bool (begS r).ended)] 26) (reads_below ev1' hb2)
    have eb := reads_alloc (o := .cells #[(.slice (begA A r) (begN n r) (begN c r)), (.int .i64 (begS r).done), (.int .i64 (begS r).mark), (.int .i64 (begS r).quiet), (.bool (begS r).ended)] 26) ev2
    clear k2 ev1' ev2 hb2 bA1 bJ1 kV1 hrd1 lJ1
    generalize w2.alloc (.cells #[(.slice (begA A r) (begN n r) (begN c r)), (.int .i64 (begS r).done), (.int .i64 (begS r).mark), (.int .i64 (begS r).quiet), (.bool (begS r).ended)] 26) = V2 at *
    generalize w2.heap.size = nb at *
    go_wp2_with fail
    refine (alive_any _).mono ?_
    rintro e w3 ⟨rfl, hb3⟩
    have bA3 := bA2.below hb3 bA2.lt
    have bB3 := bB2.below hb3 bB2.lt
    have k3 := kV2.trans (hb3.mono kV2.size)
    have a0 : w3.cell? ⟨na, 0, none⟩ = some (.slice (begA A r) (begN n r) (begN c r)) := bA3.cell 0
    have b0 : w3.cell? ⟨nb, 0, none⟩ = some (.slice (begA A r) (begN n r) (begN c r)) := bB3.cell 0
    have a1 : w3.cell? ⟨na, 1, none⟩ = some (.int .i64 (begS r).done) := bA3.cell 1
    have b1 : w3.cell? ⟨nb, 1, none⟩ = some (.int .i64 (begS r).done) := bB3.cell 1
    have a2 : w3.cell? ⟨na, 2, none⟩ = some (.int .i64 (begS r).mark) := bA3.cell 2
    have b2 : w3.cell? ⟨nb, 2, none⟩ = some (.int .i64 (begS r).mark) := bB3.cell 2
    have a3 : w3.cell? ⟨na, 3, none⟩ = some (.int .i64 (begS r).quiet) := bA3.cell 3
    have b3 : w3.cell? ⟨nb, 3, none⟩ = some (.int .i64 (begS r).quiet) := bB3.cell 3
    have a4 : w3.cell? ⟨na, 4, none⟩ = some (.bool (begS r).ended) := bA3.cell 4
    have b4 : w3.cell? ⟨nb, 4, none⟩ = some (.bool (begS r).ended) := bB3.cell 4
    have hle := begN_le n r
    go_wp2_with fail
    refine (like_same (begS r).done (begS r).mark (begS r).quiet (begS r).ended (begS r).evs (begA A r) (begA A r) (begN n r) (begN c r) (begN c r) _ (reads_below ea hb3) (reads_below eb hb3) (by omega)).mono ?_
    rintro e w4 ⟨rfl, hb4⟩
    have k4 := k3.trans (hb4.mono k3.size)
    go_wp2
    go_ret
    exact ⟨by simp, k4⟩


end Go.Proofs.Ytmlejdcanlgpdaa
