/- Walks of the references' Mark and New. -/
import Derived.Test.YtmlejdcanlgpdaaSrcL
import Derived.Test.YtmlejdcanlgpdaaSrc10
import Derived.Deep.CutRange
namespace Go.Proofs.Ytmlejdcanlgpdaa
open Go.RowKit
set_option linter.unusedVariables false
set_option linter.unusedSimpArgs false

set_option maxHeartbeats 2000000 in
theorem refMark_any (j : Jb) (A : Option Addr) (n c d : Nat) (ls : List Ev) (w : World) (hr : Reads w w.heap.size 3 A n (evs ls)) (hd : d ≤ n) (hn : n ≤ 1000) :
    Calls Try.prog 36 #[.agg #[.int .i64 j.groups, .int .i64 j.size, .int .i64 j.slide, .int .i64 j.fold, .int .i64 j.fuel, .int .i64 j.limit, .int .i64 j.delay, .int .i64 j.idle], .slice A n c, .int .i64 d] w fun e w' => e = .returned (.int .i64 (markL j (ls.take d))) ∧ Below w.heap.size w w' := by
  go_enter Try.func36, Try.ntmps36
  go_wp2
  go_loopw [7, 8] (fun m i wr => ∃ k : Nat, k ≤ d ∧ i = .int .i64 k ∧ m = .int .i64 (markL j (ls.take k)) ∧ Below w.heap.size w wr ∧ Blk wr w.heap.size 23 #[.int .i64 j.groups, .int .i64 j.size, .int .i64 j.slide, .int .i64 j.fold, .int .i64 j.fuel, .int .i64 j.limit, .int .i64 j.delay, .int .i64 j.idle]) (fun _ i _ => d - (intOf i).toNat)
  case atStart => exact ⟨0, Nat.zero_le _, rfl, rfl, by go_grown, Blk.new _ _ _⟩
  case round =>
    obtain ⟨k, hk, rfl, rfl, hB, bJ⟩ := hrel
    by_cases hlt : k < d
    · obtain ⟨ad, hl, rfl, _, x0, x1, x2⟩ := evs_get (hr.below hB) (show k < n by omega)
      have hT := markL_take (j := j) hl
      generalize ls[k] = x at *
      obtain ⟨tz, htz⟩ : ∃ tz, subZ x.at_ j.delay = tz := ⟨_, rfl⟩
      have HT := Lib.hid htz
      obtain ⟨m, hm⟩ : ∃ m, markL j (ls.take k) = m := ⟨_, rfl⟩
      rw [hm] at hT ⊢
      have hkn : (k : Int) < (n : Int) := by omega
      have hw : IntKind.i64.wrap ((k : Int) + 1) = (k : Int) + 1 := IntWalk.i64_in _ (by omega)
      have j6 : wr.cell? ⟨w.heap.size, 6, none⟩ = some (.int .i64 j.delay) := bJ.cell 6
      by_cases h5 : m < tz
      · have hz : markZ j m x = tz := by unfold markZ; rw [htz, if_pos h5]
        have HZ := Lib.hid (hT.trans hz)
        clear hT hz htz hm
        go_wp2_with fail
        go_quiet ((first | (go_at_call 29; refine (quiet_left (refSub_any _ _ _)).mono ?_; rw [HT.out]; exact fun _ _ h => h)))
        go_wp2
        go_roundw
        case rel => exact ⟨k + 1, by omega, by go_num, by rw [HZ.out], below_drewN hB nq, bJ.drewN nq⟩
        case measure => simp [intOf]; omega
      · have hz : markZ j m x = m := by unfold markZ; rw [htz, if_neg h5]
        have HZ := Lib.hid (hT.trans hz)
        clear hT hz htz hm
        go_wp2_with fail
        go_quiet ((first | (go_at_call 29; refine (quiet_left (refSub_any _ _ _)).mono ?_; rw [HT.out]; exact fun _ _ h => h)))
        go_wp2
        go_roundw
        case rel => exact ⟨k + 1, by omega, by go_num, by rw [HZ.out], below_drewN hB nq, bJ.drewN nq⟩
        case measure => simp [intOf]; omega
    · obtain rfl : k = d := by omega
      go_wp2
      go_ret
      exact ⟨rfl, hB⟩

set_option maxHeartbeats 1000000 in
theorem refNew_job (j : Jb) (ls : List Ev) (done : Int) (A : Option Addr) (n c : Nat) (w : World) (hj : j.Wf) (hr : Reads w w.heap.size 3 A n (evs ls)) (hm : n ≤ 9223372036854775807) (hc : n ≤ c) (hs : ∀ z ∈ ls, z.key.size ≤ maxLen) (hv : ∀ z ∈ ls, -9223372036854775808 ≤ z.v ∧ z.v ≤ 9223372036854775807) (hJ : jobB j = false) :
    Calls Try.prog 19 #[.agg #[.int .i64 j.groups, .int .i64 j.size, .int .i64 j.slide, .int .i64 j.fold, .int .i64 j.fuel, .int .i64 j.limit, .int .i64 j.delay, .int .i64 j.idle], .slice A n c, .int .i64 done] w (NewPost A n c (zeroS, 130) w) := by
    go_enter Try.func19, Try.ntmps19
    go_wp2_with fail
    refine (refJob_any j _ hj).mono ?_
    rw [hJ]
    rintro e w1 ⟨rfl, hb1⟩
    obtain ⟨c1, f1⟩ := bcell hb1
    have y1 := hb1.size
    try simp at y1
    have z0_0_1 : w.heap.size < w1.heap.size := by omega
    have z0_1_1 : w.heap.size + 1 < w1.heap.size := by omega
    have k1 : Below w.heap.size w w1 := next_below (by go_grown) hb1
    clear c1 f1
    have bJ1 : Blk w1 w.heap.size 23 #[.int .i64 j.groups, .int .i64 j.size, .int .i64 j.slide, .int .i64 j.fold, .int .i64 j.fuel, .int .i64 j.limit, .int .i64 j.delay, .int .i64 j.idle] := ((Blk.new w 23 #[.int .i64 j.groups, .int .i64 j.size, .int .i64 j.slide, .int .i64 j.fold, .int .i64 j.fuel, .int .i64 j.limit, .int .i64 j.delay, .int .i64 j.idle]).alloc _).below hb1 (by simp; omega)
    have bR1 : Blk w1 (w.heap.size + 1) 26 #[.slice none 0 0, .int .i64 0, .int .i64 0, .int .i64 0, .bool false] := (by simpa using Blk.new (w.alloc (.cells #[.int .i64 j.groups, .int .i64 j.size, .int .i64 j.slide, .int .i64 j.fold, .int .i64 j.fuel, .int .i64 j.limit, .int .i64 j.delay, .int .i64 j.idle] 23)) 26 #[.slice none 0 0, .int .i64 0, .int .i64 0, .int .i64 0, .bool false] : Blk _ (w.heap.size + 1) _ _).below hb1 (by simp)
    clear bJ1
    have rr0 : w1.cell? ⟨w.heap.size + 1, 0, none⟩ = some (.slice none 0 0) := bR1.cell 0
    have rr1 : w1.cell? ⟨w.heap.size + 1, 1, none⟩ = some (.int .i64 0) := bR1.cell 1
    have rr2 : w1.cell? ⟨w.heap.size + 1, 2, none⟩ = some (.int .i64 0) := bR1.cell 2
    have rr3 : w1.cell? ⟨w.heap.size + 1, 3, none⟩ = some (.int .i64 0) := bR1.cell 3
    have rr4 : w1.cell? ⟨w.heap.size + 1, 4, none⟩ = some (.bool false) := bR1.cell 4
    have fR := bR1.frozen
    go_wp2
    exact bodyPost_ret (v := .tuple #[.agg #[.slice none 0 0, .int .i64 0, .int .i64 0, .int .i64 0, .bool false], .int .i64 130]) (by simp [results, Try.results19, go_sem, rr0, rr1, rr2, rr3, rr4, World.cell?_setCell_other]) rfl ⟨by first | assumption | go_grown, .inr ⟨by decide, rfl⟩⟩

set_option maxHeartbeats 1000000 in
theorem refNew_in (j : Jb) (ls : List Ev) (done : Int) (A : Option Addr) (n c : Nat) (w : World) (hj : j.Wf) (hr : Reads w w.heap.size 3 A n (evs ls)) (hm : n ≤ 9223372036854775807) (hc : n ≤ c) (hs : ∀ z ∈ ls, z.key.size ≤ maxLen) (hv : ∀ z ∈ ls, -9223372036854775808 ≤ z.v ∧ z.v ≤ 9223372036854775807) (hJ : jobB j = true) (hI : inB ls = false) :
    Calls Try.prog 19 #[.agg #[.int .i64 j.groups, .int .i64 j.size, .int .i64 j.slide, .int .i64 j.fold, .int .i64 j.fuel, .int .i64 j.limit, .int .i64 j.delay, .int .i64 j.idle], .slice A n c, .int .i64 done] w (NewPost A n c (zeroS, 1) w) := by
    go_enter Try.func19, Try.ntmps19
    go_wp2_with fail
    refine (refJob_any j _ hj).mono ?_
    rw [hJ]
    rintro e w1 ⟨rfl, hb1⟩
    obtain ⟨c1, f1⟩ := bcell hb1
    have y1 := hb1.size
    try simp at y1
    have z0_0_1 : w.heap.size < w1.heap.size := by omega
    have z0_1_1 : w.heap.size + 1 < w1.heap.size := by omega
    have k1 : Below w.heap.size w w1 := next_below (by go_grown) hb1
    clear c1 f1
    have bJ1 : Blk w1 w.heap.size 23 #[.int .i64 j.groups, .int .i64 j.size, .int .i64 j.slide, .int .i64 j.fold, .int .i64 j.fuel, .int .i64 j.limit, .int .i64 j.delay, .int .i64 j.idle] := ((Blk.new w 23 #[.int .i64 j.groups, .int .i64 j.size, .int .i64 j.slide, .int .i64 j.fold, .int .i64 j.fuel, .int .i64 j.limit, .int .i64 j.delay, .int .i64 j.idle]).alloc _).below hb1 (by simp; omega)
    have bR1 : Blk w1 (w.heap.size + 1) 26 #[.slice none 0 0, .int .i64 0, .int .i64 0, .int .i64 0, .bool false] := (by simpa using Blk.new (w.alloc (.cells #[.int .i64 j.groups, .int .i64 j.size, .int .i64 j.slide, .int .i64 j.fold, .int .i64 j.fuel, .int .i64 j.limit, .int .i64 j.delay, .int .i64 j.idle] 23)) 26 #[.slice none 0 0, .int .i64 0, .int .i64 0, .int .i64 0, .bool false] : Blk _ (w.heap.size + 1) _ _).below hb1 (by simp)
    go_wp2_with fail
    refine (refInputs_any ⟨w1.heap.size, 0, none⟩ A n c ls _ (by simp) (by simp) (reads_alloc ((hr.below k1).more k1.size)) hm hs).mono ?_
    rw [hI]
    rintro e w2 ⟨rfl, hb2⟩
    have k2 : Below w.heap.size w w2 := next_below (k1.alloc k1.size _) hb2
    have y2 := hb2.size
    simp at y2
    have bJ2 := (bJ1.alloc (.cells #[.slice A n c] 24)).below hb2 (by have := bJ1.lt; simp; omega)
    have bR2 := (bR1.alloc (.cells #[.slice A n c] 24)).below hb2 (by have := bR1.lt; simp; omega)
    clear bJ1 bR1 hb1 hb2
    clear bJ2
    have rr0 : w2.cell? ⟨w.heap.size + 1, 0, none⟩ = some (.slice none 0 0) := bR2.cell 0
    have rr1 : w2.cell? ⟨w.heap.size + 1, 1, none⟩ = some (.int .i64 0) := bR2.cell 1
    have rr2 : w2.cell? ⟨w.heap.size + 1, 2, none⟩ = some (.int .i64 0) := bR2.cell 2
    have rr3 : w2.cell? ⟨w.heap.size + 1, 3, none⟩ = some (.int .i64 0) := bR2.cell 3
    have rr4 : w2.cell? ⟨w.heap.size + 1, 4, none⟩ = some (.bool false) := bR2.cell 4
    have fR := bR2.frozen
    go_wp2
    exact bodyPost_ret (v := .tuple #[.agg #[.slice none 0 0, .int .i64 0, .int .i64 0, .int .i64 0, .bool false], .int .i64 1]) (by simp [results, Try.results19, go_sem, rr0, rr1, rr2, rr3, rr4, World.cell?_setCell_other]) rfl ⟨by first | assumption | go_grown, .inr ⟨by decide, rfl⟩⟩

set_option maxHeartbeats 1000000 in
theorem refNew_low (j : Jb) (ls : List Ev) (done : Int) (A : Option Addr) (n c : Nat) (w : World) (hj : j.Wf) (hr : Reads w w.heap.size 3 A n (evs ls)) (hm : n ≤ 9223372036854775807) (hc : n ≤ c) (hs : ∀ z ∈ ls, z.key.size ≤ maxLen) (hv : ∀ z ∈ ls, -9223372036854775808 ≤ z.v ∧ z.v ≤ 9223372036854775807) (hJ : jobB j = true) (hI : inB ls = true) (h1 : done < 0) :
    Calls Try.prog 19 #[.agg #[.int .i64 j.groups, .int .i64 j.size, .int .i64 j.slide, .int .i64 j.fold, .int .i64 j.fuel, .int .i64 j.limit, .int .i64 j.delay, .int .i64 j.idle], .slice A n c, .int .i64 done] w (NewPost A n c (zeroS, 1) w) := by
    go_enter Try.func19, Try.ntmps19
    go_wp2_with fail
    refine (refJob_any j _ hj).mono ?_
    rw [hJ]
    rintro e w1 ⟨rfl, hb1⟩
    obtain ⟨c1, f1⟩ := bcell hb1
    have y1 := hb1.size
    try simp at y1
    have z0_0_1 : w.heap.size < w1.heap.size := by omega
    have z0_1_1 : w.heap.size + 1 < w1.heap.size := by omega
    have k1 : Below w.heap.size w w1 := next_below (by go_grown) hb1
    clear c1 f1
    have bJ1 : Blk w1 w.heap.size 23 #[.int .i64 j.groups, .int .i64 j.size, .int .i64 j.slide, .int .i64 j.fold, .int .i64 j.fuel, .int .i64 j.limit, .int .i64 j.delay, .int .i64 j.idle] := ((Blk.new w 23 #[.int .i64 j.groups, .int .i64 j.size, .int .i64 j.slide, .int .i64 j.fold, .int .i64 j.fuel, .int .i64 j.limit, .int .i64 j.delay, .int .i64 j.idle]).alloc _).below hb1 (by simp; omega)
    have bR1 : Blk w1 (w.heap.size + 1) 26 #[.slice none 0 0, .int .i64 0, .int .i64 0, .int .i64 0, .bool false] := (by simpa using Blk.new (w.alloc (.cells #[.int .i64 j.groups, .int .i64 j.size, .int .i64 j.slide, .int .i64 j.fold, .int .i64 j.fuel, .int .i64 j.limit, .int .i64 j.delay, .int .i64 j.idle] 23)) 26 #[.slice none 0 0, .int .i64 0, .int .i64 0, .int .i64 0, .bool false] : Blk _ (w.heap.size + 1) _ _).below hb1 (by simp)
    go_wp2_with fail
    refine (refInputs_any ⟨w1.heap.size, 0, none⟩ A n c ls _ (by simp) (by simp) (reads_alloc ((hr.below k1).more k1.size)) hm hs).mono ?_
    rw [hI]
    rintro e w2 ⟨rfl, hb2⟩
    have k2 : Below w.heap.size w w2 := next_below (k1.alloc k1.size _) hb2
    have y2 := hb2.size
    simp at y2
    have bJ2 := (bJ1.alloc (.cells #[.slice A n c] 24)).below hb2 (by have := bJ1.lt; simp; omega)
    have bR2 := (bR1.alloc (.cells #[.slice A n c] 24)).below hb2 (by have := bR1.lt; simp; omega)
    clear bJ1 bR1 hb1 hb2
    clear bJ2
    have rr0 : w2.cell? ⟨w.heap.size + 1, 0, none⟩ = some (.slice none 0 0) := bR2.cell 0
    have rr1 : w2.cell? ⟨w.heap.size + 1, 1, none⟩ = some (.int .i64 0) := bR2.cell 1
    have rr2 : w2.cell? ⟨w.heap.size + 1, 2, none⟩ = some (.int .i64 0) := bR2.cell 2
    have rr3 : w2.cell? ⟨w.heap.size + 1, 3, none⟩ = some (.int .i64 0) := bR2.cell 3
    have rr4 : w2.cell? ⟨w.heap.size + 1, 4, none⟩ = some (.bool false) := bR2.cell 4
    have fR := bR2.frozen
    go_wp2
    exact bodyPost_ret (v := .tuple #[.agg #[.slice none 0 0, .int .i64 0, .int .i64 0, .int .i64 0, .bool false], .int .i64 1]) (by simp [results, Try.results19, go_sem, rr0, rr1, rr2, rr3, rr4, World.cell?_setCell_other]) rfl ⟨by first | assumption | go_grown, .inr ⟨by decide, rfl⟩⟩

set_option maxHeartbeats 1000000 in
theorem refNew_high (j : Jb) (ls : List Ev) (done : Int) (A : Option Addr) (n c : Nat) (w : World) (hj : j.Wf) (hr : Reads w w.heap.size 3 A n (evs ls)) (hm : n ≤ 9223372036854775807) (hc : n ≤ c) (hs : ∀ z ∈ ls, z.key.size ≤ maxLen) (hv : ∀ z ∈ ls, -9223372036854775808 ≤ z.v ∧ z.v ≤ 9223372036854775807) (hJ : jobB j = true) (hI : inB ls = true) (h1 : 0 ≤ done) (h2 : (n : Int) < done) :
    Calls Try.prog 19 #[.agg #[.int .i64 j.groups, .int .i64 j.size, .int .i64 j.slide, .int .i64 j.fold, .int .i64 j.fuel, .int .i64 j.limit, .int .i64 j.delay, .int .i64 j.idle], .slice A n c, .int .i64 done] w (NewPost A n c (zeroS, 1) w) := by
    go_enter Try.func19, Try.ntmps19
    go_wp2_with fail
    refine (refJob_any j _ hj).mono ?_
    rw [hJ]
    rintro e w1 ⟨rfl, hb1⟩
    obtain ⟨c1, f1⟩ := bcell hb1
    have y1 := hb1.size
    try simp at y1
    have z0_0_1 : w.heap.size < w1.heap.size := by omega
    have z0_1_1 : w.heap.size + 1 < w1.heap.size := by omega
    have k1 : Below w.heap.size w w1 := next_below (by go_grown) hb1
    clear c1 f1
    have bJ1 : Blk w1 w.heap.size 23 #[.int .i64 j.groups, .int .i64 j.size, .int .i64 j.slide, .int .i64 j.fold, .int .i64 j.fuel, .int .i64 j.limit, .int .i64 j.delay, .int .i64 j.idle] := ((Blk.new w 23 #[.int .i64 j.groups, .int .i64 j.size, .int .i64 j.slide, .int .i64 j.fold, .int .i64 j.fuel, .int .i64 j.limit, .int .i64 j.delay, .int .i64 j.idle]).alloc _).below hb1 (by simp; omega)
    have bR1 : Blk w1 (w.heap.size + 1) 26 #[.slice none 0 0, .int .i64 0, .int .i64 0, .int .i64 0, .bool false] := (by simpa using Blk.new (w.alloc (.cells #[.int .i64 j.groups, .int .i64 j.size, .int .i64 j.slide, .int .i64 j.fold, .int .i64 j.fuel, .int .i64 j.limit, .int .i64 j.delay, .int .i64 j.idle] 23)) 26 #[.slice none 0 0, .int .i64 0, .int .i64 0, .int .i64 0, .bool false] : Blk _ (w.heap.size + 1) _ _).below hb1 (by simp)
    go_wp2_with fail
    refine (refInputs_any ⟨w1.heap.size, 0, none⟩ A n c ls _ (by simp) (by simp) (reads_alloc ((hr.below k1).more k1.size)) hm hs).mono ?_
    rw [hI]
    rintro e w2 ⟨rfl, hb2⟩
    have k2 : Below w.heap.size w w2 := next_below (k1.alloc k1.size _) hb2
    have y2 := hb2.size
    simp at y2
    have bJ2 := (bJ1.alloc (.cells #[.slice A n c] 24)).below hb2 (by have := bJ1.lt; simp; omega)
    have bR2 := (bR1.alloc (.cells #[.slice A n c] 24)).below hb2 (by have := bR1.lt; simp; omega)
    clear bJ1 bR1 hb1 hb2
    clear bJ2
    have rr0 : w2.cell? ⟨w.heap.size + 1, 0, none⟩ = some (.slice none 0 0) := bR2.cell 0
    have rr1 : w2.cell? ⟨w.heap.size + 1, 1, none⟩ = some (.int .i64 0) := bR2.cell 1
    have rr2 : w2.cell? ⟨w.heap.size + 1, 2, none⟩ = some (.int .i64 0) := bR2.cell 2
    have rr3 : w2.cell? ⟨w.heap.size + 1, 3, none⟩ = some (.int .i64 0) := bR2.cell 3
    have rr4 : w2.cell? ⟨w.heap.size + 1, 4, none⟩ = some (.bool false) := bR2.cell 4
    have fR := bR2.frozen
    go_wp2
    exact bodyPost_ret (v := .tuple #[.agg #[.slice none 0 0, .int .i64 0, .int .i64 0, .int .i64 0, .bool false], .int .i64 1]) (by simp [results, Try.results19, go_sem, rr0, rr1, rr2, rr3, rr4, World.cell?_setCell_other]) rfl ⟨by first | assumption | go_grown, .inr ⟨by decide, rfl⟩⟩

set_option maxHeartbeats 1000000 in
theorem refNew_ok (j : Jb) (ls : List Ev) (done : Int) (A : Option Addr) (n c : Nat) (w : World) (hj : j.Wf) (hr : Reads w w.heap.size 3 A n (evs ls)) (hm : n ≤ 9223372036854775807) (hc : n ≤ c) (hs : ∀ z ∈ ls, z.key.size ≤ maxLen) (hv : ∀ z ∈ ls, -9223372036854775808 ≤ z.v ∧ z.v ≤ 9223372036854775807) (hJ : jobB j = true) (hI : inB ls = true) (k : Nat) (hd : done = k) (hk : k ≤ n) (mk : Int) (HM : Hid (markM j (ls.take k) = mk)) :
    Calls Try.prog 19 #[.agg #[.int .i64 j.groups, .int .i64 j.size, .int .i64 j.slide, .int .i64 j.fold, .int .i64 j.fuel, .int .i64 j.limit, .int .i64 j.delay, .int .i64 j.idle], .slice A n c, .int .i64 done] w (NewPost A n c (⟨ls, k, mk, 0, false⟩, 0) w) := by
    subst hd
    have hkn : (k : Int) ≤ (n : Int) := by omega
    have hn1000 : n ≤ 1000 := by have := evs_len hr; have := (inB_iff.1 hI).1; omega
    have hM2 : markL j (ls.take k) = mk := by have := HM.out; unfold markM at this; rwa [if_pos ⟨hJ, inB_take k hI⟩] at this
    have HM2 := Lib.hid hM2
    clear hM2
    go_enter Try.func19, Try.ntmps19
    go_wp2_with fail
    refine (refJob_any j _ hj).mono ?_
    rw [hJ]
    rintro e w1 ⟨rfl, hb1⟩
    obtain ⟨c1, f1⟩ := bcell hb1
    have y1 := hb1.size
    try simp at y1
    have z0_0_1 : w.heap.size < w1.heap.size := by omega
    have z0_1_1 : w.heap.size + 1 < w1.heap.size := by omega
    have k1 : Below w.heap.size w w1 := next_below (by go_grown) hb1
    clear c1 f1
    have bJ1 : Blk w1 w.heap.size 23 #[.int .i64 j.groups, .int .i64 j.size, .int .i64 j.slide, .int .i64 j.fold, .int .i64 j.fuel, .int .i64 j.limit, .int .i64 j.delay, .int .i64 j.idle] := ((Blk.new w 23 #[.int .i64 j.groups, .int .i64 j.size, .int .i64 j.slide, .int .i64 j.fold, .int .i64 j.fuel, .int .i64 j.limit, .int .i64 j.delay, .int .i64 j.idle]).alloc _).below hb1 (by simp; omega)
    have bR1 : Blk w1 (w.heap.size + 1) 26 #[.slice none 0 0, .int .i64 0, .int .i64 0, .int .i64 0, .bool false] := (by simpa using Blk.new (w.alloc (.cells #[.int .i64 j.groups, .int .i64 j.size, .int .i64 j.slide, .int .i64 j.fold, .int .i64 j.fuel, .int .i64 j.limit, .int .i64 j.delay, .int .i64 j.idle] 23)) 26 #[.slice none 0 0, .int .i64 0, .int .i64 0, .int .i64 0, .bool false] : Blk _ (w.heap.size + 1) _ _).below hb1 (by simp)
    go_wp2_with fail
    refine (refInputs_any ⟨w1.heap.size, 0, none⟩ A n c ls _ (by simp) (by simp) (reads_alloc ((hr.below k1).more k1.size)) hm hs).mono ?_
    rw [hI]
    rintro e w2 ⟨rfl, hb2⟩
    have k2 : Below w.heap.size w w2 := next_below (k1.alloc k1.size _) hb2
    have y2 := hb2.size
    simp at y2
    have bJ2 := (bJ1.alloc (.cells #[.slice A n c] 24)).below hb2 (by have := bJ1.lt; simp; omega)
    have bR2 := (bR1.alloc (.cells #[.slice A n c] 24)).below hb2 (by have := bR1.lt; simp; omega)
    clear bJ1 bR1 hb1 hb2
    have rr0 : w2.cell? ⟨w.heap.size + 1, 0, none⟩ = some (.slice none 0 0) := bR2.cell 0
    have rr1 : w2.cell? ⟨w.heap.size + 1, 1, none⟩ = some (.int .i64 0) := bR2.cell 1
    have rr2 : w2.cell? ⟨w.heap.size + 1, 2, none⟩ = some (.int .i64 0) := bR2.cell 2
    have rr3 : w2.cell? ⟨w.heap.size + 1, 3, none⟩ = some (.int .i64 0) := bR2.cell 3
    have rr4 : w2.cell? ⟨w.heap.size + 1, 4, none⟩ = some (.bool false) := bR2.cell 4
    have fR := bR2.frozen
    have j0 : w2.cell? ⟨w.heap.size, 0, none⟩ = some (.int .i64 j.groups) := bJ2.cell 0
    have j1 : w2.cell? ⟨w.heap.size, 1, none⟩ = some (.int .i64 j.size) := bJ2.cell 1
    have j2 : w2.cell? ⟨w.heap.size, 2, none⟩ = some (.int .i64 j.slide) := bJ2.cell 2
    have j3 : w2.cell? ⟨w.heap.size, 3, none⟩ = some (.int .i64 j.fold) := bJ2.cell 3
    have j4 : w2.cell? ⟨w.heap.size, 4, none⟩ = some (.int .i64 j.fuel) := bJ2.cell 4
    have j5 : w2.cell? ⟨w.heap.size, 5, none⟩ = some (.int .i64 j.limit) := bJ2.cell 5
    have j6 : w2.cell? ⟨w.heap.size, 6, none⟩ = some (.int .i64 j.delay) := bJ2.cell 6
    have j7 : w2.cell? ⟨w.heap.size, 7, none⟩ = some (.int .i64 j.idle) := bJ2.cell 7
    go_wp2_with fail
    refine (refMark_any j A n c k ls _ ((hr.below k2).more k2.size) hk hn1000).mono ?_
    rw [HM2.out]
    rintro e w3 ⟨rfl, hb3⟩
    have k3 := k2.trans (hb3.mono k2.size)
    have bR3 := bR2.below hb3 bR2.lt
    have y3 := hb3.size
    clear rr0 rr1 rr2 rr3 rr4 fR j0 j1 j2 j3 j4 j5 j6 j7 bJ2 bR2
    have rr0 : w3.cell? ⟨w.heap.size + 1, 0, none⟩ = some (.slice none 0 0) := bR3.cell 0
    have rr1 : w3.cell? ⟨w.heap.size + 1, 1, none⟩ = some (.int .i64 0) := bR3.cell 1
    have rr2 : w3.cell? ⟨w.heap.size + 1, 2, none⟩ = some (.int .i64 0) := bR3.cell 2
    have rr3 : w3.cell? ⟨w.heap.size + 1, 3, none⟩ = some (.int .i64 0) := bR3.cell 3
    have rr4 : w3.cell? ⟨w.heap.size + 1, 4, none⟩ = some (.bool false) := bR3.cell 4
    have fR := bR3.frozen
    go_wp2
    have bZ := ((((bR3.set_ 0 (.slice A n c)).set_ 1 (.int .i64 (k : Int))).set_ 2 (.int .i64 mk)).set_ 3 (.int .i64 0)).set_ 4 (.bool false)
    have e0 : World.cell? _ ⟨w.heap.size + 1, 0, none⟩ = some (.slice A n c) := bZ.cell 0
    have e1 : World.cell? _ ⟨w.heap.size + 1, 1, none⟩ = some (.int .i64 (k : Int)) := bZ.cell 1
    have e2 : World.cell? _ ⟨w.heap.size + 1, 2, none⟩ = some (.int .i64 mk) := bZ.cell 2
    have e3 : World.cell? _ ⟨w.heap.size + 1, 3, none⟩ = some (.int .i64 0) := bZ.cell 3
    have e4 : World.cell? _ ⟨w.heap.size + 1, 4, none⟩ = some (.bool false) := bZ.cell 4
    refine bodyPost_ret (v := .tuple #[.agg #[(.slice A n c), (.int .i64 (k : Int)), (.int .i64 mk), (.int .i64 0), (.bool false)], .int .i64 0]) (by simp [results, Try.results19, go_sem, e0, e1, e2, e3, e4]) rfl ?_
    exact ⟨by go_grown, .inl ⟨rfl, rfl⟩⟩

theorem refNew_any (j : Jb) (ls : List Ev) (done : Int) (A : Option Addr) (n c : Nat) (w : World) (hj : j.Wf) (hr : Reads w w.heap.size 3 A n (evs ls)) (hm : n ≤ 9223372036854775807) (hc : n ≤ c) (hs : ∀ z ∈ ls, z.key.size ≤ maxLen) (hv : ∀ z ∈ ls, -9223372036854775808 ≤ z.v ∧ z.v ≤ 9223372036854775807) :
    Calls Try.prog 19 #[.agg #[.int .i64 j.groups, .int .i64 j.size, .int .i64 j.slide, .int .i64 j.fold, .int .i64 j.fuel, .int .i64 j.limit, .int .i64 j.delay, .int .i64 j.idle], .slice A n c, .int .i64 done] w (NewPost A n c (newZ j ls done) w) := by
  have hl := evs_len hr
  unfold newZ
  by_cases hJ : jobB j = false
  · rw [if_pos hJ]
    exact refNew_job j ls done A n c w hj hr hm hc hs hv hJ
  rw [if_neg hJ]
  have hJ' : jobB j = true := by simpa using hJ
  by_cases hI : inB ls = false
  · rw [if_pos (.inl hI)]
    exact refNew_in j ls done A n c w hj hr hm hc hs hv hJ' hI
  have hI' : inB ls = true := by simpa using hI
  by_cases h1 : done < 0
  · rw [if_pos (.inr (.inl h1))]
    exact refNew_low j ls done A n c w hj hr hm hc hs hv hJ' hI' h1
  by_cases h2 : (ls.length : Int) < done
  · rw [if_pos (.inr (.inr h2))]
    exact refNew_high j ls done A n c w hj hr hm hc hs hv hJ' hI' (by omega) (by omega)
  rw [if_neg (by rintro (h | h | h); exact hI h; exact h1 h; exact h2 h)]
  obtain ⟨k, hk⟩ := Int.eq_ofNat_of_zero_le (show 0 ≤ done by omega)
  have hM : markM j (ls.take k) = markL j (ls.take k) := if_pos ⟨hJ', inB_take k hI'⟩
  have h := refNew_ok j ls done A n c w hj hr hm hc hs hv hJ' hI' k hk (by omega) _ (Lib.hid hM)
  rw [hk, Int.toNat_natCast]
  rw [hk] at h
  exact h
end Go.Proofs.Ytmlejdcanlgpdaa
