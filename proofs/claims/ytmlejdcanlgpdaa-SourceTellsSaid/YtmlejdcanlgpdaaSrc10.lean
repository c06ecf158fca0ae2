/- Walks of model.Mark and source.New. -/
import Derived.Test.YtmlejdcanlgpdaaSrc9
namespace Go.Proofs.Ytmlejdcanlgpdaa
open Go.RowKit
set_option linter.unusedVariables false
set_option linter.unusedSimpArgs false

theorem checkZ_zero {j : Jb} {l : List Ev} (h : checkZ j l = 0) : jobB j = true ∧ inB l = true := by
  unfold checkZ at h
  by_cases hJ : jobB j = false
  · rw [if_pos hJ] at h; simp at h
  · rw [if_neg hJ] at h
    by_cases hB : inB l = false
    · rw [if_pos hB] at h; simp at h
    · exact ⟨by simpa using hJ, by simpa using hB⟩
theorem checkZ_ne {j : Jb} {l : List Ev} (h : checkZ j l ≠ 0) : ¬ (jobB j = true ∧ inB l = true) := by
  rintro ⟨h1, h2⟩
  apply h
  unfold checkZ
  rw [h1, h2]
  rfl
theorem markZ_bd (j : Jb) (m : Int) (x : Ev) (h : 0 ≤ m ∧ m ≤ 1099511627776) : 0 ≤ markZ j m x ∧ markZ j m x ≤ 1099511627776 := by
  unfold markZ subZ
  have := clampZ_bd (clampZ x.at_ - clampZ j.delay)
  split <;> omega
theorem markF_bd (j : Jb) : ∀ (l : List Ev) (m : Int), 0 ≤ m ∧ m ≤ 1099511627776 → 0 ≤ l.foldl (markZ j) m ∧ l.foldl (markZ j) m ≤ 1099511627776
  | [], _, h => h
  | x :: l, m, h => markF_bd j l _ (markZ_bd j m x h)
theorem markL_bd (j : Jb) (l : List Ev) : 0 ≤ markL j l ∧ markL j l ≤ 1099511627776 := markF_bd j l 0 (by omega)
theorem markL_take {j : Jb} {ls : List Ev} {k : Nat} (h : k < ls.length) : markL j (ls.take (k + 1)) = markZ j (markL j (ls.take k)) ls[k] := by
  rw [List.take_succ_eq_append_getElem h, markL_snoc]

set_option maxHeartbeats 2000000 in
theorem modelMark_any (j : Jb) (A : Option Addr) (n c : Nat) (ls : List Ev) (w : World) (hj : j.Wf) (hr : Reads w w.heap.size 3 A n (evs ls)) (hm : n ≤ 9223372036854775807) (hs : ∀ z ∈ ls, z.key.size ≤ maxLen) (hv : ∀ z ∈ ls, -9223372036854775808 ≤ z.v ∧ z.v ≤ 9223372036854775807) :
    Calls Try.prog 20 #[.agg #[.int .i64 j.groups, .int .i64 j.size, .int .i64 j.slide, .int .i64 j.fold, .int .i64 j.fuel, .int .i64 j.limit, .int .i64 j.delay, .int .i64 j.idle], .slice A n c] w fun e w' => e = .returned (.int .i64 (markM j ls)) ∧ Below w.heap.size w w' := by
  have HLn := Lib.hid (evs_len hr)
  have HV := Lib.hid hv
  clear hv
  have hr2 : ∀ o o', Reads ((w.alloc o).alloc o') ((w.alloc o).alloc o').heap.size 3 A n (evs ls) := fun o o' => reads_alloc (reads_alloc hr)
  have hcell : ∀ o v t, ((w.alloc o).alloc (.cells #[v] t)).cell? ⟨w.heap.size + 1, 0, none⟩ = some v := fun o v t => by simp
  obtain ⟨z, hz⟩ : ∃ z, checkZ j ls = z := ⟨_, rfl⟩
  have HC := Lib.hid hz
  by_cases h0 : z = 0
  · have hM : markM j ls = markL j ls := if_pos (checkZ_zero (hz.trans h0))
    rw [hM]
    clear hM hz
    subst h0
    go_enter Try.func20, Try.ntmps20
    go_wp2_with fail
    refine (check_any j ⟨w.heap.size + 1, 0, none⟩ A n c ls _ hj (hcell _ _ _) (by simp) (hr2 _ _) hm hs).mono ?_
    rw [HC.out]
    rintro e w1 ⟨rfl, hb1⟩
    have y1 := hb1.size
    simp at y1
    have k1 : Below w.heap.size w w1 := next_below (by go_grown) hb1
    have bJ1 : Blk w1 w.heap.size 23 #[.int .i64 j.groups, .int .i64 j.size, .int .i64 j.slide, .int .i64 j.fold, .int .i64 j.fuel, .int .i64 j.limit, .int .i64 j.delay, .int .i64 j.idle] := ((Blk.new w 23 #[.int .i64 j.groups, .int .i64 j.size, .int .i64 j.slide, .int .i64 j.fold, .int .i64 j.fuel, .int .i64 j.limit, .int .i64 j.delay, .int .i64 j.idle]).alloc _).below hb1 (by simp; omega)
    have j0 : w1.cell? ⟨w.heap.size, 0, none⟩ = some (.int .i64 j.groups) := bJ1.cell 0
    have j1 : w1.cell? ⟨w.heap.size, 1, none⟩ = some (.int .i64 j.size) := bJ1.cell 1
    have j2 : w1.cell? ⟨w.heap.size, 2, none⟩ = some (.int .i64 j.slide) := bJ1.cell 2
    have j3 : w1.cell? ⟨w.heap.size, 3, none⟩ = some (.int .i64 j.fold) := bJ1.cell 3
    have j4 : w1.cell? ⟨w.heap.size, 4, none⟩ = some (.int .i64 j.fuel) := bJ1.cell 4
    have j5 : w1.cell? ⟨w.heap.size, 5, none⟩ = some (.int .i64 j.limit) := bJ1.cell 5
    have j6 : w1.cell? ⟨w.heap.size, 6, none⟩ = some (.int .i64 j.delay) := bJ1.cell 6
    have j7 : w1.cell? ⟨w.heap.size, 7, none⟩ = some (.int .i64 j.idle) := bJ1.cell 7
    go_wp2_with fail
    have bM := Blk.new w1 69 (seeC j 0)
    have kM := k1.alloc k1.size (.cells (seeC j 0) 69)
    clear hb1 bJ1 j0 j1 j2 j3 j4 j5 j6 j7
    have sM : w.heap.size ≤ w1.heap.size := by omega
    generalize w1.heap.size = sb at *
    go_loopw [18] (fun i wr => ∃ k : Nat, k ≤ n ∧ i = .int .i64 k ∧ Below w.heap.size w wr ∧ Blk wr sb 69 (seeC j (markL j (ls.take k)))) (fun i _ => n - (intOf i).toNat)
    case atStart => exact ⟨0, Nat.zero_le _, rfl, kM, bM⟩
    case round =>
      clear bM kM
      obtain ⟨k, hk, rfl, hB, bM⟩ := hrel
      by_cases hlt : k < n
      · obtain ⟨ad, hl, rfl, _, x0, x1, x2⟩ := evs_get (hr.below hB) hlt
        have hx := HV.out ls[k] (List.getElem_mem hl)
        have HT := Lib.hid (markL_take (j := j) hl)
        generalize ls[k] = x at *
        have bM2 := bM.alloc (.cells #[.string x.key, .int .i64 x.at_, .int .i64 x.v] 37)
        have kB := hB.alloc hB.size (.cells #[.string x.key, .int .i64 x.at_, .int .i64 x.v] 37)
        have sB := kB.size
        go_wp2_with fail
        refine (see_any sb j _ x _ bM2 hj.limit hx).mono ?_
        rintro e w2 ⟨rfl, bM3, T3⟩
        have k3 : Below w.heap.size w w2 := T3.lift _ _ kB sM sM sB
        go_wp2
        go_roundw
        case rel => exact ⟨k + 1, by omega, by go_num, k3, by rw [HT.out]; exact bM3⟩
        case measure => simp [intOf]; omega
      · obtain rfl : k = n := by omega
        rw [List.take_of_length_le (by have := HLn.out; omega)] at bM
        have q8 : wr.cell? ⟨sb, 8, none⟩ = some (.int .i64 (markL j ls)) := bM.cell 8
        go_wp2
        go_ret
        exact ⟨rfl, hB⟩
  · have hM : markM j ls = 0 := if_neg (checkZ_ne (hz ▸ h0))
    rw [hM]
    have hne : (z != 0) = true := by simpa using h0
    clear hM hz h0
    go_enter Try.func20, Try.ntmps20
    go_wp2_with fail
    refine (check_any j ⟨w.heap.size + 1, 0, none⟩ A n c ls _ hj (hcell _ _ _) (by simp) (hr2 _ _) hm hs).mono ?_
    rw [HC.out]
    rintro e w1 ⟨rfl, hb1⟩
    have y1 := hb1.size
    simp at y1
    have k1 : Below w.heap.size w w1 := next_below (by go_grown) hb1
    go_wp2
    go_ret
    exact ⟨rfl, k1⟩

/-- What a source is that is begun behind so many events, or the error's number. -/
def newZ (j : Jb) (ls : List Ev) (done : Int) : Sr × Int :=
  if jobB j = false then (zeroS, 130) else if inB ls = false ∨ done < 0 ∨ (ls.length : Int) < done then (zeroS, 1) else (⟨ls, done, markL j (ls.take done.toNat), 0, false⟩, 0)
def NewPost (A : Option Addr) (n c : Nat) (r : Sr × Int) (w : World) (e : Ending) (w' : World) : Prop :=
  Below w.heap.size w w' ∧ ((r.2 = 0 ∧ e = .returned (.tuple #[.agg #[.slice A n c, .int .i64 r.1.done, .int .i64 r.1.mark, .int .i64 r.1.quiet, .bool r.1.ended], .int .i64 0])) ∨
    (r.2 ≠ 0 ∧ e = .returned (.tuple #[.agg #[.slice none 0 0, .int .i64 0, .int .i64 0, .int .i64 0, .bool false], .int .i64 r.2])))
theorem inB_take {l : List Ev} (k : Nat) (h : inB l = true) : inB (l.take k) = true := by
  obtain ⟨h1, h2⟩ := inB_iff.1 h
  exact inB_iff.2 ⟨by rw [List.length_take]; omega, fun e he => h2 e (List.mem_of_mem_take he)⟩
theorem evs_take (ls : List Ev) (k : Nat) : evs (ls.take k) = (evs ls).take (k * 3) := by
  induction ls generalizing k with
  | nil => simp [evs]
  | cons a ls ih =>
    cases k with
    | zero => simp [evs]
    | succ k => rw [List.take_succ_cons, evs_cons, evs_cons, ih, show (k + 1) * 3 = k * 3 + 1 + 1 + 1 from by omega]; rfl
theorem reads_take3 {w : World} {B n k : Nat} {A : Option Addr} {ls : List Ev} (h : Reads w B 3 A n (evs ls)) (hk : k ≤ n) : Reads w B 3 A k (evs (ls.take k)) := by
  have hl := evs_len h
  refine ⟨by rw [evs_length, List.length_take]; omega, fun h0 => ?_⟩
  obtain ⟨ad, e, hb, hc⟩ := h.2 (by omega)
  refine ⟨ad, e, hb, fun j u hu => hc j u ?_⟩
  rw [← hu, evs_take]
  have hj := (List.getElem?_eq_some_iff.1 hu).1
  rw [evs_length, List.length_take] at hj
  rw [List.getElem?_take_of_lt (by omega)]

set_option maxHeartbeats 1000000 in
theorem new_job (j : Jb) (ls : List Ev) (done : Int) (A : Option Addr) (n c : Nat) (w : World) (hj : j.Wf) (hr : Reads w w.heap.size 3 A n (evs ls)) (hm : n ≤ 9223372036854775807) (hc : n ≤ c) (hs : ∀ z ∈ ls, z.key.size ≤ maxLen) (hv : ∀ z ∈ ls, -9223372036854775808 ≤ z.v ∧ z.v ≤ 9223372036854775807) (hJ : jobB j = false) :
    Calls Try.prog 18 #[.agg #[.int .i64 j.groups, .int .i64 j.size, .int .i64 j.slide, .int .i64 j.fold, .int .i64 j.fuel, .int .i64 j.limit, .int .i64 j.delay, .int .i64 j.idle], .slice A n c, .int .i64 done] w (NewPost A n c (zeroS, 130) w) := by
    go_enter Try.func18, Try.ntmps18
    go_wp2_with fail
    refine (job_any j _ hj).mono ?_
    rw [hJ]
    rintro e w1 ⟨rfl, hb1⟩
    obtain ⟨c1, f1⟩ := bcell hb1
    have y1 := hb1.size
    try simp at y1
    have z0_0_1 : w.heap.size < w1.heap.size := by omega
    have z0_1_1 : w.heap.size + 1 < w1.heap.size := by omega
    have k1 : Below w.heap.size w w1 := next_below (by go_grown) hb1
    clear c1 f1
    have bJ1 : Blk w1 w.heap.size 23 #[.int .i64 j.groups, .int .i64 j.size, .int .i64 j.slide, .int .i64 j.fold, .int .i64 j.fuel, .int .i64 j.limit, .int .i64 j.delay, .int .i64 j.idle] := ((Blk.new w 23 #[.int .i64 j.groups, .int .i64 j.size, .int .i64 j.slide, .int .i64 j.fold, .int .i64 j.fuel, .int .i64 j.limit, .int .i64 j.delay, .int .i64 j.idle]).alloc _).below hb1 (by simp; omega)
    have bR1 : Blk w1 (w.heap.size + 1) 26 #[.slice none 0 0, .int .i64 0, .int .i64 0, .int .i64 0, .bool false] := (by simpa using Blk.new (w.alloc (.cells #[.int .i64 j.groups, .int .i64 j.size, .int .i64 j.slide, .int .i64 j.fold, .int .i64 j.fuel, .int .i64 j.limit, .int .i64 j.delay, .int .i64 j.idle] 23)) 26 #[.slice none 0 0, .int .i64 0, .int .i64 0, .int .i64 0, .bool false] : Blk _ (w.heap.size + 1) _ _).below hb1 (by simp)
    clear bJ1
    have rr0 : w1.cell? ⟨w.heap.size + 1, 0, none⟩ = some (.slice none 0 0) := bR1.cell 0
    have rr1 : w1.cell? ⟨w.heap.size + 1, 1, none⟩ = some (.int .i64 0) := bR1.cell 1
    have rr2 : w1.cell? ⟨w.heap.size + 1, 2, none⟩ = some (.int .i64 0) := bR1.cell 2
    have rr3 : w1.cell? ⟨w.heap.size + 1, 3, none⟩ = some (.int .i64 0) := bR1.cell 3
    have rr4 : w1.cell? ⟨w.heap.size + 1, 4, none⟩ = some (.bool false) := bR1.cell 4
    have fR := bR1.frozen
    go_wp2
    exact bodyPost_ret (v := .tuple #[.agg #[.slice none 0 0, .int .i64 0, .int .i64 0, .int .i64 0, .bool false], .int .i64 130]) (by simp [results, Try.results18, go_sem, rr0, rr1, rr2, rr3, rr4, World.cell?_setCell_other]) rfl ⟨by first | assumption | go_grown, .inr ⟨by decide, rfl⟩⟩

set_option maxHeartbeats 1000000 in
theorem new_in (j : Jb) (ls : List Ev) (done : Int) (A : Option Addr) (n c : Nat) (w : World) (hj : j.Wf) (hr : Reads w w.heap.size 3 A n (evs ls)) (hm : n ≤ 9223372036854775807) (hc : n ≤ c) (hs : ∀ z ∈ ls, z.key.size ≤ maxLen) (hv : ∀ z ∈ ls, -9223372036854775808 ≤ z.v ∧ z.v ≤ 9223372036854775807) (hJ : jobB j = true) (hI : inB ls = false) :
    Calls Try.prog 18 #[.agg #[.int .i64 j.groups, .int .i64 j.size, .int .i64 j.slide, .int .i64 j.fold, .int .i64 j.fuel, .int .i64 j.limit, .int .i64 j.delay, .int .i64 j.idle], .slice A n c, .int .i64 done] w (NewPost A n c (zeroS, 1) w) := by
    go_enter Try.func18, Try.ntmps18
    go_wp2_with fail
    refine (job_any j _ hj).mono ?_
    rw [hJ]
    rintro e w1 ⟨rfl, hb1⟩
    obtain ⟨c1, f1⟩ := bcell hb1
    have y1 := hb1.size
    try simp at y1
    have z0_0_1 : w.heap.size < w1.heap.size := by omega
    have z0_1_1 : w.heap.size + 1 < w1.heap.size := by omega
    have k1 : Below w.heap.size w w1 := next_below (by go_grown) hb1
    clear c1 f1
    have bJ1 : Blk w1 w.heap.size 23 #[.int .i64 j.groups, .int .i64 j.size, .int .i64 j.slide, .int .i64 j.fold, .int .i64 j.fuel, .int .i64 j.limit, .int .i64 j.delay, .int .i64 j.idle] := ((Blk.new w 23 #[.int .i64 j.groups, .int .i64 j.size, .int .i64 j.slide, .int .i64 j.fold, .int .i64 j.fuel, .int .i64 j.limit, .int .i64 j.delay, .int .i64 j.idle]).alloc _).below hb1 (by simp; omega)
    have bR1 : Blk w1 (w.heap.size + 1) 26 #[.slice none 0 0, .int .i64 0, .int .i64 0, .int .i64 0, .bool false] := (by simpa using Blk.new (w.alloc (.cells #[.int .i64 j.groups, .int .i64 j.size, .int .i64 j.slide, .int .i64 j.fold, .int .i64 j.fuel, .int .i64 j.limit, .int .i64 j.delay, .int .i64 j.idle] 23)) 26 #[.slice none 0 0, .int .i64 0, .int .i64 0, .int .i64 0, .bool false] : Blk _ (w.heap.size + 1) _ _).below hb1 (by simp)
    go_wp2_with fail
    refine (inputs_any ⟨w1.heap.size, 0, none⟩ A n c ls _ (by simp) (reads_alloc ((hr.below k1).more k1.size)) hm hs).mono ?_
    rw [hI]
    rintro e w2 ⟨rfl, hb2⟩
    have k2 : Below w.heap.size w w2 := next_below (k1.alloc k1.size _) hb2
    have y2 := hb2.size
    simp at y2
    have bJ2 := (bJ1.alloc (.cells #[.slice A n c] 24)).below hb2 (by have := bJ1.lt; simp; omega)
    have bR2 := (bR1.alloc (.cells #[.slice A n c] 24)).below hb2 (by have := bR1.lt; simp; omega)
    clear bJ1 bR1 hb1 hb2
    clear bJ2
    have rr0 : w2.cell? ⟨w.heap.size + 1, 0, none⟩ = some (.slice none 0 0) := bR2.cell 0
    have rr1 : w2.cell? ⟨w.heap.size + 1, 1, none⟩ = some (.int .i64 0) := bR2.cell 1
    have rr2 : w2.cell? ⟨w.heap.size + 1, 2, none⟩ = some (.int .i64 0) := bR2.cell 2
    have rr3 : w2.cell? ⟨w.heap.size + 1, 3, none⟩ = some (.int .i64 0) := bR2.cell 3
    have rr4 : w2.cell? ⟨w.heap.size + 1, 4, none⟩ = some (.bool false) := bR2.cell 4
    have fR := bR2.frozen
    go_wp2
    exact bodyPost_ret (v := .tuple #[.agg #[.slice none 0 0, .int .i64 0, .int .i64 0, .int .i64 0, .bool false], .int .i64 1]) (by simp [results, Try.results18, go_sem, rr0, rr1, rr2, rr3, rr4, World.cell?_setCell_other]) rfl ⟨by first | assumption | go_grown, .inr ⟨by decide, rfl⟩⟩

set_option maxHeartbeats 1000000 in
theorem new_low (j : Jb) (ls : List Ev) (done : Int) (A : Option Addr) (n c : Nat) (w : World) (hj : j.Wf) (hr : Reads w w.heap.size 3 A n (evs ls)) (hm : n ≤ 9223372036854775807) (hc : n ≤ c) (hs : ∀ z ∈ ls, z.key.size ≤ maxLen) (hv : ∀ z ∈ ls, -9223372036854775808 ≤ z.v ∧ z.v ≤ 9223372036854775807) (hJ : jobB j = true) (hI : inB ls = true) (h1 : done < 0) :
    Calls Try.prog 18 #[.agg #[.int .i64 j.groups, .int .i64 j.size, .int .i64 j.slide, .int .i64 j.fold, .int .i64 j.fuel, .int .i64 j.limit, .int .i64 j.delay, .int .i64 j.idle], .slice A n c, .int .i64 done] w (NewPost A n c (zeroS, 1) w) := by
    go_enter Try.func18, Try.ntmps18
    go_wp2_with fail
    refine (job_any j _ hj).mono ?_
    rw [hJ]
    rintro e w1 ⟨rfl, hb1⟩
    obtain ⟨c1, f1⟩ := bcell hb1
    have y1 := hb1.size
    try simp at y1
    have z0_0_1 : w.heap.size < w1.heap.size := by omega
    have z0_1_1 : w.heap.size + 1 < w1.heap.size := by omega
    have k1 : Below w.heap.size w w1 := next_below (by go_grown) hb1
    clear c1 f1
    have bJ1 : Blk w1 w.heap.size 23 #[.int .i64 j.groups, .int .i64 j.size, .int .i64 j.slide, .int .i64 j.fold, .int .i64 j.fuel, .int .i64 j.limit, .int .i64 j.delay, .int .i64 j.idle] := ((Blk.new w 23 #[.int .i64 j.groups, .int .i64 j.size, .int .i64 j.slide, .int .i64 j.fold, .int .i64 j.fuel, .int .i64 j.limit, .int .i64 j.delay, .int .i64 j.idle]).alloc _).below hb1 (by simp; omega)
    have bR1 : Blk w1 (w.heap.size + 1) 26 #[.slice none 0 0, .int .i64 0, .int .i64 0, .int .i64 0, .bool false] := (by simpa using Blk.new (w.alloc (.cells #[.int .i64 j.groups, .int .i64 j.size, .int .i64 j.slide, .int .i64 j.fold, .int .i64 j.fuel, .int .i64 j.limit, .int .i64 j.delay, .int .i64 j.idle] 23)) 26 #[.slice none 0 0, .int .i64 0, .int .i64 0, .int .i64 0, .bool false] : Blk _ (w.heap.size + 1) _ _).below hb1 (by simp)
    go_wp2_with fail
    refine (inputs_any ⟨w1.heap.size, 0, none⟩ A n c ls _ (by simp) (reads_alloc ((hr.below k1).more k1.size)) hm hs).mono ?_
    rw [hI]
    rintro e w2 ⟨rfl, hb2⟩
    have k2 : Below w.heap.size w w2 := next_below (k1.alloc k1.size _) hb2
    have y2 := hb2.size
    simp at y2
    have bJ2 := (bJ1.alloc (.cells #[.slice A n c] 24)).below hb2 (by have := bJ1.lt; simp; omega)
    have bR2 := (bR1.alloc (.cells #[.slice A n c] 24)).below hb2 (by have := bR1.lt; simp; omega)
    clear bJ1 bR1 hb1 hb2
    clear bJ2
    have rr0 : w2.cell? ⟨w.heap.size + 1, 0, none⟩ = some (.slice none 0 0) := bR2.cell 0
    have rr1 : w2.cell? ⟨w.heap.size + 1, 1, none⟩ = some (.int .i64 0) := bR2.cell 1
    have rr2 : w2.cell? ⟨w.heap.size + 1, 2, none⟩ = some (.int .i64 0) := bR2.cell 2
    have rr3 : w2.cell? ⟨w.heap.size + 1, 3, none⟩ = some (.int .i64 0) := bR2.cell 3
    have rr4 : w2.cell? ⟨w.heap.size + 1, 4, none⟩ = some (.bool false) := bR2.cell 4
    have fR := bR2.frozen
    go_wp2
    exact bodyPost_ret (v := .tuple #[.agg #[.slice none 0 0, .int .i64 0, .int .i64 0, .int .i64 0, .bool false], .int .i64 1]) (by simp [results, Try.results18, go_sem, rr0, rr1, rr2, rr3, rr4, World.cell?_setCell_other]) rfl ⟨by first | assumption | go_grown, .inr ⟨by decide, rfl⟩⟩

set_option maxHeartbeats 1000000 in
theorem new_high (j : Jb) (ls : List Ev) (done : Int) (A : Option Addr) (n c : Nat) (w : World) (hj : j.Wf) (hr : Reads w w.heap.size 3 A n (evs ls)) (hm : n ≤ 9223372036854775807) (hc : n ≤ c) (hs : ∀ z ∈ ls, z.key.size ≤ maxLen) (hv : ∀ z ∈ ls, -9223372036854775808 ≤ z.v ∧ z.v ≤ 9223372036854775807) (hJ : jobB j = true) (hI : inB ls = true) (h1 : 0 ≤ done) (h2 : (n : Int) < done) :
    Calls Try.prog 18 #[.agg #[.int .i64 j.groups, .int .i64 j.size, .int .i64 j.slide, .int .i64 j.fold, .int .i64 j.fuel, .int .i64 j.limit, .int .i64 j.delay, .int .i64 j.idle], .slice A n c, .int .i64 done] w (NewPost A n c (zeroS, 1) w) := by
    go_enter Try.func18, Try.ntmps18
    go_wp2_with fail
    refine (job_any j _ hj).mono ?_
    rw [hJ]
    rintro e w1 ⟨rfl, hb1⟩
    obtain ⟨c1, f1⟩ := bcell hb1
    have y1 := hb1.size
    try simp at y1
    have z0_0_1 : w.heap.size < w1.heap.size := by omega
    have z0_1_1 : w.heap.size + 1 < w1.heap.size := by omega
    have k1 : Below w.heap.size w w1 := next_below (by go_grown) hb1
    clear c1 f1
    have bJ1 : Blk w1 w.heap.size 23 #[.int .i64 j.groups, .int .i64 j.size, .int .i64 j.slide, .int .i64 j.fold, .int .i64 j.fuel, .int .i64 j.limit, .int .i64 j.delay, .int .i64 j.idle] := ((Blk.new w 23 #[.int .i64 j.groups, .int .i64 j.size, .int .i64 j.slide, .int .i64 j.fold, .int .i64 j.fuel, .int .i64 j.limit, .int .i64 j.delay, .int .i64 j.idle]).alloc _).below hb1 (by simp; omega)
    have bR1 : Blk w1 (w.heap.size + 1) 26 #[.slice none 0 0, .int .i64 0, .int .i64 0, .int .i64 0, .bool false] := (by simpa using Blk.new (w.alloc (.cells #[.int .i64 j.groups, .int .i64 j.size, .int .i64 j.slide, .int .i64 j.fold, .int .i64 j.fuel, .int .i64 j.limit, .int .i64 j.delay, .int .i64 j.idle] 23)) 26 #[.slice none 0 0, .int .i64 0, .int .i64 0, .int .i64 0, .bool false] : Blk _ (w.heap.size + 1) _ _).below hb1 (by simp)
    go_wp2_with fail
    refine (inputs_any ⟨w1.heap.size, 0, none⟩ A n c ls _ (by simp) (reads_alloc ((hr.below k1).more k1.size)) hm hs).mono ?_
    rw [hI]
    rintro e w2 ⟨rfl, hb2⟩
    have k2 : Below w.heap.size w w2 := next_below (k1.alloc k1.size _) hb2
    have y2 := hb2.size
    simp at y2
    have bJ2 := (bJ1.alloc (.cells #[.slice A n c] 24)).below hb2 (by have := bJ1.lt; simp; omega)
    have bR2 := (bR1.alloc (.cells #[.slice A n c] 24)).below hb2 (by have := bR1.lt; simp; omega)
    clear bJ1 bR1 hb1 hb2
    clear bJ2
    have rr0 : w2.cell? ⟨w.heap.size + 1, 0, none⟩ = some (.slice none 0 0) := bR2.cell 0
    have rr1 : w2.cell? ⟨w.heap.size + 1, 1, none⟩ = some (.int .i64 0) := bR2.cell 1
    have rr2 : w2.cell? ⟨w.heap.size + 1, 2, none⟩ = some (.int .i64 0) := bR2.cell 2
    have rr3 : w2.cell? ⟨w.heap.size + 1, 3, none⟩ = some (.int .i64 0) := bR2.cell 3
    have rr4 : w2.cell? ⟨w.heap.size + 1, 4, none⟩ = some (.bool false) := bR2.cell 4
    have fR := bR2.frozen
    go_wp2
    exact bodyPost_ret (v := .tuple #[.agg #[.slice none 0 0, .int .i64 0, .int .i64 0, .int .i64 0, .bool false], .int .i64 1]) (by simp [results, Try.results18, go_sem, rr0, rr1, rr2, rr3, rr4, World.cell?_setCell_other]) rfl ⟨by first | assumption | go_grown, .inr ⟨by decide, rfl⟩⟩

set_option maxHeartbeats 1000000 in
theorem new_ok (j : Jb) (ls : List Ev) (done : Int) (A : Option Addr) (n c : Nat) (w : World) (hj : j.Wf) (hr : Reads w w.heap.size 3 A n (evs ls)) (hm : n ≤ 9223372036854775807) (hc : n ≤ c) (hs : ∀ z ∈ ls, z.key.size ≤ maxLen) (hv : ∀ z ∈ ls, -9223372036854775808 ≤ z.v ∧ z.v ≤ 9223372036854775807) (hJ : jobB j = true) (hI : inB ls = true) (k : Nat) (hd : done = k) (hk : k ≤ n) (mk : Int) (HM : Hid (markM j (ls.take k) = mk)) :
    Calls Try.prog 18 #[.agg #[.int .i64 j.groups, .int .i64 j.size, .int .i64 j.slide, .int .i64 j.fold, .int .i64 j.fuel, .int .i64 j.limit, .int .i64 j.delay, .int .i64 j.idle], .slice A n c, .int .i64 done] w (NewPost A n c (⟨ls, k, mk, 0, false⟩, 0) w) := by
    subst hd
    have hkn : (k : Int) ≤ (n : Int) := by omega
    have hkc : k ≤ c := by omega
    go_enter Try.func18, Try.ntmps18
    go_wp2_with fail
    refine (job_any j _ hj).mono ?_
    rw [hJ]
    rintro e w1 ⟨rfl, hb1⟩
    obtain ⟨c1, f1⟩ := bcell hb1
    have y1 := hb1.size
    try simp at y1
    have z0_0_1 : w.heap.size < w1.heap.size := by omega
    have z0_1_1 : w.heap.size + 1 < w1.heap.size := by omega
    have k1 : Below w.heap.size w w1 := next_below (by go_grown) hb1
    clear c1 f1
    have bJ1 : Blk w1 w.heap.size 23 #[.int .i64 j.groups, .int .i64 j.size, .int .i64 j.slide, .int .i64 j.fold, .int .i64 j.fuel, .int .i64 j.limit, .int .i64 j.delay, .int .i64 j.idle] := ((Blk.new w 23 #[.int .i64 j.groups, .int .i64 j.size, .int .i64 j.slide, .int .i64 j.fold, .int .i64 j.fuel, .int .i64 j.limit, .int .i64 j.delay, .int .i64 j.idle]).alloc _).below hb1 (by simp; omega)
    have bR1 : Blk w1 (w.heap.size + 1) 26 #[.slice none 0 0, .int .i64 0, .int .i64 0, .int .i64 0, .bool false] := (by simpa using Blk.new (w.alloc (.cells #[.int .i64 j.groups, .int .i64 j.size, .int .i64 j.slide, .int .i64 j.fold, .int .i64 j.fuel, .int .i64 j.limit, .int .i64 j.delay, .int .i64 j.idle] 23)) 26 #[.slice none 0 0, .int .i64 0, .int .i64 0, .int .i64 0, .bool false] : Blk _ (w.heap.size + 1) _ _).below hb1 (by simp)
    go_wp2_with fail
    refine (inputs_any ⟨w1.heap.size, 0, none⟩ A n c ls _ (by simp) (reads_alloc ((hr.below k1).more k1.size)) hm hs).mono ?_
    rw [hI]
    rintro e w2 ⟨rfl, hb2⟩
    have k2 : Below w.heap.size w w2 := next_below (k1.alloc k1.size _) hb2
    have y2 := hb2.size
    simp at y2
    have bJ2 := (bJ1.alloc (.cells #[.slice A n c] 24)).below hb2 (by have := bJ1.lt; simp; omega)
    have bR2 := (bR1.alloc (.cells #[.slice A n c] 24)).below hb2 (by have := bR1.lt; simp; omega)
    clear bJ1 bR1 hb1 hb2
    have rr0 : w2.cell? ⟨w.heap.size + 1, 0, none⟩ = some (.slice none 0 0) := bR2.cell 0
    have rr1 : w2.cell? ⟨w.heap.size + 1, 1, none⟩ = some (.int .i64 0) := bR2.cell 1
    have rr2 : w2.cell? ⟨w.heap.size + 1, 2, none⟩ = some (.int .i64 0) := bR2.cell 2
    have rr3 : w2.cell? ⟨w.heap.size + 1, 3, none⟩ = some (.int .i64 0) := bR2.cell 3
    have rr4 : w2.cell? ⟨w.heap.size + 1, 4, none⟩ = some (.bool false) := bR2.cell 4
    have fR := bR2.frozen
    have lJ := bJ2.lt
    have lR := bR2.lt
    have hQ : ∀ x : World, Below w2.heap.size w2 x → x.cell? ⟨w.heap.size, 0, none⟩ = some (.int .i64 j.groups) ∧ x.cell? ⟨w.heap.size, 1, none⟩ = some (.int .i64 j.size) ∧ x.cell? ⟨w.heap.size, 2, none⟩ = some (.int .i64 j.slide) ∧ x.cell? ⟨w.heap.size, 3, none⟩ = some (.int .i64 j.fold) ∧ x.cell? ⟨w.heap.size, 4, none⟩ = some (.int .i64 j.fuel) ∧ x.cell? ⟨w.heap.size, 5, none⟩ = some (.int .i64 j.limit) ∧ x.cell? ⟨w.heap.size, 6, none⟩ = some (.int .i64 j.delay) ∧ x.cell? ⟨w.heap.size, 7, none⟩ = some (.int .i64 j.idle) := fun x hx => ⟨(bJ2.below hx lJ).cell 0, (bJ2.below hx lJ).cell 1, (bJ2.below hx lJ).cell 2, (bJ2.below hx lJ).cell 3, (bJ2.below hx lJ).cell 4, (bJ2.below hx lJ).cell 5, (bJ2.below hx lJ).cell 6, (bJ2.below hx lJ).cell 7⟩
    have kx0 : Below w2.heap.size w2 w2 := Below.refl _ _
    have hrk := reads_take3 ((hr.below k2).more k2.size) hk
    have hsk : ∀ z ∈ ls.take k, z.key.size ≤ maxLen := fun z hz => hs z (List.mem_of_mem_take hz)
    have hvk : ∀ z ∈ ls.take k, -9223372036854775808 ≤ z.v ∧ z.v ≤ 9223372036854775807 := fun z hz => hv z (List.mem_of_mem_take hz)
    go_wp2_with fail
    go_region_held3 (fun x => x.cell? ⟨w.heap.size, 0, none⟩ = some (.int .i64 j.groups) ∧ x.cell? ⟨w.heap.size, 1, none⟩ = some (.int .i64 j.size) ∧ x.cell? ⟨w.heap.size, 2, none⟩ = some (.int .i64 j.slide) ∧ x.cell? ⟨w.heap.size, 3, none⟩ = some (.int .i64 j.fold) ∧ x.cell? ⟨w.heap.size, 4, none⟩ = some (.int .i64 j.fuel) ∧ x.cell? ⟨w.heap.size, 5, none⟩ = some (.int .i64 j.limit) ∧ x.cell? ⟨w.heap.size, 6, none⟩ = some (.int .i64 j.delay) ∧ x.cell? ⟨w.heap.size, 7, none⟩ = some (.int .i64 j.idle))
      (first | exact hQ _ kx3 | exact hQ _ kx0 | exact hQ4 | go_keep)
      (first | (go_at_call 20; refine (modelMark_any j A k c (ls.take k) w2.drew hj hrk (by omega) hsk hvk).mono ?_; rw [HM.out]; rintro e w3 ⟨rfl, hb3⟩; have kx3 : Below w2.heap.size w2 w3 := ⟨hb3.os, hb3.tape, hb3.output, hb3.size, hb3.block⟩; have bR3 := bR2.below kx3 lR; have tt0 : w3.cell? ⟨w.heap.size + 1, 0, none⟩ = some (.slice none 0 0) := bR3.cell 0; have tt1 : w3.cell? ⟨w.heap.size + 1, 1, none⟩ = some (.int .i64 0) := bR3.cell 1; have tt2 : w3.cell? ⟨w.heap.size + 1, 2, none⟩ = some (.int .i64 0) := bR3.cell 2; have tt3 : w3.cell? ⟨w.heap.size + 1, 3, none⟩ = some (.int .i64 0) := bR3.cell 3; have tt4 : w3.cell? ⟨w.heap.size + 1, 4, none⟩ = some (.bool false) := bR3.cell 4; have fR3 := bR3.frozen; have nJR : w.heap.size ≠ w.heap.size + 1 := (by omega); have bJ4 := (((((bJ2.below kx3 lJ).far (p := ⟨w.heap.size + 1, 0, none⟩) nJR (.slice A n c)).far (p := ⟨w.heap.size + 1, 1, none⟩) nJR (.int .i64 (k : Int))).far (p := ⟨w.heap.size + 1, 2, none⟩) nJR (.int .i64 mk)).far (p := ⟨w.heap.size + 1, 3, none⟩) nJR (.int .i64 0)).far (p := ⟨w.heap.size + 1, 4, none⟩) nJR (.bool false); have hQ4 := (⟨bJ4.cell 0, bJ4.cell 1, bJ4.cell 2, bJ4.cell 3, bJ4.cell 4, bJ4.cell 5, bJ4.cell 6, bJ4.cell 7⟩ : _ ∧ _ ∧ _ ∧ _ ∧ _ ∧ _ ∧ _ ∧ _)))
    go_wp2
    have k3 := k2.trans (kx3.mono k2.size)
    have bZ := ((((bR3.set_ 0 (.slice A n c)).set_ 1 (.int .i64 (k : Int))).set_ 2 (.int .i64 mk)).set_ 3 (.int .i64 0)).set_ 4 (.bool false)
    have e0 : World.cell? _ ⟨w.heap.size + 1, 0, none⟩ = some (.slice A n c) := bZ.cell 0
    have e1 : World.cell? _ ⟨w.heap.size + 1, 1, none⟩ = some (.int .i64 (k : Int)) := bZ.cell 1
    have e2 : World.cell? _ ⟨w.heap.size + 1, 2, none⟩ = some (.int .i64 mk) := bZ.cell 2
    have e3 : World.cell? _ ⟨w.heap.size + 1, 3, none⟩ = some (.int .i64 0) := bZ.cell 3
    have e4 : World.cell? _ ⟨w.heap.size + 1, 4, none⟩ = some (.bool false) := bZ.cell 4
    refine bodyPost_ret (v := .tuple #[.agg #[(.slice A n c), (.int .i64 (k : Int)), (.int .i64 mk), (.int .i64 0), (.bool false)], .int .i64 0]) (by simp [results, Try.results18, go_sem, e0, e1, e2, e3, e4]) rfl ?_
    exact ⟨by go_grown, .inl ⟨rfl, rfl⟩⟩

theorem new_any (j : Jb) (ls : List Ev) (done : Int) (A : Option Addr) (n c : Nat) (w : World) (hj : j.Wf) (hr : Reads w w.heap.size 3 A n (evs ls)) (hm : n ≤ 9223372036854775807) (hc : n ≤ c) (hs : ∀ z ∈ ls, z.key.size ≤ maxLen) (hv : ∀ z ∈ ls, -9223372036854775808 ≤ z.v ∧ z.v ≤ 9223372036854775807) :
    Calls Try.prog 18 #[.agg #[.int .i64 j.groups, .int .i64 j.size, .int .i64 j.slide, .int .i64 j.fold, .int .i64 j.fuel, .int .i64 j.limit, .int .i64 j.delay, .int .i64 j.idle], .slice A n c, .int .i64 done] w (NewPost A n c (newZ j ls done) w) := by
  have hl := evs_len hr
  unfold newZ
  by_cases hJ : jobB j = false
  · rw [if_pos hJ]
    exact new_job j ls done A n c w hj hr hm hc hs hv hJ
  rw [if_neg hJ]
  have hJ' : jobB j = true := by simpa using hJ
  by_cases hI : inB ls = false
  · rw [if_pos (.inl hI)]
    exact new_in j ls done A n c w hj hr hm hc hs hv hJ' hI
  have hI' : inB ls = true := by simpa using hI
  by_cases h1 : done < 0
  · rw [if_pos (.inr (.inl h1))]
    exact new_low j ls done A n c w hj hr hm hc hs hv hJ' hI' h1
  by_cases h2 : (ls.length : Int) < done
  · rw [if_pos (.inr (.inr h2))]
    exact new_high j ls done A n c w hj hr hm hc hs hv hJ' hI' (by omega) (by omega)
  rw [if_neg (by rintro (h | h | h); exact hI h; exact h1 h; exact h2 h)]
  obtain ⟨k, hk⟩ := Int.eq_ofNat_of_zero_le (show 0 ≤ done by omega)
  have hM : markM j (ls.take k) = markL j (ls.take k) := if_pos ⟨hJ', inB_take k hI'⟩
  have h := new_ok j ls done A n c w hj hr hm hc hs hv hJ' hI' k hk (by omega) _ (Lib.hid hM)
  rw [hk, Int.toNat_natCast]
  rw [hk] at h
  exact h
end Go.Proofs.Ytmlejdcanlgpdaa
