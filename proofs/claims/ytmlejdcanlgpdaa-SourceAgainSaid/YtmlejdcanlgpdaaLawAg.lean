/- Walk of SourceAgain. -/
import Derived.Test.YtmlejdcanlgpdaaRun0
import Derived.Deep.CutRange
namespace Go.Proofs.Ytmlejdcanlgpdaa
open Go.RowKit
set_option linter.unusedVariables false
set_option linter.unusedSimpArgs false

theorem newZ_at {j : Jb} {L : List Ev} {k : Nat} (hJ : jobB j = true) (hI : inB L = true) (hk : k ≤ L.length) : newZ j L k = (⟨L, k, markL j (L.take k), 0, false⟩, 0) := by
  unfold newZ
  rw [if_neg (by rw [hJ]; simp), if_neg (by rw [hI]; simp; omega)]
  rfl

set_option maxRecDepth 100000 in
set_option maxHeartbeats 4000000 in
theorem walkAgain (j : Jb) (ls : List Ev) (nn : Int) (A : Option Addr) (n c : Nat) (w : World) (hj : j.Wf) (hr : Reads w w.heap.size 3 A n (evs ls)) (hm : n ≤ 9223372036854775807) (hcm : n ≤ c) (hs : ∀ z ∈ ls, z.key.size ≤ maxLen) (hv : ∀ z ∈ ls, -9223372036854775808 ≤ z.v ∧ z.v ≤ 9223372036854775807) (hnn : -9223372036854775808 ≤ nn ∧ nn ≤ 9223372036854775807) :
    Calls Try.prog 7 #[.agg #[.int .i64 j.groups, .int .i64 j.size, .int .i64 j.slide, .int .i64 j.fold, .int .i64 j.fuel, .int .i64 j.limit, .int .i64 j.delay, .int .i64 j.idle], .slice A n c, .int .i64 nn] w fun e w' => e = .returned (.bool true) ∧ Below w.heap.size w w' := by
  by_cases h1 : n ≤ 40
  · have hc1 : (n : Int) ≤ 40 := by omega
    have hm40 := h1
    go_enter Try.func7, Try.ntmps7
    go_upto_region 3 with fail
    have hs' : ∀ z ∈ ls, z.key.size ≤ maxLen := fun z hz => hs z (hz)
    have hv' : ∀ z ∈ ls, -9223372036854775808 ≤ z.v ∧ z.v ≤ 9223372036854775807 := fun z hz => hv z (hz)
    have hLl : (ls).length = n := by have := evs_len hr; first | omega | (rw [List.length_take]; omega)
    have HLl := Lib.hid hLl
    clear hLl
    have bJ0 : Blk (w.alloc (.cells #[.int .i64 j.groups, .int .i64 j.size, .int .i64 j.slide, .int .i64 j.fold, .int .i64 j.fuel, .int .i64 j.limit, .int .i64 j.delay, .int .i64 j.idle] 23)) w.heap.size 23 #[.int .i64 j.groups, .int .i64 j.size, .int .i64 j.slide, .int .i64 j.fold, .int .i64 j.fuel, .int .i64 j.limit, .int .i64 j.delay, .int .i64 j.idle] := Blk.new w _ _
    have kV0 : Below w.heap.size w (w.alloc (.cells #[.int .i64 j.groups, .int .i64 j.size, .int .i64 j.slide, .int .i64 j.fold, .int .i64 j.fuel, .int .i64 j.limit, .int .i64 j.delay, .int .i64 j.idle] 23)) := by go_grown
    have hrd0 := reads_alloc (o := .cells #[.int .i64 j.groups, .int .i64 j.size, .int .i64 j.slide, .int .i64 j.fold, .int .i64 j.fuel, .int .i64 j.limit, .int .i64 j.delay, .int .i64 j.idle] 23) hr
    generalize w.alloc (.cells #[.int .i64 j.groups, .int .i64 j.size, .int .i64 j.slide, .int .i64 j.fold, .int .i64 j.fuel, .int .i64 j.limit, .int .i64 j.delay, .int .i64 j.idle] 23) = V0 at *
    have lJ0 := bJ0.lt
    have j0 : V0.cell? ⟨w.heap.size, 0, none⟩ = some (.int .i64 j.groups) := bJ0.cell 0
    have j1 : V0.cell? ⟨w.heap.size, 1, none⟩ = some (.int .i64 j.size) := bJ0.cell 1
    have j2 : V0.cell? ⟨w.heap.size, 2, none⟩ = some (.int .i64 j.slide) := bJ0.cell 2
    have j3 : V0.cell? ⟨w.heap.size, 3, none⟩ = some (.int .i64 j.fold) := bJ0.cell 3
    have j4 : V0.cell? ⟨w.heap.size, 4, none⟩ = some (.int .i64 j.fuel) := bJ0.cell 4
    have j5 : V0.cell? ⟨w.heap.size, 5, none⟩ = some (.int .i64 j.limit) := bJ0.cell 5
    have j6 : V0.cell? ⟨w.heap.size, 6, none⟩ = some (.int .i64 j.delay) := bJ0.cell 6
    have j7 : V0.cell? ⟨w.heap.size, 7, none⟩ = some (.int .i64 j.idle) := bJ0.cell 7
    obtain ⟨rm, k, hm1, hm2, hm3, hm4, hkm⟩ := mod_at nn n
    have hw1 : IntKind.i64.wrap ((n : Int) + 1) = (n : Int) + 1 := IntWalk.i64_in _ (by omega)
    have hw2 : IntKind.i64.wrap (rm + (n : Int)) = rm + (n : Int) := IntWalk.i64_in _ (by omega)
    have hw3 : IntKind.i64.wrap (rm + (n : Int) + 1) = rm + (n : Int) + 1 := IntWalk.i64_in _ (by omega)
    obtain ⟨r, hR⟩ : ∃ r, newZ j (ls) 0 = r := ⟨_, rfl⟩
    by_cases h0 : r.2 = 0
    rotate_left
    · have hne : (r.2 != 0) = true := by simpa using h0
      have H0 := Lib.hid h0
      clear h0
      go_wp2_with fail
      refine (new_any j (ls) 0 A n c _ hj hrd0 hm hcm hs' hv').mono ?_
      rw [hR]
      rintro e w1 ⟨hb1, (⟨hz, _⟩ | ⟨_, rfl⟩)⟩
      · exact absurd hz H0.out
      have k1 : Below w.heap.size w w1 := kV0.trans (hb1.mono kV0.size)
      have y1 := k1.size
      clear hR
      go_wp2_with fail
      refine (alive_any _).mono ?_
      rintro e w2 ⟨rfl, hb2⟩
      have k2 : Below w.heap.size w w2 := next_below (k1.alloc k1.size _) hb2
      go_wp2
      go_ret
      exact ⟨rfl, k2⟩
    obtain ⟨hJ, hI, hZ⟩ := newZ_ok (hR ▸ h0)
    have hR2 := hR.symm.trans hZ
    subst hR2
    have HJ := Lib.hid hJ
    have HI := Lib.hid hI
    clear h0 hZ hJ hI
    go_wp2_with fail
    refine (new_any j (ls) 0 A n c _ hj hrd0 hm hcm hs' hv').mono ?_
    rw [hR]
    rintro e w1 ⟨hb1, (⟨_, rfl⟩ | ⟨hz, _⟩)⟩
    rotate_left
    · exact absurd rfl hz
    clear hR
    clear j0 j1 j2 j3 j4 j5 j6 j7
    go_upto_region 7 with fail
    have kk := kV0.trans (hb1.mono kV0.size)
    have bS1 : Blk (w1.alloc (.cells #[.slice A n c, .int .i64 0, .int .i64 (markL j []), .int .i64 0, .bool false] 26)) w1.heap.size 26 #[.slice A n c, .int .i64 0, .int .i64 (markL j []), .int .i64 0, .bool false] := Blk.new w1 _ _
    have bJ1 := (bJ0.below hb1 lJ0).alloc (.cells #[.slice A n c, .int .i64 0, .int .i64 (markL j []), .int .i64 0, .bool false] 26)
    have kV1 := kk.alloc kk.size (.cells #[.slice A n c, .int .i64 0, .int .i64 (markL j []), .int .i64 0, .bool false] 26)
    have lJs := Nat.lt_of_lt_of_le lJ0 hb1.size
    clear bJ0 kV0 hrd0 hb1 lJ0 kk
    generalize w1.alloc (.cells #[.slice A n c, .int .i64 0, .int .i64 (markL j []), .int .i64 0, .bool false] 26) = V1 at *
    generalize w1.heap.size = sb at *
    go_wp2_with fail
    go_loopw [48] (fun i wr => ∃ q : Nat, q ≤ k ∧ i = .int .i64 q ∧ Below w.heap.size w wr ∧ Blk wr w.heap.size 23 #[.int .i64 j.groups, .int .i64 j.size, .int .i64 j.slide, .int .i64 j.fold, .int .i64 j.fuel, .int .i64 j.limit, .int .i64 j.delay, .int .i64 j.idle] ∧ Blk wr sb 26 #[.slice A n c, .int .i64 q, .int .i64 (markL j (ls.take q)), .int .i64 0, .bool false]) (fun i _ => k - (intOf i).toNat)
    case atStart => exact ⟨0, Nat.zero_le _, rfl, kV1, bJ1, bS1⟩
    case round =>
      clear kV1 bJ1 bS1
      obtain ⟨q, hq, rfl, hB, bJ, bS⟩ := hrel
      have lJ := bJ.lt
      have lS := bS.lt
      have hrd := (hr.below hB).more hB.size
      by_cases hlt : q < k
      · have hqm : q < (ls).length := by have := HLl.out; omega
        obtain ⟨l, hN⟩ := next_at (j := j) HJ.out HI.out hqm
        have HN := Lib.hid hN
        clear hN hqm
        have hwq : IntKind.i64.wrap ((q : Int) + 1) = (q : Int) + 1 := IntWalk.i64_in _ (by omega)
        have j0 : wr.cell? ⟨w.heap.size, 0, none⟩ = some (.int .i64 j.groups) := bJ.cell 0
        have j1 : wr.cell? ⟨w.heap.size, 1, none⟩ = some (.int .i64 j.size) := bJ.cell 1
        have j2 : wr.cell? ⟨w.heap.size, 2, none⟩ = some (.int .i64 j.slide) := bJ.cell 2
        have j3 : wr.cell? ⟨w.heap.size, 3, none⟩ = some (.int .i64 j.fold) := bJ.cell 3
        have j4 : wr.cell? ⟨w.heap.size, 4, none⟩ = some (.int .i64 j.fuel) := bJ.cell 4
        have j5 : wr.cell? ⟨w.heap.size, 5, none⟩ = some (.int .i64 j.limit) := bJ.cell 5
        have j6 : wr.cell? ⟨w.heap.size, 6, none⟩ = some (.int .i64 j.delay) := bJ.cell 6
        have j7 : wr.cell? ⟨w.heap.size, 7, none⟩ = some (.int .i64 j.idle) := bJ.cell 7
        have s0 : wr.cell? ⟨sb, 0, none⟩ = some (.slice A n c) := bS.cell 0
        have s1 : wr.cell? ⟨sb, 1, none⟩ = some (.int .i64 q) := bS.cell 1
        have s2 : wr.cell? ⟨sb, 2, none⟩ = some (.int .i64 (markL j (ls.take q))) := bS.cell 2
        have s3 : wr.cell? ⟨sb, 3, none⟩ = some (.int .i64 0) := bS.cell 3
        have s4 : wr.cell? ⟨sb, 4, none⟩ = some (.bool false) := bS.cell 4
        go_wp2_with fail
        refine (nextP_any j ⟨ls, q, (markL j (ls.take q)), 0, false⟩ A n c _ hj ⟨hs', hv'⟩ hrd hm).mono ?_
        rw [HN.out]
        rintro e w2 ⟨hb2, (⟨_, v2, rfl, _⟩ | ⟨hz, _⟩)⟩
        rotate_left
        · exact absurd rfl hz
        have bJ2 := bJ.below hb2 lJ
        have bS2 := bS.below hb2 lS
        have k2 := hB.trans (hb2.mono hB.size)
        have y2 := hb2.size
        have fS := bS2.frozen
        have lS2 := bS2.lt
        clear j0 j1 j2 j3 j4 j5 j6 j7 s0 s1 s2 s3 s4
        have j0 : w2.cell? ⟨w.heap.size, 0, none⟩ = some (.int .i64 j.groups) := bJ2.cell 0
        have j1 : w2.cell? ⟨w.heap.size, 1, none⟩ = some (.int .i64 j.size) := bJ2.cell 1
        have j2 : w2.cell? ⟨w.heap.size, 2, none⟩ = some (.int .i64 j.slide) := bJ2.cell 2
        have j3 : w2.cell? ⟨w.heap.size, 3, none⟩ = some (.int .i64 j.fold) := bJ2.cell 3
        have j4 : w2.cell? ⟨w.heap.size, 4, none⟩ = some (.int .i64 j.fuel) := bJ2.cell 4
        have j5 : w2.cell? ⟨w.heap.size, 5, none⟩ = some (.int .i64 j.limit) := bJ2.cell 5
        have j6 : w2.cell? ⟨w.heap.size, 6, none⟩ = some (.int .i64 j.delay) := bJ2.cell 6
        have j7 : w2.cell? ⟨w.heap.size, 7, none⟩ = some (.int .i64 j.idle) := bJ2.cell 7
        have s0 : w2.cell? ⟨sb, 0, none⟩ = some (.slice A n c) := bS2.cell 0
        have s1 : w2.cell? ⟨sb, 1, none⟩ = some (.int .i64 q) := bS2.cell 1
        have s2 : w2.cell? ⟨sb, 2, none⟩ = some (.int .i64 (markL j (ls.take q))) := bS2.cell 2
        have s3 : w2.cell? ⟨sb, 3, none⟩ = some (.int .i64 0) := bS2.cell 3
        have s4 : w2.cell? ⟨sb, 4, none⟩ = some (.bool false) := bS2.cell 4
        go_wp2
        go_roundw
        case rel =>
          have nJS : w.heap.size ≠ sb := by omega
          have e1 := k2.size
          refine ⟨q + 1, by omega, by go_num, ?_, ?_, ?_⟩
          · exact (((((k2.setCell (p := ⟨sb, 0, none⟩) (by simp; omega) _).setCell (p := ⟨sb, 1, none⟩) (by simp; omega) _).setCell (p := ⟨sb, 2, none⟩) (by simp; omega) _).setCell (p := ⟨sb, 3, none⟩) (by simp; omega) _).setCell (p := ⟨sb, 4, none⟩) (by simp; omega) _).alloc (by simpa using e1) _
          · exact (((((bJ2.far (p := ⟨sb, 0, none⟩) nJS _).far (p := ⟨sb, 1, none⟩) nJS _).far (p := ⟨sb, 2, none⟩) nJS _).far (p := ⟨sb, 3, none⟩) nJS _).far (p := ⟨sb, 4, none⟩) nJS _).alloc _
          · exact (((((bS2.set_ 0 (.slice A n c)).set_ 1 (.int .i64 ((q : Int) + 1))).set_ 2 (.int .i64 (markL j (ls.take (q + 1))))).set_ 3 (.int .i64 0)).set_ 4 (.bool false)).alloc _
        case measure => simp [intOf]; omega
      · obtain rfl : q = k := by omega
        have hqm : (q : Int) ≤ (n : Int) := by omega
        have hZ2 := newZ_at (j := j) (L := ls) (k := q) HJ.out HI.out (by have := HLl.out; omega)
        have HZ2 := Lib.hid hZ2
        clear hZ2
        have j0 : wr.cell? ⟨w.heap.size, 0, none⟩ = some (.int .i64 j.groups) := bJ.cell 0
        have j1 : wr.cell? ⟨w.heap.size, 1, none⟩ = some (.int .i64 j.size) := bJ.cell 1
        have j2 : wr.cell? ⟨w.heap.size, 2, none⟩ = some (.int .i64 j.slide) := bJ.cell 2
        have j3 : wr.cell? ⟨w.heap.size, 3, none⟩ = some (.int .i64 j.fold) := bJ.cell 3
        have j4 : wr.cell? ⟨w.heap.size, 4, none⟩ = some (.int .i64 j.fuel) := bJ.cell 4
        have j5 : wr.cell? ⟨w.heap.size, 5, none⟩ = some (.int .i64 j.limit) := bJ.cell 5
        have j6 : wr.cell? ⟨w.heap.size, 6, none⟩ = some (.int .i64 j.delay) := bJ.cell 6
        have j7 : wr.cell? ⟨w.heap.size, 7, none⟩ = some (.int .i64 j.idle) := bJ.cell 7
        have s0 : wr.cell? ⟨sb, 0, none⟩ = some (.slice A n c) := bS.cell 0
        have s1 : wr.cell? ⟨sb, 1, none⟩ = some (.int .i64 q) := bS.cell 1
        have s2 : wr.cell? ⟨sb, 2, none⟩ = some (.int .i64 (markL j (ls.take q))) := bS.cell 2
        have s3 : wr.cell? ⟨sb, 3, none⟩ = some (.int .i64 0) := bS.cell 3
        have s4 : wr.cell? ⟨sb, 4, none⟩ = some (.bool false) := bS.cell 4
        go_wp2_with fail
        refine (run0_any j (ls) A n c q _ hj hs' hv' hrd hm40 hkm HJ HI).mono ?_
        rintro e w2 ⟨A2, c2, rfl, rd2, hb2⟩
        have bJ2 := bJ.below hb2 lJ
        have k2 := hB.trans (hb2.mono hB.size)
        have hrd2 := reads_below hrd hb2
        have hal := accI_len j (ls) q (n - q + 1)
        clear j0 j1 j2 j3 j4 j5 j6 j7 s0 s1 s2 s3 s4
        have j0 : w2.cell? ⟨w.heap.size, 0, none⟩ = some (.int .i64 j.groups) := bJ2.cell 0
        have j1 : w2.cell? ⟨w.heap.size, 1, none⟩ = some (.int .i64 j.size) := bJ2.cell 1
        have j2 : w2.cell? ⟨w.heap.size, 2, none⟩ = some (.int .i64 j.slide) := bJ2.cell 2
        have j3 : w2.cell? ⟨w.heap.size, 3, none⟩ = some (.int .i64 j.fold) := bJ2.cell 3
        have j4 : w2.cell? ⟨w.heap.size, 4, none⟩ = some (.int .i64 j.fuel) := bJ2.cell 4
        have j5 : w2.cell? ⟨w.heap.size, 5, none⟩ = some (.int .i64 j.limit) := bJ2.cell 5
        have j6 : w2.cell? ⟨w.heap.size, 6, none⟩ = some (.int .i64 j.delay) := bJ2.cell 6
        have j7 : w2.cell? ⟨w.heap.size, 7, none⟩ = some (.int .i64 j.idle) := bJ2.cell 7
        go_wp2_with fail
        refine (new_any j (ls) q A n c _ hj hrd2 hm hcm hs' hv').mono ?_
        rw [HZ2.out]
        rintro e w3 ⟨hb3, (⟨_, rfl⟩ | ⟨hz, _⟩)⟩
        rotate_left
        · exact absurd rfl hz
        clear j0 j1 j2 j3 j4 j5 j6 j7
        go_upto_region 16 with fail
        have bT3 : Blk (w3.alloc (.cells #[.slice A n c, .int .i64 q, .int .i64 (markL j (ls.take q)), .int .i64 0, .bool false] 26)) w3.heap.size 26 #[.slice A n c, .int .i64 q, .int .i64 (markL j (ls.take q)), .int .i64 0, .bool false] := Blk.new w3 _ _
        have bJ3 := (bJ2.below hb3 bJ2.lt).alloc (.cells #[.slice A n c, .int .i64 q, .int .i64 (markL j (ls.take q)), .int .i64 0, .bool false] 26)
        have k3' := k2.trans (hb3.mono k2.size)
        have k3 := k3'.alloc k3'.size (.cells #[.slice A n c, .int .i64 q, .int .i64 (markL j (ls.take q)), .int .i64 0, .bool false] 26)
        have hrd3 := reads_alloc (o := .cells #[.slice A n c, .int .i64 q, .int .i64 (markL j (ls.take q)), .int .i64 0, .bool false] 26) (reads_below hrd2 hb3)
        have rd3 := reads_alloc (o := .cells #[.slice A n c, .int .i64 q, .int .i64 (markL j (ls.take q)), .int .i64 0, .bool false] 26) (reads_below rd2 hb3)
        clear k3' hb3 bJ2 k2 hrd2 rd2 bJ bS lJ lS hrd hB hb2
        generalize w3.alloc (.cells #[.slice A n c, .int .i64 q, .int .i64 (markL j (ls.take q)), .int .i64 0, .bool false] 26) = V3 at *
        generalize w3.heap.size = nt at *
        have j0 : V3.cell? ⟨w.heap.size, 0, none⟩ = some (.int .i64 j.groups) := bJ3.cell 0
        have j1 : V3.cell? ⟨w.heap.size, 1, none⟩ = some (.int .i64 j.size) := bJ3.cell 1
        have j2 : V3.cell? ⟨w.heap.size, 2, none⟩ = some (.int .i64 j.slide) := bJ3.cell 2
        have j3 : V3.cell? ⟨w.heap.size, 3, none⟩ = some (.int .i64 j.fold) := bJ3.cell 3
        have j4 : V3.cell? ⟨w.heap.size, 4, none⟩ = some (.int .i64 j.fuel) := bJ3.cell 4
        have j5 : V3.cell? ⟨w.heap.size, 5, none⟩ = some (.int .i64 j.limit) := bJ3.cell 5
        have j6 : V3.cell? ⟨w.heap.size, 6, none⟩ = some (.int .i64 j.delay) := bJ3.cell 6
        have j7 : V3.cell? ⟨w.heap.size, 7, none⟩ = some (.int .i64 j.idle) := bJ3.cell 7
        have s0 : V3.cell? ⟨nt, 0, none⟩ = some (.slice A n c) := bT3.cell 0
        have s1 : V3.cell? ⟨nt, 1, none⟩ = some (.int .i64 q) := bT3.cell 1
        have s2 : V3.cell? ⟨nt, 2, none⟩ = some (.int .i64 (markL j (ls.take q))) := bT3.cell 2
        have s3 : V3.cell? ⟨nt, 3, none⟩ = some (.int .i64 0) := bT3.cell 3
        have s4 : V3.cell? ⟨nt, 4, none⟩ = some (.bool false) := bT3.cell 4
        go_wp2_with fail
        refine (run0_any j (ls) A n c q _ hj hs' hv' hrd3 hm40 hkm HJ HI).mono ?_
        rintro e w4 ⟨A4, c4, rfl, rd4, hb4⟩
        have k4 := k3.trans (hb4.mono k3.size)
        have rd3' := reads_below rd3 hb4
        clear j0 j1 j2 j3 j4 j5 j6 j7 s0 s1 s2 s3 s4
        go_wp2_with fail
        refine (alive_any _).mono ?_
        rintro e w5 ⟨rfl, hb5⟩
        have k5 := k4.trans (hb5.mono k4.size)
        go_wp2_with fail
        refine (likeItms_same (accI j (ls) q (n - q + 1)) A2 A4 (accI j (ls) q (n - q + 1)).length c2 c4 _ (reads_below rd3' hb5) (reads_below rd4 hb5) (by omega)).mono ?_
        rintro e w6 ⟨rfl, hb6⟩
        have k6 := k5.trans (hb6.mono k5.size)
        go_wp2
        go_ret
        exact ⟨by simp, k6⟩

  · have hc1 : (40 : Int) < n := by omega
    have hrt := reads_take3 hr (show 40 ≤ n by omega)
    have hcc : 40 ≤ c := by omega
    have hn40 : 40 ≤ n := by omega
    obtain ⟨L, hL⟩ : ∃ L, ls.take 40 = L := ⟨_, rfl⟩
    rw [hL] at hrt
    have hmem : ∀ z ∈ L, z ∈ ls := fun z hz => List.mem_of_mem_take (by rw [hL]; exact hz)
    have hll : L.length = 40 := evs_len hrt
    clear hL
    have hm : 40 ≤ 9223372036854775807 := by omega
    have hm40 : 40 ≤ 40 := Nat.le_refl _
    have hcm : 40 ≤ c := by omega
    clear h1
    go_enter Try.func7, Try.ntmps7
    go_upto_region 3 with fail
    have hs' : ∀ z ∈ L, z.key.size ≤ maxLen := fun z hz => hs z (hmem z hz)
    have hv' : ∀ z ∈ L, -9223372036854775808 ≤ z.v ∧ z.v ≤ 9223372036854775807 := fun z hz => hv z (hmem z hz)
    have hLl : (L).length = 40 := by have := evs_len hr; first | omega | (rw [List.length_take]; omega)
    have HLl := Lib.hid hLl
    clear hLl
    have bJ0 : Blk (w.alloc (.cells #[.int .i64 j.groups, .int .i64 j.size, .int .i64 j.slide, .int .i64 j.fold, .int .i64 j.fuel, .int .i64 j.limit, .int .i64 j.delay, .int .i64 j.idle] 23)) w.heap.size 23 #[.int .i64 j.groups, .int .i64 j.size, .int .i64 j.slide, .int .i64 j.fold, .int .i64 j.fuel, .int .i64 j.limit, .int .i64 j.delay, .int .i64 j.idle] := Blk.new w _ _
    have kV0 : Below w.heap.size w (w.alloc (.cells #[.int .i64 j.groups, .int .i64 j.size, .int .i64 j.slide, .int .i64 j.fold, .int .i64 j.fuel, .int .i64 j.limit, .int .i64 j.delay, .int .i64 j.idle] 23)) := by go_grown
    have hrd0 := reads_alloc (o := .cells #[.int .i64 j.groups, .int .i64 j.size, .int .i64 j.slide, .int .i64 j.fold, .int .i64 j.fuel, .int .i64 j.limit, .int .i64 j.delay, .int .i64 j.idle] 23) hrt
    generalize w.alloc (.cells #[.int .i64 j.groups, .int .i64 j.size, .int .i64 j.slide, .int .i64 j.fold, .int .i64 j.fuel, .int .i64 j.limit, .int .i64 j.delay, .int .i64 j.idle] 23) = V0 at *
    have lJ0 := bJ0.lt
    have j0 : V0.cell? ⟨w.heap.size, 0, none⟩ = some (.int .i64 j.groups) := bJ0.cell 0
    have j1 : V0.cell? ⟨w.heap.size, 1, none⟩ = some (.int .i64 j.size) := bJ0.cell 1
    have j2 : V0.cell? ⟨w.heap.size, 2, none⟩ = some (.int .i64 j.slide) := bJ0.cell 2
    have j3 : V0.cell? ⟨w.heap.size, 3, none⟩ = some (.int .i64 j.fold) := bJ0.cell 3
    have j4 : V0.cell? ⟨w.heap.size, 4, none⟩ = some (.int .i64 j.fuel) := bJ0.cell 4
    have j5 : V0.cell? ⟨w.heap.size, 5, none⟩ = some (.int .i64 j.limit) := bJ0.cell 5
    have j6 : V0.cell? ⟨w.heap.size, 6, none⟩ = some (.int .i64 j.delay) := bJ0.cell 6
    have j7 : V0.cell? ⟨w.heap.size, 7, none⟩ = some (.int .i64 j.idle) := bJ0.cell 7
    obtain ⟨rm, k, hm1, hm2, hm3, hm4, hkm⟩ := mod_at nn 40
    have hw1 : IntKind.i64.wrap ((40 : Int) + 1) = (40 : Int) + 1 := IntWalk.i64_in _ (by omega)
    have hw2 : IntKind.i64.wrap (rm + (40 : Int)) = rm + (40 : Int) := IntWalk.i64_in _ (by omega)
    have hw3 : IntKind.i64.wrap (rm + (40 : Int) + 1) = rm + (40 : Int) + 1 := IntWalk.i64_in _ (by omega)
    have hm1a : nn.tmod 41 = rm := hm1
    have hm4a : (rm + 40 + 1).tmod 41 = (k : Int) := hm4
    have hm4b : (rm + 41).tmod 41 = (k : Int) := by rw [show rm + 41 = rm + 40 + 1 by omega]; exact hm4
    have hw2a : IntKind.i64.wrap (rm + 40) = rm + 40 := IntWalk.i64_in _ (by omega)
    have hw3a : IntKind.i64.wrap (rm + 40 + 1) = rm + 40 + 1 := IntWalk.i64_in _ (by omega)
    have hw3b : IntKind.i64.wrap (rm + 41) = rm + 41 := IntWalk.i64_in _ (by omega)
    obtain ⟨r, hR⟩ : ∃ r, newZ j (L) 0 = r := ⟨_, rfl⟩
    by_cases h0 : r.2 = 0
    rotate_left
    · have hne : (r.2 != 0) = true := by simpa using h0
      have H0 := Lib.hid h0
      clear h0
      go_wp2_with fail
      refine (new_any j (L) 0 A 40 c _ hj hrd0 hm hcm hs' hv').mono ?_
      rw [hR]
      rintro e w1 ⟨hb1, (⟨hz, _⟩ | ⟨_, rfl⟩)⟩
      · exact absurd hz H0.out
      have k1 : Below w.heap.size w w1 := kV0.trans (hb1.mono kV0.size)
      have y1 := k1.size
      clear hR
      go_wp2_with fail
      refine (alive_any _).mono ?_
      rintro e w2 ⟨rfl, hb2⟩
      have k2 : Below w.heap.size w w2 := next_below (k1.alloc k1.size _) hb2
      go_wp2
      go_ret
      exact ⟨rfl, k2⟩
    obtain ⟨hJ, hI, hZ⟩ := newZ_ok (hR ▸ h0)
    have hR2 := hR.symm.trans hZ
    subst hR2
    have HJ := Lib.hid hJ
    have HI := Lib.hid hI
    clear h0 hZ hJ hI
    go_wp2_with fail
    refine (new_any j (L) 0 A 40 c _ hj hrd0 hm hcm hs' hv').mono ?_
    rw [hR]
    rintro e w1 ⟨hb1, (⟨_, rfl⟩ | ⟨hz, _⟩)⟩
    rotate_left
    · exact absurd rfl hz
    clear hR
    clear j0 j1 j2 j3 j4 j5 j6 j7
    go_upto_region 7 with fail
    have kk := kV0.trans (hb1.mono kV0.size)
    have bS1 : Blk (w1.alloc (.cells #[.slice A 40 c, .int .i64 0, .int .i64 (markL j []), .int .i64 0, .bool false] 26)) w1.heap.size 26 #[.slice A 40 c, .int .i64 0, .int .i64 (markL j []), .int .i64 0, .bool false] := Blk.new w1 _ _
    have bJ1 := (bJ0.below hb1 lJ0).alloc (.cells #[.slice A 40 c, .int .i64 0, .int .i64 (markL j []), .int .i64 0, .bool false] 26)
    have kV1 := kk.alloc kk.size (.cells #[.slice A 40 c, .int .i64 0, .int .i64 (markL j []), .int .i64 0, .bool false] 26)
    have lJs := Nat.lt_of_lt_of_le lJ0 hb1.size
    clear bJ0 kV0 hrd0 hb1 lJ0 kk
    generalize w1.alloc (.cells #[.slice A 40 c, .int .i64 0, .int .i64 (markL j []), .int .i64 0, .bool false] 26) = V1 at *
    generalize w1.heap.size = sb at *
    go_wp2_with fail
    go_loopw [48] (fun i wr => ∃ q : Nat, q ≤ k ∧ i = .int .i64 q ∧ Below w.heap.size w wr ∧ Blk wr w.heap.size 23 #[.int .i64 j.groups, .int .i64 j.size, .int .i64 j.slide, .int .i64 j.fold, .int .i64 j.fuel, .int .i64 j.limit, .int .i64 j.delay, .int .i64 j.idle] ∧ Blk wr sb 26 #[.slice A 40 c, .int .i64 q, .int .i64 (markL j (L.take q)), .int .i64 0, .bool false]) (fun i _ => k - (intOf i).toNat)
    case atStart => exact ⟨0, Nat.zero_le _, rfl, kV1, bJ1, bS1⟩
    case round =>
      clear kV1 bJ1 bS1
      obtain ⟨q, hq, rfl, hB, bJ, bS⟩ := hrel
      have lJ := bJ.lt
      have lS := bS.lt
      have hrd := (hrt.below hB).more hB.size
      by_cases hlt : q < k
      · have hqm : q < (L).length := by have := HLl.out; omega
        obtain ⟨l, hN⟩ := next_at (j := j) HJ.out HI.out hqm
        have HN := Lib.hid hN
        clear hN hqm
        have hwq : IntKind.i64.wrap ((q : Int) + 1) = (q : Int) + 1 := IntWalk.i64_in _ (by omega)
        have j0 : wr.cell? ⟨w.heap.size, 0, none⟩ = some (.int .i64 j.groups) := bJ.cell 0
        have j1 : wr.cell? ⟨w.heap.size, 1, none⟩ = some (.int .i64 j.size) := bJ.cell 1
        have j2 : wr.cell? ⟨w.heap.size, 2, none⟩ = some (.int .i64 j.slide) := bJ.cell 2
        have j3 : wr.cell? ⟨w.heap.size, 3, none⟩ = some (.int .i64 j.fold) := bJ.cell 3
        have j4 : wr.cell? ⟨w.heap.size, 4, none⟩ = some (.int .i64 j.fuel) := bJ.cell 4
        have j5 : wr.cell? ⟨w.heap.size, 5, none⟩ = some (.int .i64 j.limit) := bJ.cell 5
        have j6 : wr.cell? ⟨w.heap.size, 6, none⟩ = some (.int .i64 j.delay) := bJ.cell 6
        have j7 : wr.cell? ⟨w.heap.size, 7, none⟩ = some (.int .i64 j.idle) := bJ.cell 7
        have s0 : wr.cell? ⟨sb, 0, none⟩ = some (.slice A 40 c) := bS.cell 0
        have s1 : wr.cell? ⟨sb, 1, none⟩ = some (.int .i64 q) := bS.cell 1
        have s2 : wr.cell? ⟨sb, 2, none⟩ = some (.int .i64 (markL j (L.take q))) := bS.cell 2
        have s3 : wr.cell? ⟨sb, 3, none⟩ = some (.int .i64 0) := bS.cell 3
        have s4 : wr.cell? ⟨sb, 4, none⟩ = some (.bool false) := bS.cell 4
        go_wp2_with fail
        refine (nextP_any j ⟨L, q, (markL j (L.take q)), 0, false⟩ A 40 c _ hj ⟨hs', hv'⟩ hrd hm).mono ?_
        rw [HN.out]
        rintro e w2 ⟨hb2, (⟨_, v2, rfl, _⟩ | ⟨hz, _⟩)⟩
        rotate_left
        · exact absurd rfl hz
        have bJ2 := bJ.below hb2 lJ
        have bS2 := bS.below hb2 lS
        have k2 := hB.trans (hb2.mono hB.size)
        have y2 := hb2.size
        have fS := bS2.frozen
        have lS2 := bS2.lt
        clear j0 j1 j2 j3 j4 j5 j6 j7 s0 s1 s2 s3 s4
        have j0 : w2.cell? ⟨w.heap.size, 0, none⟩ = some (.int .i64 j.groups) := bJ2.cell 0
        have j1 : w2.cell? ⟨w.heap.size, 1, none⟩ = some (.int .i64 j.size) := bJ2.cell 1
        have j2 : w2.cell? ⟨w.heap.size, 2, none⟩ = some (.int .i64 j.slide) := bJ2.cell 2
        have j3 : w2.cell? ⟨w.heap.size, 3, none⟩ = some (.int .i64 j.fold) := bJ2.cell 3
        have j4 : w2.cell? ⟨w.heap.size, 4, none⟩ = some (.int .i64 j.fuel) := bJ2.cell 4
        have j5 : w2.cell? ⟨w.heap.size, 5, none⟩ = some (.int .i64 j.limit) := bJ2.cell 5
        have j6 : w2.cell? ⟨w.heap.size, 6, none⟩ = some (.int .i64 j.delay) := bJ2.cell 6
        have j7 : w2.cell? ⟨w.heap.size, 7, none⟩ = some (.int .i64 j.idle) := bJ2.cell 7
        have s0 : w2.cell? ⟨sb, 0, none⟩ = some (.slice A 40 c) := bS2.cell 0
        have s1 : w2.cell? ⟨sb, 1, none⟩ = some (.int .i64 q) := bS2.cell 1
        have s2 : w2.cell? ⟨sb, 2, none⟩ = some (.int .i64 (markL j (L.take q))) := bS2.cell 2
        have s3 : w2.cell? ⟨sb, 3, none⟩ = some (.int .i64 0) := bS2.cell 3
        have s4 : w2.cell? ⟨sb, 4, none⟩ = some (.bool false) := bS2.cell 4
        go_wp2
        go_roundw
        case rel =>
          have nJS : w.heap.size ≠ sb := by omega
          have e1 := k2.size
          refine ⟨q + 1, by omega, by go_num, ?_, ?_, ?_⟩
          · exact (((((k2.setCell (p := ⟨sb, 0, none⟩) (by simp; omega) _).setCell (p := ⟨sb, 1, none⟩) (by simp; omega) _).setCell (p := ⟨sb, 2, none⟩) (by simp; omega) _).setCell (p := ⟨sb, 3, none⟩) (by simp; omega) _).setCell (p := ⟨sb, 4, none⟩) (by simp; omega) _).alloc (by simpa using e1) _
          · exact (((((bJ2.far (p := ⟨sb, 0, none⟩) nJS _).far (p := ⟨sb, 1, none⟩) nJS _).far (p := ⟨sb, 2, none⟩) nJS _).far (p := ⟨sb, 3, none⟩) nJS _).far (p := ⟨sb, 4, none⟩) nJS _).alloc _
          · exact (((((bS2.set_ 0 (.slice A 40 c)).set_ 1 (.int .i64 ((q : Int) + 1))).set_ 2 (.int .i64 (markL j (L.take (q + 1))))).set_ 3 (.int .i64 0)).set_ 4 (.bool false)).alloc _
        case measure => simp [intOf]; omega
      · obtain rfl : q = k := by omega
        have hqm : (q : Int) ≤ (40 : Int) := by omega
        have hZ2 := newZ_at (j := j) (L := L) (k := q) HJ.out HI.out (by have := HLl.out; omega)
        have HZ2 := Lib.hid hZ2
        clear hZ2
        have j0 : wr.cell? ⟨w.heap.size, 0, none⟩ = some (.int .i64 j.groups) := bJ.cell 0
        have j1 : wr.cell? ⟨w.heap.size, 1, none⟩ = some (.int .i64 j.size) := bJ.cell 1
        have j2 : wr.cell? ⟨w.heap.size, 2, none⟩ = some (.int .i64 j.slide) := bJ.cell 2
        have j3 : wr.cell? ⟨w.heap.size, 3, none⟩ = some (.int .i64 j.fold) := bJ.cell 3
        have j4 : wr.cell? ⟨w.heap.size, 4, none⟩ = some (.int .i64 j.fuel) := bJ.cell 4
        have j5 : wr.cell? ⟨w.heap.size, 5, none⟩ = some (.int .i64 j.limit) := bJ.cell 5
        have j6 : wr.cell? ⟨w.heap.size, 6, none⟩ = some (.int .i64 j.delay) := bJ.cell 6
        have j7 : wr.cell? ⟨w.heap.size, 7, none⟩ = some (.int .i64 j.idle) := bJ.cell 7
        have s0 : wr.cell? ⟨sb, 0, none⟩ = some (.slice A 40 c) := bS.cell 0
        have s1 : wr.cell? ⟨sb, 1, none⟩ = some (.int .i64 q) := bS.cell 1
        have s2 : wr.cell? ⟨sb, 2, none⟩ = some (.int .i64 (markL j (L.take q))) := bS.cell 2
        have s3 : wr.cell? ⟨sb, 3, none⟩ = some (.int .i64 0) := bS.cell 3
        have s4 : wr.cell? ⟨sb, 4, none⟩ = some (.bool false) := bS.cell 4
        go_wp2_with fail
        refine (run0_any j (L) A 40 c q _ hj hs' hv' hrd hm40 hkm HJ HI).mono ?_
        rintro e w2 ⟨A2, c2, rfl, rd2, hb2⟩
        have bJ2 := bJ.below hb2 lJ
        have k2 := hB.trans (hb2.mono hB.size)
        have hrd2 := reads_below hrd hb2
        have hal := accI_len j (L) q (40 - q + 1)
        clear j0 j1 j2 j3 j4 j5 j6 j7 s0 s1 s2 s3 s4
        have j0 : w2.cell? ⟨w.heap.size, 0, none⟩ = some (.int .i64 j.groups) := bJ2.cell 0
        have j1 : w2.cell? ⟨w.heap.size, 1, none⟩ = some (.int .i64 j.size) := bJ2.cell 1
        have j2 : w2.cell? ⟨w.heap.size, 2, none⟩ = some (.int .i64 j.slide) := bJ2.cell 2
        have j3 : w2.cell? ⟨w.heap.size, 3, none⟩ = some (.int .i64 j.fold) := bJ2.cell 3
        have j4 : w2.cell? ⟨w.heap.size, 4, none⟩ = some (.int .i64 j.fuel) := bJ2.cell 4
        have j5 : w2.cell? ⟨w.heap.size, 5, none⟩ = some (.int .i64 j.limit) := bJ2.cell 5
        have j6 : w2.cell? ⟨w.heap.size, 6, none⟩ = some (.int .i64 j.delay) := bJ2.cell 6
        have j7 : w2.cell? ⟨w.heap.size, 7, none⟩ = some (.int .i64 j.idle) := bJ2.cell 7
        go_wp2_with fail
        refine (new_any j (L) q A 40 c _ hj hrd2 hm hcm hs' hv').mono ?_
        rw [HZ2.out]
        rintro e w3 ⟨hb3, (⟨_, rfl⟩ | ⟨hz, _⟩)⟩
        rotate_left
        · exact absurd rfl hz
        clear j0 j1 j2 j3 j4 j5 j6 j7
        go_upto_region 16 with fail
        have bT3 : Blk (w3.alloc (.cells #[.slice A 40 c, .int .i64 q, .int .i64 (markL j (L.take q)), .int .i64 0, .bool false] 26)) w3.heap.size 26 #[.slice A 40 c, .int .i64 q, .int .i64 (markL j (L.take q)), .int .i64 0, .bool false] := Blk.new w3 _ _
        have bJ3 := (bJ2.below hb3 bJ2.lt).alloc (.cells #[.slice A 40 c, .int .i64 q, .int .i64 (markL j (L.take q)), .int .i64 0, .bool false] 26)
        have k3' := k2.trans (hb3.mono k2.size)
        have k3 := k3'.alloc k3'.size (.cells #[.slice A 40 c, .int .i64 q, .int .i64 (markL j (L.take q)), .int .i64 0, .bool false] 26)
        have hrd3 := reads_alloc (o := .cells #[.slice A 40 c, .int .i64 q, .int .i64 (markL j (L.take q)), .int .i64 0, .bool false] 26) (reads_below hrd2 hb3)
        have rd3 := reads_alloc (o := .cells #[.slice A 40 c, .int .i64 q, .int .i64 (markL j (L.take q)), .int .i64 0, .bool false] 26) (reads_below rd2 hb3)
        clear k3' hb3 bJ2 k2 hrd2 rd2 bJ bS lJ lS hrd hB hb2
        generalize w3.alloc (.cells #[.slice A 40 c, .int .i64 q, .int .i64 (markL j (L.take q)), .int .i64 0, .bool false] 26) = V3 at *
        generalize w3.heap.size = nt at *
        have j0 : V3.cell? ⟨w.heap.size, 0, none⟩ = some (.int .i64 j.groups) := bJ3.cell 0
        have j1 : V3.cell? ⟨w.heap.size, 1, none⟩ = some (.int .i64 j.size) := bJ3.cell 1
        have j2 : V3.cell? ⟨w.heap.size, 2, none⟩ = some (.int .i64 j.slide) := bJ3.cell 2
        have j3 : V3.cell? ⟨w.heap.size, 3, none⟩ = some (.int .i64 j.fold) := bJ3.cell 3
        have j4 : V3.cell? ⟨w.heap.size, 4, none⟩ = some (.int .i64 j.fuel) := bJ3.cell 4
        have j5 : V3.cell? ⟨w.heap.size, 5, none⟩ = some (.int .i64 j.limit) := bJ3.cell 5
        have j6 : V3.cell? ⟨w.heap.size, 6, none⟩ = some (.int .i64 j.delay) := bJ3.cell 6
        have j7 : V3.cell? ⟨w.heap.size, 7, none⟩ = some (.int .i64 j.idle) := bJ3.cell 7
        have s0 : V3.cell? ⟨nt, 0, none⟩ = some (.slice A 40 c) := bT3.cell 0
        have s1 : V3.cell? ⟨nt, 1, none⟩ = some (.int .i64 q) := bT3.cell 1
        have s2 : V3.cell? ⟨nt, 2, none⟩ = some (.int .i64 (markL j (L.take q))) := bT3.cell 2
        have s3 : V3.cell? ⟨nt, 3, none⟩ = some (.int .i64 0) := bT3.cell 3
        have s4 : V3.cell? ⟨nt, 4, none⟩ = some (.bool false) := bT3.cell 4
        go_wp2_with fail
        refine (run0_any j (L) A 40 c q _ hj hs' hv' hrd3 hm40 hkm HJ HI).mono ?_
        rintro e w4 ⟨A4, c4, rfl, rd4, hb4⟩
        have k4 := k3.trans (hb4.mono k3.size)
        have rd3' := reads_below rd3 hb4
        clear j0 j1 j2 j3 j4 j5 j6 j7 s0 s1 s2 s3 s4
        go_wp2_with fail
        refine (alive_any _).mono ?_
        rintro e w5 ⟨rfl, hb5⟩
        have k5 := k4.trans (hb5.mono k4.size)
        go_wp2_with fail
        refine (likeItms_same (accI j (L) q (40 - q + 1)) A2 A4 (accI j (L) q (40 - q + 1)).length c2 c4 _ (reads_below rd3' hb5) (reads_below rd4 hb5) (by omega)).mono ?_
        rintro e w6 ⟨rfl, hb6⟩
        have k6 := k5.trans (hb6.mono k5.size)
        go_wp2
        go_ret
        exact ⟨by simp, k6⟩


end Go.Proofs.Ytmlejdcanlgpdaa
