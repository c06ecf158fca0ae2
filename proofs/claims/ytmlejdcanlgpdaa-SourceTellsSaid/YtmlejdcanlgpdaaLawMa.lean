/- Walk of SourceMarks. -/
import Derived.Test.YtmlejdcanlgpdaaSrc10
import Derived.Deep.CutRange
namespace Go.Proofs.Ytmlejdcanlgpdaa
open Go.RowKit
set_option linter.unusedVariables false
set_option linter.unusedSimpArgs false

theorem undrew1 {W x : World} (h : Below W.drew.heap.size W.drew x) : Below W.heap.size W x := ⟨h.os, h.tape, h.output, h.size, h.block⟩
theorem newZ_ok {j : Jb} {ls : List Ev} (h : (newZ j ls 0).2 = 0) : jobB j = true ∧ inB ls = true ∧ newZ j ls 0 = (⟨ls, 0, markL j [], 0, false⟩, 0) := by
  unfold newZ at h ⊢
  by_cases hJ : jobB j = false
  · rw [if_pos hJ] at h; simp at h
  · rw [if_neg hJ] at h ⊢
    by_cases hB : inB ls = false ∨ (0 : Int) < 0 ∨ (ls.length : Int) < 0
    · rw [if_pos hB] at h; simp at h
    · rw [if_neg hB]
      refine ⟨by simpa using hJ, ?_, rfl⟩
      cases hI : inB ls
      · exact absurd (.inl hI) hB
      · rfl
/-- A source behind so many events. -/
theorem src_at {j : Jb} {ls : List Ev} {k : Nat} (hI : inB ls = true) (hk : k ≤ ls.length) : srcB ⟨ls, k, markL j (ls.take k), 0, false⟩ = true :=
  srcB_iff.2 ⟨hI, ⟨by simp, by simp; omega⟩, markL_bd j _, ⟨by simp, by simp⟩, by simp⟩
theorem next_at {j : Jb} {ls : List Ev} {k : Nat} (hJ : jobB j = true) (hI : inB ls = true) (hk : k < ls.length) :
    ∃ l, nextR j ⟨ls, k, markL j (ls.take k), 0, false⟩ = (⟨ls, (k : Int) + 1, markL j (ls.take (k + 1)), 0, false⟩, l, 0) := by
  refine ⟨toldE j (markL j (ls.take k)) ls[k] ++ toldM j (markL j (ls.take k)) ls[k], ?_⟩
  unfold nextR
  rw [if_neg (by rw [hJ]; simp), if_neg (by rw [src_at hI (by omega)]; simp), if_neg (by simp)]
  unfold nextZ
  rw [if_neg (by simp)]
  simp only [Int.toNat_natCast]
  rw [List.getElem?_eq_getElem hk, markL_take hk]
/-- What 'n' is brought to. -/
theorem mod_at (n : Int) (m : Nat) : ∃ (r : Int) (k : Nat), n.tmod ((m : Int) + 1) = r ∧ -((m : Int) + 1) < r ∧ r < (m : Int) + 1 ∧ (r + m + 1).tmod ((m : Int) + 1) = (k : Int) ∧ k ≤ m := by
  have h1 : (0 : Int) < (m : Int) + 1 := by omega
  have t0 := Int.tmod_lt_of_pos n h1
  have t1 := Int.lt_tmod_of_pos n h1
  refine ⟨n.tmod ((m : Int) + 1), ((n.tmod ((m : Int) + 1) + m + 1).tmod ((m : Int) + 1)).toNat, rfl, by omega, t0, ?_, ?_⟩
  · have : 0 ≤ (n.tmod ((m : Int) + 1) + m + 1).tmod ((m : Int) + 1) := Int.tmod_nonneg _ (by omega)
    omega
  · have := Int.tmod_lt_of_pos (n.tmod ((m : Int) + 1) + m + 1) h1
    omega

set_option maxRecDepth 100000 in
set_option maxHeartbeats 4000000 in
theorem walkMarks (j : Jb) (ls : List Ev) (nn : Int) (A : Option Addr) (n c : Nat) (w : World) (hj : j.Wf) (hr : Reads w w.heap.size 3 A n (evs ls)) (hm : n ≤ 9223372036854775807) (hcm : n ≤ c) (hs : ∀ z ∈ ls, z.key.size ≤ maxLen) (hv : ∀ z ∈ ls, -9223372036854775808 ≤ z.v ∧ z.v ≤ 9223372036854775807) (hnn : -9223372036854775808 ≤ nn ∧ nn ≤ 9223372036854775807) :
    Calls Try.prog 6 #[.agg #[.int .i64 j.groups, .int .i64 j.size, .int .i64 j.slide, .int .i64 j.fold, .int .i64 j.fuel, .int .i64 j.limit, .int .i64 j.delay, .int .i64 j.idle], .slice A n c, .int .i64 nn] w fun e w' => e = .returned (.bool true) ∧ Below w.heap.size w w' := by
  by_cases h1 : n ≤ 40
  · have hc1 : (n : Int) ≤ 40 := by omega
    go_enter Try.func6, Try.ntmps6
    go_upto_region 3 with fail
    have hs' : ∀ z ∈ ls, z.key.size ≤ maxLen := fun z hz => hs z (hz)
    have hv' : ∀ z ∈ ls, -9223372036854775808 ≤ z.v ∧ z.v ≤ 9223372036854775807 := fun z hz => hv z (hz)
    have hLl : (ls).length = n := by have := evs_len hr; first | omega | (rw [List.length_take]; omega)
    have HLl := Lib.hid hLl
    clear hLl
    have bJ0 : Blk (w.alloc (.cells #[.int .i64 j.groups, .int .i64 j.size, .int .i64 j.slide, .int .i64 j.fold, .int .i64 j.fuel, .int .i64 j.limit, .int .i64 j.delay, .int .i64 j.idle] 23)) w.heap.size 23 #[.int .i64 j.groups, .int .i64 j.size, .int .i64 j.slide, .int .i64 j.fold, .int .i64 j.fuel, .int .i64 j.limit, .int .i64 j.delay, .int .i64 j.idle] := Blk.new w _ _
    have kV0 : Below w.heap.size w (w.alloc (.cells #[.int .i64 j.groups, .int .i64 j.size, .int .i64 j.slide, .int .i64 j.fold, .int .i64 j.fuel, .int .i64 j.limit, .int .i64 j.delay, .int .i64 j.idle] 23)) := by go_grown
    have hrd0 := reads_alloc (o := .cells #[.int .i64 j.groups, .int .i64 j.size, .int .i64 j.slide, .int .i64 j.fold, .int .i64 j.fuel, .int .i64 j.limit, .int .i64 j.delay, .int .i64 j.idle] 23) hr
    generalize w.alloc (.cells #[.int .i64 j.groups, .int .i64 j.size, .int .i64 j.slide, .int .i64 j.fold, .int .i64 j.fuel, .int .i64 j.limit, .int .i64 j.delay, .int .i64 j.idle] 23) = V0 at *
    have lJ0 := bJ0.lt
    have j0 : V0.cell? ⟨w.heap.size, 0, none⟩ = some (.int .i64 j.groups) := bJ0.cell 0
    have j1 : V0.cell? ⟨w.heap.size, 1, none⟩ = some (.int .i64 j.size) := bJ0.cell 1
    have j2 : V0.cell? ⟨w.heap.size, 2, none⟩ = some (.int .i64 j.slide) := bJ0.cell 2
    have j3 : V0.cell? ⟨w.heap.size, 3, none⟩ = some (.int .i64 j.fold) := bJ0.cell 3
    have j4 : V0.cell? ⟨w.heap.size, 4, none⟩ = some (.int .i64 j.fuel) := bJ0.cell 4
    have j5 : V0.cell? ⟨w.heap.size, 5, none⟩ = some (.int .i64 j.limit) := bJ0.cell 5
    have j6 : V0.cell? ⟨w.heap.size, 6, none⟩ = some (.int .i64 j.delay) := bJ0.cell 6
    have j7 : V0.cell? ⟨w.heap.size, 7, none⟩ = some (.int .i64 j.idle) := bJ0.cell 7
    obtain ⟨r, hR⟩ : ∃ r, newZ j (ls) 0 = r := ⟨_, rfl⟩
    by_cases h0 : r.2 = 0
    rotate_left
    · have hne : (r.2 != 0) = true := by simpa using h0
      have H0 := Lib.hid h0
      clear h0
      go_wp2_with fail
      refine (new_any j (ls) 0 A n c _ hj hrd0 hm hcm hs' hv').mono ?_
      rw [hR]
      rintro e w1 ⟨hb1, (⟨hz, _⟩ | ⟨_, rfl⟩)⟩
      · exact absurd hz H0.out
      have k1 : Below w.heap.size w w1 := kV0.trans (hb1.mono kV0.size)
      have y1 := k1.size
      clear hR
      go_wp2_with fail
      refine (alive_any _).mono ?_
      rintro e w2 ⟨rfl, hb2⟩
      have k2 : Below w.heap.size w w2 := next_below (k1.alloc k1.size _) hb2
      go_wp2
      go_ret
      exact ⟨rfl, k2⟩
    obtain ⟨hJ, hI, hZ⟩ := newZ_ok (hR ▸ h0)
    have hR2 := hR.symm.trans hZ
    subst hR2
    have HJ := Lib.hid hJ
    have HI := Lib.hid hI
    clear h0 hZ hJ hI
    obtain ⟨rm, k, hm1, hm2, hm3, hm4, hkm⟩ := mod_at nn n
    have hw1 : IntKind.i64.wrap ((n : Int) + 1) = (n : Int) + 1 := IntWalk.i64_in _ (by omega)
    have hw2 : IntKind.i64.wrap (rm + (n : Int)) = rm + (n : Int) := IntWalk.i64_in _ (by omega)
    have hw3 : IntKind.i64.wrap (rm + (n : Int) + 1) = rm + (n : Int) + 1 := IntWalk.i64_in _ (by omega)
    go_wp2_with fail
    refine (new_any j (ls) 0 A n c _ hj hrd0 hm hcm hs' hv').mono ?_
    rw [hR]
    rintro e w1 ⟨hb1, (⟨_, rfl⟩ | ⟨hz, _⟩)⟩
    rotate_left
    · exact absurd rfl hz
    clear hR
    clear j0 j1 j2 j3 j4 j5 j6 j7
    go_upto_region 6 with fail
    have kk := kV0.trans (hb1.mono kV0.size)
    have bS1 : Blk (w1.alloc (.cells #[.slice A n c, .int .i64 0, .int .i64 (markL j []), .int .i64 0, .bool false] 26)) w1.heap.size 26 #[.slice A n c, .int .i64 0, .int .i64 (markL j []), .int .i64 0, .bool false] := Blk.new w1 _ _
    have bJ1 := (bJ0.below hb1 lJ0).alloc (.cells #[.slice A n c, .int .i64 0, .int .i64 (markL j []), .int .i64 0, .bool false] 26)
    have kV1 := kk.alloc kk.size (.cells #[.slice A n c, .int .i64 0, .int .i64 (markL j []), .int .i64 0, .bool false] 26)
    have lJs := Nat.lt_of_lt_of_le lJ0 hb1.size
    clear bJ0 kV0 hrd0 hb1 lJ0 kk
    generalize w1.alloc (.cells #[.slice A n c, .int .i64 0, .int .i64 (markL j []), .int .i64 0, .bool false] 26) = V1 at *
    generalize w1.heap.size = sb at *
    go_wp2_with fail
    go_loopw [40] (fun i wr => ∃ q : Nat, q ≤ k ∧ i = .int .i64 q ∧ Below w.heap.size w wr ∧ Blk wr w.heap.size 23 #[.int .i64 j.groups, .int .i64 j.size, .int .i64 j.slide, .int .i64 j.fold, .int .i64 j.fuel, .int .i64 j.limit, .int .i64 j.delay, .int .i64 j.idle] ∧ Blk wr sb 26 #[.slice A n c, .int .i64 q, .int .i64 (markL j (ls.take q)), .int .i64 0, .bool false]) (fun i _ => k - (intOf i).toNat)
    case atStart => exact ⟨0, Nat.zero_le _, rfl, kV1, bJ1, bS1⟩
    case round =>
      clear kV1 bJ1 bS1
      obtain ⟨q, hq, rfl, hB, bJ, bS⟩ := hrel
      have lJ := bJ.lt
      have lS := bS.lt
      have hrd := (hr.below hB).more hB.size
      by_cases hlt : q < k
      · have hqm : q < (ls).length := by have := HLl.out; omega
        obtain ⟨l, hN⟩ := next_at (j := j) HJ.out HI.out hqm
        have HN := Lib.hid hN
        clear hN hqm
        have hwq : IntKind.i64.wrap ((q : Int) + 1) = (q : Int) + 1 := IntWalk.i64_in _ (by omega)
        have j0 : wr.cell? ⟨w.heap.size, 0, none⟩ = some (.int .i64 j.groups) := bJ.cell 0
        have j1 : wr.cell? ⟨w.heap.size, 1, none⟩ = some (.int .i64 j.size) := bJ.cell 1
        have j2 : wr.cell? ⟨w.heap.size, 2, none⟩ = some (.int .i64 j.slide) := bJ.cell 2
        have j3 : wr.cell? ⟨w.heap.size, 3, none⟩ = some (.int .i64 j.fold) := bJ.cell 3
        have j4 : wr.cell? ⟨w.heap.size, 4, none⟩ = some (.int .i64 j.fuel) := bJ.cell 4
        have j5 : wr.cell? ⟨w.heap.size, 5, none⟩ = some (.int .i64 j.limit) := bJ.cell 5
        have j6 : wr.cell? ⟨w.heap.size, 6, none⟩ = some (.int .i64 j.delay) := bJ.cell 6
        have j7 : wr.cell? ⟨w.heap.size, 7, none⟩ = some (.int .i64 j.idle) := bJ.cell 7
        have s0 : wr.cell? ⟨sb, 0, none⟩ = some (.slice A n c) := bS.cell 0
        have s1 : wr.cell? ⟨sb, 1, none⟩ = some (.int .i64 q) := bS.cell 1
        have s2 : wr.cell? ⟨sb, 2, none⟩ = some (.int .i64 (markL j (ls.take q))) := bS.cell 2
        have s3 : wr.cell? ⟨sb, 3, none⟩ = some (.int .i64 0) := bS.cell 3
        have s4 : wr.cell? ⟨sb, 4, none⟩ = some (.bool false) := bS.cell 4
        go_wp2_with fail
        refine (nextP_any j ⟨ls, q, (markL j (ls.take q)), 0, false⟩ A n c _ hj ⟨hs', hv'⟩ hrd hm).mono ?_
        rw [HN.out]
        rintro e w2 ⟨hb2, (⟨_, v2, rfl, _⟩ | ⟨hz, _⟩)⟩
        rotate_left
        · exact absurd rfl hz
        have bJ2 := bJ.below hb2 lJ
        have bS2 := bS.below hb2 lS
        have k2 := hB.trans (hb2.mono hB.size)
        have y2 := hb2.size
        have fS := bS2.frozen
        have lS2 := bS2.lt
        clear j0 j1 j2 j3 j4 j5 j6 j7 s0 s1 s2 s3 s4
        have j0 : w2.cell? ⟨w.heap.size, 0, none⟩ = some (.int .i64 j.groups) := bJ2.cell 0
        have j1 : w2.cell? ⟨w.heap.size, 1, none⟩ = some (.int .i64 j.size) := bJ2.cell 1
        have j2 : w2.cell? ⟨w.heap.size, 2, none⟩ = some (.int .i64 j.slide) := bJ2.cell 2
        have j3 : w2.cell? ⟨w.heap.size, 3, none⟩ = some (.int .i64 j.fold) := bJ2.cell 3
        have j4 : w2.cell? ⟨w.heap.size, 4, none⟩ = some (.int .i64 j.fuel) := bJ2.cell 4
        have j5 : w2.cell? ⟨w.heap.size, 5, none⟩ = some (.int .i64 j.limit) := bJ2.cell 5
        have j6 : w2.cell? ⟨w.heap.size, 6, none⟩ = some (.int .i64 j.delay) := bJ2.cell 6
        have j7 : w2.cell? ⟨w.heap.size, 7, none⟩ = some (.int .i64 j.idle) := bJ2.cell 7
        have s0 : w2.cell? ⟨sb, 0, none⟩ = some (.slice A n c) := bS2.cell 0
        have s1 : w2.cell? ⟨sb, 1, none⟩ = some (.int .i64 q) := bS2.cell 1
        have s2 : w2.cell? ⟨sb, 2, none⟩ = some (.int .i64 (markL j (ls.take q))) := bS2.cell 2
        have s3 : w2.cell? ⟨sb, 3, none⟩ = some (.int .i64 0) := bS2.cell 3
        have s4 : w2.cell? ⟨sb, 4, none⟩ = some (.bool false) := bS2.cell 4
        go_wp2
        go_roundw
        case rel =>
          have nJS : w.heap.size ≠ sb := by omega
          have e1 := k2.size
          refine ⟨q + 1, by omega, by go_num, ?_, ?_, ?_⟩
          · exact (((((k2.setCell (p := ⟨sb, 0, none⟩) (by simp; omega) _).setCell (p := ⟨sb, 1, none⟩) (by simp; omega) _).setCell (p := ⟨sb, 2, none⟩) (by simp; omega) _).setCell (p := ⟨sb, 3, none⟩) (by simp; omega) _).setCell (p := ⟨sb, 4, none⟩) (by simp; omega) _).alloc (by simpa using e1) _
          · exact (((((bJ2.far (p := ⟨sb, 0, none⟩) nJS _).far (p := ⟨sb, 1, none⟩) nJS _).far (p := ⟨sb, 2, none⟩) nJS _).far (p := ⟨sb, 3, none⟩) nJS _).far (p := ⟨sb, 4, none⟩) nJS _).alloc _
          · exact (((((bS2.set_ 0 (.slice A n c)).set_ 1 (.int .i64 ((q : Int) + 1))).set_ 2 (.int .i64 (markL j (ls.take (q + 1))))).set_ 3 (.int .i64 0)).set_ 4 (.bool false)).alloc _
        case measure => simp [intOf]; omega
      · obtain rfl : q = k := by omega
        have hM : markM j ((ls).take q) = (markL j (ls.take q)) := if_pos ⟨HJ.out, inB_take q HI.out⟩
        have HM := Lib.hid hM
        have hB1 : srcB ⟨ls, q, (markL j (ls.take q)), 0, false⟩ = true := src_at HI.out (by have := HLl.out; omega)
        have HB1 := Lib.hid hB1
        clear hM hB1
        obtain ⟨mk, hmk⟩ : ∃ mk, (markL j (ls.take q)) = mk := ⟨_, rfl⟩
        rw [hmk] at bS HM HB1
        clear hmk
        have hqm : (q : Int) ≤ (n : Int) := by omega
        have hqc : q ≤ c := by omega
        have hrq := reads_take3 hrd hkm
        have hsq : ∀ z ∈ (ls).take q, z.key.size ≤ maxLen := fun z hz => hs' z (List.mem_of_mem_take hz)
        have hvq : ∀ z ∈ (ls).take q, -9223372036854775808 ≤ z.v ∧ z.v ≤ 9223372036854775807 := fun z hz => hv' z (List.mem_of_mem_take hz)
        have hQ : ∀ x : World, Below wr.heap.size wr x → x.cell? ⟨w.heap.size, 0, none⟩ = some (.int .i64 j.groups) ∧ x.cell? ⟨w.heap.size, 1, none⟩ = some (.int .i64 j.size) ∧ x.cell? ⟨w.heap.size, 2, none⟩ = some (.int .i64 j.slide) ∧ x.cell? ⟨w.heap.size, 3, none⟩ = some (.int .i64 j.fold) ∧ x.cell? ⟨w.heap.size, 4, none⟩ = some (.int .i64 j.fuel) ∧ x.cell? ⟨w.heap.size, 5, none⟩ = some (.int .i64 j.limit) ∧ x.cell? ⟨w.heap.size, 6, none⟩ = some (.int .i64 j.delay) ∧ x.cell? ⟨w.heap.size, 7, none⟩ = some (.int .i64 j.idle) ∧ x.cell? ⟨sb, 0, none⟩ = some (.slice A n c) ∧ x.cell? ⟨sb, 1, none⟩ = some (.int .i64 q) ∧ x.cell? ⟨sb, 2, none⟩ = some (.int .i64 mk) ∧ x.cell? ⟨sb, 3, none⟩ = some (.int .i64 0) ∧ x.cell? ⟨sb, 4, none⟩ = some (.bool false) := fun x hx => ⟨(bJ.below hx lJ).cell 0, (bJ.below hx lJ).cell 1, (bJ.below hx lJ).cell 2, (bJ.below hx lJ).cell 3, (bJ.below hx lJ).cell 4, (bJ.below hx lJ).cell 5, (bJ.below hx lJ).cell 6, (bJ.below hx lJ).cell 7, (bS.below hx lS).cell 0, (bS.below hx lS).cell 1, (bS.below hx lS).cell 2, (bS.below hx lS).cell 3, (bS.below hx lS).cell 4⟩
        have kx0 : Below wr.heap.size wr wr := Below.refl _ _
        have j0 : wr.cell? ⟨w.heap.size, 0, none⟩ = some (.int .i64 j.groups) := bJ.cell 0
        have j1 : wr.cell? ⟨w.heap.size, 1, none⟩ = some (.int .i64 j.size) := bJ.cell 1
        have j2 : wr.cell? ⟨w.heap.size, 2, none⟩ = some (.int .i64 j.slide) := bJ.cell 2
        have j3 : wr.cell? ⟨w.heap.size, 3, none⟩ = some (.int .i64 j.fold) := bJ.cell 3
        have j4 : wr.cell? ⟨w.heap.size, 4, none⟩ = some (.int .i64 j.fuel) := bJ.cell 4
        have j5 : wr.cell? ⟨w.heap.size, 5, none⟩ = some (.int .i64 j.limit) := bJ.cell 5
        have j6 : wr.cell? ⟨w.heap.size, 6, none⟩ = some (.int .i64 j.delay) := bJ.cell 6
        have j7 : wr.cell? ⟨w.heap.size, 7, none⟩ = some (.int .i64 j.idle) := bJ.cell 7
        have s0 : wr.cell? ⟨sb, 0, none⟩ = some (.slice A n c) := bS.cell 0
        have s1 : wr.cell? ⟨sb, 1, none⟩ = some (.int .i64 q) := bS.cell 1
        have s2 : wr.cell? ⟨sb, 2, none⟩ = some (.int .i64 mk) := bS.cell 2
        have s3 : wr.cell? ⟨sb, 3, none⟩ = some (.int .i64 0) := bS.cell 3
        have s4 : wr.cell? ⟨sb, 4, none⟩ = some (.bool false) := bS.cell 4
        go_wp2_with fail
        clear j0 j1 j2 j3 j4 j5 j6 j7 s0 s1 s2 s3 s4
        go_region_held3 (fun x => x.cell? ⟨w.heap.size, 0, none⟩ = some (.int .i64 j.groups) ∧ x.cell? ⟨w.heap.size, 1, none⟩ = some (.int .i64 j.size) ∧ x.cell? ⟨w.heap.size, 2, none⟩ = some (.int .i64 j.slide) ∧ x.cell? ⟨w.heap.size, 3, none⟩ = some (.int .i64 j.fold) ∧ x.cell? ⟨w.heap.size, 4, none⟩ = some (.int .i64 j.fuel) ∧ x.cell? ⟨w.heap.size, 5, none⟩ = some (.int .i64 j.limit) ∧ x.cell? ⟨w.heap.size, 6, none⟩ = some (.int .i64 j.delay) ∧ x.cell? ⟨w.heap.size, 7, none⟩ = some (.int .i64 j.idle) ∧ x.cell? ⟨sb, 0, none⟩ = some (.slice A n c) ∧ x.cell? ⟨sb, 1, none⟩ = some (.int .i64 q) ∧ x.cell? ⟨sb, 2, none⟩ = some (.int .i64 mk) ∧ x.cell? ⟨sb, 3, none⟩ = some (.int .i64 0) ∧ x.cell? ⟨sb, 4, none⟩ = some (.bool false))
          (first | exact hQ _ kx3 | exact hQ _ kx2 | exact hQ _ kx1 | exact hQ _ kx0 | go_keep)
          (first
            | (go_at_call 13; refine (alive_any _).mono ?_; rintro e x1 ⟨rfl, hx1⟩; have kx1 : Below wr.heap.size wr x1 := undrew1 hx1)
            | (go_at_call 20; refine (modelMark_any j A q c ((ls).take q) _ hj (reads_below hrq kx1) (by omega) hsq hvq).mono ?_; rw [HM.out]; rintro e x2 ⟨rfl, hx2⟩; have kx2 := kx1.trans (hx2.mono kx1.size))
            | (go_at_call 14; refine (src_any q mk 0 false (ls) A n c _ (reads_below hrd kx2) hm hs').mono ?_; rw [HB1.out]; rintro e x3 ⟨rfl, hx3⟩; have kx3 := kx2.trans (hx3.mono kx2.size)))
        go_wp2
        go_ret
        exact ⟨by simp, hB.trans (kx3.mono hB.size)⟩

  · have hc1 : (40 : Int) < n := by omega
    have hrt := reads_take3 hr (show 40 ≤ n by omega)
    have hcc : 40 ≤ c := by omega
    have hn40 : 40 ≤ n := by omega
    obtain ⟨L, hL⟩ : ∃ L, ls.take 40 = L := ⟨_, rfl⟩
    rw [hL] at hrt
    have hmem : ∀ z ∈ L, z ∈ ls := fun z hz => List.mem_of_mem_take (by rw [hL]; exact hz)
    have hll : L.length = 40 := evs_len hrt
    clear hL
    have hm : 40 ≤ 9223372036854775807 := by omega
    have hcm : 40 ≤ c := by omega
    clear h1
    go_enter Try.func6, Try.ntmps6
    go_upto_region 3 with fail
    have hs' : ∀ z ∈ L, z.key.size ≤ maxLen := fun z hz => hs z (hmem z hz)
    have hv' : ∀ z ∈ L, -9223372036854775808 ≤ z.v ∧ z.v ≤ 9223372036854775807 := fun z hz => hv z (hmem z hz)
    have hLl : (L).length = 40 := by have := evs_len hr; first | omega | (rw [List.length_take]; omega)
    have HLl := Lib.hid hLl
    clear hLl
    have bJ0 : Blk (w.alloc (.cells #[.int .i64 j.groups, .int .i64 j.size, .int .i64 j.slide, .int .i64 j.fold, .int .i64 j.fuel, .int .i64 j.limit, .int .i64 j.delay, .int .i64 j.idle] 23)) w.heap.size 23 #[.int .i64 j.groups, .int .i64 j.size, .int .i64 j.slide, .int .i64 j.fold, .int .i64 j.fuel, .int .i64 j.limit, .int .i64 j.delay, .int .i64 j.idle] := Blk.new w _ _
    have kV0 : Below w.heap.size w (w.alloc (.cells #[.int .i64 j.groups, .int .i64 j.size, .int .i64 j.slide, .int .i64 j.fold, .int .i64 j.fuel, .int .i64 j.limit, .int .i64 j.delay, .int .i64 j.idle] 23)) := by go_grown
    have hrd0 := reads_alloc (o := .cells #[.int .i64 j.groups, .int .i64 j.size, .int .i64 j.slide, .int .i64 j.fold, .int .i64 j.fuel, .int .i64 j.limit, .int .i64 j.delay, .int .i64 j.idle] 23) hrt
    generalize w.alloc (.cells #[.int .i64 j.groups, .int .i64 j.size, .int .i64 j.slide, .int .i64 j.fold, .int .i64 j.fuel, .int .i64 j.limit, .int .i64 j.delay, .int .i64 j.idle] 23) = V0 at *
    have lJ0 := bJ0.lt
    have j0 : V0.cell? ⟨w.heap.size, 0, none⟩ = some (.int .i64 j.groups) := bJ0.cell 0
    have j1 : V0.cell? ⟨w.heap.size, 1, none⟩ = some (.int .i64 j.size) := bJ0.cell 1
    have j2 : V0.cell? ⟨w.heap.size, 2, none⟩ = some (.int .i64 j.slide) := bJ0.cell 2
    have j3 : V0.cell? ⟨w.heap.size, 3, none⟩ = some (.int .i64 j.fold) := bJ0.cell 3
    have j4 : V0.cell? ⟨w.heap.size, 4, none⟩ = some (.int .i64 j.fuel) := bJ0.cell 4
    have j5 : V0.cell? ⟨w.heap.size, 5, none⟩ = some (.int .i64 j.limit) := bJ0.cell 5
    have j6 : V0.cell? ⟨w.heap.size, 6, none⟩ = some (.int .i64 j.delay) := bJ0.cell 6
    have j7 : V0.cell? ⟨w.heap.size, 7, none⟩ = some (.int .i64 j.idle) := bJ0.cell 7
    obtain ⟨r, hR⟩ : ∃ r, newZ j (L) 0 = r := ⟨_, rfl⟩
    by_cases h0 : r.2 = 0
    rotate_left
    · have hne : (r.2 != 0) = true := by simpa using h0
      have H0 := Lib.hid h0
      clear h0
      go_wp2_with fail
      refine (new_any j (L) 0 A 40 c _ hj hrd0 hm hcm hs' hv').mono ?_
      rw [hR]
      rintro e w1 ⟨hb1, (⟨hz, _⟩ | ⟨_, rfl⟩)⟩
      · exact absurd hz H0.out
      have k1 : Below w.heap.size w w1 := kV0.trans (hb1.mono kV0.size)
      have y1 := k1.size
      clear hR
      go_wp2_with fail
      refine (alive_any _).mono ?_
      rintro e w2 ⟨rfl, hb2⟩
      have k2 : Below w.heap.size w w2 := next_below (k1.alloc k1.size _) hb2
      go_wp2
      go_ret
      exact ⟨rfl, k2⟩
    obtain ⟨hJ, hI, hZ⟩ := newZ_ok (hR ▸ h0)
    have hR2 := hR.symm.trans hZ
    subst hR2
    have HJ := Lib.hid hJ
    have HI := Lib.hid hI
    clear h0 hZ hJ hI
    obtain ⟨rm, k, hm1, hm2, hm3, hm4, hkm⟩ := mod_at nn 40
    have hw1 : IntKind.i64.wrap ((40 : Int) + 1) = (40 : Int) + 1 := IntWalk.i64_in _ (by omega)
    have hw2 : IntKind.i64.wrap (rm + (40 : Int)) = rm + (40 : Int) := IntWalk.i64_in _ (by omega)
    have hw3 : IntKind.i64.wrap (rm + (40 : Int) + 1) = rm + (40 : Int) + 1 := IntWalk.i64_in _ (by omega)
    have hm1a : nn.tmod 41 = rm := hm1
    have hm4a : (rm + 40 + 1).tmod 41 = (k : Int) := hm4
    have hm4b : (rm + 41).tmod 41 = (k : Int) := by rw [show rm + 41 = rm + 40 + 1 by omega]; exact hm4
    have hw2a : IntKind.i64.wrap (rm + 40) = rm + 40 := IntWalk.i64_in _ (by omega)
    have hw3a : IntKind.i64.wrap (rm + 40 + 1) = rm + 40 + 1 := IntWalk.i64_in _ (by omega)
    have hw3b : IntKind.i64.wrap (rm + 41) = rm + 41 := IntWalk.i64_in _ (by omega)
    go_wp2_with fail
    refine (new_any j (L) 0 A 40 c _ hj hrd0 hm hcm hs' hv').mono ?_
    rw [hR]
    rintro e w1 ⟨hb1, (⟨_, rfl⟩ | ⟨hz, _⟩)⟩
    rotate_left
    · exact absurd rfl hz
    clear hR
    clear j0 j1 j2 j3 j4 j5 j6 j7
    go_upto_region 6 with fail
    have kk := kV0.trans (hb1.mono kV0.size)
    have bS1 : Blk (w1.alloc (.cells #[.slice A 40 c, .int .i64 0, .int .i64 (markL j []), .int .i64 0, .bool false] 26)) w1.heap.size 26 #[.slice A 40 c, .int .i64 0, .int .i64 (markL j []), .int .i64 0, .bool false] := Blk.new w1 _ _
    have bJ1 := (bJ0.below hb1 lJ0).alloc (.cells #[.slice A 40 c, .int .i64 0, .int .i64 (markL j []), .int .i64 0, .bool false] 26)
    have kV1 := kk.alloc kk.size (.cells #[.slice A 40 c, .int .i64 0, .int .i64 (markL j []), .int .i64 0, .bool false] 26)
    have lJs := Nat.lt_of_lt_of_le lJ0 hb1.size
    clear bJ0 kV0 hrd0 hb1 lJ0 kk
    generalize w1.alloc (.cells #[.slice A 40 c, .int .i64 0, .int .i64 (markL j []), .int .i64 0, .bool false] 26) = V1 at *
    generalize w1.heap.size = sb at *
    go_wp2_with fail
    go_loopw [40] (fun i wr => ∃ q : Nat, q ≤ k ∧ i = .int .i64 q ∧ Below w.heap.size w wr ∧ Blk wr w.heap.size 23 #[.int .i64 j.groups, .int .i64 j.size, .int .i64 j.slide, .int .i64 j.fold, .int .i64 j.fuel, .int .i64 j.limit, .int .i64 j.delay, .int .i64 j.idle] ∧ Blk wr sb 26 #[.slice A 40 c, .int .i64 q, .int .i64 (markL j (L.take q)), .int .i64 0, .bool false]) (fun i _ => k - (intOf i).toNat)
    case atStart => exact ⟨0, Nat.zero_le _, rfl, kV1, bJ1, bS1⟩
    case round =>
      clear kV1 bJ1 bS1
      obtain ⟨q, hq, rfl, hB, bJ, bS⟩ := hrel
      have lJ := bJ.lt
      have lS := bS.lt
      have hrd := (hrt.below hB).more hB.size
      by_cases hlt : q < k
      · have hqm : q < (L).length := by have := HLl.out; omega
        obtain ⟨l, hN⟩ := next_at (j := j) HJ.out HI.out hqm
        have HN := Lib.hid hN
        clear hN hqm
        have hwq : IntKind.i64.wrap ((q : Int) + 1) = (q : Int) + 1 := IntWalk.i64_in _ (by omega)
        have j0 : wr.cell? ⟨w.heap.size, 0, none⟩ = some (.int .i64 j.groups) := bJ.cell 0
        have j1 : wr.cell? ⟨w.heap.size, 1, none⟩ = some (.int .i64 j.size) := bJ.cell 1
        have j2 : wr.cell? ⟨w.heap.size, 2, none⟩ = some (.int .i64 j.slide) := bJ.cell 2
        have j3 : wr.cell? ⟨w.heap.size, 3, none⟩ = some (.int .i64 j.fold) := bJ.cell 3
        have j4 : wr.cell? ⟨w.heap.size, 4, none⟩ = some (.int .i64 j.fuel) := bJ.cell 4
        have j5 : wr.cell? ⟨w.heap.size, 5, none⟩ = some (.int .i64 j.limit) := bJ.cell 5
        have j6 : wr.cell? ⟨w.heap.size, 6, none⟩ = some (.int .i64 j.delay) := bJ.cell 6
        have j7 : wr.cell? ⟨w.heap.size, 7, none⟩ = some (.int .i64 j.idle) := bJ.cell 7
        have s0 : wr.cell? ⟨sb, 0, none⟩ = some (.slice A 40 c) := bS.cell 0
        have s1 : wr.cell? ⟨sb, 1, none⟩ = some (.int .i64 q) := bS.cell 1
        have s2 : wr.cell? ⟨sb, 2, none⟩ = some (.int .i64 (markL j (L.take q))) := bS.cell 2
        have s3 : wr.cell? ⟨sb, 3, none⟩ = some (.int .i64 0) := bS.cell 3
        have s4 : wr.cell? ⟨sb, 4, none⟩ = some (.bool false) := bS.cell 4
        go_wp2_with fail
        refine (nextP_any j ⟨L, q, (markL j (L.take q)), 0, false⟩ A 40 c _ hj ⟨hs', hv'⟩ hrd hm).mono ?_
        rw [HN.out]
        rintro e w2 ⟨hb2, (⟨_, v2, rfl, _⟩ | ⟨hz, _⟩)⟩
        rotate_left
        · exact absurd rfl hz
        have bJ2 := bJ.below hb2 lJ
        have bS2 := bS.below hb2 lS
        have k2 := hB.trans (hb2.mono hB.size)
        have y2 := hb2.size
        have fS := bS2.frozen
        have lS2 := bS2.lt
        clear j0 j1 j2 j3 j4 j5 j6 j7 s0 s1 s2 s3 s4
        have j0 : w2.cell? ⟨w.heap.size, 0, none⟩ = some (.int .i64 j.groups) := bJ2.cell 0
        have j1 : w2.cell? ⟨w.heap.size, 1, none⟩ = some (.int .i64 j.size) := bJ2.cell 1
        have j2 : w2.cell? ⟨w.heap.size, 2, none⟩ = some (.int .i64 j.slide) := bJ2.cell 2
        have j3 : w2.cell? ⟨w.heap.size, 3, none⟩ = some (.int .i64 j.fold) := bJ2.cell 3
        have j4 : w2.cell? ⟨w.heap.size, 4, none⟩ = some (.int .i64 j.fuel) := bJ2.cell 4
        have j5 : w2.cell? ⟨w.heap.size, 5, none⟩ = some (.int .i64 j.limit) := bJ2.cell 5
        have j6 : w2.cell? ⟨w.heap.size, 6, none⟩ = some (.int .i64 j.delay) := bJ2.cell 6
        have j7 : w2.cell? ⟨w.heap.size, 7, none⟩ = some (.int .i64 j.idle) := bJ2.cell 7
        have s0 : w2.cell? ⟨sb, 0, none⟩ = some (.slice A 40 c) := bS2.cell 0
        have s1 : w2.cell? ⟨sb, 1, none⟩ = some (.int .i64 q) := bS2.cell 1
        have s2 : w2.cell? ⟨sb, 2, none⟩ = some (.int .i64 (markL j (L.take q))) := bS2.cell 2
        have s3 : w2.cell? ⟨sb, 3, none⟩ = some (.int .i64 0) := bS2.cell 3
        have s4 : w2.cell? ⟨sb, 4, none⟩ = some (.bool false) := bS2.cell 4
        go_wp2
        go_roundw
        case rel =>
          have nJS : w.heap.size ≠ sb := by omega
          have e1 := k2.size
          refine ⟨q + 1, by omega, by go_num, ?_, ?_, ?_⟩
          · exact (((((k2.setCell (p := ⟨sb, 0, none⟩) (by simp; omega) _).setCell (p := ⟨sb, 1, none⟩) (by simp; omega) _).setCell (p := ⟨sb, 2, none⟩) (by simp; omega) _).setCell (p := ⟨sb, 3, none⟩) (by simp; omega) _).setCell (p := ⟨sb, 4, none⟩) (by simp; omega) _).alloc (by simpa using e1) _
          · exact (((((bJ2.far (p := ⟨sb, 0, none⟩) nJS _).far (p := ⟨sb, 1, none⟩) nJS _).far (p := ⟨sb, 2, none⟩) nJS _).far (p := ⟨sb, 3, none⟩) nJS _).far (p := ⟨sb, 4, none⟩) nJS _).alloc _
          · exact (((((bS2.set_ 0 (.slice A 40 c)).set_ 1 (.int .i64 ((q : Int) + 1))).set_ 2 (.int .i64 (markL j (L.take (q + 1))))).set_ 3 (.int .i64 0)).set_ 4 (.bool false)).alloc _
        case measure => simp [intOf]; omega
      · obtain rfl : q = k := by omega
        have hM : markM j ((L).take q) = (markL j (L.take q)) := if_pos ⟨HJ.out, inB_take q HI.out⟩
        have HM := Lib.hid hM
        have hB1 : srcB ⟨L, q, (markL j (L.take q)), 0, false⟩ = true := src_at HI.out (by have := HLl.out; omega)
        have HB1 := Lib.hid hB1
        clear hM hB1
        obtain ⟨mk, hmk⟩ : ∃ mk, (markL j (L.take q)) = mk := ⟨_, rfl⟩
        rw [hmk] at bS HM HB1
        clear hmk
        have hqm : (q : Int) ≤ (40 : Int) := by omega
        have hqc : q ≤ c := by omega
        have hrq := reads_take3 hrd hkm
        have hsq : ∀ z ∈ (L).take q, z.key.size ≤ maxLen := fun z hz => hs' z (List.mem_of_mem_take hz)
        have hvq : ∀ z ∈ (L).take q, -9223372036854775808 ≤ z.v ∧ z.v ≤ 9223372036854775807 := fun z hz => hv' z (List.mem_of_mem_take hz)
        have hQ : ∀ x : World, Below wr.heap.size wr x → x.cell? ⟨w.heap.size, 0, none⟩ = some (.int .i64 j.groups) ∧ x.cell? ⟨w.heap.size, 1, none⟩ = some (.int .i64 j.size) ∧ x.cell? ⟨w.heap.size, 2, none⟩ = some (.int .i64 j.slide) ∧ x.cell? ⟨w.heap.size, 3, none⟩ = some (.int .i64 j.fold) ∧ x.cell? ⟨w.heap.size, 4, none⟩ = some (.int .i64 j.fuel) ∧ x.cell? ⟨w.heap.size, 5, none⟩ = some (.int .i64 j.limit) ∧ x.cell? ⟨w.heap.size, 6, none⟩ = some (.int .i64 j.delay) ∧ x.cell? ⟨w.heap.size, 7, none⟩ = some (.int .i64 j.idle) ∧ x.cell? ⟨sb, 0, none⟩ = some (.slice A 40 c) ∧ x.cell? ⟨sb, 1, none⟩ = some (.int .i64 q) ∧ x.cell? ⟨sb, 2, none⟩ = some (.int .i64 mk) ∧ x.cell? ⟨sb, 3, none⟩ = some (.int .i64 0) ∧ x.cell? ⟨sb, 4, none⟩ = some (.bool false) := fun x hx => ⟨(bJ.below hx lJ).cell 0, (bJ.below hx lJ).cell 1, (bJ.below hx lJ).cell 2, (bJ.below hx lJ).cell 3, (bJ.below hx lJ).cell 4, (bJ.below hx lJ).cell 5, (bJ.below hx lJ).cell 6, (bJ.below hx lJ).cell 7, (bS.below hx lS).cell 0, (bS.below hx lS).cell 1, (bS.below hx lS).cell 2, (bS.below hx lS).cell 3, (bS.below hx lS).cell 4⟩
        have kx0 : Below wr.heap.size wr wr := Below.refl _ _
        have j0 : wr.cell? ⟨w.heap.size, 0, none⟩ = some (.int .i64 j.groups) := bJ.cell 0
        have j1 : wr.cell? ⟨w.heap.size, 1, none⟩ = some (.int .i64 j.size) := bJ.cell 1
        have j2 : wr.cell? ⟨w.heap.size, 2, none⟩ = some (.int .i64 j.slide) := bJ.cell 2
        have j3 : wr.cell? ⟨w.heap.size, 3, none⟩ = some (.int .i64 j.fold) := bJ.cell 3
        have j4 : wr.cell? ⟨w.heap.size, 4, none⟩ = some (.int .i64 j.fuel) := bJ.cell 4
        have j5 : wr.cell? ⟨w.heap.size, 5, none⟩ = some (.int .i64 j.limit) := bJ.cell 5
        have j6 : wr.cell? ⟨w.heap.size, 6, none⟩ = some (.int .i64 j.delay) := bJ.cell 6
        have j7 : wr.cell? ⟨w.heap.size, 7, none⟩ = some (.int .i64 j.idle) := bJ.cell 7
        have s0 : wr.cell? ⟨sb, 0, none⟩ = some (.slice A 40 c) := bS.cell 0
        have s1 : wr.cell? ⟨sb, 1, none⟩ = some (.int .i64 q) := bS.cell 1
        have s2 : wr.cell? ⟨sb, 2, none⟩ = some (.int .i64 mk) := bS.cell 2
        have s3 : wr.cell? ⟨sb, 3, none⟩ = some (.int .i64 0) := bS.cell 3
        have s4 : wr.cell? ⟨sb, 4, none⟩ = some (.bool false) := bS.cell 4
        go_wp2_with fail
        clear j0 j1 j2 j3 j4 j5 j6 j7 s0 s1 s2 s3 s4
        go_region_held3 (fun x => x.cell? ⟨w.heap.size, 0, none⟩ = some (.int .i64 j.groups) ∧ x.cell? ⟨w.heap.size, 1, none⟩ = some (.int .i64 j.size) ∧ x.cell? ⟨w.heap.size, 2, none⟩ = some (.int .i64 j.slide) ∧ x.cell? ⟨w.heap.size, 3, none⟩ = some (.int .i64 j.fold) ∧ x.cell? ⟨w.heap.size, 4, none⟩ = some (.int .i64 j.fuel) ∧ x.cell? ⟨w.heap.size, 5, none⟩ = some (.int .i64 j.limit) ∧ x.cell? ⟨w.heap.size, 6, none⟩ = some (.int .i64 j.delay) ∧ x.cell? ⟨w.heap.size, 7, none⟩ = some (.int .i64 j.idle) ∧ x.cell? ⟨sb, 0, none⟩ = some (.slice A 40 c) ∧ x.cell? ⟨sb, 1, none⟩ = some (.int .i64 q) ∧ x.cell? ⟨sb, 2, none⟩ = some (.int .i64 mk) ∧ x.cell? ⟨sb, 3, none⟩ = some (.int .i64 0) ∧ x.cell? ⟨sb, 4, none⟩ = some (.bool false))
          (first | exact hQ _ kx3 | exact hQ _ kx2 | exact hQ _ kx1 | exact hQ _ kx0 | go_keep)
          (first
            | (go_at_call 13; refine (alive_any _).mono ?_; rintro e x1 ⟨rfl, hx1⟩; have kx1 : Below wr.heap.size wr x1 := undrew1 hx1)
            | (go_at_call 20; refine (modelMark_any j A q c ((L).take q) _ hj (reads_below hrq kx1) (by omega) hsq hvq).mono ?_; rw [HM.out]; rintro e x2 ⟨rfl, hx2⟩; have kx2 := kx1.trans (hx2.mono kx1.size))
            | (go_at_call 14; refine (src_any q mk 0 false (L) A 40 c _ (reads_below hrd kx2) hm hs').mono ?_; rw [HB1.out]; rintro e x3 ⟨rfl, hx3⟩; have kx3 := kx2.trans (hx3.mono kx2.size)))
        go_wp2
        go_ret
        exact ⟨by simp, hB.trans (kx3.mono hB.size)⟩


end Go.Proofs.Ytmlejdcanlgpdaa
