/- Walk of the law's run, with ticks in between. -/
import Derived.Test.YtmlejdcanlgpdaaTellQ
namespace Go.Proofs.Ytmlejdcanlgpdaa
open Go.RowKit
set_option linter.unusedVariables false
set_option linter.unusedSimpArgs false

set_option maxRecDepth 100000 in
set_option maxHeartbeats 8000000 in
theorem runT_any (j : Jb) (L : List Ev) (A : Option Addr) (m c k : Nat) (w : World) (hj : j.Wf) (hs : ∀ z ∈ L, z.key.size ≤ maxLen) (hv : ∀ z ∈ L, -9223372036854775808 ≤ z.v ∧ z.v ≤ 9223372036854775807) (hr : Reads w w.heap.size 3 A m (evs L)) (T : Nat) (hT : T ≤ 3) (hm40 : m ≤ 40) (hk : k ≤ m) (HJ : Hid (jobB j = true)) (HI : Hid (inB L = true)) :
    Calls Try.prog 21 #[.agg #[.int .i64 j.groups, .int .i64 j.size, .int .i64 j.slide, .int .i64 j.fold, .int .i64 j.fuel, .int .i64 j.limit, .int .i64 j.delay, .int .i64 j.idle], .agg #[.slice A m c, .int .i64 k, .int .i64 (markL j (L.take k)), .int .i64 0, .bool false], .int .i64 T] w (RunPost (accI j L k (m - k + 1)) (m - k + 1) w) := by
  have hm : m ≤ 9223372036854775807 := by omega
  have hIQ := idleQ_bd j T hT
  have HLl := Lib.hid (evs_len hr)
  obtain ⟨ii, hi0, hz0, hz1, hz2⟩ := info_parts infoItm
  go_enter Try.func21, Try.ntmps21
  go_wp2
  go_loopw [9, 10] (fun o i wr => ∃ (q : Nat) (v : Value), o = v ∧ i = .int .i64 q ∧ k + q ≤ m + 1 ∧ Below w.heap.size w wr ∧ w.heap.size + 2 ≤ wr.heap.size ∧ Blk wr w.heap.size 23 #[.int .i64 j.groups, .int .i64 j.size, .int .i64 j.slide, .int .i64 j.fold, .int .i64 j.fuel, .int .i64 j.limit, .int .i64 j.delay, .int .i64 j.idle] ∧ wr.ownsRow (w.heap.size + 2) 43 11 v (accI j L k q).length (itms (accI j L k q)) ∧
      ((k + q ≤ m ∧ Blk wr (w.heap.size + 1) 26 #[.slice A m c, .int .i64 ((k + q : Nat) : Int), .int .i64 (markL j (L.take (k + q))), .int .i64 0, .bool false]) ∨ (k + q = m + 1 ∧ Blk wr (w.heap.size + 1) 26 #[.slice A m c, .int .i64 (m : Int), .int .i64 (markL j (L.take m)), .int .i64 (idleQ j T), .bool true]))) (fun _ i _ => m + 1 - k - (intOf i).toNat)
  case atStart =>
    refine ⟨0, .slice none 0 0, rfl, rfl, by omega, by go_grown, by simp, (Blk.new w _ _).alloc _, World.ownsRow_nil _ _ _ _, .inl ⟨by omega, ?_⟩⟩
    simpa using Blk.new (w.alloc (.cells #[.int .i64 j.groups, .int .i64 j.size, .int .i64 j.slide, .int .i64 j.fold, .int .i64 j.fuel, .int .i64 j.limit, .int .i64 j.delay, .int .i64 j.idle] 23)) 26 #[.slice A m c, .int .i64 k, .int .i64 (markL j (L.take k)), .int .i64 0, .bool false]
  case round =>
    obtain ⟨q, v, hov, rfl, hqm, hB, hsz, bJ, ho, hst⟩ := hrel
    subst hov
    obtain ⟨A0, c0, hov⟩ := own_form ho
    subst hov
    have lJ := bJ.lt
    have hrd := (hr.below hB).more hB.size
    have hal := accI_len j L k q
    have hq1 : (q : Int) ≤ (m : Int) + 1 := by omega
    have hwq : IntKind.i64.wrap ((q : Int) + 1) = (q : Int) + 1 := IntWalk.i64_in _ (by omega)
    have hwm : IntKind.i64.wrap ((m : Int) + 1) = (m : Int) + 1 := IntWalk.i64_in _ (by omega)
    rcases hst with ⟨hq, bS⟩ | ⟨hq, bS⟩
    · have lS := bS.lt
      obtain ⟨i0, hi⟩ : ∃ i0, k + q = i0 := ⟨_, rfl⟩
      have HAc := Lib.hid (accI_succ j L k q)
      rw [hi] at bS hq HAc
      by_cases hlt : i0 < m
      · have HN := Lib.hid (next_atQ (j := j) (z := idleQ j T) HJ.out HI.out (show i0 < L.length by have := HLl.out; omega) ⟨hIQ.1, by omega⟩)
        have j0 : wr.cell? ⟨w.heap.size, 0, none⟩ = some (.int .i64 j.groups) := bJ.cell 0
        have j1 : wr.cell? ⟨w.heap.size, 1, none⟩ = some (.int .i64 j.size) := bJ.cell 1
        have j2 : wr.cell? ⟨w.heap.size, 2, none⟩ = some (.int .i64 j.slide) := bJ.cell 2
        have j3 : wr.cell? ⟨w.heap.size, 3, none⟩ = some (.int .i64 j.fold) := bJ.cell 3
        have j4 : wr.cell? ⟨w.heap.size, 4, none⟩ = some (.int .i64 j.fuel) := bJ.cell 4
        have j5 : wr.cell? ⟨w.heap.size, 5, none⟩ = some (.int .i64 j.limit) := bJ.cell 5
        have j6 : wr.cell? ⟨w.heap.size, 6, none⟩ = some (.int .i64 j.delay) := bJ.cell 6
        have j7 : wr.cell? ⟨w.heap.size, 7, none⟩ = some (.int .i64 j.idle) := bJ.cell 7
        have s0 : wr.cell? ⟨w.heap.size + 1, 0, none⟩ = some (.slice A m c) := bS.cell 0
        have s1 : wr.cell? ⟨w.heap.size + 1, 1, none⟩ = some (.int .i64 (i0 : Int)) := bS.cell 1
        have s2 : wr.cell? ⟨w.heap.size + 1, 2, none⟩ = some (.int .i64 (markL j (L.take i0))) := bS.cell 2
        have s3 : wr.cell? ⟨w.heap.size + 1, 3, none⟩ = some (.int .i64 0) := bS.cell 3
        have s4 : wr.cell? ⟨w.heap.size + 1, 4, none⟩ = some (.bool false) := bS.cell 4
        go_wp2_with fail
        have eQ0 : idleQ j 0 = 0 := by unfold idleQ; split <;> rfl
        obtain ⟨wA, rfl⟩ : ∃ wA, wA = wr := ⟨_, rfl⟩
        clear j0 j1 j2 j3 j4 j5 j6 j7 s0 s1 s2 s3 s4
        go_loopw [32] (fun i wx => ∃ t : Nat, i = .int .i64 t ∧ t ≤ T ∧ Below w.heap.size w wx ∧ w.heap.size + 2 ≤ wx.heap.size ∧ Blk wx w.heap.size 23 #[.int .i64 j.groups, .int .i64 j.size, .int .i64 j.slide, .int .i64 j.fold, .int .i64 j.fuel, .int .i64 j.limit, .int .i64 j.delay, .int .i64 j.idle] ∧ wx.ownsRow (w.heap.size + 2) 43 11 (.slice A0 (accI j L k q).length c0) (accI j L k q).length (itms (accI j L k q)) ∧ Blk wx (w.heap.size + 1) 26 #[.slice A m c, .int .i64 (i0 : Int), .int .i64 (markL j (L.take i0)), .int .i64 (idleQ j t), .bool false]) (fun i _ => T - (intOf i).toNat)
        case atStart => exact ⟨0, rfl, Nat.zero_le _, hB, hsz, bJ, ho, by rw [eQ0]; exact bS⟩
        case round =>
          clear hB hsz bJ ho bS hrd lJ lS
          obtain ⟨t, rfl, htT, hB, hsz, bJ, ho, bS⟩ := hrel
          have lJ := bJ.lt
          have lS := bS.lt
          have hrd := (hr.below hB).more hB.size
          have j0 : wr.cell? ⟨w.heap.size, 0, none⟩ = some (.int .i64 j.groups) := bJ.cell 0
          have j1 : wr.cell? ⟨w.heap.size, 1, none⟩ = some (.int .i64 j.size) := bJ.cell 1
          have j2 : wr.cell? ⟨w.heap.size, 2, none⟩ = some (.int .i64 j.slide) := bJ.cell 2
          have j3 : wr.cell? ⟨w.heap.size, 3, none⟩ = some (.int .i64 j.fold) := bJ.cell 3
          have j4 : wr.cell? ⟨w.heap.size, 4, none⟩ = some (.int .i64 j.fuel) := bJ.cell 4
          have j5 : wr.cell? ⟨w.heap.size, 5, none⟩ = some (.int .i64 j.limit) := bJ.cell 5
          have j6 : wr.cell? ⟨w.heap.size, 6, none⟩ = some (.int .i64 j.delay) := bJ.cell 6
          have j7 : wr.cell? ⟨w.heap.size, 7, none⟩ = some (.int .i64 j.idle) := bJ.cell 7
          have s0 : wr.cell? ⟨w.heap.size + 1, 0, none⟩ = some (.slice A m c) := bS.cell 0
          have s1 : wr.cell? ⟨w.heap.size + 1, 1, none⟩ = some (.int .i64 (i0 : Int)) := bS.cell 1
          have s2 : wr.cell? ⟨w.heap.size + 1, 2, none⟩ = some (.int .i64 (markL j (L.take i0))) := bS.cell 2
          have s3 : wr.cell? ⟨w.heap.size + 1, 3, none⟩ = some (.int .i64 (idleQ j t)) := bS.cell 3
          have s4 : wr.cell? ⟨w.heap.size + 1, 4, none⟩ = some (.bool false) := bS.cell 4
          by_cases htt : t < T
          · obtain ⟨lt, hTk⟩ := tick_atQ (j := j) (L := L) (i := i0) (t := t) HJ.out HI.out (by have := HLl.out; omega) (by omega)
            have HTk := Lib.hid hTk
            clear hTk
            have hwt : IntKind.i64.wrap ((t : Int) + 1) = (t : Int) + 1 := IntWalk.i64_in _ (by omega)
            go_wp2_with fail
            refine (tickP_any j ⟨L, (i0 : Int), (markL j (L.take i0)), idleQ j t, false⟩ A m c _ hj ⟨hs, hv⟩ hrd hm).mono ?_
            rw [HTk.out]
            rintro e w2 ⟨hb2, (⟨_, v2, rfl, _⟩ | ⟨hz, _⟩)⟩
            rotate_left
            · exact absurd rfl hz
            have bJ2 := bJ.below hb2 lJ
            have bS2 := bS.below hb2 lS
            have k2 := hB.trans (hb2.mono hB.size)
            have o2 := own_below ho hb2
            have fS := bS2.frozen
            have lS2 := bS2.lt
            have h22 : w.heap.size + 2 ≤ w2.heap.size := Nat.le_trans hsz hb2.size
            clear j0 j1 j2 j3 j4 j5 j6 j7 s0 s1 s2 s3 s4
            have j0 : w2.cell? ⟨w.heap.size, 0, none⟩ = some (.int .i64 j.groups) := bJ2.cell 0
            have j1 : w2.cell? ⟨w.heap.size, 1, none⟩ = some (.int .i64 j.size) := bJ2.cell 1
            have j2 : w2.cell? ⟨w.heap.size, 2, none⟩ = some (.int .i64 j.slide) := bJ2.cell 2
            have j3 : w2.cell? ⟨w.heap.size, 3, none⟩ = some (.int .i64 j.fold) := bJ2.cell 3
            have j4 : w2.cell? ⟨w.heap.size, 4, none⟩ = some (.int .i64 j.fuel) := bJ2.cell 4
            have j5 : w2.cell? ⟨w.heap.size, 5, none⟩ = some (.int .i64 j.limit) := bJ2.cell 5
            have j6 : w2.cell? ⟨w.heap.size, 6, none⟩ = some (.int .i64 j.delay) := bJ2.cell 6
            have j7 : w2.cell? ⟨w.heap.size, 7, none⟩ = some (.int .i64 j.idle) := bJ2.cell 7
            have s0 : w2.cell? ⟨w.heap.size + 1, 0, none⟩ = some (.slice A m c) := bS2.cell 0
            have s1 : w2.cell? ⟨w.heap.size + 1, 1, none⟩ = some (.int .i64 (i0 : Int)) := bS2.cell 1
            have s2 : w2.cell? ⟨w.heap.size + 1, 2, none⟩ = some (.int .i64 (markL j (L.take i0))) := bS2.cell 2
            have s3 : w2.cell? ⟨w.heap.size + 1, 3, none⟩ = some (.int .i64 (idleQ j t)) := bS2.cell 3
            have s4 : w2.cell? ⟨w.heap.size + 1, 4, none⟩ = some (.bool false) := bS2.cell 4
            go_wp2
            go_roundw
            case rel =>
              have nJS : w.heap.size ≠ w.heap.size + 1 := by omega
              have zS : w.heap.size + 1 < w.heap.size + 2 := by omega
              refine ⟨t + 1, by go_num, by omega, ?_, by simp; omega, ?_, ?_, ?_⟩
              · exact (((((k2.setCell (p := ⟨w.heap.size + 1, 0, none⟩) (by simp) _).setCell (p := ⟨w.heap.size + 1, 1, none⟩) (by simp) _).setCell (p := ⟨w.heap.size + 1, 2, none⟩) (by simp) _).setCell (p := ⟨w.heap.size + 1, 3, none⟩) (by simp) _).setCell (p := ⟨w.heap.size + 1, 4, none⟩) (by simp) _).alloc (by have := k2.size; simpa using this) _
              · exact (((((bJ2.far (p := ⟨w.heap.size + 1, 0, none⟩) nJS _).far (p := ⟨w.heap.size + 1, 1, none⟩) nJS _).far (p := ⟨w.heap.size + 1, 2, none⟩) nJS _).far (p := ⟨w.heap.size + 1, 3, none⟩) nJS _).far (p := ⟨w.heap.size + 1, 4, none⟩) nJS _).alloc _
              · exact (own_set (own_set (own_set (own_set (own_set o2 (p := ⟨w.heap.size + 1, 0, none⟩) _ zS) (p := ⟨w.heap.size + 1, 1, none⟩) _ zS) (p := ⟨w.heap.size + 1, 2, none⟩) _ zS) (p := ⟨w.heap.size + 1, 3, none⟩) _ zS) (p := ⟨w.heap.size + 1, 4, none⟩) _ zS).alloc _
              · exact (((((bS2.set_ 0 (.slice A m c)).set_ 1 (.int .i64 (i0 : Int))).set_ 2 (.int .i64 (markL j (L.take i0)))).set_ 3 (.int .i64 (idleQ j (t + 1)))).set_ 4 (.bool false)).alloc _
            case measure => simp [intOf]; omega
          obtain rfl : t = T := by omega
          go_wp2_with fail
          refine (nextP_any j ⟨L, (i0 : Int), (markL j (L.take i0)), idleQ j t, false⟩ A m c _ hj ⟨hs, hv⟩ hrd hm).mono ?_
          rw [HN.out]
          rintro e w2 ⟨hb2, (⟨_, v2, rfl, hO2⟩ | ⟨hz, _⟩)⟩
          rotate_left
          · exact absurd rfl hz
          simp only at hO2
          obtain ⟨A2, c2, rfl⟩ := own_form hO2
          have bJ2 := bJ.below hb2 lJ
          have bS2 := bS.below hb2 lS
          have k2 := hB.trans (hb2.mono hB.size)
          have o2 := own_below ho hb2
          have rd2 := Reads.of_own hO2
          have fS := bS2.frozen
          have lS2 := bS2.lt
          have h22 : w.heap.size + 2 ≤ w2.heap.size := Nat.le_trans hsz hb2.size
          clear j0 j1 j2 j3 j4 j5 j6 j7 s0 s1 s2 s3 s4
          have j0 : w2.cell? ⟨w.heap.size, 0, none⟩ = some (.int .i64 j.groups) := bJ2.cell 0
          have j1 : w2.cell? ⟨w.heap.size, 1, none⟩ = some (.int .i64 j.size) := bJ2.cell 1
          have j2 : w2.cell? ⟨w.heap.size, 2, none⟩ = some (.int .i64 j.slide) := bJ2.cell 2
          have j3 : w2.cell? ⟨w.heap.size, 3, none⟩ = some (.int .i64 j.fold) := bJ2.cell 3
          have j4 : w2.cell? ⟨w.heap.size, 4, none⟩ = some (.int .i64 j.fuel) := bJ2.cell 4
          have j5 : w2.cell? ⟨w.heap.size, 5, none⟩ = some (.int .i64 j.limit) := bJ2.cell 5
          have j6 : w2.cell? ⟨w.heap.size, 6, none⟩ = some (.int .i64 j.delay) := bJ2.cell 6
          have j7 : w2.cell? ⟨w.heap.size, 7, none⟩ = some (.int .i64 j.idle) := bJ2.cell 7
          have s0 : w2.cell? ⟨w.heap.size + 1, 0, none⟩ = some (.slice A m c) := bS2.cell 0
          have s1 : w2.cell? ⟨w.heap.size + 1, 1, none⟩ = some (.int .i64 (i0 : Int)) := bS2.cell 1
          have s2 : w2.cell? ⟨w.heap.size + 1, 2, none⟩ = some (.int .i64 (markL j (L.take i0))) := bS2.cell 2
          have s3 : w2.cell? ⟨w.heap.size + 1, 3, none⟩ = some (.int .i64 (idleQ j t)) := bS2.cell 3
          have s4 : w2.cell? ⟨w.heap.size + 1, 4, none⟩ = some (.bool false) := bS2.cell 4
          go_upto_region 15 with fail
          have nJS : w.heap.size ≠ w.heap.size + 1 := by omega
          have bS3 := (((((bS2.set_ 0 (.slice A m c)).set_ 1 (.int .i64 ((i0 : Int) + 1))).set_ 2 (.int .i64 (markL j (L.take (i0 + 1))))).set_ 3 (.int .i64 0)).set_ 4 (.bool false)).alloc (.cells #[.slice A m c, .int .i64 ((i0 : Int) + 1), .int .i64 (markL j (L.take (i0 + 1))), .int .i64 0, .bool false] 26)
          have bJ3 := (((((bJ2.far (p := ⟨w.heap.size + 1, 0, none⟩) nJS (.slice A m c)).far (p := ⟨w.heap.size + 1, 1, none⟩) nJS (.int .i64 ((i0 : Int) + 1))).far (p := ⟨w.heap.size + 1, 2, none⟩) nJS (.int .i64 (markL j (L.take (i0 + 1))))).far (p := ⟨w.heap.size + 1, 3, none⟩) nJS (.int .i64 0)).far (p := ⟨w.heap.size + 1, 4, none⟩) nJS (.bool false)).alloc (.cells #[.slice A m c, .int .i64 ((i0 : Int) + 1), .int .i64 (markL j (L.take (i0 + 1))), .int .i64 0, .bool false] 26)
          have zS : w.heap.size + 1 < w.heap.size + 2 := by omega
          have o3 := (own_set (own_set (own_set (own_set (own_set o2 (p := ⟨w.heap.size + 1, 0, none⟩) (.slice A m c) zS) (p := ⟨w.heap.size + 1, 1, none⟩) (.int .i64 ((i0 : Int) + 1)) zS) (p := ⟨w.heap.size + 1, 2, none⟩) (.int .i64 (markL j (L.take (i0 + 1)))) zS) (p := ⟨w.heap.size + 1, 3, none⟩) (.int .i64 0) zS) (p := ⟨w.heap.size + 1, 4, none⟩) (.bool false) zS).alloc (.cells #[.slice A m c, .int .i64 ((i0 : Int) + 1), .int .i64 (markL j (L.take (i0 + 1))), .int .i64 0, .bool false] 26)
          have gS : ∀ ad, A2 = some ad → 0 < (stepI j L i0).length → w.heap.size + 1 ≠ ad.block := fun ad ea h0 => by
            subst ea
            have := (hO2.lt ad.block (by simp [Value.ownBlock])).1
            omega
          have rd3 := reads_sets rd2 gS (.slice A m c) (.int .i64 ((i0 : Int) + 1)) (.int .i64 (markL j (L.take (i0 + 1)))) (.int .i64 0) (.bool false) (.cells #[.slice A m c, .int .i64 ((i0 : Int) + 1), .int .i64 (markL j (L.take (i0 + 1))), .int .i64 0, .bool false] 26)
          have k3 := (((((k2.setCell (p := ⟨w.heap.size + 1, 0, none⟩) (by simp) (.slice A m c)).setCell (p := ⟨w.heap.size + 1, 1, none⟩) (by simp) (.int .i64 ((i0 : Int) + 1))).setCell (p := ⟨w.heap.size + 1, 2, none⟩) (by simp) (.int .i64 (markL j (L.take (i0 + 1))))).setCell (p := ⟨w.heap.size + 1, 3, none⟩) (by simp) (.int .i64 0)).setCell (p := ⟨w.heap.size + 1, 4, none⟩) (by simp) (.bool false)).alloc (by have := k2.size; simpa using this) (.cells #[.slice A m c, .int .i64 ((i0 : Int) + 1), .int .i64 (markL j (L.take (i0 + 1))), .int .i64 0, .bool false] 26)
          generalize ((((((w2.setCell ⟨w.heap.size + 1, 0, none⟩ (.slice A m c)).setCell ⟨w.heap.size + 1, 1, none⟩ (.int .i64 ((i0 : Int) + 1))).setCell ⟨w.heap.size + 1, 2, none⟩ (.int .i64 (markL j (L.take (i0 + 1))))).setCell ⟨w.heap.size + 1, 3, none⟩ (.int .i64 0)).setCell ⟨w.heap.size + 1, 4, none⟩ (.bool false)).alloc (.cells #[.slice A m c, .int .i64 ((i0 : Int) + 1), .int .i64 (markL j (L.take (i0 + 1))), .int .i64 0, .bool false] 26)) = V at *
          have hsV : w.heap.size + 2 ≤ V.heap.size := by have := bS3.lt; omega
          have hl2 := stepI_len j L i0
          go_upto_region 16 with (at_builtin; refine wpList_append_any _ rfl (.tmp 55) (.tmp 56) 27 rfl (w.heap.size + 2) 43 ii _ 11 104 Try.underlying27 hi0 hz0 hz1 hz2 rfl (by decide) _ (accI j L k q).length (itms (accI j L k q)) rfl o3 V.heap.size A2 (stepI j L i0).length c2 (itms (stepI j L i0)) rfl rd3 (itms_one _) (by unfold maxLen; omega) (by omega) hsV ?_; intro v4 w4 hown hgrow hnb; have bS4 := blk_far bS3 o3 zS hgrow; have bJ4 := blk_far bJ3 o3 (show w.heap.size < w.heap.size + 2 by omega) hgrow)
          have k4 : Below w.heap.size w w4 := k3.grown hgrow (by omega) (fun g hg => by have := (o3.lt g hg).1; omega)
          have s4' : w.heap.size + 2 ≤ w4.heap.size := by have := hgrow.size; omega
          rw [← List.length_append, ← itms_append] at hown
          go_wp2
          go_roundw
          case rel => exact ⟨q + 1, v4, rfl, by go_num, by omega, k4, s4', bJ4, by rw [HAc.out]; exact hown, .inl ⟨by omega, by rw [show k + (q + 1) = i0 + 1 by omega]; exact bS4⟩⟩
          case measure => simp [intOf]; omega

      · have him : m = i0 := by omega
        subst him
        have hN := next_endQ (j := j) (z := idleQ j T) HJ.out HI.out ⟨hIQ.1, by omega⟩
        rw [HLl.out] at hN
        have HN := Lib.hid hN
        clear hN hlt
        have j0 : wr.cell? ⟨w.heap.size, 0, none⟩ = some (.int .i64 j.groups) := bJ.cell 0
        have j1 : wr.cell? ⟨w.heap.size, 1, none⟩ = some (.int .i64 j.size) := bJ.cell 1
        have j2 : wr.cell? ⟨w.heap.size, 2, none⟩ = some (.int .i64 j.slide) := bJ.cell 2
        have j3 : wr.cell? ⟨w.heap.size, 3, none⟩ = some (.int .i64 j.fold) := bJ.cell 3
        have j4 : wr.cell? ⟨w.heap.size, 4, none⟩ = some (.int .i64 j.fuel) := bJ.cell 4
        have j5 : wr.cell? ⟨w.heap.size, 5, none⟩ = some (.int .i64 j.limit) := bJ.cell 5
        have j6 : wr.cell? ⟨w.heap.size, 6, none⟩ = some (.int .i64 j.delay) := bJ.cell 6
        have j7 : wr.cell? ⟨w.heap.size, 7, none⟩ = some (.int .i64 j.idle) := bJ.cell 7
        have s0 : wr.cell? ⟨w.heap.size + 1, 0, none⟩ = some (.slice A m c) := bS.cell 0
        have s1 : wr.cell? ⟨w.heap.size + 1, 1, none⟩ = some (.int .i64 (m : Int)) := bS.cell 1
        have s2 : wr.cell? ⟨w.heap.size + 1, 2, none⟩ = some (.int .i64 (markL j (L.take m))) := bS.cell 2
        have s3 : wr.cell? ⟨w.heap.size + 1, 3, none⟩ = some (.int .i64 0) := bS.cell 3
        have s4 : wr.cell? ⟨w.heap.size + 1, 4, none⟩ = some (.bool false) := bS.cell 4
        go_wp2_with fail
        have eQ0 : idleQ j 0 = 0 := by unfold idleQ; split <;> rfl
        obtain ⟨wA, rfl⟩ : ∃ wA, wA = wr := ⟨_, rfl⟩
        clear j0 j1 j2 j3 j4 j5 j6 j7 s0 s1 s2 s3 s4
        go_loopw [32] (fun i wx => ∃ t : Nat, i = .int .i64 t ∧ t ≤ T ∧ Below w.heap.size w wx ∧ w.heap.size + 2 ≤ wx.heap.size ∧ Blk wx w.heap.size 23 #[.int .i64 j.groups, .int .i64 j.size, .int .i64 j.slide, .int .i64 j.fold, .int .i64 j.fuel, .int .i64 j.limit, .int .i64 j.delay, .int .i64 j.idle] ∧ wx.ownsRow (w.heap.size + 2) 43 11 (.slice A0 (accI j L k q).length c0) (accI j L k q).length (itms (accI j L k q)) ∧ Blk wx (w.heap.size + 1) 26 #[.slice A m c, .int .i64 (m : Int), .int .i64 (markL j (L.take m)), .int .i64 (idleQ j t), .bool false]) (fun i _ => T - (intOf i).toNat)
        case atStart => exact ⟨0, rfl, Nat.zero_le _, hB, hsz, bJ, ho, by rw [eQ0]; exact bS⟩
        case round =>
          clear hB hsz bJ ho bS hrd lJ lS
          obtain ⟨t, rfl, htT, hB, hsz, bJ, ho, bS⟩ := hrel
          have lJ := bJ.lt
          have lS := bS.lt
          have hrd := (hr.below hB).more hB.size
          have j0 : wr.cell? ⟨w.heap.size, 0, none⟩ = some (.int .i64 j.groups) := bJ.cell 0
          have j1 : wr.cell? ⟨w.heap.size, 1, none⟩ = some (.int .i64 j.size) := bJ.cell 1
          have j2 : wr.cell? ⟨w.heap.size, 2, none⟩ = some (.int .i64 j.slide) := bJ.cell 2
          have j3 : wr.cell? ⟨w.heap.size, 3, none⟩ = some (.int .i64 j.fold) := bJ.cell 3
          have j4 : wr.cell? ⟨w.heap.size, 4, none⟩ = some (.int .i64 j.fuel) := bJ.cell 4
          have j5 : wr.cell? ⟨w.heap.size, 5, none⟩ = some (.int .i64 j.limit) := bJ.cell 5
          have j6 : wr.cell? ⟨w.heap.size, 6, none⟩ = some (.int .i64 j.delay) := bJ.cell 6
          have j7 : wr.cell? ⟨w.heap.size, 7, none⟩ = some (.int .i64 j.idle) := bJ.cell 7
          have s0 : wr.cell? ⟨w.heap.size + 1, 0, none⟩ = some (.slice A m c) := bS.cell 0
          have s1 : wr.cell? ⟨w.heap.size + 1, 1, none⟩ = some (.int .i64 (m : Int)) := bS.cell 1
          have s2 : wr.cell? ⟨w.heap.size + 1, 2, none⟩ = some (.int .i64 (markL j (L.take m))) := bS.cell 2
          have s3 : wr.cell? ⟨w.heap.size + 1, 3, none⟩ = some (.int .i64 (idleQ j t)) := bS.cell 3
          have s4 : wr.cell? ⟨w.heap.size + 1, 4, none⟩ = some (.bool false) := bS.cell 4
          by_cases htt : t < T
          · obtain ⟨lt, hTk⟩ := tick_atQ (j := j) (L := L) (i := m) (t := t) HJ.out HI.out (by have := HLl.out; omega) (by omega)
            have HTk := Lib.hid hTk
            clear hTk
            have hwt : IntKind.i64.wrap ((t : Int) + 1) = (t : Int) + 1 := IntWalk.i64_in _ (by omega)
            go_wp2_with fail
            refine (tickP_any j ⟨L, (m : Int), (markL j (L.take m)), idleQ j t, false⟩ A m c _ hj ⟨hs, hv⟩ hrd hm).mono ?_
            rw [HTk.out]
            rintro e w2 ⟨hb2, (⟨_, v2, rfl, _⟩ | ⟨hz, _⟩)⟩
            rotate_left
            · exact absurd rfl hz
            have bJ2 := bJ.below hb2 lJ
            have bS2 := bS.below hb2 lS
            have k2 := hB.trans (hb2.mono hB.size)
            have o2 := own_below ho hb2
            have fS := bS2.frozen
            have lS2 := bS2.lt
            have h22 : w.heap.size + 2 ≤ w2.heap.size := Nat.le_trans hsz hb2.size
            clear j0 j1 j2 j3 j4 j5 j6 j7 s0 s1 s2 s3 s4
            have j0 : w2.cell? ⟨w.heap.size, 0, none⟩ = some (.int .i64 j.groups) := bJ2.cell 0
            have j1 : w2.cell? ⟨w.heap.size, 1, none⟩ = some (.int .i64 j.size) := bJ2.cell 1
            have j2 : w2.cell? ⟨w.heap.size, 2, none⟩ = some (.int .i64 j.slide) := bJ2.cell 2
            have j3 : w2.cell? ⟨w.heap.size, 3, none⟩ = some (.int .i64 j.fold) := bJ2.cell 3
            have j4 : w2.cell? ⟨w.heap.size, 4, none⟩ = some (.int .i64 j.fuel) := bJ2.cell 4
            have j5 : w2.cell? ⟨w.heap.size, 5, none⟩ = some (.int .i64 j.limit) := bJ2.cell 5
            have j6 : w2.cell? ⟨w.heap.size, 6, none⟩ = some (.int .i64 j.delay) := bJ2.cell 6
            have j7 : w2.cell? ⟨w.heap.size, 7, none⟩ = some (.int .i64 j.idle) := bJ2.cell 7
            have s0 : w2.cell? ⟨w.heap.size + 1, 0, none⟩ = some (.slice A m c) := bS2.cell 0
            have s1 : w2.cell? ⟨w.heap.size + 1, 1, none⟩ = some (.int .i64 (m : Int)) := bS2.cell 1
            have s2 : w2.cell? ⟨w.heap.size + 1, 2, none⟩ = some (.int .i64 (markL j (L.take m))) := bS2.cell 2
            have s3 : w2.cell? ⟨w.heap.size + 1, 3, none⟩ = some (.int .i64 (idleQ j t)) := bS2.cell 3
            have s4 : w2.cell? ⟨w.heap.size + 1, 4, none⟩ = some (.bool false) := bS2.cell 4
            go_wp2
            go_roundw
            case rel =>
              have nJS : w.heap.size ≠ w.heap.size + 1 := by omega
              have zS : w.heap.size + 1 < w.heap.size + 2 := by omega
              refine ⟨t + 1, by go_num, by omega, ?_, by simp; omega, ?_, ?_, ?_⟩
              · exact (((((k2.setCell (p := ⟨w.heap.size + 1, 0, none⟩) (by simp) _).setCell (p := ⟨w.heap.size + 1, 1, none⟩) (by simp) _).setCell (p := ⟨w.heap.size + 1, 2, none⟩) (by simp) _).setCell (p := ⟨w.heap.size + 1, 3, none⟩) (by simp) _).setCell (p := ⟨w.heap.size + 1, 4, none⟩) (by simp) _).alloc (by have := k2.size; simpa using this) _
              · exact (((((bJ2.far (p := ⟨w.heap.size + 1, 0, none⟩) nJS _).far (p := ⟨w.heap.size + 1, 1, none⟩) nJS _).far (p := ⟨w.heap.size + 1, 2, none⟩) nJS _).far (p := ⟨w.heap.size + 1, 3, none⟩) nJS _).far (p := ⟨w.heap.size + 1, 4, none⟩) nJS _).alloc _
              · exact (own_set (own_set (own_set (own_set (own_set o2 (p := ⟨w.heap.size + 1, 0, none⟩) _ zS) (p := ⟨w.heap.size + 1, 1, none⟩) _ zS) (p := ⟨w.heap.size + 1, 2, none⟩) _ zS) (p := ⟨w.heap.size + 1, 3, none⟩) _ zS) (p := ⟨w.heap.size + 1, 4, none⟩) _ zS).alloc _
              · exact (((((bS2.set_ 0 (.slice A m c)).set_ 1 (.int .i64 (m : Int))).set_ 2 (.int .i64 (markL j (L.take m)))).set_ 3 (.int .i64 (idleQ j (t + 1)))).set_ 4 (.bool false)).alloc _
            case measure => simp [intOf]; omega
          obtain rfl : t = T := by omega
          go_wp2_with fail
          refine (nextP_any j ⟨L, (m : Int), (markL j (L.take m)), idleQ j t, false⟩ A m c _ hj ⟨hs, hv⟩ hrd hm).mono ?_
          rw [HN.out]
          rintro e w2 ⟨hb2, (⟨_, v2, rfl, hO2⟩ | ⟨hz, _⟩)⟩
          rotate_left
          · exact absurd rfl hz
          simp only at hO2
          obtain ⟨A2, c2, rfl⟩ := own_form hO2
          have bJ2 := bJ.below hb2 lJ
          have bS2 := bS.below hb2 lS
          have k2 := hB.trans (hb2.mono hB.size)
          have o2 := own_below ho hb2
          have rd2 := Reads.of_own hO2
          have fS := bS2.frozen
          have lS2 := bS2.lt
          have h22 : w.heap.size + 2 ≤ w2.heap.size := Nat.le_trans hsz hb2.size
          clear j0 j1 j2 j3 j4 j5 j6 j7 s0 s1 s2 s3 s4
          have j0 : w2.cell? ⟨w.heap.size, 0, none⟩ = some (.int .i64 j.groups) := bJ2.cell 0
          have j1 : w2.cell? ⟨w.heap.size, 1, none⟩ = some (.int .i64 j.size) := bJ2.cell 1
          have j2 : w2.cell? ⟨w.heap.size, 2, none⟩ = some (.int .i64 j.slide) := bJ2.cell 2
          have j3 : w2.cell? ⟨w.heap.size, 3, none⟩ = some (.int .i64 j.fold) := bJ2.cell 3
          have j4 : w2.cell? ⟨w.heap.size, 4, none⟩ = some (.int .i64 j.fuel) := bJ2.cell 4
          have j5 : w2.cell? ⟨w.heap.size, 5, none⟩ = some (.int .i64 j.limit) := bJ2.cell 5
          have j6 : w2.cell? ⟨w.heap.size, 6, none⟩ = some (.int .i64 j.delay) := bJ2.cell 6
          have j7 : w2.cell? ⟨w.heap.size, 7, none⟩ = some (.int .i64 j.idle) := bJ2.cell 7
          have s0 : w2.cell? ⟨w.heap.size + 1, 0, none⟩ = some (.slice A m c) := bS2.cell 0
          have s1 : w2.cell? ⟨w.heap.size + 1, 1, none⟩ = some (.int .i64 (m : Int)) := bS2.cell 1
          have s2 : w2.cell? ⟨w.heap.size + 1, 2, none⟩ = some (.int .i64 (markL j (L.take m))) := bS2.cell 2
          have s3 : w2.cell? ⟨w.heap.size + 1, 3, none⟩ = some (.int .i64 (idleQ j t)) := bS2.cell 3
          have s4 : w2.cell? ⟨w.heap.size + 1, 4, none⟩ = some (.bool false) := bS2.cell 4
          go_upto_region 15 with fail
          have nJS : w.heap.size ≠ w.heap.size + 1 := by omega
          have bS3 := (((((bS2.set_ 0 (.slice A m c)).set_ 1 (.int .i64 (m : Int))).set_ 2 (.int .i64 (markL j (L.take m)))).set_ 3 (.int .i64 (idleQ j t))).set_ 4 (.bool true)).alloc (.cells #[.slice A m c, .int .i64 (m : Int), .int .i64 (markL j (L.take m)), .int .i64 (idleQ j t), .bool true] 26)
          have bJ3 := (((((bJ2.far (p := ⟨w.heap.size + 1, 0, none⟩) nJS (.slice A m c)).far (p := ⟨w.heap.size + 1, 1, none⟩) nJS (.int .i64 (m : Int))).far (p := ⟨w.heap.size + 1, 2, none⟩) nJS (.int .i64 (markL j (L.take m)))).far (p := ⟨w.heap.size + 1, 3, none⟩) nJS (.int .i64 (idleQ j t))).far (p := ⟨w.heap.size + 1, 4, none⟩) nJS (.bool true)).alloc (.cells #[.slice A m c, .int .i64 (m : Int), .int .i64 (markL j (L.take m)), .int .i64 (idleQ j t), .bool true] 26)
          have zS : w.heap.size + 1 < w.heap.size + 2 := by omega
          have o3 := (own_set (own_set (own_set (own_set (own_set o2 (p := ⟨w.heap.size + 1, 0, none⟩) (.slice A m c) zS) (p := ⟨w.heap.size + 1, 1, none⟩) (.int .i64 (m : Int)) zS) (p := ⟨w.heap.size + 1, 2, none⟩) (.int .i64 (markL j (L.take m))) zS) (p := ⟨w.heap.size + 1, 3, none⟩) (.int .i64 (idleQ j t)) zS) (p := ⟨w.heap.size + 1, 4, none⟩) (.bool true) zS).alloc (.cells #[.slice A m c, .int .i64 (m : Int), .int .i64 (markL j (L.take m)), .int .i64 (idleQ j t), .bool true] 26)
          have gS : ∀ ad, A2 = some ad → 0 < (stepI j L m).length → w.heap.size + 1 ≠ ad.block := fun ad ea h0 => by
            subst ea
            have := (hO2.lt ad.block (by simp [Value.ownBlock])).1
            omega
          have rd3 := reads_sets rd2 gS (.slice A m c) (.int .i64 (m : Int)) (.int .i64 (markL j (L.take m))) (.int .i64 (idleQ j t)) (.bool true) (.cells #[.slice A m c, .int .i64 (m : Int), .int .i64 (markL j (L.take m)), .int .i64 (idleQ j t), .bool true] 26)
          have k3 := (((((k2.setCell (p := ⟨w.heap.size + 1, 0, none⟩) (by simp) (.slice A m c)).setCell (p := ⟨w.heap.size + 1, 1, none⟩) (by simp) (.int .i64 (m : Int))).setCell (p := ⟨w.heap.size + 1, 2, none⟩) (by simp) (.int .i64 (markL j (L.take m)))).setCell (p := ⟨w.heap.size + 1, 3, none⟩) (by simp) (.int .i64 (idleQ j t))).setCell (p := ⟨w.heap.size + 1, 4, none⟩) (by simp) (.bool true)).alloc (by have := k2.size; simpa using this) (.cells #[.slice A m c, .int .i64 (m : Int), .int .i64 (markL j (L.take m)), .int .i64 (idleQ j t), .bool true] 26)
          generalize ((((((w2.setCell ⟨w.heap.size + 1, 0, none⟩ (.slice A m c)).setCell ⟨w.heap.size + 1, 1, none⟩ (.int .i64 (m : Int))).setCell ⟨w.heap.size + 1, 2, none⟩ (.int .i64 (markL j (L.take m)))).setCell ⟨w.heap.size + 1, 3, none⟩ (.int .i64 (idleQ j t))).setCell ⟨w.heap.size + 1, 4, none⟩ (.bool true)).alloc (.cells #[.slice A m c, .int .i64 (m : Int), .int .i64 (markL j (L.take m)), .int .i64 (idleQ j t), .bool true] 26)) = V at *
          have hsV : w.heap.size + 2 ≤ V.heap.size := by have := bS3.lt; omega
          have hl2 := stepI_len j L m
          go_upto_region 16 with (at_builtin; refine wpList_append_any _ rfl (.tmp 55) (.tmp 56) 27 rfl (w.heap.size + 2) 43 ii _ 11 104 Try.underlying27 hi0 hz0 hz1 hz2 rfl (by decide) _ (accI j L k q).length (itms (accI j L k q)) rfl o3 V.heap.size A2 (stepI j L m).length c2 (itms (stepI j L m)) rfl rd3 (itms_one _) (by unfold maxLen; omega) (by omega) hsV ?_; intro v4 w4 hown hgrow hnb; have bS4 := blk_far bS3 o3 zS hgrow; have bJ4 := blk_far bJ3 o3 (show w.heap.size < w.heap.size + 2 by omega) hgrow)
          have k4 : Below w.heap.size w w4 := k3.grown hgrow (by omega) (fun g hg => by have := (o3.lt g hg).1; omega)
          have s4' : w.heap.size + 2 ≤ w4.heap.size := by have := hgrow.size; omega
          rw [← List.length_append, ← itms_append] at hown
          go_wp2
          go_roundw
          case rel => exact ⟨q + 1, v4, rfl, by go_num, by omega, k4, s4', bJ4, by rw [HAc.out]; exact hown, .inr ⟨by omega, bS4⟩⟩
          case measure => simp [intOf]; omega

    · have lS := bS.lt
      have hN := next_doneQ (j := j) (z := idleQ j T) HJ.out HI.out ⟨hIQ.1, by omega⟩
      rw [HLl.out] at hN
      have HN := Lib.hid hN
      have HQK := Lib.hid (show m - k + 1 = q by omega)
      clear hN
      have j0 : wr.cell? ⟨w.heap.size, 0, none⟩ = some (.int .i64 j.groups) := bJ.cell 0
      have j1 : wr.cell? ⟨w.heap.size, 1, none⟩ = some (.int .i64 j.size) := bJ.cell 1
      have j2 : wr.cell? ⟨w.heap.size, 2, none⟩ = some (.int .i64 j.slide) := bJ.cell 2
      have j3 : wr.cell? ⟨w.heap.size, 3, none⟩ = some (.int .i64 j.fold) := bJ.cell 3
      have j4 : wr.cell? ⟨w.heap.size, 4, none⟩ = some (.int .i64 j.fuel) := bJ.cell 4
      have j5 : wr.cell? ⟨w.heap.size, 5, none⟩ = some (.int .i64 j.limit) := bJ.cell 5
      have j6 : wr.cell? ⟨w.heap.size, 6, none⟩ = some (.int .i64 j.delay) := bJ.cell 6
      have j7 : wr.cell? ⟨w.heap.size, 7, none⟩ = some (.int .i64 j.idle) := bJ.cell 7
      have s0 : wr.cell? ⟨w.heap.size + 1, 0, none⟩ = some (.slice A m c) := bS.cell 0
      have s1 : wr.cell? ⟨w.heap.size + 1, 1, none⟩ = some (.int .i64 (m : Int)) := bS.cell 1
      have s2 : wr.cell? ⟨w.heap.size + 1, 2, none⟩ = some (.int .i64 (markL j (L.take m))) := bS.cell 2
      have s3 : wr.cell? ⟨w.heap.size + 1, 3, none⟩ = some (.int .i64 (idleQ j T)) := bS.cell 3
      have s4 : wr.cell? ⟨w.heap.size + 1, 4, none⟩ = some (.bool true) := bS.cell 4
      go_wp2_with fail
      refine (nextP_any j ⟨L, (m : Int), (markL j (L.take m)), idleQ j T, true⟩ A m c _ hj ⟨hs, hv⟩ hrd hm).mono ?_
      rw [HN.out]
      rintro e w2 ⟨hb2, (⟨hz, _⟩ | ⟨_, rfl⟩)⟩
      · exact absurd hz (by simp)
      have k2 := hB.trans (hb2.mono hB.size)
      have o2 := own_below ho hb2
      have bS2 := bS.below hb2 lS
      have t4 : w2.cell? ⟨w.heap.size + 1, 4, none⟩ = some (.bool true) := bS2.cell 4
      have lS2 := bS2.lt
      have y2 := k2.size
      clear j0 j1 j2 j3 j4 j5 j6 j7 s0 s1 s2 s3 s4
      go_wp2
      refine bodyPost_ret (v := .tuple #[.slice A0 (accI j L k q).length c0, .int .i64 q, .bool true]) (by simp [results, Try.results21, go_sem]) rfl ?_
      rw [HQK.out]
      exact ⟨A0, c0, rfl, reads_alloc (Reads.of_own o2), by go_grown⟩

end Go.Proofs.Ytmlejdcanlgpdaa
