/- Walk of SourceIdles. -/
import Derived.Test.YtmlejdcanlgpdaaSrc8
namespace Go.Proofs.Ytmlejdcanlgpdaa
open Go.RowKit
set_option linter.unusedVariables false
set_option linter.unusedSimpArgs false

/-- For how many ticks nothing came, how often and when it was told that a source is idle, behind so many ticks. -/
def quietN (j : Jb) (ended : Bool) (k : Nat) : Int := if j.idle = 0 ∨ ended = true then 0 else k
def toldN (j : Jb) (ended : Bool) (k : Nat) : Int := if 0 < j.idle ∧ j.idle ≤ k ∧ ended = false then 1 else 0
def atN (j : Jb) (ended : Bool) (k : Nat) : Int := if 0 < j.idle ∧ j.idle ≤ k ∧ ended = false then j.idle else 0
theorem tickR_ok {j : Jb} {s : Sr} (h : (tickR j s).2.2 = 0) : jobB j = true ∧ srcB s = true ∧ tickR j s = ((waitZ j s).1, (waitZ j s).2, 0) := by
  unfold tickR at h ⊢
  by_cases hJ : jobB j = false
  · rw [if_pos hJ] at h; simp at h
  · rw [if_neg hJ] at h ⊢
    by_cases hB : srcB s = false
    · rw [if_pos hB] at h; simp at h
    · rw [if_neg hB]
      exact ⟨by simpa using hJ, by simpa using hB, rfl⟩
theorem wait_pos {j : Jb} {s : Sr} (h0 : j.idle = 0 ∨ s.ended = true) : waitZ j s = (s, []) := if_pos (by rcases h0 with h0 | h0 <;> simp [h0])
theorem wait_neg {j : Jb} {s : Sr} (h0 : ¬ (j.idle = 0 ∨ s.ended = true)) (hq : s.quiet < 1048576) : waitZ j s = (⟨s.evs, s.done, s.mark, s.quiet + 1, s.ended⟩, if s.quiet + 1 = j.idle then [noIt 3] else []) :=
  if_neg (by
    rintro (hc | hc | hc)
    · exact h0 (.inl hc)
    · exact h0 (.inr hc)
    · omega)
/-- A tick of a source that is left alone. -/
theorem idle_step {j : Jb} {ls : List Ev} {done mark : Int} {ended : Bool} {k : Nat} (hk : k < 40) (h : (tickR j ⟨ls, done, mark, quietN j ended k, ended⟩).2.2 = 0) :
    jobB j = true ∧ ∃ l, tickR j ⟨ls, done, mark, quietN j ended k, ended⟩ = (⟨ls, done, mark, quietN j ended (k + 1), ended⟩, l, 0) ∧
      ((l = [] ∧ toldN j ended (k + 1) = toldN j ended k ∧ atN j ended (k + 1) = atN j ended k) ∨ (l = [noIt 3] ∧ toldN j ended (k + 1) = toldN j ended k + 1 ∧ atN j ended (k + 1) = k + 1)) := by
  obtain ⟨hJ, hB, hT⟩ := tickR_ok h
  have hi := (jobB_iff.1 hJ).2.2.2.2.2.2
  rw [hT]
  by_cases h0 : j.idle = 0 ∨ ended = true
  · have e1 : quietN j ended k = 0 := if_pos h0
    have e2 : quietN j ended (k + 1) = 0 := if_pos h0
    rw [e1, e2, wait_pos (s := ⟨ls, done, mark, 0, ended⟩) h0]
    refine ⟨hJ, [], rfl, .inl ⟨rfl, ?_, ?_⟩⟩
    · unfold toldN; rcases h0 with h0 | h0 <;> simp [h0]
    · unfold atN; rcases h0 with h0 | h0 <;> simp [h0]
  · have e1 : quietN j ended k = k := if_neg h0
    have e2 : quietN j ended (k + 1) = (k : Int) + 1 := by unfold quietN; rw [if_neg h0]; rfl
    rw [e1, e2, wait_neg (s := ⟨ls, done, mark, k, ended⟩) h0 (by simp only; omega)]
    refine ⟨hJ, _, rfl, ?_⟩
    simp only
    unfold toldN atN
    have h1 : ended = false := by cases ended <;> simp_all
    have h2 : 0 < j.idle := by have : j.idle ≠ 0 := fun e => h0 (.inl e); omega
    by_cases h3 : (k : Int) + 1 = j.idle
    · refine .inr ⟨if_pos h3, ?_, ?_⟩
      · rw [if_pos ⟨h2, by omega, h1⟩, if_neg (fun hc => by have := hc.2.1; omega)]; rfl
      · rw [if_pos ⟨h2, by omega, h1⟩]; omega
    · refine .inl ⟨if_neg h3, ?_, ?_⟩
      · by_cases h4 : j.idle ≤ k
        · rw [if_pos ⟨h2, by omega, h1⟩, if_pos ⟨h2, h4, h1⟩]
        · rw [if_neg (fun hc => by have := hc.2.1; omega), if_neg (fun hc => h4 hc.2.1)]
      · by_cases h4 : j.idle ≤ k
        · rw [if_pos ⟨h2, by omega, h1⟩, if_pos ⟨h2, h4, h1⟩]
        · rw [if_neg (fun hc => by have := hc.2.1; omega), if_neg (fun hc => h4 hc.2.1)]
theorem toldN_bd (j : Jb) (ended : Bool) (k : Nat) : 0 ≤ toldN j ended k ∧ toldN j ended k ≤ 1 := by unfold toldN; split <;> omega

set_option maxHeartbeats 4000000 in
theorem walkIdles (j : Jb) (s : Sr) (A : Option Addr) (n c : Nat) (ticks : Int) (w : World) (hj : j.Wf) (hs : s.Wf) (hr : Reads w w.heap.size 3 A n (evs s.evs)) (hm : n ≤ 9223372036854775807) :
    Calls Try.prog 4 #[.agg #[.int .i64 j.groups, .int .i64 j.size, .int .i64 j.slide, .int .i64 j.fold, .int .i64 j.fuel, .int .i64 j.limit, .int .i64 j.delay, .int .i64 j.idle], .agg #[.slice A n c, .int .i64 s.done, .int .i64 s.mark, .int .i64 s.quiet, .bool s.ended], .int .i64 ticks] w fun e w' => e = .returned (.bool true) ∧ Below w.heap.size w w' := by
  have hmx : ∀ x y : Int, (if x < y then y else x) = max x y := fun x y => by split <;> omega
  have hmn : ∀ x y : Int, (if x < y then x else y) = min y x := fun x y => by split <;> omega
  obtain ⟨m, hM⟩ : ∃ m : Nat, min (max ticks 0) 40 = (m : Int) := ⟨(min (max ticks 0) 40).toNat, by omega⟩
  have hm40 : m ≤ 40 := by omega
  have hM' : min 40 (max ticks 0) = (m : Int) := by omega
  have hM2 : min (max 0 ticks) 40 = (m : Int) := by omega
  have hM3 : min 40 (max 0 ticks) = (m : Int) := by omega
  have hT0 := toldN_bd
  go_enter Try.func4, Try.ntmps4
  go_wp2_with fail
  go_loopw [7, 8, 19] (fun told at_ i wr => ∃ k : Nat, k ≤ m ∧ i = .int .i64 k ∧ told = .int .i64 (toldN j s.ended k) ∧ at_ = .int .i64 (atN j s.ended k) ∧ Below w.heap.size w wr ∧ Blk wr w.heap.size 23 #[.int .i64 j.groups, .int .i64 j.size, .int .i64 j.slide, .int .i64 j.fold, .int .i64 j.fuel, .int .i64 j.limit, .int .i64 j.delay, .int .i64 j.idle] ∧ Blk wr (w.heap.size + 1) 26 #[.slice A n c, .int .i64 s.done, .int .i64 s.mark, .int .i64 (quietN j s.ended k), .bool s.ended]) (fun _ _ i _ => m - (intOf i).toNat)
  case atStart =>
    refine ⟨0, Nat.zero_le _, rfl, ?_, ?_, by go_grown, ?_, ?_⟩
    · rw [show toldN j s.ended 0 = 0 from if_neg (fun hc => by have := hc.1; have := hc.2.1; omega)]
    · rw [show atN j s.ended 0 = 0 from if_neg (fun hc => by have := hc.1; have := hc.2.1; omega)]
    · exact (Blk.new w 23 #[.int .i64 j.groups, .int .i64 j.size, .int .i64 j.slide, .int .i64 j.fold, .int .i64 j.fuel, .int .i64 j.limit, .int .i64 j.delay, .int .i64 j.idle]).alloc _
    · rw [show quietN j s.ended 0 = 0 from by unfold quietN; split <;> rfl]
      simpa using Blk.new (w.alloc (.cells #[.int .i64 j.groups, .int .i64 j.size, .int .i64 j.slide, .int .i64 j.fold, .int .i64 j.fuel, .int .i64 j.limit, .int .i64 j.delay, .int .i64 j.idle] 23)) 26 #[.slice A n c, .int .i64 s.done, .int .i64 s.mark, .int .i64 0, .bool s.ended]
  case round =>
    obtain ⟨k, hk, rfl, rfl, rfl, hB, bJ, bS⟩ := hrel
    have lJ := bJ.lt
    have lS := bS.lt
    have j0 : wr.cell? ⟨w.heap.size, 0, none⟩ = some (.int .i64 j.groups) := bJ.cell 0
    have j1 : wr.cell? ⟨w.heap.size, 1, none⟩ = some (.int .i64 j.size) := bJ.cell 1
    have j2 : wr.cell? ⟨w.heap.size, 2, none⟩ = some (.int .i64 j.slide) := bJ.cell 2
    have j3 : wr.cell? ⟨w.heap.size, 3, none⟩ = some (.int .i64 j.fold) := bJ.cell 3
    have j4 : wr.cell? ⟨w.heap.size, 4, none⟩ = some (.int .i64 j.fuel) := bJ.cell 4
    have j5 : wr.cell? ⟨w.heap.size, 5, none⟩ = some (.int .i64 j.limit) := bJ.cell 5
    have j6 : wr.cell? ⟨w.heap.size, 6, none⟩ = some (.int .i64 j.delay) := bJ.cell 6
    have j7 : wr.cell? ⟨w.heap.size, 7, none⟩ = some (.int .i64 j.idle) := bJ.cell 7
    have s0 : wr.cell? ⟨w.heap.size + 1, 0, none⟩ = some (.slice A n c) := bS.cell 0
    have s1 : wr.cell? ⟨w.heap.size + 1, 1, none⟩ = some (.int .i64 s.done) := bS.cell 1
    have s2 : wr.cell? ⟨w.heap.size + 1, 2, none⟩ = some (.int .i64 s.mark) := bS.cell 2
    have s3 : wr.cell? ⟨w.heap.size + 1, 3, none⟩ = some (.int .i64 (quietN j s.ended k)) := bS.cell 3
    have s4 : wr.cell? ⟨w.heap.size + 1, 4, none⟩ = some (.bool s.ended) := bS.cell 4
    by_cases hlt : k < m
    · have hrd := (hr.below hB).more hB.size
      have hstep := fun h => idle_step (j := j) (ls := s.evs) (done := s.done) (mark := s.mark) (ended := s.ended) (show k < 40 by omega) h
      by_cases hz : (tickR j ⟨s.evs, s.done, s.mark, quietN j s.ended k, s.ended⟩).2.2 = 0
      · obtain ⟨hJ, l, hT, hl⟩ := hstep hz
        clear hstep hz
        rcases hl with ⟨rfl, ht, ha⟩ | ⟨rfl, ht, ha⟩
        · have HT := Lib.hid ht
          have HA := Lib.hid ha
          clear ht ha
          go_wp2_with fail
          refine (tickP_any j ⟨s.evs, s.done, s.mark, quietN j s.ended k, s.ended⟩ A n c _ hj ⟨hs.key, hs.v⟩ hrd hm).mono ?_
          rw [hT]
          rintro e w1 ⟨hb1, (⟨_, v1, rfl, hO⟩ | ⟨hz, _⟩)⟩
          rotate_left
          · exact absurd rfl hz
          obtain ⟨A1, c1, rfl⟩ := own_form hO
          have bS1 := bS.below hb1 lS
          have bJ1 := bJ.below hb1 lJ
          have y1 := hb1.size
          have k1 : Below w.heap.size w w1 := next_below hB hb1
          have fS := bS1.frozen
          have lS1 := bS1.lt
          have t0 : w1.cell? ⟨w.heap.size + 1, 0, none⟩ = some (.slice A n c) := bS1.cell 0
          have t1 : w1.cell? ⟨w.heap.size + 1, 1, none⟩ = some (.int .i64 s.done) := bS1.cell 1
          have t2 : w1.cell? ⟨w.heap.size + 1, 2, none⟩ = some (.int .i64 s.mark) := bS1.cell 2
          have t3 : w1.cell? ⟨w.heap.size + 1, 3, none⟩ = some (.int .i64 (quietN j s.ended k)) := bS1.cell 3
          have t4 : w1.cell? ⟨w.heap.size + 1, 4, none⟩ = some (.bool s.ended) := bS1.cell 4
          have hw7 : IntKind.i64.wrap (toldN j s.ended k + 1) = toldN j s.ended k + 1 := IntWalk.i64_in _ (by have := toldN_bd j s.ended k; omega)
          have hw8 : IntKind.i64.wrap ((k : Int) + 1) = (k : Int) + 1 := IntWalk.i64_in _ (by omega)
          clear hJ hT
          go_wp2
          go_roundw
          case rel =>
            have bZ := (((((bS1.set_ 0 (.slice A n c)).set_ 1 (.int .i64 s.done)).set_ 2 (.int .i64 s.mark)).set_ 3 (.int .i64 (quietN j s.ended (k + 1)))).set_ 4 (.bool s.ended)).alloc (.cells #[.slice A n c, .int .i64 s.done, .int .i64 s.mark, .int .i64 (quietN j s.ended (k + 1)), .bool s.ended] 26)
            have nJS : w.heap.size ≠ w.heap.size + 1 := by omega
            have bY := (((((bJ1.far (p := ⟨w.heap.size + 1, 0, none⟩) nJS (.slice A n c)).far (p := ⟨w.heap.size + 1, 1, none⟩) nJS (.int .i64 s.done)).far (p := ⟨w.heap.size + 1, 2, none⟩) nJS (.int .i64 s.mark)).far (p := ⟨w.heap.size + 1, 3, none⟩) nJS (.int .i64 (quietN j s.ended (k + 1)))).far (p := ⟨w.heap.size + 1, 4, none⟩) nJS (.bool s.ended)).alloc (.cells #[.slice A n c, .int .i64 s.done, .int .i64 s.mark, .int .i64 (quietN j s.ended (k + 1)), .bool s.ended] 26)
            refine ⟨k + 1, by omega, by go_num, by rw [HT.out], by rw [HA.out], ?_, bY, by simpa using bZ⟩
            have e1 := k1.size
            go_grown
          case measure => simp [intOf]; omega
        · have HT := Lib.hid ht
          have HA := Lib.hid ha
          clear ht ha
          go_wp2_with fail
          refine (tickP_any j ⟨s.evs, s.done, s.mark, quietN j s.ended k, s.ended⟩ A n c _ hj ⟨hs.key, hs.v⟩ hrd hm).mono ?_
          rw [hT]
          rintro e w1 ⟨hb1, (⟨_, v1, rfl, hO⟩ | ⟨hz, _⟩)⟩
          rotate_left
          · exact absurd rfl hz
          have hO : w1.ownsRow wr.heap.size 43 11 v1 (0 + 1) (itms [noIt 3]) := hO
          obtain ⟨g, c1, rfl⟩ := own_succ hO
          obtain ⟨ad, ea, hgl, hc⟩ := (Reads.of_own hO).2 (by decide)
          obtain rfl := Option.some.inj ea
          have i0 : w1.cell? ⟨g, 0, none⟩ = some (.int .i64 3) := by simpa [Addr.add, noIt] using hc 0 _ rfl
          have i1 : w1.cell? ⟨g, 1, none⟩ = some (.string ⟨#[]⟩) := by simpa [Addr.add, noIt] using hc 1 _ rfl
          have i2 : w1.cell? ⟨g, 2, none⟩ = some (.int .i64 0) := by simpa [Addr.add, noIt] using hc 2 _ rfl
          have i3 : w1.cell? ⟨g, 3, none⟩ = some (.int .i64 0) := by simpa [Addr.add, noIt] using hc 3 _ rfl
          have i4 : w1.cell? ⟨g, 4, none⟩ = some (.int .i64 0) := by simpa [Addr.add, noIt] using hc 4 _ rfl
          have i5 : w1.cell? ⟨g, 5, none⟩ = some (.int .i64 0) := by simpa [Addr.add, noIt] using hc 5 _ rfl
          have i6 : w1.cell? ⟨g, 6, none⟩ = some (.int .i64 0) := by simpa [Addr.add, noIt] using hc 6 _ rfl
          have i7 : w1.cell? ⟨g, 7, none⟩ = some (.int .i64 0) := by simpa [Addr.add, noIt] using hc 7 _ rfl
          have i8 : w1.cell? ⟨g, 8, none⟩ = some (.string ⟨#[]⟩) := by simpa [Addr.add, noIt] using hc 8 _ rfl
          have i9 : w1.cell? ⟨g, 9, none⟩ = some (.int .i64 0) := by simpa [Addr.add, noIt] using hc 9 _ rfl
          have i10 : w1.cell? ⟨g, 10, none⟩ = some (.int .i64 0) := by simpa [Addr.add, noIt] using hc 10 _ rfl
          have hgS : g ≠ w.heap.size + 1 := by have := (hO.lt g rfl).1; omega
          clear hc
          have bS1 := bS.below hb1 lS
          have bJ1 := bJ.below hb1 lJ
          have y1 := hb1.size
          have k1 : Below w.heap.size w w1 := next_below hB hb1
          have fS := bS1.frozen
          have lS1 := bS1.lt
          have t0 : w1.cell? ⟨w.heap.size + 1, 0, none⟩ = some (.slice A n c) := bS1.cell 0
          have t1 : w1.cell? ⟨w.heap.size + 1, 1, none⟩ = some (.int .i64 s.done) := bS1.cell 1
          have t2 : w1.cell? ⟨w.heap.size + 1, 2, none⟩ = some (.int .i64 s.mark) := bS1.cell 2
          have t3 : w1.cell? ⟨w.heap.size + 1, 3, none⟩ = some (.int .i64 (quietN j s.ended k)) := bS1.cell 3
          have t4 : w1.cell? ⟨w.heap.size + 1, 4, none⟩ = some (.bool s.ended) := bS1.cell 4
          have hw7 : IntKind.i64.wrap (toldN j s.ended k + 1) = toldN j s.ended k + 1 := IntWalk.i64_in _ (by have := toldN_bd j s.ended k; omega)
          have hw8 : IntKind.i64.wrap ((k : Int) + 1) = (k : Int) + 1 := IntWalk.i64_in _ (by omega)
          clear hJ hT
          go_wp2
          go_roundw
          case rel =>
            have bZ := (((((bS1.set_ 0 (.slice A n c)).set_ 1 (.int .i64 s.done)).set_ 2 (.int .i64 s.mark)).set_ 3 (.int .i64 (quietN j s.ended (k + 1)))).set_ 4 (.bool s.ended)).alloc (.cells #[.slice A n c, .int .i64 s.done, .int .i64 s.mark, .int .i64 (quietN j s.ended (k + 1)), .bool s.ended] 26)
            have nJS : w.heap.size ≠ w.heap.size + 1 := by omega
            have bY := (((((bJ1.far (p := ⟨w.heap.size + 1, 0, none⟩) nJS (.slice A n c)).far (p := ⟨w.heap.size + 1, 1, none⟩) nJS (.int .i64 s.done)).far (p := ⟨w.heap.size + 1, 2, none⟩) nJS (.int .i64 s.mark)).far (p := ⟨w.heap.size + 1, 3, none⟩) nJS (.int .i64 (quietN j s.ended (k + 1)))).far (p := ⟨w.heap.size + 1, 4, none⟩) nJS (.bool s.ended)).alloc (.cells #[.slice A n c, .int .i64 s.done, .int .i64 s.mark, .int .i64 (quietN j s.ended (k + 1)), .bool s.ended] 26)
            refine ⟨k + 1, by omega, by go_num, by rw [HT.out], by rw [HA.out], ?_, bY, by simpa using bZ⟩
            have e1 := k1.size
            go_grown
          case measure => simp [intOf]; omega
      · clear hstep
        obtain ⟨R, hR⟩ : ∃ R, tickR j ⟨s.evs, s.done, s.mark, quietN j s.ended k, s.ended⟩ = R := ⟨_, rfl⟩
        rw [hR] at hz
        have hne : (R.2.2 != 0) = true := by simpa using hz
        go_wp2_with fail
        refine (tickP_any j ⟨s.evs, s.done, s.mark, quietN j s.ended k, s.ended⟩ A n c _ hj ⟨hs.key, hs.v⟩ hrd hm).mono ?_
        rw [hR]
        rintro e w1 ⟨hb1, (⟨hz', _⟩ | ⟨_, rfl⟩)⟩
        · exact absurd hz' hz
        clear hR hz
        have k1 : Below w.heap.size w w1 := next_below hB hb1
        go_wp2_with fail
        refine (alive_any _).mono ?_
        rintro e w2 ⟨rfl, hb2⟩
        have k2 : Below w.heap.size w w2 := next_below (by have e1 := k1.size; go_grown) hb2
        go_wp2
        go_ret
        exact ⟨by simp, k2⟩
    · obtain rfl : k = m := by omega
      have key : (toldN j s.ended k = 1 ∧ atN j s.ended k = j.idle ∧ 0 < j.idle ∧ j.idle ≤ k ∧ s.ended = false) ∨ (toldN j s.ended k = 0 ∧ atN j s.ended k = 0 ∧ 0 < j.idle ∧ j.idle ≤ k ∧ s.ended = true) ∨
          (toldN j s.ended k = 0 ∧ atN j s.ended k = 0 ∧ 0 < j.idle ∧ (k : Int) < j.idle ∧ s.ended = s.ended) ∨ (toldN j s.ended k = 0 ∧ atN j s.ended k = 0 ∧ j.idle ≤ 0 ∧ k = k ∧ s.ended = s.ended) := by
        unfold toldN atN
        by_cases h1 : 0 < j.idle
        · by_cases h2 : j.idle ≤ k
          · cases h3 : s.ended
            · exact .inl ⟨by simp [h1, h2], by simp [h1, h2], h1, h2, rfl⟩
            · exact .inr (.inl ⟨by simp, by simp, h1, h2, rfl⟩)
          · exact .inr (.inr (.inl ⟨by simp [h2], by simp [h2], h1, by omega, rfl⟩))
        · exact .inr (.inr (.inr ⟨by simp [h1], by simp [h1], by omega, rfl, rfl⟩))
      rcases key with ⟨ht, ha, h1, h2, h3⟩ | ⟨ht, ha, h1, h2, h3⟩ | ⟨ht, ha, h1, h2, h3⟩ | ⟨ht, ha, h1, h2, h3⟩
      all_goals
        rw [ht, ha]
        try rw [h3] at s4
        clear h3
        go_wp2_with fail
        refine (alive_any _).mono ?_
        rintro e w2 ⟨rfl, hb2⟩
        have k2 : Below w.heap.size w w2 := next_below hB hb2
        have j72 : w2.cell? ⟨w.heap.size, 7, none⟩ = some (.int .i64 j.idle) := (bJ.below hb2 lJ).cell 7
        go_wp2
        go_ret
        exact ⟨by simp, k2⟩

end Go.Proofs.Ytmlejdcanlgpdaa
