/- Walk of the source reference's Next, whole. -/
import Derived.Test.YtmlejdcanlgpdaaSrcR4
namespace Go.Proofs.Ytmlejdcanlgpdaa
open Go.RowKit
set_option linter.unusedVariables false
set_option linter.unusedSimpArgs false

set_option maxHeartbeats 1000000 in
theorem refNext_any (j : Jb) (s : Sr) (A : Option Addr) (n c : Nat) (w : World) (hj : j.Wf) (hs : s.Wf) (hr : Reads w w.heap.size 3 A n (evs s.evs)) (hm : n ≤ 9223372036854775807) :
    Calls Try.prog 10 #[.agg #[.int .i64 j.groups, .int .i64 j.size, .int .i64 j.slide, .int .i64 j.fold, .int .i64 j.fuel, .int .i64 j.limit, .int .i64 j.delay, .int .i64 j.idle], .agg #[.slice A n c, .int .i64 s.done, .int .i64 s.mark, .int .i64 s.quiet, .bool s.ended]] w (StepPost A n c (nextR j s) w) := by
  by_cases hC : checkS j s = 0
  · obtain ⟨hJ, hB⟩ := checkS_ok hC
    have hsr := srcB_iff.1 hB
    have hl := evs_len hr
    have hl2 := srcB_len hB
    have hz : s.ended = false → nextR j s = nextZ j s := fun h => by unfold nextR; rw [if_neg (by rw [hJ]; simp), if_neg (by rw [hB]; simp), if_neg (by rw [h]; simp)]
    by_cases h2 : s.ended = true
    · have hz : nextR j s = (zeroS, [], 210) := by unfold nextR; rw [if_neg (by rw [hJ]; simp), if_neg (by rw [hB]; simp), if_pos h2]
      rw [hz]
      exact refNext_ended j s A n c w hj hs hr hm hC h2
    have h2' : s.ended = false := by simpa using h2
    rw [hz h2']
    obtain ⟨k, hk⟩ := Int.eq_ofNat_of_zero_le hsr.2.1.1
    have hkn : k ≤ n := by omega
    by_cases hn : k = n
    · have e : nextZ j s = (⟨s.evs, s.done, s.mark, s.quiet, true⟩, [markIt 1099511627776], 0) := by
        unfold nextZ
        rw [if_neg h2, hk, Int.toNat_natCast, List.getElem?_eq_none (by omega)]
      rw [e]
      exact refNext_end j s A n c w hj hs hr hm hC h2' (by omega)
    · have hlt : k < s.evs.length := by omega
      obtain ⟨x, hx⟩ : ∃ x, s.evs[k] = x := ⟨_, rfl⟩
      have hx' : ∀ h : k < s.evs.length, s.evs[k] = x := fun _ => hx
      have e : nextZ j s = (⟨s.evs, (k : Int) + 1, markZ j s.mark x, 0, s.ended⟩, toldE j s.mark x ++ toldM j s.mark x, 0) := by
        unfold nextZ
        rw [if_neg h2, hk, Int.toNat_natCast, List.getElem?_eq_getElem hlt, hx, h2']
      rw [e]
      clear e
      by_cases h3 : s.mark ≤ x.at_
      · have e1 : toldE j s.mark x = [⟨1, ⟨x.key, x.at_, (runZ (maxZ j.limit) (fuelZ j.fuel).toNat x.v).1⟩, 0⟩] := if_pos h3
        by_cases h5 : s.mark < subZ x.at_ j.delay
        · have e2 : toldM j s.mark x = [markIt (subZ x.at_ j.delay)] := if_pos h5
          have e3 : markZ j s.mark x = subZ x.at_ j.delay := if_pos h5
          rw [e1, e2, e3]
          exact refNext_km j s A n c w hj hs hr hm hC h2' k hk (by omega) (by omega) x hx' _ (Lib.hid rfl) _ (Lib.hid rfl) h3 h5
        · have e2 : toldM j s.mark x = [] := if_neg h5
          have e3 : markZ j s.mark x = s.mark := if_neg h5
          rw [e1, e2, e3]
          exact refNext_k j s A n c w hj hs hr hm hC h2' k hk (by omega) (by omega) x hx' _ (Lib.hid rfl) _ (Lib.hid rfl) h3 h5
      · have e1 : toldE j s.mark x = [] := if_neg h3
        by_cases h5 : s.mark < subZ x.at_ j.delay
        · have e2 : toldM j s.mark x = [markIt (subZ x.at_ j.delay)] := if_pos h5
          have e3 : markZ j s.mark x = subZ x.at_ j.delay := if_pos h5
          rw [e1, e2, e3]
          exact refNext_m j s A n c w hj hs hr hm hC h2' k hk (by omega) (by omega) x hx' _ (Lib.hid rfl) _ (Lib.hid rfl) h3 h5
        · have e2 : toldM j s.mark x = [] := if_neg h5
          have e3 : markZ j s.mark x = s.mark := if_neg h5
          rw [e1, e2, e3]
          exact refNext_n j s A n c w hj hs hr hm hC h2' k hk (by omega) (by omega) x hx' _ (Lib.hid rfl) _ (Lib.hid rfl) h3 h5
  · rw [nextR_bad hC]
    exact refNext_bad j s A n c w hj hs hr hm _ rfl hC

end Go.Proofs.Ytmlejdcanlgpdaa
