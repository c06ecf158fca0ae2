/- Walk of alive; the plain law of TopFuel. -/
import Derived.Test.YtgaknbgmodmniaaTopRun
namespace Go.Proofs.Ytgaknbgmodmniaa
open Go.RowKit
set_option linter.unusedVariables false
set_option linter.unusedSimpArgs false

set_option maxHeartbeats 1000000 in
theorem alive_any (w : World) : Calls Try.prog 5 #[] w fun e w' => e = .returned (.bool true) ∧ Below w.heap.size w w' := by
  have hrun := fun (V : World) (ad : Addr) (A : Option Addr) (h1 : V.cell? ad = some (.slice A 1 1)) (h2 : ad.block < V.heap.size) (h3 : Reads V V.heap.size 3 A 1 (evs [evA])) => callsIn_wide.1 (runA_in 5 (Nat.le_refl _) ad A 1 V h1 h2 h3)
  have HR := Lib.hid hrun
  clear hrun
  go_enter Try.func5, Try.ntmps5
  go_wp2_with fail
  refine (HR.out _ _ (some ⟨w.heap.size, 0, none⟩) ?h1 ?h2 ?h3).mono ?h4
  case h1 => simp
  case h2 => simp
  case h3 =>
    refine ⟨rfl, fun _ => ⟨_, rfl, by simp; omega, fun j u hu => ?_⟩⟩
    have e : (⟨w.heap.size, 0, none⟩ : Addr).add j = ⟨w.heap.size, j, none⟩ := by
      unfold Addr.add
      split
      · rename_i h
        rw [h]
      · simp
    rw [e, World.cell?_alloc_lt _ _ _ (by simp), (Blk.new w _ _).cell j]
    simpa [evs, evA, Ev.vals] using hu
  case h4 =>
    rintro e w1 ⟨B, d, rfl, hb1⟩
    have k1 : Below w.heap.size w w1 := next_below (by go_grown) hb1
    go_wp2
    go_ret
    exact ⟨rfl, k1⟩

/-- Halved so often. -/
def halfN : Nat → Int → Int
  | 0, v => v
  | k + 1, v => halfZ (halfN k v)
theorem halfN_in : ∀ (k : Nat) (v : Int), halfN k (halfZ v) = halfZ (halfN k v)
  | 0, _ => rfl
  | k + 1, v => by unfold halfN; rw [halfN_in k v]
/-- An event that goes round: no more often than its fuel says; less often just where its amount is within the limit; it is halved as often. -/
theorem runZ_facts (lim : Int) : ∀ (k : Nat) (v : Int), (runZ lim k v).2 ≤ k ∧ ((runZ lim k v).2 < k → (runZ lim k v).1 ≤ lim ∧ -lim ≤ (runZ lim k v).1) ∧ halfN (runZ lim k v).2 v = (runZ lim k v).1
  | 0, v => ⟨Nat.le_refl _, fun h => absurd h (by simp [runZ]), rfl⟩
  | k + 1, v => by
    by_cases h : v ≤ lim ∧ -lim ≤ v
    · rw [runZ_stop h]
      exact ⟨Nat.zero_le _, fun _ => h, rfl⟩
    · rw [runZ_go h]
      obtain ⟨h1, h2, h3⟩ := runZ_facts lim k (halfZ v)
      refine ⟨by simp only; omega, fun h4 => h2 (by simp only at h4; omega), ?_⟩
      simp only
      unfold halfN
      rw [← halfN_in]
      exact h3
theorem halfN_bd : ∀ (k : Nat) {v : Int}, (-9223372036854775808 ≤ v ∧ v ≤ 9223372036854775807) → -9223372036854775808 ≤ halfN k v ∧ halfN k v ≤ 9223372036854775807
  | 0, _, h => h
  | k + 1, _, h => half_bd (halfN_bd k h)
/-- With events that are late by whatever is borne, all are kept. -/
theorem kept_all {j : Jb} (hd : j.delay = 1099511627776) : ∀ (l : List Ev), (∀ e ∈ l, evB e = true) → keptF j 0 l = l.map (runE j)
  | [], _ => rfl
  | e :: l, h => by
    have he := h e (by simp)
    unfold evB at he
    simp at he
    obtain ⟨⟨_, h1⟩, h2⟩ := he
    have h3 : markZ j 0 e = 0 := by
      unfold markZ
      rw [if_neg]
      unfold subZ clampZ
      rw [hd]
      (repeat' split) <;> omega
    have ih := kept_all hd l (fun x hx => h x (by simp [hx]))
    unfold keptF
    rw [h3, if_pos h1, ih]
    rfl
theorem kept_fuel {j : Jb} {l : List Ev} (hd : j.delay = 1099511627776) (h : checkZ j l = 0) : keptZ j l = l.map (runE j) ∧ (0 ≤ j.fuel ∧ j.fuel ≤ 40) ∧ 0 ≤ j.limit := by
  unfold checkZ at h
  by_cases hJ : jobB j = false
  · rw [if_pos hJ] at h; simp at h
  · rw [if_neg hJ] at h
    by_cases hB : inB l = false
    · rw [if_pos hB] at h; simp at h
    · have hJ' : jobB j = true := by simpa using hJ
      have hB' : inB l = true := by simpa using hB
      obtain ⟨_, _, _, h4, h5, _⟩ := jobB_iff.1 hJ'
      refine ⟨?_, h4, h5⟩
      unfold keptZ
      rw [if_pos (by unfold checkZ; rw [if_neg hJ, if_neg hB])]
      unfold inB at hB'
      simp at hB'
      exact kept_all hd l hB'.2
end Go.Proofs.Ytgaknbgmodmniaa
