/- The walks of chapter 12's laws over a single event. -/
import Derived.Test.YtplfimaopegpmaaLoop
namespace Go.Proofs.Ytplfimaopegpmaa
open Go.RowKit
set_option linter.unusedVariables false

theorem half6 : halfZ 6 = 3 := by decide

set_option maxHeartbeats 1000000 in
theorem walkRuns (key : ByteArray) (at_ v limit fuel : Int) (w : World) (hv : -9223372036854775808 ≤ v ∧ v ≤ 9223372036854775807) (hl : -9223372036854775808 ≤ limit ∧ limit ≤ 9223372036854775807) :
    Calls Try.prog 3 #[.agg #[.string key, .int .i64 at_, .int .i64 v], .int .i64 limit, .int .i64 fuel] w fun e w' => e = .returned (.bool true) ∧ Below w.heap.size w w' := by
  have h6 := half6
  obtain ⟨r, hr⟩ : ∃ r, runZ (maxZ limit) (fuelZ fuel).toNat v = r := ⟨_, rfl⟩
  have HR := Lib.hid hr
  clear hr
  go_enter Try.func3, Try.ntmps3
  go_wp2_with fail
  refine (run_any _ _ _ _ _ _ hv hl.2).mono ?_
  rw [HR.out]
  rintro e w1 ⟨rfl, hb1⟩
  obtain ⟨c1, f1⟩ := bcell hb1
  have z1 : w.heap.size < w1.heap.size := by (have := hb1.size; simp at this; omega)
  have k1 : Below w.heap.size w w1 := next_below (by go_grown) hb1
  go_wp2_with fail
  refine (refRun_any _ _ _ _ _ _ hv hl).mono ?_
  rw [HR.out]
  rintro e w2 ⟨rfl, hb2⟩
  obtain ⟨c2, f2⟩ := bcell hb2
  have z2 : w1.heap.size < w2.heap.size := by (have := hb2.size; simp at this; omega)
  have z02 : w.heap.size < w2.heap.size := by omega
  have z01 : w.heap.size < w1.heap.size + 1 := by omega
  have k2 : Below w.heap.size w w2 := next_below (by go_grown) hb2
  go_wp2_with fail
  go_quiet ((first
    | (go_at_call 11; exact quiet_left (half_any _ _ (by omega)))
    | (go_at_call 12; exact quiet_left (refHalf_any _ _ (by omega)))))
  go_wp2
  go_ret
  exact ⟨rfl, below_drewN (by go_grown) _⟩

/-! The plain laws on runZ. -/
theorem run_le (lim : Int) : ∀ (k k' : Nat) (v : Int), k ≤ k' → (runZ lim k v).2 ≤ (runZ lim k' v).2
  | 0, _, _, _ => Nat.zero_le _
  | k + 1, k', v, h => by
    obtain ⟨k', rfl⟩ : ∃ j, k' = j + 1 := ⟨k' - 1, by omega⟩
    rw [runZ, runZ]
    split
    · exact Nat.le_refl _
    · have := run_le lim k k' (halfZ v) (by omega)
      simp only; omega
theorem run_same (lim : Int) : ∀ (k k' : Nat) (v : Int), k ≤ k' → (runZ lim k v).2 < k → runZ lim k' v = runZ lim k v
  | 0, _, _, _, h => absurd h (Nat.not_lt_zero _)
  | k + 1, k', v, h, h2 => by
    obtain ⟨k', rfl⟩ : ∃ j, k' = j + 1 := ⟨k' - 1, by omega⟩
    rw [runZ] at h2
    rw [runZ, runZ]
    split
    · rfl
    · rename_i hn
      rw [if_neg hn] at h2
      rw [run_same lim k k' (halfZ v) (by omega) (by simpa using h2)]
theorem run_pos (lim : Int) : ∀ (k : Nat) (v : Int), 0 ≤ v → 0 ≤ (runZ lim k v).1 ∧ (runZ lim k v).1 ≤ v
  | 0, v, h => ⟨h, Int.le_refl _⟩
  | k + 1, v, h => by
    rw [runZ]
    split
    · exact ⟨h, Int.le_refl _⟩
    · have e := half_eq v
      rw [if_pos h] at e
      have := run_pos lim k (halfZ v) (by omega)
      simp only; omega
theorem run_neg (lim : Int) : ∀ (k : Nat) (v : Int), v ≤ 0 → (runZ lim k v).1 ≤ 0 ∧ v ≤ (runZ lim k v).1
  | 0, v, h => ⟨h, Int.le_refl _⟩
  | k + 1, v, h => by
    rw [runZ]
    split
    · exact ⟨h, Int.le_refl _⟩
    · have e := half_eq v
      have e' : halfZ v = -((-v) / 2) := by
        rw [e]; split <;> omega
      have := run_neg lim k (halfZ v) (by omega)
      simp only; omega
theorem run_bd (lim : Int) (k : Nat) (v : Int) (hv : -9223372036854775808 ≤ v ∧ v ≤ 9223372036854775807) : -9223372036854775808 ≤ (runZ lim k v).1 ∧ (runZ lim k v).1 ≤ 9223372036854775807 := by
  rcases Int.le_total 0 v with h | h
  · have := run_pos lim k v h; omega
  · have := run_neg lim k v h; omega
theorem run_count (lim : Int) : ∀ (k : Nat) (v : Int), (runZ lim k v).2 ≤ k
  | 0, _ => Nat.le_refl _
  | k + 1, v => by
    rw [runZ]
    split
    · exact Nat.zero_le _
    · have := run_count lim k (halfZ v)
      simp only; omega
theorem run_split (lim : Int) : ∀ (a b : Nat) (v : Int), runZ lim (a + b) v = ((runZ lim b (runZ lim a v).1).1, (runZ lim a v).2 + (runZ lim b (runZ lim a v).1).2)
  | 0, b, v => by simp [runZ]
  | a + 1, b, v => by
    rw [show a + 1 + b = (a + b) + 1 from by omega]
    by_cases h : v ≤ lim ∧ -lim ≤ v
    · rw [runZ_stop h, runZ_stop h, runZ_stop h]; rfl
    · rw [runZ_go h, runZ_go h, run_split lim a b (halfZ v)]
      simp only
      congr 1
      omega

theorem fuelZ_id {f : Int} (h : 0 ≤ f) (h' : f ≤ 40) : fuelZ f = f := by unfold fuelZ; rw [if_neg (by omega), if_neg (by omega)]
theorem fuel_facts (lim f m v : Int) (hf : 0 ≤ f ∧ f ≤ 40) (hm : f ≤ m) : ∃ (p1 : Int) (n1 : Nat) (p2 : Int) (n2 : Nat), runZ lim (fuelZ f).toNat v = (p1, n1) ∧ runZ lim (fuelZ m).toNat v = (p2, n2) ∧ n1 ≤ n2 ∧ (n1 < f → p2 = p1) ∧
    (0 ≤ v → 0 ≤ p1 ∧ p1 ≤ v) ∧ (v < 0 → p1 ≤ 0 ∧ v ≤ p1) := by
  rw [fuelZ_id hf.1 hf.2]
  have hk : f.toNat ≤ (fuelZ m).toNat := by
    have := fuelZ_bd m
    have : f ≤ fuelZ m := by unfold fuelZ; (repeat' split) <;> omega
    omega
  refine ⟨_, _, _, _, rfl, rfl, run_le lim _ _ v hk, fun h => ?_, fun h => run_pos _ _ _ h, fun h => run_neg _ _ _ (by omega)⟩
  rw [run_same lim _ _ v hk (by omega)]

end Go.Proofs.Ytplfimaopegpmaa
