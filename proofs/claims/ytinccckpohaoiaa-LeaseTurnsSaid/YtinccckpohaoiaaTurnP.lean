/- Plain law of LeaseTurns: what the grants and the giving back make. -/
import Derived.Test.YtinccckpohaoiaaLse11
namespace Go.Proofs.Ytinccckpohaoiaa
open Go.RowKit
set_option linter.unusedVariables false
set_option linter.unusedSimpArgs false

theorem clampZ_in {t : Int} (h : 0 ≤ t) (h' : t ≤ 1099511627776) : clampZ t = t := by unfold clampZ; (repeat' split) <;> omega
theorem addZ_in {a b : Int} (ha : 0 ≤ a) (hb : 0 ≤ b) (h : a + b ≤ 1099511627776) : addZ a b = a + b := by
  unfold addZ
  rw [clampZ_in ha (by omega), clampZ_in hb (by omega), clampZ_in (by omega) h]

theorem ownL_at {t : Int} {ls : List Lse} {i : Nat} (h : i < (ownL t ls).length) (h' : i < ls.length) : (ownL t ls)[i] = if countsB t ls[i] then ls[i].own else 0 := List.getElem_map _
theorem freeL_at {p i : Nat} (h : i < (freeL p).length) : (freeL p)[i] = ⟨0, 0, 0⟩ := by simp [freeL]
theorem free_right {p : Nat} (h : 1 ≤ p ∧ p ≤ 32) : rightT (freeL p) 0 = true := by
  refine rightT_iff2.2 ⟨by rw [freeL_length]; exact h, by omega, fun i hi => ?_, fun i j hi hj hij h0 => ?_⟩
  · rw [freeL_at hi]; decide
  · rw [freeL_at hj] at h0; simp at h0

/-- A group is granted that nobody has. -/
theorem grant_free {ls : List Lse} {last wk now long : Int} {G : Nat} (h : rightT ls last = true) (hG : G < ls.length) (hw : 1 ≤ wk ∧ wk ≤ 99) (hc : countsB now ls[G] = false) (hl : last < 1073741824) :
    grantZ ls last G wk now long = ((ls.set G ⟨wk, last + 1, addZ now long⟩, last + 1), last + 1, 0) ∧ rightT (ls.set G ⟨wk, last + 1, addZ now long⟩) (last + 1) = true := by
  have hb := (rightT_iff.1 h).2.1
  constructor
  · unfold grantZ
    rw [if_neg (by rw [hasT_mk h hG]; simp; omega), lseAt_nat hG, hc, if_neg (by simp), if_neg (by omega), Int.toNat_natCast]
  · have ha := clampZ_bd (clampZ now + clampZ long)
    refine right_set h (by omega) (by omega) (badB_false.2 ?_) fun i hi hne h0 => ?_
    · simp only
      unfold addZ
      omega
    · have := badB_false.1 ((rightT_iff2.1 h).2.2.1 i hi)
      simp only
      omega

section
variable {p G : Nat} {a b nw lg : Int} (hp : 1 ≤ p ∧ p ≤ 32) (hG : G < p) (ha : 1 ≤ a ∧ a ≤ 99) (hb : 1 ≤ b ∧ b ≤ 99) (hn : 0 ≤ nw ∧ nw ≤ 1073741824) (hl : 1 ≤ lg ∧ lg ≤ 1073741824)
/-- The table behind the first grant. -/
def turnM (p G : Nat) (a nw lg : Int) : List Lse := (freeL p).set G ⟨a, 1, nw + lg⟩
theorem turnM_len : (turnM p G a nw lg).length = p := by unfold turnM; rw [List.length_set, freeL_length]
theorem turnM_at (h : G < (turnM p G a nw lg).length) : (turnM p G a nw lg)[G] = ⟨a, 1, nw + lg⟩ := List.getElem_set_self _
include hp hG ha hn hl in
theorem turn_first : grantZ (freeL p) 0 G a nw lg = ((turnM p G a nw lg, 1), 1, 0) ∧ rightT (turnM p G a nw lg) 1 = true := by
  have h := grant_free (now := nw) (long := lg) (free_right hp) (by rw [freeL_length]; exact hG) ha (by rw [freeL_at]; simp [countsB]) (by omega)
  rw [addZ_in hn.1 (by omega) (by omega)] at h
  exact h
include hp hG ha hn hl in
theorem turn_fence : fencedB (turnM p G a nw lg) 1 G 1 = false := by
  have hR := (turn_first hp hG ha hn hl).2
  have hlen : G < (turnM p G a nw lg).length := by rw [turnM_len]; exact hG
  unfold fencedB
  rw [hasT_mk hR hlen, lseAt_nat hlen, turnM_at]
  simp
  omega
include hp hG ha hn hl in
theorem turn_owners (t : Int) : ownersZ (turnM p G a nw lg) 1 t = ownL t (turnM p G a nw lg) := by
  unfold ownersZ
  rw [(turn_first hp hG ha hn hl).2]
  rfl
theorem turn_own_len (t : Int) : (ownL t (turnM p G a nw lg)).length = p := by unfold ownL; rw [List.length_map, turnM_len]
include ha hn hl hG in
theorem turn_before (h : G < (ownL (nw + lg - 1) (turnM p G a nw lg)).length) : (ownL (nw + lg - 1) (turnM p G a nw lg))[G] = a := by
  rw [ownL_at h (by rw [turnM_len]; exact hG), turnM_at, show countsB (nw + lg - 1) ⟨a, 1, nw + lg⟩ = true from by unfold countsB; rw [clampZ_in (by omega) (by omega)]; simp; omega]
  rfl
include hn hl hG in
theorem turn_behind (h : G < (ownL (nw + lg) (turnM p G a nw lg)).length) : (ownL (nw + lg) (turnM p G a nw lg))[G] = 0 := by
  rw [ownL_at h (by rw [turnM_len]; exact hG), turnM_at, show countsB (nw + lg) ⟨a, 1, nw + lg⟩ = false from by unfold countsB; rw [clampZ_in (by omega) (by omega)]; simp]
  rfl
include hp hG ha hb hn hl in
theorem turn_refused : grantZ (turnM p G a nw lg) 1 G b (nw + lg - 1) lg = (([], 0), 0, 160) := by
  have hR := (turn_first hp hG ha hn hl).2
  have hlen : G < (turnM p G a nw lg).length := by rw [turnM_len]; exact hG
  unfold grantZ
  rw [if_neg (by rw [hasT_mk hR hlen]; simp; omega), lseAt_nat hlen, turnM_at, show countsB (nw + lg - 1) ⟨a, 1, nw + lg⟩ = true from by unfold countsB; rw [clampZ_in (by omega) (by omega)]; simp; omega, if_pos rfl]
include hp hG ha hb hn hl in
theorem turn_next : grantZ (turnM p G a nw lg) 1 G b (nw + lg) lg = (((turnM p G a nw lg).set G ⟨b, 2, addZ (nw + lg) lg⟩, 2), 2, 0) := by
  have hR := (turn_first hp hG ha hn hl).2
  have hlen : G < (turnM p G a nw lg).length := by rw [turnM_len]; exact hG
  exact (grant_free (now := nw + lg) (long := lg) hR hlen hb (by rw [turnM_at]; unfold countsB; rw [clampZ_in (by omega) (by omega)]; simp) (by omega)).1
include hp hG ha hn hl in
theorem turn_give : giveZ (turnM p G a nw lg) 1 G 1 = (((turnM p G a nw lg).set G ⟨0, 1, 0⟩, 1), 0) := by
  have hR := (turn_first hp hG ha hn hl).2
  have hlen : G < (turnM p G a nw lg).length := by rw [turnM_len]; exact hG
  unfold giveZ
  rw [if_neg (by rw [hasT_mk hR hlen]; simp), turn_fence hp hG ha hn hl, if_neg (by simp), Int.toNat_natCast]
include hp hG ha hn hl in
theorem turn_given : rightT ((turnM p G a nw lg).set G ⟨0, 1, 0⟩) 1 = true := by
  have hR := (turn_first hp hG ha hn hl).2
  have hlen : G < (turnM p G a nw lg).length := by rw [turnM_len]; exact hG
  refine right_set hR (by omega) (by omega) (by decide) fun i hi hne h0 => ?_
  have := right_tok hR hi hlen hne (by rw [turnM_at]; simp)
  rw [turnM_at] at this
  exact this
include hp hG ha hb hn hl in
theorem turn_last : grantZ ((turnM p G a nw lg).set G ⟨0, 1, 0⟩) 1 G b nw lg = (((turnM p G a nw lg).set G ⟨b, 2, addZ nw lg⟩, 2), 2, 0) := by
  have hR := turn_given hp hG ha hn hl
  have hlen : G < ((turnM p G a nw lg).set G ⟨0, 1, 0⟩).length := by rw [List.length_set, turnM_len]; exact hG
  have h := (grant_free (now := nw) (long := lg) hR hlen hb (by simp [countsB]) (by omega)).1
  rw [List.set_set] at h
  exact h
include hG in
theorem turn_f2 : fencedB ((turnM p G a nw lg).set G ⟨b, 2, addZ (nw + lg) lg⟩) 2 G 1 = true := by
  have hlen : G < ((turnM p G a nw lg).set G ⟨b, 2, addZ (nw + lg) lg⟩).length := by rw [List.length_set, turnM_len]; exact hG
  unfold fencedB
  rw [lseAt_nat hlen]
  simp
include hG in
theorem turn_f3 : fencedB ((turnM p G a nw lg).set G ⟨0, 1, 0⟩) 1 G 1 = true := by
  have hlen : G < ((turnM p G a nw lg).set G ⟨0, 1, 0⟩).length := by rw [List.length_set, turnM_len]; exact hG
  unfold fencedB
  rw [lseAt_nat hlen]
  simp
end
end Go.Proofs.Ytinccckpohaoiaa
