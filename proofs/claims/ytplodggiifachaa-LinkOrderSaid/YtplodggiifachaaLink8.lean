/- Walk of the reference's LikePackets. -/
import Derived.Test.YtplodggiifachaaLink7
namespace Go.Proofs.Ytplodggiifachaa
open Go.RowKit
set_option linter.unusedVariables false
set_option linter.unusedSimpArgs false

theorem pkCells_len (ep : Int) : ∀ (zs : List ByteArray) (base : Int), (pkCells ep base zs).length = zs.length * 3
  | [], _ => rfl
  | z :: zs, base => by rw [pkCells]; simp only [List.length_cons, pkCells_len ep zs (base + 1)]; omega
theorem pkCells_at (ep : Int) : ∀ (zs : List ByteArray) (base : Int) (k : Nat) (h : k < zs.length), (pkCells ep base zs)[k * 3]? = some (.int .i64 ep) ∧ (pkCells ep base zs)[k * 3 + 1]? = some (.int .i64 (base + k)) ∧ (pkCells ep base zs)[k * 3 + 2]? = some (.string zs[k])
  | [], _, k, h => by simp at h
  | z :: zs, base, 0, h => by simp [pkCells]
  | z :: zs, base, k + 1, h => by
    have h' := pkCells_at ep zs (base + 1) k (by simpa using h)
    rw [pkCells, show (k + 1) * 3 = k * 3 + 3 from by omega, show k * 3 + 3 + 1 = k * 3 + 1 + 3 from by omega, show k * 3 + 3 + 2 = k * 3 + 2 + 3 from by omega]
    have e : base + ((k + 1 : Nat) : Int) = base + 1 + k := by omega
    rw [e]
    simpa using h'
theorem add_pos_eq (a : Addr) {n : Nat} (h : n ≠ 0) : a.add n = ⟨a.block, a.off + n, none⟩ := by unfold Addr.add; rw [if_neg h]
theorem pk_at {w : World} {B n : Nat} {A : Option Addr} {ep base : Int} {zs : List ByteArray} (h : Reads w B 3 A n (pkCells ep base zs)) {k : Nat} (hk : k < n) :
    ∃ (ad : Addr) (hl : k < zs.length), A = some ad ∧ w.cell? (ad.add (k * 3)) = some (.int .i64 ep) ∧ w.cell? ⟨(ad.add (k * 3)).block, (ad.add (k * 3)).off + 1, none⟩ = some (.int .i64 (base + k)) ∧ w.cell? ⟨(ad.add (k * 3)).block, (ad.add (k * 3)).off + 2, none⟩ = some (.string zs[k]) := by
  obtain ⟨hlen, h2⟩ := h
  rw [pkCells_len] at hlen
  obtain ⟨ad, rfl, hb, hc⟩ := h2 (by omega)
  have hl : k < zs.length := by omega
  obtain ⟨e0, e1, e2⟩ := pkCells_at ep zs base k hl
  exact ⟨ad, hl, rfl, hc _ _ e0, by rw [← add_pos_eq _ (by omega : (1 : Nat) ≠ 0), add_of_add]; exact hc _ _ e1, by rw [← add_pos_eq _ (by omega : (2 : Nat) ≠ 0), add_of_add]; exact hc _ _ e2⟩

set_option maxHeartbeats 1000000 in
theorem likePackets_same (ep base : Int) (zs : List ByteArray) (A B : Option Addr) (n c d : Nat) (w : World) (ha : Reads w w.heap.size 3 A n (pkCells ep base zs)) (hb : Reads w w.heap.size 3 B n (pkCells ep base zs)) (hm : n ≤ 9223372036854775807) :
    Calls Try.prog 22 #[.slice A n c, .slice B n d] w fun e w' => e = .returned (.bool true) ∧ Below w.heap.size w w' := by
  go_enter Try.func22, Try.ntmps22
  go_wp2
  go_loopw [13] (fun i wr => ∃ k : Nat, k ≤ n ∧ i = .int .i64 k ∧ Below w.heap.size w wr) (fun i _ => n - (intOf i).toNat)
  case atStart => exact ⟨0, Nat.zero_le _, rfl, Below.refl _ _⟩
  case round =>
    obtain ⟨k, hk, rfl, hB⟩ := hrel
    by_cases hlt : k < n
    · obtain ⟨ad, hl, rfl, d0, d1, d2⟩ := pk_at (ha.below hB) hlt
      obtain ⟨bd, hl', rfl, e0, e1, e2⟩ := pk_at (hb.below hB) hlt
      generalize zs[k] = x at *
      go_wp2_with fail
      go_quiet (fail)
      go_wp2
      go_roundw
      case rel => exact ⟨k + 1, by omega, by go_num, below_drewN hB nq⟩
      case measure => simp [intOf]; omega
    · go_wp2
      go_ret
      exact ⟨rfl, hB⟩

theorem tickT_len (s : Snd) (n : Nat) (hn : s.bodies.length = n) {b : Bool} : (if b then n else 0) = (if b then s.bodies else []).length := by cases b <;> simp [hn]
theorem tick_cells (ep base : Int) (zs : List ByteArray) (b : Bool) : (if b then pkCells ep base zs else []) = pkCells ep base (if b then zs else []) := by cases b <;> rfl
end Go.Proofs.Ytplodggiifachaa
