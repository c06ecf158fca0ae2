/- Walks of the reference's Like, of lease.New, and of the law's alive and small. -/
import Derived.Test.YtinccckpohaoiaaLse7
namespace Go.Proofs.Ytinccckpohaoiaa
open Go.RowKit
set_option linter.unusedVariables false
set_option linter.unusedSimpArgs false

set_option maxHeartbeats 1000000 in
/-- Two tables that read as the same one are alike. -/
theorem like_same (last : Int) (ls : List Lse) (A B : Option Addr) (n c d : Nat) (w : World) (ha : Reads w w.heap.size 3 A n (flat ls)) (hb : Reads w w.heap.size 3 B n (flat ls)) (hm : n ≤ 9223372036854775807) :
    Calls Try.prog 11 #[.agg #[.slice A n c, .int .i64 last], .agg #[.slice B n d, .int .i64 last]] w fun e w' => e = .returned (.bool true) ∧ Below w.heap.size w w' := by
  go_enter Try.func11, Try.ntmps11
  go_wp2
  go_loopw [23] (fun i wr => ∃ k : Nat, k ≤ n ∧ i = .int .i64 k ∧ Below w.heap.size w wr ∧ Blk wr w.heap.size 24 #[.slice A n c, .int .i64 last] ∧ Blk wr (w.heap.size + 1) 24 #[.slice B n d, .int .i64 last])
    (fun i _ => n - (intOf i).toNat)
  case atStart => exact ⟨0, Nat.zero_le _, rfl, by go_grown, (Blk.new _ _ _).alloc _, by simpa using Blk.new (w.alloc (.cells #[.slice A n c, .int .i64 last] 24)) 24 #[.slice B n d, .int .i64 last]⟩
  case round =>
    obtain ⟨k, hk, rfl, hB, kA, kB⟩ := hrel
    have a0 := kA.cell 0
    have b0 := kB.cell 0
    simp at a0 b0
    by_cases hlt : k < n
    · obtain ⟨ad, hl, rfl, _, d0, d1, d2⟩ := lse_at (ha.below hB) hlt
      obtain ⟨bd, hl', rfl, _, e0, e1, e2⟩ := lse_at (hb.below hB) hlt
      generalize ls[k] = x at *
      obtain ⟨ow, tk, ti⟩ := x
      simp only at d0 d1 d2 e0 e1 e2
      go_wp2_with fail
      go_quiet (fail)
      go_wp2
      go_roundw
      case rel => exact ⟨k + 1, by omega, by go_num, below_drewN hB nq, kA.drewN nq, kB.drewN nq⟩
      case measure => simp [intOf]; omega
    · go_wp2
      go_ret
      exact ⟨rfl, hB⟩

/-- So many leases of nobody's. -/
def freeL (n : Nat) : List Lse := List.replicate n ⟨0, 0, 0⟩
theorem freeL_length (n : Nat) : (freeL n).length = n := by simp [freeL]
theorem made_flat (n : Nat) : madeCells (Value.agg #[.int .i64 0, .int .i64 0, .int .i64 0]).cells (n * 3) = (flat (freeL n)).toArray := by
  apply Array.ext
  · rw [size_madeCells]
    simp [flat_length, freeL_length]
  · intro i h1 h2
    rw [size_madeCells] at h1
    have e : (madeCells (Value.agg #[.int .i64 0, .int .i64 0, .int .i64 0]).cells (n * 3))[i] = .int .i64 0 := by
      simp only [madeCells, Value.cells, Array.getElem_map, Array.getElem_range]
      have : i % 3 = 0 ∨ i % 3 = 1 ∨ i % 3 = 2 := by omega
      rcases this with h | h | h <;> simp [h]
    rw [e]
    have hf : ∀ u ∈ flat (freeL n), u = .int .i64 0 := by
      intro u hu
      obtain ⟨l, hl, h⟩ := List.mem_flatMap.1 hu
      have := List.eq_of_mem_replicate hl
      subst this
      simp [Lse.vals] at h
      exact h
    exact (hf _ (by simp)).symm

/-- What is made of so many groups. -/
def newZ (g : Int) : (List Lse × Int) × Int := if 1 ≤ g ∧ g ≤ 32 then ((freeL g.toNat, 0), 0) else (([], 0), 1)
def NewPost (r : (List Lse × Int) × Int) (w : World) (e : Ending) (w' : World) : Prop :=
  ∃ A c, e = .returned (.tuple #[.agg #[.slice A r.1.1.length c, .int .i64 r.1.2], .int .i64 r.2]) ∧ Reads w' w'.heap.size 3 A r.1.1.length (flat r.1.1) ∧ r.1.1.length ≤ c ∧ (∀ ad, A = some ad → w.heap.size ≤ ad.block) ∧ Below w.heap.size w w'

theorem reads_new (w : World) (t : TypeId) (ls : List Lse) (n : Nat) (hn : ls.length = n) : Reads (w.alloc (.cells (flat ls).toArray t)) (w.alloc (.cells (flat ls).toArray t)).heap.size 3 (some ⟨w.heap.size, 0, none⟩) n (flat ls) := by
  refine ⟨by rw [flat_length, hn], fun _ => ⟨_, rfl, by simp, fun j u hu => ?_⟩⟩
  have had : (⟨w.heap.size, 0, none⟩ : Addr).add j = ⟨w.heap.size, j, none⟩ := by
    unfold Addr.add
    split
    · subst_vars; rfl
    · simp
  rw [had, (Blk.new w t _).cell j]
  simpa using hu

set_option maxHeartbeats 1000000 in
theorem new_any (g : Int) (w : World) : Calls Try.prog 10 #[.int .i64 g] w (NewPost (newZ g) w) := by
  obtain ⟨i0, hi, hz0, hz1, hz2⟩ := info_parts infoLse
  by_cases h : 1 ≤ g ∧ g ≤ 32
  · obtain ⟨n, rfl⟩ : ∃ n : Nat, g = n := ⟨g.toNat, by omega⟩
    have hn : n ≤ 32 := by omega
    have hn1 : 1 ≤ (n : Int) := h.1
    have hn2 : (n : Int) ≤ 32 := h.2
    rw [show newZ n = ((freeL n, 0), 0) from by unfold newZ; rw [if_pos h, Int.toNat_natCast]]
    obtain ⟨F, hF⟩ : ∃ F, (flat (freeL n)).toArray = F := ⟨_, rfl⟩
    have hmk : ∀ w : World, (Instr.makeSlice 22 (.int .i64 (n : Int)) (.int .i64 (n : Int))).run Try.prog w = .ok (.slice (some ⟨w.heap.size, 0, none⟩) n n) (w.alloc (.cells F 40)) := fun w => by
      have h := run_make (P := Try.prog) w 22 40 i0 _ Try.underlying22 hi hz0 .i64 .i64 n n (by omega) (by omega) (by rw [hz2]; omega) (by omega)
      rw [Int.toNat_natCast, hz1, made_flat, hF] at h
      exact h
    have hR : ∀ w : World, Reads (w.alloc (.cells F 40)) (w.alloc (.cells F 40)).heap.size 3 (some ⟨w.heap.size, 0, none⟩) n (flat (freeL n)) := fun w => by
      rw [← hF]
      exact reads_new w _ _ n (freeL_length n)
    have HR := Lib.hid hR
    clear hR hF
    have hnn : (freeL n).length = n := freeL_length n
    have HN := Lib.hid hnn
    clear hnn
    go_enter Try.func10, Try.ntmps10
    go_wp2
    refine bodyPost_ret (v := .tuple #[.agg #[.slice (some ⟨w.heap.size + 1, 0, none⟩) n n, .int .i64 0], .int .i64 0]) (by simp [results, Try.results10, go_sem, World.cell?_setCell_other]) rfl ⟨some ⟨w.heap.size + 1, 0, none⟩, n, by rw [HN.out], ?_, ?_, fun a e => ?_, by go_grown⟩
    · simp only
      rw [HN.out]
      simpa using HR.out (w.alloc (.cells #[.slice (some ⟨w.heap.size + 1, 0, none⟩) n n, .int .i64 0] 24))
    · simp only; rw [HN.out]; omega
    · injection e with e
      subst e
      simp
  · rw [show newZ g = (([], 0), 1) from by unfold newZ; rw [if_neg h]]
    rcases (show g < 1 ∨ (1 ≤ g ∧ 32 < g) by omega) with h1 | ⟨h1, h2⟩
    · clear h
      go_enter Try.func10, Try.ntmps10
      go_wp2
      exact bodyPost_ret (v := .tuple #[.agg #[.slice none 0 0, .int .i64 0], .int .i64 1]) (by simp [results, Try.results10, go_sem, World.cell?_setCell_other]) rfl ⟨none, 0, rfl, Reads.none_, by simp, fun a e => (by cases e), by go_grown⟩
    · clear h
      go_enter Try.func10, Try.ntmps10
      go_wp2
      exact bodyPost_ret (v := .tuple #[.agg #[.slice none 0 0, .int .i64 0], .int .i64 1]) (by simp [results, Try.results10, go_sem, World.cell?_setCell_other]) rfl ⟨none, 0, rfl, Reads.none_, by simp, fun a e => (by cases e), by go_grown⟩

set_option maxHeartbeats 1000000 in
theorem alive_any (w : World) : Calls Try.prog 12 #[] w fun e w' => e = .returned (.bool true) ∧ Below w.heap.size w w' := by
  go_enter Try.func12, Try.ntmps12
  go_wp2_with fail
  refine (new_any 1 _).mono ?_
  rw [show newZ 1 = ((freeL 1, 0), 0) from rfl]
  rintro e w1 ⟨A, c, rfl, hr, hc, hA, hb1⟩
  simp only [freeL_length] at hr hc ⊢
  obtain ⟨c1, f1⟩ := bcell hb1
  have y1 := hb1.size
  go_wp2
  go_ret
  exact ⟨rfl, by go_grown⟩

set_option maxHeartbeats 1000000 in
theorem small_any (A : Option Addr) (n c : Nat) (last : Int) (w : World) : Calls Try.prog 9 #[.agg #[.slice A n c, .int .i64 last]] w fun e w' => e = .returned (.bool (decide ((n : Int) ≤ 100))) ∧ Below w.heap.size w w' := by
  go_enter Try.func9, Try.ntmps9
  go_wp2
  go_ret
  exact ⟨rfl, by go_grown⟩
end Go.Proofs.Ytinccckpohaoiaa
