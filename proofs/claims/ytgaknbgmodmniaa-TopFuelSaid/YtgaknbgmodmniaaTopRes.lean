/- Walks of pane.Right and pane.Results at a row of the one pane. -/
import Derived.Test.YtgaknbgmodmniaaTopPan
namespace Go.Proofs.Ytgaknbgmodmniaa
open Go.RowKit
set_option linter.unusedVariables false
set_option linter.unusedSimpArgs false

/-- The one pane lies at the head of a block. -/
def PanAt (w : World) (g : Nat) : Prop := ∃ cur : Array Value, Blk w g 76 cur ∧ ∀ (k : Nat) (v : Value), paneC[k]? = some v → cur[k]? = some v
theorem PanAt.lt {w : World} {g : Nat} (h : PanAt w g) : g < w.heap.size := by
  obtain ⟨cur, hb, _⟩ := h
  exact hb.lt
theorem PanAt.cell {w : World} {g : Nat} (h : PanAt w g) (k : Nat) (v : Value) (hv : paneC[k]? = some v) : w.cell? ⟨g, k, none⟩ = some v := by
  obtain ⟨cur, hb, hc⟩ := h
  exact (hb.cell k).trans (hc k v hv)
theorem PanAt.heap {w w' : World} {g : Nat} (h : PanAt w g) (e : w'.heap[g]? = w.heap[g]?) : PanAt w' g := by
  obtain ⟨cur, hb, hc⟩ := h
  exact ⟨cur, e.trans hb, hc⟩
theorem PanAt.below {w w' : World} {g : Nat} (h : PanAt w g) (hb : Below w.heap.size w w') : PanAt w' g := h.heap (hb.block g h.lt)
theorem panAt_of_own {w : World} {base : Nat} {A : Option Addr} {c : Nat} (h : w.ownsRow base 76 6 (.slice A 1 c) 1 paneL) : ∃ g, A = some ⟨g, 0, none⟩ ∧ base ≤ g ∧ PanAt w g ∧ 1 ≤ c := by
  obtain ⟨_, hh⟩ := h
  rcases hh with ⟨h0, _⟩ | ⟨g', cap', cur, hv, hg, hb, hnc, hm, hs, ht⟩
  · cases h0
  · injection hv with e1 e2 e3
    subst e1 e3
    have hblk : Blk w g' 76 cur := hb
    refine ⟨g', rfl, hg, ⟨cur, hblk, fun k v hv => ?_⟩, hnc⟩
    rw [← Array.getElem?_toList]
    have hk : k < 6 := (Array.getElem?_eq_some_iff.1 hv).1
    have e : (cur.toList.take (1 * 6))[k]? = cur.toList[k]? := List.getElem?_take_of_lt hk
    rw [← e, ht]
    unfold paneC at hv
    unfold paneL
    simpa using hv

set_option maxHeartbeats 1000000 in
theorem right1_c (g c : Nat) (w : World) (h : PanAt w g) (hc : 1 ≤ c) : Calls Try.prog 30 #[.slice (some ⟨g, 0, none⟩) 1 c] w fun e w' => e = .returned (.bool true) ∧ Below w.heap.size w w' := by
  go_enter Try.func30, Try.ntmps30
  go_wp2
  go_loopw [10] (fun i wr => (i = .int .i64 0 ∧ w = wr) ∨ (i = .int .i64 1 ∧ Below w.heap.size w wr)) (fun i _ => 1 - (intOf i).toNat)
  case atStart => exact .inl ⟨rfl, rfl⟩
  case round =>
    rcases hrel with ⟨rfl, rfl⟩ | ⟨rfl, hB⟩
    · have HP := Lib.hid h
      have p0 : w.cell? ⟨g, 0, none⟩ = some (.int .i64 0) := h.cell 0 _ rfl
      have p1 : w.cell? ⟨g, 1, none⟩ = some (.int .i64 1) := h.cell 1 _ rfl
      have p2 : w.cell? ⟨g, 2, none⟩ = some (.string ⟨#[97]⟩) := h.cell 2 _ rfl
      have p3 : w.cell? ⟨g, 3, none⟩ = some (.int .i64 1) := h.cell 3 _ rfl
      have p4 : w.cell? ⟨g, 4, none⟩ = some (.int .i64 0) := h.cell 4 _ rfl
      have p5 : w.cell? ⟨g, 5, none⟩ = some (.int .i64 0) := h.cell 5 _ rfl
      clear h
      go_upto_region 6 with fail
      have b1 := Blk.new w 76 #[.int .i64 0, .int .i64 1, .string ⟨#[97]⟩, .int .i64 1, .int .i64 0, .int .i64 0]
      have k1 : Below w.heap.size w (w.alloc (.cells #[.int .i64 0, .int .i64 1, .string ⟨#[97]⟩, .int .i64 1, .int .i64 0, .int .i64 0] 76)) := by go_grown
      generalize w.alloc (.cells #[.int .i64 0, .int .i64 1, .string ⟨#[97]⟩, .int .i64 1, .int .i64 0, .int .i64 0] 76) = V at *
      clear p0 p1 p2 p3 p4 p5
      have q0 : V.cell? ⟨w.heap.size, 0, none⟩ = some (.int .i64 0) := b1.cell 0
      have q1 : V.cell? ⟨w.heap.size, 1, none⟩ = some (.int .i64 1) := b1.cell 1
      have q2 : V.cell? ⟨w.heap.size, 2, none⟩ = some (.string ⟨#[97]⟩) := b1.cell 2
      have q3 : V.cell? ⟨w.heap.size, 3, none⟩ = some (.int .i64 1) := b1.cell 3
      have q4 : V.cell? ⟨w.heap.size, 4, none⟩ = some (.int .i64 0) := b1.cell 4
      have q5 : V.cell? ⟨w.heap.size, 5, none⟩ = some (.int .i64 0) := b1.cell 5
      refine wp_region_any (by kernel_rfl) ?_
      change wpAny _ _ _ _ _ _ _ (World.drew _)
      refine wpAny_ready (rs := [0]) (by kernel_rfl) (by simp) ?_
      refine AllReady.cons rfl (fun K hK => ?_) AllReady.nil
      go_simp
      refine hK _ _ ?_
      clear hK K
      refine wpAny_ready (rs := [1]) (by kernel_rfl) (by simp) ?_
      refine AllReady.cons rfl (fun K hK => ?_) AllReady.nil
      go_simp
      go_wp2_with (go_at_call 40; refine (may_c _).mono ?_; rintro e w3 ⟨rfl, hb3⟩; have k3 : Below V.heap.size V w3 := ⟨hb3.os, hb3.tape, hb3.output, hb3.size, hb3.block⟩)
      refine wpAny_ready (rs := [2]) (by kernel_rfl) (by simp) ?_
      refine AllReady.cons rfl (fun K hK => ?_) AllReady.nil
      go_simp
      refine hK _ _ ?_
      clear hK K
      refine wpAny_ready (rs := [3]) (by kernel_rfl) (by simp) ?_
      refine AllReady.cons rfl (fun K hK => ?_) AllReady.nil
      go_simp
      refine hK _ _ ?_
      clear hK K
      refine wpAny_ready (rs := [4]) (by kernel_rfl) (by simp) ?_
      refine AllReady.cons rfl (fun K hK => ?_) AllReady.nil
      go_simp
      refine hK _ _ ?_
      clear hK K
      refine wpAny_ready (rs := [5]) (by kernel_rfl) (by simp) ?_
      refine AllReady.cons rfl (fun K hK => ?_) AllReady.nil
      go_simp
      refine hK _ _ ?_
      clear hK K
      refine wpAny_ready (rs := [6]) (by kernel_rfl) (by simp) ?_
      refine AllReady.cons rfl (fun K hK => ?_) AllReady.nil
      go_simp
      refine hK _ _ ?_
      clear hK K
      refine wpAny_take (i := 7) (v := undef) rfl (by kernel_rfl) (by kernel_rfl) (by kernel_rfl) (fun _ _ _ h => h) (Or.inr ⟨by simp [Region.wanted, yielded, Act.put], rfl⟩) ?_
      refine wpAny_take (i := 8) (v := undef) rfl (by kernel_rfl) (by kernel_rfl) (by kernel_rfl) (fun _ _ _ h => h) (Or.inr ⟨by simp [Region.wanted, yielded, Act.put], rfl⟩) ?_
      refine wpAny_take (i := 9) (v := undef) rfl (by kernel_rfl) (by kernel_rfl) (by kernel_rfl) (fun _ _ _ h => h) (Or.inr ⟨by simp [Region.wanted, yielded, Act.put], rfl⟩) ?_
      refine wpAny_take (i := 10) (v := undef) rfl (by kernel_rfl) (by kernel_rfl) (by kernel_rfl) (fun _ _ _ h => h) (Or.inr ⟨by simp [Region.wanted, yielded, Act.put], rfl⟩) ?_
      refine wpAny_take (i := 11) (v := undef) rfl (by kernel_rfl) (by kernel_rfl) (by kernel_rfl) (fun _ _ _ h => h) (Or.inr ⟨by simp [Region.wanted, yielded, Act.put], rfl⟩) ?_
      refine wpAny_take (i := 12) (v := undef) rfl (by kernel_rfl) (by kernel_rfl) (by kernel_rfl) (fun _ _ _ h => h) (Or.inr ⟨by simp [Region.wanted, yielded, Act.put], rfl⟩) ?_
      refine wpAny_take (i := 13) (v := undef) rfl (by kernel_rfl) (by kernel_rfl) (by kernel_rfl) (fun _ _ _ h => h) (Or.inr ⟨by simp [Region.wanted, yielded, Act.put], rfl⟩) ?_
      refine wpAny_take (i := 14) (v := undef) rfl (by kernel_rfl) (by kernel_rfl) (by kernel_rfl) (fun _ _ _ h => h) (Or.inr ⟨by simp [Region.wanted, yielded, Act.put], rfl⟩) ?_
      refine wpAny_ready (rs := [15]) (by kernel_rfl) (by simp) ?_
      refine AllReady.cons rfl (fun K hK => ?_) AllReady.nil
      go_simp
      refine hK _ _ ?_
      clear hK K
      refine wpAny_ready (rs := [16]) (by kernel_rfl) (by simp) ?_
      refine AllReady.cons rfl (fun K hK => ?_) AllReady.nil
      go_simp
      refine hK _ _ ?_
      clear hK K
      refine wpAny_done (by kernel_rfl) ?_ _
      go_wp2
      go_roundw
      case rel => exact .inr ⟨rfl, next_below k1 k3⟩
      case measure => simp [intOf]
    · go_wp2
      go_ret
      exact ⟨rfl, hB⟩

theorem below_drew1 {B : Nat} {a W : World} (h : Below B a W) : Below B a W.drew := ⟨h.os, h.tape, h.output, h.size, h.block⟩
set_option maxRecDepth 100000 in
set_option maxHeartbeats 2000000 in
theorem results_c (g c : Nat) (w : World) (h : PanAt w g) (hc : 1 ≤ c) : Calls Try.prog 19 #[.int .i64 2, .slice (some ⟨g, 0, none⟩) 1 c] w fun e w' => ∃ A d, e = .returned (.slice A 1 d) ∧ Below w.heap.size w w' := by
  have HP := Lib.hid h
  clear h
  go_enter Try.func19, Try.ntmps19
  go_wp2_with fail
  refine (right1_c g c w HP.out hc).mono ?_
  rintro e w1 ⟨rfl, hb1⟩
  have HP1 := Lib.hid (HP.out.below hb1)
  clear HP
  go_wp2_with fail
  refine (fold_any _ _).mono ?_
  rw [show foldB 2 = true from rfl]
  rintro e w' ⟨rfl, rfl⟩
  go_wp2
  go_loopw [5, 18] (fun o i wr => (i = .int .i64 0 ∧ o = .slice none 0 0 ∧ w1 = wr) ∨ (i = .int .i64 1 ∧ (∃ A d, o = .slice A 1 d) ∧ Below w.heap.size w wr)) (fun _ i _ => 1 - (intOf i).toNat)
  case atStart => exact .inl ⟨rfl, rfl, rfl⟩
  case round =>
    rcases hrel with ⟨rfl, rfl, rfl⟩ | ⟨rfl, ⟨A, d, rfl⟩, hB⟩
    · have h := HP1.out
      have p0 : w1.cell? ⟨g, 0, none⟩ = some (.int .i64 0) := h.cell 0 _ rfl
      have p1 : w1.cell? ⟨g, 1, none⟩ = some (.int .i64 1) := h.cell 1 _ rfl
      have p2 : w1.cell? ⟨g, 2, none⟩ = some (.string ⟨#[97]⟩) := h.cell 2 _ rfl
      have p3 : w1.cell? ⟨g, 3, none⟩ = some (.int .i64 1) := h.cell 3 _ rfl
      have p4 : w1.cell? ⟨g, 4, none⟩ = some (.int .i64 0) := h.cell 4 _ rfl
      have p5 : w1.cell? ⟨g, 5, none⟩ = some (.int .i64 0) := h.cell 5 _ rfl
      clear h
      go_upto_region 7 with fail
      have b1 := Blk.new w1 76 #[.int .i64 0, .int .i64 1, .string ⟨#[97]⟩, .int .i64 1, .int .i64 0, .int .i64 0]
      have k2 : Below w1.heap.size w1 (w1.alloc (.cells #[.int .i64 0, .int .i64 1, .string ⟨#[97]⟩, .int .i64 1, .int .i64 0, .int .i64 0] 76)) := by go_grown
      have k1 := next_below hb1 k2
      generalize w1.alloc (.cells #[.int .i64 0, .int .i64 1, .string ⟨#[97]⟩, .int .i64 1, .int .i64 0, .int .i64 0] 76) = V at *
      clear p0 p1 p2 p3 p4 p5 k2
      have q0 : V.cell? ⟨w1.heap.size, 0, none⟩ = some (.int .i64 0) := b1.cell 0
      have q1 : V.cell? ⟨w1.heap.size, 1, none⟩ = some (.int .i64 1) := b1.cell 1
      have q2 : V.cell? ⟨w1.heap.size, 2, none⟩ = some (.string ⟨#[97]⟩) := b1.cell 2
      have q3 : V.cell? ⟨w1.heap.size, 3, none⟩ = some (.int .i64 1) := b1.cell 3
      have q4 : V.cell? ⟨w1.heap.size, 4, none⟩ = some (.int .i64 0) := b1.cell 4
      have q5 : V.cell? ⟨w1.heap.size, 5, none⟩ = some (.int .i64 0) := b1.cell 5
      go_region_held3 (fun y => y.cell? ⟨w1.heap.size, 0, none⟩ = some (.int .i64 0) ∧ y.cell? ⟨w1.heap.size, 1, none⟩ = some (.int .i64 1) ∧ y.cell? ⟨w1.heap.size, 2, none⟩ = some (.string ⟨#[97]⟩) ∧ y.cell? ⟨w1.heap.size, 3, none⟩ = some (.int .i64 1) ∧ y.cell? ⟨w1.heap.size, 4, none⟩ = some (.int .i64 0) ∧ y.cell? ⟨w1.heap.size, 5, none⟩ = some (.int .i64 0))
        (first | with_reducible exact ⟨q0, q1, q2, q3, q4, q5⟩ | with_reducible exact ⟨r0, r1, r2, r3, r4, r5⟩ | go_keep)
        (first
          | (go_at_call 31; refine (val_c _).mono ?_; rintro e w3 ⟨rfl, hb3⟩; have k3 : Below V.heap.size V w3 := ⟨hb3.os, hb3.tape, hb3.output, hb3.size, hb3.block⟩; have b3 := b1.below k3 b1.lt; have r0 : w3.cell? ⟨w1.heap.size, 0, none⟩ = some (.int .i64 0) := b3.cell 0; have r1 : w3.cell? ⟨w1.heap.size, 1, none⟩ = some (.int .i64 1) := b3.cell 1; have r2 : w3.cell? ⟨w1.heap.size, 2, none⟩ = some (.string ⟨#[97]⟩) := b3.cell 2; have r3 : w3.cell? ⟨w1.heap.size, 3, none⟩ = some (.int .i64 1) := b3.cell 3; have r4 : w3.cell? ⟨w1.heap.size, 4, none⟩ = some (.int .i64 0) := b3.cell 4; have r5 : w3.cell? ⟨w1.heap.size, 5, none⟩ = some (.int .i64 0) := b3.cell 5))
      go_wp2
      go_roundw
      case rel =>
        have kk := next_below k1 k3
        exact .inr ⟨rfl, ⟨_, _, rfl⟩, below_drew1 ((kk.alloc kk.size _).alloc (by have := kk.size; simp; omega) _)⟩
      case measure => simp [intOf]
    · go_wp2
      go_ret
      exact ⟨_, _, rfl, hB⟩

end Go.Proofs.Ytgaknbgmodmniaa
