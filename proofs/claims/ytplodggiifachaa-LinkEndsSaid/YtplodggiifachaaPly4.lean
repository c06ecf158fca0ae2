/- Walk of the play's do: what is waited for is told. -/
import Derived.Test.YtplodggiifachaaPly3
import Derived.Deep.RegionHeld3
import Derived.Deep.CutRange
namespace Go.Proofs.Ytplodggiifachaa
open Go.RowKit
set_option linter.unusedVariables false
set_option linter.unusedSimpArgs false

/-- A number of a row of numbers. -/
theorem wants_at {w : World} {B n : Nat} {A : Option Addr} {zs : List Int} (h : Reads w B 1 A n (zs.map (Value.int .i64))) {k : Nat} (hk : k < n) :
    ∃ (ad : Addr) (hl : k < zs.length), A = some ad ∧ ad.block < B ∧ w.cell? (ad.add k) = some (.int .i64 zs[k]) := by
  obtain ⟨ad, u, rfl, hb, hx, hc⟩ := h.at_ hk
  have hl : k < zs.length := by have := h.1; simp at this; omega
  rw [List.getElem?_map, List.getElem?_eq_getElem hl] at hx
  simp at hx
  exact ⟨ad, hl, rfl, hb, by rw [hc, hx]⟩
theorem ackZ_le (s : Snd) (epoch want : Int) : (ackZ s epoch want).1.bodies.length ≤ s.bodies.length := by
  unfold ackZ
  (repeat' split) <;> simp

set_option maxRecDepth 100000 in
set_option maxHeartbeats 2000000 in
theorem do4_none (pb : Nat) (p : Ply) (z : Int) (b : ByteArray) (w : World) (hl : p.way.length ≤ 100000 ∧ p.got.length ≤ 100000 ∧ p.wants.length ≤ 100000) (hM : PlyM pb p w) (hw : p.wants.length = 0) :
    Calls Try.prog 23 #[.pointer (some ⟨pb, 0, none⟩), .agg #[.int .i64 4, .int .i64 z, .string b]] w (PlyPost pb p w) := by
  have hM1 := hM.alloc (.cells #[.int .i64 4, .int .i64 z, .string b] 55)
  obtain ⟨A, c, vw, vp, vg, vn, hQ, hc, hR⟩ := hM
  obtain ⟨Aw, cw, rfl⟩ := own_succ' hR.ow
  obtain ⟨An, cn, rfl⟩ := own_succ' hR.on
  have lq := hQ.lt
  have p6 : w.cell? ⟨pb, 6, none⟩ = some (.slice Aw p.way.length cw) := hQ.cell 6
  have kA : Below pb w (w.alloc (.cells #[.int .i64 4, .int .i64 z, .string b] 55)) := (Below.refl _ w).alloc (by omega) _
  have hwn : decide (0 < p.way.length) = false ∨ 0 < p.way.length := by
    rcases Nat.eq_zero_or_pos p.way.length with h | h
    · exact .inl (by rw [h]; rfl)
    · exact .inr h
  have p10 : w.cell? ⟨pb, 10, none⟩ = some (.slice An p.wants.length cn) := hQ.cell 10
  have hw0 : decide (0 < p.wants.length) = false := by rw [hw]; rfl
  rcases hwn with hn0 | hn
  · go_enter Try.func23, Try.ntmps23
    go_wp2
    go_end0
    exact ⟨rfl, hM1, kA, by simp⟩
  · obtain ⟨e1, e2, e3⟩ := which_at z hn (by omega)
    have hn0 : (0 : Int) < (p.way.length : Int) := by omega
    have hnz : ((p.way.length : Int) == 0) = false := by rw [beq_eq_false_iff_ne]; omega
    go_enter Try.func23, Try.ntmps23
    go_wp2
    go_end0
    exact ⟨rfl, hM1, kA, by simp⟩

set_option maxRecDepth 100000 in
set_option maxHeartbeats 2000000 in
theorem do4_any (pb : Nat) (p : Ply) (z : Int) (b : ByteArray) (w : World) (hl : p.way.length ≤ 100000 ∧ p.got.length ≤ 100000 ∧ p.wants.length ≤ 100000) (hM : PlyM pb p w) (s' : Snd) (x : Int) (hok : p.ok = true) (hw : 0 < p.wants.length) (hx : p.wants[whichN z p.wants.length]? = some x) (hb8 : p.s.bodies.length ≤ 1000) (hs : ∀ y ∈ p.s.bodies, y.size ≤ maxLen) (hk : ackZ p.s p.s.ep x = (s', 0)) :
    Calls Try.prog 23 #[.pointer (some ⟨pb, 0, none⟩), .agg #[.int .i64 4, .int .i64 z, .string b]] w (PlyPost pb { p with s := s' } w) := by
  have hM1 := hM.alloc (.cells #[.int .i64 4, .int .i64 z, .string b] 55)
  obtain ⟨A, c, vw, vp, vg, vn, hQ, hc, hR⟩ := hM
  obtain ⟨Aw, cw, rfl⟩ := own_succ' hR.ow
  obtain ⟨An, cn, rfl⟩ := own_succ' hR.on
  have lq := hQ.lt
  have p6 : w.cell? ⟨pb, 6, none⟩ = some (.slice Aw p.way.length cw) := hQ.cell 6
  have kA : Below pb w (w.alloc (.cells #[.int .i64 4, .int .i64 z, .string b] 55)) := (Below.refl _ w).alloc (by omega) _
  have hwn : decide (0 < p.way.length) = false ∨ 0 < p.way.length := by
    rcases Nat.eq_zero_or_pos p.way.length with h | h
    · exact .inl (by rw [h]; rfl)
    · exact .inr h
  have p10 : w.cell? ⟨pb, 10, none⟩ = some (.slice An p.wants.length cn) := hQ.cell 10
  have hw0 : (0 : Int) < (p.wants.length : Int) := by omega
  have hwz : ((p.wants.length : Int) == 0) = false := by rw [beq_eq_false_iff_ne]; omega
  have hwy : ¬ p.wants = [] := fun e => by rw [e] at hw; simp at hw
  have hwx : ¬ (p.wants.length : Int) = 0 := by omega
  have hwv : ¬ p.wants.length = 0 := by omega
  obtain ⟨g1, g2, g3⟩ := which_at z hw (by omega)
  have HK := Lib.hid hk
  clear hk
  have hR1 := hR.alloc (.cells #[.int .i64 4, .int .i64 z, .string b] 55)
  have bQ1 := hQ.alloc (.cells #[.int .i64 4, .int .i64 z, .string b] 55)
  have bA1 := Blk.new w 55 #[.int .i64 4, .int .i64 z, .string b]
  have hr1 := hR1.rd
  have hlk := ackZ_le p.s p.s.ep x
  rw [HK.out] at hlk
  have HLK := Lib.hid hlk
  clear hlk
  obtain ⟨an, hin, rfl, hab, hxc⟩ := wants_at (Reads.of_own hR.on) g2
  have hxx : p.wants[whichN z p.wants.length] = x := by rw [List.getElem?_eq_getElem hin] at hx; injection hx
  rw [hxx] at hxc
  have hxc1 := fun o => (World.cell?_alloc_lt w o (an.add (whichN z p.wants.length)) (by rw [block_of_add]; exact hab)).trans hxc
  obtain ⟨k, hkk⟩ : ∃ k, whichN z p.wants.length = k := ⟨_, rfl⟩
  rw [hkk] at g1 g2 hxc hxc1
  have hk0 : (0 : Int) ≤ (k : Int) := by omega
  have hk1 : (k : Int) < (p.wants.length : Int) := by omega
  clear hx hxx hin hkk
  go_enter Try.func23, Try.ntmps23
  rcases hwn with hn0 | hn
  · go_wp2_with fail
    have hxV := hxc1 (.cells #[.int .i64 4, .int .i64 z, .string b] 55)
    have hVs : w.heap.size + 1 = (w.alloc (.cells #[.int .i64 4, .int .i64 z, .string b] 55)).heap.size := by simp
    generalize w.alloc (.cells #[.int .i64 4, .int .i64 z, .string b] 55) = V at *
    clear p6 p10 hxc hxc1
    go_cut [10, 11] from 191 to 217 (fun sp er wx => ∃ rb A' c', sp = .pointer (some ⟨rb, 0, none⟩) ∧ er = .int .i64 0 ∧ Blk wx rb 31 #[.int .i64 s'.ep, .int .i64 s'.base, .slice A' s'.bodies.length c', .int .i64 s'.timer] ∧ Blk wx pb 53 (plyC p A c (.slice Aw p.way.length cw) vp vg (.slice (some an) p.wants.length cn)) ∧ Rws pb p A (.slice Aw p.way.length cw) vp vg (.slice (some an) p.wants.length cn) wx ∧ Reads wx wx.heap.size 1 A' s'.bodies.length (s'.bodies.map Value.string) ∧ s'.bodies.length ≤ c' ∧ (A' = A ∨ ∀ ad, A' = some ad → V.heap.size ≤ ad.block) ∧ Below pb w wx ∧ w.heap.size < rb)
    case first =>
      have lA := bA1.lt
      have lQ := bQ1.lt
      have p0 : V.cell? ⟨pb, 0, none⟩ = some (.int .i64 p.s.ep) := bQ1.cell 0
      have p1 : V.cell? ⟨pb, 1, none⟩ = some (.int .i64 p.s.base) := bQ1.cell 1
      have p2 : V.cell? ⟨pb, 2, none⟩ = some (.slice A p.s.bodies.length c) := bQ1.cell 2
      have p3 : V.cell? ⟨pb, 3, none⟩ = some (.int .i64 p.s.timer) := bQ1.cell 3
      have p10 : V.cell? ⟨pb, 10, none⟩ = some (.slice (some an) p.wants.length cn) := bQ1.cell 10
      have a1 : V.cell? ⟨w.heap.size, 1, none⟩ = some (.int .i64 z) := bA1.cell 1
      have lan : (an.add k).block < V.heap.size := by rw [block_of_add]; omega
      have hQV : ∀ y, Below V.heap.size V y → y.cell? ⟨pb, 0, none⟩ = some (.int .i64 p.s.ep) ∧ y.cell? ⟨pb, 1, none⟩ = some (.int .i64 p.s.base) ∧ y.cell? ⟨pb, 2, none⟩ = some (.slice A p.s.bodies.length c) ∧ y.cell? ⟨pb, 3, none⟩ = some (.int .i64 p.s.timer) ∧ y.cell? ⟨pb, 10, none⟩ = some (.slice (some an) p.wants.length cn) ∧ y.cell? ⟨w.heap.size, 1, none⟩ = some (.int .i64 z) ∧ y.cell? (an.add k) = some (.int .i64 x) := fun y hy => ⟨(bQ1.below hy lQ).cell 0, (bQ1.below hy lQ).cell 1, (bQ1.below hy lQ).cell 2, (bQ1.below hy lQ).cell 3, (bQ1.below hy lQ).cell 10, (bA1.below hy lA).cell 1, (hy.cell lan).trans hxV⟩
      have kx0 : Below V.heap.size V V := Below.refl _ _
      go_region_held3 (fun y => y.cell? ⟨pb, 0, none⟩ = some (.int .i64 p.s.ep) ∧ y.cell? ⟨pb, 1, none⟩ = some (.int .i64 p.s.base) ∧ y.cell? ⟨pb, 2, none⟩ = some (.slice A p.s.bodies.length c) ∧ y.cell? ⟨pb, 3, none⟩ = some (.int .i64 p.s.timer) ∧ y.cell? ⟨pb, 10, none⟩ = some (.slice (some an) p.wants.length cn) ∧ y.cell? ⟨w.heap.size, 1, none⟩ = some (.int .i64 z) ∧ y.cell? (an.add k) = some (.int .i64 x))
        (first | exact hQV _ kx0 | exact hQV _ kx2 | exact hQV _ kx4 | exact hQV _ kx3 | go_keep)
        (first | (go_at_call 15; refine (ack_any _ _ _ _ _ p.s.bodies A p.s.bodies.length c _ ?_ ?_ hs hc).mono ?_; (first | exact hr1 | exact reads_alloc hr1); (first | omega); rw [HK.out]; rintro e w2 ⟨A', c', rfl, rd2, hc2, hA2, hb2⟩; first
          | (have kx2 : Below V.heap.size V w2 := ⟨hb2.os, hb2.tape, hb2.output, hb2.size, hb2.block⟩; have ordA := True.intro)
          | (have kx3 : Below V.heap.size V w2 := next_below (by go_grown) hb2; have ordB := True.intro; have bN2 : Blk w2 V.heap.size 31 #[.int .i64 0, .int .i64 0, .slice none 0 0, .int .i64 0] := (Blk.new V.drew 31 #[.int .i64 0, .int .i64 0, .slice none 0 0, .int .i64 0]).below hb2 (by simp); have nn0 : w2.cell? ⟨V.heap.size, 0, none⟩ = some (.int .i64 0) := bN2.cell 0; have nn1 : w2.cell? ⟨V.heap.size, 1, none⟩ = some (.int .i64 0) := bN2.cell 1; have nn2 : w2.cell? ⟨V.heap.size, 2, none⟩ = some (.slice none 0 0) := bN2.cell 2; have nn3 : w2.cell? ⟨V.heap.size, 3, none⟩ = some (.int .i64 0) := bN2.cell 3; have fN := bN2.frozen; have kx4 := (((kx3.setCell (p := ⟨V.heap.size, 0, none⟩) (Nat.le_refl _) (.int .i64 s'.ep)).setCell (p := ⟨V.heap.size, 1, none⟩) (Nat.le_refl _) (.int .i64 s'.base)).setCell (p := ⟨V.heap.size, 2, none⟩) (Nat.le_refl _) (.slice A' s'.bodies.length c')).setCell (p := ⟨V.heap.size, 3, none⟩) (Nat.le_refl _) (.int .i64 s'.timer))))
      · have := ordA
        clear hQV
        go_wp2_with fail
        go_meet
        have hs2 := kx2.size
        exact ⟨w2.heap.size, A', c', rfl, rfl, Blk.new w2 _ _, (bQ1.below kx2 lQ).alloc _, (hR1.below kx2).alloc _, reads_alloc rd2, hc2, hA2, (kA.trans (kx2.mono (by omega))).alloc (by omega) _, by omega⟩
      · have := ordB
        clear hQV
        go_wp2_with fail
        go_meet
        have hs2 := kx4.size
        have hA3 : A' = A ∨ ∀ ad, A' = some ad → V.heap.size < ad.block := by
          rcases hA2 with e | e
          · exact .inl e
          · exact .inr fun ad ha => by have := e ad ha; simp at this; omega
        have hff : ∀ ad, A' = some ad → 0 < s'.bodies.length → some V.heap.size ≠ some ad.block := by
          intro ad ha hn e
          rcases hA3 with q | q
          · have := reads_lt hR1.rd (by omega) (q ▸ ha) (Nat.lt_of_lt_of_le hn HLK.out)
            simp at e
            omega
          · have := q ad ha
            simp at e
            omega
        exact ⟨V.heap.size, A', c', rfl, rfl, (((bN2.set_ 0 (.int .i64 s'.ep)).set_ 1 (.int .i64 s'.base)).set_ 2 (.slice A' s'.bodies.length c')).set_ 3 (.int .i64 s'.timer), bQ1.below kx4 lQ, hR1.below kx4,
          reads_kept (reads_kept (reads_kept (reads_kept rd2 (grown_set _ _ _) hff) (grown_set _ _ _) hff) (grown_set _ _ _) hff) (grown_set _ _ _) hff, hc2, hA3.imp id (fun h ad ha => Nat.le_of_lt (h ad ha)), kA.trans (kx4.mono (by omega)), by omega⟩
    case rest =>
      obtain ⟨rb, A', c', rfl, rfl, bN, bQ3, hR3, rd3, hc3, hA3, k3, hrb⟩ := hcut
      have hfar := hR1.far_ack HLK.out hA3 bQ1.lt
      have hR4 := hR3.new_s (s := s') rd3 hfar
      have lN := bN.lt
      have lQ3 := bQ3.lt
      have r0 : wc.cell? ⟨rb, 0, none⟩ = some (.int .i64 s'.ep) := bN.cell 0
      have r1 : wc.cell? ⟨rb, 1, none⟩ = some (.int .i64 s'.base) := bN.cell 1
      have r2 : wc.cell? ⟨rb, 2, none⟩ = some (.slice A' s'.bodies.length c') := bN.cell 2
      have r3 : wc.cell? ⟨rb, 3, none⟩ = some (.int .i64 s'.timer) := bN.cell 3
      have nRQ : rb ≠ pb := by omega
      have p0 : wc.cell? ⟨pb, 0, none⟩ = some (.int .i64 p.s.ep) := bQ3.cell 0
      have p1 : wc.cell? ⟨pb, 1, none⟩ = some (.int .i64 p.s.base) := bQ3.cell 1
      have p2 : wc.cell? ⟨pb, 2, none⟩ = some (.slice A p.s.bodies.length c) := bQ3.cell 2
      have p3 : wc.cell? ⟨pb, 3, none⟩ = some (.int .i64 p.s.timer) := bQ3.cell 3
      have p9 : wc.cell? ⟨pb, 9, none⟩ = some (.bool p.ok) := bQ3.cell 9
      have fQ := bQ3.frozen
      clear hR1 bQ1 bA1 hr1 hxV hM1 kA bN hR3 rd3
      go_wp2_with fail
      go_end0
      exact ⟨rfl, ⟨A', c', _, vp, vg, _, by simpa [plyC, hok] using ((((bQ3.set_ 9 (.bool true)).set_ 0 (.int .i64 s'.ep)).set_ 1 (.int .i64 s'.base)).set_ 2 (.slice A' s'.bodies.length c')).set_ 3 (.int .i64 s'.timer), hc3, ((((hR4.set 9 _).set 0 _).set 1 _).set 2 _).set 3 _⟩, ((((k3.setCell (p := ⟨pb, 9, none⟩) (Nat.le_refl _) _).setCell (p := ⟨pb, 0, none⟩) (Nat.le_refl _) _).setCell (p := ⟨pb, 1, none⟩) (Nat.le_refl _) _).setCell (p := ⟨pb, 2, none⟩) (Nat.le_refl _) _).setCell (p := ⟨pb, 3, none⟩) (Nat.le_refl _) _, by simp; omega⟩
  · obtain ⟨e1, e2, e3⟩ := which_at z hn (by omega)
    have hn0 : (0 : Int) < (p.way.length : Int) := by omega
    have hnz : ((p.way.length : Int) == 0) = false := by rw [beq_eq_false_iff_ne]; omega
    go_wp2_with fail
    have hxV := hxc1 (.cells #[.int .i64 4, .int .i64 z, .string b] 55)
    have hVs : w.heap.size + 1 = (w.alloc (.cells #[.int .i64 4, .int .i64 z, .string b] 55)).heap.size := by simp
    generalize w.alloc (.cells #[.int .i64 4, .int .i64 z, .string b] 55) = V at *
    clear p6 p10 hxc hxc1
    go_cut [10, 11] from 191 to 217 (fun sp er wx => ∃ rb A' c', sp = .pointer (some ⟨rb, 0, none⟩) ∧ er = .int .i64 0 ∧ Blk wx rb 31 #[.int .i64 s'.ep, .int .i64 s'.base, .slice A' s'.bodies.length c', .int .i64 s'.timer] ∧ Blk wx pb 53 (plyC p A c (.slice Aw p.way.length cw) vp vg (.slice (some an) p.wants.length cn)) ∧ Rws pb p A (.slice Aw p.way.length cw) vp vg (.slice (some an) p.wants.length cn) wx ∧ Reads wx wx.heap.size 1 A' s'.bodies.length (s'.bodies.map Value.string) ∧ s'.bodies.length ≤ c' ∧ (A' = A ∨ ∀ ad, A' = some ad → V.heap.size ≤ ad.block) ∧ Below pb w wx ∧ w.heap.size < rb)
    case first =>
      have lA := bA1.lt
      have lQ := bQ1.lt
      have p0 : V.cell? ⟨pb, 0, none⟩ = some (.int .i64 p.s.ep) := bQ1.cell 0
      have p1 : V.cell? ⟨pb, 1, none⟩ = some (.int .i64 p.s.base) := bQ1.cell 1
      have p2 : V.cell? ⟨pb, 2, none⟩ = some (.slice A p.s.bodies.length c) := bQ1.cell 2
      have p3 : V.cell? ⟨pb, 3, none⟩ = some (.int .i64 p.s.timer) := bQ1.cell 3
      have p10 : V.cell? ⟨pb, 10, none⟩ = some (.slice (some an) p.wants.length cn) := bQ1.cell 10
      have a1 : V.cell? ⟨w.heap.size, 1, none⟩ = some (.int .i64 z) := bA1.cell 1
      have lan : (an.add k).block < V.heap.size := by rw [block_of_add]; omega
      have hQV : ∀ y, Below V.heap.size V y → y.cell? ⟨pb, 0, none⟩ = some (.int .i64 p.s.ep) ∧ y.cell? ⟨pb, 1, none⟩ = some (.int .i64 p.s.base) ∧ y.cell? ⟨pb, 2, none⟩ = some (.slice A p.s.bodies.length c) ∧ y.cell? ⟨pb, 3, none⟩ = some (.int .i64 p.s.timer) ∧ y.cell? ⟨pb, 10, none⟩ = some (.slice (some an) p.wants.length cn) ∧ y.cell? ⟨w.heap.size, 1, none⟩ = some (.int .i64 z) ∧ y.cell? (an.add k) = some (.int .i64 x) := fun y hy => ⟨(bQ1.below hy lQ).cell 0, (bQ1.below hy lQ).cell 1, (bQ1.below hy lQ).cell 2, (bQ1.below hy lQ).cell 3, (bQ1.below hy lQ).cell 10, (bA1.below hy lA).cell 1, (hy.cell lan).trans hxV⟩
      have kx0 : Below V.heap.size V V := Below.refl _ _
      go_region_held3 (fun y => y.cell? ⟨pb, 0, none⟩ = some (.int .i64 p.s.ep) ∧ y.cell? ⟨pb, 1, none⟩ = some (.int .i64 p.s.base) ∧ y.cell? ⟨pb, 2, none⟩ = some (.slice A p.s.bodies.length c) ∧ y.cell? ⟨pb, 3, none⟩ = some (.int .i64 p.s.timer) ∧ y.cell? ⟨pb, 10, none⟩ = some (.slice (some an) p.wants.length cn) ∧ y.cell? ⟨w.heap.size, 1, none⟩ = some (.int .i64 z) ∧ y.cell? (an.add k) = some (.int .i64 x))
        (first | exact hQV _ kx0 | exact hQV _ kx2 | exact hQV _ kx4 | exact hQV _ kx3 | go_keep)
        (first | (go_at_call 15; refine (ack_any _ _ _ _ _ p.s.bodies A p.s.bodies.length c _ ?_ ?_ hs hc).mono ?_; (first | exact hr1 | exact reads_alloc hr1); (first | omega); rw [HK.out]; rintro e w2 ⟨A', c', rfl, rd2, hc2, hA2, hb2⟩; first
          | (have kx2 : Below V.heap.size V w2 := ⟨hb2.os, hb2.tape, hb2.output, hb2.size, hb2.block⟩; have ordA := True.intro)
          | (have kx3 : Below V.heap.size V w2 := next_below (by go_grown) hb2; have ordB := True.intro; have bN2 : Blk w2 V.heap.size 31 #[.int .i64 0, .int .i64 0, .slice none 0 0, .int .i64 0] := (Blk.new V.drew 31 #[.int .i64 0, .int .i64 0, .slice none 0 0, .int .i64 0]).below hb2 (by simp); have nn0 : w2.cell? ⟨V.heap.size, 0, none⟩ = some (.int .i64 0) := bN2.cell 0; have nn1 : w2.cell? ⟨V.heap.size, 1, none⟩ = some (.int .i64 0) := bN2.cell 1; have nn2 : w2.cell? ⟨V.heap.size, 2, none⟩ = some (.slice none 0 0) := bN2.cell 2; have nn3 : w2.cell? ⟨V.heap.size, 3, none⟩ = some (.int .i64 0) := bN2.cell 3; have fN := bN2.frozen; have kx4 := (((kx3.setCell (p := ⟨V.heap.size, 0, none⟩) (Nat.le_refl _) (.int .i64 s'.ep)).setCell (p := ⟨V.heap.size, 1, none⟩) (Nat.le_refl _) (.int .i64 s'.base)).setCell (p := ⟨V.heap.size, 2, none⟩) (Nat.le_refl _) (.slice A' s'.bodies.length c')).setCell (p := ⟨V.heap.size, 3, none⟩) (Nat.le_refl _) (.int .i64 s'.timer))))
      · have := ordA
        clear hQV
        go_wp2_with fail
        go_meet
        have hs2 := kx2.size
        exact ⟨w2.heap.size, A', c', rfl, rfl, Blk.new w2 _ _, (bQ1.below kx2 lQ).alloc _, (hR1.below kx2).alloc _, reads_alloc rd2, hc2, hA2, (kA.trans (kx2.mono (by omega))).alloc (by omega) _, by omega⟩
      · have := ordB
        clear hQV
        go_wp2_with fail
        go_meet
        have hs2 := kx4.size
        have hA3 : A' = A ∨ ∀ ad, A' = some ad → V.heap.size < ad.block := by
          rcases hA2 with e | e
          · exact .inl e
          · exact .inr fun ad ha => by have := e ad ha; simp at this; omega
        have hff : ∀ ad, A' = some ad → 0 < s'.bodies.length → some V.heap.size ≠ some ad.block := by
          intro ad ha hn e
          rcases hA3 with q | q
          · have := reads_lt hR1.rd (by omega) (q ▸ ha) (Nat.lt_of_lt_of_le hn HLK.out)
            simp at e
            omega
          · have := q ad ha
            simp at e
            omega
        exact ⟨V.heap.size, A', c', rfl, rfl, (((bN2.set_ 0 (.int .i64 s'.ep)).set_ 1 (.int .i64 s'.base)).set_ 2 (.slice A' s'.bodies.length c')).set_ 3 (.int .i64 s'.timer), bQ1.below kx4 lQ, hR1.below kx4,
          reads_kept (reads_kept (reads_kept (reads_kept rd2 (grown_set _ _ _) hff) (grown_set _ _ _) hff) (grown_set _ _ _) hff) (grown_set _ _ _) hff, hc2, hA3.imp id (fun h ad ha => Nat.le_of_lt (h ad ha)), kA.trans (kx4.mono (by omega)), by omega⟩
    case rest =>
      obtain ⟨rb, A', c', rfl, rfl, bN, bQ3, hR3, rd3, hc3, hA3, k3, hrb⟩ := hcut
      have hfar := hR1.far_ack HLK.out hA3 bQ1.lt
      have hR4 := hR3.new_s (s := s') rd3 hfar
      have lN := bN.lt
      have lQ3 := bQ3.lt
      have r0 : wc.cell? ⟨rb, 0, none⟩ = some (.int .i64 s'.ep) := bN.cell 0
      have r1 : wc.cell? ⟨rb, 1, none⟩ = some (.int .i64 s'.base) := bN.cell 1
      have r2 : wc.cell? ⟨rb, 2, none⟩ = some (.slice A' s'.bodies.length c') := bN.cell 2
      have r3 : wc.cell? ⟨rb, 3, none⟩ = some (.int .i64 s'.timer) := bN.cell 3
      have nRQ : rb ≠ pb := by omega
      have p0 : wc.cell? ⟨pb, 0, none⟩ = some (.int .i64 p.s.ep) := bQ3.cell 0
      have p1 : wc.cell? ⟨pb, 1, none⟩ = some (.int .i64 p.s.base) := bQ3.cell 1
      have p2 : wc.cell? ⟨pb, 2, none⟩ = some (.slice A p.s.bodies.length c) := bQ3.cell 2
      have p3 : wc.cell? ⟨pb, 3, none⟩ = some (.int .i64 p.s.timer) := bQ3.cell 3
      have p9 : wc.cell? ⟨pb, 9, none⟩ = some (.bool p.ok) := bQ3.cell 9
      have fQ := bQ3.frozen
      clear hR1 bQ1 bA1 hr1 hxV hM1 kA bN hR3 rd3
      go_wp2_with fail
      go_end0
      exact ⟨rfl, ⟨A', c', _, vp, vg, _, by simpa [plyC, hok] using ((((bQ3.set_ 9 (.bool true)).set_ 0 (.int .i64 s'.ep)).set_ 1 (.int .i64 s'.base)).set_ 2 (.slice A' s'.bodies.length c')).set_ 3 (.int .i64 s'.timer), hc3, ((((hR4.set 9 _).set 0 _).set 1 _).set 2 _).set 3 _⟩, ((((k3.setCell (p := ⟨pb, 9, none⟩) (Nat.le_refl _) _).setCell (p := ⟨pb, 0, none⟩) (Nat.le_refl _) _).setCell (p := ⟨pb, 1, none⟩) (Nat.le_refl _) _).setCell (p := ⟨pb, 2, none⟩) (Nat.le_refl _) _).setCell (p := ⟨pb, 3, none⟩) (Nat.le_refl _) _, by simp; omega⟩

end Go.Proofs.Ytplodggiifachaa
