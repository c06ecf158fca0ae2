/- Walk of the play's do: a body is pushed. -/
import Derived.Test.YtplodggiifachaaPlyP
import Derived.Deep.RegionHeld3
import Derived.Deep.CutRange
namespace Go.Proofs.Ytplodggiifachaa
open Go.RowKit
set_option linter.unusedVariables false
set_option linter.unusedSimpArgs false

theorem Blk.new_at (w : World) (t : TypeId) (cs : Array Value) {k : Nat} (hk : w.heap.size = k) : Blk (w.alloc (.cells cs t)) k t cs := hk ▸ Blk.new w t cs
/-- A body that is cut to a hundred bytes. -/
def cutB (b : ByteArray) : ByteArray := if 100 < b.size then b.extract 0 100 else b
theorem cutB_le (b : ByteArray) : (cutB b).size ≤ 100 := by
  unfold cutB
  split
  · simp; omega
  · omega

set_option maxRecDepth 100000 in
set_option maxHeartbeats 30000000 in
theorem do0_cut (pb : Nat) (p : Ply) (z : Int) (b : ByteArray) (w : World) (hl : p.way.length ≤ 100000 ∧ p.got.length ≤ 100000 ∧ p.wants.length ≤ 100000) (hM : PlyM pb p w) (b' : ByteArray) (hcb : cutB b = b') (hlp : p.put.length ≤ 100000) (hok : p.ok = true) (hbm : b.size ≤ maxLen) (hR8 : rightB p.s = true) (hbl : p.s.base + p.s.bodies.length < 1073741824) (hs : ∀ y ∈ p.s.bodies, y.size ≤ maxLen) :
    Calls Try.prog 23 #[.pointer (some ⟨pb, 0, none⟩), .agg #[.int .i64 0, .int .i64 z, .string b]] w (PlyPost pb (pushP p b') w) := by
  have hM1 := hM.alloc (.cells #[.int .i64 0, .int .i64 z, .string b] 55)
  obtain ⟨A, c, vw, vp, vg, vn, hQ, hc, hR⟩ := hM
  obtain ⟨Aw, cw, rfl⟩ := own_succ' hR.ow
  obtain ⟨An, cn, rfl⟩ := own_succ' hR.on
  have lq := hQ.lt
  have p6 : w.cell? ⟨pb, 6, none⟩ = some (.slice Aw p.way.length cw) := hQ.cell 6
  have kA : Below pb w (w.alloc (.cells #[.int .i64 0, .int .i64 z, .string b] 55)) := (Below.refl _ w).alloc (by omega) _
  have hwn : decide (0 < p.way.length) = false ∨ 0 < p.way.length := by
    rcases Nat.eq_zero_or_pos p.way.length with h | h
    · exact .inl (by rw [h]; rfl)
    · exact .inr h

  have hb8 : p.s.bodies.length ≤ 8 := (rightB_iff.1 hR8).2.1
  have bA1 := Blk.new w 55 #[.int .i64 0, .int .i64 z, .string b]
  have hVs : w.heap.size + 1 = (w.alloc (.cells #[.int .i64 0, .int .i64 z, .string b] 55)).heap.size := by simp
  go_enter Try.func23, Try.ntmps23
  go_upto_if 23 with fail
  go_cut [] from 4 to 39 (fun wx => wx = (w.alloc (.cells #[.int .i64 0, .int .i64 z, .string b] 55)))
  case first =>
    rcases hwn with hn0 | hn
    · simp only [hn0]
      go_wp2_with fail
      go_meet
      exact rfl
    · obtain ⟨e1, e2, e3⟩ := which_at z hn (by omega)
      have hn0 : (0 : Int) < (p.way.length : Int) := by omega
      have hnz : ((p.way.length : Int) == 0) = false := by rw [beq_eq_false_iff_ne]; omega
      have hn1 : decide (0 < p.way.length) = true := decide_eq_true hn
      simp only [hn1]
      go_wp2_with fail
      go_meet
      exact rfl
  case rest =>
    obtain rfl := hcut
    go_upto_if 94 with fail
    go_cut [] from 91 to 98 (fun wx => wx = w.alloc (.cells #[.int .i64 0, .int .i64 z, .string b'] 55))
    case first =>
      cases h100 : decide ((100 : Int) < (b.size : Int))
      · have hcb : b' = b := by rw [← hcb]; unfold cutB; rw [if_neg (by simp at h100; omega)]
        go_wp2_with fail
        go_meet
        exact by rw [hcb]
      · have h101 : (100 : Int) ≤ (b.size : Int) := by simp at h100; omega
        have h102 : 100 ≤ b.size := by omega
        have hcb : b' = b.extract 0 100 := by rw [← hcb]; unfold cutB; rw [if_pos (by simp at h100; omega)]
        go_wp2_with fail
        go_meet
        exact by rw [hcb]
    case rest =>
      obtain rfl := hcut
      have hb100 := cutB_le b
      rw [hcb] at hb100
      clear hcb
      clear hM1 bA1 kA hVs hbm hwn
      have hR1 := hR.alloc (.cells #[.int .i64 0, .int .i64 z, .string b'] 55)
      have bQ1 := hQ.alloc (.cells #[.int .i64 0, .int .i64 z, .string b'] 55)
      have bA1 := Blk.new w 55 #[.int .i64 0, .int .i64 z, .string b']
      have kA : Below pb w (w.alloc (.cells #[.int .i64 0, .int .i64 z, .string b'] 55)) := (Below.refl _ w).alloc (by omega) _
      have hVs : w.heap.size + 1 = (w.alloc (.cells #[.int .i64 0, .int .i64 z, .string b'] 55)).heap.size := by simp
      generalize w.alloc (.cells #[.int .i64 0, .int .i64 z, .string b'] 55) = V at *
      clear p6
      have hr1 := hR1.rd
      have lA := bA1.lt
      have lQ := bQ1.lt
      obtain ⟨s', x1, x2, x3, er, hz⟩ : ∃ s' x1 x2 x3 er, pushZ p.s b' = (s', (x1, x2, x3), er) := ⟨_, _, _, _, _, rfl⟩
      have HK := Lib.hid hz
      clear hz
      go_upto_region 12 with fail
      go_cut [6, 7, 8] from 99 to 109 (fun sp xp ev wx => ∃ sb xb A' c', sp = .pointer (some ⟨sb, 0, none⟩) ∧ xp = .pointer (some ⟨xb, 0, none⟩) ∧ ev = .int .i64 er ∧ Blk wx sb 31 #[.int .i64 s'.ep, .int .i64 s'.base, .slice A' s'.bodies.length c', .int .i64 s'.timer] ∧ Blk wx xb 25 #[.int .i64 x1, .int .i64 x2, .string x3] ∧ Blk wx pb 53 (plyC p A c (.slice Aw p.way.length cw) vp vg (.slice An p.wants.length cn)) ∧ Blk wx w.heap.size 55 #[.int .i64 0, .int .i64 z, .string b'] ∧ Rws pb p A (.slice Aw p.way.length cw) vp vg (.slice An p.wants.length cn) wx ∧ wx.ownsRow V.heap.size 9 1 (.slice A' s'.bodies.length c') s'.bodies.length (s'.bodies.map Value.string) ∧ s'.bodies.length ≤ c' ∧ Below pb w wx ∧ w.heap.size < sb ∧ w.heap.size < xb)
      case first =>
        have p0 : V.cell? ⟨pb, 0, none⟩ = some (.int .i64 p.s.ep) := bQ1.cell 0
        have p1 : V.cell? ⟨pb, 1, none⟩ = some (.int .i64 p.s.base) := bQ1.cell 1
        have p2 : V.cell? ⟨pb, 2, none⟩ = some (.slice A p.s.bodies.length c) := bQ1.cell 2
        have p3 : V.cell? ⟨pb, 3, none⟩ = some (.int .i64 p.s.timer) := bQ1.cell 3
        have a2 : V.cell? ⟨w.heap.size, 2, none⟩ = some (.string b') := bA1.cell 2
        have hQV : ∀ y, Below V.heap.size V y → y.cell? ⟨pb, 0, none⟩ = some (.int .i64 p.s.ep) ∧ y.cell? ⟨pb, 1, none⟩ = some (.int .i64 p.s.base) ∧ y.cell? ⟨pb, 2, none⟩ = some (.slice A p.s.bodies.length c) ∧ y.cell? ⟨pb, 3, none⟩ = some (.int .i64 p.s.timer) ∧ y.cell? ⟨w.heap.size, 2, none⟩ = some (.string b') := fun y hy => ⟨(bQ1.below hy lQ).cell 0, (bQ1.below hy lQ).cell 1, (bQ1.below hy lQ).cell 2, (bQ1.below hy lQ).cell 3, (bA1.below hy lA).cell 2⟩
        have kx0 : Below V.heap.size V V := Below.refl _ _
        go_region_held3 (fun y => y.cell? ⟨pb, 0, none⟩ = some (.int .i64 p.s.ep) ∧ y.cell? ⟨pb, 1, none⟩ = some (.int .i64 p.s.base) ∧ y.cell? ⟨pb, 2, none⟩ = some (.slice A p.s.bodies.length c) ∧ y.cell? ⟨pb, 3, none⟩ = some (.int .i64 p.s.timer) ∧ y.cell? ⟨w.heap.size, 2, none⟩ = some (.string b'))
          (first | (with_reducible exact hQV _ kx0) | (refine hQV _ ?_; go_grown))
          (first | (go_at_call 16; refine (push_any _ _ _ p.s.bodies A p.s.bodies.length c b' _ ?_ ?_ hs ?_).mono ?_; (first | exact hr1 | exact reads_alloc hr1 | exact reads_alloc (reads_alloc hr1)); (first | omega); (first | (unfold maxLen; omega)); rw [HK.out]; rintro e w2 ⟨A', c', rfl, ho2, hc2, hb2⟩; first
            | ((with_reducible (have hx : Below _ (V.drew) w2 := hb2)); have kx2 : Below V.heap.size V w2 := ⟨hb2.os, hb2.tape, hb2.output, hb2.size, hb2.block⟩; have ks2 := kx2.size; have ord0 := True.intro)
            | ((with_reducible (have hx : Below _ (((V.alloc (.cells #[.int .i64 0, .int .i64 0, .slice none 0 0, .int .i64 0] 31)).alloc (.cells #[.int .i64 0, .int .i64 0, .string ⟨#[]⟩] 25)).drew) w2 := hb2)); have kx2 : Below V.heap.size V w2 := next_below (by go_grown) hb2; have ks2 := kx2.size; have bN2 : Blk w2 V.heap.size 31 #[.int .i64 0, .int .i64 0, .slice none 0 0, .int .i64 0] := ((Blk.new V 31 #[.int .i64 0, .int .i64 0, .slice none 0 0, .int .i64 0]).alloc (.cells #[.int .i64 0, .int .i64 0, .string ⟨#[]⟩] 25)).drew.below hx (by first | (simp; done) | (simp; omega)); have bX2 : Blk w2 (V.heap.size + 1) 25 #[.int .i64 0, .int .i64 0, .string ⟨#[]⟩] := (by simpa using Blk.new (V.alloc (.cells #[.int .i64 0, .int .i64 0, .slice none 0 0, .int .i64 0] 31)) 25 #[.int .i64 0, .int .i64 0, .string ⟨#[]⟩] : Blk ((V.alloc (.cells #[.int .i64 0, .int .i64 0, .slice none 0 0, .int .i64 0] 31)).alloc (.cells #[.int .i64 0, .int .i64 0, .string ⟨#[]⟩] 25)) (V.heap.size + 1) 25 #[.int .i64 0, .int .i64 0, .string ⟨#[]⟩]).drew.below hx (by first | (simp; done) | (simp; omega)); have ordSP := True.intro; have bN2 := bN2; have nn0 : w2.cell? ⟨V.heap.size, 0, none⟩ = some (.int .i64 0) := bN2.cell 0; have nn1 : w2.cell? ⟨V.heap.size, 1, none⟩ = some (.int .i64 0) := bN2.cell 1; have nn2 : w2.cell? ⟨V.heap.size, 2, none⟩ = some (.slice none 0 0) := bN2.cell 2; have nn3 : w2.cell? ⟨V.heap.size, 3, none⟩ = some (.int .i64 0) := bN2.cell 3; have fbN2 := bN2.frozen; have lbN2 := bN2.lt; have bX2 := bX2; have xx0 : w2.cell? ⟨V.heap.size + 1, 0, none⟩ = some (.int .i64 0) := bX2.cell 0; have xx1 : w2.cell? ⟨V.heap.size + 1, 1, none⟩ = some (.int .i64 0) := bX2.cell 1; have xx2 : w2.cell? ⟨V.heap.size + 1, 2, none⟩ = some (.string ⟨#[]⟩) := bX2.cell 2; have fbX2 := bX2.frozen; have lbX2 := bX2.lt)
            | ((with_reducible (have hx : Below _ (((V.alloc (.cells #[.int .i64 0, .int .i64 0, .string ⟨#[]⟩] 25)).alloc (.cells #[.int .i64 0, .int .i64 0, .slice none 0 0, .int .i64 0] 31)).drew) w2 := hb2)); have kx2 : Below V.heap.size V w2 := next_below (by go_grown) hb2; have ks2 := kx2.size; have bX2 : Blk w2 V.heap.size 25 #[.int .i64 0, .int .i64 0, .string ⟨#[]⟩] := ((Blk.new V 25 #[.int .i64 0, .int .i64 0, .string ⟨#[]⟩]).alloc (.cells #[.int .i64 0, .int .i64 0, .slice none 0 0, .int .i64 0] 31)).drew.below hx (by first | (simp; done) | (simp; omega)); have bN2 : Blk w2 (V.heap.size + 1) 31 #[.int .i64 0, .int .i64 0, .slice none 0 0, .int .i64 0] := (by simpa using Blk.new (V.alloc (.cells #[.int .i64 0, .int .i64 0, .string ⟨#[]⟩] 25)) 31 #[.int .i64 0, .int .i64 0, .slice none 0 0, .int .i64 0] : Blk ((V.alloc (.cells #[.int .i64 0, .int .i64 0, .string ⟨#[]⟩] 25)).alloc (.cells #[.int .i64 0, .int .i64 0, .slice none 0 0, .int .i64 0] 31)) (V.heap.size + 1) 31 #[.int .i64 0, .int .i64 0, .slice none 0 0, .int .i64 0]).drew.below hx (by first | (simp; done) | (simp; omega)); have ordPS := True.intro; have bN2 := bN2; have nn0 : w2.cell? ⟨V.heap.size + 1, 0, none⟩ = some (.int .i64 0) := bN2.cell 0; have nn1 : w2.cell? ⟨V.heap.size + 1, 1, none⟩ = some (.int .i64 0) := bN2.cell 1; have nn2 : w2.cell? ⟨V.heap.size + 1, 2, none⟩ = some (.slice none 0 0) := bN2.cell 2; have nn3 : w2.cell? ⟨V.heap.size + 1, 3, none⟩ = some (.int .i64 0) := bN2.cell 3; have fbN2 := bN2.frozen; have lbN2 := bN2.lt; have bX2 := bX2; have xx0 : w2.cell? ⟨V.heap.size, 0, none⟩ = some (.int .i64 0) := bX2.cell 0; have xx1 : w2.cell? ⟨V.heap.size, 1, none⟩ = some (.int .i64 0) := bX2.cell 1; have xx2 : w2.cell? ⟨V.heap.size, 2, none⟩ = some (.string ⟨#[]⟩) := bX2.cell 2; have fbX2 := bX2.frozen; have lbX2 := bX2.lt)
            | ((with_reducible (have hx : Below _ ((V.alloc (.cells #[.int .i64 0, .int .i64 0, .slice none 0 0, .int .i64 0] 31)).drew) w2 := hb2)); have kx2 : Below V.heap.size V w2 := next_below (by go_grown) hb2; have ks2 := kx2.size; have bN2 : Blk w2 V.heap.size 31 #[.int .i64 0, .int .i64 0, .slice none 0 0, .int .i64 0] := (Blk.new V 31 #[.int .i64 0, .int .i64 0, .slice none 0 0, .int .i64 0]).drew.below hx (by first | (simp; done) | (simp; omega)); have ordS := True.intro; have bN2 := bN2; have nn0 : w2.cell? ⟨V.heap.size, 0, none⟩ = some (.int .i64 0) := bN2.cell 0; have nn1 : w2.cell? ⟨V.heap.size, 1, none⟩ = some (.int .i64 0) := bN2.cell 1; have nn2 : w2.cell? ⟨V.heap.size, 2, none⟩ = some (.slice none 0 0) := bN2.cell 2; have nn3 : w2.cell? ⟨V.heap.size, 3, none⟩ = some (.int .i64 0) := bN2.cell 3; have fbN2 := bN2.frozen; have lbN2 := bN2.lt)
            | ((with_reducible (have hx : Below _ ((V.alloc (.cells #[.int .i64 0, .int .i64 0, .string ⟨#[]⟩] 25)).drew) w2 := hb2)); have kx2 : Below V.heap.size V w2 := next_below (by go_grown) hb2; have ks2 := kx2.size; have bX2 : Blk w2 V.heap.size 25 #[.int .i64 0, .int .i64 0, .string ⟨#[]⟩] := (Blk.new V 25 #[.int .i64 0, .int .i64 0, .string ⟨#[]⟩]).drew.below hx (by first | (simp; done) | (simp; omega)); have ordP := True.intro; have bX2 := bX2; have xx0 : w2.cell? ⟨V.heap.size, 0, none⟩ = some (.int .i64 0) := bX2.cell 0; have xx1 : w2.cell? ⟨V.heap.size, 1, none⟩ = some (.int .i64 0) := bX2.cell 1; have xx2 : w2.cell? ⟨V.heap.size, 2, none⟩ = some (.string ⟨#[]⟩) := bX2.cell 2; have fbX2 := bX2.frozen; have lbX2 := bX2.lt)))
        all_goals
          clear hQV
          go_wp2_with fail
          go_meet
        all_goals
          have kQ := kA
          first
          | (have := ordSP; refine ⟨V.heap.size, V.heap.size + 1, A', c', rfl, rfl, rfl, (((((((((bN2.set_ 0 _).set_ 1 _).set_ 2 _).set_ 3 _).far (p := ⟨V.heap.size + 1, 0, none⟩) (show V.heap.size ≠ V.heap.size + 1 by omega) _)).far (p := ⟨V.heap.size + 1, 1, none⟩) (show V.heap.size ≠ V.heap.size + 1 by omega) _)).far (p := ⟨V.heap.size + 1, 2, none⟩) (show V.heap.size ≠ V.heap.size + 1 by omega) _), ((((((((((bX2).far (p := ⟨V.heap.size, 0, none⟩) (show V.heap.size + 1 ≠ V.heap.size by omega) _)).far (p := ⟨V.heap.size, 1, none⟩) (show V.heap.size + 1 ≠ V.heap.size by omega) _)).far (p := ⟨V.heap.size, 2, none⟩) (show V.heap.size + 1 ≠ V.heap.size by omega) _)).far (p := ⟨V.heap.size, 3, none⟩) (show V.heap.size + 1 ≠ V.heap.size by omega) _).set_ 0 _).set_ 1 _).set_ 2 _, ?_, ?_, ?_, own_mono (own_setCell (own_setCell (own_setCell (own_setCell (own_setCell (own_setCell (own_setCell (ho2) _ _ _ (by first | (simp; done) | (simp; omega))) _ _ _ (by first | (simp; done) | (simp; omega))) _ _ _ (by first | (simp; done) | (simp; omega))) _ _ _ (by first | (simp; done) | (simp; omega))) _ _ _ (by first | (simp; done) | (simp; omega))) _ _ _ (by first | (simp; done) | (simp; omega))) _ _ _ (by first | (simp; done) | (simp; omega))) (by first | (simp; done) | (simp; omega)), hc2, ?_, by omega, by omega⟩)
          | (have := ordPS; refine ⟨V.heap.size + 1, V.heap.size, A', c', rfl, rfl, rfl, (((((((((bN2.set_ 0 _).set_ 1 _).set_ 2 _).set_ 3 _).far (p := ⟨V.heap.size, 0, none⟩) (show V.heap.size + 1 ≠ V.heap.size by omega) _)).far (p := ⟨V.heap.size, 1, none⟩) (show V.heap.size + 1 ≠ V.heap.size by omega) _)).far (p := ⟨V.heap.size, 2, none⟩) (show V.heap.size + 1 ≠ V.heap.size by omega) _), ((((((((((bX2).far (p := ⟨V.heap.size + 1, 0, none⟩) (show V.heap.size ≠ V.heap.size + 1 by omega) _)).far (p := ⟨V.heap.size + 1, 1, none⟩) (show V.heap.size ≠ V.heap.size + 1 by omega) _)).far (p := ⟨V.heap.size + 1, 2, none⟩) (show V.heap.size ≠ V.heap.size + 1 by omega) _)).far (p := ⟨V.heap.size + 1, 3, none⟩) (show V.heap.size ≠ V.heap.size + 1 by omega) _).set_ 0 _).set_ 1 _).set_ 2 _, ?_, ?_, ?_, own_mono (own_setCell (own_setCell (own_setCell (own_setCell (own_setCell (own_setCell (own_setCell (ho2) _ _ _ (by first | (simp; done) | (simp; omega))) _ _ _ (by first | (simp; done) | (simp; omega))) _ _ _ (by first | (simp; done) | (simp; omega))) _ _ _ (by first | (simp; done) | (simp; omega))) _ _ _ (by first | (simp; done) | (simp; omega))) _ _ _ (by first | (simp; done) | (simp; omega))) _ _ _ (by first | (simp; done) | (simp; omega))) (by first | (simp; done) | (simp; omega)), hc2, ?_, by omega, by omega⟩)
          | (have := ordS; refine ⟨V.heap.size, w2.heap.size, A', c', rfl, rfl, rfl, ((((bN2.set_ 0 _).set_ 1 _).set_ 2 _).set_ 3 _).alloc _, Blk.new_at _ _ _ (by simp), ?_, ?_, ?_, own_mono ((own_setCell (own_setCell (own_setCell (own_setCell (ho2) _ _ _ (by first | (simp; done) | (simp; omega))) _ _ _ (by first | (simp; done) | (simp; omega))) _ _ _ (by first | (simp; done) | (simp; omega))) _ _ _ (by first | (simp; done) | (simp; omega))).alloc _) (by first | (simp; done) | (simp; omega)), hc2, ?_, by omega, by omega⟩)
          | (have := ordP; refine ⟨w2.heap.size, V.heap.size, A', c', rfl, rfl, rfl, Blk.new_at _ _ _ (by simp), (((bX2.set_ 0 _).set_ 1 _).set_ 2 _).alloc _, ?_, ?_, ?_, own_mono ((own_setCell (own_setCell (own_setCell (ho2) _ _ _ (by first | (simp; done) | (simp; omega))) _ _ _ (by first | (simp; done) | (simp; omega))) _ _ _ (by first | (simp; done) | (simp; omega))).alloc _) (by first | (simp; done) | (simp; omega)), hc2, ?_, by omega, by omega⟩)
          | (have := ord0; refine ⟨w2.heap.size, w2.heap.size + 1, A', c', rfl, rfl, rfl, (Blk.new _ _ _).alloc _, Blk.new_at _ _ _ (by simp), ?_, ?_, ?_, own_mono ((ho2.alloc _).alloc _) (by first | (simp; done) | (simp; omega)), hc2, ?_, by omega, by omega⟩)
          | (have := ord0; refine ⟨w2.heap.size + 1, w2.heap.size, A', c', rfl, rfl, rfl, Blk.new_at _ _ _ (by simp), (Blk.new _ _ _).alloc _, ?_, ?_, ?_, own_mono ((ho2.alloc _).alloc _) (by first | (simp; done) | (simp; omega)), hc2, ?_, by omega, by omega⟩)
        all_goals first
          | exact bQ1.below (B := V.heap.size) (by go_grown) lQ
          | exact bA1.below (B := V.heap.size) (by go_grown) lA
          | exact hR1.below (by go_grown)
          | exact kA.trans (Below.mono (B := V.heap.size) (by go_grown) (by omega))
      case rest =>
        obtain ⟨sb, xb, A', c', rfl, rfl, rfl, bS, bX, bQ3, bA3, hR3, ho3, hc3, k3, hsb, hxb⟩ := hcut
        have lS := bS.lt
        have lX := bX.lt
        have lQ3 := bQ3.lt
        have r0 : wc.cell? ⟨sb, 0, none⟩ = some (.int .i64 s'.ep) := bS.cell 0
        have r1 : wc.cell? ⟨sb, 1, none⟩ = some (.int .i64 s'.base) := bS.cell 1
        have r2 : wc.cell? ⟨sb, 2, none⟩ = some (.slice A' s'.bodies.length c') := bS.cell 2
        have r3 : wc.cell? ⟨sb, 3, none⟩ = some (.int .i64 s'.timer) := bS.cell 3
        have x0' : wc.cell? ⟨xb, 0, none⟩ = some (.int .i64 x1) := bX.cell 0
        have x1' : wc.cell? ⟨xb, 1, none⟩ = some (.int .i64 x2) := bX.cell 1
        have x2' : wc.cell? ⟨xb, 2, none⟩ = some (.string x3) := bX.cell 2
        have p2 : wc.cell? ⟨pb, 2, none⟩ = some (.slice A p.s.bodies.length c) := bQ3.cell 2
        have p9 : wc.cell? ⟨pb, 9, none⟩ = some (.bool p.ok) := bQ3.cell 9
        have fQ := bQ3.frozen
        have hnew : ∀ ad, A' = some ad → V.heap.size ≤ ad.block := fun ad e => (ho3.lt ad.block (by subst e; simp [Value.ownBlock])).1
        have hfar : 0 < s'.bodies.length → ∀ ad, A' = some ad → ad.block ≠ pb ∧ (Value.slice Aw p.way.length cw).ownBlock ≠ some ad.block ∧ vp.ownBlock ≠ some ad.block ∧ vg.ownBlock ≠ some ad.block ∧ (Value.slice An p.wants.length cn).ownBlock ≠ some ad.block := fun h0 ad ha => by
          obtain ⟨n1, n2, n3, n4, n5⟩ := hR1.new_ (hnew ad ha)
          exact ⟨by have := hnew ad ha; omega, fun e => n1 _ e rfl, fun e => n2 _ e rfl, fun e => n3 _ e rfl, fun e => n4 _ e rfl⟩
        have hn88 : ¬ rightB p.s = false := by rw [hR8]; simp
        clear hR1 bQ1 bA1 kA hQ hR hr1
        by_cases h8 : 8 ≤ p.s.bodies.length
        · have her : er = 3 := by
            have hz := HK.out
            unfold pushZ at hz
            rw [if_neg hn88, if_neg (by omega), if_pos (.inl h8)] at hz
            simp only [Prod.mk.injEq] at hz
            exact hz.2.2.symm
          have hpp : pushP p b' = p := by unfold pushP; rw [if_pos h8]
          have h88 : ((p.s.bodies.length : Int) == 8) = true := by rw [beq_iff_eq]; omega
          subst her
          clear h8 hb8
          go_wp2_with fail
          go_end0
          rw [hpp]
          exact ⟨rfl, ⟨A, c, _, vp, vg, _, by simpa [plyC, hok] using bQ3.set_ 9 (.bool true), hc, hR3.set 9 _⟩, k3.setCell (p := ⟨pb, 9, none⟩) (Nat.le_refl _) _, by simp; omega⟩
        · have hz := HK.out
          have hpp : pushP p b' = { p with s := s', way := p.way ++ [⟨x1, x2, x3⟩], put := p.put ++ [b'] } := by
            unfold pushP
            rw [if_neg h8]
            obtain ⟨⟨_, _⟩, _, ⟨_, _⟩, _⟩ := rightB_iff.1 hR8
            unfold pushZ at hz
            rw [if_neg hn88, if_neg (by omega), if_neg (by omega)] at hz
            simp only [Prod.mk.injEq] at hz
            obtain ⟨q1, ⟨q2, q3, q4⟩, q5⟩ := hz
            rw [← q1, ← q2, ← q3, ← q4]
          have her : er = 0 := by
            obtain ⟨⟨_, _⟩, _, ⟨_, _⟩, _⟩ := rightB_iff.1 hR8
            unfold pushZ at hz
            rw [if_neg hn88, if_neg (by omega), if_neg (by omega)] at hz
            simp only [Prod.mk.injEq] at hz
            exact hz.2.2.symm
          have HPP := Lib.hid hpp
          subst her
          clear h8 hz hpp
          have nSQ : sb ≠ pb := by omega
          have nXQ : xb ≠ pb := by omega
          have nAQ : w.heap.size ≠ pb := by omega
          have bQ4 : Blk (wc.setCell ⟨pb, 9, none⟩ (.bool true)) pb 53 (plyC p A c (.slice Aw p.way.length cw) vp vg (.slice An p.wants.length cn)) := by simpa [plyC, hok] using bQ3.set_ 9 (.bool true)
          have hR4 := hR3.set 9 (.bool true)
          have bS4 := bS.far (p := ⟨pb, 9, none⟩) nSQ (.bool true)
          have bX4 := bX.far (p := ⟨pb, 9, none⟩) nXQ (.bool true)
          have bA4 := bA3.far (p := ⟨pb, 9, none⟩) nAQ (.bool true)
          have ho4 := own_setCell ho3 pb 9 (.bool true) lQ
          have k4 := k3.setCell (p := ⟨pb, 9, none⟩) (Nat.le_refl _) (.bool true)
          have hs4 : w.heap.size < (wc.setCell ⟨pb, 9, none⟩ (.bool true)).heap.size := by simp; omega
          go_upto_region 16 with fail
          generalize wc.setCell ⟨pb, 9, none⟩ (.bool true) = W at *
          clear r0 r1 r2 r3 x0' x1' x2' p2 p9 fQ bS bX bQ3 bA3 hR3 ho3 k3
          obtain ⟨i0, hi0, hz0, hz1, hz2⟩ := info_parts infoPk
          go_cut [] from 139 to 152 (fun wx => ∃ vw', Blk wx pb 53 (plyC { p with s := s', way := p.way ++ [⟨x1, x2, x3⟩] } A' c' vw' vp vg (.slice An p.wants.length cn)) ∧ Blk wx w.heap.size 55 #[.int .i64 0, .int .i64 z, .string b'] ∧ Rws pb { p with s := s', way := p.way ++ [⟨x1, x2, x3⟩] } A' vw' vp vg (.slice An p.wants.length cn) wx ∧ Below pb w wx)
          case first =>
            have r0 : W.cell? ⟨sb, 0, none⟩ = some (.int .i64 s'.ep) := bS4.cell 0
            have r1 : W.cell? ⟨sb, 1, none⟩ = some (.int .i64 s'.base) := bS4.cell 1
            have r2 : W.cell? ⟨sb, 2, none⟩ = some (.slice A' s'.bodies.length c') := bS4.cell 2
            have r3 : W.cell? ⟨sb, 3, none⟩ = some (.int .i64 s'.timer) := bS4.cell 3
            have x0' : W.cell? ⟨xb, 0, none⟩ = some (.int .i64 x1) := bX4.cell 0
            have x1' : W.cell? ⟨xb, 1, none⟩ = some (.int .i64 x2) := bX4.cell 1
            have x2' : W.cell? ⟨xb, 2, none⟩ = some (.string x3) := bX4.cell 2
            have p0 : W.cell? ⟨pb, 0, none⟩ = some (.int .i64 p.s.ep) := bQ4.cell 0
            have p1 : W.cell? ⟨pb, 1, none⟩ = some (.int .i64 p.s.base) := bQ4.cell 1
            have p2 : W.cell? ⟨pb, 2, none⟩ = some (.slice A p.s.bodies.length c) := bQ4.cell 2
            have p3 : W.cell? ⟨pb, 3, none⟩ = some (.int .i64 p.s.timer) := bQ4.cell 3
            have p6 : W.cell? ⟨pb, 6, none⟩ = some (.slice Aw p.way.length cw) := bQ4.cell 6
            have fQ := bQ4.frozen
            have hR5 := hR4.new_s (Reads.of_own ho4) hfar
            have hwl : ({ p with s := s' } : Ply).way.length ≤ 100000 := hl.1
            have hRA := (hR5.alloc (.cells #[.int .i64 x1, .int .i64 x2, .string x3] 25)).drew
            have bQA := (bQ4.alloc (.cells #[.int .i64 x1, .int .i64 x2, .string x3] 25)).drew
            have bAA := (bA4.alloc (.cells #[.int .i64 x1, .int .i64 x2, .string x3] 25)).drew
            have bSA := (bS4.alloc (.cells #[.int .i64 x1, .int .i64 x2, .string x3] 25)).drew
            have kAA := below_drew (k4.alloc (by omega) (.cells #[.int .i64 x1, .int .i64 x2, .string x3] 25))
            have hRdA : Reads (W.alloc (.cells #[.int .i64 x1, .int .i64 x2, .string x3] 25)) (W.heap.size + 1) 3 (some ⟨W.heap.size, 0, none⟩) 1 [.int .i64 x1, .int .i64 x2, .string x3] := ⟨rfl, fun _ => ⟨_, rfl, by simp, pk_new _ _ _ _ _⟩⟩
            have lQ4 := bQ4.lt
            have lS4 := bS4.lt
            have lX4 := bX4.lt
            clear hR4 bQ4 bA4 bS4 bX4 ho4 hR5
            go_region_law (first
              | (refine step_append_any _ rfl (.tmp 145) (.tmp 147) 45 rfl (pb + 1) 25 i0 _ 3 32 Try.underlying45 hi0 hz0 hz1 hz2 rfl ?_ (.slice Aw p.way.length cw) p.way.length (pks p.way) ?_ ?_ (W.heap.size + 1) (some ⟨W.heap.size, 0, none⟩) 1 1 [.int .i64 x1, .int .i64 x2, .string x3] ?_ ?_ ?_ ?_ ?_ ?_ ?_; (first | decide); (first | rfl | simp [Act.eval, Act.put]); (with_reducible exact hRA.ow); (first | rfl | simp [Act.eval, Act.put]); (first | exact hRdA); (first | simp [Value.oneCell']); (first | (unfold maxLen; omega)); (first | omega); (first | (simp [World.drew]; omega)); intro v' w5 hown' hgrow hnb; obtain ⟨A5, cap5, rfl⟩ := own_form hown'; have ordA := True.intro; have hR6 := hRA.app_way (l := [⟨x1, x2, x3⟩]) hgrow hown' hnb; have bQ6 := blk_far bQA hRA.ow (Nat.lt_succ_self _) hgrow; have bA6 := bAA.grown hgrow (blk_row bAA hRA.ow (by decide)); have bS6 := bSA.grown hgrow (blk_row bSA hRA.ow (by decide)); have s0 : w5.cell? ⟨sb, 0, none⟩ = some (.int .i64 s'.ep) := bS6.cell 0; have s1 : w5.cell? ⟨sb, 1, none⟩ = some (.int .i64 s'.base) := bS6.cell 1; have s2 : w5.cell? ⟨sb, 2, none⟩ = some (.slice A' s'.bodies.length c') := bS6.cell 2; have s3 : w5.cell? ⟨sb, 3, none⟩ = some (.int .i64 s'.timer) := bS6.cell 3; have q0 : w5.cell? ⟨pb, 0, none⟩ = some (.int .i64 p.s.ep) := bQ6.cell 0; have q1 : w5.cell? ⟨pb, 1, none⟩ = some (.int .i64 p.s.base) := bQ6.cell 1; have q2 : w5.cell? ⟨pb, 2, none⟩ = some (.slice A p.s.bodies.length c) := bQ6.cell 2; have q3 : w5.cell? ⟨pb, 3, none⟩ = some (.int .i64 p.s.timer) := bQ6.cell 3; have q6 : w5.cell? ⟨pb, 6, none⟩ = some (.slice Aw p.way.length cw) := bQ6.cell 6; have fQ6 := bQ6.frozen; have kk6 := kAA.grown hgrow (by simp [World.drew]; omega) (fun g hg => by have := (hRA.ow.lt g hg).1; omega); have hgs := hgrow.size))
            all_goals
              go_wp2_with fail
              go_meet
              exact ⟨_, by simpa [plyC] using ((((bQ6.set_ 0 (.int .i64 s'.ep)).set_ 1 (.int .i64 s'.base)).set_ 2 (.slice A' s'.bodies.length c')).set_ 3 (.int .i64 s'.timer)).set_ 6 (.slice A5 (p.way.length + 1) cap5), ((((((((bA6).far (p := ⟨pb, 0, none⟩) nAQ (.int .i64 s'.ep))).far (p := ⟨pb, 1, none⟩) nAQ (.int .i64 s'.base))).far (p := ⟨pb, 2, none⟩) nAQ (.slice A' s'.bodies.length c'))).far (p := ⟨pb, 3, none⟩) nAQ (.int .i64 s'.timer)).far (p := ⟨pb, 6, none⟩) nAQ _, ((((hR6.set 0 _).set 1 _).set 2 _).set 3 _).set 6 _, ((((kk6.setCell (p := ⟨pb, 0, none⟩) (Nat.le_refl _) _).setCell (p := ⟨pb, 1, none⟩) (Nat.le_refl _) _).setCell (p := ⟨pb, 2, none⟩) (Nat.le_refl _) _).setCell (p := ⟨pb, 3, none⟩) (Nat.le_refl _) _).setCell (p := ⟨pb, 6, none⟩) (Nat.le_refl _) _⟩
          case rest =>
            obtain ⟨vw', bQ5, bA5, hR5, k5⟩ := hcut
            clear hR4 bQ4 bA4 bS4 bX4 ho4 k4
            have lQ5 := bQ5.lt
            have lA5 := bA5.lt
            have a2 : wc.cell? ⟨w.heap.size, 2, none⟩ = some (.string b') := bA5.cell 2
            have p7 : wc.cell? ⟨pb, 7, none⟩ = some vp := bQ5.cell 7
            have fQ := bQ5.frozen
            obtain ⟨j0, hj0, jz0, jz1, jz2⟩ := info_parts infoStr
            have hR6 := (hR5.alloc (.cells #[.string b'] 9)).drew
            have hRd : Reads (wc.alloc (.cells #[.string b'] 9)) (wc.heap.size + 1) 1 (some ⟨wc.heap.size, 0, none⟩) 1 [.string b'] := ⟨rfl, fun _ => ⟨_, rfl, by simp, fun j u hu => by cases j <;> simp_all [go_sem]⟩⟩
            have bQ6 := (bQ5.alloc (.cells #[.string b'] 9)).drew
            have kk5 := below_drew (k5.alloc (by omega) (.cells #[.string b'] 9))
            clear hR5 bA5 bQ5
            go_upto_region 17 with fail
            go_region_law (go_loud (refine step_append_any _ rfl (.tmp 157) (.tmp 160) 29 rfl (pb + 1) 9 j0 _ 1 16 Try.underlying29 hj0 jz0 jz1 jz2 rfl ?_ vp p.put.length (p.put.map Value.string) ?_ ?_ (wc.heap.size + 1) (some ⟨wc.heap.size, 0, none⟩) 1 1 [.string b'] ?_ ?_ ?_ ?_ ?_ ?_ ?_; (first | decide); (first | rfl | simp [Act.eval, Act.put]); (first | exact hR6.op); (first | rfl | simp [Act.eval, Act.put]); (first | exact hRd); (first | simp [Value.oneCell']); (first | (unfold maxLen; omega)); (first | omega); (first | (simp [World.drew]; omega)); intro v' w5 hown' hgrow hnb; obtain ⟨A5, cap3, rfl⟩ := own_form hown'; have hR7 := hR6.app_put hgrow hown' hnb; have bQ7 := blk_far bQ6 hR6.op (Nat.lt_succ_self _) hgrow; have q7 : w5.cell? ⟨pb, 7, none⟩ = some vp := bQ7.cell 7; have fQ7 := bQ7.frozen; have kk6 := kk5.grown hgrow (by simp [World.drew]; omega) (fun g hg => by have := (hR6.op.lt g hg).1; omega); have hgs := hgrow.size))
            all_goals
              go_end0
              rw [HPP.out]
              exact ⟨rfl, ⟨A', c', vw', _, vg, _, by simpa [plyC] using bQ7.set_ 7 (.slice A5 (p.put.length + 1) cap3), hc3, hR7.set 7 _⟩, kk6.setCell (p := ⟨pb, 7, none⟩) (Nat.le_refl _) _, by simp at hgs ⊢; omega⟩

end Go.Proofs.Ytplodggiifachaa
