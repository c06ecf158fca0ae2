/- The walk of chapter 15's law LinkEnds. -/
import Derived.Test.YtplodggiifachaaLawOr
import Derived.Deep.RegionHeld3
import Derived.Deep.CutRange
import Derived.Deep.CutBlock
namespace Go.Proofs.Ytplodggiifachaa
open Go.RowKit
set_option linter.unusedVariables false
set_option linter.unusedSimpArgs false

/-- So many ticks. -/
def tickN : Nat → Ply → Ply
  | 0, p => p
  | q + 1, p => tickP (tickN q p)
theorem tickN_inv {E : Int} {k : Nat} {p : Ply} {n : Nat} (h : Inv E k p n) : ∀ q, Inv E (k + q) (tickN q p) n
  | 0 => h
  | q + 1 => (tickN_inv h q).tick
/-- How long a slice is that lies in a cell. -/
def lenAt (w : World) (a : Addr) : Nat := match w.cell? a with | some (.slice _ n _) => n | _ => 0
theorem lenAt_way {pb : Nat} {p : Ply} {w : World} (h : PlyM pb p w) : lenAt w ⟨pb, 6, none⟩ = p.way.length := by
  obtain ⟨A, c, vw, vp, vg, vn, hQ, hc, hR⟩ := h
  obtain ⟨Aw, cw, rfl⟩ := own_form hR.ow
  unfold lenAt
  rw [show w.cell? ⟨pb, 6, none⟩ = some (.slice Aw p.way.length cw) from hQ.cell 6]
/-- The way is cleared. -/
theorem PlyM.bare {pb : Nat} {p : Ply} {w : World} (h : PlyM pb p w) : PlyM pb (Go.Proofs.Ytplodggiifachaa.bare p) (w.setCell ⟨pb, 6, none⟩ (.slice none 0 0)) := by
  obtain ⟨A, c, vw, vp, vg, vn, hQ, hc, hR⟩ := h
  exact ⟨A, c, .slice none 0 0, vp, vg, vn, by simpa [plyC, Go.Proofs.Ytplodggiifachaa.bare] using hQ.set_ 6 (.slice none 0 0), hc, (hR.set 6 _).new_way (l := []) (World.ownsRow_nil _ _ _ _) (fun _ _ _ e => by simp [Value.ownBlock] at e)⟩
/-- What the last acknowledgement leaves: nothing. -/
theorem ack_last {E : Int} {k : Nat} {p : Ply} {n : Nat} (h : Inv E k p n) (he : p.got.length = p.put.length) : (ackZ p.s p.s.ep p.rW).2 = 0 ∧ (ackZ p.s p.s.ep p.rW).1.bodies = [] := by
  obtain ⟨a, n', hi⟩ := h.ack_ok h.rw_ (Nat.le_refl _)
  refine ⟨a, ?_⟩
  by_cases hb : p.rW ≤ p.s.base
  · have hz : ackZ p.s p.s.ep p.rW = (p.s, 0) := by
      unfold ackZ
      rw [if_neg (by simp [h.rt]), if_neg (by simp), if_neg (by have := h.rw_; have := h.ba; have := h.blen; have := h.nb; have := h.np; omega), if_pos hb]
    rw [hz]
    have := h.rw_
    have := h.ba
    have := h.blen
    exact List.length_eq_zero_iff.1 (by show p.s.bodies.length = 0; omega)
  · have e1 := hi.ba
    have e2 := hi.bo
    have hbs : (ackP p p.rW).s.base = p.rW := by
      unfold ackP ackZ
      rw [if_neg (by simp [h.rt]), if_neg (by simp), if_neg (by have := h.rw_; have := h.ba; have := h.blen; have := h.nb; have := h.np; omega), if_neg hb]
    have h1 := h.rw_
    have : n' = p.put.length := by omega
    show (ackP p p.rW).s.bodies = []
    rw [e2, this]
    exact List.drop_length

set_option maxRecDepth 100000 in
set_option maxHeartbeats 4000000 in
theorem walkEnds2 (ep0 : Int) (ls : List Hp) (A : Option Addr) (n c : Nat) (w : World) (hr : Reads w w.heap.size 3 A n (hps ls)) (hm : n ≤ 9223372036854775807) (hs : ∀ z ∈ ls, z.body.size ≤ maxLen) :
    Calls Try.prog 8 #[.int .i64 ep0, .slice A n c] w fun e w' => e = .returned (.bool true) ∧ Below w.heap.size w w' := by
  have hmx : ∀ x y : Int, (if x < y then y else x) = max x y := fun x y => by split <;> omega
  have hmn : ∀ x y : Int, (if x < y then x else y) = min y x := fun x y => by split <;> omega
  obtain ⟨E, hE, e1⟩ : ∃ v : Int, min (max ep0 0) 536870912 = v ∧ 0 ≤ v ∧ v ≤ 536870912 := ⟨_, rfl, by omega, by omega⟩
  have hw : withinB E 0 1073741824 = true := withinB_true.2 ⟨by omega, by omega⟩
  have HW := Lib.hid hw
  have HSZ := Lib.hid hs
  have HI0 := Lib.hid (inv0 e1)
  clear hw hs
  go_enter Try.func8, Try.ntmps8
  go_wp2_with fail
  refine (open_any _ _).mono ?_
  rintro e w1 ⟨he1, hb1⟩
  rw [HW.out] at he1
  simp at he1
  subst he1
  go_wp2_with fail
  refine (alive_any _).mono ?_
  rintro e w2 ⟨rfl, hb2⟩
  have bS0 : Blk w2 w1.heap.size 31 #[.int .i64 E, .int .i64 0, .slice none 0 0, .int .i64 0] := ((Blk.new w1 _ _).alloc _).below hb2 (by simp; omega)
  have bR0 : Blk w2 (w1.heap.size + 1) 23 #[.int .i64 E, .int .i64 0] := (by simpa using Blk.new (w1.alloc (.cells #[.int .i64 E, .int .i64 0, .slice none 0 0, .int .i64 0] 31)) 23 #[.int .i64 E, .int .i64 0] : Blk _ (w1.heap.size + 1) _ _).below hb2 (by simp)
  have y2 := hb2.size
  simp at y2
  have hsB := hb1.size
  have k2 : Below w.heap.size w w2 := ((hb1.alloc hsB _).alloc (by simp; omega) _).trans (hb2.mono (by simp; omega))
  have s0 : w2.cell? ⟨w1.heap.size, 0, none⟩ = some (.int .i64 E) := bS0.cell 0
  have s1 : w2.cell? ⟨w1.heap.size, 1, none⟩ = some (.int .i64 0) := bS0.cell 1
  have s2 : w2.cell? ⟨w1.heap.size, 2, none⟩ = some (.slice none 0 0) := bS0.cell 2
  have s3 : w2.cell? ⟨w1.heap.size, 3, none⟩ = some (.int .i64 0) := bS0.cell 3
  have r0 : w2.cell? ⟨w1.heap.size + 1, 0, none⟩ = some (.int .i64 E) := bR0.cell 0
  have r1 : w2.cell? ⟨w1.heap.size + 1, 1, none⟩ = some (.int .i64 0) := bR0.cell 1
  clear hb1 hb2
  go_upto_region 5 with fail
  have hM0 : PlyM w2.heap.size (ply0 E) (w2.alloc (.cells #[.int .i64 E, .int .i64 0, .slice none 0 0, .int .i64 0, .int .i64 E, .int .i64 0, .slice none 0 0, .slice none 0 0, .slice none 0 0, .bool true, .slice none 0 0] 53)) := plyM0 E w2
  have k3 := k2.alloc k2.size (.cells #[.int .i64 E, .int .i64 0, .slice none 0 0, .int .i64 0, .int .i64 E, .int .i64 0, .slice none 0 0, .slice none 0 0, .slice none 0 0, .bool true, .slice none 0 0] 53)
  have hpb := k2.size
  generalize w2.alloc (.cells #[.int .i64 E, .int .i64 0, .slice none 0 0, .int .i64 0, .int .i64 E, .int .i64 0, .slice none 0 0, .slice none 0 0, .slice none 0 0, .bool true, .slice none 0 0] 53) = V at *
  generalize w2.heap.size = pb at *
  clear s0 s1 s2 s3 r0 r1 bS0 bR0 k2 y2 hsB
  go_upto_block 0 with fail
  go_cut [9, 10] from 33 to 43 (fun _ _ wx => ∃ (k : Nat) (p : Ply) (m : Nat), Hid (Inv E k p m) ∧ k ≤ 200 ∧ PlyM pb p wx ∧ Below w.heap.size w wx)
  case first =>
    go_wp2_with fail
    go_loopw [33] (fun i wr => ∃ (q : Nat) (p : Ply) (m : Nat), i = .int .i64 q ∧ q ≤ n ∧ q ≤ 200 ∧ Hid (Inv E q p m) ∧ PlyM pb p wr ∧ Below w.heap.size w wr) (fun i _ => n + 1 - (intOf i).toNat)
    case atStart => exact ⟨0, ply0 E, 0, rfl, Nat.zero_le _, Nat.zero_le _, HI0, hM0, k3⟩
    case round =>
      clear hM0 k3 HI0
      obtain ⟨q, p, m, rfl, hq, hq3, HI, hM, hB⟩ := hrel
      by_cases hlt : q < n
      · obtain ⟨ad, hl, rfl, hab, d0, d1, d2⟩ := hps_get (hr.below hB) hlt
        have hbm := HSZ.out ls[q] (List.getElem_mem hl)
        generalize ls[q] = x at *
        have hlt' : (q : Int) < n := by omega
        have lw := hB.size
        by_cases h3 : q < 200
        · have h3' : decide ((200 : Int) ≤ (q : Int)) = false := by simp; omega
          have h3i : (q : Int) < 200 := by omega
          have hwq : IntKind.i64.wrap ((q : Int) + 1) = (q : Int) + 1 := IntWalk.i64_in _ (by omega)
          go_wp2_with fail
          refine (do_inv pb p x.what x.which x.body _ HI.out (by omega) hbm (hM.alloc _)).mono ?_
          rintro e w5 ⟨p', m', hI, rfl, hM', hb5, hs5⟩
          have k5 : Below w.heap.size w w5 := (hB.alloc hB.size _).trans (hb5.mono hpb)
          have HI' := Lib.hid hI
          clear hI HI hM d0 d1 d2 hb5
          go_wp2_with fail
          go_roundw
          case rel => exact ⟨q + 1, p', m', by go_num, by omega, by omega, HI', hM', k5⟩
          case measure => simp [intOf]; omega
        · have h3' : decide ((200 : Int) ≤ (q : Int)) = true := by simp; omega
          have h3i : (200 : Int) ≤ (q : Int) := by omega
          go_wp2_with fail
          go_meet
          exact ⟨q, p, m, HI, by omega, hM.alloc _, hB.alloc hB.size _⟩
      · obtain rfl : q = n := by omega
        go_wp2_with fail
        go_meet
        exact ⟨_, p, m, HI, hq3, hM, hB⟩
  case rest =>
  obtain ⟨k, p, m, HI, hk, hM, hB⟩ := hcut
  clear hM0 k3 HI0
  have hM1 := hM
  obtain ⟨A1, c1, vw, vp, vg, vn, hQ, hc, hR⟩ := hM1
  have lq := hQ.lt
  have q6 : wc.cell? ⟨pb, 6, none⟩ = some vw := hQ.cell 6
  have fQ := hQ.frozen
  have HB := Lib.hid HI.out.bare
  have hMb := hM.bare
  have hBb := hB.setCell (p := ⟨pb, 6, none⟩) hpb (.slice none 0 0)
  have hwb : (bare p).way = [] := rfl
  have HWB := Lib.hid hwb
  generalize bare p = P at *
  clear hQ hR hc hM HI hwb
  go_upto_region 12 with fail
  clear q6 fQ lq
  generalize wc.setCell ⟨pb, 6, none⟩ (.slice none 0 0) = V at *
  clear hB
  go_wp2_with fail
  go_loopw [47] (fun i wr => ∃ (q : Nat), i = .int .i64 q ∧ q ≤ 4 ∧ PlyM pb (tickN q P) wr ∧ Below w.heap.size w wr) (fun i _ => 5 - (intOf i).toNat)
  case atStart => exact ⟨0, rfl, by omega, hMb, hBb⟩
  case round =>
    clear hMb hBb
    obtain ⟨q, rfl, hq, hM, hB⟩ := hrel
    by_cases hlt : q < 4
    · have hlt' : (q : Int) < 4 := by omega
      have hwq : IntKind.i64.wrap ((q : Int) + 1) = (q : Int) + 1 := IntWalk.i64_in _ (by omega)
      go_wp2_with fail
      refine (do5_inv pb (tickN q P) _ _ _ (tickN_inv HB.out q) (by omega) hM).mono ?_
      rintro e w5 ⟨rfl, hM', hb5, hs5⟩
      have k5 : Below w.heap.size w w5 := hB.trans (hb5.mono hpb)
      clear hM
      go_wp2_with fail
      go_roundw
      case rel => exact ⟨q + 1, by go_num, by omega, hM', k5⟩
      case measure => simp [intOf]; omega
    · obtain rfl : q = 4 := by omega
      obtain ⟨hI4, hw4, t1, t2, t3, t4, t5⟩ := ticks4 HB.out HWB.out
      have hMr : PlyM pb (tickP (tickP (tickP (tickP P)))) wr := hM
      have hI4m := hI4.ba
      rw [← t1, ← t2, ← t3, hI4.se, hI4m] at hw4
      have hnb := hI4.nb
      have HI4 := Lib.hid hI4
      have HW4 := Lib.hid hw4
      clear hw4 hI4 hI4m t1 t2 t3 t4 t5 hM HB HWB
      generalize tickP (tickP (tickP (tickP P))) = R at *
      go_wp2_with fail
      go_loopw [] (fun wr => ∃ (j k : Nat) (p : Ply), Hid (Inv E k p m) ∧ k ≤ 204 + j ∧ j ≤ p.s.bodies.length ∧ Hid (p.way = pkL E (m + j : Nat) (p.s.bodies.drop j)) ∧ m + j ≤ p.got.length ∧ PlyM pb p wr ∧ Below w.heap.size w wr) (fun wr => lenAt wr ⟨pb, 6, none⟩)
      case atStart => exact ⟨0, k + 4, R, HI4, by omega, Nat.zero_le _, Lib.hid (by simpa using HW4.out), by omega, hMr, hB⟩
      case round =>
        clear hMr HI4 HW4 hB hnb
        obtain ⟨j, k', p, HI, hk', hj, HW, hg, hM, hB⟩ := hrel
        have hla := lenAt_way hM
        have hwl : p.way.length = p.s.bodies.length - j := by rw [HW.out, pkL_length, List.length_drop]
        have hb8 := HI.out.b8
        have hM1 := hM
        obtain ⟨A1, c1, vw, vp, vg, vn, hQ, hc, hR⟩ := hM1
        obtain ⟨Aw, cw, rfl⟩ := own_form hR.ow
        obtain ⟨Ap, cp, rfl⟩ := own_form hR.op
        obtain ⟨Ag, cg, rfl⟩ := own_form hR.og
        have lq := hQ.lt
        have q6 : wr.cell? ⟨pb, 6, none⟩ = some (.slice Aw p.way.length cw) := hQ.cell 6
        have q9 : wr.cell? ⟨pb, 9, none⟩ = some (.bool true) := by rw [← HI.out.ok]; exact hQ.cell 9
        have HLA := Lib.hid hla
        have HWL := Lib.hid hwl
        clear hla hwl
        by_cases hl : 0 < p.way.length
        · obtain ⟨x, hx, hxm, hI', hj', hw', hg'⟩ := pop_all HI.out hj HW.out hg hl
          have hli : (0 : Int) < (p.way.length : Int) := by omega
          have hpk := HI.out.pkOk (by omega) hxm
          have hln := HI.out.lens (by omega)
          have HI' := Lib.hid hI'
          have HW' := Lib.hid hw'
          have HX := Lib.hid hx
          have hwl' := HWL.out
          clear hI' hw' hx hQ hR
          go_wp2_with fail
          refine (do1_any pb p 0 _ wr hln hM x hl HX.out hpk).mono ?_
          rintro e w5 ⟨rfl, hM', hb5, hs5⟩
          have k5 : Below w.heap.size w w5 := hB.trans (hb5.mono hpb)
          have hla' := lenAt_way hM'
          have hwl2 : (loseZ (tellZ p x) (whichN 0 p.way.length)).way.length = p.s.bodies.length - (j + 1) := by rw [HW'.out, pkL_length, List.length_drop]
          go_wp2_with fail
          go_roundw
          case rel =>
            (repeat apply Exists.intro)
            exact ⟨⟨j + 1, k' + 1, _, HI', by omega, hj', HW', hg', hM', k5⟩, rfl⟩
          case measure => rw [hla', hwl2, HLA.out]; omega
        · have hl0 : p.way.length = 0 := by omega
          have hwl := HWL.out
          have hbl := HI.out.blen
          have hnp := HI.out.np
          have hnb := HI.out.nb
          have heq : p.got.length = p.put.length := by omega
          obtain ⟨a0, a1⟩ := ack_last HI.out heq
          obtain ⟨s', hs'⟩ : ∃ s', ackZ p.s p.s.ep p.rW = (s', 0) := ⟨_, Prod.ext rfl a0⟩
          rw [hs'] at a1
          have HK : Hid (ackZ ⟨p.s.ep, p.s.base, p.s.bodies, p.s.timer⟩ p.s.ep p.rW = (s', 0)) := Lib.hid hs'
          have HA1 := Lib.hid a1
          have q0 : wr.cell? ⟨pb, 0, none⟩ = some (.int .i64 p.s.ep) := hQ.cell 0
          have q1 : wr.cell? ⟨pb, 1, none⟩ = some (.int .i64 p.s.base) := hQ.cell 1
          have q2 : wr.cell? ⟨pb, 2, none⟩ = some (.slice A1 p.s.bodies.length c1) := hQ.cell 2
          have q3 : wr.cell? ⟨pb, 3, none⟩ = some (.int .i64 p.s.timer) := hQ.cell 3
          have q5 : wr.cell? ⟨pb, 5, none⟩ = some (.int .i64 p.rW) := hQ.cell 5
          have hl0i : decide ((0 : Int) < (p.way.length : Int)) = false := by rw [decide_eq_false_iff_not]; omega
          have hl0n : decide (0 < p.way.length) = false := by rw [decide_eq_false_iff_not]; omega
          have HEQ := Lib.hid heq
          have hr1 := hR.rd
          have hs := HI.out.small
          clear hl0 hwl hbl hnp hnb heq a0 a1 hs'
          go_upto_region 18 with fail
          go_cut [11, 12] from 68 to 85 (fun sp er wx => ∃ rb A' c', sp = .pointer (some ⟨rb, 0, none⟩) ∧ er = .int .i64 0 ∧ Blk wx rb 31 #[.int .i64 s'.ep, .int .i64 s'.base, .slice A' s'.bodies.length c', .int .i64 s'.timer] ∧ PlyM pb p wx ∧ Below w.heap.size w wx)
          case first =>
            have hQV : ∀ y, Below wr.heap.size wr y → y.cell? ⟨pb, 0, none⟩ = some (.int .i64 p.s.ep) ∧ y.cell? ⟨pb, 1, none⟩ = some (.int .i64 p.s.base) ∧ y.cell? ⟨pb, 2, none⟩ = some (.slice A1 p.s.bodies.length c1) ∧ y.cell? ⟨pb, 3, none⟩ = some (.int .i64 p.s.timer) ∧ y.cell? ⟨pb, 5, none⟩ = some (.int .i64 p.rW) := fun y hy => ⟨(hQ.below hy lq).cell 0, (hQ.below hy lq).cell 1, (hQ.below hy lq).cell 2, (hQ.below hy lq).cell 3, (hQ.below hy lq).cell 5⟩
            have kx0 : Below wr.heap.size wr wr := Below.refl _ _
            go_region_held3 (fun y => y.cell? ⟨pb, 0, none⟩ = some (.int .i64 p.s.ep) ∧ y.cell? ⟨pb, 1, none⟩ = some (.int .i64 p.s.base) ∧ y.cell? ⟨pb, 2, none⟩ = some (.slice A1 p.s.bodies.length c1) ∧ y.cell? ⟨pb, 3, none⟩ = some (.int .i64 p.s.timer) ∧ y.cell? ⟨pb, 5, none⟩ = some (.int .i64 p.rW))
              (first | exact hQV _ kx0 | exact hQV _ kx2 | exact hQV _ kx4 | exact hQV _ kx3 | go_keep)
              (first | (go_at_call 15; refine (ack_any _ _ _ _ _ p.s.bodies A1 p.s.bodies.length c1 _ ?_ ?_ hs hc).mono ?_; (first | exact hr1 | exact reads_alloc hr1); (first | omega); rw [HK.out]; rintro e w2 ⟨A', c', rfl, rd2, hc2, hA2, hb2⟩; first
                | (have kx2 : Below wr.heap.size wr w2 := ⟨hb2.os, hb2.tape, hb2.output, hb2.size, hb2.block⟩; have ordA := True.intro)
                | (have kx3 : Below wr.heap.size wr w2 := next_below (by go_grown) hb2; have ordB := True.intro; have bN2 : Blk w2 wr.heap.size 31 #[.int .i64 0, .int .i64 0, .slice none 0 0, .int .i64 0] := (Blk.new wr.drew 31 #[.int .i64 0, .int .i64 0, .slice none 0 0, .int .i64 0]).below hb2 (by simp); have nn0 : w2.cell? ⟨wr.heap.size, 0, none⟩ = some (.int .i64 0) := bN2.cell 0; have nn1 : w2.cell? ⟨wr.heap.size, 1, none⟩ = some (.int .i64 0) := bN2.cell 1; have nn2 : w2.cell? ⟨wr.heap.size, 2, none⟩ = some (.slice none 0 0) := bN2.cell 2; have nn3 : w2.cell? ⟨wr.heap.size, 3, none⟩ = some (.int .i64 0) := bN2.cell 3; have fN := bN2.frozen; have kx4 := ((((kx3.setCell (p := ⟨wr.heap.size, 0, none⟩) (Nat.le_refl _) (.int .i64 s'.ep)).setCell (p := ⟨wr.heap.size, 1, none⟩) (Nat.le_refl _) (.int .i64 s'.base)).setCell (p := ⟨wr.heap.size, 2, none⟩) (Nat.le_refl _) (.slice A' s'.bodies.length c')).setCell (p := ⟨wr.heap.size, 3, none⟩) (Nat.le_refl _) (.int .i64 s'.timer)))))
            · have := ordA
              clear hQV
              go_wp2_with fail
              go_meet
              exact ⟨w2.heap.size, A', c', rfl, rfl, Blk.new w2 _ _, (hM.below kx2).alloc _, (hB.trans (kx2.mono hB.size)).alloc (by have := hB.size; have := kx2.size; omega) _⟩
            · have := ordB
              clear hQV
              go_wp2_with fail
              go_meet
              exact ⟨wr.heap.size, A', c', rfl, rfl, (((bN2.set_ 0 (.int .i64 s'.ep)).set_ 1 (.int .i64 s'.base)).set_ 2 (.slice A' s'.bodies.length c')).set_ 3 (.int .i64 s'.timer), hM.below kx4, hB.trans (kx4.mono hB.size)⟩
          case rest =>
          obtain ⟨rb, A', c', rfl, rfl, bN, hM2, hB2⟩ := hcut
          clear q0 q1 q2 q3 q5 q6 q9 hQ hR hr1 lq
          rw [HA1.out] at bN
          obtain ⟨A2, c2, vw, vp, vg, vn, hQ, hc2, hR⟩ := hM2
          obtain ⟨Ap2, cp2, rfl⟩ := own_form hR.op
          obtain ⟨Ag2, cg2, rfl⟩ := own_form hR.og
          have r2 : wc.cell? ⟨rb, 2, none⟩ = some (.slice A' 0 c') := bN.cell 2
          have lN := bN.lt
          have lq := hQ.lt
          have q9 : wc.cell? ⟨pb, 9, none⟩ = some (.bool true) := by rw [← HI.out.ok]; exact hQ.cell 9
          have q7 : wc.cell? ⟨pb, 7, none⟩ = some (.slice Ap2 p.put.length cp2) := hQ.cell 7
          have q8 : wc.cell? ⟨pb, 8, none⟩ = some (.slice Ag2 p.put.length cg2) := by rw [← HEQ.out]; exact hQ.cell 8
          go_wp2_with fail
          go_region_held3 (fun y => y.cell? ⟨rb, 2, none⟩ = some (.slice A' 0 c') ∧ y.cell? ⟨pb, 9, none⟩ = some (.bool true) ∧ y.cell? ⟨pb, 7, none⟩ = some (.slice Ap2 p.put.length cp2) ∧ y.cell? ⟨pb, 8, none⟩ = some (.slice Ag2 p.put.length cg2))
            (first | exact ⟨r2, q9, q7, q8⟩ | go_keep)
            (fail)
          go_wp2
          go_ret
          exact ⟨rfl, ⟨hB2.os, hB2.tape, hB2.output, hB2.size, hB2.block⟩⟩
end Go.Proofs.Ytplodggiifachaa
