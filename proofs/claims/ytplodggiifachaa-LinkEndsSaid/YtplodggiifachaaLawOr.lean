/- The walk of chapter 15's law LinkOrder. -/
import Derived.Test.YtplodggiifachaaPlyD
import Derived.Test.YtplodggiifachaaActs
import Derived.Deep.RegionHeld3
namespace Go.Proofs.Ytplodggiifachaa
open Go.RowKit
set_option linter.unusedVariables false
set_option linter.unusedSimpArgs false

theorem undrew2 {W x : World} (h : Below W.drew.heap.size W.drew x) : Below W.heap.size W x := ⟨h.os, h.tape, h.output, h.size, h.block⟩
/-- A play of an epoch at its start. -/
def ply0 (E : Int) : Ply := ⟨⟨E, 0, [], 0⟩, E, 0, [], [], [], true, []⟩
theorem inv0 {E : Int} (hE : 0 ≤ E ∧ E ≤ 536870912) : Inv E 0 (ply0 E) 0 :=
  { e0 := hE, re := rfl, se := rfl, rt := rightB_iff.2 ⟨⟨hE.1, by have := hE.2; show E ≤ _; omega⟩, by simp [ply0], by simp [ply0], by simp [ply0], by simp [ply0], rfl⟩, ok := rfl, rw_ := rfl, ba := rfl, nb := Nat.le_refl _, np := Nat.le_refl _, bo := rfl, go := rfl
    wa := fun x hx => by cases hx
    pu := fun x hx => by cases hx
    wn := fun x hx => by cases hx
    l1 := Nat.le_refl _, l2 := Nat.le_refl _, l3 := Nat.le_refl _ }
def plyA0 (E : Int) : Array Value := #[.int .i64 E, .int .i64 0, .slice none 0 0, .int .i64 0, .int .i64 E, .int .i64 0, .slice none 0 0, .slice none 0 0, .slice none 0 0, .bool true, .slice none 0 0]
theorem plyM0 (E : Int) (w : World) : PlyM w.heap.size (ply0 E) (w.alloc (.cells (plyA0 E) 53)) :=
  ⟨none, 0, .slice none 0 0, .slice none 0 0, .slice none 0 0, .slice none 0 0, Blk.new w _ _, Nat.le_refl _,
    ⟨Reads.none_, fun h => absurd h (by simp [ply0]), World.ownsRow_nil _ _ _ _, World.ownsRow_nil _ _ _ _, World.ownsRow_nil _ _ _ _, World.ownsRow_nil _ _ _ _, fun g h => by simp [Value.ownBlock] at h⟩⟩
theorem got_put {E : Int} {k : Nat} {p : Ply} {n : Nat} (h : Inv E k p n) {i : Nat} (h1 : i < p.got.length) (h2 : i < p.put.length) : p.got[i] = p.put[i] := by
  have e : p.got[i]? = p.put[i]? := by rw [h.go, List.getElem?_take_of_lt h1]
  rw [List.getElem?_eq_getElem h1, List.getElem?_eq_getElem h2] at e
  injection e
set_option maxRecDepth 100000 in
set_option maxHeartbeats 4000000 in
theorem walkOrder (ep0 : Int) (ls : List Hp) (A : Option Addr) (n c : Nat) (w : World) (hr : Reads w w.heap.size 3 A n (hps ls)) (hm : n ≤ 9223372036854775807) (hs : ∀ z ∈ ls, z.body.size ≤ maxLen) :
    Calls Try.prog 7 #[.int .i64 ep0, .slice A n c] w fun e w' => e = .returned (.bool true) ∧ Below w.heap.size w w' := by
  have hmx : ∀ x y : Int, (if x < y then y else x) = max x y := fun x y => by split <;> omega
  have hmn : ∀ x y : Int, (if x < y then x else y) = min y x := fun x y => by split <;> omega
  obtain ⟨E, hE, e1⟩ : ∃ v : Int, min (max ep0 0) 536870912 = v ∧ 0 ≤ v ∧ v ≤ 536870912 := ⟨_, rfl, by omega, by omega⟩
  have hw : withinB E 0 1073741824 = true := withinB_true.2 ⟨by omega, by omega⟩
  have HW := Lib.hid hw
  have HSZ := Lib.hid hs
  have HI0 := Lib.hid (inv0 e1)
  clear hw hs
  go_enter Try.func7, Try.ntmps7
  go_wp2_with fail
  refine (open_any _ _).mono ?_
  rintro e w1 ⟨he1, hb1⟩
  rw [HW.out] at he1
  simp at he1
  subst he1
  go_wp2_with fail
  refine (alive_any _).mono ?_
  rintro e w2 ⟨rfl, hb2⟩
  have bS0 : Blk w2 w1.heap.size 31 #[.int .i64 E, .int .i64 0, .slice none 0 0, .int .i64 0] := ((Blk.new w1 _ _).alloc _).below hb2 (by simp; omega)
  have bR0 : Blk w2 (w1.heap.size + 1) 23 #[.int .i64 E, .int .i64 0] := (by simpa using Blk.new (w1.alloc (.cells #[.int .i64 E, .int .i64 0, .slice none 0 0, .int .i64 0] 31)) 23 #[.int .i64 E, .int .i64 0] : Blk _ (w1.heap.size + 1) _ _).below hb2 (by simp)
  have y2 := hb2.size
  simp at y2
  have hsB := hb1.size
  have k2 : Below w.heap.size w w2 := ((hb1.alloc hsB _).alloc (by simp; omega) _).trans (hb2.mono (by simp; omega))
  have s0 : w2.cell? ⟨w1.heap.size, 0, none⟩ = some (.int .i64 E) := bS0.cell 0
  have s1 : w2.cell? ⟨w1.heap.size, 1, none⟩ = some (.int .i64 0) := bS0.cell 1
  have s2 : w2.cell? ⟨w1.heap.size, 2, none⟩ = some (.slice none 0 0) := bS0.cell 2
  have s3 : w2.cell? ⟨w1.heap.size, 3, none⟩ = some (.int .i64 0) := bS0.cell 3
  have r0 : w2.cell? ⟨w1.heap.size + 1, 0, none⟩ = some (.int .i64 E) := bR0.cell 0
  have r1 : w2.cell? ⟨w1.heap.size + 1, 1, none⟩ = some (.int .i64 0) := bR0.cell 1
  clear hb1 hb2
  go_upto_region 5 with fail
  have hM0 : PlyM w2.heap.size (ply0 E) (w2.alloc (.cells #[.int .i64 E, .int .i64 0, .slice none 0 0, .int .i64 0, .int .i64 E, .int .i64 0, .slice none 0 0, .slice none 0 0, .slice none 0 0, .bool true, .slice none 0 0] 53)) := plyM0 E w2
  have k3 := k2.alloc k2.size (.cells #[.int .i64 E, .int .i64 0, .slice none 0 0, .int .i64 0, .int .i64 E, .int .i64 0, .slice none 0 0, .slice none 0 0, .slice none 0 0, .bool true, .slice none 0 0] 53)
  have hpb := k2.size
  generalize w2.alloc (.cells #[.int .i64 E, .int .i64 0, .slice none 0 0, .int .i64 0, .int .i64 E, .int .i64 0, .slice none 0 0, .slice none 0 0, .slice none 0 0, .bool true, .slice none 0 0] 53) = V at *
  generalize w2.heap.size = pb at *
  clear s0 s1 s2 s3 r0 r1 bS0 bR0 k2 y2 hsB
  go_wp2_with fail
  go_loopw [33] (fun i wr => ∃ (q : Nat) (p : Ply) (m : Nat), i = .int .i64 q ∧ q ≤ n ∧ q ≤ 300 ∧ Hid (Inv E q p m) ∧ PlyM pb p wr ∧ Below w.heap.size w wr) (fun i _ => n + 1 - (intOf i).toNat)
  case atStart => exact ⟨0, ply0 E, 0, rfl, Nat.zero_le _, Nat.zero_le _, HI0, hM0, k3⟩
  case round =>
    clear hM0 k3 HI0
    obtain ⟨q, p, m, rfl, hq, hq3, HI, hM, hB⟩ := hrel
    by_cases hlt : q < n
    · obtain ⟨ad, hl, rfl, hab, d0, d1, d2⟩ := hps_get (hr.below hB) hlt
      have hbm := HSZ.out ls[q] (List.getElem_mem hl)
      generalize ls[q] = x at *
      have hlt' : (q : Int) < n := by omega
      by_cases h3 : q < 300
      · have h3' : decide ((300 : Int) ≤ (q : Int)) = false := by simp; omega
        have h3i : (q : Int) < 300 := by omega
        have hwq : IntKind.i64.wrap ((q : Int) + 1) = (q : Int) + 1 := IntWalk.i64_in _ (by omega)
        obtain ⟨lw⟩ : Nonempty (w.heap.size ≤ wr.heap.size) := ⟨hB.size⟩
        go_wp2_with fail
        refine (do_inv pb p x.what x.which x.body _ HI.out (by omega) hbm (hM.alloc _)).mono ?_
        rintro e w5 ⟨p', m', hI, rfl, hM', hb5, hs5⟩
        have k5 : Below w.heap.size w w5 := (hB.alloc hB.size _).trans (hb5.mono hpb)
        obtain ⟨A', c', vw, vp, vg, vn, hQ, hc', hR⟩ := hM'
        obtain ⟨Ap, cp, hvp⟩ := own_form hR.op
        subst hvp
        obtain ⟨Ag, cg, hvg⟩ := own_form hR.og
        subst hvg
        have lq := hQ.lt
        have HI' := Lib.hid hI
        have hnb := hI.nb
        have hnp := hI.np
        have hl2 := hI.l2
        have hbl : m' + p'.s.bodies.length ≤ p'.put.length ∧ p'.put.length ≤ m' + p'.s.bodies.length := by have := hI.blen; omega
        have hrt : rightB ⟨p'.s.ep, (m' : Int), p'.s.bodies, p'.s.timer⟩ = true := by rw [← hI.ba]; exact hI.rt
        have HRT := Lib.hid hrt
        have hS : ∀ y, Below w5.heap.size w5 y → y.cell? ⟨pb, 0, none⟩ = some (.int .i64 p'.s.ep) ∧ y.cell? ⟨pb, 1, none⟩ = some (.int .i64 (m' : Int)) ∧ y.cell? ⟨pb, 2, none⟩ = some (.slice A' p'.s.bodies.length c') ∧ y.cell? ⟨pb, 3, none⟩ = some (.int .i64 p'.s.timer) ∧ y.cell? ⟨pb, 5, none⟩ = some (.int .i64 (p'.got.length : Int)) ∧ y.cell? ⟨pb, 7, none⟩ = some (.slice Ap p'.put.length cp) ∧ y.cell? ⟨pb, 8, none⟩ = some (.slice Ag p'.got.length cg) ∧ y.cell? ⟨pb, 9, none⟩ = some (.bool true) := fun y hy => ⟨(hQ.below hy lq).cell 0, (by rw [← HI'.out.ba]; exact (hQ.below hy lq).cell 1), (hQ.below hy lq).cell 2, (hQ.below hy lq).cell 3, (by rw [← HI'.out.rw_]; exact (hQ.below hy lq).cell 5), (hQ.below hy lq).cell 7, (hQ.below hy lq).cell 8, (by rw [← HI'.out.ok]; exact (hQ.below hy lq).cell 9)⟩
        have kx0 : Below w5.heap.size w5 w5 := Below.refl _ _
        have hg1 : decide ((p'.put.length : Int) < (p'.got.length : Int)) = false := by simp; omega
        have hw1 : IntKind.i64.wrap ((m' : Int) + (p'.s.bodies.length : Int)) = (p'.put.length : Int) := by rw [IntWalk.i64_in _ (by omega)]; omega
        have hg3 : decide ((p'.got.length : Int) < (m' : Int)) = false := by simp; omega
        have hrd := hR.rd
        have hsm := HI'.out.small
        have hbm' : p'.s.bodies.length ≤ 9223372036854775807 := by omega
        clear hrt d0 d1 d2 hb5 hM HI hI
        go_wp2_with fail
        simp only [List.append]
        have hg1n : decide (p'.put.length < p'.got.length) = false := by simp; omega
        have hg3n : decide (p'.got.length < m') = false := by simp; omega
        go_region_held3 (fun y => y.cell? ⟨pb, 0, none⟩ = some (.int .i64 p'.s.ep) ∧ y.cell? ⟨pb, 1, none⟩ = some (.int .i64 (m' : Int)) ∧ y.cell? ⟨pb, 2, none⟩ = some (.slice A' p'.s.bodies.length c') ∧ y.cell? ⟨pb, 3, none⟩ = some (.int .i64 p'.s.timer) ∧ y.cell? ⟨pb, 5, none⟩ = some (.int .i64 (p'.got.length : Int)) ∧ y.cell? ⟨pb, 7, none⟩ = some (.slice Ap p'.put.length cp) ∧ y.cell? ⟨pb, 8, none⟩ = some (.slice Ag p'.got.length cg) ∧ y.cell? ⟨pb, 9, none⟩ = some (.bool true))
          (first | exact hS _ kx1 | exact hS _ kx0 | go_keep)
          (first
            | (go_at_call 14; refine (right_any p'.s.ep (m' : Int) p'.s.timer p'.s.bodies A' _ c' _ ?_ hbm' hsm).mono ?_; (first | exact hrd); rw [HRT.out]; rintro e w6 ⟨rfl, hb6⟩; have kx1 : Below w5.heap.size w5 w6 := undrew2 hb6))
        obtain ⟨-, -, -, -, -, q7, q8, -⟩ := hS _ kx1
        have k6 := k5.trans (kx1.mono k5.size)
        have hQ6 := hQ.below kx1 lq
        have hR6 := hR.below kx1
        have lq6 := hQ6.lt
        have hM6 : PlyM pb p' w6 := ⟨A', c', vw, _, _, vn, hQ6, hc', hR6⟩
        clear hQ hR hS kx0 lq hb6 hrd
        go_wp2_with fail
        go_loopw [120] (fun i wr => ∃ (g : Nat), i = .int .i64 g ∧ g ≤ p'.got.length ∧ wr = w6) (fun i _ => p'.got.length + 1 - (intOf i).toNat)
        case atStart => exact ⟨0, rfl, Nat.zero_le _, by first | rfl | trivial⟩
        case round =>
          obtain ⟨g, rfl, hg, rfl⟩ := hrel
          by_cases hgl : g < p'.got.length
          · obtain ⟨ag, hl1, rfl, hc1⟩ := strs_at (Reads.of_own hR6.og) hgl
            obtain ⟨ap, hl2', rfl, hc2⟩ := strs_at (Reads.of_own hR6.op) (show g < p'.put.length by omega)
            rw [got_put HI'.out hl1 hl2'] at hc1
            have hgi : (g : Int) < (p'.got.length : Int) := by omega
            have hgj : (g : Int) < (p'.put.length : Int) := by omega
            have hwg : IntKind.i64.wrap ((g : Int) + 1) = (g : Int) + 1 := IntWalk.i64_in _ (by omega)
            go_wp2_with fail
            go_roundw
            case rel => exact ⟨g + 1, by go_num, by omega, by first | rfl | trivial⟩
            case measure => simp [intOf]; omega
          · obtain rfl : g = p'.got.length := by omega
            go_wp2_with fail
            go_roundw
            case rel => exact ⟨q + 1, p', m', by go_num, by omega, by omega, HI', hM6, k6⟩
            case measure => simp [intOf]; omega
      · have h3' : decide ((300 : Int) ≤ (q : Int)) = true := by simp; omega
        have h3i : (300 : Int) ≤ (q : Int) := by omega
        go_wp2_with fail
        go_ret
        exact ⟨rfl, hB.alloc hB.size _⟩
    · obtain rfl : q = n := by omega
      go_wp2_with fail
      go_ret
      exact ⟨rfl, hB⟩
end Go.Proofs.Ytplodggiifachaa
