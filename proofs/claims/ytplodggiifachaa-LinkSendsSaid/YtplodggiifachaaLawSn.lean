/- The walk of chapter 15's law LinkSends. -/
import Derived.Test.YtplodggiifachaaLink8
namespace Go.Proofs.Ytplodggiifachaa
open Go.RowKit
set_option linter.unusedVariables false
set_option linter.unusedSimpArgs false

theorem undrew1 {W x : World} (h : Below W.drew.heap.size W.drew x) : Below W.heap.size W x := ⟨h.os, h.tape, h.output, h.size, h.block⟩
theorem pushZ_len (s : Snd) (body : ByteArray) : (pushZ s body).1.bodies.length ≤ s.bodies.length + 1 := by
  unfold pushZ
  (repeat' split) <;> simp
theorem ackZ_len (s : Snd) (epoch want : Int) : (ackZ s epoch want).1.bodies.length ≤ s.bodies.length := by
  unfold ackZ
  (repeat' split) <;> simp

def TickPost2 (ep base tt : Int) (zz : List ByteArray) (A : Option Addr) (n c q : Nat) (w : World) (e : Ending) (w' : World) : Prop :=
  ∃ A2 c2, e = .returned (.tuple #[.agg #[.int .i64 ep, .int .i64 base, .slice A n c, .int .i64 tt], .slice A2 q c2]) ∧ w'.ownsRow w.heap.size 25 3 (.slice A2 q c2) q (pkCells ep base zz) ∧ Below w.heap.size w w'
theorem tick_conv {ep base tt : Int} {zs zz : List ByteArray} {A : Option Addr} {n c q : Nat} {r : Int × Bool} {tb : Bool} {w w' : World} {e : Ending} (h : TickPost ep base zs A n c r w e w') (hr : r = (tt, tb)) (hq : (if tb then n else 0) = q) (hz : (if tb then zs else []) = zz) : TickPost2 ep base tt zz A n c q w e w' := by
  subst hr hq hz
  obtain ⟨A2, c2, he, ho, hb⟩ := h
  rw [tick_cells] at ho
  exact ⟨A2, c2, he, ho, hb⟩
theorem tick_q {tb : Bool} {n q : Nat} (hq : (if tb then n else 0) = q) : q ≤ n := by cases tb <;> simp at hq <;> omega

theorem reads_take1 {w : World} {B n k : Nat} {A : Option Addr} {zs : List ByteArray} (h : Reads w B 1 A n (zs.map Value.string)) (hk : k ≤ n) : Reads w B 1 A k ((zs.take k).map Value.string) := by
  have hl := reads_len h
  refine ⟨by simp; omega, fun h0 => ?_⟩
  obtain ⟨ad, e, hb, hc⟩ := h.2 (by omega)
  refine ⟨ad, e, hb, fun j u hu => hc j u ?_⟩
  rw [← hu]
  have hj := (List.getElem?_eq_some_iff.1 hu).1
  simp at hj
  rw [List.getElem?_map, List.getElem?_map, List.getElem?_take_of_lt (by omega)]

set_option maxRecDepth 100000 in
set_option maxHeartbeats 6000000 in
theorem walkSends1 (ep base timer epoch want : Int) (body : ByteArray) (zs : List ByteArray) (A : Option Addr) (n c : Nat) (w : World) (hr : Reads w w.heap.size 1 A n (zs.map Value.string)) (hm : n ≤ 9223372036854775807) (hs : ∀ z ∈ zs, z.size ≤ maxLen) (hc : n ≤ c) (hbs : body.size ≤ maxLen) (h20 : n ≤ 20) :
    Calls Try.prog 6 #[.agg #[.int .i64 ep, .int .i64 base, .slice A n c, .int .i64 timer], .string body, .int .i64 epoch, .int .i64 want] w fun e w' => e = .returned (.bool true) ∧ Below w.heap.size w w' := by
  have hlen := reads_len hr
  obtain ⟨⟨⟨a1, a2, az, a4⟩, ⟨pe, pn, pb⟩, perr⟩, hZ⟩ : ∃ Z, pushZ ⟨ep, base, zs, timer⟩ body = Z := ⟨_, rfl⟩
  obtain ⟨⟨⟨k1, k2, kz, k4⟩, kerr⟩, hK⟩ : ∃ Z, ackZ ⟨ep, base, zs, timer⟩ epoch want = Z := ⟨_, rfl⟩
  obtain ⟨⟨tt, tb⟩, hT⟩ : ∃ Z, tickT ⟨ep, base, zs, timer⟩ = Z := ⟨_, rfl⟩
  obtain ⟨rr, hR⟩ : ∃ Z, rightB ⟨ep, base, zs, timer⟩ = Z := ⟨_, rfl⟩
  have haz := pushZ_len ⟨ep, base, zs, timer⟩ body
  have hkz := ackZ_len ⟨ep, base, zs, timer⟩ epoch want
  rw [hZ] at haz
  rw [hK] at hkz
  simp only at haz hkz
  obtain ⟨q, hq⟩ : ∃ q, (if tb then n else 0) = q := ⟨_, rfl⟩
  obtain ⟨zz, hzz⟩ : ∃ q, (if tb then zs else []) = q := ⟨_, rfl⟩
  have hqm := tick_q hq
  have HQ := Lib.hid hq
  have HZZ := Lib.hid hzz
  have HZ := Lib.hid hZ
  have HK := Lib.hid hK
  have HT := Lib.hid hT
  have HR := Lib.hid hR
  clear hZ hK hT hR hq hzz
  rw [hlen] at haz hkz
  clear hlen
  have hcm := hc
  have hd20 : decide ((20 : Int) < (n : Int)) = false := by simp; omega
  go_enter Try.func6, Try.ntmps6
  go_wp2_with fail
  have hrw := hr
  have bT := Blk.new w 31 #[.int .i64 ep, .int .i64 base, .slice A n c, .int .i64 timer]
  have rd0 := reads_alloc (o := .cells #[.int .i64 ep, .int .i64 base, .slice A n c, .int .i64 timer] 31) hr
  have k0 : Below w.heap.size w (w.alloc (.cells #[.int .i64 ep, .int .i64 base, .slice A n c, .int .i64 timer] 31)) := (Below.refl _ _).alloc (Nat.le_refl _) _
  refine (push_any ep base timer zs A n c body _ rd0 (by omega) hs hbs).mono ?_
  rw [HZ.out]
  rintro e w1 ⟨A1, c1, rfl, ho1, hc1, hb1⟩
  simp only at ho1 hc1
  have k1' := k0.trans (hb1.mono k0.size)
  have bT1 := bT.below hb1 bT.lt
  have y1 := hb1.size
  have l1 := bT1.lt
  have t0 : w1.cell? ⟨w.heap.size, 0, none⟩ = some (.int .i64 ep) := bT1.cell 0
  have t1 : w1.cell? ⟨w.heap.size, 1, none⟩ = some (.int .i64 base) := bT1.cell 1
  have t2 : w1.cell? ⟨w.heap.size, 2, none⟩ = some (.slice A n c) := bT1.cell 2
  have t3 : w1.cell? ⟨w.heap.size, 3, none⟩ = some (.int .i64 timer) := bT1.cell 3
  go_wp2_with fail
  have kk1 := (k1'.alloc k1'.size (.cells #[.int .i64 a1, .int .i64 a2, .slice A1 az.length c1, .int .i64 a4] 31)).alloc (by have := k1'.size; simp; omega) (.cells #[.int .i64 pe, .int .i64 pn, .string pb] 25)
  refine (refPush_any ep base timer zs A n c body _ ((hrw.below kk1).more kk1.size) (by omega) hs hbs).mono ?_
  rw [HZ.out]
  rintro e w2 ⟨A2, c2, rfl, ho2, hc2, hb2⟩
  simp only at ho2 hc2
  have k2' := kk1.trans (hb2.mono kk1.size)
  have bT2 := ((bT1.alloc (.cells #[.int .i64 a1, .int .i64 a2, .slice A1 az.length c1, .int .i64 a4] 31)).alloc (.cells #[.int .i64 pe, .int .i64 pn, .string pb] 25)).below hb2 (by simp; omega)
  have bA2 := ((Blk.new w1 31 #[.int .i64 a1, .int .i64 a2, .slice A1 az.length c1, .int .i64 a4]).alloc (.cells #[.int .i64 pe, .int .i64 pn, .string pb] 25)).below hb2 (by simp; omega)
  have bP2 : Blk w2 (w1.heap.size + 1) 25 #[.int .i64 pe, .int .i64 pn, .string pb] := (by simpa using Blk.new (w1.alloc (.cells #[.int .i64 a1, .int .i64 a2, .slice A1 az.length c1, .int .i64 a4] 31)) 25 #[.int .i64 pe, .int .i64 pn, .string pb] : Blk _ (w1.heap.size + 1) _ _).below hb2 (by simp)
  have r1 := reads_below (reads_alloc (o := .cells #[.int .i64 pe, .int .i64 pn, .string pb] 25) (reads_alloc (o := .cells #[.int .i64 a1, .int .i64 a2, .slice A1 az.length c1, .int .i64 a4] 31) (Reads.of_own ho1))) hb2
  have l2 := bT2.lt
  have t0 : w2.cell? ⟨w.heap.size, 0, none⟩ = some (.int .i64 ep) := bT2.cell 0
  have t1 : w2.cell? ⟨w.heap.size, 1, none⟩ = some (.int .i64 base) := bT2.cell 1
  have t2 : w2.cell? ⟨w.heap.size, 2, none⟩ = some (.slice A n c) := bT2.cell 2
  have t3 : w2.cell? ⟨w.heap.size, 3, none⟩ = some (.int .i64 timer) := bT2.cell 3
  go_wp2_with fail
  have bTV := (bT2.alloc (.cells #[.int .i64 a1, .int .i64 a2, .slice A2 az.length c2, .int .i64 a4] 31)).alloc (.cells #[.int .i64 pe, .int .i64 pn, .string pb] 25)
  have bAV := (bA2.alloc (.cells #[.int .i64 a1, .int .i64 a2, .slice A2 az.length c2, .int .i64 a4] 31)).alloc (.cells #[.int .i64 pe, .int .i64 pn, .string pb] 25)
  have bPV := (bP2.alloc (.cells #[.int .i64 a1, .int .i64 a2, .slice A2 az.length c2, .int .i64 a4] 31)).alloc (.cells #[.int .i64 pe, .int .i64 pn, .string pb] 25)
  have bBV := (Blk.new w2 31 #[.int .i64 a1, .int .i64 a2, .slice A2 az.length c2, .int .i64 a4]).alloc (.cells #[.int .i64 pe, .int .i64 pn, .string pb] 25)
  have bQV : Blk ((w2.alloc (.cells #[.int .i64 a1, .int .i64 a2, .slice A2 az.length c2, .int .i64 a4] 31)).alloc (.cells #[.int .i64 pe, .int .i64 pn, .string pb] 25)) (w2.heap.size + 1) 25 #[.int .i64 pe, .int .i64 pn, .string pb] := by simpa using Blk.new (w2.alloc (.cells #[.int .i64 a1, .int .i64 a2, .slice A2 az.length c2, .int .i64 a4] 31)) 25 #[.int .i64 pe, .int .i64 pn, .string pb]
  have r1V := reads_alloc (o := .cells #[.int .i64 pe, .int .i64 pn, .string pb] 25) (reads_alloc (o := .cells #[.int .i64 a1, .int .i64 a2, .slice A2 az.length c2, .int .i64 a4] 31) r1)
  have r2V := reads_alloc (o := .cells #[.int .i64 pe, .int .i64 pn, .string pb] 25) (reads_alloc (o := .cells #[.int .i64 a1, .int .i64 a2, .slice A2 az.length c2, .int .i64 a4] 31) (Reads.of_own ho2))
  have kV := (k2'.alloc k2'.size (.cells #[.int .i64 a1, .int .i64 a2, .slice A2 az.length c2, .int .i64 a4] 31)).alloc (by have := k2'.size; simp; omega) (.cells #[.int .i64 pe, .int .i64 pn, .string pb] 25)
  have rV := (hrw.below kV).more kV.size
  clear t0 t1 t2 t3 hb1 hb2 bT bT1 bT2 bA2 bP2 ho1 ho2 r1 rd0
  generalize (w2.alloc (.cells #[.int .i64 a1, .int .i64 a2, .slice A2 az.length c2, .int .i64 a4] 31)).alloc (.cells #[.int .i64 pe, .int .i64 pn, .string pb] 25) = V at *
  generalize w.heap.size = bt at bTV ⊢
  generalize w1.heap.size = ba at bAV bPV ⊢
  generalize w2.heap.size = bb at bBV bQV ⊢
  have hS : ∀ x : World, Below V.heap.size V x → x.cell? ⟨bt, 0, none⟩ = some (.int .i64 ep) ∧ x.cell? ⟨bt, 1, none⟩ = some (.int .i64 base) ∧ x.cell? ⟨bt, 2, none⟩ = some (.slice A n c) ∧ x.cell? ⟨bt, 3, none⟩ = some (.int .i64 timer) ∧ x.cell? ⟨ba, 0, none⟩ = some (.int .i64 a1) ∧ x.cell? ⟨ba, 1, none⟩ = some (.int .i64 a2) ∧ x.cell? ⟨ba, 2, none⟩ = some (.slice A1 az.length c1) ∧ x.cell? ⟨ba, 3, none⟩ = some (.int .i64 a4) ∧ x.cell? ⟨bb, 0, none⟩ = some (.int .i64 a1) ∧ x.cell? ⟨bb, 1, none⟩ = some (.int .i64 a2) ∧ x.cell? ⟨bb, 2, none⟩ = some (.slice A2 az.length c2) ∧ x.cell? ⟨bb, 3, none⟩ = some (.int .i64 a4) ∧ x.cell? ⟨ba + 1, 0, none⟩ = some (.int .i64 pe) ∧ x.cell? ⟨ba + 1, 1, none⟩ = some (.int .i64 pn) ∧ x.cell? ⟨ba + 1, 2, none⟩ = some (.string pb) ∧ x.cell? ⟨bb + 1, 0, none⟩ = some (.int .i64 pe) ∧ x.cell? ⟨bb + 1, 1, none⟩ = some (.int .i64 pn) ∧ x.cell? ⟨bb + 1, 2, none⟩ = some (.string pb) := fun x hx => ⟨(bTV.below hx bTV.lt).cell 0, (bTV.below hx bTV.lt).cell 1, (bTV.below hx bTV.lt).cell 2, (bTV.below hx bTV.lt).cell 3, (bAV.below hx bAV.lt).cell 0, (bAV.below hx bAV.lt).cell 1, (bAV.below hx bAV.lt).cell 2, (bAV.below hx bAV.lt).cell 3, (bBV.below hx bBV.lt).cell 0, (bBV.below hx bBV.lt).cell 1, (bBV.below hx bBV.lt).cell 2, (bBV.below hx bBV.lt).cell 3, (bPV.below hx bPV.lt).cell 0, (bPV.below hx bPV.lt).cell 1, (bPV.below hx bPV.lt).cell 2, (bQV.below hx bQV.lt).cell 0, (bQV.below hx bQV.lt).cell 1, (bQV.below hx bQV.lt).cell 2⟩
  have kx0 : Below V.heap.size V V := Below.refl _ _
  go_region_held3 (fun x => x.cell? ⟨bt, 0, none⟩ = some (.int .i64 ep) ∧ x.cell? ⟨bt, 1, none⟩ = some (.int .i64 base) ∧ x.cell? ⟨bt, 2, none⟩ = some (.slice A n c) ∧ x.cell? ⟨bt, 3, none⟩ = some (.int .i64 timer) ∧ x.cell? ⟨ba, 0, none⟩ = some (.int .i64 a1) ∧ x.cell? ⟨ba, 1, none⟩ = some (.int .i64 a2) ∧ x.cell? ⟨ba, 2, none⟩ = some (.slice A1 az.length c1) ∧ x.cell? ⟨ba, 3, none⟩ = some (.int .i64 a4) ∧ x.cell? ⟨bb, 0, none⟩ = some (.int .i64 a1) ∧ x.cell? ⟨bb, 1, none⟩ = some (.int .i64 a2) ∧ x.cell? ⟨bb, 2, none⟩ = some (.slice A2 az.length c2) ∧ x.cell? ⟨bb, 3, none⟩ = some (.int .i64 a4) ∧ x.cell? ⟨ba + 1, 0, none⟩ = some (.int .i64 pe) ∧ x.cell? ⟨ba + 1, 1, none⟩ = some (.int .i64 pn) ∧ x.cell? ⟨ba + 1, 2, none⟩ = some (.string pb) ∧ x.cell? ⟨bb + 1, 0, none⟩ = some (.int .i64 pe) ∧ x.cell? ⟨bb + 1, 1, none⟩ = some (.int .i64 pn) ∧ x.cell? ⟨bb + 1, 2, none⟩ = some (.string pb))
    (first | exact hS _ kx4 | exact hS _ kx3 | exact hS _ kx2 | exact hS _ kx1 | exact hS _ kx0 | go_keep)
    (first
      | (go_at_call 12; refine (alive_any _).mono ?_; rintro e x1 ⟨rfl, hx1⟩; have kx1 : Below V.heap.size V x1 := undrew1 hx1)
      | (go_at_call 14; refine (right_any ep base timer zs A n c _ (reads_below rV kx1) (by omega) hs).mono ?_; rw [HR.out]; rintro e x2 ⟨rfl, hx2⟩; have kx2 := kx1.trans (hx2.mono kx1.size))
      | (go_at_call 18; refine (refRight_any ep base timer zs A n c _ (reads_below rV kx2) (by omega) hs).mono ?_; rw [HR.out]; rintro e x3 ⟨rfl, hx3⟩; have kx3 := kx2.trans (hx3.mono kx2.size))
      | (go_at_call 13; refine (like_same a1 a2 a4 az A1 A2 az.length c1 c2 _ (reads_below r1V kx3) (reads_below r2V kx3) (by omega)).mono ?_; rintro e x4 ⟨rfl, hx4⟩; have kx4 := kx3.trans (hx4.mono kx3.size)))
  obtain ⟨t0, t1, t2, t3, _⟩ := hS _ kx4
  have lt4 := Nat.lt_of_lt_of_le bTV.lt kx4.size
  go_wp2_with fail
  refine (ack_any ep base timer epoch want zs A n c _ (reads_below rV kx4) (by omega) hs hcm).mono ?_
  rw [HK.out]
  rintro e x5 ⟨A5, c5, rfl, rd5, hc5, _, hb5⟩
  simp only at rd5 hc5
  have kx5 := kx4.trans (hb5.mono kx4.size)
  clear t0 t1 t2 t3
  obtain ⟨t0, t1, t2, t3, _⟩ := hS _ kx5
  have lt5 := Nat.lt_of_lt_of_le bTV.lt kx5.size
  go_wp2_with fail
  have kx5' := kx5.alloc kx5.size (.cells #[.int .i64 k1, .int .i64 k2, .slice A5 kz.length c5, .int .i64 k4] 31)
  refine (refAck_any ep base timer epoch want zs A n c _ (reads_below rV kx5') (by omega) hs hcm).mono ?_
  rw [HK.out]
  rintro e x6 ⟨A6, c6, rfl, rd6, hc6, _, hb6⟩
  simp only at rd6 hc6
  have kx6 := kx5'.trans (hb6.mono kx5'.size)
  have bC6 := (Blk.new x5 31 #[.int .i64 k1, .int .i64 k2, .slice A5 kz.length c5, .int .i64 k4]).below hb6 (by simp)
  have rC6 := reads_below (reads_alloc (o := .cells #[.int .i64 k1, .int .i64 k2, .slice A5 kz.length c5, .int .i64 k4] 31) rd5) hb6
  clear t0 t1 t2 t3
  obtain ⟨t0, t1, t2, t3, _⟩ := hS _ kx6
  have lt6 := Nat.lt_of_lt_of_le bTV.lt kx6.size
  go_wp2_with fail
  have kx6' := kx6.alloc kx6.size (.cells #[.int .i64 k1, .int .i64 k2, .slice A6 kz.length c6, .int .i64 k4] 31)
  refine ((tick_any ep base timer zs A n c _ (reads_below rV kx6') (by omega) hs).mono fun _ _ h => tick_conv h HT.out HQ.out HZZ.out).mono ?_
  rintro e x7 ⟨L7, l7, rfl, hoL, hb7⟩
  have kx7 := kx6'.trans (hb7.mono kx6'.size)
  have bC7 := (bC6.alloc (.cells #[.int .i64 k1, .int .i64 k2, .slice A6 kz.length c6, .int .i64 k4] 31)).below hb7 (by have := bC6.lt; simp; omega)
  have rC7 := reads_below (reads_alloc (o := .cells #[.int .i64 k1, .int .i64 k2, .slice A6 kz.length c6, .int .i64 k4] 31) rC6) hb7
  have bD7 := (Blk.new x6 31 #[.int .i64 k1, .int .i64 k2, .slice A6 kz.length c6, .int .i64 k4]).below hb7 (by simp)
  have rD7 := reads_below (reads_alloc (o := .cells #[.int .i64 k1, .int .i64 k2, .slice A6 kz.length c6, .int .i64 k4] 31) rd6) hb7
  have rL7 := Reads.of_own hoL
  clear t0 t1 t2 t3
  obtain ⟨t0, t1, t2, t3, _⟩ := hS _ kx7
  have lt7 := Nat.lt_of_lt_of_le bTV.lt kx7.size
  go_wp2_with fail
  have kx7' := kx7.alloc kx7.size (.cells #[.int .i64 ep, .int .i64 base, .slice A n c, .int .i64 tt] 31)
  refine ((refTick_any ep base timer zs A n c _ (reads_below rV kx7') (by omega) hs).mono fun _ _ h => tick_conv h HT.out HQ.out HZZ.out).mono ?_
  rintro e x8 ⟨L8, l8, rfl, hoM, hb8⟩
  have kx8 := kx7'.trans (hb8.mono kx7'.size)
  have bC8 := (bC7.alloc (.cells #[.int .i64 ep, .int .i64 base, .slice A n c, .int .i64 tt] 31)).below hb8 (by have := bC7.lt; simp; omega)
  have rC8 := reads_below (reads_alloc (o := .cells #[.int .i64 ep, .int .i64 base, .slice A n c, .int .i64 tt] 31) rC7) hb8
  have bD8 := (bD7.alloc (.cells #[.int .i64 ep, .int .i64 base, .slice A n c, .int .i64 tt] 31)).below hb8 (by have := bD7.lt; simp; omega)
  have rD8 := reads_below (reads_alloc (o := .cells #[.int .i64 ep, .int .i64 base, .slice A n c, .int .i64 tt] 31) rD7) hb8
  have bX8 := (Blk.new x7 31 #[.int .i64 ep, .int .i64 base, .slice A n c, .int .i64 tt]).below hb8 (by simp)
  have rL8 := reads_below (reads_alloc (o := .cells #[.int .i64 ep, .int .i64 base, .slice A n c, .int .i64 tt] 31) rL7) hb8
  have rM8 := Reads.of_own hoM
  have lC := bC8.lt
  have lD := bD8.lt
  have lX := bX8.lt
  have u0 : x8.cell? ⟨x5.heap.size, 0, none⟩ = some (.int .i64 k1) := bC8.cell 0
  have u1 : x8.cell? ⟨x5.heap.size, 1, none⟩ = some (.int .i64 k2) := bC8.cell 1
  have u2 : x8.cell? ⟨x5.heap.size, 2, none⟩ = some (.slice A5 kz.length c5) := bC8.cell 2
  have u3 : x8.cell? ⟨x5.heap.size, 3, none⟩ = some (.int .i64 k4) := bC8.cell 3
  have v0 : x8.cell? ⟨x6.heap.size, 0, none⟩ = some (.int .i64 k1) := bD8.cell 0
  have v1 : x8.cell? ⟨x6.heap.size, 1, none⟩ = some (.int .i64 k2) := bD8.cell 1
  have v2 : x8.cell? ⟨x6.heap.size, 2, none⟩ = some (.slice A6 kz.length c6) := bD8.cell 2
  have v3 : x8.cell? ⟨x6.heap.size, 3, none⟩ = some (.int .i64 k4) := bD8.cell 3
  clear t0 t1 t2 t3 hS hb5 hb6 hb7 hb8
  go_wp2_with fail
  have kx8' := kx8.alloc kx8.size (.cells #[.int .i64 ep, .int .i64 base, .slice A n c, .int .i64 tt] 31)
  have bY := Blk.new x8 31 #[.int .i64 ep, .int .i64 base, .slice A n c, .int .i64 tt]
  have rT8 := reads_below rV kx8'
  refine (like_same k1 k2 k4 kz A5 A6 kz.length c5 c6 _ (reads_alloc rC8) (reads_alloc rD8) (by omega)).mono ?_
  rintro e x9 ⟨rfl, hx9⟩
  have kx9 := kx8'.trans (hx9.mono kx8'.size)
  have bX9 := (bX8.alloc (.cells #[.int .i64 ep, .int .i64 base, .slice A n c, .int .i64 tt] 31)).below hx9 (by simp; omega)
  have bY9 := bY.below hx9 (by simp)
  have rL9 := reads_below (reads_alloc (o := .cells #[.int .i64 ep, .int .i64 base, .slice A n c, .int .i64 tt] 31) rL8) hx9
  have rM9 := reads_below (reads_alloc (o := .cells #[.int .i64 ep, .int .i64 base, .slice A n c, .int .i64 tt] 31) rM8) hx9
  clear u0 u1 u2 u3 v0 v1 v2 v3
  have u0 : x9.cell? ⟨x7.heap.size, 0, none⟩ = some (.int .i64 ep) := bX9.cell 0
  have u1 : x9.cell? ⟨x7.heap.size, 1, none⟩ = some (.int .i64 base) := bX9.cell 1
  have u2 : x9.cell? ⟨x7.heap.size, 2, none⟩ = some (.slice A n c) := bX9.cell 2
  have u3 : x9.cell? ⟨x7.heap.size, 3, none⟩ = some (.int .i64 tt) := bX9.cell 3
  have v0 : x9.cell? ⟨x8.heap.size, 0, none⟩ = some (.int .i64 ep) := bY9.cell 0
  have v1 : x9.cell? ⟨x8.heap.size, 1, none⟩ = some (.int .i64 base) := bY9.cell 1
  have v2 : x9.cell? ⟨x8.heap.size, 2, none⟩ = some (.slice A n c) := bY9.cell 2
  have v3 : x9.cell? ⟨x8.heap.size, 3, none⟩ = some (.int .i64 tt) := bY9.cell 3
  go_wp2_with fail
  refine (like_same ep base tt zs A A n c c _ (reads_below rV kx9) (reads_below rV kx9) (by omega)).mono ?_
  rintro e x10 ⟨rfl, hx10⟩
  have kx10 := kx9.trans (hx10.mono kx9.size)
  go_wp2_with fail
  refine (likePackets_same ep base zz L7 L8 q l7 l8 _ (reads_below rL9 hx10) (reads_below rM9 hx10) (by omega)).mono ?_
  rintro e x11 ⟨rfl, hx11⟩
  have kx11 := kx10.trans (hx11.mono kx10.size)
  go_wp2
  go_ret
  exact ⟨by simp, kV.trans (kx11.mono kV.size)⟩

set_option maxRecDepth 100000 in
set_option maxHeartbeats 6000000 in
theorem walkSends2 (ep base timer epoch want : Int) (body : ByteArray) (zs : List ByteArray) (A : Option Addr) (n c : Nat) (w : World) (hr : Reads w w.heap.size 1 A n (zs.map Value.string)) (hm : n ≤ 9223372036854775807) (hs : ∀ z ∈ zs, z.size ≤ maxLen) (hc : n ≤ c) (hbs : body.size ≤ maxLen) (h20 : 20 < n) :
    Calls Try.prog 6 #[.agg #[.int .i64 ep, .int .i64 base, .slice A n c, .int .i64 timer], .string body, .int .i64 epoch, .int .i64 want] w fun e w' => e = .returned (.bool true) ∧ Below w.heap.size w w' := by
  have hrw := reads_take1 (k := 20) hr (by omega)
  have hlen := reads_len hrw
  have hs0 := hs
  have hs : ∀ z ∈ zs.take 20, z.size ≤ maxLen := fun z hz => hs0 z (List.mem_of_mem_take hz)
  clear hs0
  obtain ⟨⟨⟨a1, a2, az, a4⟩, ⟨pe, pn, pb⟩, perr⟩, hZ⟩ : ∃ Z, pushZ ⟨ep, base, (zs.take 20), timer⟩ body = Z := ⟨_, rfl⟩
  obtain ⟨⟨⟨k1, k2, kz, k4⟩, kerr⟩, hK⟩ : ∃ Z, ackZ ⟨ep, base, (zs.take 20), timer⟩ epoch want = Z := ⟨_, rfl⟩
  obtain ⟨⟨tt, tb⟩, hT⟩ : ∃ Z, tickT ⟨ep, base, (zs.take 20), timer⟩ = Z := ⟨_, rfl⟩
  obtain ⟨rr, hR⟩ : ∃ Z, rightB ⟨ep, base, (zs.take 20), timer⟩ = Z := ⟨_, rfl⟩
  have haz := pushZ_len ⟨ep, base, (zs.take 20), timer⟩ body
  have hkz := ackZ_len ⟨ep, base, (zs.take 20), timer⟩ epoch want
  rw [hZ] at haz
  rw [hK] at hkz
  simp only at haz hkz
  obtain ⟨q, hq⟩ : ∃ q, (if tb then 20 else 0) = q := ⟨_, rfl⟩
  obtain ⟨zz, hzz⟩ : ∃ q, (if tb then (zs.take 20) else []) = q := ⟨_, rfl⟩
  have hqm := tick_q hq
  have HQ := Lib.hid hq
  have HZZ := Lib.hid hzz
  have HZ := Lib.hid hZ
  have HK := Lib.hid hK
  have HT := Lib.hid hT
  have HR := Lib.hid hR
  clear hZ hK hT hR hq hzz
  rw [hlen] at haz hkz
  clear hlen
  have hcm : 20 ≤ c := by omega
  obtain ⟨ad, hA, _⟩ := hr.2 (by omega)
  subst hA
  clear hr
  have hd20 : decide ((20 : Int) < (n : Int)) = true := by simp; omega
  have h20i : (20 : Int) < (n : Int) := by omega
  go_enter Try.func6, Try.ntmps6
  go_wp2_with fail
  have bT := Blk.new w 31 #[.int .i64 ep, .int .i64 base, .slice (some ad) 20 c, .int .i64 timer]
  have rd0 := reads_alloc (o := .cells #[.int .i64 ep, .int .i64 base, .slice (some ad) 20 c, .int .i64 timer] 31) hrw
  have k0 : Below w.heap.size w (w.alloc (.cells #[.int .i64 ep, .int .i64 base, .slice (some ad) 20 c, .int .i64 timer] 31)) := (Below.refl _ _).alloc (Nat.le_refl _) _
  refine (push_any ep base timer (zs.take 20) (some ad) 20 c body _ rd0 (by omega) hs hbs).mono ?_
  rw [HZ.out]
  rintro e w1 ⟨A1, c1, rfl, ho1, hc1, hb1⟩
  simp only at ho1 hc1
  have k1' := k0.trans (hb1.mono k0.size)
  have bT1 := bT.below hb1 bT.lt
  have y1 := hb1.size
  have l1 := bT1.lt
  have t0 : w1.cell? ⟨w.heap.size, 0, none⟩ = some (.int .i64 ep) := bT1.cell 0
  have t1 : w1.cell? ⟨w.heap.size, 1, none⟩ = some (.int .i64 base) := bT1.cell 1
  have t2 : w1.cell? ⟨w.heap.size, 2, none⟩ = some (.slice (some ad) 20 c) := bT1.cell 2
  have t3 : w1.cell? ⟨w.heap.size, 3, none⟩ = some (.int .i64 timer) := bT1.cell 3
  go_wp2_with fail
  have kk1 := (k1'.alloc k1'.size (.cells #[.int .i64 a1, .int .i64 a2, .slice A1 az.length c1, .int .i64 a4] 31)).alloc (by have := k1'.size; simp; omega) (.cells #[.int .i64 pe, .int .i64 pn, .string pb] 25)
  refine (refPush_any ep base timer (zs.take 20) (some ad) 20 c body _ ((hrw.below kk1).more kk1.size) (by omega) hs hbs).mono ?_
  rw [HZ.out]
  rintro e w2 ⟨A2, c2, rfl, ho2, hc2, hb2⟩
  simp only at ho2 hc2
  have k2' := kk1.trans (hb2.mono kk1.size)
  have bT2 := ((bT1.alloc (.cells #[.int .i64 a1, .int .i64 a2, .slice A1 az.length c1, .int .i64 a4] 31)).alloc (.cells #[.int .i64 pe, .int .i64 pn, .string pb] 25)).below hb2 (by simp; omega)
  have bA2 := ((Blk.new w1 31 #[.int .i64 a1, .int .i64 a2, .slice A1 az.length c1, .int .i64 a4]).alloc (.cells #[.int .i64 pe, .int .i64 pn, .string pb] 25)).below hb2 (by simp; omega)
  have bP2 : Blk w2 (w1.heap.size + 1) 25 #[.int .i64 pe, .int .i64 pn, .string pb] := (by simpa using Blk.new (w1.alloc (.cells #[.int .i64 a1, .int .i64 a2, .slice A1 az.length c1, .int .i64 a4] 31)) 25 #[.int .i64 pe, .int .i64 pn, .string pb] : Blk _ (w1.heap.size + 1) _ _).below hb2 (by simp)
  have r1 := reads_below (reads_alloc (o := .cells #[.int .i64 pe, .int .i64 pn, .string pb] 25) (reads_alloc (o := .cells #[.int .i64 a1, .int .i64 a2, .slice A1 az.length c1, .int .i64 a4] 31) (Reads.of_own ho1))) hb2
  have l2 := bT2.lt
  have t0 : w2.cell? ⟨w.heap.size, 0, none⟩ = some (.int .i64 ep) := bT2.cell 0
  have t1 : w2.cell? ⟨w.heap.size, 1, none⟩ = some (.int .i64 base) := bT2.cell 1
  have t2 : w2.cell? ⟨w.heap.size, 2, none⟩ = some (.slice (some ad) 20 c) := bT2.cell 2
  have t3 : w2.cell? ⟨w.heap.size, 3, none⟩ = some (.int .i64 timer) := bT2.cell 3
  go_wp2_with fail
  have bTV := (bT2.alloc (.cells #[.int .i64 a1, .int .i64 a2, .slice A2 az.length c2, .int .i64 a4] 31)).alloc (.cells #[.int .i64 pe, .int .i64 pn, .string pb] 25)
  have bAV := (bA2.alloc (.cells #[.int .i64 a1, .int .i64 a2, .slice A2 az.length c2, .int .i64 a4] 31)).alloc (.cells #[.int .i64 pe, .int .i64 pn, .string pb] 25)
  have bPV := (bP2.alloc (.cells #[.int .i64 a1, .int .i64 a2, .slice A2 az.length c2, .int .i64 a4] 31)).alloc (.cells #[.int .i64 pe, .int .i64 pn, .string pb] 25)
  have bBV := (Blk.new w2 31 #[.int .i64 a1, .int .i64 a2, .slice A2 az.length c2, .int .i64 a4]).alloc (.cells #[.int .i64 pe, .int .i64 pn, .string pb] 25)
  have bQV : Blk ((w2.alloc (.cells #[.int .i64 a1, .int .i64 a2, .slice A2 az.length c2, .int .i64 a4] 31)).alloc (.cells #[.int .i64 pe, .int .i64 pn, .string pb] 25)) (w2.heap.size + 1) 25 #[.int .i64 pe, .int .i64 pn, .string pb] := by simpa using Blk.new (w2.alloc (.cells #[.int .i64 a1, .int .i64 a2, .slice A2 az.length c2, .int .i64 a4] 31)) 25 #[.int .i64 pe, .int .i64 pn, .string pb]
  have r1V := reads_alloc (o := .cells #[.int .i64 pe, .int .i64 pn, .string pb] 25) (reads_alloc (o := .cells #[.int .i64 a1, .int .i64 a2, .slice A2 az.length c2, .int .i64 a4] 31) r1)
  have r2V := reads_alloc (o := .cells #[.int .i64 pe, .int .i64 pn, .string pb] 25) (reads_alloc (o := .cells #[.int .i64 a1, .int .i64 a2, .slice A2 az.length c2, .int .i64 a4] 31) (Reads.of_own ho2))
  have kV := (k2'.alloc k2'.size (.cells #[.int .i64 a1, .int .i64 a2, .slice A2 az.length c2, .int .i64 a4] 31)).alloc (by have := k2'.size; simp; omega) (.cells #[.int .i64 pe, .int .i64 pn, .string pb] 25)
  have rV := (hrw.below kV).more kV.size
  clear t0 t1 t2 t3 hb1 hb2 bT bT1 bT2 bA2 bP2 ho1 ho2 r1 rd0
  generalize (w2.alloc (.cells #[.int .i64 a1, .int .i64 a2, .slice A2 az.length c2, .int .i64 a4] 31)).alloc (.cells #[.int .i64 pe, .int .i64 pn, .string pb] 25) = V at *
  generalize w.heap.size = bt at bTV ⊢
  generalize w1.heap.size = ba at bAV bPV ⊢
  generalize w2.heap.size = bb at bBV bQV ⊢
  have hS : ∀ x : World, Below V.heap.size V x → x.cell? ⟨bt, 0, none⟩ = some (.int .i64 ep) ∧ x.cell? ⟨bt, 1, none⟩ = some (.int .i64 base) ∧ x.cell? ⟨bt, 2, none⟩ = some (.slice (some ad) 20 c) ∧ x.cell? ⟨bt, 3, none⟩ = some (.int .i64 timer) ∧ x.cell? ⟨ba, 0, none⟩ = some (.int .i64 a1) ∧ x.cell? ⟨ba, 1, none⟩ = some (.int .i64 a2) ∧ x.cell? ⟨ba, 2, none⟩ = some (.slice A1 az.length c1) ∧ x.cell? ⟨ba, 3, none⟩ = some (.int .i64 a4) ∧ x.cell? ⟨bb, 0, none⟩ = some (.int .i64 a1) ∧ x.cell? ⟨bb, 1, none⟩ = some (.int .i64 a2) ∧ x.cell? ⟨bb, 2, none⟩ = some (.slice A2 az.length c2) ∧ x.cell? ⟨bb, 3, none⟩ = some (.int .i64 a4) ∧ x.cell? ⟨ba + 1, 0, none⟩ = some (.int .i64 pe) ∧ x.cell? ⟨ba + 1, 1, none⟩ = some (.int .i64 pn) ∧ x.cell? ⟨ba + 1, 2, none⟩ = some (.string pb) ∧ x.cell? ⟨bb + 1, 0, none⟩ = some (.int .i64 pe) ∧ x.cell? ⟨bb + 1, 1, none⟩ = some (.int .i64 pn) ∧ x.cell? ⟨bb + 1, 2, none⟩ = some (.string pb) := fun x hx => ⟨(bTV.below hx bTV.lt).cell 0, (bTV.below hx bTV.lt).cell 1, (bTV.below hx bTV.lt).cell 2, (bTV.below hx bTV.lt).cell 3, (bAV.below hx bAV.lt).cell 0, (bAV.below hx bAV.lt).cell 1, (bAV.below hx bAV.lt).cell 2, (bAV.below hx bAV.lt).cell 3, (bBV.below hx bBV.lt).cell 0, (bBV.below hx bBV.lt).cell 1, (bBV.below hx bBV.lt).cell 2, (bBV.below hx bBV.lt).cell 3, (bPV.below hx bPV.lt).cell 0, (bPV.below hx bPV.lt).cell 1, (bPV.below hx bPV.lt).cell 2, (bQV.below hx bQV.lt).cell 0, (bQV.below hx bQV.lt).cell 1, (bQV.below hx bQV.lt).cell 2⟩
  have kx0 : Below V.heap.size V V := Below.refl _ _
  go_region_held3 (fun x => x.cell? ⟨bt, 0, none⟩ = some (.int .i64 ep) ∧ x.cell? ⟨bt, 1, none⟩ = some (.int .i64 base) ∧ x.cell? ⟨bt, 2, none⟩ = some (.slice (some ad) 20 c) ∧ x.cell? ⟨bt, 3, none⟩ = some (.int .i64 timer) ∧ x.cell? ⟨ba, 0, none⟩ = some (.int .i64 a1) ∧ x.cell? ⟨ba, 1, none⟩ = some (.int .i64 a2) ∧ x.cell? ⟨ba, 2, none⟩ = some (.slice A1 az.length c1) ∧ x.cell? ⟨ba, 3, none⟩ = some (.int .i64 a4) ∧ x.cell? ⟨bb, 0, none⟩ = some (.int .i64 a1) ∧ x.cell? ⟨bb, 1, none⟩ = some (.int .i64 a2) ∧ x.cell? ⟨bb, 2, none⟩ = some (.slice A2 az.length c2) ∧ x.cell? ⟨bb, 3, none⟩ = some (.int .i64 a4) ∧ x.cell? ⟨ba + 1, 0, none⟩ = some (.int .i64 pe) ∧ x.cell? ⟨ba + 1, 1, none⟩ = some (.int .i64 pn) ∧ x.cell? ⟨ba + 1, 2, none⟩ = some (.string pb) ∧ x.cell? ⟨bb + 1, 0, none⟩ = some (.int .i64 pe) ∧ x.cell? ⟨bb + 1, 1, none⟩ = some (.int .i64 pn) ∧ x.cell? ⟨bb + 1, 2, none⟩ = some (.string pb))
    (first | exact hS _ kx4 | exact hS _ kx3 | exact hS _ kx2 | exact hS _ kx1 | exact hS _ kx0 | go_keep)
    (first
      | (go_at_call 12; refine (alive_any _).mono ?_; rintro e x1 ⟨rfl, hx1⟩; have kx1 : Below V.heap.size V x1 := undrew1 hx1)
      | (go_at_call 14; refine (right_any ep base timer (zs.take 20) (some ad) 20 c _ (reads_below rV kx1) (by omega) hs).mono ?_; rw [HR.out]; rintro e x2 ⟨rfl, hx2⟩; have kx2 := kx1.trans (hx2.mono kx1.size))
      | (go_at_call 18; refine (refRight_any ep base timer (zs.take 20) (some ad) 20 c _ (reads_below rV kx2) (by omega) hs).mono ?_; rw [HR.out]; rintro e x3 ⟨rfl, hx3⟩; have kx3 := kx2.trans (hx3.mono kx2.size))
      | (go_at_call 13; refine (like_same a1 a2 a4 az A1 A2 az.length c1 c2 _ (reads_below r1V kx3) (reads_below r2V kx3) (by omega)).mono ?_; rintro e x4 ⟨rfl, hx4⟩; have kx4 := kx3.trans (hx4.mono kx3.size)))
  obtain ⟨t0, t1, t2, t3, _⟩ := hS _ kx4
  have lt4 := Nat.lt_of_lt_of_le bTV.lt kx4.size
  go_wp2_with fail
  refine (ack_any ep base timer epoch want (zs.take 20) (some ad) 20 c _ (reads_below rV kx4) (by omega) hs hcm).mono ?_
  rw [HK.out]
  rintro e x5 ⟨A5, c5, rfl, rd5, hc5, _, hb5⟩
  simp only at rd5 hc5
  have kx5 := kx4.trans (hb5.mono kx4.size)
  clear t0 t1 t2 t3
  obtain ⟨t0, t1, t2, t3, _⟩ := hS _ kx5
  have lt5 := Nat.lt_of_lt_of_le bTV.lt kx5.size
  go_wp2_with fail
  have kx5' := kx5.alloc kx5.size (.cells #[.int .i64 k1, .int .i64 k2, .slice A5 kz.length c5, .int .i64 k4] 31)
  refine (refAck_any ep base timer epoch want (zs.take 20) (some ad) 20 c _ (reads_below rV kx5') (by omega) hs hcm).mono ?_
  rw [HK.out]
  rintro e x6 ⟨A6, c6, rfl, rd6, hc6, _, hb6⟩
  simp only at rd6 hc6
  have kx6 := kx5'.trans (hb6.mono kx5'.size)
  have bC6 := (Blk.new x5 31 #[.int .i64 k1, .int .i64 k2, .slice A5 kz.length c5, .int .i64 k4]).below hb6 (by simp)
  have rC6 := reads_below (reads_alloc (o := .cells #[.int .i64 k1, .int .i64 k2, .slice A5 kz.length c5, .int .i64 k4] 31) rd5) hb6
  clear t0 t1 t2 t3
  obtain ⟨t0, t1, t2, t3, _⟩ := hS _ kx6
  have lt6 := Nat.lt_of_lt_of_le bTV.lt kx6.size
  go_wp2_with fail
  have kx6' := kx6.alloc kx6.size (.cells #[.int .i64 k1, .int .i64 k2, .slice A6 kz.length c6, .int .i64 k4] 31)
  refine ((tick_any ep base timer (zs.take 20) (some ad) 20 c _ (reads_below rV kx6') (by omega) hs).mono fun _ _ h => tick_conv h HT.out HQ.out HZZ.out).mono ?_
  rintro e x7 ⟨L7, l7, rfl, hoL, hb7⟩
  have kx7 := kx6'.trans (hb7.mono kx6'.size)
  have bC7 := (bC6.alloc (.cells #[.int .i64 k1, .int .i64 k2, .slice A6 kz.length c6, .int .i64 k4] 31)).below hb7 (by have := bC6.lt; simp; omega)
  have rC7 := reads_below (reads_alloc (o := .cells #[.int .i64 k1, .int .i64 k2, .slice A6 kz.length c6, .int .i64 k4] 31) rC6) hb7
  have bD7 := (Blk.new x6 31 #[.int .i64 k1, .int .i64 k2, .slice A6 kz.length c6, .int .i64 k4]).below hb7 (by simp)
  have rD7 := reads_below (reads_alloc (o := .cells #[.int .i64 k1, .int .i64 k2, .slice A6 kz.length c6, .int .i64 k4] 31) rd6) hb7
  have rL7 := Reads.of_own hoL
  clear t0 t1 t2 t3
  obtain ⟨t0, t1, t2, t3, _⟩ := hS _ kx7
  have lt7 := Nat.lt_of_lt_of_le bTV.lt kx7.size
  go_wp2_with fail
  have kx7' := kx7.alloc kx7.size (.cells #[.int .i64 ep, .int .i64 base, .slice (some ad) 20 c, .int .i64 tt] 31)
  refine ((refTick_any ep base timer (zs.take 20) (some ad) 20 c _ (reads_below rV kx7') (by omega) hs).mono fun _ _ h => tick_conv h HT.out HQ.out HZZ.out).mono ?_
  rintro e x8 ⟨L8, l8, rfl, hoM, hb8⟩
  have kx8 := kx7'.trans (hb8.mono kx7'.size)
  have bC8 := (bC7.alloc (.cells #[.int .i64 ep, .int .i64 base, .slice (some ad) 20 c, .int .i64 tt] 31)).below hb8 (by have := bC7.lt; simp; omega)
  have rC8 := reads_below (reads_alloc (o := .cells #[.int .i64 ep, .int .i64 base, .slice (some ad) 20 c, .int .i64 tt] 31) rC7) hb8
  have bD8 := (bD7.alloc (.cells #[.int .i64 ep, .int .i64 base, .slice (some ad) 20 c, .int .i64 tt] 31)).below hb8 (by have := bD7.lt; simp; omega)
  have rD8 := reads_below (reads_alloc (o := .cells #[.int .i64 ep, .int .i64 base, .slice (some ad) 20 c, .int .i64 tt] 31) rD7) hb8
  have bX8 := (Blk.new x7 31 #[.int .i64 ep, .int .i64 base, .slice (some ad) 20 c, .int .i64 tt]).below hb8 (by simp)
  have rL8 := reads_below (reads_alloc (o := .cells #[.int .i64 ep, .int .i64 base, .slice (some ad) 20 c, .int .i64 tt] 31) rL7) hb8
  have rM8 := Reads.of_own hoM
  have lC := bC8.lt
  have lD := bD8.lt
  have lX := bX8.lt
  have u0 : x8.cell? ⟨x5.heap.size, 0, none⟩ = some (.int .i64 k1) := bC8.cell 0
  have u1 : x8.cell? ⟨x5.heap.size, 1, none⟩ = some (.int .i64 k2) := bC8.cell 1
  have u2 : x8.cell? ⟨x5.heap.size, 2, none⟩ = some (.slice A5 kz.length c5) := bC8.cell 2
  have u3 : x8.cell? ⟨x5.heap.size, 3, none⟩ = some (.int .i64 k4) := bC8.cell 3
  have v0 : x8.cell? ⟨x6.heap.size, 0, none⟩ = some (.int .i64 k1) := bD8.cell 0
  have v1 : x8.cell? ⟨x6.heap.size, 1, none⟩ = some (.int .i64 k2) := bD8.cell 1
  have v2 : x8.cell? ⟨x6.heap.size, 2, none⟩ = some (.slice A6 kz.length c6) := bD8.cell 2
  have v3 : x8.cell? ⟨x6.heap.size, 3, none⟩ = some (.int .i64 k4) := bD8.cell 3
  clear t0 t1 t2 t3 hS hb5 hb6 hb7 hb8
  go_wp2_with fail
  have kx8' := kx8.alloc kx8.size (.cells #[.int .i64 ep, .int .i64 base, .slice (some ad) 20 c, .int .i64 tt] 31)
  have bY := Blk.new x8 31 #[.int .i64 ep, .int .i64 base, .slice (some ad) 20 c, .int .i64 tt]
  have rT8 := reads_below rV kx8'
  refine (like_same k1 k2 k4 kz A5 A6 kz.length c5 c6 _ (reads_alloc rC8) (reads_alloc rD8) (by omega)).mono ?_
  rintro e x9 ⟨rfl, hx9⟩
  have kx9 := kx8'.trans (hx9.mono kx8'.size)
  have bX9 := (bX8.alloc (.cells #[.int .i64 ep, .int .i64 base, .slice (some ad) 20 c, .int .i64 tt] 31)).below hx9 (by simp; omega)
  have bY9 := bY.below hx9 (by simp)
  have rL9 := reads_below (reads_alloc (o := .cells #[.int .i64 ep, .int .i64 base, .slice (some ad) 20 c, .int .i64 tt] 31) rL8) hx9
  have rM9 := reads_below (reads_alloc (o := .cells #[.int .i64 ep, .int .i64 base, .slice (some ad) 20 c, .int .i64 tt] 31) rM8) hx9
  clear u0 u1 u2 u3 v0 v1 v2 v3
  have u0 : x9.cell? ⟨x7.heap.size, 0, none⟩ = some (.int .i64 ep) := bX9.cell 0
  have u1 : x9.cell? ⟨x7.heap.size, 1, none⟩ = some (.int .i64 base) := bX9.cell 1
  have u2 : x9.cell? ⟨x7.heap.size, 2, none⟩ = some (.slice (some ad) 20 c) := bX9.cell 2
  have u3 : x9.cell? ⟨x7.heap.size, 3, none⟩ = some (.int .i64 tt) := bX9.cell 3
  have v0 : x9.cell? ⟨x8.heap.size, 0, none⟩ = some (.int .i64 ep) := bY9.cell 0
  have v1 : x9.cell? ⟨x8.heap.size, 1, none⟩ = some (.int .i64 base) := bY9.cell 1
  have v2 : x9.cell? ⟨x8.heap.size, 2, none⟩ = some (.slice (some ad) 20 c) := bY9.cell 2
  have v3 : x9.cell? ⟨x8.heap.size, 3, none⟩ = some (.int .i64 tt) := bY9.cell 3
  go_wp2_with fail
  refine (like_same ep base tt (zs.take 20) (some ad) (some ad) 20 c c _ (reads_below rV kx9) (reads_below rV kx9) (by omega)).mono ?_
  rintro e x10 ⟨rfl, hx10⟩
  have kx10 := kx9.trans (hx10.mono kx9.size)
  go_wp2_with fail
  refine (likePackets_same ep base zz L7 L8 q l7 l8 _ (reads_below rL9 hx10) (reads_below rM9 hx10) (by omega)).mono ?_
  rintro e x11 ⟨rfl, hx11⟩
  have kx11 := kx10.trans (hx11.mono kx10.size)
  go_wp2
  go_ret
  exact ⟨by simp, kV.trans (kx11.mono kV.size)⟩

theorem walkSends (ep base timer epoch want : Int) (body : ByteArray) (zs : List ByteArray) (A : Option Addr) (n c : Nat) (w : World) (hr : Reads w w.heap.size 1 A n (zs.map Value.string)) (hm : n ≤ 9223372036854775807) (hs : ∀ z ∈ zs, z.size ≤ maxLen) (hc : n ≤ c) (hbs : body.size ≤ maxLen) :
    Calls Try.prog 6 #[.agg #[.int .i64 ep, .int .i64 base, .slice A n c, .int .i64 timer], .string body, .int .i64 epoch, .int .i64 want] w fun e w' => e = .returned (.bool true) ∧ Below w.heap.size w w' := by
  by_cases h : n ≤ 20
  · exact walkSends1 ep base timer epoch want body zs A n c w hr hm hs hc hbs h
  · exact walkSends2 ep base timer epoch want body zs A n c w hr hm hs hc hbs (by omega)
end Go.Proofs.Ytplodggiifachaa
