/- Walk of the play's do: a packet is told, lost, or both. -/
import Derived.Test.YtplodggiifachaaPly2
namespace Go.Proofs.Ytplodggiifachaa
open Go.RowKit
set_option linter.unusedVariables false
set_option linter.unusedSimpArgs false

/-- Which of so many. -/
def whichN (z : Int) (n : Nat) : Nat := ((z.tmod n + n).tmod n).toNat
theorem which_at (z : Int) {n : Nat} (h : 0 < n) (hn : n ≤ 1000000) : (z.tmod n + n).tmod (n : Int) = (whichN z n : Int) ∧ whichN z n < n ∧ IntKind.i64.wrap (z.tmod n + n) = z.tmod n + n := by
  have h0 : (0 : Int) < (n : Int) := by omega
  have t0 := Int.tmod_lt_of_pos z h0
  have t1 := Int.lt_tmod_of_pos z h0
  have u0 : 0 ≤ (z.tmod n + n).tmod (n : Int) := Int.tmod_nonneg _ (by omega)
  have u1 := Int.tmod_lt_of_pos (z.tmod n + n) h0
  refine ⟨by unfold whichN; omega, by unfold whichN; omega, IntWalk.i64_in _ (by omega)⟩
/-- What telling a packet makes of a play. -/
def tellZ (p : Ply) (x : Pk) : Ply :=
  { p with rW := if x.no = p.rW then p.rW + 1 else p.rW, got := if x.no = p.rW then p.got ++ [x.body] else p.got, wants := p.wants ++ [if x.no = p.rW then p.rW + 1 else p.rW] }
def loseZ (p : Ply) (i : Nat) : Ply := { p with way := p.way.take i ++ p.way.drop (i + 1) }
/-- A packet that is taken, or not, without an error. -/
def PkOk (p : Ply) (x : Pk) : Prop := (0 ≤ p.rE ∧ p.rE ≤ 1073741824) ∧ (0 ≤ p.rW ∧ p.rW < 1073741824) ∧ x.ep = p.rE ∧ (0 ≤ x.no ∧ x.no ≤ 1073741824) ∧ x.body.size ≤ 4096
theorem take_ok {p : Ply} {x : Pk} (h : PkOk p x) : takeZ p.rE p.rW x.ep x.no x.body = (p.rE, (if x.no = p.rW then p.rW + 1 else p.rW), decide (x.no = p.rW), 0) := by
  obtain ⟨h1, h2, h3, h4, h5⟩ := h
  unfold takeZ
  rw [withinB_true.2 h1, withinB_true.2 ⟨h2.1, by omega⟩, withinB_true.2 h4, decide_eq_false (by omega), if_neg (by simp), if_neg (by omega)]
  by_cases h : x.no = p.rW
  · rw [if_neg (by omega), if_pos h, decide_eq_true h]
  · rw [if_pos (.inl h), if_neg h, decide_eq_false h]
theorem tell_ok (pb : Nat) (p : Ply) (i : Nat) (x : Pk) (w : World) (hi : p.way[i]? = some x) (hx : PkOk p x) (hl : p.way.length ≤ 100000 ∧ p.got.length ≤ 100000 ∧ p.wants.length ≤ 100000) (hM : PlyM pb p w) :
    Calls Try.prog 30 #[.pointer (some ⟨pb, 0, none⟩), .int .i64 i] w (PlyPost pb (tellZ p x) w) := by
  have h := tell_any pb p i x _ _ _ w hi (take_ok hx) (by have := hx.2.2.2.2; unfold maxLen; omega) hl hM
  by_cases hd : x.no = p.rW
  · simpa [tellZ, hd] using h
  · simpa [tellZ, hd] using h
theorem PlyM.alloc {pb : Nat} {p : Ply} {w : World} (h : PlyM pb p w) (o : Obj) : PlyM pb p (w.alloc o) := by
  obtain ⟨A, c, vw, vp, vg, vn, hQ, hc, hR⟩ := h
  exact ⟨A, c, vw, vp, vg, vn, hQ.alloc o, hc, hR.alloc o⟩
theorem PlyM.below {pb : Nat} {p : Ply} {w w1 : World} (h : PlyM pb p w) (hb : Below w.heap.size w w1) : PlyM pb p w1 := by
  obtain ⟨A, c, vw, vp, vg, vn, hQ, hc, hR⟩ := h
  exact ⟨A, c, vw, vp, vg, vn, hQ.below hb hQ.lt, hc, hR.below hb⟩
theorem PlyM.drew {pb : Nat} {p : Ply} {w : World} (h : PlyM pb p w) : PlyM pb p w.drew := by
  obtain ⟨A, c, vw, vp, vg, vn, hQ, hc, hR⟩ := h
  exact ⟨A, c, vw, vp, vg, vn, hQ.drew, hc, hR.drew⟩

set_option maxRecDepth 100000 in
set_option maxHeartbeats 2000000 in
theorem do1_any (pb : Nat) (p : Ply) (z : Int) (b : ByteArray) (w : World) (hl : p.way.length ≤ 100000 ∧ p.got.length ≤ 100000 ∧ p.wants.length ≤ 100000) (hM : PlyM pb p w) (x : Pk) (hn : 0 < p.way.length) (hi : p.way[whichN z p.way.length]? = some x) (hx : PkOk p x) :
    Calls Try.prog 23 #[.pointer (some ⟨pb, 0, none⟩), .agg #[.int .i64 1, .int .i64 z, .string b]] w (PlyPost pb (loseZ (tellZ p x) (whichN z p.way.length)) w) := by
  have hM1 := hM.alloc (.cells #[.int .i64 1, .int .i64 z, .string b] 55)
  obtain ⟨A, c, vw, vp, vg, vn, hQ, hc, hR⟩ := hM
  obtain ⟨Aw, cw, rfl⟩ := own_succ' hR.ow
  obtain ⟨An, cn, rfl⟩ := own_succ' hR.on
  have lq := hQ.lt
  have p6 : w.cell? ⟨pb, 6, none⟩ = some (.slice Aw p.way.length cw) := hQ.cell 6
  obtain ⟨e1, e2, e3⟩ := which_at z hn (by omega)
  have hn0 : (0 : Int) < (p.way.length : Int) := by omega
  have hnz : ((p.way.length : Int) == 0) = false := by rw [beq_eq_false_iff_ne]; omega
  have kA : Below pb w (w.alloc (.cells #[.int .i64 1, .int .i64 z, .string b] 55)) := (Below.refl _ w).alloc (by omega) _
  go_enter Try.func23, Try.ntmps23
  go_wp2_with fail
  refine (tell_ok pb p _ x _ hi hx hl hM1).mono ?_
  rintro e w2 ⟨rfl, hM2, kb2, ks2⟩
  simp at ks2
  go_wp2_with fail
  refine (lose_any pb (tellZ p x) _ w2 (by simpa [tellZ] using e2) (by simpa [tellZ] using hl.1) hM2).mono ?_
  rintro e w3 ⟨rfl, hM3, kb3, ks3⟩
  go_wp2
  go_end0
  exact ⟨rfl, hM3, (kA.trans kb2).trans kb3, by omega⟩

set_option maxRecDepth 100000 in
set_option maxHeartbeats 2000000 in
theorem do2_any (pb : Nat) (p : Ply) (z : Int) (b : ByteArray) (w : World) (hl : p.way.length ≤ 100000 ∧ p.got.length ≤ 100000 ∧ p.wants.length ≤ 100000) (hM : PlyM pb p w) (x : Pk) (hn : 0 < p.way.length) (hi : p.way[whichN z p.way.length]? = some x) (hx : PkOk p x) :
    Calls Try.prog 23 #[.pointer (some ⟨pb, 0, none⟩), .agg #[.int .i64 2, .int .i64 z, .string b]] w (PlyPost pb (tellZ p x) w) := by
  have hM1 := hM.alloc (.cells #[.int .i64 2, .int .i64 z, .string b] 55)
  obtain ⟨A, c, vw, vp, vg, vn, hQ, hc, hR⟩ := hM
  obtain ⟨Aw, cw, rfl⟩ := own_succ' hR.ow
  obtain ⟨An, cn, rfl⟩ := own_succ' hR.on
  have lq := hQ.lt
  have p6 : w.cell? ⟨pb, 6, none⟩ = some (.slice Aw p.way.length cw) := hQ.cell 6
  obtain ⟨e1, e2, e3⟩ := which_at z hn (by omega)
  have hn0 : (0 : Int) < (p.way.length : Int) := by omega
  have hnz : ((p.way.length : Int) == 0) = false := by rw [beq_eq_false_iff_ne]; omega
  have kA : Below pb w (w.alloc (.cells #[.int .i64 2, .int .i64 z, .string b] 55)) := (Below.refl _ w).alloc (by omega) _
  go_enter Try.func23, Try.ntmps23
  go_wp2_with fail
  refine (tell_ok pb p _ x _ hi hx hl hM1).mono ?_
  rintro e w2 ⟨rfl, hM2, kb2, ks2⟩
  simp at ks2
  go_wp2
  go_end0
  exact ⟨rfl, hM2, kA.trans kb2, by omega⟩

set_option maxRecDepth 100000 in
set_option maxHeartbeats 2000000 in
theorem do3_any (pb : Nat) (p : Ply) (z : Int) (b : ByteArray) (w : World) (hl : p.way.length ≤ 100000 ∧ p.got.length ≤ 100000 ∧ p.wants.length ≤ 100000) (hM : PlyM pb p w) (hn : 0 < p.way.length) :
    Calls Try.prog 23 #[.pointer (some ⟨pb, 0, none⟩), .agg #[.int .i64 3, .int .i64 z, .string b]] w (PlyPost pb (loseZ p (whichN z p.way.length)) w) := by
  have hM1 := hM.alloc (.cells #[.int .i64 3, .int .i64 z, .string b] 55)
  obtain ⟨A, c, vw, vp, vg, vn, hQ, hc, hR⟩ := hM
  obtain ⟨Aw, cw, rfl⟩ := own_succ' hR.ow
  obtain ⟨An, cn, rfl⟩ := own_succ' hR.on
  have lq := hQ.lt
  have p6 : w.cell? ⟨pb, 6, none⟩ = some (.slice Aw p.way.length cw) := hQ.cell 6
  obtain ⟨e1, e2, e3⟩ := which_at z hn (by omega)
  have hn0 : (0 : Int) < (p.way.length : Int) := by omega
  have hnz : ((p.way.length : Int) == 0) = false := by rw [beq_eq_false_iff_ne]; omega
  have kA : Below pb w (w.alloc (.cells #[.int .i64 3, .int .i64 z, .string b] 55)) := (Below.refl _ w).alloc (by omega) _
  go_enter Try.func23, Try.ntmps23
  go_wp2_with fail
  refine (lose_any pb p _ _ e2 hl.1 hM1).mono ?_
  rintro e w3 ⟨rfl, hM3, kb3, ks3⟩
  simp at ks3
  go_wp2
  go_end0
  exact ⟨rfl, hM3, kA.trans kb3, by omega⟩

set_option maxRecDepth 100000 in
set_option maxHeartbeats 2000000 in
theorem do1_none (pb : Nat) (p : Ply) (z : Int) (b : ByteArray) (w : World) (hl : p.way.length ≤ 100000 ∧ p.got.length ≤ 100000 ∧ p.wants.length ≤ 100000) (hM : PlyM pb p w) (hn : p.way.length = 0) :
    Calls Try.prog 23 #[.pointer (some ⟨pb, 0, none⟩), .agg #[.int .i64 1, .int .i64 z, .string b]] w (PlyPost pb p w) := by
  have hM1 := hM.alloc (.cells #[.int .i64 1, .int .i64 z, .string b] 55)
  obtain ⟨A, c, vw, vp, vg, vn, hQ, hc, hR⟩ := hM
  obtain ⟨Aw, cw, rfl⟩ := own_succ' hR.ow
  obtain ⟨An, cn, rfl⟩ := own_succ' hR.on
  have lq := hQ.lt
  have p6 : w.cell? ⟨pb, 6, none⟩ = some (.slice Aw p.way.length cw) := hQ.cell 6
  have hn0 : decide ((0 : Int) < (p.way.length : Int)) = false := by rw [hn]; rfl
  have kA : Below pb w (w.alloc (.cells #[.int .i64 1, .int .i64 z, .string b] 55)) := (Below.refl _ w).alloc (by omega) _
  go_enter Try.func23, Try.ntmps23
  go_wp2
  go_end0
  exact ⟨rfl, hM1, kA, by simp⟩

set_option maxRecDepth 100000 in
set_option maxHeartbeats 2000000 in
theorem do2_none (pb : Nat) (p : Ply) (z : Int) (b : ByteArray) (w : World) (hl : p.way.length ≤ 100000 ∧ p.got.length ≤ 100000 ∧ p.wants.length ≤ 100000) (hM : PlyM pb p w) (hn : p.way.length = 0) :
    Calls Try.prog 23 #[.pointer (some ⟨pb, 0, none⟩), .agg #[.int .i64 2, .int .i64 z, .string b]] w (PlyPost pb p w) := by
  have hM1 := hM.alloc (.cells #[.int .i64 2, .int .i64 z, .string b] 55)
  obtain ⟨A, c, vw, vp, vg, vn, hQ, hc, hR⟩ := hM
  obtain ⟨Aw, cw, rfl⟩ := own_succ' hR.ow
  obtain ⟨An, cn, rfl⟩ := own_succ' hR.on
  have lq := hQ.lt
  have p6 : w.cell? ⟨pb, 6, none⟩ = some (.slice Aw p.way.length cw) := hQ.cell 6
  have hn0 : decide ((0 : Int) < (p.way.length : Int)) = false := by rw [hn]; rfl
  have kA : Below pb w (w.alloc (.cells #[.int .i64 2, .int .i64 z, .string b] 55)) := (Below.refl _ w).alloc (by omega) _
  go_enter Try.func23, Try.ntmps23
  go_wp2
  go_end0
  exact ⟨rfl, hM1, kA, by simp⟩

set_option maxRecDepth 100000 in
set_option maxHeartbeats 2000000 in
theorem do3_none (pb : Nat) (p : Ply) (z : Int) (b : ByteArray) (w : World) (hl : p.way.length ≤ 100000 ∧ p.got.length ≤ 100000 ∧ p.wants.length ≤ 100000) (hM : PlyM pb p w) (hn : p.way.length = 0) :
    Calls Try.prog 23 #[.pointer (some ⟨pb, 0, none⟩), .agg #[.int .i64 3, .int .i64 z, .string b]] w (PlyPost pb p w) := by
  have hM1 := hM.alloc (.cells #[.int .i64 3, .int .i64 z, .string b] 55)
  obtain ⟨A, c, vw, vp, vg, vn, hQ, hc, hR⟩ := hM
  obtain ⟨Aw, cw, rfl⟩ := own_succ' hR.ow
  obtain ⟨An, cn, rfl⟩ := own_succ' hR.on
  have lq := hQ.lt
  have p6 : w.cell? ⟨pb, 6, none⟩ = some (.slice Aw p.way.length cw) := hQ.cell 6
  have hn0 : decide ((0 : Int) < (p.way.length : Int)) = false := by rw [hn]; rfl
  have kA : Below pb w (w.alloc (.cells #[.int .i64 3, .int .i64 z, .string b] 55)) := (Below.refl _ w).alloc (by omega) _
  go_enter Try.func23, Try.ntmps23
  go_wp2
  go_end0
  exact ⟨rfl, hM1, kA, by simp⟩

end Go.Proofs.Ytplodggiifachaa
