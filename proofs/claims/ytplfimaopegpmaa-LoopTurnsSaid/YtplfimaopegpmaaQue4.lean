/- Walk of the queue's Step. -/
import Derived.Test.YtplfimaopegpmaaQue3
import Derived.OneCell
namespace Go.Proofs.Ytplfimaopegpmaa
open Go.RowKit
set_option linter.unusedVariables false
set_option linter.unusedSimpArgs false

/-- Does the first one leave; which one; what is left of the row. -/
def goesB (lim fuel : Int) : List Rnd → Bool
  | [] => false
  | x :: _ => leavesB lim fuel x.v x.n
def outR (lim fuel : Int) : List Rnd → Rnd
  | [] => ⟨⟨#[]⟩, 0, 0, 0⟩
  | x :: _ => if leavesB lim fuel x.v x.n = true then x else ⟨⟨#[]⟩, 0, 0, 0⟩
def restQ (lim fuel : Int) : List Rnd → List Rnd
  | [] => []
  | x :: ys => if leavesB lim fuel x.v x.n = true then ys else ys ++ [⟨x.key, x.at_, halfZ x.v, x.n + 1⟩]
theorem outR_go {lim fuel : Int} {x : Rnd} {ys : List Rnd} (h : leavesB lim fuel x.v x.n = true) : outR lim fuel (x :: ys) = x := if_pos h
theorem outR_stay {lim fuel : Int} {x : Rnd} {ys : List Rnd} (h : leavesB lim fuel x.v x.n = false) : outR lim fuel (x :: ys) = ⟨⟨#[]⟩, 0, 0, 0⟩ := if_neg (by simp [h])
theorem restQ_go {lim fuel : Int} {x : Rnd} {ys : List Rnd} (h : leavesB lim fuel x.v x.n = true) : restQ lim fuel (x :: ys) = ys := if_pos h
theorem restQ_stay {lim fuel : Int} {x : Rnd} {ys : List Rnd} (h : leavesB lim fuel x.v x.n = false) : restQ lim fuel (x :: ys) = ys ++ [⟨x.key, x.at_, halfZ x.v, x.n + 1⟩] := if_neg (by simp [h])
def StepPost (qb base : Nat) (lim fuel : Int) (v : Value) (xs : List Rnd) (w : World) (e : Ending) (w' : World) : Prop :=
  e = .returned (.tuple #[.agg #[.string (outR lim fuel xs).key, .int .i64 (outR lim fuel xs).at_, .int .i64 (outR lim fuel xs).v], .bool (goesB lim fuel xs)]) ∧ QPost qb base lim fuel v (restQ lim fuel xs) w w'

theorem QPost.set {qb base : Nat} {lim fuel : Int} {v : Value} {ys : List Rnd} {w w' : World} (h : QPost qb base lim fuel v ys w w') {p : Addr} (hp : w.heap.size ≤ p.block) (hq : qb ≠ p.block) {t : TypeId} {cs : Array Value} (hB : Blk w' p.block t cs) (ht : 59 ≠ t) (u : Value) : QPost qb base lim fuel v ys w (w'.setCell p u) := by
  obtain ⟨v', h1, h2, h3, h4, h5, h6⟩ := h
  refine ⟨v', h1.far hq u, ownsRow_setCell_other h2 (own_blk_ne h2 hB ht) u, h3, by simpa [World.setCell] using h4, fun i hi hn hv => (Below.heap_setCell w' p u i (by omega)).trans (h5 i hi hn hv), fun B a hBa b1 b2 b3 => (h6 B a hBa b1 b2 b3).setCell (by omega) u⟩
theorem QPost.set3 {qb base : Nat} {lim fuel : Int} {v : Value} {ys : List Rnd} {w w' : World} (h : QPost qb base lim fuel v ys w w') {g : Nat} (hp : w.heap.size ≤ g) (hq : qb ≠ g) {t : TypeId} {cs : Array Value} (hB : Blk w' g t cs) (ht : 59 ≠ t) (a b c : Value) :
    QPost qb base lim fuel v ys w (((w'.setCell ⟨g, 0, none⟩ a).setCell ⟨g, 1, none⟩ b).setCell ⟨g, 2, none⟩ c) :=
  ((h.set (p := ⟨g, 0, none⟩) hp hq hB ht a).set (p := ⟨g, 1, none⟩) hp hq (hB.set_ 0 a) ht b).set (p := ⟨g, 2, none⟩) hp hq ((hB.set_ 0 a).set_ 1 b) ht c
theorem QPost.below0 {qb base : Nat} {lim fuel : Int} {v : Value} {ys : List Rnd} {w w' : World} (hQ : Blk w qb 56 #[.int .i64 lim, .int .i64 fuel, v]) (ho : w.ownsRow base 59 4 v ys.length (rnds ys)) (hb : Below w.heap.size w w') : QPost qb base lim fuel v ys w w' :=
  ⟨v, hQ.below hb hQ.lt, ho.kept (only_of_below hb none) (by cases v.ownBlock <;> simp), fun i hi => .inl hi, hb.size, fun i hi _ _ => hb.block i hi, fun B a hBa _ _ b3 => hBa.trans (hb.mono b3)⟩

set_option maxHeartbeats 1000000 in
theorem stepq_nil (w : World) :
    Calls Try.prog 15 #[.pointer none] w fun e w' => e = .returned (.tuple #[.agg #[.string ⟨#[]⟩, .int .i64 0, .int .i64 0], .bool false]) ∧ Below w.heap.size w w' := by
  go_enter Try.func15, Try.ntmps15
  go_wp2
  exact bodyPost_ret (v := .tuple #[.agg #[.string ⟨#[]⟩, .int .i64 0, .int .i64 0], .bool false]) (by simp [results, Try.results15, go_sem, World.cell?_setCell_other]) rfl ⟨rfl, by go_grown⟩

set_option maxHeartbeats 2000000 in
theorem stepq_any (qb base : Nat) (lim fuel : Int) (v : Value) (xs : List Rnd) (w : World) (hQ : Blk w qb 56 #[.int .i64 lim, .int .i64 fuel, v]) (ho : w.ownsRow base 59 4 v xs.length (rnds xs)) (hn : xs.length ≤ 20) (hb : base ≤ w.heap.size) (hqb : qb < base)
    (hL : 0 ≤ lim ∧ lim ≤ 9223372036854775807) (hR : ∀ r ∈ xs, (-9223372036854775808 ≤ r.v ∧ r.v ≤ 9223372036854775807) ∧ 0 ≤ r.n ∧ r.n ≤ 1000) :
    Calls Try.prog 15 #[.pointer (some ⟨qb, 0, none⟩)] w (StepPost qb base lim fuel v xs w) := by
  have lq := hQ.lt
  have nq : qb ≠ w.heap.size := by omega
  have hoW := ho.alloc (.cells #[.string ⟨#[]⟩, .int .i64 0, .int .i64 0] 23)
  have hQW := hQ.alloc (.cells #[.string ⟨#[]⟩, .int .i64 0, .int .i64 0] 23)
  have bRW := Blk.new w 23 #[.string ⟨#[]⟩, .int .i64 0, .int .i64 0]
  have hbW : base ≤ (w.alloc (.cells #[.string ⟨#[]⟩, .int .i64 0, .int .i64 0] 23)).heap.size := by simp; omega
  have hvR : v.ownBlock ≠ some w.heap.size := fun e => by have := (ho.lt _ e).2; omega
  match xs, hn, hR, ho, hoW with
  | [], _, _, ho, hoW =>
    obtain ⟨A, c, rfl⟩ := own_form ho
    have q2 := hQ.cell 2
    go_enter Try.func15, Try.ntmps15
    go_wp2_with (go_at_call 22; refine (take_nil qb base c lim fuel A _ hQW).mono ?_; rintro e w1 ⟨rfl, hb1⟩; obtain ⟨c1, f1⟩ := bcell hb1; have y1 := hb1.size; simp at y1; have k1 := next_below (w := w) (by go_grown) hb1; have bR1 := bRW.below hb1 bRW.lt; have r0 := bR1.cell 0; have r1 := bR1.cell 1; have r2 := bR1.cell 2; have fR := bR1.frozen; have lR := bR1.lt; have lR1 : w.heap.size < w1.heap.size + 1 := (by omega))
    have bZ := (((bR1.set_ 0 (.string ⟨#[]⟩)).set_ 1 (.int .i64 0)).set_ 2 (.int .i64 0)).alloc (.cells #[.string .empty, .int .i64 0, .int .i64 0, .int .i64 0] 59)
    have e0 : World.cell? _ ⟨w.heap.size, 0, none⟩ = some (.string ⟨#[]⟩) := bZ.cell 0
    have e1 : World.cell? _ ⟨w.heap.size, 1, none⟩ = some (.int .i64 0) := bZ.cell 1
    have e2 : World.cell? _ ⟨w.heap.size, 2, none⟩ = some (.int .i64 0) := bZ.cell 2
    refine bodyPost_ret (v := .tuple #[.agg #[.string ⟨#[]⟩, .int .i64 0, .int .i64 0], .bool false]) (by simp [results, Try.results15, go_sem, e0, e1, e2]) rfl ⟨rfl, ?_⟩
    exact QPost.below0 hQ ho (by go_grown)
  | x :: ys, hn, hR, ho, hoW =>
    have hx := hR x (by simp)
    have hys : ys.length ≤ 19 := by simp at hn; omega
    obtain ⟨bz, hz⟩ : ∃ b, leavesB lim fuel x.v x.n = b := ⟨_, rfl⟩
    cases bz
    · go_enter Try.func15, Try.ntmps15
      go_wp2_with (go_at_call 22; refine (take_some qb base ys.length lim fuel v x ys _ hQW hoW (by omega) rfl hbW hqb).mono ?_; rintro e w1 ⟨rfl, v1, bQ1, hO1, hN1, y1, hk1, hB1⟩; simp at y1)
      have bR1 : Blk w1 w.heap.size 23 #[.string ⟨#[]⟩, .int .i64 0, .int .i64 0] := (hk1 w.heap.size (by simp) (Ne.symm nq) hvR).trans bRW
      have bX2 := Blk.new w1 59 #[.string x.key, .int .i64 x.at_, .int .i64 x.v, .int .i64 x.n]
      have bQ2 := bQ1.alloc (.cells #[.string x.key, .int .i64 x.at_, .int .i64 x.v, .int .i64 x.n] 59)
      have bR2 := bR1.alloc (.cells #[.string x.key, .int .i64 x.at_, .int .i64 x.v, .int .i64 x.n] 59)
      have hO2 := hO1.alloc (.cells #[.string x.key, .int .i64 x.at_, .int .i64 x.v, .int .i64 x.n] 59)
      have k2 : Below w1.heap.size w1 (w1.alloc (.cells #[.string x.key, .int .i64 x.at_, .int .i64 x.v, .int .i64 x.n] 59)) := by go_grown
      generalize hW2 : w1.alloc (.cells #[.string x.key, .int .i64 x.at_, .int .i64 x.v, .int .i64 x.n] 59) = W2 at *
      clear hW2
      have y2 := k2.size
      have nX : qb ≠ w1.heap.size := by omega
      have nXR : w.heap.size ≠ w1.heap.size := by omega
      have lq2 := bQ2.lt
      have lX2 := bX2.lt
      have lR2 := bR2.lt
      have q0 : W2.cell? ⟨qb, 0, none⟩ = some (.int .i64 lim) := bQ2.cell 0
      have q1 : W2.cell? ⟨qb, 1, none⟩ = some (.int .i64 fuel) := bQ2.cell 1
      have x2 : W2.cell? ⟨w1.heap.size, 2, none⟩ = some (.int .i64 x.v) := bX2.cell 2
      have x3 : W2.cell? ⟨w1.heap.size, 3, none⟩ = some (.int .i64 x.n) := bX2.cell 3
      go_region_held3 (fun y => y.cell? ⟨qb, 0, none⟩ = some (.int .i64 lim) ∧ y.cell? ⟨qb, 1, none⟩ = some (.int .i64 fuel) ∧ y.cell? ⟨w1.heap.size, 2, none⟩ = some (.int .i64 x.v) ∧ y.cell? ⟨w1.heap.size, 3, none⟩ = some (.int .i64 x.n))
        (first | exact ⟨q0, q1, x2, x3⟩ | exact ⟨qq0, qq1, xx2, xx3⟩ | go_keep)
        (first
          | (go_at_call 19; refine (leaves_any lim fuel x.v x.n W2.drew hL.1 hL.2).mono ?_; rw [hz]; rintro e w3 ⟨rfl, hb3⟩; have k3 : Below W2.heap.size W2 w3 := ⟨hb3.os, hb3.tape, hb3.output, hb3.size, hb3.block⟩; have bQ3 := bQ2.below k3 lq2; have bX3 := bX2.below k3 lX2; have bR3 := bR2.below k3 lR2; have qq0 : w3.cell? ⟨qb, 0, none⟩ = some (.int .i64 lim) := bQ3.cell 0; have qq1 : w3.cell? ⟨qb, 1, none⟩ = some (.int .i64 fuel) := bQ3.cell 1; have xx2 : w3.cell? ⟨w1.heap.size, 2, none⟩ = some (.int .i64 x.v) := bX3.cell 2; have xx3 : w3.cell? ⟨w1.heap.size, 3, none⟩ = some (.int .i64 x.n) := bX3.cell 3))
      have xx0 : w3.cell? ⟨w1.heap.size, 0, none⟩ = some (.string x.key) := bX3.cell 0
      have xx1 : w3.cell? ⟨w1.heap.size, 1, none⟩ = some (.int .i64 x.at_) := bX3.cell 1
      have fX3 := bX3.frozen
      have fR3 := bR3.frozen
      have rr0 : w3.cell? ⟨w.heap.size, 0, none⟩ = some (.string ⟨#[]⟩) := bR3.cell 0
      have rr1 : w3.cell? ⟨w.heap.size, 1, none⟩ = some (.int .i64 0) := bR3.cell 1
      have rr2 : w3.cell? ⟨w.heap.size, 2, none⟩ = some (.int .i64 0) := bR3.cell 2
      have y3 := k3.size
      have hO3 : w3.ownsRow base 59 4 v1 ys.length (rnds ys) := hO2.kept (only_of_below k3 none) (by cases v1.ownBlock <;> simp)
      have k13 := k2.trans (k3.mono k2.size)
      have hs3 : w.heap.size ≤ w3.heap.size := by omega
      have hk3 : ∀ i, i < w.heap.size → i ≠ qb → v.ownBlock ≠ some i → w3.heap[i]? = w.heap[i]? := fun i hi hne hv => (k13.block i (by omega)).trans ((hk1 i (by simp; omega) hne hv).trans (Below.heap_alloc w _ i hi))
      have hB3 : ∀ (B : Nat) (a : World), Below B a w → B ≤ qb → B ≤ base → B ≤ w.heap.size → Below B a w3 := fun B a hBa b1 b2 b3 => (hB1 B a (hBa.alloc b3 _) b1 b2 (by simp; omega)).trans (k13.mono (by omega))
      have hN3 : ∀ i, v1.ownBlock = some i → v.ownBlock = some i ∨ w.heap.size ≤ i := fun i hi => (hN1 i hi).imp id fun h => by simp at h; omega
      go_wp2_with (go_at_call 11; refine (half_any _ _ hx.1).mono ?_; rintro e w4 ⟨rfl, rfl⟩)
      have vX3 : v1.ownBlock ≠ some w1.heap.size := fun e => by have := (hO1.lt _ e).2; omega
      have bX4 := (bX3.set_ 2 (.int .i64 (halfZ x.v))).set_ 3 (.int .i64 (x.n + 1))
      have bQ4 := (bQ3.far (p := ⟨w1.heap.size, 2, none⟩) nX (.int .i64 (halfZ x.v))).far (p := ⟨w1.heap.size, 3, none⟩) nX (.int .i64 (x.n + 1))
      have bR4 := (bR3.far (p := ⟨w1.heap.size, 2, none⟩) nXR (.int .i64 (halfZ x.v))).far (p := ⟨w1.heap.size, 3, none⟩) nXR (.int .i64 (x.n + 1))
      have hO4 := ownsRow_setCell_other (ownsRow_setCell_other hO3 (a := ⟨w1.heap.size, 2, none⟩) vX3 (.int .i64 (halfZ x.v))) (a := ⟨w1.heap.size, 3, none⟩) vX3 (.int .i64 (x.n + 1))
      have k4 : Below w1.heap.size w1 ((w3.setCell ⟨w1.heap.size, 2, none⟩ (.int .i64 (halfZ x.v))).setCell ⟨w1.heap.size, 3, none⟩ (.int .i64 (x.n + 1))) := (k13.setCell (p := ⟨w1.heap.size, 2, none⟩) (Nat.le_refl _) _).setCell (p := ⟨w1.heap.size, 3, none⟩) (Nat.le_refl _) _
      have s4 : w3.heap.size ≤ ((w3.setCell ⟨w1.heap.size, 2, none⟩ (.int .i64 (halfZ x.v))).setCell ⟨w1.heap.size, 3, none⟩ (.int .i64 (x.n + 1))).heap.size := by simp
      generalize hW4 : (w3.setCell ⟨w1.heap.size, 2, none⟩ (.int .i64 (halfZ x.v))).setCell ⟨w1.heap.size, 3, none⟩ (.int .i64 (x.n + 1)) = W4 at *
      clear hW4
      have z0 : W4.cell? ⟨w1.heap.size, 0, none⟩ = some (.string x.key) := bX4.cell 0
      have z1 : W4.cell? ⟨w1.heap.size, 1, none⟩ = some (.int .i64 x.at_) := bX4.cell 1
      have z2 : W4.cell? ⟨w1.heap.size, 2, none⟩ = some (.int .i64 (halfZ x.v)) := bX4.cell 2
      have z3 : W4.cell? ⟨w1.heap.size, 3, none⟩ = some (.int .i64 (x.n + 1)) := bX4.cell 3
      have hn100 : ys.length ≤ 100 := by omega
      have hQd := bQ4.drew
      have hod : W4.drew.ownsRow base 59 4 v1 ys.length (rnds ys) := hO4
      have hbd : base ≤ W4.drew.heap.size := by show base ≤ W4.heap.size; omega
      have lX4 := bX4.lt
      have lR4 := bR4.lt
      have vX4 : v1.ownBlock ≠ some w1.heap.size := fun e => by have := (hO1.lt _ e).2; omega
      have vR4 : v1.ownBlock ≠ some w.heap.size := own_blk_ne hO1 bR1 (by decide)
      go_region_held3 (fun y => y.cell? ⟨w1.heap.size, 0, none⟩ = some (.string x.key) ∧ y.cell? ⟨w1.heap.size, 1, none⟩ = some (.int .i64 x.at_) ∧ y.cell? ⟨w1.heap.size, 2, none⟩ = some (.int .i64 (halfZ x.v)) ∧ y.cell? ⟨w1.heap.size, 3, none⟩ = some (.int .i64 (x.n + 1)))
        (first | exact ⟨z0, z1, z2, z3⟩ | exact ⟨zz0, zz1, zz2, zz3⟩ | go_keep)
        (first
          | (go_at_call 21; refine (put_any qb base ys.length lim fuel v1 ys x.key x.at_ (halfZ x.v) (x.n + 1) W4.drew hQd hod hn100 rfl hbd hqb).mono ?_; rintro e w5 ⟨rfl, hP⟩; have bX5 := hP.blk bX4 rfl lX4 nX.symm vX4; have bR5 := hP.blk bR4 rfl lR4 nq.symm vR4; have zz0 : w5.cell? ⟨w1.heap.size, 0, none⟩ = some (.string x.key) := bX5.cell 0; have zz1 : w5.cell? ⟨w1.heap.size, 1, none⟩ = some (.int .i64 x.at_) := bX5.cell 1; have zz2 : w5.cell? ⟨w1.heap.size, 2, none⟩ = some (.int .i64 (halfZ x.v)) := bX5.cell 2; have zz3 : w5.cell? ⟨w1.heap.size, 3, none⟩ = some (.int .i64 (x.n + 1)) := bX5.cell 3))
      have fR5 := bR5.frozen
      have rr0 : w5.cell? ⟨w.heap.size, 0, none⟩ = some (.string ⟨#[]⟩) := bR5.cell 0
      have rr1 : w5.cell? ⟨w.heap.size, 1, none⟩ = some (.int .i64 0) := bR5.cell 1
      have rr2 : w5.cell? ⟨w.heap.size, 2, none⟩ = some (.int .i64 0) := bR5.cell 2
      go_wp2
      have bZ := ((bR5.set_ 0 (.string ⟨#[]⟩)).set_ 1 (.int .i64 0)).set_ 2 (.int .i64 0)
      have e0 : World.cell? _ ⟨w.heap.size, 0, none⟩ = some (.string ⟨#[]⟩) := bZ.cell 0
      have e1 : World.cell? _ ⟨w.heap.size, 1, none⟩ = some (.int .i64 0) := bZ.cell 1
      have e2 : World.cell? _ ⟨w.heap.size, 2, none⟩ = some (.int .i64 0) := bZ.cell 2
      have g1 : outR lim fuel (x :: ys) = ⟨⟨#[]⟩, 0, 0, 0⟩ := outR_stay hz
      have g2 : restQ lim fuel (x :: ys) = ys ++ [⟨x.key, x.at_, halfZ x.v, x.n + 1⟩] := restQ_stay hz
      have g3 : goesB lim fuel (x :: ys) = false := hz
      refine bodyPost_ret (v := .tuple #[.agg #[.string ⟨#[]⟩, .int .i64 0, .int .i64 0], .bool false]) (by simp [results, Try.results15, go_sem, e0, e1, e2]) rfl ?_
      unfold StepPost
      rw [g1, g2, g3]
      refine ⟨rfl, ?_⟩
      refine QPost.set3 (QPost.then_ (w1 := W4) (v1 := v1) (by omega) hN3 (fun i hi hne hv => ?_) (fun B a hBa b1 b2 b3 => ?_) (QPost.from (below_drew' (Below.refl _ _)) hP)) (Nat.le_refl _) nq bR5 (by decide) _ _ _
      · exact (k4.block i (by omega)).trans ((hk1 i (by simp; omega) hne hv).trans (Below.heap_alloc w _ i hi))
      · exact (hB1 B a (hBa.alloc b3 _) b1 b2 (by simp; omega)).trans (k4.mono (by omega))
    · go_enter Try.func15, Try.ntmps15
      go_wp2_with (go_at_call 22; refine (take_some qb base ys.length lim fuel v x ys _ hQW hoW (by omega) rfl hbW hqb).mono ?_; rintro e w1 ⟨rfl, v1, bQ1, hO1, hN1, y1, hk1, hB1⟩; simp at y1)
      have bR1 : Blk w1 w.heap.size 23 #[.string ⟨#[]⟩, .int .i64 0, .int .i64 0] := (hk1 w.heap.size (by simp) (Ne.symm nq) hvR).trans bRW
      have bX2 := Blk.new w1 59 #[.string x.key, .int .i64 x.at_, .int .i64 x.v, .int .i64 x.n]
      have bQ2 := bQ1.alloc (.cells #[.string x.key, .int .i64 x.at_, .int .i64 x.v, .int .i64 x.n] 59)
      have bR2 := bR1.alloc (.cells #[.string x.key, .int .i64 x.at_, .int .i64 x.v, .int .i64 x.n] 59)
      have hO2 := hO1.alloc (.cells #[.string x.key, .int .i64 x.at_, .int .i64 x.v, .int .i64 x.n] 59)
      have k2 : Below w1.heap.size w1 (w1.alloc (.cells #[.string x.key, .int .i64 x.at_, .int .i64 x.v, .int .i64 x.n] 59)) := by go_grown
      generalize hW2 : w1.alloc (.cells #[.string x.key, .int .i64 x.at_, .int .i64 x.v, .int .i64 x.n] 59) = W2 at *
      clear hW2
      have y2 := k2.size
      have nX : qb ≠ w1.heap.size := by omega
      have nXR : w.heap.size ≠ w1.heap.size := by omega
      have lq2 := bQ2.lt
      have lX2 := bX2.lt
      have lR2 := bR2.lt
      have q0 : W2.cell? ⟨qb, 0, none⟩ = some (.int .i64 lim) := bQ2.cell 0
      have q1 : W2.cell? ⟨qb, 1, none⟩ = some (.int .i64 fuel) := bQ2.cell 1
      have x2 : W2.cell? ⟨w1.heap.size, 2, none⟩ = some (.int .i64 x.v) := bX2.cell 2
      have x3 : W2.cell? ⟨w1.heap.size, 3, none⟩ = some (.int .i64 x.n) := bX2.cell 3
      go_region_held3 (fun y => y.cell? ⟨qb, 0, none⟩ = some (.int .i64 lim) ∧ y.cell? ⟨qb, 1, none⟩ = some (.int .i64 fuel) ∧ y.cell? ⟨w1.heap.size, 2, none⟩ = some (.int .i64 x.v) ∧ y.cell? ⟨w1.heap.size, 3, none⟩ = some (.int .i64 x.n))
        (first | exact ⟨q0, q1, x2, x3⟩ | exact ⟨qq0, qq1, xx2, xx3⟩ | go_keep)
        (first
          | (go_at_call 19; refine (leaves_any lim fuel x.v x.n W2.drew hL.1 hL.2).mono ?_; rw [hz]; rintro e w3 ⟨rfl, hb3⟩; have k3 : Below W2.heap.size W2 w3 := ⟨hb3.os, hb3.tape, hb3.output, hb3.size, hb3.block⟩; have bQ3 := bQ2.below k3 lq2; have bX3 := bX2.below k3 lX2; have bR3 := bR2.below k3 lR2; have qq0 : w3.cell? ⟨qb, 0, none⟩ = some (.int .i64 lim) := bQ3.cell 0; have qq1 : w3.cell? ⟨qb, 1, none⟩ = some (.int .i64 fuel) := bQ3.cell 1; have xx2 : w3.cell? ⟨w1.heap.size, 2, none⟩ = some (.int .i64 x.v) := bX3.cell 2; have xx3 : w3.cell? ⟨w1.heap.size, 3, none⟩ = some (.int .i64 x.n) := bX3.cell 3))
      have xx0 : w3.cell? ⟨w1.heap.size, 0, none⟩ = some (.string x.key) := bX3.cell 0
      have xx1 : w3.cell? ⟨w1.heap.size, 1, none⟩ = some (.int .i64 x.at_) := bX3.cell 1
      have fX3 := bX3.frozen
      have fR3 := bR3.frozen
      have rr0 : w3.cell? ⟨w.heap.size, 0, none⟩ = some (.string ⟨#[]⟩) := bR3.cell 0
      have rr1 : w3.cell? ⟨w.heap.size, 1, none⟩ = some (.int .i64 0) := bR3.cell 1
      have rr2 : w3.cell? ⟨w.heap.size, 2, none⟩ = some (.int .i64 0) := bR3.cell 2
      have y3 := k3.size
      have hO3 : w3.ownsRow base 59 4 v1 ys.length (rnds ys) := hO2.kept (only_of_below k3 none) (by cases v1.ownBlock <;> simp)
      have k13 := k2.trans (k3.mono k2.size)
      have hs3 : w.heap.size ≤ w3.heap.size := by omega
      have hk3 : ∀ i, i < w.heap.size → i ≠ qb → v.ownBlock ≠ some i → w3.heap[i]? = w.heap[i]? := fun i hi hne hv => (k13.block i (by omega)).trans ((hk1 i (by simp; omega) hne hv).trans (Below.heap_alloc w _ i hi))
      have hB3 : ∀ (B : Nat) (a : World), Below B a w → B ≤ qb → B ≤ base → B ≤ w.heap.size → Below B a w3 := fun B a hBa b1 b2 b3 => (hB1 B a (hBa.alloc b3 _) b1 b2 (by simp; omega)).trans (k13.mono (by omega))
      have hN3 : ∀ i, v1.ownBlock = some i → v.ownBlock = some i ∨ w.heap.size ≤ i := fun i hi => (hN1 i hi).imp id fun h => by simp at h; omega
      go_wp2
      have bZ := ((bR3.set_ 0 (.string x.key)).set_ 1 (.int .i64 x.at_)).set_ 2 (.int .i64 x.v)
      have e0 : World.cell? _ ⟨w.heap.size, 0, none⟩ = some (.string x.key) := bZ.cell 0
      have e1 : World.cell? _ ⟨w.heap.size, 1, none⟩ = some (.int .i64 x.at_) := bZ.cell 1
      have e2 : World.cell? _ ⟨w.heap.size, 2, none⟩ = some (.int .i64 x.v) := bZ.cell 2
      have g1 : outR lim fuel (x :: ys) = x := outR_go hz
      have g2 : restQ lim fuel (x :: ys) = ys := restQ_go hz
      have g3 : goesB lim fuel (x :: ys) = true := hz
      refine bodyPost_ret (v := .tuple #[.agg #[.string x.key, .int .i64 x.at_, .int .i64 x.v], .bool true]) (by simp [results, Try.results15, go_sem, e0, e1, e2]) rfl ?_
      unfold StepPost
      rw [g1, g2, g3]
      refine ⟨rfl, ?_⟩
      refine QPost.set3 ⟨v1, bQ3, hO3, hN3, hs3, hk3, hB3⟩ (Nat.le_refl _) nq bR3 (by decide) _ _ _
end Go.Proofs.Ytplfimaopegpmaa
