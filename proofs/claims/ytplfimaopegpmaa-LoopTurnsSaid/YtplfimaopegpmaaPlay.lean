/- The state of a play with a queue and the reference's row; the reference's Step at an empty row. -/
import Derived.Test.YtplfimaopegpmaaEvs
namespace Go.Proofs.Ytplfimaopegpmaa
open Go.RowKit
set_option linter.unusedVariables false
set_option linter.unusedSimpArgs false

set_option maxHeartbeats 1000000 in
theorem rstep_nil (rb c : Nat) (A : Option Addr) (limit fuel : Int) (w : World) (h0 : w.cell? ⟨rb, 0, none⟩ = some (.slice A 0 c)) (hlt : rb < w.heap.size) :
    Calls Try.prog 16 #[.pointer (some ⟨rb, 0, none⟩), .int .i64 limit, .int .i64 fuel] w fun e w' => e = .returned (.tuple #[.agg #[.string ⟨#[]⟩, .int .i64 0, .int .i64 0], .bool false]) ∧ Below w.heap.size w w' := by
  have h0a := alloc_cell (a := ⟨rb, 0, none⟩) hlt h0
  go_enter Try.func16, Try.ntmps16
  go_wp2
  exact bodyPost_ret (v := .tuple #[.agg #[.string ⟨#[]⟩, .int .i64 0, .int .i64 0], .bool false]) (by simp [results, Try.results16, go_sem, World.cell?_setCell_other]) rfl ⟨rfl, by go_grown⟩

theorem rstep_all (rb base : Nat) (limit fuel : Int) (ve vr : Value) (xs : List Rnd) (w : World) (hR : Blk w rb 36 #[ve, vr]) (hE : OwnO w base 23 3 ve xs.length (evs xs)) (hI : OwnO w base 3 1 vr xs.length (nums xs)) (hn : xs.length ≤ 20) (hb : base ≤ w.heap.size) (hrb : rb < base)
    (hL : -9223372036854775808 ≤ limit ∧ limit ≤ 9223372036854775807) (hx : ∀ x ∈ xs, (-9223372036854775808 ≤ x.v ∧ x.v ≤ 9223372036854775807) ∧ 0 ≤ x.n ∧ x.n ≤ 1000) :
    Calls Try.prog 16 #[.pointer (some ⟨rb, 0, none⟩), .int .i64 limit, .int .i64 fuel] w (RStepPost rb base (maxZ limit) (fuelZ fuel) ve vr xs w) := by
  match xs, hE, hI, hn, hx with
  | [], hE, hI, _, _ =>
    obtain ⟨A, c, rfl⟩ := hE.form
    refine (rstep_nil rb c A limit fuel w (hR.cell 0) hR.lt).mono ?_
    rintro e w' ⟨rfl, hb'⟩
    exact ⟨rfl, _, _, hR.below hb' hR.lt, hE.below hb', hI.below hb', fun i hi => .inl hi, fun i hi => .inl hi, hb'.size, fun i hi _ _ _ => hb'.block i hi, fun B a hBa _ _ b3 => hBa.trans (hb'.mono b3)⟩
  | x :: ys, hE, hI, hn, hx => exact rstep_any rb base limit fuel ve vr x ys w hR hE hI (by simp at hn; omega) hb hrb hL (hx x (by simp))

/-- A play: the queue (block qb) and the reference's row (block rb), what each has. -/
structure PlaySt (qb rb base : Nat) (lim fuel : Int) (v ve vr : Value) (xq xe xi : List Rnd) (w wr : World) : Prop where
  q : Blk wr qb 56 #[.int .i64 lim, .int .i64 fuel, v]
  r : Blk wr rb 36 #[ve, vr]
  oq : wr.ownsRow base 59 4 v xq.length (rnds xq)
  oe : OwnO wr base 23 3 ve xe.length (evs xe)
  oi : OwnO wr base 3 1 vr xi.length (nums xi)
  below : Below w.heap.size w wr
  size : base ≤ wr.heap.size
  qlo : w.heap.size ≤ qb
  rlo : w.heap.size ≤ rb
  qhi : qb < base
  rhi : rb < base

section
variable {qb rb base : Nat} {lim fuel : Int} {v ve vr : Value} {xq xe xi ys : List Rnd} {w wr w' : World}
theorem PlaySt.ne (h : PlaySt qb rb base lim fuel v ve vr xq xe xi w wr) : qb ≠ rb := Blk.ne_ h.q h.r (by decide)
theorem PlaySt.to (h : PlaySt qb rb base lim fuel v ve vr xq xe xi w wr) (hb : Below wr.heap.size wr w') : PlaySt qb rb base lim fuel v ve vr xq xe xi w w' :=
  ⟨h.q.below hb h.q.lt, h.r.below hb h.r.lt, h.oq.kept (only_of_below hb none) (by cases v.ownBlock <;> simp), h.oe.below hb, h.oi.below hb, h.below.trans (hb.mono h.below.size), Nat.le_trans h.size hb.size, h.qlo, h.rlo, h.qhi, h.rhi⟩
theorem PlaySt.lo (h : PlaySt qb rb base lim fuel v ve vr xq xe xi w wr) : w.heap.size ≤ base := Nat.le_trans h.qlo (Nat.le_of_lt h.qhi)
theorem PlaySt.turn (h : PlaySt qb rb base lim fuel v ve vr xq xe xi w wr) (hp : QPost qb base lim fuel v ys wr w') : ∃ v', PlaySt qb rb base lim fuel v' ve vr ys xe xi w w' := by
  obtain ⟨v', h1, h2, _, h4, h5, h6⟩ := hp
  have k1 : ∀ k, k < wr.heap.size → base ≤ k → v.ownBlock ≠ some k → w'.heap[k]? = wr.heap[k]? := fun k hk hb hv => h5 k hk (by have := h.qhi; omega) hv
  refine ⟨v', h1, ?_, h2, h.oe.same fun k hk => k1 k (h.oe.lt k hk).2 (h.oe.lt k hk).1 ((OwnO.of_owns h.oq).ne_O h.oe (by decide) k hk), h.oi.same fun k hk => k1 k (h.oi.lt k hk).2 (h.oi.lt k hk).1 ((OwnO.of_owns h.oq).ne_O h.oi (by decide) k hk),
    h6 _ _ h.below h.qlo h.lo h.below.size, Nat.le_trans h.size h4, h.qlo, h.rlo, h.qhi, h.rhi⟩
  exact (h5 rb h.r.lt h.ne.symm (fun e => by have := (h.oq.lt _ e).1; have := h.rhi; omega)).trans h.r
theorem PlaySt.rturn (h : PlaySt qb rb base lim fuel v ve vr xq xe xi w wr) (hp : RowPost rb base ve vr ys wr w') : ∃ ve' vr', PlaySt qb rb base lim fuel v ve' vr' xq ys ys w w' := by
  obtain ⟨ve', vr', h1, h2, h3, _, _, h4, h5, h6⟩ := hp
  have k1 : ∀ k, k < wr.heap.size → k ≠ rb → ve.ownBlock ≠ some k → vr.ownBlock ≠ some k → w'.heap[k]? = wr.heap[k]? := h5
  have oq := OwnO.of_owns h.oq
  refine ⟨ve', vr', ?_, h1, ?_, h2, h3, h6 _ _ h.below h.rlo h.lo h.below.size, Nat.le_trans h.size h4, h.qlo, h.rlo, h.qhi, h.rhi⟩
  · exact (k1 qb h.q.lt h.ne (fun e => by have := (h.oe.lt _ e).1; have := h.qhi; omega) (fun e => by have := (h.oi.lt _ e).1; have := h.qhi; omega)).trans h.q
  · obtain ⟨a1, a2⟩ := h.oq
    refine ⟨a1, ?_⟩
    rcases a2 with a2 | ⟨g, cap, cur, rfl, b1, b2, b3, b4, b5, b6⟩
    · exact .inl a2
    · exact .inr ⟨g, cap, cur, rfl, b1, (k1 g (oq.lt g rfl).2 (by have := h.rhi; omega) (h.oe.ne_O oq (by decide) g rfl) (h.oi.ne_O oq (by decide) g rfl)).trans b2, b3, b4, b5, b6⟩
theorem own_same {e : TypeId} {size n : Nat} {u : Value} {xs : List Value} (h : wr.ownsRow base e size u n xs) (hk : ∀ k, u.ownBlock = some k → w'.heap[k]? = wr.heap[k]?) : w'.ownsRow base e size u n xs := by
  obtain ⟨a1, a2⟩ := h
  refine ⟨a1, ?_⟩
  rcases a2 with a2 | ⟨g, cap, cur, rfl, b1, b2, b3, b4, b5, b6⟩
  · exact .inl a2
  · exact .inr ⟨g, cap, cur, rfl, b1, (hk g rfl).trans b2, b3, b4, b5, b6⟩
/-- An append to the row's events, stored. -/
theorem PlaySt.app_e {W w4 : World} {ve' : Value} {es : List Value} {r : Rnd} (h : PlaySt qb rb base lim fuel v ve vr xq xe xi w W) (hg : W.grownBy w4 ve.ownBlock) (ho : OwnO w4 base 23 3 ve' (xe.length + 1) (evs xe ++ es)) (hr : evs [r] = es)
    (hnb : ve'.ownBlock = ve.ownBlock ∨ ve'.ownBlock = some W.heap.size) : PlaySt qb rb base lim fuel v ve' vr xq (xe ++ [r]) xi w (w4.setCell ⟨rb, 0, none⟩ ve') := by
  have oq := OwnO.of_owns h.oq
  have nq : some qb ≠ ve.ownBlock := fun e => by have := (h.oe.lt _ e.symm).1; have := h.qhi; omega
  have nr : some rb ≠ ve.ownBlock := fun e => by have := (h.oe.lt _ e.symm).1; have := h.rhi; omega
  have hB := h.below
  have hrb := h.r.lt
  have nv : ve'.ownBlock ≠ some rb := fun e => by
    rcases hnb with h' | h'
    · exact nr (h' ▸ e).symm
    · rw [h'] at e; injection e with e; omega
  refine ⟨(h.q.grown hg nq).far (p := ⟨rb, 0, none⟩) h.ne _, (h.r.grown hg nr).set_ 0 _, own_same h.oq fun k hk => (Below.heap_setCell _ ⟨rb, 0, none⟩ _ k (by have := (oq.lt k hk).1; have := h.rhi; simp; omega)).trans (hg.block k (oq.lt k hk).2 fun e => h.oe.ne_O oq (by decide) k hk e.symm), ?_, (h.oi.same fun k hk => hg.block k (h.oi.lt k hk).2 fun e => h.oe.ne_O h.oi (by decide) k hk e.symm).setCell (p := ⟨rb, 0, none⟩) (fun e => by have h1 : base ≤ rb := (h.oi.lt _ e).1; have := h.rhi; omega) _,
    (hB.grown hg hB.size fun g e => by have := (h.oe.lt _ e).1; have := h.lo; omega).setCell (p := ⟨rb, 0, none⟩) h.rlo _, by simpa using Nat.le_trans h.size hg.size, h.qlo, h.rlo, h.qhi, h.rhi⟩
  rw [evs_append, List.length_append, hr]
  exact ho.setCell (p := ⟨rb, 0, none⟩) nv _
/-- An append to the row's rounds, stored. -/
theorem PlaySt.app_i {W w4 : World} {vr' : Value} {es : List Value} {r : Rnd} (h : PlaySt qb rb base lim fuel v ve vr xq xe xi w W) (hg : W.grownBy w4 vr.ownBlock) (ho : OwnO w4 base 3 1 vr' (xi.length + 1) (nums xi ++ es)) (hr : nums [r] = es)
    (hnb : vr'.ownBlock = vr.ownBlock ∨ vr'.ownBlock = some W.heap.size) : PlaySt qb rb base lim fuel v ve vr' xq xe (xi ++ [r]) w (w4.setCell ⟨rb, 1, none⟩ vr') := by
  have oq := OwnO.of_owns h.oq
  have nq : some qb ≠ vr.ownBlock := fun e => by have := (h.oi.lt _ e.symm).1; have := h.qhi; omega
  have nr : some rb ≠ vr.ownBlock := fun e => by have := (h.oi.lt _ e.symm).1; have := h.rhi; omega
  have hB := h.below
  have hrb := h.r.lt
  have nv : vr'.ownBlock ≠ some rb := fun e => by
    rcases hnb with h' | h'
    · exact nr (h' ▸ e).symm
    · rw [h'] at e; injection e with e; omega
  refine ⟨(h.q.grown hg nq).far (p := ⟨rb, 1, none⟩) h.ne _, (h.r.grown hg nr).set_ 1 _, own_same h.oq fun k hk => (Below.heap_setCell _ ⟨rb, 1, none⟩ _ k (by have := (oq.lt k hk).1; have := h.rhi; simp; omega)).trans (hg.block k (oq.lt k hk).2 fun e => h.oi.ne_O oq (by decide) k hk e.symm), (h.oe.same fun k hk => hg.block k (h.oe.lt k hk).2 fun e => h.oi.ne_O h.oe (by decide) k hk e.symm).setCell (p := ⟨rb, 1, none⟩) (fun e => by have h1 : base ≤ rb := (h.oe.lt _ e).1; have := h.rhi; omega) _, ?_,
    (hB.grown hg hB.size fun g e => by have := (h.oi.lt _ e).1; have := h.lo; omega).setCell (p := ⟨rb, 1, none⟩) h.rlo _, by simpa using Nat.le_trans h.size hg.size, h.qlo, h.rlo, h.qhi, h.rhi⟩
  rw [nums_append, List.length_append, hr]
  exact ho.setCell (p := ⟨rb, 1, none⟩) nv _
end
theorem RowPost.blk {rb base : Nat} {ve vr : Value} {ys : List Rnd} {w w' : World} (h : RowPost rb base ve vr ys w w') {g : Nat} {t : TypeId} {cs : Array Value} (hg : Blk w g t cs) (hn : g ≠ rb) (hv : ve.ownBlock ≠ some g) (hv2 : vr.ownBlock ≠ some g) : Blk w' g t cs := by
  obtain ⟨ve', vr', h1, h2, h3, _, _, h4, h5, h6⟩ := h
  exact (h5 g hg.lt hn hv hv2).trans hg
/-- What may be in a queue. -/
def okQ (fuel : Int) (xs : List Rnd) : Prop := xs.length ≤ 16 ∧ ∀ r ∈ xs, (-9223372036854775808 ≤ r.v ∧ r.v ≤ 9223372036854775807) ∧ 0 ≤ r.n ∧ r.n ≤ 40
theorem okQ.nil (fuel : Int) : okQ fuel [] := ⟨by simp, by simp⟩
theorem okQ.put {fuel : Int} {xs : List Rnd} (h : okQ fuel xs) (hl : xs.length < 16) {r : Rnd} (hr : (-9223372036854775808 ≤ r.v ∧ r.v ≤ 9223372036854775807) ∧ 0 ≤ r.n ∧ r.n ≤ 40) : okQ fuel (xs ++ [r]) := by
  refine ⟨by simp; omega, fun x hx => ?_⟩
  rcases List.mem_append.1 hx with hx | hx
  · exact h.2 x hx
  · obtain rfl := List.mem_singleton.1 hx
    exact hr
theorem okQ.rest {lim fuel : Int} {xs : List Rnd} (h : okQ fuel xs) (hf : fuel ≤ 40) : okQ fuel (restQ lim fuel xs) := by
  match xs, h with
  | [], h => exact h
  | x :: ys, h =>
    have hx := h.2 x (by simp)
    have hl := h.1
    simp at hl
    cases hz : leavesB lim fuel x.v x.n
    · rw [restQ_stay hz]
      have h' : okQ fuel ys := ⟨by omega, fun r hr => h.2 r (by simp [hr])⟩
      have := (leavesB_false.1 hz).1
      exact h'.put (by omega) ⟨half_bd hx.1, by simp only; omega, by simp only; omega⟩
    · rw [restQ_go hz]
      exact ⟨by omega, fun r hr => h.2 r (by simp [hr])⟩
theorem okQ.wide {fuel : Int} {xs : List Rnd} (h : okQ fuel xs) : ∀ r ∈ xs, (-9223372036854775808 ≤ r.v ∧ r.v ≤ 9223372036854775807) ∧ 0 ≤ r.n ∧ r.n ≤ 1000 := fun r hr => ⟨(h.2 r hr).1, (h.2 r hr).2.1, by have := (h.2 r hr).2.2; omega⟩
end Go.Proofs.Ytplfimaopegpmaa
