/- Walks of the queue's Put and Step. -/
import Derived.Test.YtplfimaopegpmaaQue2
import Derived.Deep.RegionHeld3
namespace Go.Proofs.Ytplfimaopegpmaa
open Go.RowKit
set_option linter.unusedVariables false
set_option linter.unusedSimpArgs false

theorem alloc_cell {w : World} {a : Addr} {v : Value} (ha : a.block < w.heap.size) (h : w.cell? a = some v) : ∀ o : Obj, (w.alloc o).cell? a = some v := fun o => (World.cell?_alloc_lt w o a ha).trans h
theorem QPost.from {qb base : Nat} {lim fuel : Int} {v : Value} {ys : List Rnd} {w W w' : World} (hb : Below w.heap.size w W) (h : QPost qb base lim fuel v ys W w') : QPost qb base lim fuel v ys w w' := by
  obtain ⟨v', h1, h2, h3, h4, h5, h6⟩ := h
  refine ⟨v', h1, h2, fun i hi => (h3 i hi).imp id fun h => Nat.le_trans hb.size h, Nat.le_trans hb.size h4, fun i hi hn hv => (h5 i (Nat.lt_of_lt_of_le hi hb.size) hn hv).trans (hb.block i hi), fun B a hBa b1 b2 b3 => h6 B a (hBa.trans (hb.mono b3)) b1 b2 (Nat.le_trans b3 hb.size)⟩
theorem QPost.blk {qb base : Nat} {lim fuel : Int} {v : Value} {ys : List Rnd} {w W w' : World} (h : QPost qb base lim fuel v ys w w') {g : Nat} {t : TypeId} {cs : Array Value} (hg : Blk W g t cs) (he : w.heap = W.heap) (hlt : g < W.heap.size) (hn : g ≠ qb) (hv : v.ownBlock ≠ some g) : Blk w' g t cs := by
  obtain ⟨v', h1, h2, h3, h4, h5, h6⟩ := h
  exact (h5 g (by rw [he]; exact hlt) hn hv).trans (by rw [he]; exact hg)
/-- Two turns of the queue, one behind the other. -/
theorem QPost.then_ {qb base : Nat} {lim fuel : Int} {v v1 : Value} {ys : List Rnd} {w w1 w2 : World} (hs : w.heap.size ≤ w1.heap.size)
    (hn : ∀ i, v1.ownBlock = some i → v.ownBlock = some i ∨ w.heap.size ≤ i) (hk : ∀ i, i < w.heap.size → i ≠ qb → v.ownBlock ≠ some i → w1.heap[i]? = w.heap[i]?)
    (hB : ∀ (B : Nat) (a : World), Below B a w → B ≤ qb → B ≤ base → B ≤ w.heap.size → Below B a w1) (k : QPost qb base lim fuel v1 ys w1 w2) : QPost qb base lim fuel v ys w w2 := by
  obtain ⟨v2, k1, k2, k3, k4, k5, k6⟩ := k
  refine ⟨v2, k1, k2, fun i hi => ?_, Nat.le_trans hs k4, fun i hi hne hv => ?_, fun B a hBa b1 b2 b3 => k6 B a (hB B a hBa b1 b2 b3) b1 b2 (Nat.le_trans b3 hs)⟩
  · rcases k3 i hi with h | h
    · exact hn i h
    · exact .inr (Nat.le_trans hs h)
  · refine (k5 i (Nat.lt_of_lt_of_le hi hs) hne fun h => ?_).trans (hk i hi hne hv)
    rcases hn i h with h | h
    · exact hv h
    · omega

set_option maxHeartbeats 1000000 in
theorem putq_full (qb n c : Nat) (A : Option Addr) (key : ByteArray) (a b : Int) (w : World) (hq : w.cell? ⟨qb, 2, none⟩ = some (.slice A n c)) (hn : 16 ≤ n) (hlt : qb < w.heap.size) :
    Calls Try.prog 14 #[.pointer (some ⟨qb, 0, none⟩), .agg #[.string key, .int .i64 a, .int .i64 b]] w fun e w' => e = .returned (.int .i64 3) ∧ Below w.heap.size w w' := by
  have h16 : (16 : Int) ≤ (n : Int) := by omega
  have hqa := alloc_cell (a := ⟨qb, 2, none⟩) hlt hq
  go_enter Try.func14, Try.ntmps14
  go_wp2_with (go_at_call 17; refine (lenQ_any qb n c A _ ?_).mono ?_; (first | exact hq | exact hqa _); rintro e w1 ⟨rfl, rfl⟩)
  go_ret
  exact ⟨rfl, by go_grown⟩
set_option maxHeartbeats 1000000 in
theorem putq_nil (key : ByteArray) (a b : Int) (w : World) :
    Calls Try.prog 14 #[.pointer none, .agg #[.string key, .int .i64 a, .int .i64 b]] w fun e w' => e = .returned (.int .i64 3) ∧ Below w.heap.size w w' := by
  go_enter Try.func14, Try.ntmps14
  go_wp2
  go_ret
  exact ⟨rfl, by go_grown⟩
def PutqPost (qb base : Nat) (lim fuel : Int) (v : Value) (ys : List Rnd) (w : World) (e : Ending) (w' : World) : Prop := e = .returned (.int .i64 0) ∧ QPost qb base lim fuel v ys w w'
set_option maxHeartbeats 1000000 in
theorem putq_any (qb base n : Nat) (lim fuel : Int) (v : Value) (xs : List Rnd) (key : ByteArray) (a b : Int) (w : World) (hQ : Blk w qb 56 #[.int .i64 lim, .int .i64 fuel, v]) (ho : w.ownsRow base 59 4 v n (rnds xs)) (hn : n < 16) (hl : xs.length = n) (hb : base ≤ w.heap.size) (hqb : qb < base) :
    Calls Try.prog 14 #[.pointer (some ⟨qb, 0, none⟩), .agg #[.string key, .int .i64 a, .int .i64 b]] w (PutqPost qb base lim fuel v (xs ++ [⟨key, a, b, 0⟩]) w) := by
  have lq := hQ.lt
  have h16 : (n : Int) < (16 : Int) := by omega
  obtain ⟨A, c, rfl⟩ := own_form ho
  have q2 : w.cell? ⟨qb, 2, none⟩ = some (.slice A n c) := hQ.cell 2
  have q2a := alloc_cell (a := ⟨qb, 2, none⟩) lq q2
  go_enter Try.func14, Try.ntmps14
  go_wp2_with (go_at_call 17; refine (lenQ_any qb n c A _ ?_).mono ?_; (first | exact q2 | exact q2a _); rintro e w1 ⟨rfl, rfl⟩)
  have bX := Blk.new w 23 #[.string key, .int .i64 a, .int .i64 b]
  generalize hW : w.alloc (.cells #[.string key, .int .i64 a, .int .i64 b] 23) = W at *
  have kW : Below w.heap.size w W := by rw [← hW]; go_grown
  have hQW := hQ.below kW lq
  have hoW := ho.alloc (.cells #[.string key, .int .i64 a, .int .i64 b] 23)
  rw [hW] at hoW
  have yW := kW.size
  clear hW
  have hn100 : n ≤ 100 := by omega
  have hQd := hQW.drew
  have hod : W.drew.ownsRow base 59 4 (.slice A n c) n (rnds xs) := hoW
  have hbd : base ≤ W.drew.heap.size := Nat.le_trans hb yW
  have hbW : base ≤ W.heap.size := by omega
  have lX := bX.lt
  have nX : w.heap.size ≠ qb := by omega
  have hvX : (Value.slice A n c).ownBlock ≠ some w.heap.size := fun e => by have := (ho.lt _ e).2; omega
  have x0 : W.cell? ⟨w.heap.size, 0, none⟩ = some (.string key) := bX.cell 0
  have x1 : W.cell? ⟨w.heap.size, 1, none⟩ = some (.int .i64 a) := bX.cell 1
  have x2 : W.cell? ⟨w.heap.size, 2, none⟩ = some (.int .i64 b) := bX.cell 2
  go_region_held3 (fun x => x.cell? ⟨w.heap.size, 0, none⟩ = some (.string key) ∧ x.cell? ⟨w.heap.size, 1, none⟩ = some (.int .i64 a) ∧ x.cell? ⟨w.heap.size, 2, none⟩ = some (.int .i64 b))
    (first | exact ⟨x0, x1, x2⟩ | exact ⟨xx0, xx1, xx2⟩ | go_keep)
    (first
      | (go_at_call 21; refine (put_any qb base n lim fuel _ xs key a b 0 W.drew hQd hod hn100 hl hbd hqb).mono ?_; rintro e w4 ⟨rfl, hP⟩; have hbl := hP.blk bX rfl lX nX hvX; have xx0 : w4.cell? ⟨w.heap.size, 0, none⟩ = some (.string key) := hbl.cell 0; have xx1 : w4.cell? ⟨w.heap.size, 1, none⟩ = some (.int .i64 a) := hbl.cell 1; have xx2 : w4.cell? ⟨w.heap.size, 2, none⟩ = some (.int .i64 b) := hbl.cell 2))
  go_wp2
  go_ret
  exact ⟨rfl, QPost.from (below_drew' kW) hP⟩
end Go.Proofs.Ytplfimaopegpmaa
