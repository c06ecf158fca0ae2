/- Walk of the reference row's Step. -/
import Derived.Test.YtplfimaopegpmaaRow0
import Derived.Deep.CutRange
namespace Go.Proofs.Ytplfimaopegpmaa
open Go.RowKit
set_option linter.unusedVariables false
set_option linter.unusedSimpArgs false

def Rnd.ev (r : Rnd) : List Value := [.string r.key, .int .i64 r.at_, .int .i64 r.v]
def evs (l : List Rnd) : List Value := l.flatMap Rnd.ev
def nums (l : List Rnd) : List Value := l.map fun r => .int .i64 r.n
theorem evs_cons (r : Rnd) (l : List Rnd) : evs (r :: l) = [.string r.key, .int .i64 r.at_, .int .i64 r.v] ++ evs l := rfl
theorem evs_append (a b : List Rnd) : evs (a ++ b) = evs a ++ evs b := by simp [evs]
theorem nums_cons (r : Rnd) (l : List Rnd) : nums (r :: l) = [.int .i64 r.n] ++ nums l := rfl
theorem nums_append (a b : List Rnd) : nums (a ++ b) = nums a ++ nums b := by simp [nums]
theorem infoEvt : (Try.prog.info? 23).map (fun i => (i.zero, i.size, i.bytes)) = some (some (.agg #[.string .empty, .int .i64 0, .int .i64 0]), 3, 32) := by kernel_rfl
theorem infoInt : (Try.prog.info? 3).map (fun i => (i.zero, i.size, i.bytes)) = some (some (.int .i64 0), 1, 8) := by kernel_rfl

/-- What a call leaves that turns the reference's row in block rb. -/
def RowPost (rb base : Nat) (ve vr : Value) (ys : List Rnd) (w w' : World) : Prop :=
  ∃ ve' vr', Blk w' rb 36 #[ve', vr'] ∧ OwnO w' base 23 3 ve' ys.length (evs ys) ∧ OwnO w' base 3 1 vr' ys.length (nums ys) ∧
    (∀ i, ve'.ownBlock = some i → ve.ownBlock = some i ∨ w.heap.size ≤ i) ∧ (∀ i, vr'.ownBlock = some i → vr.ownBlock = some i ∨ w.heap.size ≤ i) ∧ w.heap.size ≤ w'.heap.size ∧
    (∀ i, i < w.heap.size → i ≠ rb → ve.ownBlock ≠ some i → vr.ownBlock ≠ some i → w'.heap[i]? = w.heap[i]?) ∧ ∀ (B : Nat) (a : World), Below B a w → B ≤ rb → B ≤ base → B ≤ w.heap.size → Below B a w'
def RStepPost (rb base : Nat) (lim fuel : Int) (ve vr : Value) (xs : List Rnd) (w : World) (e : Ending) (w' : World) : Prop :=
  e = .returned (.tuple #[.agg #[.string (outR lim fuel xs).key, .int .i64 (outR lim fuel xs).at_, .int .i64 (outR lim fuel xs).v], .bool (goesB lim fuel xs)]) ∧ RowPost rb base ve vr (restQ lim fuel xs) w w'

/-- Behind the first append of a step: the row's events are turned, its rounds are not yet. -/
def MidR (rb base : Nat) (ve VR : Value) (n : Nat) (es is_ : List Value) (T : Nat) (w wx : World) : Prop :=
  ∃ ve', Blk wx rb 36 #[ve', VR] ∧ OwnO wx base 23 3 ve' (n + 1) es ∧ OwnO wx base 3 1 VR n is_ ∧ Blk wx T 23 #[.string ⟨#[]⟩, .int .i64 0, .int .i64 0] ∧
    (∀ i, ve'.ownBlock = some i → ve.ownBlock = some i ∨ w.heap.size + 1 + 1 ≤ i) ∧ w.heap.size + 1 + 1 ≤ wx.heap.size ∧
    (∀ i, i < w.heap.size → i ≠ rb → ve.ownBlock ≠ some i → wx.heap[i]? = w.heap[i]?) ∧ ∀ (B : Nat) (a : World), Below B a w → B ≤ rb → B ≤ base → B ≤ w.heap.size → Below B a wx
theorem evt_new (w : World) (a b c : Value) (t : TypeId) : ∀ j u, [a, b, c][j]? = some u → (w.alloc (.cells #[a, b, c] t)).cell? ((⟨w.heap.size, 0, none⟩ : Addr).add j) = some u := by
  intro j u hu
  have hB := Blk.new w t #[a, b, c]
  match j, hu with
  | 0, hu => simpa [Addr.add] using (hB.cell 0).trans hu
  | 1, hu => simpa [Addr.add] using (hB.cell 1).trans hu
  | 2, hu => simpa [Addr.add] using (hB.cell 2).trans hu
set_option maxHeartbeats 2000000 in
theorem rstep_any (rb base : Nat) (limit fuel : Int) (ve vr : Value) (x : Rnd) (ys : List Rnd) (w : World) (hR : Blk w rb 36 #[ve, vr]) (hE : OwnO w base 23 3 ve (ys.length + 1) (evs (x :: ys))) (hI : OwnO w base 3 1 vr (ys.length + 1) (nums (x :: ys))) (hn : ys.length ≤ 20) (hb : base ≤ w.heap.size) (hrb : rb < base)
    (hL : -9223372036854775808 ≤ limit ∧ limit ≤ 9223372036854775807) (hx : (-9223372036854775808 ≤ x.v ∧ x.v ≤ 9223372036854775807) ∧ 0 ≤ x.n ∧ x.n ≤ 1000) :
    Calls Try.prog 16 #[.pointer (some ⟨rb, 0, none⟩), .int .i64 limit, .int .i64 fuel] w (RStepPost rb base (maxZ limit) (fuelZ fuel) ve vr (x :: ys) w) := by
  have lR := hR.lt
  obtain ⟨g1, o1, c1, rfl, hc1⟩ := hE.succ
  obtain ⟨g2, o2, c2, rfl, hc2⟩ := hI.succ
  have r0 : w.cell? ⟨rb, 0, none⟩ = some (.slice (some ⟨g1, o1, none⟩) (ys.length + 1) c1) := hR.cell 0
  have r1 : w.cell? ⟨rb, 1, none⟩ = some (.slice (some ⟨g2, o2, none⟩) (ys.length + 1) c2) := hR.cell 1
  have fR := hR.frozen
  have e0 : w.cell? ⟨g1, o1, none⟩ = some (.string x.key) := by simpa [Addr.add] using hE.cells 0 _ rfl
  have e1 : w.cell? ⟨g1, o1 + 1, none⟩ = some (.int .i64 x.at_) := by simpa [Addr.add] using hE.cells 1 _ rfl
  have e2 : w.cell? ⟨g1, o1 + 2, none⟩ = some (.int .i64 x.v) := by simpa [Addr.add] using hE.cells 2 _ rfl
  have i0 : w.cell? ⟨g2, o2, none⟩ = some (.int .i64 x.n) := by simpa [Addr.add] using hI.cells 0 _ rfl
  have lE := (hE.lt _ rfl).2
  have lI := (hI.lt _ rfl).2
  have hEt := hE.tail (hd := [.string x.key, .int .i64 x.at_, .int .i64 x.v]) (ys := evs ys) rfl
  have hIt := hI.tail (hd := [.int .i64 x.n]) (ys := nums ys) rfl
  obtain ⟨j0, hj, hjz0, hjz1, hjz2⟩ := info_parts infoEvt
  obtain ⟨k0, hk, hkz0, hkz1, hkz2⟩ := info_parts infoInt
  have nE : g1 ≠ rb := by have h : base ≤ g1 := (hE.lt _ rfl).1; omega
  have nI : g2 ≠ rb := by have h : base ≤ g2 := (hI.lt _ rfl).1; omega
  have bE : base ≤ g1 := (hE.lt _ rfl).1
  have bI : base ≤ g2 := (hI.lt _ rfl).1
  have hwn : IntKind.i64.wrap (x.n + 1) = x.n + 1 := IntWalk.i64_in _ (by omega)
  obtain ⟨A1, d1, hE1, hA1, HA1⟩ : ∃ A d, OwnO w base 23 3 (.slice (some ⟨g1, A, none⟩) ys.length d) ys.length (evs ys) ∧ (c1 = 1 → A = o1 ∧ d = 0) ∧ (c1 ≠ 1 → A = o1 + 3 ∧ d = c1 - 1) := by
    by_cases h1 : c1 = 1
    · exact ⟨o1, 0, by have := hEt.2 h1; have h0 : ys.length = 0 := (by omega); rw [h0] at this ⊢; exact this, fun _ => ⟨rfl, rfl⟩, fun h => absurd h1 h⟩
    · exact ⟨o1 + 3, c1 - 1, hEt.1 h1, fun h => absurd h h1, fun _ => ⟨rfl, rfl⟩⟩
  obtain ⟨A2, d2, hI1, hA2, HA2⟩ : ∃ A d, OwnO w base 3 1 (.slice (some ⟨g2, A, none⟩) ys.length d) ys.length (nums ys) ∧ (c2 = 1 → A = o2 ∧ d = 0) ∧ (c2 ≠ 1 → A = o2 + 1 ∧ d = c2 - 1) := by
    by_cases h1 : c2 = 1
    · exact ⟨o2, 0, by have := hIt.2 h1; have h0 : ys.length = 0 := (by omega); rw [h0] at this ⊢; exact this, fun _ => ⟨rfl, rfl⟩, fun h => absurd h1 h⟩
    · exact ⟨o2 + 1, c2 - 1, hIt.1 h1, fun h => absurd h h1, fun _ => ⟨rfl, rfl⟩⟩
  clear hEt hIt
  have HE := hE
  have HI := hI
  clear HE HI
  obtain ⟨bz, hz⟩ : ∃ b, leavesB (maxZ limit) (fuelZ fuel) x.v x.n = b := ⟨_, rfl⟩
  have bR1 : Blk ((((w.setCell ⟨rb, 0, none⟩ (.slice (some ⟨g1, A1, none⟩) ys.length d1)).setCell ⟨rb, 1, none⟩ (.slice (some ⟨g2, A2, none⟩) ys.length d2)).alloc (.cells #[.string ⟨#[]⟩, .int .i64 0, .int .i64 0] 23)).alloc (.cells #[.string x.key, .int .i64 x.at_, .int .i64 x.v] 23)) rb 36 #[.slice (some ⟨g1, A1, none⟩) ys.length d1, .slice (some ⟨g2, A2, none⟩) ys.length d2] := by simpa using (((hR.set_ 0 (.slice (some ⟨g1, A1, none⟩) ys.length d1)).set_ 1 (.slice (some ⟨g2, A2, none⟩) ys.length d2)).alloc _).alloc _
  have hE2 : OwnO ((((w.setCell ⟨rb, 0, none⟩ (.slice (some ⟨g1, A1, none⟩) ys.length d1)).setCell ⟨rb, 1, none⟩ (.slice (some ⟨g2, A2, none⟩) ys.length d2)).alloc (.cells #[.string ⟨#[]⟩, .int .i64 0, .int .i64 0] 23)).alloc (.cells #[.string x.key, .int .i64 x.at_, .int .i64 x.v] 23)) base 23 3 (.slice (some ⟨g1, A1, none⟩) ys.length d1) ys.length (evs ys) := (((hE1.setCell (p := ⟨rb, 0, none⟩) (by simpa [Value.ownBlock] using nE) _).setCell (p := ⟨rb, 1, none⟩) (by simpa [Value.ownBlock] using nE) _).alloc _).alloc _
  have hI2 : OwnO ((((w.setCell ⟨rb, 0, none⟩ (.slice (some ⟨g1, A1, none⟩) ys.length d1)).setCell ⟨rb, 1, none⟩ (.slice (some ⟨g2, A2, none⟩) ys.length d2)).alloc (.cells #[.string ⟨#[]⟩, .int .i64 0, .int .i64 0] 23)).alloc (.cells #[.string x.key, .int .i64 x.at_, .int .i64 x.v] 23)) base 3 1 (.slice (some ⟨g2, A2, none⟩) ys.length d2) ys.length (nums ys) := (((hI1.setCell (p := ⟨rb, 0, none⟩) (by simpa [Value.ownBlock] using nI) _).setCell (p := ⟨rb, 1, none⟩) (by simpa [Value.ownBlock] using nI) _).alloc _).alloc _
  have bT1 : Blk ((((w.setCell ⟨rb, 0, none⟩ (.slice (some ⟨g1, A1, none⟩) ys.length d1)).setCell ⟨rb, 1, none⟩ (.slice (some ⟨g2, A2, none⟩) ys.length d2)).alloc (.cells #[.string ⟨#[]⟩, .int .i64 0, .int .i64 0] 23)).alloc (.cells #[.string x.key, .int .i64 x.at_, .int .i64 x.v] 23)) w.heap.size 23 #[.string ⟨#[]⟩, .int .i64 0, .int .i64 0] := by simpa using (Blk.new ((w.setCell ⟨rb, 0, none⟩ (.slice (some ⟨g1, A1, none⟩) ys.length d1)).setCell ⟨rb, 1, none⟩ (.slice (some ⟨g2, A2, none⟩) ys.length d2)) 23 #[.string ⟨#[]⟩, .int .i64 0, .int .i64 0]).alloc (.cells #[.string x.key, .int .i64 x.at_, .int .i64 x.v] 23)
  have bX1 : Blk ((((w.setCell ⟨rb, 0, none⟩ (.slice (some ⟨g1, A1, none⟩) ys.length d1)).setCell ⟨rb, 1, none⟩ (.slice (some ⟨g2, A2, none⟩) ys.length d2)).alloc (.cells #[.string ⟨#[]⟩, .int .i64 0, .int .i64 0] 23)).alloc (.cells #[.string x.key, .int .i64 x.at_, .int .i64 x.v] 23)) (w.heap.size + 1) 23 #[.string x.key, .int .i64 x.at_, .int .i64 x.v] := by simpa using Blk.new (((w.setCell ⟨rb, 0, none⟩ (.slice (some ⟨g1, A1, none⟩) ys.length d1)).setCell ⟨rb, 1, none⟩ (.slice (some ⟨g2, A2, none⟩) ys.length d2)).alloc (.cells #[.string ⟨#[]⟩, .int .i64 0, .int .i64 0] 23)) 23 #[.string x.key, .int .i64 x.at_, .int .i64 x.v]
  have hk1 : ∀ i, i < w.heap.size → i ≠ rb → ((((w.setCell ⟨rb, 0, none⟩ (.slice (some ⟨g1, A1, none⟩) ys.length d1)).setCell ⟨rb, 1, none⟩ (.slice (some ⟨g2, A2, none⟩) ys.length d2)).alloc (.cells #[.string ⟨#[]⟩, .int .i64 0, .int .i64 0] 23)).alloc (.cells #[.string x.key, .int .i64 x.at_, .int .i64 x.v] 23)).heap[i]? = w.heap[i]? := fun i hi hne => (Below.heap_alloc _ _ i (by simp; omega)).trans ((Below.heap_alloc _ _ i (by simp; omega)).trans ((Below.heap_setCell _ ⟨rb, 1, none⟩ _ i hne).trans (Below.heap_setCell _ ⟨rb, 0, none⟩ _ i hne)))
  have hB1 : ∀ (B : Nat) (a : World), Below B a w → B ≤ rb → B ≤ base → B ≤ w.heap.size → Below B a ((((w.setCell ⟨rb, 0, none⟩ (.slice (some ⟨g1, A1, none⟩) ys.length d1)).setCell ⟨rb, 1, none⟩ (.slice (some ⟨g2, A2, none⟩) ys.length d2)).alloc (.cells #[.string ⟨#[]⟩, .int .i64 0, .int .i64 0] 23)).alloc (.cells #[.string x.key, .int .i64 x.at_, .int .i64 x.v] 23)) := fun B a hBa b1 b2 b3 => (((hBa.setCell (p := ⟨rb, 0, none⟩) b1 _).setCell (p := ⟨rb, 1, none⟩) b1 _).alloc (by simpa using b3) _).alloc (by simp; omega) _
  have hs1 : ((((w.setCell ⟨rb, 0, none⟩ (.slice (some ⟨g1, A1, none⟩) ys.length d1)).setCell ⟨rb, 1, none⟩ (.slice (some ⟨g2, A2, none⟩) ys.length d2)).alloc (.cells #[.string ⟨#[]⟩, .int .i64 0, .int .i64 0] 23)).alloc (.cells #[.string x.key, .int .i64 x.at_, .int .i64 x.v] 23)).heap.size = w.heap.size + 1 + 1 := by simp
  have r1b : (w.setCell ⟨rb, 0, none⟩ (.slice (some ⟨g1, A1, none⟩) ys.length d1)).cell? ⟨rb, 1, none⟩ = some (.slice (some ⟨g2, o2, none⟩) (ys.length + 1) c2) := (hR.set_ 0 (.slice (some ⟨g1, A1, none⟩) ys.length d1)).cell 1
  have fRb : ∀ i, (w.setCell ⟨rb, 0, none⟩ (.slice (some ⟨g1, A1, none⟩) ys.length d1)).frozen? ⟨rb, i, none⟩ = false := (hR.set_ 0 (.slice (some ⟨g1, A1, none⟩) ys.length d1)).frozen
  go_enter Try.func16, Try.ntmps16
  go_upto_region 5 with fail
  go_cut [] from 10 to 36 (fun wx => wx = (((w.setCell ⟨rb, 0, none⟩ (.slice (some ⟨g1, A1, none⟩) ys.length d1)).alloc (.cells #[.string ⟨#[]⟩, .int .i64 0, .int .i64 0] 23)).alloc (.cells #[.string x.key, .int .i64 x.at_, .int .i64 x.v] 23)))
  case first =>
    go_wp2_with fail
    · obtain ⟨rfl, rfl⟩ := hA1 (by assumption)
      go_meet
      rfl
    · obtain ⟨rfl, rfl⟩ := HA1 (by assumption)
      go_meet
      rfl
  case rest =>
  obtain rfl := hcut
  go_upto_region 6 with fail
  go_cut [] from 10 to 44 (fun wx => wx = ((((w.setCell ⟨rb, 0, none⟩ (.slice (some ⟨g1, A1, none⟩) ys.length d1)).setCell ⟨rb, 1, none⟩ (.slice (some ⟨g2, A2, none⟩) ys.length d2)).alloc (.cells #[.string ⟨#[]⟩, .int .i64 0, .int .i64 0] 23)).alloc (.cells #[.string x.key, .int .i64 x.at_, .int .i64 x.v] 23)))
  case first =>
    go_wp2_with fail
    · obtain ⟨rfl, rfl⟩ := hA2 (by assumption)
      go_meet
      rfl
    · obtain ⟨rfl, rfl⟩ := HA2 (by assumption)
      go_meet
      rfl
  case rest =>
  obtain rfl := hcut
  clear r0 r1 r1b fR fRb e0 e1 e2 i0
  generalize hW1 : ((((w.setCell ⟨rb, 0, none⟩ (.slice (some ⟨g1, A1, none⟩) ys.length d1)).setCell ⟨rb, 1, none⟩ (.slice (some ⟨g2, A2, none⟩) ys.length d2)).alloc (.cells #[.string ⟨#[]⟩, .int .i64 0, .int .i64 0] 23)).alloc (.cells #[.string x.key, .int .i64 x.at_, .int .i64 x.v] 23)) = W1 at *
  clear hW1
  have xv : W1.cell? ⟨w.heap.size + 1, 2, none⟩ = some (.int .i64 x.v) := bX1.cell 2
  cases bz
  · go_upto_region 10 with (first | (go_at_call 12; refine (refHalf_any _ _ hx.1).mono ?_; rintro e w3 ⟨rfl, rfl⟩) | (go_at_call 20; refine (refLeaves_any _ _ _ _ W1 hL hx.2.1).mono ?_; rw [hz]; rintro e w2 ⟨rfl, hb2'⟩; have bX2 := bX1.below hb2' bX1.lt; have fX2 := bX2.frozen; have x0 : w2.cell? ⟨w.heap.size + 1, 0, none⟩ = some (.string x.key) := bX2.cell 0; have x1 : w2.cell? ⟨w.heap.size + 1, 1, none⟩ = some (.int .i64 x.at_) := bX2.cell 1; have x2 : w2.cell? ⟨w.heap.size + 1, 2, none⟩ = some (.int .i64 x.v) := bX2.cell 2))
    have bR2 := bR1.below hb2' bR1.lt
    have bT2 := bT1.below hb2' bT1.lt
    have y2 := hb2'.size
    have nTX : w.heap.size ≠ w.heap.size + 1 := by omega
    have nRX : rb ≠ w.heap.size + 1 := by omega
    have y22 : w.heap.size + 1 + 1 ≤ w2.heap.size := by omega
    have bR3 := bR2.far (p := ⟨w.heap.size + 1, 2, none⟩) nRX (.int .i64 (halfZ x.v))
    have bT3 := bT2.far (p := ⟨w.heap.size + 1, 2, none⟩) nTX (.int .i64 (halfZ x.v))
    have bX3 := bX2.set_ 2 (.int .i64 (halfZ x.v))
    have nEX : (Value.slice (some ⟨g1, A1, none⟩) ys.length d1).ownBlock ≠ some (w.heap.size + 1) := by simp [Value.ownBlock]; omega
    have nIX : (Value.slice (some ⟨g2, A2, none⟩) ys.length d2).ownBlock ≠ some (w.heap.size + 1) := by simp [Value.ownBlock]; omega
    have hE3 := (hE2.below hb2').setCell (p := ⟨w.heap.size + 1, 2, none⟩) nEX (.int .i64 (halfZ x.v))
    have hI3 := (hI2.below hb2').setCell (p := ⟨w.heap.size + 1, 2, none⟩) nIX (.int .i64 (halfZ x.v))
    have hk3 : ∀ i, i < w.heap.size → i ≠ rb → (w2.setCell ⟨w.heap.size + 1, 2, none⟩ (.int .i64 (halfZ x.v))).heap[i]? = w.heap[i]? := fun i hi hne => (Below.heap_setCell _ ⟨w.heap.size + 1, 2, none⟩ _ i (by simp; omega)).trans ((hb2'.block i (by omega)).trans (hk1 i hi hne))
    have hB3 : ∀ (B : Nat) (a : World), Below B a w → B ≤ rb → B ≤ base → B ≤ w.heap.size → Below B a (w2.setCell ⟨w.heap.size + 1, 2, none⟩ (.int .i64 (halfZ x.v))) := fun B a hBa b1 b2 b3 => ((hB1 B a hBa b1 b2 b3).trans (hb2'.mono (by omega))).setCell (p := ⟨w.heap.size + 1, 2, none⟩) (Nat.le_succ_of_le b3) _
    have hs3 : (w2.setCell ⟨w.heap.size + 1, 2, none⟩ (.int .i64 (halfZ x.v))).heap.size = w2.heap.size := by simp
    generalize hW3 : w2.setCell ⟨w.heap.size + 1, 2, none⟩ (.int .i64 (halfZ x.v)) = W3 at *
    have y3 : w.heap.size + 1 + 1 ≤ W3.heap.size := by omega
    clear hW3 x0 x1 x2 fX2 hE2 hI2 bR2 bT2 bX2
    have x0 : W3.cell? ⟨w.heap.size + 1, 0, none⟩ = some (.string x.key) := bX3.cell 0
    have x1 : W3.cell? ⟨w.heap.size + 1, 1, none⟩ = some (.int .i64 x.at_) := bX3.cell 1
    have x2 : W3.cell? ⟨w.heap.size + 1, 2, none⟩ = some (.int .i64 (halfZ x.v)) := bX3.cell 2
    have r0 : W3.cell? ⟨rb, 0, none⟩ = some (.slice (some ⟨g1, A1, none⟩) ys.length d1) := bR3.cell 0
    have fR3 := bR3.frozen
    have r0a := alloc_cell (a := ⟨rb, 0, none⟩) bR3.lt r0
    have hX := evt_new W3 (.string x.key) (.int .i64 x.at_) (.int .i64 (halfZ x.v)) 23
    have hEd : OwnO (W3.alloc (.cells #[.string x.key, .int .i64 x.at_, .int .i64 (halfZ x.v)] 23)).drew base 23 3 (.slice (some ⟨g1, A1, none⟩) ys.length d1) ys.length (evs ys) := hE3.alloc _
    have nRE : some rb ≠ (Value.slice (some ⟨g1, A1, none⟩) ys.length d1).ownBlock := by simp [Value.ownBlock]; omega
    have nTE : some w.heap.size ≠ (Value.slice (some ⟨g1, A1, none⟩) ys.length d1).ownBlock := by simp [Value.ownBlock]; omega
    have nRI : some rb ≠ (Value.slice (some ⟨g2, A2, none⟩) ys.length d2).ownBlock := by simp [Value.ownBlock]; omega
    have nTI : some w.heap.size ≠ (Value.slice (some ⟨g2, A2, none⟩) ys.length d2).ownBlock := by simp [Value.ownBlock]; omega
    have hbd : base ≤ (W3.alloc (.cells #[.string x.key, .int .i64 x.at_, .int .i64 (halfZ x.v)] 23)).drew.heap.size := by show base ≤ (W3.alloc (.cells #[.string x.key, .int .i64 x.at_, .int .i64 (halfZ x.v)] 23)).heap.size; simp; omega
    go_cut [] from 10 to 65 (fun wx => MidR rb base (.slice (some ⟨g1, o1, none⟩) (ys.length + 1) c1) (.slice (some ⟨g2, A2, none⟩) ys.length d2) ys.length (evs ys ++ [.string x.key, .int .i64 x.at_, .int .i64 (halfZ x.v)]) (nums ys) w.heap.size w wx)
    case first =>
      go_region_law (refine step_append_O _ rfl (.tmp 60) (.tmp 62) 29 rfl base 23 j0 _ 3 32 Try.underlying29 hj hjz0 hjz1 hjz2 rfl ?_ (.slice (some ⟨g1, A1, none⟩) ys.length d1) ys.length (evs ys) ?_ ?_ ⟨W3.heap.size, 0, none⟩ 1 1 [.string x.key, .int .i64 x.at_, .int .i64 (halfZ x.v)] ?_ ?_ ?_ ?_ ?_ ?_ ?_ ?_; (first | decide); (first | rfl | simp [Act.eval, Act.put]); (first | exact hEd); (first | rfl | simp [Act.eval, Act.put]); (first | rfl); (first | exact hX); (first | simp [Value.oneCell']); (first | (unfold maxLen; omega)); (first | omega); (first | exact hbd); intro v' w4 hown' hgrow hnb; obtain ⟨g3, o3, c3, rfl, _⟩ := hown'.succ; have bR4 := (bR3.alloc (.cells #[.string x.key, .int .i64 x.at_, .int .i64 (halfZ x.v)] 23)).drew.grown hgrow nRE; have q0 : w4.cell? ⟨rb, 0, none⟩ = some (.slice (some ⟨g1, A1, none⟩) ys.length d1) := bR4.cell 0; have q1 : w4.cell? ⟨rb, 1, none⟩ = some (.slice (some ⟨g2, A2, none⟩) ys.length d2) := bR4.cell 1; have fR4 := bR4.frozen; have hgs := hgrow.size)
      all_goals
        go_wp2_with fail
        go_meet
        have hgs' : W3.heap.size + 1 ≤ w4.heap.size := by simpa using hgrow.size
        have bT4 := (bT3.alloc (.cells #[.string x.key, .int .i64 x.at_, .int .i64 (halfZ x.v)] 23)).drew.grown hgrow nTE
        have hI4 : OwnO w4 base 3 1 (.slice (some ⟨g2, A2, none⟩) ys.length d2) ys.length (nums ys) := (hI3.alloc (.cells #[.string x.key, .int .i64 x.at_, .int .i64 (halfZ x.v)] 23)).same fun k hk => hgrow.block k (by have := ((hI3.alloc (.cells #[.string x.key, .int .i64 x.at_, .int .i64 (halfZ x.v)] 23)).lt k hk).2; exact this) (fun e => (hE3.ne_O hI3 (by decide) k hk) e.symm)
        have n3 : g3 ≠ rb := by
          rcases hnb with h | h
          · simp [Value.ownBlock] at h; omega
          · simp [Value.ownBlock, World.drew] at h; omega
        refine ⟨_, bR4.set_ 0 (.slice (some ⟨g3, o3, none⟩) (ys.length + 1) c3), hown'.setCell (p := ⟨rb, 0, none⟩) (by simpa [Value.ownBlock] using n3) _, hI4.setCell (p := ⟨rb, 0, none⟩) (by simpa [Value.ownBlock] using nI) _, bT4.far (p := ⟨rb, 0, none⟩) (show w.heap.size ≠ rb by omega) _, (fun i hi => ?_), (by simp; omega), (fun i hi hne hv => ?_), (fun B a hBa b1 b2 b3 => ?_)⟩
        · rcases hnb with h | h
          · exact .inl (h.symm.trans hi)
          · rw [h] at hi; simp [World.drew] at hi; exact .inr (by omega)
        · exact (Below.heap_setCell _ ⟨rb, 0, none⟩ _ i hne).trans ((hgrow.block i (by show i < (W3.alloc (.cells #[.string x.key, .int .i64 x.at_, .int .i64 (halfZ x.v)] 23)).heap.size; simp; omega) (fun e => hv e.symm)).trans ((Below.heap_alloc W3 _ i (by omega)).trans (hk3 i hi hne)))
        · exact ((below_drew' ((hB3 B a hBa b1 b2 b3).alloc (by omega) (.cells #[.string x.key, .int .i64 x.at_, .int .i64 (halfZ x.v)] 23))).grown hgrow (by show B ≤ (W3.alloc (.cells #[.string x.key, .int .i64 x.at_, .int .i64 (halfZ x.v)] 23)).heap.size; simp; omega) (fun g hg => by simp [Value.ownBlock] at hg; omega)).setCell (p := ⟨rb, 0, none⟩) b1 _
    case rest =>
    obtain ⟨ve5, bR5, hE5, hI5, bT5, hN5, hs5, hk5, hB5⟩ := hcut
    clear x0 x1 x2 r0 fR3 r0a
    have q1 : wc.cell? ⟨rb, 1, none⟩ = some (.slice (some ⟨g2, A2, none⟩) ys.length d2) := bR5.cell 1
    have fR5 := bR5.frozen
    have bR5a := bR5.alloc (.cells #[.int .i64 (x.n + 1)] 3)
    have q1a : (wc.alloc (.cells #[.int .i64 (x.n + 1)] 3)).cell? ⟨rb, 1, none⟩ = some (.slice (some ⟨g2, A2, none⟩) ys.length d2) := bR5a.cell 1
    have hI5a := hI5.alloc (.cells #[.int .i64 (x.n + 1)] 3)
    have hbd5 : base ≤ (wc.alloc (.cells #[.int .i64 (x.n + 1)] 3)).heap.size := by simp; omega
    go_wp2_with (at_builtin; go_loud (refine wpList_append_O _ rfl (.tmp 70) (.tmp 73) 34 rfl base 3 k0 _ 1 8 Try.underlying34 hk hkz0 hkz1 hkz2 rfl (by decide) (.slice (some ⟨g2, A2, none⟩) ys.length d2) ys.length (nums ys) rfl hI5a ⟨wc.heap.size, 0, none⟩ 1 1 [.int .i64 (x.n + 1)] rfl rfl (cell_one_new _ _ _) (by simp [Value.oneCell']) (by unfold maxLen; omega) (by omega) hbd5 ?_; intro v'' w6 hown6 hgrow6 hnb6; obtain ⟨g6, o6, c6, rfl, _⟩ := hown6.succ; have bR6 := bR5a.grown hgrow6 nRI; have bT6 := (bT5.alloc (.cells #[.int .i64 (x.n + 1)] 3)).grown hgrow6 nTI; have u1 : w6.cell? ⟨rb, 1, none⟩ = some (.slice (some ⟨g2, A2, none⟩) ys.length d2) := bR6.cell 1; have fR6 := bR6.frozen; have fT6 := bT6.frozen; have v0 : w6.cell? ⟨w.heap.size, 0, none⟩ = some (.string ⟨#[]⟩) := bT6.cell 0; have v1 : w6.cell? ⟨w.heap.size, 1, none⟩ = some (.int .i64 0) := bT6.cell 1; have v2 : w6.cell? ⟨w.heap.size, 2, none⟩ = some (.int .i64 0) := bT6.cell 2; have hgs6 := hgrow6.size))
    have hgs7 : wc.heap.size + 1 ≤ w6.heap.size := by simpa using hgrow6.size
    have n6 : g6 ≠ rb := by
      rcases hnb6 with h | h
      · simp [Value.ownBlock] at h; omega
      · simp [Value.ownBlock] at h; omega
    have nTR : w.heap.size ≠ rb := by omega
    have bR7 := bR6.set_ 1 (.slice (some ⟨g6, o6, none⟩) (ys.length + 1) c6)
    have bT7 := bT6.far (p := ⟨rb, 1, none⟩) nTR (.slice (some ⟨g6, o6, none⟩) (ys.length + 1) c6)
    have hE6 : OwnO w6 base 23 3 ve5 (ys.length + 1) (evs ys ++ [.string x.key, .int .i64 x.at_, .int .i64 (halfZ x.v)]) := (hE5.alloc (.cells #[.int .i64 (x.n + 1)] 3)).same fun k hk => hgrow6.block k ((hE5.alloc (.cells #[.int .i64 (x.n + 1)] 3)).lt k hk).2 (fun e => (hI5.ne_O hE5 (by decide) k hk) e.symm)
    have nRv : ve5.ownBlock ≠ some rb := hE5.ne_ bR5 (by decide)
    have hE7 := hE6.setCell (p := ⟨rb, 1, none⟩) nRv (.slice (some ⟨g6, o6, none⟩) (ys.length + 1) c6)
    have hI7 := hown6.setCell (p := ⟨rb, 1, none⟩) (by simpa [Value.ownBlock] using n6) (.slice (some ⟨g6, o6, none⟩) (ys.length + 1) c6)
    have hk7 : ∀ i, i < w.heap.size → i ≠ rb → (Value.slice (some ⟨g1, o1, none⟩) (ys.length + 1) c1).ownBlock ≠ some i → (Value.slice (some ⟨g2, o2, none⟩) (ys.length + 1) c2).ownBlock ≠ some i → (w6.setCell ⟨rb, 1, none⟩ (.slice (some ⟨g6, o6, none⟩) (ys.length + 1) c6)).heap[i]? = w.heap[i]? := fun i hi hne hv hv2 => (Below.heap_setCell _ ⟨rb, 1, none⟩ _ i hne).trans ((hgrow6.block i (by simp; omega) (fun e => hv2 e.symm)).trans ((Below.heap_alloc wc _ i (by omega)).trans (hk5 i hi hne hv)))
    have hB7 : ∀ (B : Nat) (a : World), Below B a w → B ≤ rb → B ≤ base → B ≤ w.heap.size → Below B a (w6.setCell ⟨rb, 1, none⟩ (.slice (some ⟨g6, o6, none⟩) (ys.length + 1) c6)) := fun B a hBa b1 b2 b3 => (((hB5 B a hBa b1 b2 b3).alloc (by omega) (.cells #[.int .i64 (x.n + 1)] 3)).grown hgrow6 (by simp; omega) (fun g hg => by simp [Value.ownBlock] at hg; omega)).setCell (p := ⟨rb, 1, none⟩) b1 _
    have hs7 : w.heap.size + 1 ≤ (w6.setCell ⟨rb, 1, none⟩ (.slice (some ⟨g6, o6, none⟩) (ys.length + 1) c6)).heap.size := by simp; omega
    have hN7 : ∀ i, (Value.slice (some ⟨g6, o6, none⟩) (ys.length + 1) c6).ownBlock = some i → (Value.slice (some ⟨g2, o2, none⟩) (ys.length + 1) c2).ownBlock = some i ∨ w.heap.size ≤ i := by
      intro i hi
      rcases hnb6 with h | h
      · exact .inl (h.symm.trans hi)
      · rw [h] at hi; simp at hi; exact .inr (by omega)
    generalize w6.setCell ⟨rb, 1, none⟩ (.slice (some ⟨g6, o6, none⟩) (ys.length + 1) c6) = W7 at *
    have bZ := ((bT7.set_ 0 (.string ⟨#[]⟩)).set_ 1 (.int .i64 0)).set_ 2 (.int .i64 0)
    have f0 : World.cell? _ ⟨w.heap.size, 0, none⟩ = some (.string ⟨#[]⟩) := bZ.cell 0
    have f1 : World.cell? _ ⟨w.heap.size, 1, none⟩ = some (.int .i64 0) := bZ.cell 1
    have f2 : World.cell? _ ⟨w.heap.size, 2, none⟩ = some (.int .i64 0) := bZ.cell 2
    have vT : ve5.ownBlock ≠ some w.heap.size := fun e => by
      rcases hN5 _ e with h | h
      · simp [Value.ownBlock] at h; omega
      · omega
    refine bodyPost_ret (v := .tuple #[.agg #[.string ⟨#[]⟩, .int .i64 0, .int .i64 0], .bool false]) (by simp [results, Try.results16, go_sem, f0, f1, f2]) rfl ?_
    unfold RStepPost
    rw [outR_stay hz, restQ_stay hz, show goesB (maxZ limit) (fuelZ fuel) (x :: ys) = false from hz]
    refine ⟨rfl, _, _, ((bR7.far (p := ⟨w.heap.size, 0, none⟩) (by simp; omega) _).far (p := ⟨w.heap.size, 1, none⟩) (by simp; omega) _).far (p := ⟨w.heap.size, 2, none⟩) (by simp; omega) _, ?_, ?_, (fun i hi => (hN5 i hi).imp id fun h => by omega), hN7, (by simp; omega), (fun i hi hne hv hv2 => ?_), (fun B a hBa b1 b2 b3 => ?_)⟩
    · rw [evs_append, List.length_append]
      exact ((hE7.setCell (p := ⟨w.heap.size, 0, none⟩) vT _).setCell (p := ⟨w.heap.size, 1, none⟩) vT _).setCell (p := ⟨w.heap.size, 2, none⟩) vT _
    · rw [nums_append, List.length_append]
      have vI := hI7.ne_ bT7 (by decide)
      exact ((hI7.setCell (p := ⟨w.heap.size, 0, none⟩) vI _).setCell (p := ⟨w.heap.size, 1, none⟩) vI _).setCell (p := ⟨w.heap.size, 2, none⟩) vI _
    · exact (Below.heap_setCell _ ⟨w.heap.size, 2, none⟩ _ i (by simp; omega)).trans ((Below.heap_setCell _ ⟨w.heap.size, 1, none⟩ _ i (by simp; omega)).trans ((Below.heap_setCell _ ⟨w.heap.size, 0, none⟩ _ i (by simp; omega)).trans (hk7 i hi hne hv hv2)))
    · exact (((hB7 B a hBa b1 b2 b3).setCell (p := ⟨w.heap.size, 0, none⟩) b3 _).setCell (p := ⟨w.heap.size, 1, none⟩) b3 _).setCell (p := ⟨w.heap.size, 2, none⟩) b3 _
  · go_wp2_with (go_at_call 20; refine (refLeaves_any _ _ _ _ W1 hL hx.2.1).mono ?_; rw [hz]; rintro e w2 ⟨rfl, hb2'⟩; have bR2 := bR1.below hb2' bR1.lt; have bT2 := bT1.below hb2' bT1.lt; have bX2 := bX1.below hb2' bX1.lt; have y2 := hb2'.size; have fT2 := bT2.frozen; have fX2 := bX2.frozen; have t0 : w2.cell? ⟨w.heap.size, 0, none⟩ = some (.string ⟨#[]⟩) := bT2.cell 0; have t1 : w2.cell? ⟨w.heap.size, 1, none⟩ = some (.int .i64 0) := bT2.cell 1; have t2 : w2.cell? ⟨w.heap.size, 2, none⟩ = some (.int .i64 0) := bT2.cell 2; have x0 : w2.cell? ⟨w.heap.size + 1, 0, none⟩ = some (.string x.key) := bX2.cell 0; have x1 : w2.cell? ⟨w.heap.size + 1, 1, none⟩ = some (.int .i64 x.at_) := bX2.cell 1; have x2 : w2.cell? ⟨w.heap.size + 1, 2, none⟩ = some (.int .i64 x.v) := bX2.cell 2)
    have bZ := ((bT2.set_ 0 (.string x.key)).set_ 1 (.int .i64 x.at_)).set_ 2 (.int .i64 x.v)
    have f0 : World.cell? _ ⟨w.heap.size, 0, none⟩ = some (.string x.key) := bZ.cell 0
    have f1 : World.cell? _ ⟨w.heap.size, 1, none⟩ = some (.int .i64 x.at_) := bZ.cell 1
    have f2 : World.cell? _ ⟨w.heap.size, 2, none⟩ = some (.int .i64 x.v) := bZ.cell 2
    refine bodyPost_ret (v := .tuple #[.agg #[.string x.key, .int .i64 x.at_, .int .i64 x.v], .bool true]) (by simp [results, Try.results16, go_sem, f0, f1, f2]) rfl ?_
    unfold RStepPost
    rw [outR_go hz, restQ_go hz, show goesB (maxZ limit) (fuelZ fuel) (x :: ys) = true from hz]
    refine ⟨rfl, _, _, ((bR2.far (p := ⟨w.heap.size, 0, none⟩) (by simp; omega) _).far (p := ⟨w.heap.size, 1, none⟩) (by simp; omega) _).far (p := ⟨w.heap.size, 2, none⟩) (by simp; omega) _, ?_, ?_, (fun i hi => .inl hi), (fun i hi => .inl hi), (by simp; omega), (fun i hi hne _ _ => ?_), (fun B a hBa b1 b2 b3 => ?_)⟩
    · exact (((hE2.below hb2').setCell (p := ⟨w.heap.size, 0, none⟩) (by simp [Value.ownBlock]; omega) _).setCell (p := ⟨w.heap.size, 1, none⟩) (by simp [Value.ownBlock]; omega) _).setCell (p := ⟨w.heap.size, 2, none⟩) (by simp [Value.ownBlock]; omega) _
    · exact (((hI2.below hb2').setCell (p := ⟨w.heap.size, 0, none⟩) (by simp [Value.ownBlock]; omega) _).setCell (p := ⟨w.heap.size, 1, none⟩) (by simp [Value.ownBlock]; omega) _).setCell (p := ⟨w.heap.size, 2, none⟩) (by simp [Value.ownBlock]; omega) _
    · exact (Below.heap_setCell _ ⟨w.heap.size, 2, none⟩ _ i (by simp; omega)).trans ((Below.heap_setCell _ ⟨w.heap.size, 1, none⟩ _ i (by simp; omega)).trans ((Below.heap_setCell _ ⟨w.heap.size, 0, none⟩ _ i (by simp; omega)).trans ((hb2'.block i (by omega)).trans (hk1 i hi hne))))
    · exact ((((hB1 B a hBa b1 b2 b3).trans (hb2'.mono (by omega))).setCell (p := ⟨w.heap.size, 0, none⟩) b3 _).setCell (p := ⟨w.heap.size, 1, none⟩) b3 _).setCell (p := ⟨w.heap.size, 2, none⟩) b3 _
end Go.Proofs.Ytplfimaopegpmaa
