/- slices.DeleteFunc at a row of windows, the predicate being 'closed at the mark'. -/
import Derived.Test.YtijmjndaieimaaaWin7
import Derived.Laws.IdiomCopy
namespace Go.Proofs.Ytijmjndaieimaaa
open Go.RowKit Go.Shelf
set_option linter.unusedVariables false
set_option linter.unusedSimpArgs false

theorem RowW.put {w : World} {g cap n : Nat} {f : Nat → Int × Int} (h : RowW w g cap n f) {i : Nat} (hi : i < n) (a b : Int) :
    RowW ((w.setCell ⟨g, i * 2, none⟩ (.int .i64 a)).setCell ⟨g, i * 2 + 1, none⟩ (.int .i64 b)) g cap n (fun p => if p = i then (a, b) else f p) := by
  obtain ⟨cur, hbl, hs, hn, hc⟩ := h
  refine ⟨_, ((hbl.set_ _ _).set_ _ _), by simp [hs], hn, fun p hp => ?_⟩
  obtain ⟨c1, c2⟩ := hc p hp
  simp only [Array.getElem?_setIfInBounds, Array.size_setIfInBounds, hs]
  by_cases e1 : p = i
  · subst e1
    constructor
    · rw [if_neg (by omega), if_pos rfl, if_pos (by omega)]; simp
    · rw [if_pos rfl, if_pos (by omega)]; simp
  · constructor
    · rw [if_neg (by omega), if_neg (by omega), c1]; simp [e1]
    · rw [if_neg (by omega), if_neg (by omega), c2]; simp [e1]
/-- The first i windows of a row whose other cells are set anew. -/
theorem RowW.cut {g cap n : Nat} {f : Nat → Int × Int} {i : Nat} (hi : i ≤ n) : ∀ (vs : List Value) (o : Nat) (w : World), i * 2 ≤ o → RowW w g cap n f → RowW w g cap i f → RowW (w.setCells g o vs) g cap i f
  | [], _, _, _, _, h => h
  | v :: r, o, w, ho, _, h => by
    rw [World.setCells]
    have h2 : RowW (w.setCell ⟨g, o, none⟩ v) g cap i f := by
      obtain ⟨cur, hbl, hs, hn, hc⟩ := h
      refine ⟨_, hbl.set_ _ _, by simp [hs], hn, fun p hp => ?_⟩
      obtain ⟨c1, c2⟩ := hc p hp
      simp only [Array.getElem?_setIfInBounds]
      rw [if_neg (by omega), if_neg (by omega)]
      exact ⟨c1, c2⟩
    exact RowW.cut (n := i) (Nat.le_refl _) r (o + 1) _ (by omega) h2 h2
theorem RowW.less {w : World} {g cap n : Nat} {f : Nat → Int × Int} (h : RowW w g cap n f) {i : Nat} (hi : i ≤ n) : RowW w g cap i f := by
  obtain ⟨cur, hbl, hs, hn, hc⟩ := h
  exact ⟨cur, hbl, hs, by omega, fun p hp => hc p (by omega)⟩
theorem below_setCells {B g : Nat} {a : World} (hg : B ≤ g) : ∀ (vs : List Value) (o : Nat) (w : World), Below B a w → Below B a (w.setCells g o vs)
  | [], _, _, h => h
  | v :: r, o, w, h => by
    rw [World.setCells]
    exact below_setCells hg r (o + 1) _ (h.setCell (p := ⟨g, o, none⟩) hg v)

theorem run_clear_win (w : World) (ty : TypeId) (g cap n : Nat) (f : Nat → Int × Int) (i : Nat) (hi : i < n) (hR : RowW w g cap n f) :
    (Builtin.clear_ #[25] ty #[.slice (some ⟨g, i * 2, none⟩) (n - i) (cap - i)]).run Try.prog w = .ok (.tuple #[]) (w.setCells g (i * 2) (List.replicate ((n - i) * 2) (.int .i64 0))) := by
  obtain ⟨i0, hI, hz0, hz1, hz2⟩ := info_parts infoWin
  have hv : (zeroValue 29).run Try.prog w = .ok (.agg #[.int .i64 0, .int .i64 0]) w := by
    simp [zeroValue, typeInfo, hI, hz0]
  have hz : (Builtin.zeroCells (Value.agg #[.int .i64 0, .int .i64 0]).cells (n - i)).toList = List.replicate ((n - i) * 2) (.int .i64 0) := by
    apply List.ext_getElem
    · simp [Builtin.zeroCells, Value.cells]
    · intro j h1 h2
      simp [Builtin.zeroCells, Value.cells]
      rcases Nat.mod_two_eq_zero_or_one j with e | e <;> simp [e]
  obtain ⟨cur, hbl, hs, hn, hc⟩ := hR
  have hst := run_storeCells_cells (P := Try.prog) g (i * 2) (List.replicate ((n - i) * 2) (.int .i64 0)) 0 w (fun j hj => by
      simp at hj
      rw [Nat.add_zero, hbl.cell, Array.getElem?_eq_getElem (by omega)]; rfl) (fun j hj => hbl.frozen _) (by intro v hv'; rw [List.eq_of_mem_replicate hv']; rfl)
  obtain ⟨m, hm⟩ : ∃ m, n - i = m + 1 := ⟨n - i - 1, by omega⟩
  rw [hm] at hst hz ⊢
  simp only [Nat.add_zero] at hst
  simp [Builtin.clear_, run_underlying Try.underlying25, hv, hz, hst]

def keep (mark : Int) (x : Int × Int) : Bool := decide (mark < x.2)
/-- What is behind DeleteFunc: the windows that are still open, in a row of the call's own. -/
def DelPost (base : Nat) (L : List (Int × Int)) (mark : Int) (w : World) (e : Ending) (w' : World) : Prop :=
  ∃ A c, e = .returned (.slice A (L.filter (keep mark)).length c) ∧ w'.ownsRow base 29 2 (.slice A (L.filter (keep mark)).length c) (L.filter (keep mark)).length (winCells (L.filter (keep mark))) ∧ Below base w w'

set_option maxHeartbeats 2000000 in
theorem indexFunc_none (A : Option Addr) (c : Nat) (v : Value) (w : World) :
    Calls Try.prog 27 #[.slice A 0 c, v] w fun e w' => e = .returned (.int .i64 (-1)) ∧ w = w' := by
  go_enter Try.func27, Try.ntmps27
  go_wp2
  go_loopw [8] (fun i wr => i = .int .i64 0 ∧ wr = w) (fun i _ => 0)
  case atStart => exact ⟨rfl, rfl⟩
  case round =>
    obtain ⟨rfl, rfl⟩ := hrel
    go_wp2
    go_ret
    exact ⟨rfl, rfl⟩

set_option maxHeartbeats 2000000 in
theorem deleteFunc_none (base : Nat) (A : Option Addr) (c : Nat) (v : Value) (mark : Int) (w : World) (ho : w.ownsRow base 29 2 (.slice A 0 c) 0 (winCells [])) :
    Calls Try.prog 21 #[.slice A 0 c, v] w (DelPost base [] mark w) := by
  go_enter Try.func21, Try.ntmps21
  go_wp2_with (go_at_call 27; refine (indexFunc_none _ _ _ _).mono ?_; rintro e w1 ⟨rfl, rfl⟩)
  go_ret
  exact ⟨_, _, rfl, ho, Below.refl _ _⟩

/-- The row while DeleteFunc goes: the kept ones of the first b windows, then what was there. -/
def mix (L : List (Int × Int)) (mark : Int) (b p : Nat) : Int × Int := if p < ((L.take b).filter (keep mark)).length then ((L.take b).filter (keep mark)).getD p (0, 0) else L.getD p (0, 0)
theorem filter_step {L : List (Int × Int)} {mark : Int} {b : Nat} (hb : b < L.length) : (L.take (b + 1)).filter (keep mark) = (L.take b).filter (keep mark) ++ (if mark < (L.getD b (0, 0)).2 then [L.getD b (0, 0)] else []) := by
  have e : L.getD b (0, 0) = L[b] := by rw [List.getD_eq_getElem?_getD, List.getElem?_eq_getElem hb]; rfl
  rw [e, List.take_succ_eq_append_getElem hb, List.filter_append]
  congr 1
  by_cases h : mark < (L[b]).2 <;> simp [keep, h]
theorem filter_all {L : List (Int × Int)} {mark : Int} {k : Nat} (hk : k ≤ L.length) (h : ∀ p, p < k → mark < (L.getD p (0, 0)).2) : (L.take k).filter (keep mark) = L.take k := by
  rw [List.filter_eq_self]
  intro x hx
  obtain ⟨p, hp, rfl⟩ := List.mem_iff_getElem.1 hx
  simp at hp
  have := h p (by omega)
  rw [List.getD_eq_getElem?_getD, List.getElem?_eq_getElem (by omega)] at this
  simpa [keep] using this
theorem mix_le {L : List (Int × Int)} {mark : Int} {b : Nat} : ((L.take b).filter (keep mark)).length ≤ b := by
  have h1 := List.length_filter_le (keep mark) (L.take b)
  have h2 : (L.take b).length ≤ b := by simp; omega
  omega

set_option maxHeartbeats 2000000 in
theorem deleteFunc_some (base g cap n m : Nat) (L : List (Int × Int)) (mark : Int) (w : World) (hR : RowW w g cap n (fun p => L.getD p (0, 0))) (hL : L.length = n) (hn : n ≤ 1000) (hm : w.cell? ⟨m, 0, none⟩ = some (.int .i64 mark)) (hmb : m < base) (hbg : base ≤ g) (hcm : cap ≤ maxLen) :
    Calls Try.prog 21 #[.slice (some ⟨g, 0, none⟩) n cap, .func (.func 22) #[] #[.pointer (some ⟨m, 0, none⟩)]] w (DelPost base L mark w) := by
  have hg := hR.lt
  have hncap : n ≤ cap := by obtain ⟨_, _, _, h, _⟩ := hR; exact h
  go_enter Try.func21, Try.ntmps21
  go_wp2_with fail
  refine (indexFunc_any g cap n m _ mark w hR hn hm (by omega)).mono ?_
  rintro e w1 ⟨hb, ⟨rfl, hall⟩ | ⟨k, rfl, hk, hkc, hall⟩⟩
  · go_wp2
    go_ret
    have hf : L.filter (keep mark) = L := by
      have := filter_all (L := L) (Nat.le_refl _) (fun p hp => hall p (by omega))
      rwa [List.take_length] at this
    unfold DelPost
    rw [hf, hL]
    exact ⟨_, _, rfl, (hR.below hb).own hbg hcm hL (fun p hp => get_some _ _ (by omega)), hb.mono (by omega)⟩
  · have hk1 : ((k : Int) == -1) = false := beq_eq_false_iff_ne.2 (by omega)
    go_wp2
    go_loopw [5, 6] (fun i j wr => ∃ a b : Nat, i = .int .i64 a ∧ j = .int .i64 b ∧ b ≤ n ∧ a < b ∧ a = ((L.take b).filter (keep mark)).length ∧ RowW wr g cap n (mix L mark b) ∧ Below base w wr ∧ w.heap.size ≤ wr.heap.size) (fun _ j _ => n - (intOf j).toNat)
    case atStart =>
      have hf : (L.take (k + 1)).filter (keep mark) = L.take k := by
        rw [filter_step (by omega), filter_all (by omega) hall, if_neg (by omega), List.append_nil]
      refine ⟨k, k + 1, rfl, by go_num, by omega, by omega, by rw [hf]; simp; omega, (hR.below hb).congr fun p hp => ?_, hb.mono (by omega), hb.size⟩
      unfold mix
      rw [hf]
      split
      · rename_i h
        simp at h
        rw [List.getD_eq_getElem?_getD, List.getElem?_take_of_lt (by omega), ← List.getD_eq_getElem?_getD]
      · rfl
    case round =>
      obtain ⟨a, b, rfl, rfl, hbn, hab, ha, hRr, hBr, hsr⟩ := hrel
      by_cases hlt : b < n
      · obtain ⟨c1, c2⟩ := hRr.cell hlt
        have hst := filter_step (mark := mark) (show b < L.length by omega)
        have hmx : mix L mark b b = L.getD b (0, 0) := by unfold mix; rw [if_neg (by omega)]
        rw [hmx] at c1 c2
        obtain ⟨⟨x1, x2⟩, hx⟩ : ∃ x, L.getD b (0, 0) = x := ⟨_, rfl⟩
        rw [hx] at c1 c2 hst
        have hmm := hBr.cell (p := ⟨m, 0, none⟩) hmb
        rw [hm] at hmm
        have hal : a < n := by omega
        have HA := Lib.hid ha
        have HX := Lib.hid hx
        have HS := Lib.hid hst
        clear ha hx hst hmx
        go_wp2_with fail
        have hmm2 := (World.cell?_alloc_lt wr (.cells #[.int .i64 x1, .int .i64 x2] 29) ⟨m, 0, none⟩ (by simp; omega)).trans hmm
        have bX := Blk.new wr 29 #[.int .i64 x1, .int .i64 x2]
        by_cases hc : x2 ≤ mark
        · have hcd : decide (x2 ≤ mark) = true := by simp [hc]
          refine (openFn_any x1 x2 mark m _ (by simp; omega) hmm2).mono ?_
          rw [hcd]
          rintro e w2 ⟨rfl, hb2⟩
          have hk2 : Below wr.heap.size wr w2 := next_below (by go_grown) hb2
          go_wp2
          go_roundw
          case rel =>
            have hf : (L.take (b + 1)).filter (keep mark) = (L.take b).filter (keep mark) := by rw [HS.out, if_neg (by omega), List.append_nil]
            refine ⟨a, b + 1, rfl, by go_num, by omega, by omega, by rw [hf]; exact HA.out, (hRr.below hk2).congr fun p hp => by unfold mix; rw [hf], hBr.trans (hk2.mono (by omega)), by have := hk2.size; omega⟩
          case measure => simp [intOf]; omega
        · have hcd : decide (x2 ≤ mark) = false := by simp; omega
          refine (openFn_any x1 x2 mark m _ (by simp; omega) hmm2).mono ?_
          rw [hcd]
          rintro e w2 ⟨rfl, hb2⟩
          have hk2 : Below wr.heap.size wr w2 := next_below (by go_grown) hb2
          have bX2 := bX.below hb2 (by simp)
          have bx1 := bX2.cell 0
          have bx2 := bX2.cell 1
          simp at bx1 bx2
          have hR2 := hRr.below hk2
          obtain ⟨d1, d2⟩ := hR2.cell hal
          have f1 := hR2.free (a * 2)
          have f2 := hR2.free (a * 2 + 1)
          have hP := hR2.put hal x1 x2
          go_wp2
          go_roundw
          case rel =>
            have hf : (L.take (b + 1)).filter (keep mark) = (L.take b).filter (keep mark) ++ [(x1, x2)] := by rw [HS.out, if_pos (by omega)]
            have ha := HA.out
            refine ⟨a + 1, b + 1, by go_num, by go_num, by omega, by omega, by rw [hf, List.length_append, ← ha]; rfl, hP.congr fun p hp => ?_, ((hBr.trans (hk2.mono (by omega))).setCell (p := ⟨g, a * 2, none⟩) hbg _).setCell (p := ⟨g, a * 2 + 1, none⟩) hbg _, by have := hk2.size; simp [World.setCell]; omega⟩
            unfold mix
            rw [hf, List.length_append, ← ha]
            by_cases p1 : p = a
            · subst p1
              rw [if_pos rfl, if_pos (by simp), List.getD_eq_getElem?_getD, List.getElem?_append_right (by omega), ← ha]
              simp
            · rw [if_neg p1]
              by_cases p2 : p < a
              · rw [if_pos p2, if_pos (by simp; omega), List.getD_eq_getElem?_getD, List.getElem?_append_left (by omega), ← List.getD_eq_getElem?_getD]
              · rw [if_neg p2, if_neg (by simp; omega)]
          case measure => simp [intOf]; omega
      · obtain rfl : b = n := by omega
        have hcl := fun ty => run_clear_win wr ty g cap b _ a (by omega) hRr
        have HA := Lib.hid ha
        clear ha
        go_wp2
        go_ret
        have ha := HA.out
        rw [← hL, List.take_length] at ha
        have hC := RowW.cut (i := a) (by omega) (List.replicate ((b - a) * 2) (.int .i64 0)) (a * 2) wr (Nat.le_refl _) hRr (hRr.less (by omega))
        unfold DelPost
        rw [← ha]
        refine ⟨_, _, rfl, hC.own hbg hcm ha.symm (fun p hp => ?_), below_setCells hbg _ _ _ hBr⟩
        unfold mix
        rw [← hL, List.take_length, if_pos (by omega)]
        exact get_some _ _ (by omega)

theorem deleteFunc_any (base n m : Nat) (A : Option Addr) (c : Nat) (L : List (Int × Int)) (mark : Int) (w : World) (ho : w.ownsRow base 29 2 (.slice A n c) n (winCells L)) (hL : L.length = n) (hn : n ≤ 1000) (hm : w.cell? ⟨m, 0, none⟩ = some (.int .i64 mark)) (hmb : m < base) :
    Calls Try.prog 21 #[.slice A n c, .func (.func 22) #[] #[.pointer (some ⟨m, 0, none⟩)]] w (DelPost base L mark w) := by
  rcases Nat.eq_zero_or_pos n with h0 | h0
  · subst h0
    obtain rfl : L = [] := List.eq_nil_of_length_eq_zero hL
    exact deleteFunc_none base A c _ mark w ho
  · obtain ⟨n', rfl⟩ : ∃ n', n = n' + 1 := ⟨n - 1, by omega⟩
    obtain ⟨g, cap, e⟩ := ownsRow_succ ho
    injection e with e1 e2 e3
    subst e1 e3
    obtain ⟨hR, hg, hlt, hcm, _⟩ := RowW.of_own ho
    exact deleteFunc_some base g _ _ m L mark w hR hL hn hm hmb hg hcm
end Go.Proofs.Ytijmjndaieimaaa
