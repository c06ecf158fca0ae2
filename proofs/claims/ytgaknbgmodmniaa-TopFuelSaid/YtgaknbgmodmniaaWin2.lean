/- Walk of slices.Reverse at a row of windows of the call's own. -/
import Derived.Test.YtgaknbgmodmniaaWin1
import Derived.BigRegion
import Derived.ChangeAlike
namespace Go.Proofs.Ytgaknbgmodmniaa
open Go.RowKit Go.Shelf
set_option linter.unusedVariables false
set_option linter.unusedSimpArgs false

/-- Block g holds the windows f 0, f 1, .. as its first n pairs of cells. -/
def RowW (w : World) (g cap n : Nat) (f : Nat → Int × Int) : Prop :=
  ∃ cur : Array Value, Blk w g 69 cur ∧ cur.size = cap * 2 ∧ n ≤ cap ∧ ∀ p, p < n → cur[p * 2]? = some (.int .i64 (f p).1) ∧ cur[p * 2 + 1]? = some (.int .i64 (f p).2)
theorem RowW.cell {w : World} {g cap n : Nat} {f : Nat → Int × Int} (h : RowW w g cap n f) {p : Nat} (hp : p < n) :
    w.cell? ⟨g, p * 2, none⟩ = some (.int .i64 (f p).1) ∧ w.cell? ⟨g, p * 2 + 1, none⟩ = some (.int .i64 (f p).2) := by
  obtain ⟨cur, hb, _, _, hc⟩ := h
  exact ⟨(hb.cell _).trans (hc p hp).1, (hb.cell _).trans (hc p hp).2⟩
theorem RowW.free {w : World} {g cap n : Nat} {f : Nat → Int × Int} (h : RowW w g cap n f) (o : Nat) : w.frozen? ⟨g, o, none⟩ = false := by
  obtain ⟨cur, hb, _⟩ := h
  exact hb.frozen _
theorem RowW.swap {w : World} {g cap n : Nat} {f : Nat → Int × Int} (h : RowW w g cap n f) {a b : Nat} (ha : a < n) (hb : b < n) (hne : a ≠ b) :
    RowW ((((w.setCell ⟨g, a * 2, none⟩ (.int .i64 (f b).1)).setCell ⟨g, a * 2 + 1, none⟩ (.int .i64 (f b).2)).setCell ⟨g, b * 2, none⟩ (.int .i64 (f a).1)).setCell ⟨g, b * 2 + 1, none⟩ (.int .i64 (f a).2)).drew g cap n
      (fun p => if p = a then f b else if p = b then f a else f p) := by
  obtain ⟨cur, hbl, hs, hn, hc⟩ := h
  refine ⟨_, ((((hbl.set_ _ _).set_ _ _).set_ _ _).set_ _ _).drew, by simp [hs], hn, fun p hp => ?_⟩
  obtain ⟨c1, c2⟩ := hc p hp
  simp only [Array.getElem?_setIfInBounds, Array.size_setIfInBounds, hs]
  by_cases e1 : p = a
  · subst e1
    constructor
    · rw [if_neg (by omega), if_neg (by omega), if_neg (by omega), if_pos rfl, if_pos (by omega)]; simp
    · rw [if_neg (by omega), if_neg (by omega), if_pos rfl, if_pos (by omega)]; simp
  · by_cases e2 : p = b
    · subst e2
      constructor
      · rw [if_neg (by omega), if_pos rfl, if_pos (by omega)]; simp [e1]
      · rw [if_pos rfl, if_pos (by omega)]; simp [e1]
    · constructor
      · rw [if_neg (by omega), if_neg (by omega), if_neg (by omega), if_neg (by omega), c1]; simp [e1, e2]
      · rw [if_neg (by omega), if_neg (by omega), if_neg (by omega), if_neg (by omega), c2]; simp [e1, e2]
theorem RowW.congr {w : World} {g cap n : Nat} {f f' : Nat → Int × Int} (h : RowW w g cap n f) (he : ∀ p, p < n → f' p = f p) : RowW w g cap n f' := by
  obtain ⟨cur, hb, hs, hn, hc⟩ := h
  exact ⟨cur, hb, hs, hn, fun p hp => by rw [he p hp]; exact hc p hp⟩

theorem winCells_at : ∀ (l : List (Int × Int)) (p : Nat), (winCells l)[p * 2]? = (l[p]?).map (fun x => Value.int .i64 x.1) ∧ (winCells l)[p * 2 + 1]? = (l[p]?).map (fun x => Value.int .i64 x.2)
  | [], p => by simp [winCells]
  | x :: l, 0 => by simp [winCells]
  | x :: l, p + 1 => by
    have ih := winCells_at l p
    have e : winCells (x :: l) = [.int .i64 x.1, .int .i64 x.2] ++ winCells l := rfl
    rw [e, show (p + 1) * 2 = p * 2 + 2 from by omega, show p * 2 + 2 + 1 = p * 2 + 1 + 2 from by omega]
    simpa using ih
theorem winCells_length (l : List (Int × Int)) : (winCells l).length = l.length * 2 := by
  induction l with
  | nil => rfl
  | cons x l ih =>
    have e : winCells (x :: l) = [.int .i64 x.1, .int .i64 x.2] ++ winCells l := rfl
    rw [e]
    simp [ih]; omega
theorem winCells_snoc (l : List (Int × Int)) (x : Int × Int) : winCells (l ++ [x]) = winCells l ++ [.int .i64 x.1, .int .i64 x.2] := by simp [winCells]

theorem get_some (l : List (Int × Int)) (p : Nat) (h : p < l.length) : l[p]? = some (l.getD p (0, 0)) := by rw [List.getD_eq_getElem?_getD, List.getElem?_eq_getElem h]; rfl

theorem RowW.of_own {w : World} {base g cap n : Nat} {l : List (Int × Int)} (h : w.ownsRow base 69 2 (.slice (some ⟨g, 0, none⟩) n cap) n (winCells l)) :
    RowW w g cap n (fun p => l.getD p (0, 0)) ∧ base ≤ g ∧ g < w.heap.size ∧ cap ≤ maxLen ∧ l.length = n := by
  obtain ⟨hlen, hh⟩ := h
  rw [winCells_length] at hlen
  have hl : l.length = n := by omega
  rcases hh with ⟨h0, _⟩ | ⟨g', cap', cur, hv, hg, hb, hnc, hm, hs, ht⟩
  · cases h0
  · injection hv with e1 e2 e3
    injection e1 with e1
    injection e1 with e1
    subst e1 e3
    have hblk : Blk w g 69 cur := hb
    refine ⟨⟨cur, hblk, hs, hnc, fun p hp => ?_⟩, hg, hblk.lt, hm, hl⟩
    have hx : l[p]? = some (l.getD p (0, 0)) := by
      rw [List.getElem?_eq_getElem (by omega)]; simp [List.getD, List.getElem?_eq_getElem (show p < l.length by omega)]
    have key : ∀ o, o < n * 2 → cur[o]? = (winCells l)[o]? := fun o ho => by
      rw [← ht, List.getElem?_take_of_lt ho, Array.getElem?_toList]
    obtain ⟨w1, w2⟩ := winCells_at l p
    rw [key _ (by omega), key _ (by omega), w1, w2, hx]
    exact ⟨rfl, rfl⟩
theorem RowW.own {w : World} {base g cap n : Nat} {f : Nat → Int × Int} {l : List (Int × Int)} (h : RowW w g cap n f) (hb : base ≤ g) (hm : cap ≤ maxLen) (hl : l.length = n) (hf : ∀ p, p < n → l[p]? = some (f p)) :
    w.ownsRow base 69 2 (.slice (some ⟨g, 0, none⟩) n cap) n (winCells l) := by
  obtain ⟨cur, hbl, hs, hn, hc⟩ := h
  refine ⟨by rw [winCells_length, hl], .inr ⟨g, cap, cur, rfl, hb, hbl, hn, hm, hs, ?_⟩⟩
  apply List.ext_getElem?
  intro o
  by_cases ho : o < n * 2
  · rw [List.getElem?_take_of_lt ho, Array.getElem?_toList]
    obtain ⟨w1, w2⟩ := winCells_at l (o / 2)
    have hp : o / 2 < n := by omega
    obtain ⟨c1, c2⟩ := hc _ hp
    rw [hf _ hp] at w1 w2
    rcases Nat.mod_two_eq_zero_or_one o with e | e
    · rw [show o / 2 * 2 = o from by omega] at w1 c1
      rw [w1, c1]; rfl
    · rw [show o / 2 * 2 + 1 = o from by omega] at w2 c2
      rw [w2, c2]; rfl
  · rw [List.getElem?_eq_none (by simp [Array.length_toList]; omega), List.getElem?_eq_none (by rw [winCells_length, hl]; omega)]

def revF (l : List (Int × Int)) (n a p : Nat) : Int × Int := if p < a ∨ n ≤ p + a then l.getD (n - 1 - p) (0, 0) else l.getD p (0, 0)

def RevPost (w : World) (g cap n : Nat) (l : List (Int × Int)) (e : Ending) (w' : World) : Prop := e = .returned (.tuple #[]) ∧ RowW w' g cap n (fun p => l.getD (n - 1 - p) (0, 0)) ∧ w.grownBy w' (some g)

set_option maxHeartbeats 2000000 in
theorem reverse_any (g n cap : Nat) (w : World) (l : List (Int × Int)) (hn : n ≤ 1000) (h : RowW w g cap n (fun p => l.getD p (0, 0))) :
    Calls Try.prog 38 #[.slice (some ⟨g, 0, none⟩) n cap] w (RevPost w g cap n l) := by
  have h0 : RowW w g cap n (revF l n 0) := h.congr fun p hp => by unfold revF; rw [if_neg (by omega)]
  clear h
  have hncap : n ≤ cap := by obtain ⟨_, _, _, h, _⟩ := h0; exact h
  go_enter Try.func38, Try.ntmps38
  go_wp2
  go_loopw [2, 3] (fun i j wr => ∃ a : Nat, i = .int .i64 a ∧ (∃ b : Int, j = .int .i64 b ∧ b + 1 + a = n) ∧ 2 * a ≤ n + 1 ∧ RowW wr g cap n (revF l n a) ∧ w.grownBy wr (some g)) (fun i _ _ => n - (intOf i).toNat)
  case atStart => exact ⟨0, rfl, ⟨_, rfl, by omega⟩, by omega, h0, World.grownBy.refl w _⟩
  case round =>
    obtain ⟨a, rfl, ⟨b, rfl, hb⟩, ha, hR, hg⟩ := hrel
    have HB := Lib.hid hb
    by_cases hab : (a : Int) < b
    · obtain ⟨b, rfl⟩ := Int.eq_ofNat_of_zero_le (show 0 ≤ b by omega)
      have hbn : b < n := by omega
      have hab' : a < b := by omega
      have hbb := Lib.hid hb
      clear hb HB
      obtain ⟨ca, ca'⟩ := hR.cell (show a < n by omega)
      obtain ⟨cb, cb'⟩ := hR.cell hbn
      have f1 := hR.free (a * 2)
      have f2 := hR.free (a * 2 + 1)
      have f3 := hR.free (b * 2)
      have f4 := hR.free (b * 2 + 1)
      have hS := hR.swap (show a < n by omega) hbn (by omega)
      generalize ha0 : revF l n a a = xa at *
      generalize hb0 : revF l n a b = xb at *
      obtain ⟨xa1, xa2⟩ := xa
      obtain ⟨xb1, xb2⟩ := xb
      have A0 := Lib.hid ha0
      have B0 := Lib.hid hb0
      clear ha0 hb0
      go_wp2
      go_region
      go_wp2
      go_roundw
      case rel =>
        have e := hbb.out
        refine ⟨a + 1, by go_num, ⟨_, rfl, by omega⟩, by omega, hS.congr fun p hp => ?_, ?_⟩
        · have ea := A0.out
          have eb := B0.out
          unfold revF at ea eb ⊢
          rw [if_neg (by omega)] at ea eb
          by_cases p1 : p = a
          · subst p1
            rw [if_pos (by omega), if_pos rfl, show n - 1 - p = b from by omega, eb]
          · by_cases p2 : p = b
            · subst p2
              rw [if_pos (by omega), if_neg (by omega), if_pos rfl, show n - 1 - p = a from by omega, ea]
            · rw [if_neg p1, if_neg p2]
              by_cases p3 : p < a ∨ n ≤ p + a
              · rw [if_pos (by omega), if_pos p3]
              · rw [if_neg (by omega), if_neg p3]
        · exact only_drew (only_setCell (only_setCell (only_setCell (only_setCell hg (.inl rfl) _) (.inl rfl) _) (.inl rfl) _) (.inl rfl) _)
      case measure => simp [intOf]; omega
    · clear hb
      go_wp2
      go_end0
      have hb := HB.out
      refine ⟨rfl, hR.congr fun p hp => ?_, hg⟩
      unfold revF
      by_cases p3 : p < a ∨ n ≤ p + a
      · rw [if_pos p3]
      · rw [if_neg p3, show n - 1 - p = p from by omega]
end Go.Proofs.Ytgaknbgmodmniaa
