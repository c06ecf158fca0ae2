/- The walk of TickJoins over any two slices of numbers of at most 1048576 elements each. -/
import Derived.Test.YtkcehgmkjkhobaaEnds
namespace Go.Proofs.Ytkcehgmkjkhobaa
open Go.RowKit
set_option linter.unusedVariables false

theorem infoInt64 : (Try.prog.info? 2).map (fun i => (i.zero, i.size, i.bytes)) = some (some (.int .i64 0), 1, 8) := by kernel_rfl

def fmin (o t : Int) : Int := if clampZ t < o then clampZ t else o
def fmax (o t : Int) : Int := if o < clampZ t then clampZ t else o
theorem fold_min : ∀ (l : List Int) (o : Int), o ≤ 1099511627776 → l.foldl fmin o = if l.foldl fmin 1099511627776 < o then l.foldl fmin 1099511627776 else o
  | [], o, h => by simp; omega
  | t :: l, o, h => by
    have b := clampZ_bd t
    have e1 := fold_min l (fmin o t) (by unfold fmin; split <;> omega)
    have e2 := fold_min l (fmin 1099511627776 t) (by unfold fmin; split <;> omega)
    show List.foldl fmin (fmin o t) l = if List.foldl fmin (fmin 1099511627776 t) l < o then List.foldl fmin (fmin 1099511627776 t) l else o
    rw [e1, e2]
    generalize l.foldl fmin 1099511627776 = L
    unfold fmin
    (repeat' split) <;> omega
theorem fold_max : ∀ (l : List Int) (o : Int), 0 ≤ o → l.foldl fmax o = if o < l.foldl fmax 0 then l.foldl fmax 0 else o
  | [], o, h => by simp; omega
  | t :: l, o, h => by
    have b := clampZ_bd t
    have e1 := fold_max l (fmax o t) (by unfold fmax; split <;> omega)
    have e2 := fold_max l (fmax 0 t) (by unfold fmax; split <;> omega)
    show List.foldl fmax (fmax o t) l = if o < List.foldl fmax (fmax 0 t) l then List.foldl fmax (fmax 0 t) l else o
    rw [e1, e2]
    generalize l.foldl fmax 0 = L
    unfold fmax
    (repeat' split) <;> omega
theorem firstZ_bd (l : List Int) : firstZ l ≤ 1099511627776 := by
  show l.foldl fmin 1099511627776 ≤ _
  have : ∀ (l : List Int) (o : Int), o ≤ 1099511627776 → l.foldl fmin o ≤ 1099511627776 := by
    intro l
    induction l with
    | nil => intro o h; exact h
    | cons t l ih => intro o h; exact ih _ (by unfold fmin; split <;> omega)
  exact this l _ (Int.le_refl _)
theorem lastZ_bd (l : List Int) : 0 ≤ lastZ l := by
  show 0 ≤ l.foldl fmax 0
  have : ∀ (l : List Int) (o : Int), 0 ≤ o → 0 ≤ l.foldl fmax o := by
    intro l
    induction l with
    | nil => intro o h; exact h
    | cons t l ih => intro o h; exact ih _ (by unfold fmax; split <;> omega)
  exact this l _ (Int.le_refl _)
theorem first_join (a b : List Int) : firstZ (a ++ b) = if firstZ b < firstZ a then firstZ b else firstZ a := by
  have h := firstZ_bd a
  show List.foldl fmin 1099511627776 (a ++ b) = _
  rw [List.foldl_append]
  exact fold_min b _ h
theorem last_join (a b : List Int) : lastZ (a ++ b) = if lastZ a < lastZ b then lastZ b else lastZ a := by
  have h := lastZ_bd a
  show List.foldl fmax 0 (a ++ b) = _
  rw [List.foldl_append]
  exact fold_max b _ h

theorem own_form {w : World} {base : Nat} {e : TypeId} {size : Nat} {v : Value} {n : Nat} {xs : List Value} (h : w.ownsRow base e size v n xs) : ∃ A c, v = .slice A n c := by
  rcases h.2 with ⟨rfl, rfl⟩ | ⟨g, cap, cur, rfl, _⟩
  · exact ⟨_, _, rfl⟩
  · exact ⟨_, _, rfl⟩

set_option maxHeartbeats 1000000 in
theorem walkJoins (A B : Option Addr) (n m c d : Nat) (xs ys : List Int) (w : World) (ha : Reads w w.heap.size 1 A n (xs.map (Value.int .i64))) (hb : Reads w w.heap.size 1 B m (ys.map (Value.int .i64))) (hn : n ≤ 1048576) (hm : m ≤ 1048576) :
    Calls Try.prog 9 #[.slice A n c, .slice B m d] w fun e w' => e = .returned (.bool true) ∧ Below w.heap.size w w' := by
  have h7 : clampZ 7 = 7 := by decide
  have g1 : (firstZ (xs ++ ys) == if firstZ ys < firstZ xs then firstZ ys else firstZ xs) = true := by rw [first_join]; simp
  have g2 : (lastZ (xs ++ ys) == if lastZ xs < lastZ ys then lastZ ys else lastZ xs) = true := by rw [last_join]; simp
  have G1 := Lib.hid g1
  have G2 := Lib.hid g2
  clear g1 g2
  obtain ⟨i0, hi0, hz0, hz1, hz2⟩ := info_parts infoInt64
  have x1 : ∀ u ∈ xs.map (Value.int .i64), u.oneCell' = true := by simp [Value.oneCell']
  have y1 : ∀ u ∈ ys.map (Value.int .i64), u.oneCell' = true := by simp [Value.oneCell']
  have ho : (w.alloc (.cells #[] 2)).ownsRow w.heap.size 2 1 (.slice (some ⟨w.heap.size, 0, none⟩) 0 0) 0 [] := World.ownsRow_made w #[] 0 (Nat.le_refl _) (by unfold maxLen; omega) rfl
  have hk0 : Below w.heap.size w (w.alloc (.cells #[] 2)) := (Below.refl _ _).alloc (Nat.le_refl _) _
  go_enter Try.func9, Try.ntmps9
  go_wp2_with (first
    | (at_builtin; refine wpList_append_any _ rfl (.tmp 6) (.tmp 7) _ rfl w.heap.size 2 i0 _ 1 8 Try.underlying26 hi0 hz0 hz1 hz2 rfl (by omega) (.slice (some ⟨w.heap.size, 0, none⟩) 0 0) 0 [] rfl ho w.heap.size A n c (xs.map (Value.int .i64)) rfl (ha.below hk0) x1 (by simp only [maxLen]; omega) (by omega) (by simp) ?_; intro v1 w1 hown1 hg1 hat1; have hk1 : Below w.heap.size w w1 := hk0.grown hg1 (by simp) (by simp [Value.ownBlock]))
    | (at_builtin; refine wpList_append_any _ rfl (.tmp 8) (.tmp 9) _ rfl w.heap.size 2 i0 _ 1 8 Try.underlying26 hi0 hz0 hz1 hz2 rfl (by omega) v1 (0 + n) ([] ++ xs.map (Value.int .i64)) rfl hown1 w.heap.size B m d (ys.map (Value.int .i64)) rfl (hb.below hk1) y1 (by simp only [maxLen]; omega) (by omega) hk1.size ?_; intro v2 w2 hown2 hg2 hat2; obtain ⟨A2, cc2, rfl⟩ := own_form hown2))
  have hk2 : Below w.heap.size w w2 := hk1.grown hg2 hk1.size (fun k hk => by
    rcases hat1 with e | e <;> rw [e] at hk <;> simp [Value.ownBlock] at hk
    · omega
    · rw [← hk]; simp)
  have r2 : Reads w2 w2.heap.size 1 A2 (n + m) ((xs ++ ys).map (Value.int .i64)) := by
    have := Reads.of_own hown2
    rw [List.map_append]
    simpa using this
  have ra : Reads w2 w2.heap.size 1 A n (xs.map (Value.int .i64)) := (ha.below hk2).more hk2.size
  have rb : Reads w2 w2.heap.size 1 B m (ys.map (Value.int .i64)) := (hb.below hk2).more hk2.size
  refine (first_any _ _ _ _ _ r2 (by omega)).mono ?_
  rintro e w3 ⟨rfl, rfl⟩
  go_wp2_with fail
  refine (first_any _ _ _ _ _ ra (by omega)).mono ?_
  rintro e w3 ⟨rfl, rfl⟩
  go_wp2_with fail
  refine (first_any _ _ _ _ _ rb (by omega)).mono ?_
  rintro e w3 ⟨rfl, rfl⟩
  have g1 := G1.out
  go_wp2_with fail
  all_goals
    refine (last_any _ _ _ _ _ r2 (by omega)).mono ?_
    rintro e w3 ⟨rfl, rfl⟩
    go_wp2_with fail
    refine (last_any _ _ _ _ _ ra (by omega)).mono ?_
    rintro e w3 ⟨rfl, rfl⟩
    go_wp2_with fail
    refine (last_any _ _ _ _ _ rb (by omega)).mono ?_
    rintro e w3 ⟨rfl, rfl⟩
    have g2 := G2.out
    go_wp2_with (go_at_call 10; refine (clamp_any _ _).mono ?_; rintro e w' ⟨rfl, rfl⟩)
    all_goals
      go_ret
      exact ⟨rfl, hk2⟩
end Go.Proofs.Ytkcehgmkjkhobaa
