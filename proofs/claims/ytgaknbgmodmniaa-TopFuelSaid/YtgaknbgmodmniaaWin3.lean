/- The walk of window.Of: the windows that hold a time, in order. -/
import Derived.Test.YtgaknbgmodmniaaWin2
namespace Go.Proofs.Ytgaknbgmodmniaa
open Go.RowKit Go.Shelf
set_option linter.unusedVariables false
set_option linter.unusedSimpArgs false
attribute [local go_sem] Oper.semAt_some

/-- The windows that hold a time, the first one first. -/
def ofL (size slide t : Int) : List (Int × Int) := if rightW size slide = true ∧ 0 ≤ t ∧ t < 1099511627776 then (backL size slide t).reverse else []
/-- What window.Of leaves: a row of the call's own that holds just these windows. -/
def OfPost (size slide t : Int) (w : World) (e : Ending) (w' : World) : Prop :=
  ∃ v, e = .returned v ∧ w'.ownsRow w.heap.size 69 2 v (ofL size slide t).length (winCells (ofL size slide t)) ∧ Below w.heap.size w w'

theorem winN_le {size slide t : Int} (h1 : 1 ≤ slide) (h2 : slide ≤ size) (h4 : size ≤ 16 * slide) : winN size slide t ≤ 17 := by
  have r0 := Int.emod_nonneg t (b := slide) (by omega)
  have : (size - 1 - t % slide) / slide ≤ 15 := by
    have : (size - 1 - t % slide) / slide < 16 := Int.ediv_lt_of_lt_mul (by omega) (by omega)
    omega
  unfold winN
  omega

theorem below_of_block {B : Nat} {W W' : World} (hos : W'.os = W.os) (ht : W'.tape = W.tape) (ho : W'.output = W.output) (hs : W.heap.size ≤ W'.heap.size) (h : ∀ k, k < B → W'.heap[k]? = W.heap[k]?) : Below B W W' := ⟨hos, ht, ho, hs, h⟩

set_option maxRecDepth 100000 in
set_option maxHeartbeats 2000000 in
theorem ofYes_in (n : Nat) (hn : 3 ≤ n) (size slide t : Int) (w : World) (hr : rightW size slide = true) (ht : 0 ≤ t) (ht' : t < 1099511627776) :
    CallsIn Fence.wide n Try.prog 28 #[.int .i64 size, .int .i64 slide, .int .i64 t] w (OfPost size slide t w) := by
  obtain ⟨h1, h2, h3, h4⟩ := rightW_iff.1 hr
  have hN := winN_le (t := t) h1 h2 h4
  obtain ⟨i0, hi, hz0, hz1, hz2⟩ := info_parts infoWin
  have hofl : ofL size slide t = (backL size slide t).reverse := by unfold ofL; rw [if_pos ⟨hr, ht, ht'⟩]
  have HO := Lib.hid hofl
  have HRt := Lib.hid hr
  clear hofl hr
  have dt1 : decide (t < 0) = false := by simp; omega
  have dt2 : decide (1099511627776 ≤ t) = false := by simp; omega
  have hn1 : 1 ≤ n := by omega
  refine callsIn_of_wp_marks Try.func28 rfl trivial ?_ rfl
  simp only [Try.ntmps28, List.size_toArray, List.length_cons, List.length_nil, Nat.reduceAdd, Nat.reduceSub, Array.replicate_succ, Array.replicate_zero, List.push_toArray, List.append_toArray, List.nil_append, List.cons_append]
  gi_wp2_with (first
    | (refine ⟨trivial, ?_⟩; gi_at_call 20; refine (callsIn_wide.2 (rightW_any _ _ _ (by omega) (by omega))).mono ?_; rw [HRt.out]; rintro e w' ⟨rfl, rfl⟩)
    | (refine ⟨trivial, ?_⟩; gi_at_call 37; refine (back_in _ _ _ _ _).mono ?_; rintro e w' ⟨rfl, rfl⟩))
  have bO := ((((Boxed.new w 66 (.slice none 0 0)).alloc (.cells #[.int .i64 size] 2)).alloc (.cells #[.int .i64 slide] 2)).alloc (.cells #[.int .i64 t] 2))
  have bZ := (((Boxed.new (w.alloc (.cells #[.slice none 0 0] 66)) 2 (.int .i64 size)).alloc (.cells #[.int .i64 slide] 2)).alloc (.cells #[.int .i64 t] 2))
  have bS := ((Boxed.new ((w.alloc (.cells #[.slice none 0 0] 66)).alloc (.cells #[.int .i64 size] 2)) 2 (.int .i64 slide)).alloc (.cells #[.int .i64 t] 2))
  have bT := Boxed.new (((w.alloc (.cells #[.slice none 0 0] 66)).alloc (.cells #[.int .i64 size] 2)).alloc (.cells #[.int .i64 slide] 2)) 2 (.int .i64 t)
  simp only [World.size_alloc] at bZ bS bT
  have hB0 : Below w.heap.size w ((((w.alloc (.cells #[.slice none 0 0] 66)).alloc (.cells #[.int .i64 size] 2)).alloc (.cells #[.int .i64 slide] 2)).alloc (.cells #[.int .i64 t] 2)) := by go_grown
  have hsz : ((((w.alloc (.cells #[.slice none 0 0] 66)).alloc (.cells #[.int .i64 size] 2)).alloc (.cells #[.int .i64 slide] 2)).alloc (.cells #[.int .i64 t] 2)).heap.size = w.heap.size + 4 := by simp
  obtain ⟨W0, hW0⟩ : ∃ W0, ((((w.alloc (.cells #[.slice none 0 0] 66)).alloc (.cells #[.int .i64 size] 2)).alloc (.cells #[.int .i64 slide] 2)).alloc (.cells #[.int .i64 t] 2)) = W0 := ⟨_, rfl⟩
  rw [hW0] at bO bZ bS bT hB0 hsz ⊢
  clear hW0
  refine wpIn_rangeFunc_ownH rfl hn1 (gf := 45) (lb := #[.pointer (some ⟨w.heap.size + 1 + 1 + 1, 0, none⟩), .pointer (some ⟨w.heap.size + 1 + 1, 0, none⟩), .pointer (some ⟨w.heap.size + 1, 0, none⟩)]) rfl trivial (enters_of Try.func45 (by kernel_rfl) rfl)
    (back1_stops (n - 1) (by omega) (w.heap.size + 1 + 1 + 1) (w.heap.size + 1 + 1) (w.heap.size + 1) size slide t h1 h2 h3 ht ht' W0 (by omega) (by omega) (by omega) bT.cell bS.cell bZ.cell) Keep3.trans (fun W l o o' hl _ _ _ => Keep3.put W l o' (by omega) (by omega) (by omega)) (Below.refl _ _) (fun _ => rfl)
    (fun pre W => (∃ v, Boxed W w.heap.size 66 v ∧ W.ownsRow (w.heap.size + 4) 69 2 v pre.length (winCells pre) ∧ True) ∧ (Below w.heap.size w W ∧ w.heap.size + 4 ≤ W.heap.size))
    (fun _ _ _ => False)
    (OwnFrom.and (Own.from (holdsRow_own (w.heap.size + 4) w.heap.size 66 69 2 (fun pre => pre.length) (fun pre => winCells pre) (fun _ _ => True)) _) (OwnFrom.and (ownFrom_below (Nat.le_refl _) (by omega)) (fun _ _ _ _ hs hg _ => Nat.le_trans hs hg.size)))
    (fun _ _ _ _ _ hs _ _ => hs)
    ⟨⟨_, bO, World.ownsRow_nil _ _ _ _, trivial⟩, hB0, by omega⟩
    (fun x a' W => ∃ Bx, Blk W Bx 69 #[.int .i64 x.1, .int .i64 x.2] ∧ a' = { tmps := #[.int .i64 size, .int .i64 slide, .int .i64 t, undef, undef, undef, .slice none 0 0, .pointer (some ⟨w.heap.size, 0, none⟩), .pointer (some ⟨Bx, 0, none⟩), .int .i64 size, .int .i64 slide, .bool true, .bool false, .bool false, .int .i64 t, .bool false, .bool false, .bool false, .int .i64 t, .bool false, .bool false, .int .i64 size, .int .i64 slide, .int .i64 t, .func (.func 45) #[] #[.pointer (some ⟨w.heap.size + 1 + 1 + 1, 0, none⟩), .pointer (some ⟨w.heap.size + 1 + 1, 0, none⟩), .pointer (some ⟨w.heap.size + 1, 0, none⟩)], winV x, undef, undef, undef, undef, undef, undef, undef], defers := [] })
    (fun x a' _ X Y row hs hg hr => by
      obtain ⟨Bx, h2, h3⟩ := hs
      refine ⟨Bx, (hg.block Bx h2.lt (fun e => ?_)).trans h2, h3⟩
      obtain ⟨_, o, ho, hc⟩ := hr Bx e.symm
      rw [show X.heap[Bx]? = _ from h2] at ho
      cases ho
      cases hc)
    ?assign ?body ?done ?stop
  case assign =>
    rintro l pre x W K ⟨⟨v, hv, hrow, _⟩, hB1, hs4⟩ hK
    simp only [winV] at hK ⊢
    gi_wp2
    exact hK _ _ ((KeepsOthers.alloc _ _).from _) (Keep3.of fun k hk => Below.heap_alloc _ _ _ (by omega)) ⟨⟨v, hv.alloc _, hrow.alloc _, trivial⟩, hB1.alloc hB1.size _, by simp; omega⟩ ⟨W.heap.size, Blk.new _ _ _, rfl⟩
  case body =>
    rintro l pre x a' W hl ⟨r, hr⟩ ⟨⟨v, hv, hrow, _⟩, hB1, hs4⟩ ⟨Bx, bX, rfl⟩ hlt
    have hc := hv.cell
    have x0 := bX.cell 0
    have x1 := bX.cell 1
    simp at x0 x1
    have hsW := hB1.size
    gi_wp2_with (gi_at_builtin; refine wpListIn_append_own _ rfl (.tmp 26) (.tmp 28) 66 rfl (w.heap.size + 4) 69 i0 _ 2 16 Try.underlying66 hi hz0 hz1 hz2 rfl (by decide) _ _ _ rfl (hrow.alloc _) ⟨W.heap.size, 0, none⟩ 1 1 [.int .i64 x.1, .int .i64 x.2] rfl rfl (cell_two_new _ _ _ _) (by simp [Value.oneCell']) (by unfold maxLen; omega) (by omega) (by simp; omega) ?_; intro v' w1 hown' hgrow _; obtain ⟨g', cap', rfl⟩ := ownsRow_succ hown'; obtain ⟨hv1, hv2, hr2, hk2, hb2, hz2'⟩ := box_appended hv (by decide) hrow hown' hgrow; have hc1 := hv1.cell; have hf1 := hv1.frozen)
    refine ⟨hk2.from _, Keep3.of fun k hk => hb2 k (by omega) (by omega) (by omega), ⟨⟨_, hv2, ?_, trivial⟩, ?_, by omega⟩⟩
    · rw [winCells_snoc]
      simpa using hr2
    · exact ((hB1.alloc hB1.size _).grown hgrow (by simp; omega) (fun k hk => by have := (hrow.lt k hk).1; omega)).setCell (p := ⟨w.heap.size, 0, none⟩) (Nat.le_refl _) _
  case done =>
    rintro D ys W hD rfl ⟨⟨v, hv, hrow, _⟩, hB1, hs4⟩ hK
    have hc := hv.cell
    have hNl := backL_length size slide t
    obtain ⟨N, hN1⟩ : ∃ N, (backL size slide t).length = N + 1 := ⟨(backL size slide t).length - 1, by rw [hNl]; unfold winN; omega⟩
    rw [hN1] at hrow
    obtain ⟨g, cap, rfl⟩ := ownsRow_succ hrow
    obtain ⟨hRow, hg4, hglt, hcm, _⟩ := RowW.of_own hrow
    have hNN := Lib.hid hN1
    have hN17 : N + 1 ≤ 17 := by omega
    clear hNl hN1
    gi_wp2_with fail
    refine ⟨trivial, ?_⟩
    refine (callsIn_wide.2 (reverse_any g (N + 1) cap W (backL size slide t) (by omega) hRow)).mono ?_
    rintro e w5 ⟨rfl, hR, hgr⟩
    have hv5 := hv.kept hgr (by simp; omega)
    have hK5 : w5.heap[D]? = some (.deferred (some [])) := (hgr.block D (Array.getElem?_eq_some_iff.1 hK).1 (fun e => by
      injection e with e
      subst e
      obtain ⟨cur, hb, _⟩ := hRow
      rw [show W.heap[D]? = _ from hb] at hK
      cases hK)).trans hK
    have hc5 := hv5.cell
    have hB5 : Below w.heap.size w w5 := hB1.grown hgr (by omega) (fun k hk => by injection hk with hk; omega)
    gi_wp2
    refine ⟨by simp, .inl ⟨_, _, rfl, run_takeDeferred hK5, ?_⟩⟩
    have hlen : (ofL size slide t).length = N + 1 := by rw [HO.out, List.length_reverse]; exact hNN.out
    have hown : w5.ownsRow (w.heap.size + 4) 69 2 (.slice (some ⟨g, 0, none⟩) (N + 1) cap) (N + 1) (winCells (ofL size slide t)) :=
      hR.own hg4 hcm hlen (fun p hp => by
        rw [HO.out, List.getElem?_reverse (by rw [hNN.out]; exact hp), hNN.out]
        exact get_some _ _ (by rw [hNN.out]; omega))
    exact ⟨_, results_tmp rfl _ _ _, _, rfl, by rw [hlen]; exact ownsRow_putObj (own_mono hown (by omega)) _ hK5 rfl, hB5.trans (belowK_b (w := w) (Nat.le_refl _) w5 D _ _ (by omega) hK5 rfl rfl)⟩
  case stop =>
    rintro D c pre W _ _ h _
    exact h.elim

theorem of_yes (size slide t : Int) (w : World) (hr : rightW size slide = true) (ht : 0 ≤ t) (ht' : t < 1099511627776) :
    Calls Try.prog 28 #[.int .i64 size, .int .i64 slide, .int .i64 t] w (OfPost size slide t w) := callsIn_wide.1 (ofYes_in 3 (Nat.le_refl _) size slide t w hr ht ht')
theorem ofL_no {size slide t : Int} (h : ¬ (rightW size slide = true ∧ 0 ≤ t ∧ t < 1099511627776)) : ofL size slide t = [] := by unfold ofL; rw [if_neg h]

set_option maxHeartbeats 1000000 in
theorem of_any (size slide t : Int) (w : World) (hs : -9223372036854775808 ≤ size ∧ size ≤ 9223372036854775807) (hl : -9223372036854775808 ≤ slide ∧ slide ≤ 9223372036854775807) :
    Calls Try.prog 28 #[.int .i64 size, .int .i64 slide, .int .i64 t] w (OfPost size slide t w) := by
  by_cases h : rightW size slide = true ∧ 0 ≤ t ∧ t < 1099511627776
  · exact of_yes size slide t w h.1 h.2.1 h.2.2
  · have ho := ofL_no h
    unfold OfPost
    rw [ho]
    clear ho
    cases hr : rightW size slide
    · go_enter Try.func28, Try.ntmps28
      go_wp2_with (go_at_call 20; refine (rightW_any _ _ _ hs hl).mono ?_; rw [hr]; rintro e w' ⟨rfl, rfl⟩)
      go_ret
      exact ⟨_, rfl, World.ownsRow_nil _ _ _ _, Below.refl _ _⟩
    · by_cases ht : 0 ≤ t
      · have ht' : 1099511627776 ≤ t := by
          rcases Int.lt_or_le t 1099511627776 with g | g
          · exact absurd ⟨hr, ht, g⟩ h
          · exact g
        clear h
        go_enter Try.func28, Try.ntmps28
        go_wp2_with (go_at_call 20; refine (rightW_any _ _ _ hs hl).mono ?_; rw [hr]; rintro e w' ⟨rfl, rfl⟩)
        go_ret
        exact ⟨_, rfl, World.ownsRow_nil _ _ _ _, Below.refl _ _⟩
      · clear h
        go_enter Try.func28, Try.ntmps28
        go_wp2_with (go_at_call 20; refine (rightW_any _ _ _ hs hl).mono ?_; rw [hr]; rintro e w' ⟨rfl, rfl⟩)
        go_ret
        exact ⟨_, rfl, World.ownsRow_nil _ _ _ _, Below.refl _ _⟩
end Go.Proofs.Ytgaknbgmodmniaa
