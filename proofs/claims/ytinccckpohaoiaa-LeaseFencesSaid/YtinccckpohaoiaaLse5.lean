/- Walk of the reference's with. -/
import Derived.Test.YtinccckpohaoiaaLse4
namespace Go.Proofs.Ytinccckpohaoiaa
open Go.RowKit
set_option linter.unusedVariables false
set_option linter.unusedSimpArgs false

theorem flat_one_new (w : World) (a b c : Value) (t : TypeId) : ∀ j u, [a, b, c][j]? = some u → (w.alloc (.cells #[a, b, c] t)).cell? ((⟨w.heap.size, 0, none⟩ : Addr).add j) = some u := by
  intro j u hu
  have hB := Blk.new w t #[a, b, c]
  match j, hu with
  | 0, hu => simpa [Addr.add] using (hB.cell 0).trans hu
  | 1, hu => simpa [Addr.add] using (hB.cell 1).trans hu
  | 2, hu => simpa [Addr.add] using (hB.cell 2).trans hu
theorem own_alloc {w : World} {base : Nat} {e : TypeId} {size n : Nat} {v : Value} {xs : List Value} (h : w.ownsRow base e size v n xs) (o : Obj) : (w.alloc o).ownsRow base e size v n xs := h.alloc o
theorem own_setCell {w : World} {base : Nat} {e : TypeId} {size : Nat} {v : Value} {n : Nat} {xs : List Value} (h : w.ownsRow base e size v n xs) {p : Addr} (u : Value) (hg : p.block < base) : (w.setCell p u).ownsRow base e size v n xs :=
  h.kept (only_setCell (World.grownBy.refl w (some p.block)) (.inl rfl) u) (.inr fun e => by have := (h.lt _ e).1; omega)

theorem own_succ {w : World} {base : Nat} {e : TypeId} {size n : Nat} {v : Value} {xs : List Value} (h : w.ownsRow base e size v (n + 1) xs) : ∃ g cap, v = .slice (some ⟨g, 0, none⟩) (n + 1) cap := by
  rcases h.2 with ⟨rfl, h0⟩ | ⟨g, cap, cur, rfl, _⟩
  · omega
  · exact ⟨_, _, rfl⟩
theorem take_set_succ {ls : List Lse} {G k : Nat} (x : Lse) (h : k < ls.length) : (ls.set G x).take (k + 1) = (ls.set G x).take k ++ [if k = G then x else ls[k]] := by
  rw [List.take_succ_eq_append_getElem (by simpa using h), List.getElem_set]
  congr 2
  by_cases e : k = G
  · subst e; simp
  · rw [if_neg (by omega), if_neg e]
/-- A block that is no part of the row behind an append to it. -/
theorem blk_far {w w1 : World} {base g n size : Nat} {t e : TypeId} {cs : Array Value} {v : Value} {xs : List Value} (h : Blk w g t cs) (ho : w.ownsRow base e size v n xs) (hg : g < base) (hgr : w.grownBy w1 v.ownBlock) : Blk w1 g t cs :=
  h.grown hgr fun e => by have := (ho.lt _ e.symm).1; omega

set_option maxHeartbeats 4000000 in
theorem refWith_any (A : Option Addr) (n c G : Nat) (last ow tk ti : Int) (ls : List Lse) (w : World) (hr : Reads w w.heap.size 3 A n (flat ls)) (hm : n ≤ 1000) (hG : G < n) :
    Calls Try.prog 36 #[.agg #[.slice A n c, .int .i64 last], .int .i64 G, .agg #[.int .i64 ow, .int .i64 tk, .int .i64 ti]] w (TabPost n (ls.set G ⟨ow, tk, ti⟩) last w) := by
  have hlen := lse_len hr
  have HL := Lib.hid hlen
  clear hlen
  obtain ⟨i0, hi, hz0, hz1, hz2⟩ := info_parts infoLse
  obtain ⟨M, hM⟩ : ∃ M, ls.set G ⟨ow, tk, ti⟩ = M := ⟨_, rfl⟩
  have HM := Lib.hid hM
  rw [hM]
  clear hM
  go_enter Try.func36, Try.ntmps36
  go_wp2_with fail
  go_loopw [16] (fun i wr => ∃ (k : Nat) (v : Value), k ≤ n ∧ i = .int .i64 k ∧ Below w.heap.size w wr ∧ w.heap.size + 4 ≤ wr.heap.size ∧ Blk wr w.heap.size 24 #[.slice A n c, .int .i64 last] ∧ Blk wr (w.heap.size + 1) 40 #[.int .i64 ow, .int .i64 tk, .int .i64 ti] ∧
    Blk wr (w.heap.size + 1 + 1) 24 #[.slice none 0 0, .int .i64 0] ∧ Blk wr (w.heap.size + 1 + 1 + 1) 24 #[v, .int .i64 last] ∧ wr.ownsRow (w.heap.size + 4) 40 3 v k (flat (M.take k))) (fun i _ => n - (intOf i).toNat)
  case atStart =>
    refine ⟨0, _, Nat.zero_le _, rfl, by go_grown, by simp, ((Blk.new w _ _).alloc _ |>.alloc _).alloc _, ?_, ?_, ?_, World.ownsRow_nil _ _ _ _⟩
    · simpa using ((Blk.new (w.alloc (.cells #[.slice A n c, .int .i64 last] 24)) 40 #[.int .i64 ow, .int .i64 tk, .int .i64 ti]).alloc (.cells #[.slice none 0 0, .int .i64 0] 24)).alloc (.cells #[.slice none 0 0, .int .i64 last] 24)
    · simpa using (Blk.new ((w.alloc (.cells #[.slice A n c, .int .i64 last] 24)).alloc (.cells #[.int .i64 ow, .int .i64 tk, .int .i64 ti] 40)) 24 #[.slice none 0 0, .int .i64 0]).alloc (.cells #[.slice none 0 0, .int .i64 last] 24)
    · simpa using Blk.new (((w.alloc (.cells #[.slice A n c, .int .i64 last] 24)).alloc (.cells #[.int .i64 ow, .int .i64 tk, .int .i64 ti] 40)).alloc (.cells #[.slice none 0 0, .int .i64 0] 24)) 24 #[.slice none 0 0, .int .i64 last]
  case round =>
    obtain ⟨k, v, hk, rfl, hB, hsz, bT, bX, bO, bQ, hown⟩ := hrel
    have lT := bT.lt
    have lX := bX.lt
    have lO := bO.lt
    have lQ := bQ.lt
    by_cases hlt : k < n
    · obtain ⟨ad, hl, rfl, hb, d0, d1, d2⟩ := lse_at (hr.below hB) hlt
      have HT := Lib.hid (take_set_succ (G := G) ⟨ow, tk, ti⟩ hl)
      have t0 := bT.cell 0
      have q0 := bQ.cell 0
      have q1 := bQ.cell 1
      have fQ := bQ.frozen
      have x0 : wr.cell? ⟨w.heap.size + 1, 0, none⟩ = some (.int .i64 ow) := bX.cell 0
      have x1 : wr.cell? ⟨w.heap.size + 1, 1, none⟩ = some (.int .i64 tk) := bX.cell 1
      have x2 : wr.cell? ⟨w.heap.size + 1, 2, none⟩ = some (.int .i64 ti) := bX.cell 2
      simp at t0 q0 q1
      generalize ls[k] = y at *
      obtain ⟨o1, t1, i1⟩ := y
      simp only at d0 d1 d2
      by_cases hkG : k = G
      · subst hkG
        go_wp2_with (at_builtin; go_loud (refine wpList_append_any _ rfl (.tmp 26) (.tmp 28) 22 rfl (w.heap.size + 4) 40 i0 _ 3 24 Try.underlying22 hi hz0 hz1 hz2 rfl (by decide) _ _ _ rfl (own_alloc (own_alloc hown _) _) (wr.heap.size + 2) (some ⟨wr.heap.size + 1, 0, none⟩) 1 1 [.int .i64 ow, .int .i64 tk, .int .i64 ti] rfl ⟨rfl, fun _ => ⟨_, rfl, by simp, by simpa using flat_one_new (wr.alloc (.cells #[.int .i64 ow, .int .i64 tk, .int .i64 ti] 40)) (.int .i64 ow) (.int .i64 tk) (.int .i64 ti) 40⟩⟩ (by simp [Value.oneCell']) (by unfold maxLen; omega) (by omega) (by simp; omega) ?_; intro v' w1 hown' hgrow hnew; obtain ⟨g3, cap3, rfl⟩ := own_succ hown'; have hgs := hgrow.size; have bQ1 := blk_far ((bQ.alloc _).alloc _) (own_alloc (own_alloc hown _) _) (by omega) hgrow; have q0' : w1.cell? ⟨w.heap.size + 1 + 1 + 1, 0, none⟩ = some v := bQ1.cell 0; have fQ1 := bQ1.frozen))
        simp at hgs
        go_roundw
        case rel =>
          have ho2 := own_alloc (own_alloc hown (.cells #[.int .i64 ow, .int .i64 tk, .int .i64 ti] 40)) (.cells #[.int .i64 ow, .int .i64 tk, .int .i64 ti] 40)
          refine ⟨k + 1, _, by omega, by go_num, ?_, by simp; omega, ?_, ?_, ?_, bQ1.set_ 0 _, ?_⟩
          · exact (((hB.alloc hB.size _).alloc (by have := hB.size; simp; omega) _).grown hgrow (by have := hB.size; simp; omega) (fun q hq => by have := (hown.lt q hq).1; omega)).setCell (p := ⟨w.heap.size + 1 + 1 + 1, 0, none⟩) (by simp; omega) _
          · exact (blk_far ((bT.alloc _).alloc _) ho2 (by omega) hgrow).far (show w.heap.size ≠ w.heap.size + 1 + 1 + 1 by omega) _
          · exact (blk_far ((bX.alloc _).alloc _) ho2 (by omega) hgrow).far (show w.heap.size + 1 ≠ w.heap.size + 1 + 1 + 1 by omega) _
          · exact (blk_far ((bO.alloc _).alloc _) ho2 (by omega) hgrow).far (show w.heap.size + 1 + 1 ≠ w.heap.size + 1 + 1 + 1 by omega) _
          · have e := HT.out
            rw [HM.out] at e
            rw [e, flat_append, if_pos rfl]
            exact own_setCell hown' _ (show w.heap.size + 1 + 1 + 1 < w.heap.size + 4 by omega)
        case measure => simp [intOf]; omega
      · have hkb : ((k : Int) == (G : Int)) = false := by simp; omega
        go_wp2_with (at_builtin; go_loud (refine wpList_append_any _ rfl (.tmp 26) (.tmp 28) 22 rfl (w.heap.size + 4) 40 i0 _ 3 24 Try.underlying22 hi hz0 hz1 hz2 rfl (by decide) _ _ _ rfl (own_alloc (own_alloc hown _) _) (wr.heap.size + 2) (some ⟨wr.heap.size + 1, 0, none⟩) 1 1 [.int .i64 o1, .int .i64 t1, .int .i64 i1] rfl ⟨rfl, fun _ => ⟨_, rfl, by simp, by simpa using flat_one_new (wr.alloc (.cells #[.int .i64 o1, .int .i64 t1, .int .i64 i1] 40)) (.int .i64 o1) (.int .i64 t1) (.int .i64 i1) 40⟩⟩ (by simp [Value.oneCell']) (by unfold maxLen; omega) (by omega) (by simp; omega) ?_; intro v' w1 hown' hgrow hnew; obtain ⟨g3, cap3, rfl⟩ := own_succ hown'; have hgs := hgrow.size; have bQ1 := blk_far ((bQ.alloc _).alloc _) (own_alloc (own_alloc hown _) _) (by omega) hgrow; have q0' : w1.cell? ⟨w.heap.size + 1 + 1 + 1, 0, none⟩ = some v := bQ1.cell 0; have fQ1 := bQ1.frozen))
        simp at hgs
        go_roundw
        case rel =>
          have ho2 := own_alloc (own_alloc hown (.cells #[.int .i64 o1, .int .i64 t1, .int .i64 i1] 40)) (.cells #[.int .i64 o1, .int .i64 t1, .int .i64 i1] 40)
          refine ⟨k + 1, _, by omega, by go_num, ?_, by simp; omega, ?_, ?_, ?_, bQ1.set_ 0 _, ?_⟩
          · exact (((hB.alloc hB.size _).alloc (by have := hB.size; simp; omega) _).grown hgrow (by have := hB.size; simp; omega) (fun q hq => by have := (hown.lt q hq).1; omega)).setCell (p := ⟨w.heap.size + 1 + 1 + 1, 0, none⟩) (by simp; omega) _
          · exact (blk_far ((bT.alloc _).alloc _) ho2 (by omega) hgrow).far (show w.heap.size ≠ w.heap.size + 1 + 1 + 1 by omega) _
          · exact (blk_far ((bX.alloc _).alloc _) ho2 (by omega) hgrow).far (show w.heap.size + 1 ≠ w.heap.size + 1 + 1 + 1 by omega) _
          · exact (blk_far ((bO.alloc _).alloc _) ho2 (by omega) hgrow).far (show w.heap.size + 1 + 1 ≠ w.heap.size + 1 + 1 + 1 by omega) _
          · have e := HT.out
            rw [HM.out] at e
            rw [e, flat_append, if_neg hkG]
            exact own_setCell hown' _ (show w.heap.size + 1 + 1 + 1 < w.heap.size + 4 by omega)
        case measure => simp [intOf]; omega
    · obtain rfl : k = n := by omega
      have hML : M.length = k := by rw [← HM.out, List.length_set]; exact HL.out
      rw [List.take_of_length_le (by omega)] at hown
      have HML := Lib.hid hML
      clear hML
      obtain ⟨Av, cv, rfl⟩ := own_form hown
      have q0 := bQ.cell 0
      have q1 := bQ.cell 1
      have o0 : wr.cell? ⟨w.heap.size + 1 + 1, 0, none⟩ = some (.slice none 0 0) := bO.cell 0
      have o1 : wr.cell? ⟨w.heap.size + 1 + 1, 1, none⟩ = some (.int .i64 0) := bO.cell 1
      have fO := bO.frozen
      simp at q0 q1
      go_wp2
      refine bodyPost_ret (v := .agg #[.slice Av k cv, .int .i64 last]) (by simp [results, Try.results36, go_sem, o0, o1, World.cell?_setCell_other]) rfl
        (tab_of (Reads.of_own (own_setCell (own_setCell hown _ (show w.heap.size + 1 + 1 < w.heap.size + 4 by omega)) _ (show w.heap.size + 1 + 1 < w.heap.size + 4 by omega))) (own_cap hown) (fun ad e => ?_) (by go_grown))
      subst e
      have := (hown.lt ad.block (by simp [Value.ownBlock])).1
      omega
end Go.Proofs.Ytinccckpohaoiaa
