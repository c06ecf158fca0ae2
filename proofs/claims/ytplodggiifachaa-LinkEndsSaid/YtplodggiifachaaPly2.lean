/- Walk of the play's lose. -/
import Derived.Test.YtplodggiifachaaPly1
import Derived.Deep.RegionHeld3
namespace Go.Proofs.Ytplodggiifachaa
open Go.RowKit
set_option linter.unusedVariables false
set_option linter.unusedSimpArgs false

theorem pks_take (l : List Pk) (k : Nat) : pks (l.take k) = (pks l).take (k * 3) := by
  induction l generalizing k with
  | nil => simp [pks]
  | cons a l ih =>
    cases k with
    | zero => simp [pks]
    | succ k => rw [List.take_succ_cons, pks_cons, pks_cons, ih, show (k + 1) * 3 = k * 3 + 1 + 1 + 1 from by omega]; rfl
theorem pks_drop (l : List Pk) (k : Nat) : pks (l.drop k) = (pks l).drop (k * 3) := by
  induction l generalizing k with
  | nil => simp [pks]
  | cons a l ih =>
    cases k with
    | zero => simp
    | succ k => rw [List.drop_succ_cons, pks_cons, ih, show (k + 1) * 3 = k * 3 + 1 + 1 + 1 from by omega]; rfl
theorem reads_takeP {w : World} {B n k : Nat} {A : Option Addr} {l : List Pk} (h : Reads w B 3 A n (pks l)) (hk : k ≤ n) : Reads w B 3 A k (pks (l.take k)) := by
  have hl : l.length = n := by have := h.1; rw [pks_length] at this; omega
  refine ⟨by rw [pks_length, List.length_take]; omega, fun h0 => ?_⟩
  obtain ⟨ad, e, hb, hc⟩ := h.2 (by omega)
  refine ⟨ad, e, hb, fun j u hu => hc j u ?_⟩
  rw [← hu, pks_take]
  have hj := (List.getElem?_eq_some_iff.1 hu).1
  rw [pks_length, List.length_take] at hj
  rw [List.getElem?_take_of_lt (by omega)]
theorem own_form {w : World} {b : Nat} {e : TypeId} {size n : Nat} {v : Value} {xs : List Value} (h : w.ownsRow b e size v n xs) : ∃ A c, v = .slice A n c := own_succ' h

set_option maxHeartbeats 2000000 in
theorem lose_any (pb : Nat) (p : Ply) (i : Nat) (w : World) (hin : i < p.way.length) (hl : p.way.length ≤ 100000) (hM : PlyM pb p w) :
    Calls Try.prog 31 #[.pointer (some ⟨pb, 0, none⟩), .int .i64 i] w (PlyPost pb { p with way := p.way.take i ++ p.way.drop (i + 1) } w) := by
  obtain ⟨A, c, vw, vp, vg, vn, hQ, hc, hR⟩ := hM
  obtain ⟨Aw, cw, rfl⟩ := own_succ' hR.ow
  have lq := hQ.lt
  have hwi : IntKind.i64.wrap ((i : Int) + 1) = (i : Int) + 1 := IntWalk.i64_in _ (by omega)
  have hin' : (i : Int) < (p.way.length : Int) := by omega
  have hcap := own_cap hR.ow
  have hb0 : (0 : Int) ≤ (i : Int) := by omega
  have hb1 : (i : Int) ≤ (cw : Int) := by omega
  have hb2 : i ≤ cw := by omega
  have hb3 : (0 : Int) ≤ (i : Int) + 1 := by omega
  have hb4 : (i : Int) + 1 ≤ (p.way.length : Int) := by omega
  have hb5 : i + 1 ≤ p.way.length := hin
  have hb6 : (p.way.length : Int) ≤ (cw : Int) := by omega
  have p6 : w.cell? ⟨pb, 6, none⟩ = some (.slice Aw p.way.length cw) := hQ.cell 6
  have fQ := hQ.frozen
  go_enter Try.func31, Try.ntmps31
  obtain ⟨i0, hi0, hz0, hz1, hz2⟩ := info_parts infoPk
  have hW1 : (w.alloc (.cells #[] 25)).drew.ownsRow w.heap.size 25 3 (.slice (some ⟨w.heap.size, 0, none⟩) 0 0) 0 [] := World.ownsRow_made w #[] 0 (Nat.le_refl _) (by unfold maxLen; omega) rfl
  have hr0 := Reads.of_own hR.ow
  have hr1 : Reads (w.alloc (.cells #[] 25)).drew w.heap.size 3 Aw i (pks (p.way.take i)) := (reads_takeP hr0 (Nat.le_of_lt hin)).alloc (Nat.le_refl _) _
  have hrc : Reads w w.heap.size 3 (if cw = i + 1 then Aw else Aw.map (·.add ((i + 1) * 3))) (p.way.length - (i + 1)) (pks (p.way.drop (i + 1))) := by rw [pks_drop]; exact hr0.cut hb5 hcap
  have hRa := (hR.alloc (.cells #[] 25)).drew
  have bQa := (hQ.alloc (.cells #[] 25)).drew
  have kQa : Below pb w (w.alloc (.cells #[] 25)).drew := below_drew ((Below.refl _ w).alloc (by omega) _)
  have hdz : (w.alloc (.cells #[] 25)).drew.heap.size = w.heap.size + 1 := by simp [World.drew]
  go_region_law (first
      | (refine step_append_any _ rfl (.tmp 5) (.tmp 11) 45 rfl w.heap.size 25 i0 _ 3 32 Try.underlying45 hi0 hz0 hz1 hz2 rfl ?_ (.slice (some ⟨w.heap.size, 0, none⟩) 0 0) 0 [] ?_ ?_ w.heap.size Aw i cw (pks (p.way.take i)) ?_ ?_ ?_ ?_ ?_ ?_ ?_; (first | decide); (first | rfl | simp [Act.eval, Act.put]); (first | exact hW1); (first | rfl | simp [Act.eval, Act.put]); (first | exact hr1); (first | exact pks_one _); (first | (unfold maxLen; omega)); (first | omega); (first | omega); intro v1 w2 hown1 hgrow1 hnb1; have hg1 : ∀ k, (Value.slice (some ⟨w.heap.size, 0, none⟩) 0 0).ownBlock = some k → w.heap.size ≤ k := (fun k hk => (hW1.lt k hk).1); have hRb := hRa.grow_new hR hgrow1 hg1; have bQb := bQa.grown hgrow1 (fun e => by have := hg1 _ e.symm; omega); have kQb := kQa.grown hgrow1 (by omega) (fun k hk => by have := hg1 k hk; omega); have p6b : w2.cell? ⟨pb, 6, none⟩ = some (.slice Aw p.way.length cw) := bQb.cell 6; have hgs1 : w.heap.size ≤ w2.heap.size := (by have := hgrow1.size; omega); have hr2 := ((hrc.alloc (Nat.le_refl _) (.cells #[] 25)).drew).grown hgrow1 (by omega) hg1)
      | (refine step_append_any _ rfl (.tmp 12) (.tmp 19) 45 rfl w.heap.size 25 i0 _ 3 32 Try.underlying45 hi0 hz0 hz1 hz2 rfl ?_ v1 (0 + i) ([] ++ pks (p.way.take i)) ?_ ?_ w.heap.size (if cw = i + 1 then Aw else Aw.map (·.add ((i + 1) * 3))) (p.way.length - (i + 1)) (cw - (i + 1)) (pks (p.way.drop (i + 1))) ?_ ?_ ?_ ?_ ?_ ?_ ?_; (first | decide); (first | rfl | simp [Act.eval, Act.put]); (first | exact hown1); (first | rfl | simp [Act.eval, Act.put]); (first | exact hr2); (first | exact pks_one _); (first | (unfold maxLen; omega)); (first | omega); (first | omega); intro v2 w3 hown2 hgrow2 hnb2; obtain ⟨A3, c3, rfl⟩ := own_form hown2; have hg2 : ∀ k, v1.ownBlock = some k → w.heap.size ≤ k := (fun k hk => (hown1.lt k hk).1); have hRc := hRb.grow_new hR hgrow2 hg2; have bQc := bQb.grown hgrow2 (fun e => by have := hg2 _ e.symm; omega); have kQc := kQb.grown hgrow2 (by omega) (fun k hk => by have := hg2 k hk; omega); have p6c : w3.cell? ⟨pb, 6, none⟩ = some (.slice Aw p.way.length cw) := bQc.cell 6; have fQc := bQc.frozen; have hgs2 := hgrow2.size))
  all_goals
    go_end0
    have hz : 0 + i + (p.way.length - (i + 1)) = i + (p.way.length - (i + 1)) := by omega
    rw [hz] at hown2
    have hlen : (p.way.take i ++ p.way.drop (i + 1)).length = i + (p.way.length - (i + 1)) := by rw [List.length_append, List.length_take, List.length_drop]; omega
    have ho : w3.ownsRow (pb + 1) 25 3 (.slice A3 (i + (p.way.length - (i + 1))) c3) (p.way.take i ++ p.way.drop (i + 1)).length (pks (p.way.take i ++ p.way.drop (i + 1))) := by
      rw [hlen, pks_append]
      exact own_mono (by simpa using hown2) (by omega)
    have hRd := hRc.new_way ho (fun hn ad ha e => (hR.new_ (hown2.lt _ e).1).2.2.2.2 ad ha hn rfl)
    exact ⟨rfl, ⟨A, c, _, vp, vg, vn, by simpa [plyC] using bQc.set_ 6 (.slice A3 (i + (p.way.length - (i + 1))) c3), hc, hRd.set 6 _⟩, kQc.setCell (p := ⟨pb, 6, none⟩) (Nat.le_refl _) _, by simp; omega⟩

end Go.Proofs.Ytplodggiifachaa
