/- Walks of Fenced and with, of package lease and of the reference. -/
import Derived.Test.YtinccckpohaoiaaLse3
namespace Go.Proofs.Ytinccckpohaoiaa
open Go.RowKit
set_option linter.unusedVariables false
set_option linter.unusedSimpArgs false

theorem hasT_elim {ls : List Lse} {last g : Int} (h : hasT ls last g = true) : ∃ G : Nat, g = G ∧ G < ls.length ∧ ls.length ≤ 32 ∧ rightT ls last = true := by
  unfold hasT at h
  simp only [Bool.and_eq_true, decide_eq_true_iff] at h
  obtain ⟨h1, h2, h3⟩ := h
  have := (rightT_iff.1 h1).1.2
  exact ⟨g.toNat, by omega, by omega, this, h1⟩
def lseAt (ls : List Lse) (g : Int) : Lse := ls.getD g.toNat ⟨0, 0, 0⟩
theorem lseAt_nat {ls : List Lse} {G : Nat} (h : G < ls.length) : lseAt ls (G : Int) = ls[G] := by
  unfold lseAt
  rw [Int.toNat_natCast, List.getD_eq_getElem?_getD, List.getElem?_eq_getElem h]
  rfl
/-- Is a token not the group's? -/
def fencedB (ls : List Lse) (last g tok : Int) : Bool := !hasT ls last g || ((lseAt ls g).own == 0 || (lseAt ls g).tok != tok)

set_option maxHeartbeats 1000000 in
theorem fenced_any (A : Option Addr) (n c : Nat) (last g tok : Int) (ls : List Lse) (w : World) (hr : Reads w w.heap.size 3 A n (flat ls)) (hm : n ≤ 9223372036854775807) (hc : n ≤ c) :
    Calls Try.prog 22 #[.agg #[.slice A n c, .int .i64 last], .int .i64 g, .int .i64 tok] w fun e w' => e = .returned (.bool (fencedB ls last g tok)) ∧ Below w.heap.size w w' := by
  have hlen := lse_len hr
  unfold fencedB
  obtain ⟨r, hR⟩ : ∃ r, hasT ls last g = r := ⟨_, rfl⟩
  have HR := Lib.hid hR
  rw [hR]
  cases r
  · clear hlen hR
    go_enter Try.func22, Try.ntmps22
    go_wp2_with (go_at_call 32; refine (has_any A n c last g ls _ (reads_alloc hr) hm hc).mono ?_; rw [HR.out]; rintro e w1 ⟨rfl, hb1⟩)
    go_ret
    exact ⟨ret_bool (by simp), next_below (by go_grown) hb1⟩
  · obtain ⟨G, rfl, hG, h32, _⟩ := hasT_elim hR
    rw [lseAt_nat hG]
    rw [hlen] at hG
    clear hlen hR
    generalize hx : ls[G] = x
    obtain ⟨ow, tk, ti⟩ := x
    cases h1 : (ow == 0)
    · go_enter Try.func22, Try.ntmps22
      go_wp2_with fail
      refine (has_any A n c last G ls _ (reads_alloc hr) hm hc).mono ?_
      rw [HR.out]
      rintro e w1 ⟨rfl, hb1⟩
      obtain ⟨c1, f1⟩ := bcell hb1
      have y1 := hb1.size
      simp at y1
      have z1 : w.heap.size < w1.heap.size := by omega
      obtain ⟨ad, hl, rfl, hbk, d0, d1, d2⟩ := lse_at (reads_below (reads_alloc hr) hb1) hG
      rw [hx] at d0 d1 d2
      clear hx
      simp only at d0 d1 d2
      go_wp2
      go_ret
      exact ⟨ret_bool (by simp), next_below (by go_grown) hb1⟩
    · go_enter Try.func22, Try.ntmps22
      go_wp2_with fail
      refine (has_any A n c last G ls _ (reads_alloc hr) hm hc).mono ?_
      rw [HR.out]
      rintro e w1 ⟨rfl, hb1⟩
      obtain ⟨c1, f1⟩ := bcell hb1
      have y1 := hb1.size
      simp at y1
      have z1 : w.heap.size < w1.heap.size := by omega
      obtain ⟨ad, hl, rfl, hbk, d0, d1, d2⟩ := lse_at (reads_below (reads_alloc hr) hb1) hG
      rw [hx] at d0 d1 d2
      clear hx
      simp only at d0 d1 d2
      go_wp2
      go_ret
      exact ⟨ret_bool (by simp), next_below (by go_grown) hb1⟩
set_option maxHeartbeats 1000000 in
theorem refFenced_any (A : Option Addr) (n c : Nat) (last g tok : Int) (ls : List Lse) (w : World) (hr : Reads w w.heap.size 3 A n (flat ls)) (hm : n ≤ 9223372036854775807) (hc : n ≤ c) :
    Calls Try.prog 26 #[.agg #[.slice A n c, .int .i64 last], .int .i64 g, .int .i64 tok] w fun e w' => e = .returned (.bool (fencedB ls last g tok)) ∧ Below w.heap.size w w' := by
  have hlen := lse_len hr
  unfold fencedB
  obtain ⟨r, hR⟩ : ∃ r, hasT ls last g = r := ⟨_, rfl⟩
  have HR := Lib.hid hR
  rw [hR]
  cases r
  · clear hlen hR
    go_enter Try.func26, Try.ntmps26
    go_wp2_with (go_at_call 35; refine (refHas_any A n c last g ls _ (reads_alloc hr) hm hc).mono ?_; rw [HR.out]; rintro e w1 ⟨rfl, hb1⟩)
    go_ret
    exact ⟨ret_bool (by simp), next_below (by go_grown) hb1⟩
  · obtain ⟨G, rfl, hG, h32, _⟩ := hasT_elim hR
    rw [lseAt_nat hG]
    rw [hlen] at hG
    clear hlen hR
    generalize hx : ls[G] = x
    obtain ⟨ow, tk, ti⟩ := x
    cases h1 : (ow == 0)
    · go_enter Try.func26, Try.ntmps26
      go_wp2_with fail
      refine (refHas_any A n c last G ls _ (reads_alloc hr) hm hc).mono ?_
      rw [HR.out]
      rintro e w1 ⟨rfl, hb1⟩
      obtain ⟨c1, f1⟩ := bcell hb1
      have y1 := hb1.size
      simp at y1
      have z1 : w.heap.size < w1.heap.size := by omega
      obtain ⟨ad, hl, rfl, hbk, d0, d1, d2⟩ := lse_at (reads_below (reads_alloc hr) hb1) hG
      rw [hx] at d0 d1 d2
      clear hx
      simp only at d0 d1 d2
      have k1 : Below w.heap.size w w1 := next_below (by go_grown) hb1
      go_wp2
      go_ret
      exact ⟨ret_bool (by simp), k1.alloc k1.size _⟩
    · go_enter Try.func26, Try.ntmps26
      go_wp2_with fail
      refine (refHas_any A n c last G ls _ (reads_alloc hr) hm hc).mono ?_
      rw [HR.out]
      rintro e w1 ⟨rfl, hb1⟩
      obtain ⟨c1, f1⟩ := bcell hb1
      have y1 := hb1.size
      simp at y1
      have z1 : w.heap.size < w1.heap.size := by omega
      obtain ⟨ad, hl, rfl, hbk, d0, d1, d2⟩ := lse_at (reads_below (reads_alloc hr) hb1) hG
      rw [hx] at d0 d1 d2
      clear hx
      simp only at d0 d1 d2
      have k1 : Below w.heap.size w w1 := next_below (by go_grown) hb1
      go_wp2
      go_ret
      exact ⟨ret_bool (by simp), k1.alloc k1.size _⟩

/-- A table of n leases that is returned in memory of its own. -/
def TabPost (n : Nat) (ls : List Lse) (last : Int) (w : World) (e : Ending) (w' : World) : Prop :=
  ∃ A c, e = .returned (.agg #[.slice A n c, .int .i64 last]) ∧ Reads w' w'.heap.size 3 A n (flat ls) ∧ n ≤ c ∧ (∀ ad, A = some ad → w.heap.size ≤ ad.block) ∧ Below w.heap.size w w'

theorem tab_of {w w' : World} {A : Option Addr} {n c : Nat} {last : Int} {ls : List Lse} (hr : Reads w' w'.heap.size 3 A n (flat ls)) (hc : n ≤ c) (hA : ∀ ad, A = some ad → w.heap.size ≤ ad.block) (hB : Below w.heap.size w w') :
    TabPost n ls last w (.returned (.agg #[.slice A n c, .int .i64 last])) w' := ⟨A, c, rfl, hr, hc, hA, hB⟩

theorem set3_get (xs : List Value) (p : Nat) (a b c : Value) (j : Nat) : (((xs.set p a).set (p + 1) b).set (p + 2) c)[j]? = if j < xs.length then (if j = p then some a else if j = p + 1 then some b else if j = p + 2 then some c else xs[j]?) else none := by
  simp only [List.getElem?_set, List.length_set]
  by_cases h : j < xs.length
  · rw [if_pos h]
    by_cases h0 : j = p
    · subst h0
      rw [if_neg (by omega), if_neg (by omega)]; simp [h]
    · by_cases h1 : j = p + 1
      · subst h1
        rw [if_neg (by omega)]; simp [h]
      · by_cases h2 : j = p + 2
        · subst h2; simp [h]
        · rw [if_neg (by omega), if_neg (by omega), if_neg (by omega), if_neg h0, if_neg h1, if_neg h2]
  · rw [if_neg h]
    (repeat' split) <;> first | rfl | omega | (apply List.getElem?_eq_none; omega)
theorem flat_set : ∀ (ls : List Lse) (G : Nat) (l : Lse), flat (ls.set G l) = (((flat ls).set (G * 3) (.int .i64 l.own)).set (G * 3 + 1) (.int .i64 l.tok)).set (G * 3 + 2) (.int .i64 l.til)
  | [], G, l => by simp [flat]
  | x :: ls, 0, l => by simp [flat_cons]
  | x :: ls, G + 1, l => by
    rw [List.set_cons_succ, flat_cons, flat_cons, flat_set ls G l, show (G + 1) * 3 = G * 3 + 1 + 1 + 1 from by omega]
    simp only [List.set_cons_succ, show G * 3 + 1 + 1 + 1 + 1 = (G * 3 + 1) + 1 + 1 + 1 from by omega, show G * 3 + 1 + 1 + 1 + 2 = (G * 3 + 2) + 1 + 1 + 1 from by omega]
theorem reads_set3 {w : World} {B n g : Nat} {ls : List Lse} {G : Nat} (l : Lse) (h : Reads w B 3 (some ⟨g, 0, none⟩) n (flat ls)) (hG : G < n) :
    Reads (((w.setCell ⟨g, G * 3, none⟩ (.int .i64 l.own)).setCell ⟨g, G * 3 + 1, none⟩ (.int .i64 l.tok)).setCell ⟨g, G * 3 + 2, none⟩ (.int .i64 l.til)) B 3 (some ⟨g, 0, none⟩) n (flat (ls.set G l)) := by
  have hlen := lse_len h
  obtain ⟨h1, h2⟩ := h
  refine ⟨by rw [flat_length, List.length_set, hlen], fun h0 => ?_⟩
  obtain ⟨ad, e, hb, hc⟩ := h2 h0
  obtain rfl := Option.some.inj e
  have had : ∀ j, (⟨g, 0, none⟩ : Addr).add j = ⟨g, j, none⟩ := fun j => by
    unfold Addr.add
    split
    · subst_vars; rfl
    · simp
  simp only [had] at hc
  have fl := flat_length ls
  have ex : ∀ j, j < n * 3 → ∃ v, w.cell? ⟨g, j, none⟩ = some v := fun j hj => ⟨_, hc j _ (List.getElem?_eq_getElem (by omega))⟩
  obtain ⟨v0, e0⟩ := ex (G * 3) (by omega)
  obtain ⟨v1, e1⟩ := ex (G * 3 + 1) (by omega)
  obtain ⟨v2, e2⟩ := ex (G * 3 + 2) (by omega)
  refine ⟨_, rfl, hb, fun j u hu => ?_⟩
  rw [had]
  rw [flat_set, set3_get] at hu
  have ne : ∀ a b : Nat, a ≠ b → (⟨g, a, none⟩ : Addr) ≠ ⟨g, b, none⟩ := fun a b hab e => hab (by injection e)
  split at hu
  · rename_i hj
    by_cases j0 : j = G * 3
    · subst j0
      rw [if_pos rfl] at hu
      injection hu with hu
      subst hu
      rw [World.cell?_setCell_other _ _ _ _ (ne _ _ (by omega)), World.cell?_setCell_other _ _ _ _ (ne _ _ (by omega))]
      exact World.cell?_setCell_same _ _ _ e0
    · by_cases j1 : j = G * 3 + 1
      · subst j1
        rw [if_neg j0, if_pos rfl] at hu
        injection hu with hu
        subst hu
        rw [World.cell?_setCell_other _ _ _ _ (ne _ _ (by omega))]
        exact World.cell?_setCell_same _ _ _ (by rw [World.cell?_setCell_other _ _ _ _ (ne _ _ (by omega))]; exact e1)
      · by_cases j2 : j = G * 3 + 2
        · subst j2
          rw [if_neg j0, if_neg j1, if_pos rfl] at hu
          injection hu with hu
          subst hu
          exact World.cell?_setCell_same _ _ _ (by rw [World.cell?_setCell_other _ _ _ _ (ne _ _ (by omega)), World.cell?_setCell_other _ _ _ _ (ne _ _ (by omega))]; exact e2)
        · rw [if_neg j0, if_neg j1, if_neg j2] at hu
          rw [World.cell?_setCell_other _ _ _ _ (ne _ _ (by omega)), World.cell?_setCell_other _ _ _ _ (ne _ _ (by omega)), World.cell?_setCell_other _ _ _ _ (ne _ _ (by omega))]
          exact hc j u hu
  · cases hu

theorem reads_far {w : World} {B size n : Nat} {a q : Addr} {xs : List Value} (h : Reads w B size (some a) n xs) (hq : q.block ≠ a.block) (u : Value) : Reads (w.setCell q u) B size (some a) n xs :=
  ⟨h.1, fun hn => by
    obtain ⟨ad, e, hb, hc⟩ := h.2 hn
    obtain rfl := Option.some.inj e
    exact ⟨_, rfl, hb, fun j v hv => (World.cell?_setCell_other _ _ _ _ (fun e => hq (by rw [e, block_of_add]))).trans (hc j v hv)⟩⟩

set_option maxHeartbeats 2000000 in
theorem with_any (A : Option Addr) (n c G : Nat) (last ow tk ti : Int) (ls : List Lse) (w : World) (hr : Reads w w.heap.size 3 A n (flat ls)) (hm : n ≤ 1000) (hG : G < n) :
    Calls Try.prog 33 #[.agg #[.slice A n c, .int .i64 last], .int .i64 G, .agg #[.int .i64 ow, .int .i64 tk, .int .i64 ti]] w (TabPost n (ls.set G ⟨ow, tk, ti⟩) last w) := by
  have hlen := lse_len hr
  have HL := Lib.hid hlen
  go_enter Try.func33, Try.ntmps33
  go_wp2_with fail
  refine (clone_any A n c ls _ (reads_alloc (reads_alloc (reads_alloc hr))) hm).mono ?_
  rintro e w1 ⟨A1, c1', rfl, ho, hb1⟩
  rw [hlen] at ho ⊢
  clear hlen
  obtain ⟨g, cap, cur, e1, hg, hcap, bR⟩ := own_pos ho (by omega)
  injection e1 with e1 _ e2
  subst e1 e2
  have k1 : Below w.heap.size w w1 := next_below (by go_grown) hb1
  have y1 := hb1.size
  simp at y1 hg
  have bT : Blk w1 w.heap.size 24 #[.slice A n c, .int .i64 last] := (((Blk.new w _ _).alloc _).alloc _).below hb1 (by simp; omega)
  have bL : Blk w1 (w.heap.size + 1) 40 #[.int .i64 ow, .int .i64 tk, .int .i64 ti] := ((by simpa using (Blk.new (w.alloc (.cells #[.slice A n c, .int .i64 last] 24)) 40 #[.int .i64 ow, .int .i64 tk, .int .i64 ti]).alloc _ : Blk _ (w.heap.size + 1) _ _)).below hb1 (by simp)
  have bO : Blk w1 (w.heap.size + 1 + 1) 24 #[.slice none 0 0, .int .i64 0] := ((by simpa using (Blk.new ((w.alloc (.cells #[.slice A n c, .int .i64 last] 24)).alloc (.cells #[.int .i64 ow, .int .i64 tk, .int .i64 ti] 40)) 24 #[.slice none 0 0, .int .i64 0]) : Blk _ (w.heap.size + 1 + 1) _ _)).below hb1 (by simp)
  have rd := Reads.of_own ho
  have hgl := bR.lt
  have cR := fun (i : Nat) (hi : i < 3) => (lse_at rd hG)
  obtain ⟨ad, hl, ea, _, d0, d1, d2⟩ := lse_at rd hG
  obtain rfl := Option.some.inj ea
  have fG := bR.frozen
  clear ea cR ho hb1 bR
  have hbk : ∀ i, ((⟨g, 0, none⟩ : Addr).add i) = ⟨g, i, none⟩ := fun i => by
    unfold Addr.add
    split
    · subst_vars; rfl
    · simp
  rw [hbk] at d0 d1 d2
  clear hbk
  simp only at d0 d1 d2
  have e0 : w1.cell? ⟨w.heap.size, 0, none⟩ = some (.slice A n c) := bT.cell 0
  have e1 : w1.cell? ⟨w.heap.size, 1, none⟩ = some (.int .i64 last) := bT.cell 1
  have l0 : w1.cell? ⟨w.heap.size + 1, 0, none⟩ = some (.int .i64 ow) := bL.cell 0
  have l1 : w1.cell? ⟨w.heap.size + 1, 1, none⟩ = some (.int .i64 tk) := bL.cell 1
  have l2 : w1.cell? ⟨w.heap.size + 1, 2, none⟩ = some (.int .i64 ti) := bL.cell 2
  have o0 : w1.cell? ⟨w.heap.size + 1 + 1, 0, none⟩ = some (.slice none 0 0) := bO.cell 0
  have o1 : w1.cell? ⟨w.heap.size + 1 + 1, 1, none⟩ = some (.int .i64 0) := bO.cell 1
  have fT := bT.frozen
  have fO := bO.frozen
  have ne0 : w.heap.size ≠ g := by omega
  have ne1 : w.heap.size + 1 ≠ g := by omega
  have ne2 : w.heap.size + 1 + 1 ≠ g := by omega
  go_wp2
  exact bodyPost_ret (v := .agg #[.slice (some ⟨g, 0, none⟩) n c1', .int .i64 last]) (by simp [results, Try.results33, go_sem, o0, o1, World.cell?_setCell_other]) rfl
    (tab_of (reads_far (reads_far ((reads_set3 ⟨ow, tk, ti⟩ (reads_far rd (q := ⟨w.heap.size, 0, none⟩) ne0 _) hG).more (by simp)) (q := ⟨w.heap.size + 1 + 1, 0, none⟩) ne2 _) (q := ⟨w.heap.size + 1 + 1, 1, none⟩) ne2 _) hcap (fun ad e => by obtain rfl := Option.some.inj e; simp only; omega) (by go_grown))
end Go.Proofs.Ytinccckpohaoiaa
