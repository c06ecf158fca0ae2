/- The walk of package lease's Grant where it grants. -/
import Derived.Test.YtinccckpohaoiaaLse5
import Derived.StillTailTactics
import Derived.BigRegion
import Derived.Deep.RegionHeld3
namespace Go.Proofs.Ytinccckpohaoiaa
open Go.RowKit
set_option linter.unusedVariables false
set_option linter.unusedSimpArgs false

theorem below_drew {B : Nat} {a w : World} (h : Below B a w) : Below B a w.drew := ⟨h.os, h.tape, h.output, h.size, h.block⟩

theorem reads_far' {w : World} {B size n : Nat} {A : Option Addr} {q : Addr} {xs : List Value} (h : Reads w B size A n xs) (hq : ∀ a, A = some a → q.block ≠ a.block) (u : Value) : Reads (w.setCell q u) B size A n xs :=
  ⟨h.1, fun hn => by
    obtain ⟨ad, e, hb, hc⟩ := h.2 hn
    exact ⟨ad, e, hb, fun j v hv => (World.cell?_setCell_other _ _ _ _ (fun e' => hq ad e (by rw [e', block_of_add]))).trans (hc j v hv)⟩⟩
theorem fresh_of {w W : World} {A : Option Addr} {b : Nat} (h : ∀ ad, A = some ad → W.heap.size ≤ ad.block) (hb : b < W.heap.size) : ∀ a, A = some a → b ≠ a.block := fun a e => by have := h a e; omega
theorem fresh_le {w W : World} {A : Option Addr} (h : ∀ ad, A = some ad → W.heap.size ≤ ad.block) (hb : w.heap.size ≤ W.heap.size) : ∀ a, A = some a → w.heap.size ≤ a.block := fun a e => by have := h a e; omega

/-- What a grant makes of a table: the table, the token, the error's number. -/
def grantZ (ls : List Lse) (last g wk now long : Int) : (List Lse × Int) × Int × Int :=
  if hasT ls last g = false ∨ wk < 1 ∨ 99 < wk then (([], 0), 0, 1)
  else if countsB now (lseAt ls g) = true then (([], 0), 0, 160)
  else if 1073741824 ≤ last then (([], 0), 0, 3)
  else ((ls.set g.toNat ⟨wk, last + 1, addZ now long⟩, last + 1), last + 1, 0)
def GrantPost (r : (List Lse × Int) × Int × Int) (w : World) (e : Ending) (w' : World) : Prop :=
  ∃ A c, e = .returned (.tuple #[.agg #[.slice A r.1.1.length c, .int .i64 r.1.2], .int .i64 r.2.1, .int .i64 r.2.2]) ∧ Reads w' w'.heap.size 3 A r.1.1.length (flat r.1.1) ∧ r.1.1.length ≤ c ∧ (∀ ad, A = some ad → w.heap.size ≤ ad.block) ∧ Below w.heap.size w w'
theorem grant_none {w w' : World} {err : Int} (hB : Below w.heap.size w w') : GrantPost (([], 0), 0, err) w (.returned (.tuple #[.agg #[.slice none 0 0, .int .i64 0], .int .i64 0, .int .i64 err])) w' :=
  ⟨none, 0, rfl, Reads.none_, by simp, fun _ h => (by cases h), hB⟩
theorem grant_new {w w' : World} {A : Option Addr} {n c : Nat} {last tok err : Int} {ls : List Lse} (hn : ls.length = n) (hr : Reads w' w'.heap.size 3 A n (flat ls)) (hc : n ≤ c) (hA : ∀ ad, A = some ad → w.heap.size ≤ ad.block) (hB : Below w.heap.size w w') :
    GrantPost ((ls, last), tok, err) w (.returned (.tuple #[.agg #[.slice A n c, .int .i64 last], .int .i64 tok, .int .i64 err])) w' := by
  subst hn
  exact ⟨A, c, rfl, hr, hc, hA, hB⟩

set_option maxHeartbeats 4000000 in
theorem grant_ok (A : Option Addr) (n c G : Nat) (last wk now long ow tk ti : Int) (ls : List Lse) (w : World) (hr : Reads w w.heap.size 3 A n (flat ls)) (hm : n ≤ 9223372036854775807) (hc : n ≤ c)
    (HR : Hid (hasT ls last G = true)) (h1 : 1 ≤ wk) (h2 : wk ≤ 99) (HL : Hid (ls.length = n)) (hG : G < n) (h32 : n ≤ 32) (hlast : 0 ≤ last ∧ last ≤ 1073741824) (h3 : last < 1073741824) {hG' : G < ls.length} (hx : ls[G] = ⟨ow, tk, ti⟩) (HC : Hid ((!(ow == 0) && decide (clampZ now < ti)) = false)) :
    Calls Try.prog 18 #[.agg #[.slice A n c, .int .i64 last], .int .i64 G, .int .i64 wk, .int .i64 now, .int .i64 long] w (GrantPost ((ls.set G ⟨wk, last + 1, addZ now long⟩, last + 1), last + 1, 0) w) := by
  go_enter Try.func18, Try.ntmps18
  go_wp2_with (go_at_call 30; refine (leaseAt_any _ _).mono ?_; rintro e w' ⟨rfl, rfl⟩)
  refine (has_any A n c last G ls _ (reads_alloc (reads_alloc hr)) hm hc).mono ?_
  rw [HR.out]
  rintro e w1 ⟨rfl, hb1⟩
  obtain ⟨c1, f1⟩ := bcell hb1
  have y1 := hb1.size
  try simp at y1
  have z0_0_1 : w.heap.size < w1.heap.size := by omega
  have z0_1_1 : w.heap.size + 1 < w1.heap.size := by omega
  have k1 : Below w.heap.size w w1 := next_below (by go_grown) hb1
  obtain ⟨ad, hl, rfl, hbk, d0, d1, d2⟩ := lse_at (reads_below (reads_alloc (reads_alloc hr)) hb1) hG
  rw [hx] at d0 d1 d2
  simp only at d0 d1 d2
  go_wp2_with fail
  refine (counts_any (clampZ now) ow tk ti _).mono ?_
  rw [HC.out]
  rintro e w2 ⟨rfl, hb2⟩
  obtain ⟨c2, f2⟩ := bcell hb2
  have y2 := hb2.size
  try simp at y2
  have z0_0_2 : w.heap.size < w2.heap.size := by omega
  have z0_1_2 : w.heap.size + 1 < w2.heap.size := by omega
  have k2 : Below w.heap.size w w2 := next_below (by go_grown) hb2
  have wl : IntKind.i64.wrap (last + 1) = last + 1 := IntWalk.i64_in _ (by omega)
  obtain ⟨M, hM⟩ : ∃ M, ls.set G ⟨wk, last + 1, addZ now long⟩ = M := ⟨_, rfl⟩
  have HML := Lib.hid (show M.length = n from by rw [← hM, List.length_set]; exact HL.out)
  have bT : Blk w2 w.heap.size 24 #[.slice (some ad) n c, .int .i64 last] := (((Blk.new w _ _).alloc _).below hb1 (by simp; omega)).below hb2 z0_0_1
  have bO : Blk w2 (w.heap.size + 1) 24 #[.slice none 0 0, .int .i64 0] := ((by simpa using Blk.new (w.alloc (.cells #[.slice (some ad) n c, .int .i64 last] 24)) 24 #[.slice none 0 0, .int .i64 0] : Blk _ (w.heap.size + 1) _ _).below hb1 (by simp)).below hb2 z0_1_1
  have rdW := ((hr.below k2).setCell (p := ⟨w.heap.size, 1, none⟩) (Nat.le_refl _) (.int .i64 (last + 1))).more (B' := (w2.setCell ⟨w.heap.size, 1, none⟩ (.int .i64 (last + 1))).heap.size) (by simp; omega)
  clear c1 f1 c2 f2 d0 d1 d2
  have t0 : w2.cell? ⟨w.heap.size, 0, none⟩ = some (.slice (some ad) n c) := bT.cell 0
  have t1 : w2.cell? ⟨w.heap.size, 1, none⟩ = some (.int .i64 last) := bT.cell 1
  have fT := bT.frozen
  go_wp2_with fail
  generalize hW : w2.setCell ⟨w.heap.size, 1, none⟩ (.int .i64 (last + 1)) = W at *
  have bTW : Blk W w.heap.size 24 #[.slice (some ad) n c, .int .i64 (last + 1)] := by rw [← hW]; exact bT.set_ 1 _
  have bOW : Blk W (w.heap.size + 1) 24 #[.slice none 0 0, .int .i64 0] := by rw [← hW]; exact bO.far (show w.heap.size + 1 ≠ w.heap.size by omega) _
  have kW : Below w.heap.size w W := by rw [← hW]; go_grown
  clear hW bT bO t0 t1 fT
  have t0 : W.cell? ⟨w.heap.size, 0, none⟩ = some (.slice (some ad) n c) := bTW.cell 0
  have t1 : W.cell? ⟨w.heap.size, 1, none⟩ = some (.int .i64 (last + 1)) := bTW.cell 1
  have fT := bTW.frozen
  have lT := bTW.lt
  have lO := bOW.lt
  go_region_held3 (fun w' => w'.cell? ⟨w.heap.size, 0, none⟩ = some (.slice (some ad) n c) ∧ w'.cell? ⟨w.heap.size, 1, none⟩ = some (.int .i64 (last + 1)))
    (first | exact ⟨tt0, tt1⟩ | exact ⟨t0, t1⟩ | go_keep)
    (first
      | (go_at_call 34; refine (add_any _ _ _).mono ?_; rintro e w' ⟨rfl, rfl⟩)
      | (go_at_call 33; refine (with_any (some ad) n c G (last + 1) wk (last + 1) (addZ now long) ls _ ?_ (by omega) hG).mono ?_; (first | exact rdW); rw [hM]; rintro e w4 ⟨A4, c4, rfl, rd4, hc4, hf4, hb4⟩; have bT4 := bTW.drew.below hb4 lT; have bO4 := bOW.drew.below hb4 lO; have y4 := hb4.size; have tt0 : w4.cell? ⟨w.heap.size, 0, none⟩ = some (.slice (some ad) n c) := bT4.cell 0; have tt1 : w4.cell? ⟨w.heap.size, 1, none⟩ = some (.int .i64 (last + 1)) := bT4.cell 1; have oo0 : w4.cell? ⟨w.heap.size + 1, 0, none⟩ = some (.slice none 0 0) := bO4.cell 0; have oo1 : w4.cell? ⟨w.heap.size + 1, 1, none⟩ = some (.int .i64 0) := bO4.cell 1; have fO4 := bO4.frozen; have k4 := (below_drew kW).trans (hb4.mono kW.size); have l4 := bO4.lt))
  have hne := fresh_of (w := w) (W := W) (b := w.heap.size + 1) hf4 lO
  have hfr := fresh_le (w := w) (W := W) hf4 (Nat.le_of_lt lT)
  go_wp2
  refine bodyPost_ret (v := .tuple #[.agg #[.slice A4 n c4, .int .i64 (last + 1)], .int .i64 (last + 1), .int .i64 0]) (by simp [results, Try.results18, go_sem, oo0, oo1, World.cell?_setCell_other]) rfl ?_
  rw [hM]
  exact grant_new HML.out ((reads_far' (q := ⟨w.heap.size + 1, 1, none⟩) (reads_far' (q := ⟨w.heap.size + 1, 0, none⟩) rd4 hne _) hne _).more (by simp)) hc4 hfr (by go_grown)

end Go.Proofs.Ytinccckpohaoiaa
