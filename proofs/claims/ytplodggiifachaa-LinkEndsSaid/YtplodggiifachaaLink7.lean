/- Walks of Tick, of package link and of the reference. -/
import Derived.Test.YtplodggiifachaaLink6
namespace Go.Proofs.Ytplodggiifachaa
open Go.RowKit
set_option linter.unusedVariables false
set_option linter.unusedSimpArgs false

theorem infoPk : (Try.prog.info? 25).map (fun i => (i.zero, i.size, i.bytes)) = some (some (.agg #[.int .i64 0, .int .i64 0, .string .empty]), 3, 32) := by kernel_rfl
/-- The cells of the packets that bear bodies from a number on. -/
def pkCells (ep base : Int) : List ByteArray → List Value
  | [] => []
  | z :: zs => .int .i64 ep :: .int .i64 base :: .string z :: pkCells ep (base + 1) zs
theorem pkCells_snoc (ep : Int) : ∀ (zs : List ByteArray) (base : Int) (x : ByteArray), pkCells ep base (zs ++ [x]) = pkCells ep base zs ++ [.int .i64 ep, .int .i64 (base + zs.length), .string x]
  | [], base, x => by simp [pkCells]
  | z :: zs, base, x => by
    rw [List.cons_append, pkCells, pkCells_snoc ep zs (base + 1) x, pkCells]
    simp
    omega
theorem pkCells_take {ep base : Int} {zs : List ByteArray} {k : Nat} (h : k < zs.length) : pkCells ep base (zs.take (k + 1)) = pkCells ep base (zs.take k) ++ [.int .i64 ep, .int .i64 (base + k), .string zs[k]] := by
  rw [List.take_succ_eq_append_getElem h, pkCells_snoc]
  simp
  omega

/-- What a tick makes of a sender's timer; are its bodies sent again? -/
def tickT (s : Snd) : Int × Bool :=
  if rightB s = false ∨ s.bodies.length = 0 then (s.timer, false)
  else if 1 < s.timer then (s.timer - 1, false)
  else (4, true)
def TickPost (ep base : Int) (zs : List ByteArray) (A : Option Addr) (n c : Nat) (r : Int × Bool) (w : World) (e : Ending) (w' : World) : Prop :=
  ∃ A2 c2, e = .returned (.tuple #[.agg #[.int .i64 ep, .int .i64 base, .slice A n c, .int .i64 r.1], .slice A2 (if r.2 then n else 0) c2]) ∧
    w'.ownsRow w.heap.size 25 3 (.slice A2 (if r.2 then n else 0) c2) (if r.2 then n else 0) (if r.2 then pkCells ep base zs else []) ∧ Below w.heap.size w w'
theorem tick_none {w w' : World} {ep base t : Int} {zs : List ByteArray} {A : Option Addr} {n c : Nat} (hB : Below w.heap.size w w') :
    TickPost ep base zs A n c (t, false) w (.returned (.tuple #[.agg #[.int .i64 ep, .int .i64 base, .slice A n c, .int .i64 t], .slice none 0 0])) w' := ⟨none, 0, rfl, World.ownsRow_nil _ _ _ _, hB⟩

theorem pk_new (w : World) (a b c : Value) (t : TypeId) : ∀ j u, [a, b, c][j]? = some u → (w.alloc (.cells #[a, b, c] t)).cell? ((⟨w.heap.size, 0, none⟩ : Addr).add j) = some u := by
  intro j u hu
  have hB := Blk.new w t #[a, b, c]
  match j, hu with
  | 0, hu => simpa [Addr.add] using (hB.cell 0).trans hu
  | 1, hu => simpa [Addr.add] using (hB.cell 1).trans hu
  | 2, hu => simpa [Addr.add] using (hB.cell 2).trans hu

set_option maxHeartbeats 6000000 in
theorem refTick_any (ep base timer : Int) (zs : List ByteArray) (A : Option Addr) (n c : Nat) (w : World) (hr : Reads w w.heap.size 1 A n (zs.map Value.string)) (hm : n ≤ 9223372036854775807) (hs : ∀ z ∈ zs, z.size ≤ maxLen) :
    Calls Try.prog 21 #[.agg #[.int .i64 ep, .int .i64 base, .slice A n c, .int .i64 timer]] w (TickPost ep base zs A n c (tickT ⟨ep, base, zs, timer⟩) w) := by
  obtain rfl := (reads_len hr).symm
  cases hR : rightB ⟨ep, base, zs, timer⟩
  · rw [show tickT ⟨ep, base, zs, timer⟩ = (timer, false) from by unfold tickT; rw [if_pos (.inl hR)]]
    go_enter Try.func21, Try.ntmps21
    go_wp2_with fail
    refine (refRight_any ep base timer zs A zs.length c _ (reads_alloc (reads_alloc hr)) hm hs).mono ?_
    rw [hR]
    rintro e w1 ⟨rfl, hb1⟩
    obtain ⟨c1, f1⟩ := bcell hb1
    have y1 := hb1.size
    try simp at y1
    have z0_0_1 : w.heap.size < w1.heap.size := by omega
    have z0_1_1 : w.heap.size + 1 < w1.heap.size := by omega
    have k1 : Below w.heap.size w w1 := next_below (by go_grown) hb1
    go_wp2
    exact bodyPost_ret (v := .tuple #[.agg #[.int .i64 ep, .int .i64 base, .slice A zs.length c, .int .i64 timer], .slice none 0 0]) (by simp [results, Try.results21, go_sem, c1, f1, z0_0_1, z0_1_1, World.cell?_setCell_other]) rfl (tick_none (by go_grown))
  obtain ⟨⟨e1, e2⟩, l8, ⟨b1, b2⟩, ⟨t1, t2⟩, t3, _⟩ := rightB_iff.1 hR
  simp only at e1 e2 l8 b1 b2 t1 t2 t3
  by_cases h0 : zs.length = 0
  · rw [show tickT ⟨ep, base, zs, timer⟩ = (timer, false) from by unfold tickT; rw [if_pos (.inr h0)]]
    have h0' : ((zs.length : Int) == 0) = true := by rw [beq_iff_eq]; omega
    clear h0 t3
    go_enter Try.func21, Try.ntmps21
    go_wp2_with fail
    refine (refRight_any ep base timer zs A zs.length c _ (reads_alloc (reads_alloc hr)) hm hs).mono ?_
    rw [hR]
    rintro e w1 ⟨rfl, hb1⟩
    obtain ⟨c1, f1⟩ := bcell hb1
    have y1 := hb1.size
    try simp at y1
    have z0_0_1 : w.heap.size < w1.heap.size := by omega
    have z0_1_1 : w.heap.size + 1 < w1.heap.size := by omega
    have k1 : Below w.heap.size w w1 := next_below (by go_grown) hb1
    go_wp2
    exact bodyPost_ret (v := .tuple #[.agg #[.int .i64 ep, .int .i64 base, .slice A zs.length c, .int .i64 timer], .slice none 0 0]) (by simp [results, Try.results21, go_sem, c1, f1, z0_0_1, z0_1_1, World.cell?_setCell_other]) rfl (tick_none (by go_grown))
  have hif : ¬ (rightB ⟨ep, base, zs, timer⟩ = false ∨ zs.length = 0) := fun h => h.elim (fun h => by rw [hR] at h; cases h) h0
  have h0' : ((zs.length : Int) == 0) = false := by rw [beq_eq_false_iff_ne]; omega
  by_cases h1 : 1 < timer
  · rw [show tickT ⟨ep, base, zs, timer⟩ = (timer - 1, false) from by unfold tickT; rw [if_neg hif, if_pos h1]]
    clear h0 t3 hif
    go_enter Try.func21, Try.ntmps21
    go_wp2_with fail
    refine (refRight_any ep base timer zs A zs.length c _ (reads_alloc (reads_alloc hr)) hm hs).mono ?_
    rw [hR]
    rintro e w1 ⟨rfl, hb1⟩
    obtain ⟨c1, f1⟩ := bcell hb1
    have y1 := hb1.size
    try simp at y1
    have z0_0_1 : w.heap.size < w1.heap.size := by omega
    have z0_1_1 : w.heap.size + 1 < w1.heap.size := by omega
    have k1 : Below w.heap.size w w1 := next_below (by go_grown) hb1
    have bS1 : Blk w1 w.heap.size 31 #[.int .i64 ep, .int .i64 base, .slice A zs.length c, .int .i64 timer] := ((Blk.new w _ _).alloc _).below hb1 (by simp; omega)
    have bR1 : Blk w1 (w.heap.size + 1) 31 #[.int .i64 0, .int .i64 0, .slice none 0 0, .int .i64 0] := ((by simpa using (Blk.new (w.alloc (.cells #[.int .i64 ep, .int .i64 base, .slice A zs.length c, .int .i64 timer] 31)) 31 #[.int .i64 0, .int .i64 0, .slice none 0 0, .int .i64 0]) : Blk _ (w.heap.size + 1) _ _)).below hb1 (by simp)
    have s0 : w1.cell? ⟨w.heap.size, 0, none⟩ = some (.int .i64 ep) := bS1.cell 0
    have s1 : w1.cell? ⟨w.heap.size, 1, none⟩ = some (.int .i64 base) := bS1.cell 1
    have s2 : w1.cell? ⟨w.heap.size, 2, none⟩ = some (.slice A zs.length c) := bS1.cell 2
    have s3 : w1.cell? ⟨w.heap.size, 3, none⟩ = some (.int .i64 timer) := bS1.cell 3
    have r0 : w1.cell? ⟨w.heap.size + 1, 0, none⟩ = some (.int .i64 0) := bR1.cell 0
    have r1 : w1.cell? ⟨w.heap.size + 1, 1, none⟩ = some (.int .i64 0) := bR1.cell 1
    have r2 : w1.cell? ⟨w.heap.size + 1, 2, none⟩ = some (.slice none 0 0) := bR1.cell 2
    have r3 : w1.cell? ⟨w.heap.size + 1, 3, none⟩ = some (.int .i64 0) := bR1.cell 3
    have fS := bS1.frozen
    have fR := bR1.frozen
    clear c1 f1 hb1
    go_wp2
    exact bodyPost_ret (v := .tuple #[.agg #[.int .i64 ep, .int .i64 base, .slice A zs.length c, .int .i64 (timer - 1)], .slice none 0 0]) (by simp [results, Try.results21, go_sem, r0, r1, r2, r3, World.cell?_setCell_other]) rfl (tick_none (by go_grown))
  rw [show tickT ⟨ep, base, zs, timer⟩ = (4, true) from by unfold tickT; rw [if_neg hif, if_neg h1]]
  obtain ⟨i0, hi, hz0, hz1, hz2⟩ := info_parts infoPk
  have h1d : decide (1 < timer) = false := by simpa using h1
  clear h0 t3 hif
  go_enter Try.func21, Try.ntmps21
  go_wp2_with fail
  refine (refRight_any ep base timer zs A zs.length c _ (reads_alloc (reads_alloc hr)) hm hs).mono ?_
  rw [hR]
  rintro e w1 ⟨rfl, hb1⟩
  obtain ⟨c1, f1⟩ := bcell hb1
  have y1 := hb1.size
  try simp at y1
  have z0_0_1 : w.heap.size < w1.heap.size := by omega
  have z0_1_1 : w.heap.size + 1 < w1.heap.size := by omega
  have k1 : Below w.heap.size w w1 := next_below (by go_grown) hb1
  have bS1 : Blk w1 w.heap.size 31 #[.int .i64 ep, .int .i64 base, .slice A zs.length c, .int .i64 timer] := ((Blk.new w _ _).alloc _).below hb1 (by simp; omega)
  have bR1 : Blk w1 (w.heap.size + 1) 31 #[.int .i64 0, .int .i64 0, .slice none 0 0, .int .i64 0] := ((by simpa using (Blk.new (w.alloc (.cells #[.int .i64 ep, .int .i64 base, .slice A zs.length c, .int .i64 timer] 31)) 31 #[.int .i64 0, .int .i64 0, .slice none 0 0, .int .i64 0]) : Blk _ (w.heap.size + 1) _ _)).below hb1 (by simp)
  have s0 : w1.cell? ⟨w.heap.size, 0, none⟩ = some (.int .i64 ep) := bS1.cell 0
  have s1 : w1.cell? ⟨w.heap.size, 1, none⟩ = some (.int .i64 base) := bS1.cell 1
  have s2 : w1.cell? ⟨w.heap.size, 2, none⟩ = some (.slice A zs.length c) := bS1.cell 2
  have s3 : w1.cell? ⟨w.heap.size, 3, none⟩ = some (.int .i64 timer) := bS1.cell 3
  have r0 : w1.cell? ⟨w.heap.size + 1, 0, none⟩ = some (.int .i64 0) := bR1.cell 0
  have r1 : w1.cell? ⟨w.heap.size + 1, 1, none⟩ = some (.int .i64 0) := bR1.cell 1
  have r2 : w1.cell? ⟨w.heap.size + 1, 2, none⟩ = some (.slice none 0 0) := bR1.cell 2
  have r3 : w1.cell? ⟨w.heap.size + 1, 3, none⟩ = some (.int .i64 0) := bR1.cell 3
  have fS := bS1.frozen
  have fR := bR1.frozen
  clear c1 f1 hb1
  go_wp2_with fail
  have bS0 := (bS1.set_ 3 (.int .i64 4)).alloc (.cells #[] 25)
  have bR0 := (bR1.far (p := ⟨w.heap.size, 3, none⟩) (show w.heap.size + 1 ≠ w.heap.size by omega) (.int .i64 4)).alloc (.cells #[] 25)
  have k0 := (k1.setCell (p := ⟨w.heap.size, 3, none⟩) (Nat.le_refl _) (.int .i64 4)).alloc (by simpa using k1.size) (.cells #[] 25)
  have kk1 := k1.size
  have hz' : w1.heap.size + 1 ≤ ((w1.setCell ⟨w.heap.size, 3, none⟩ (.int .i64 4)).alloc (.cells #[] 25)).heap.size := by simp
  have ho0 : ((w1.setCell ⟨w.heap.size, 3, none⟩ (.int .i64 4)).alloc (.cells #[] 25)).ownsRow w1.heap.size 25 3 (.slice (some ⟨w1.heap.size, 0, none⟩) 0 0) 0 [] := by
    simpa using World.ownsRow_made (base := w1.heap.size) (e := 25) (size := 3) (w1.setCell ⟨w.heap.size, 3, none⟩ (.int .i64 4)) #[] 0 (by simp) (by unfold maxLen; omega) rfl
  have bS0' : Blk ((w1.setCell ⟨w.heap.size, 3, none⟩ (.int .i64 4)).alloc (.cells #[] 25)) w.heap.size 31 #[.int .i64 ep, .int .i64 base, .slice A zs.length c, .int .i64 4] := by simpa using bS0
  clear bS0 bS1 bR1 s0 s1 s2 s3 r0 r1 r2 r3 fS fR
  generalize (w1.setCell ⟨w.heap.size, 3, none⟩ (.int .i64 4)).alloc (.cells #[] 25) = V at *
  generalize w1.heap.size = bo at *
  go_loopw [4, 30] (fun o i wr => ∃ k : Nat, k ≤ zs.length ∧ i = .int .i64 k ∧ Below w.heap.size w wr ∧ bo + 1 ≤ wr.heap.size ∧ Blk wr w.heap.size 31 #[.int .i64 ep, .int .i64 base, .slice A zs.length c, .int .i64 4] ∧ Blk wr (w.heap.size + 1) 31 #[.int .i64 0, .int .i64 0, .slice none 0 0, .int .i64 0] ∧
    wr.ownsRow bo 25 3 o k (pkCells ep base (zs.take k))) (fun _ i _ => zs.length - (intOf i).toNat)
  case atStart => exact ⟨0, Nat.zero_le _, rfl, k0, hz', bS0', bR0, ho0⟩
  case round =>
    clear bS0' bR0 k0 hz' ho0
    obtain ⟨k, hk, rfl, hB, hsz, bS, bR, hown⟩ := hrel
    have lS := bS.lt
    have lR := bR.lt
    have s0 : wr.cell? ⟨w.heap.size, 0, none⟩ = some (.int .i64 ep) := bS.cell 0
    have s1 : wr.cell? ⟨w.heap.size, 1, none⟩ = some (.int .i64 base) := bS.cell 1
    have s2 : wr.cell? ⟨w.heap.size, 2, none⟩ = some (.slice A zs.length c) := bS.cell 2
    have s3 : wr.cell? ⟨w.heap.size, 3, none⟩ = some (.int .i64 4) := bS.cell 3
    by_cases hlt : k < zs.length
    · obtain ⟨ad, hl, rfl, hc'⟩ := strs_at (hr.below hB) hlt
      have HT := Lib.hid (pkCells_take (ep := ep) (base := base) hl)
      have wB : IntKind.i64.wrap (base + (k : Int)) = base + k := IntWalk.i64_in _ (by omega)
      generalize zs[k] = x at *
      go_wp2_with (at_builtin; refine wpList_append_any _ rfl (.tmp 35) (.tmp 44) 45 rfl bo 25 i0 _ 3 32 Try.underlying45 hi hz0 hz1 hz2 rfl (by decide) _ _ _ rfl (hown.alloc _) (wr.heap.size + 1) (some ⟨wr.heap.size, 0, none⟩) 1 1 [.int .i64 ep, .int .i64 (base + k), .string x] rfl ⟨rfl, fun _ => ⟨_, rfl, by simp, pk_new wr _ _ _ _⟩⟩ (by simp [Value.oneCell']) (by unfold maxLen; omega) (by omega) (by simp; omega) ?_; intro v' w3 hown' hgrow _; have hgs := hgrow.size)
      simp at hgs
      go_roundw
      case rel =>
        refine ⟨k + 1, by omega, by go_num, (hB.alloc hB.size _).grown hgrow (by have := hB.size; simp; omega) (fun q hq => by have := (hown.lt q hq).1; omega), by omega, blk_far (bS.alloc _) (hown.alloc _) (by omega) hgrow, blk_far (bR.alloc _) (hown.alloc _) (by omega) hgrow, ?_⟩
        rw [HT.out]
        exact hown'
      case measure => simp [intOf]; omega
    · obtain rfl : k = zs.length := by omega
      rw [List.take_length] at hown
      obtain ⟨Av, cv, rfl⟩ := own_succ' hown
      have r0 : wr.cell? ⟨w.heap.size + 1, 0, none⟩ = some (.int .i64 0) := bR.cell 0
      have r1 : wr.cell? ⟨w.heap.size + 1, 1, none⟩ = some (.int .i64 0) := bR.cell 1
      have r2 : wr.cell? ⟨w.heap.size + 1, 2, none⟩ = some (.slice none 0 0) := bR.cell 2
      have r3 : wr.cell? ⟨w.heap.size + 1, 3, none⟩ = some (.int .i64 0) := bR.cell 3
      have fR := bR.frozen
      go_wp2
      refine bodyPost_ret (v := .tuple #[.agg #[.int .i64 ep, .int .i64 base, .slice A zs.length c, .int .i64 4], .slice Av zs.length cv]) (by simp [results, Try.results21, go_sem, r0, r1, r2, r3, World.cell?_setCell_other]) rfl ⟨Av, cv, rfl, ?_, by go_grown⟩
      refine own_mono (base := bo) ?_ (by omega)
      exact own_setCell (own_setCell (own_setCell (own_setCell hown _ _ _ (by omega)) _ _ _ (by omega)) _ _ _ (by omega)) _ _ _ (by omega)

set_option maxHeartbeats 6000000 in
theorem tick_any (ep base timer : Int) (zs : List ByteArray) (A : Option Addr) (n c : Nat) (w : World) (hr : Reads w w.heap.size 1 A n (zs.map Value.string)) (hm : n ≤ 9223372036854775807) (hs : ∀ z ∈ zs, z.size ≤ maxLen) :
    Calls Try.prog 20 #[.agg #[.int .i64 ep, .int .i64 base, .slice A n c, .int .i64 timer]] w (TickPost ep base zs A n c (tickT ⟨ep, base, zs, timer⟩) w) := by
  obtain rfl := (reads_len hr).symm
  cases hR : rightB ⟨ep, base, zs, timer⟩
  · rw [show tickT ⟨ep, base, zs, timer⟩ = (timer, false) from by unfold tickT; rw [if_pos (.inl hR)]]
    go_enter Try.func20, Try.ntmps20
    go_wp2_with fail
    refine (right_any ep base timer zs A zs.length c _ (reads_alloc (reads_alloc hr)) hm hs).mono ?_
    rw [hR]
    rintro e w1 ⟨rfl, hb1⟩
    obtain ⟨c1, f1⟩ := bcell hb1
    have y1 := hb1.size
    try simp at y1
    have z0_0_1 : w.heap.size < w1.heap.size := by omega
    have z0_1_1 : w.heap.size + 1 < w1.heap.size := by omega
    have k1 : Below w.heap.size w w1 := next_below (by go_grown) hb1
    go_wp2
    exact bodyPost_ret (v := .tuple #[.agg #[.int .i64 ep, .int .i64 base, .slice A zs.length c, .int .i64 timer], .slice none 0 0]) (by simp [results, Try.results20, go_sem, c1, f1, z0_0_1, z0_1_1, World.cell?_setCell_other]) rfl (tick_none (by go_grown))
  obtain ⟨⟨e1, e2⟩, l8, ⟨b1, b2⟩, ⟨t1, t2⟩, t3, _⟩ := rightB_iff.1 hR
  simp only at e1 e2 l8 b1 b2 t1 t2 t3
  by_cases h0 : zs.length = 0
  · rw [show tickT ⟨ep, base, zs, timer⟩ = (timer, false) from by unfold tickT; rw [if_pos (.inr h0)]]
    have h0' : ((zs.length : Int) == 0) = true := by rw [beq_iff_eq]; omega
    clear h0 t3
    go_enter Try.func20, Try.ntmps20
    go_wp2_with fail
    refine (right_any ep base timer zs A zs.length c _ (reads_alloc (reads_alloc hr)) hm hs).mono ?_
    rw [hR]
    rintro e w1 ⟨rfl, hb1⟩
    obtain ⟨c1, f1⟩ := bcell hb1
    have y1 := hb1.size
    try simp at y1
    have z0_0_1 : w.heap.size < w1.heap.size := by omega
    have z0_1_1 : w.heap.size + 1 < w1.heap.size := by omega
    have k1 : Below w.heap.size w w1 := next_below (by go_grown) hb1
    go_wp2
    exact bodyPost_ret (v := .tuple #[.agg #[.int .i64 ep, .int .i64 base, .slice A zs.length c, .int .i64 timer], .slice none 0 0]) (by simp [results, Try.results20, go_sem, c1, f1, z0_0_1, z0_1_1, World.cell?_setCell_other]) rfl (tick_none (by go_grown))
  have hif : ¬ (rightB ⟨ep, base, zs, timer⟩ = false ∨ zs.length = 0) := fun h => h.elim (fun h => by rw [hR] at h; cases h) h0
  have h0' : ((zs.length : Int) == 0) = false := by rw [beq_eq_false_iff_ne]; omega
  by_cases h1 : 1 < timer
  · rw [show tickT ⟨ep, base, zs, timer⟩ = (timer - 1, false) from by unfold tickT; rw [if_neg hif, if_pos h1]]
    clear h0 t3 hif
    go_enter Try.func20, Try.ntmps20
    go_wp2_with fail
    refine (right_any ep base timer zs A zs.length c _ (reads_alloc (reads_alloc hr)) hm hs).mono ?_
    rw [hR]
    rintro e w1 ⟨rfl, hb1⟩
    obtain ⟨c1, f1⟩ := bcell hb1
    have y1 := hb1.size
    try simp at y1
    have z0_0_1 : w.heap.size < w1.heap.size := by omega
    have z0_1_1 : w.heap.size + 1 < w1.heap.size := by omega
    have k1 : Below w.heap.size w w1 := next_below (by go_grown) hb1
    have bS1 : Blk w1 w.heap.size 31 #[.int .i64 ep, .int .i64 base, .slice A zs.length c, .int .i64 timer] := ((Blk.new w _ _).alloc _).below hb1 (by simp; omega)
    have bR1 : Blk w1 (w.heap.size + 1) 31 #[.int .i64 0, .int .i64 0, .slice none 0 0, .int .i64 0] := ((by simpa using (Blk.new (w.alloc (.cells #[.int .i64 ep, .int .i64 base, .slice A zs.length c, .int .i64 timer] 31)) 31 #[.int .i64 0, .int .i64 0, .slice none 0 0, .int .i64 0]) : Blk _ (w.heap.size + 1) _ _)).below hb1 (by simp)
    have s0 : w1.cell? ⟨w.heap.size, 0, none⟩ = some (.int .i64 ep) := bS1.cell 0
    have s1 : w1.cell? ⟨w.heap.size, 1, none⟩ = some (.int .i64 base) := bS1.cell 1
    have s2 : w1.cell? ⟨w.heap.size, 2, none⟩ = some (.slice A zs.length c) := bS1.cell 2
    have s3 : w1.cell? ⟨w.heap.size, 3, none⟩ = some (.int .i64 timer) := bS1.cell 3
    have r0 : w1.cell? ⟨w.heap.size + 1, 0, none⟩ = some (.int .i64 0) := bR1.cell 0
    have r1 : w1.cell? ⟨w.heap.size + 1, 1, none⟩ = some (.int .i64 0) := bR1.cell 1
    have r2 : w1.cell? ⟨w.heap.size + 1, 2, none⟩ = some (.slice none 0 0) := bR1.cell 2
    have r3 : w1.cell? ⟨w.heap.size + 1, 3, none⟩ = some (.int .i64 0) := bR1.cell 3
    have fS := bS1.frozen
    have fR := bR1.frozen
    clear c1 f1 hb1
    have hss := set_set
    go_wp2
    exact bodyPost_ret (v := .tuple #[.agg #[.int .i64 ep, .int .i64 base, .slice A zs.length c, .int .i64 (timer - 1)], .slice none 0 0]) (by simp [results, Try.results20, go_sem, r0, r1, r2, r3, World.cell?_setCell_other]) rfl (tick_none (by go_grown))
  rw [show tickT ⟨ep, base, zs, timer⟩ = (4, true) from by unfold tickT; rw [if_neg hif, if_neg h1]]
  obtain ⟨i0, hi, hz0, hz1, hz2⟩ := info_parts infoPk
  have h1d : decide (0 < timer - 1) = false := by simp; omega
  clear h0 t3 hif
  go_enter Try.func20, Try.ntmps20
  go_wp2_with fail
  refine (right_any ep base timer zs A zs.length c _ (reads_alloc (reads_alloc hr)) hm hs).mono ?_
  rw [hR]
  rintro e w1 ⟨rfl, hb1⟩
  obtain ⟨c1, f1⟩ := bcell hb1
  have y1 := hb1.size
  try simp at y1
  have z0_0_1 : w.heap.size < w1.heap.size := by omega
  have z0_1_1 : w.heap.size + 1 < w1.heap.size := by omega
  have k1 : Below w.heap.size w w1 := next_below (by go_grown) hb1
  have bS1 : Blk w1 w.heap.size 31 #[.int .i64 ep, .int .i64 base, .slice A zs.length c, .int .i64 timer] := ((Blk.new w _ _).alloc _).below hb1 (by simp; omega)
  have bR1 : Blk w1 (w.heap.size + 1) 31 #[.int .i64 0, .int .i64 0, .slice none 0 0, .int .i64 0] := ((by simpa using (Blk.new (w.alloc (.cells #[.int .i64 ep, .int .i64 base, .slice A zs.length c, .int .i64 timer] 31)) 31 #[.int .i64 0, .int .i64 0, .slice none 0 0, .int .i64 0]) : Blk _ (w.heap.size + 1) _ _)).below hb1 (by simp)
  have s0 : w1.cell? ⟨w.heap.size, 0, none⟩ = some (.int .i64 ep) := bS1.cell 0
  have s1 : w1.cell? ⟨w.heap.size, 1, none⟩ = some (.int .i64 base) := bS1.cell 1
  have s2 : w1.cell? ⟨w.heap.size, 2, none⟩ = some (.slice A zs.length c) := bS1.cell 2
  have s3 : w1.cell? ⟨w.heap.size, 3, none⟩ = some (.int .i64 timer) := bS1.cell 3
  have r0 : w1.cell? ⟨w.heap.size + 1, 0, none⟩ = some (.int .i64 0) := bR1.cell 0
  have r1 : w1.cell? ⟨w.heap.size + 1, 1, none⟩ = some (.int .i64 0) := bR1.cell 1
  have r2 : w1.cell? ⟨w.heap.size + 1, 2, none⟩ = some (.slice none 0 0) := bR1.cell 2
  have r3 : w1.cell? ⟨w.heap.size + 1, 3, none⟩ = some (.int .i64 0) := bR1.cell 3
  have fS := bS1.frozen
  have fR := bR1.frozen
  clear c1 f1 hb1
  have hss := set_set
  go_wp2_with fail
  have bS0 : Blk (w1.setCell ⟨w.heap.size, 3, none⟩ (.int .i64 4)) w.heap.size 31 #[.int .i64 ep, .int .i64 base, .slice A zs.length c, .int .i64 4] := by simpa using bS1.set_ 3 (.int .i64 4)
  have bR0 := bR1.far (p := ⟨w.heap.size, 3, none⟩) (show w.heap.size + 1 ≠ w.heap.size by omega) (.int .i64 4)
  have k0 := k1.setCell (p := ⟨w.heap.size, 3, none⟩) (Nat.le_refl _) (.int .i64 4)
  have kk1 := k1.size
  have hz' : w1.heap.size ≤ (w1.setCell ⟨w.heap.size, 3, none⟩ (.int .i64 4)).heap.size := by simp
  clear bS1 bR1 s0 s1 s2 s3 r0 r1 r2 r3 fS fR
  generalize w1.setCell ⟨w.heap.size, 3, none⟩ (.int .i64 4) = V at *
  generalize w1.heap.size = bo at *
  go_loopw [5, 32] (fun o i wr => ∃ k : Nat, k ≤ zs.length ∧ i = .int .i64 k ∧ Below w.heap.size w wr ∧ bo ≤ wr.heap.size ∧ Blk wr w.heap.size 31 #[.int .i64 ep, .int .i64 base, .slice A zs.length c, .int .i64 4] ∧ Blk wr (w.heap.size + 1) 31 #[.int .i64 0, .int .i64 0, .slice none 0 0, .int .i64 0] ∧
    wr.ownsRow bo 25 3 o k (pkCells ep base (zs.take k))) (fun _ i _ => zs.length - (intOf i).toNat)
  case atStart => exact ⟨0, Nat.zero_le _, rfl, k0, hz', bS0, bR0, World.ownsRow_nil _ _ _ _⟩
  case round =>
    clear bS0 bR0 k0 hz'
    obtain ⟨k, hk, rfl, hB, hsz, bS, bR, hown⟩ := hrel
    have lS := bS.lt
    have lR := bR.lt
    by_cases hlt : k < zs.length
    · have hx : zs[k]? = some zs[k] := List.getElem?_eq_getElem hlt
      have HT := Lib.hid (pkCells_take (ep := ep) (base := base) hlt)
      have hrd := (hr.below hB).more hB.size
      generalize zs[k] = x at *
      have HX := Lib.hid hx
      clear hx
      go_wp2_with fail
      refine (packet_any ep base 4 zs A zs.length c k x _ hrd HX.out ⟨b1, by omega⟩ (by omega)).mono ?_
      rintro e w2 ⟨rfl, hb2⟩
      have hown2 := own_below hown hb2
      have bS2 := bS.below hb2 lS
      have bR2 := bR.below hb2 lR
      have hs2 := hb2.size
      have k2 := hB.trans (hb2.mono hB.size)
      go_wp2_with (at_builtin; refine wpList_append_any _ rfl (.tmp 35) (.tmp 39) 45 rfl bo 25 i0 _ 3 32 Try.underlying45 hi hz0 hz1 hz2 rfl (by decide) _ _ _ rfl (hown2.alloc _) (w2.heap.size + 1) (some ⟨w2.heap.size, 0, none⟩) 1 1 [.int .i64 ep, .int .i64 (base + k), .string x] rfl ⟨rfl, fun _ => ⟨_, rfl, by simp, pk_new w2 _ _ _ _⟩⟩ (by simp [Value.oneCell']) (by unfold maxLen; omega) (by omega) (by simp; omega) ?_; intro v' w3 hown' hgrow _; have hgs := hgrow.size)
      simp at hgs
      go_roundw
      case rel =>
        refine ⟨k + 1, by omega, by go_num, (k2.alloc k2.size _).grown hgrow (by have := k2.size; simp; omega) (fun q hq => by have := (hown.lt q hq).1; omega), by omega, blk_far (bS2.alloc _) (hown2.alloc _) (by omega) hgrow, blk_far (bR2.alloc _) (hown2.alloc _) (by omega) hgrow, ?_⟩
        rw [HT.out]
        exact hown'
      case measure => simp [intOf]; omega
    · obtain rfl : k = zs.length := by omega
      rw [List.take_length] at hown
      obtain ⟨Av, cv, rfl⟩ := own_succ' hown
      have s0 : wr.cell? ⟨w.heap.size, 0, none⟩ = some (.int .i64 ep) := bS.cell 0
      have s1 : wr.cell? ⟨w.heap.size, 1, none⟩ = some (.int .i64 base) := bS.cell 1
      have s2 : wr.cell? ⟨w.heap.size, 2, none⟩ = some (.slice A zs.length c) := bS.cell 2
      have s3 : wr.cell? ⟨w.heap.size, 3, none⟩ = some (.int .i64 4) := bS.cell 3
      have r0 : wr.cell? ⟨w.heap.size + 1, 0, none⟩ = some (.int .i64 0) := bR.cell 0
      have r1 : wr.cell? ⟨w.heap.size + 1, 1, none⟩ = some (.int .i64 0) := bR.cell 1
      have r2 : wr.cell? ⟨w.heap.size + 1, 2, none⟩ = some (.slice none 0 0) := bR.cell 2
      have r3 : wr.cell? ⟨w.heap.size + 1, 3, none⟩ = some (.int .i64 0) := bR.cell 3
      have fR := bR.frozen
      go_wp2
      refine bodyPost_ret (v := .tuple #[.agg #[.int .i64 ep, .int .i64 base, .slice A zs.length c, .int .i64 4], .slice Av zs.length cv]) (by simp [results, Try.results20, go_sem, r0, r1, r2, r3, World.cell?_setCell_other]) rfl ⟨Av, cv, rfl, ?_, by go_grown⟩
      refine own_mono (base := bo) ?_ (by omega)
      exact own_setCell (own_setCell (own_setCell (own_setCell hown _ _ _ (by omega)) _ _ _ (by omega)) _ _ _ (by omega)) _ _ _ (by omega)

end Go.Proofs.Ytplodggiifachaa
