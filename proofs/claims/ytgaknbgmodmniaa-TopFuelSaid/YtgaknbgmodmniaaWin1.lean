/- Windows: the plain list of the windows that hold a time, the last one first; the walk of the iterator that hands them on. -/
import Derived.RangeFuncNested
import Derived.RangeFuncBound
import Derived.RangeFuncCalls
import Derived.RangeFuncLeaves
import Derived.Shelf.Abstract
import Derived.Shelf.RegionOpen
import Derived.OwnWalkIn
import Derived.TacticsInMore
import Derived.LoopNIn
import Derived.LoopIn
import Derived.Test.YtgaknbgmodmniaaKept2
import Derived.Test.YtgaknbgmodmniaaMem
import Derived.Test.YtgaknbgmodmniaaTick
namespace Go.Proofs.Ytgaknbgmodmniaa
open Go.RowKit Go.Shelf
set_option linter.unusedVariables false
set_option linter.unusedSimpArgs false
attribute [local go_sem] Oper.semAt_some

theorem rightW_iff {size slide : Int} : rightW size slide = true ↔ 1 ≤ slide ∧ slide ≤ size ∧ size ≤ 1048576 ∧ size ≤ 16 * slide := by simp [rightW, and_assoc]

/-- Three blocks lie as they lay. -/
def Keep3 (a b c : Nat) (W W' : World) : Prop := W'.heap[a]? = W.heap[a]? ∧ W'.heap[b]? = W.heap[b]? ∧ W'.heap[c]? = W.heap[c]?
theorem Keep3.refl {a b c : Nat} (W : World) : Keep3 a b c W W := ⟨rfl, rfl, rfl⟩
theorem Keep3.trans {a b c : Nat} {A B C : World} (h : Keep3 a b c A B) (k : Keep3 a b c B C) : Keep3 a b c A C := ⟨k.1.trans h.1, k.2.1.trans h.2.1, k.2.2.trans h.2.2⟩
theorem Keep3.put {a b c : Nat} (W : World) (l : Nat) (o' : Obj) (h1 : a < l) (h2 : b < l) (h3 : c < l) : Keep3 a b c W (W.putObj l o') :=
  ⟨World.putObj_heap_other (by omega), World.putObj_heap_other (by omega), World.putObj_heap_other (by omega)⟩
theorem Keep3.of {a b c : Nat} {W W' : World} (h : ∀ k, k = a ∨ k = b ∨ k = c → W'.heap[k]? = W.heap[k]?) : Keep3 a b c W W' := ⟨h _ (.inl rfl), h _ (.inr (.inl rfl)), h _ (.inr (.inr rfl))⟩

/-- How many windows hold a time, and the k-th one from the last. -/
def winN (size slide t : Int) : Nat := (min (t / slide) ((size - 1 - t % slide) / slide)).toNat + 1
def winAt (size slide t : Int) (k : Nat) : Int × Int := (t - t % slide - k * slide, addZ (t - t % slide - k * slide) size)
def backL (size slide t : Int) : List (Int × Int) := (List.range (winN size slide t)).map (winAt size slide t)
def winV (x : Int × Int) : Value := .agg #[.int .i64 x.1, .int .i64 x.2]
theorem backL_length (size slide t : Int) : (backL size slide t).length = winN size slide t := by simp [backL]
theorem backL_take (size slide t : Int) (k : Nat) (h : k < winN size slide t) : (backL size slide t).take k ++ [winAt size slide t k] = (backL size slide t).take (k + 1) := by
  have hl : k < (backL size slide t).length := by rw [backL_length]; exact h
  rw [List.take_succ_eq_append_getElem hl]
  simp [backL]

/-- The k-th window from the last holds the time just where k is one of the first so many. -/
theorem winN_iff {size slide t : Int} (h1 : 1 ≤ slide) (h2 : slide ≤ size) (ht : 0 ≤ t) (k : Nat) : k < winN size slide t ↔ (0 ≤ t - t % slide - k * slide ∧ t - size < t - t % slide - k * slide) := by
  have r0 := Int.emod_nonneg t (b := slide) (by omega)
  have r1 := Int.emod_lt_of_pos t (b := slide) (by omega)
  have q := Int.emod_add_mul_ediv t slide
  have q0 : 0 ≤ t / slide := Int.ediv_nonneg ht (by omega)
  have s0 : 0 ≤ (size - 1 - t % slide) / slide := Int.ediv_nonneg (by omega) (by omega)
  have a : (0 ≤ t - t % slide - k * slide) ↔ (k : Int) ≤ t / slide := by
    have e : t - t % slide = slide * (t / slide) := by omega
    rw [e, Int.mul_comm slide]
    constructor
    · intro h
      have : (k : Int) * slide ≤ t / slide * slide := by omega
      exact Int.le_of_mul_le_mul_right this (by omega)
    · intro h
      have := Int.mul_le_mul_of_nonneg_right h (show (0 : Int) ≤ slide by omega)
      omega
  have b : (t - size < t - t % slide - k * slide) ↔ (k : Int) ≤ (size - 1 - t % slide) / slide := by
    rw [Int.le_ediv_iff_mul_le (by omega)]
    omega
  rw [a, b]
  unfold winN
  omega

theorem floorZ_in {t slide : Int} (h1 : 1 ≤ slide) (h2 : slide ≤ 1048576) (ht : 0 ≤ t) (ht' : t ≤ 1099511627776) : floorZ t slide = t - t % slide := by
  unfold floorZ clampZ
  rw [if_neg (by omega), if_neg (by omega), if_neg (by omega)]

set_option maxRecDepth 100000 in
set_option maxHeartbeats 1000000 in
theorem back1_in (n : Nat) (hn : 1 ≤ n) (l bt bs bz : Nat) (size slide t : Int) (h1 : 1 ≤ slide) (h2 : slide ≤ size) (h3 : size ≤ 1048576) (ht : 0 ≤ t) (ht' : t < 1099511627776)
    (J Jx : List (Int × Int) → World → Prop)
    (hY : ∀ pre x W, J pre W → pre.length < winN size slide t → YieldAt Fence.wide (n - 1) Try.prog l #[winV x] W fun e W' =>
      (e = .returned (.bool true) ∧ J (pre ++ [x]) W' ∧ Keep3 bt bs bz W W') ∨ (e = .returned (.bool false) ∧ Jx (pre ++ [x]) W'))
    (W : World) (ct : W.cell? ⟨bt, 0, none⟩ = some (.int .i64 t)) (cs : W.cell? ⟨bs, 0, none⟩ = some (.int .i64 slide)) (cz : W.cell? ⟨bz, 0, none⟩ = some (.int .i64 size)) (h0 : J [] W) :
    CallsIn Fence.wide n Try.prog 45 #[.func (.yield l) #[] #[], .pointer (some ⟨bt, 0, none⟩), .pointer (some ⟨bs, 0, none⟩), .pointer (some ⟨bz, 0, none⟩)] W fun e W' => (∃ v, e = .returned v) ∧
      ((∃ ys, ys = backL size slide t ∧ J ys W') ∨ (∃ pre, pre <+: backL size slide t ∧ Jx pre W')) := by
  have hf := floorZ_in (slide := slide) h1 (by omega) ht (by omega)
  have HF := Lib.hid hf
  have HN : Hid (∀ k : Nat, k < winN size slide t ↔ (0 ≤ t - t % slide - k * slide ∧ t - size < t - t % slide - k * slide)) := winN_iff h1 h2 ht
  have HJ : Hid (J [] W) := h0
  clear hf h0
  have r0 := Int.emod_nonneg t (b := slide) (by omega)
  have r1 := Int.emod_lt_of_pos t (b := slide) (by omega)
  have r2 : t % slide ≤ t := by
    have q := Int.emod_add_mul_ediv t slide
    have : 0 ≤ slide * (t / slide) := Int.mul_nonneg (by omega) (Int.ediv_nonneg ht (by omega))
    omega
  refine callsIn_of_wp Try.func45 rfl trivial ?_ rfl
  simp only [Try.ntmps45, List.size_toArray, List.length_cons, List.length_nil, Nat.reduceAdd, Nat.reduceSub, Array.replicate_succ, Array.replicate_zero, List.push_toArray, List.append_toArray, List.nil_append, List.cons_append]
  gi_wp2_with (refine ⟨trivial, ?_⟩; gi_at_call 46; refine (callsIn_wide.2 (floor_any _ _ _)).mono ?_; rw [HF.out]; rintro e w' ⟨rfl, rfl⟩)
  gi_loopw [5] (fun i wr => ∃ (k : Nat) (lo : Int), i = .int .i64 lo ∧ Hid (lo = t - t % slide - k * slide) ∧ k ≤ winN size slide t ∧ (-1048576 ≤ lo ∧ lo ≤ t) ∧ Keep3 bt bs bz W wr ∧ Hid (J ((backL size slide t).take k) wr))
    (fun i _ => (intOf i + slide).toNat)
  case atStart =>
    exact ⟨0, _, rfl, Lib.hid (by simp), Nat.zero_le _, by omega, Keep3.refl _, HJ⟩
  case round =>
    obtain ⟨k, lo, rfl, HL, hk, hlo, hB, HJ⟩ := hrel
    have ct' := (World.cell?_of_block (a := ⟨bt, 0, none⟩) hB.1).trans ct
    have cs' := (World.cell?_of_block (a := ⟨bs, 0, none⟩) hB.2.1).trans cs
    have cz' := (World.cell?_of_block (a := ⟨bz, 0, none⟩) hB.2.2).trans cz
    by_cases hlt : k < winN size slide t
    · have hin := (HN.out k).1 hlt
      rw [← HL.out] at hin
      have hx : winAt size slide t k = (lo, addZ lo size) := by unfold winAt; rw [← HL.out]
      have htk := backL_take size slide t k hlt
      rw [hx] at htk
      have HT := Lib.hid htk
      clear htk hx
      obtain ⟨fn, tmps, assign, body, hy, hR⟩ := hY _ (lo, addZ lo size) wr HJ.out (by rw [List.length_take, backL_length]; omega)
      dsimp only [winV] at hy
      rw [HT.out] at hR
      gi_wp2_with (refine ⟨trivial, ?_⟩; gi_at_call 47; refine (callsIn_wide.2 (add_any _ _ _)).mono ?_; rintro e w' ⟨rfl, rfl⟩)
      refine hR.mono ?_
      rintro e W3 (⟨rfl, hJ3, hk3⟩ | ⟨rfl, hJx3⟩)
      · have ct3 := (World.cell?_of_block (a := ⟨bt, 0, none⟩) hk3.1).trans ct'
        have cs3 := (World.cell?_of_block (a := ⟨bs, 0, none⟩) hk3.2.1).trans cs'
        have cz3 := (World.cell?_of_block (a := ⟨bz, 0, none⟩) hk3.2.2).trans cz'
        have HJ3 := Lib.hid hJ3
        clear hJ3
        gi_wp2
        go_roundw
        case rel =>
          refine ⟨k + 1, lo - slide, rfl, Lib.hid ?_, by omega, by omega, hB.trans hk3, HJ3⟩
          have e := HL.out
          have m : ((k + 1 : Nat) : Int) * slide = k * slide + slide := by rw [Int.natCast_add, Int.add_mul]; simp
          omega
        case measure => simp [intOf]; omega
      · have HJx3 := Lib.hid hJx3
        clear hJx3
        gi_wp2
        refine bodyPost_ret (results_none rfl _ _ _) rfl ?_
        exact ⟨⟨_, rfl⟩, .inr ⟨_, List.take_prefix _ _, HJx3.out⟩⟩
    · have hout := fun h => hlt ((HN.out k).2 h)
      rw [← HL.out] at hout
      have hJ : J (backL size slide t) wr := by
        have := HJ.out
        rwa [List.take_of_length_le (by rw [backL_length]; omega)] at this
      have HJ' := Lib.hid hJ
      clear hJ HJ
      by_cases g : 0 ≤ lo
      · have g2 : lo ≤ t - size := by
          rcases Int.lt_or_le (t - size) lo with h | h
          · exact absurd ⟨g, h⟩ hout
          · exact h
        clear hout
        gi_wp2
        go_end0
        first | exact ⟨⟨_, rfl⟩, .inl HJ'.out⟩ | exact ⟨⟨_, rfl⟩, .inl ⟨_, rfl, HJ'.out⟩⟩
      · clear hout
        gi_wp2
        go_end0
        first | exact ⟨⟨_, rfl⟩, .inl HJ'.out⟩ | exact ⟨⟨_, rfl⟩, .inl ⟨_, rfl, HJ'.out⟩⟩

/-- **The value that back hands on: all windows that hold the time, the last one first.** -/
theorem back1_stops (n : Nat) (hn : 1 ≤ n) (bt bs bz : Nat) (size slide t : Int) (h1 : 1 ≤ slide) (h2 : slide ≤ size) (h3 : size ≤ 1048576) (ht : 0 ≤ t) (ht' : t < 1099511627776) (w : World)
    (bt0 : bt < w.heap.size) (bs0 : bs < w.heap.size) (bz0 : bz < w.heap.size) (ct : w.cell? ⟨bt, 0, none⟩ = some (.int .i64 t)) (cs : w.cell? ⟨bs, 0, none⟩ = some (.int .i64 slide)) (cz : w.cell? ⟨bz, 0, none⟩ = some (.int .i64 size)) :
    SeqStopsK Fence.wide n Try.prog 45 #[.pointer (some ⟨bt, 0, none⟩), .pointer (some ⟨bs, 0, none⟩), .pointer (some ⟨bz, 0, none⟩)] (fun x : Int × Int => #[winV x]) (Keep3 bt bs bz) (fun ys => ys = backL size slide t) (fun pre => pre <+: backL size slide t) (winN size slide t) w :=
  fun l J Jx W hW _ _ hY h0 => back1_in n hn l bt bs bz size slide t h1 h2 h3 ht ht' J Jx hY W
    ((hW.cell (p := ⟨bt, 0, none⟩) bt0).trans ct) ((hW.cell (p := ⟨bs, 0, none⟩) bs0).trans cs) ((hW.cell (p := ⟨bz, 0, none⟩) bz0).trans cz) h0

set_option maxHeartbeats 1000000 in
theorem back_in (n : Nat) (size slide t : Int) (w : World) :
    CallsIn Fence.wide n Try.prog 37 #[.int .i64 size, .int .i64 slide, .int .i64 t] w fun e w' =>
      e = .returned (.func (.func 45) #[] #[.pointer (some ⟨w.heap.size + 1 + 1, 0, none⟩), .pointer (some ⟨w.heap.size + 1, 0, none⟩), .pointer (some ⟨w.heap.size, 0, none⟩)]) ∧
      w' = ((w.alloc (.cells #[.int .i64 size] 2)).alloc (.cells #[.int .i64 slide] 2)).alloc (.cells #[.int .i64 t] 2) := by
  refine callsIn_of_wp Try.func37 rfl trivial ?_ rfl
  simp only [Try.ntmps37, List.size_toArray, List.length_cons, List.length_nil, Nat.reduceAdd, Nat.reduceSub, Array.replicate_succ, Array.replicate_zero, List.push_toArray, List.append_toArray, List.nil_append, List.cons_append]
  gi_wp2
  go_ret
  exact ⟨rfl, rfl⟩

theorem infoWin : (Try.prog.info? 69).map (fun i => (i.zero, i.size, i.bytes)) = some (some (.agg #[.int .i64 0, .int .i64 0]), 2, 16) := by kernel_rfl
def winCells (l : List (Int × Int)) : List Value := l.flatMap fun x => [.int .i64 x.1, .int .i64 x.2]

end Go.Proofs.Ytgaknbgmodmniaa
