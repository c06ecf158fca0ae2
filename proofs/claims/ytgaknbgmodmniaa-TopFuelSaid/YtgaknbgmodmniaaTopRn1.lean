/- Walk of the function that package model's Run makes: all events that are kept, of the one input. -/
import Derived.Test.YtgaknbgmodmniaaTopKep
namespace Go.Proofs.Ytgaknbgmodmniaa
open Go.RowKit Go.Shelf
set_option linter.unusedVariables false
set_option linter.unusedSimpArgs false
attribute [local go_sem] Oper.semAt_some

/-- The one job, the one event. -/
def jobA : Jb := ⟨1, 1, 1, 2, 0, 0, 0, 0⟩
def evA : Ev := ⟨⟨#[97]⟩, 0, 0⟩
theorem keptA : keptF jobA 0 [evA] = [evA] := by rfl
theorem nextA {pre : List Ev} {x : Ev} (h : pre ++ [x] <+: [evA]) : pre = [] ∧ x = evA := by
  obtain ⟨t, ht⟩ := h
  cases pre with
  | nil =>
    injection ht with h1 h2
    exact ⟨rfl, h1⟩
  | cons y l =>
    injection ht with h1 h2
    simp at h2
/-- What a round of the outer loop keeps: besides what KeepT says, the records of the loops within. -/
structure KeepN (gb Z : Nat) (W W' : World) : Prop where
  t : KeepT gb W W'
  loops : KeepsFrom (Z + 2) W W'
/-- What may turn in the caller's memory between two rounds: a source of package model's, and the records of loops. -/
def StR (gb Z : Nat) (V V' : World) : Prop := Sib gb V V' ∨ ∃ (k : Nat) (o o' : Obj), Z + 2 ≤ k ∧ V.heap[k]? = some o ∧ o.isCells = false ∧ V' = V.putObj k o'
theorem round_any {l' n n' l : Nat} {P : Program} {f : FuncId} {tmps : Array Value} {assign body : Code} {w : World} {R : Ending → World → Prop} (h : RoundIn Fence.wide n P l f tmps assign body w R) : RoundIn (Fence.wide.inRound l') n' P l f tmps assign body w R :=
  ⟨trivial, fun c cs _ => h.2 c cs (room_wide _)⟩

set_option maxRecDepth 100000 in
set_option maxHeartbeats 2000000 in
theorem run1_in (n : Nat) (hn : 3 ≤ n) (l bi bj gb Z : Nat) (ad : Addr) (A : Option Addr) (c : Nat) (J : List Ev → World → Prop)
    (hJa : ∀ pre W (o : Obj), J pre W → J pre (W.alloc o)) (hJs : ∀ pre W W', J pre W → StR gb Z W W' → J pre W')
    (hY : ∀ pre x W, J pre W → pre ++ [x] <+: [evA] → YieldAt Fence.wide (n - 1) Try.prog l #[.agg #[.string x.key, .int .i64 x.at_, .int .i64 x.v]] W fun e W' =>
      e = .returned (.bool true) ∧ J (pre ++ [x]) W' ∧ KeepN gb Z W W')
    (W : World) (cj : Blk W bj 23 #[.int .i64 1, .int .i64 1, .int .i64 1, .int .i64 2, .int .i64 0, .int .i64 0, .int .i64 0, .int .i64 0]) (ci : W.cell? ⟨bi, 0, none⟩ = some (.slice (some ad) 1 1)) (cI : W.cell? ad = some (.slice A 1 c)) (hbi : bi < W.heap.size) (had : ad.block < W.heap.size)
    (hgb : gb ≤ W.heap.size) (hZ : Z + 2 ≤ W.heap.size) (hr : Reads W gb 3 A 1 (evs [evA])) (h0 : J [] W) :
    CallsIn Fence.wide n Try.prog 17 #[.func (.yield l) #[] #[], .pointer (some ⟨bi, 0, none⟩), .pointer (some ⟨bj, 0, none⟩)] W fun e W' => (∃ v, e = .returned v) ∧ J [evA] W' := by
  have hn1 : 1 ≤ n := by omega
  have H0 : Hid (J [] (W.alloc (.cells #[.func (.yield l) #[] #[]] 49))) := Lib.hid (hJa _ _ _ h0)
  have bY := Blk.new W 49 #[.func (.yield l) #[] #[]]
  have bJ := cj.alloc (.cells #[.func (.yield l) #[] #[]] 49)
  have c0 := (World.cell?_alloc_lt W (.cells #[.func (.yield l) #[] #[]] 49) ⟨bi, 0, none⟩ hbi).trans ci
  have c1 := (World.cell?_alloc_lt W (.cells #[.func (.yield l) #[] #[]] 49) ad had).trans cI
  have j0 : (W.alloc (.cells #[.func (.yield l) #[] #[]] 49)).cell? ⟨bj, 0, none⟩ = some (.int .i64 1) := bJ.cell 0
  have j1 : (W.alloc (.cells #[.func (.yield l) #[] #[]] 49)).cell? ⟨bj, 1, none⟩ = some (.int .i64 1) := bJ.cell 1
  have j2 : (W.alloc (.cells #[.func (.yield l) #[] #[]] 49)).cell? ⟨bj, 2, none⟩ = some (.int .i64 1) := bJ.cell 2
  have j3 : (W.alloc (.cells #[.func (.yield l) #[] #[]] 49)).cell? ⟨bj, 3, none⟩ = some (.int .i64 2) := bJ.cell 3
  have j4 : (W.alloc (.cells #[.func (.yield l) #[] #[]] 49)).cell? ⟨bj, 4, none⟩ = some (.int .i64 0) := bJ.cell 4
  have j5 : (W.alloc (.cells #[.func (.yield l) #[] #[]] 49)).cell? ⟨bj, 5, none⟩ = some (.int .i64 0) := bJ.cell 5
  have j6 : (W.alloc (.cells #[.func (.yield l) #[] #[]] 49)).cell? ⟨bj, 6, none⟩ = some (.int .i64 0) := bJ.cell 6
  have j7 : (W.alloc (.cells #[.func (.yield l) #[] #[]] 49)).cell? ⟨bj, 7, none⟩ = some (.int .i64 0) := bJ.cell 7
  clear h0
  refine callsIn_of_wp_marks Try.func17 rfl trivial ?_ rfl
  simp only [Try.ntmps17, List.size_toArray, List.length_cons, List.length_nil, Nat.reduceAdd, Nat.reduceSub, Array.replicate_succ, Array.replicate_zero, List.push_toArray, List.append_toArray, List.nil_append, List.cons_append]
  gi_wp2_with fail
  refine wpIn_loop_rounds 2 ?_
  rw [roundsIn_succ]
  gi_wp2_with fail
  refine ⟨trivial, ?_⟩
  have hkin := kept_in (n - 1) jobA A 1 c (W.alloc (.cells #[.func (.yield l) #[] #[]] 49))
  simp only [jobA, World.size_alloc] at hkin
  refine hkin.mono ?_
  clear hkin
  rintro e w' ⟨rfl, rfl⟩
  have HJ : Hid (J [] (((W.alloc (.cells #[.func (.yield l) #[] #[]] 49)).alloc (.cells #[.int .i64 1, .int .i64 1, .int .i64 1, .int .i64 2, .int .i64 0, .int .i64 0, .int .i64 0, .int .i64 0] 23)).alloc (.cells #[.slice A 1 c] 24))) := Lib.hid (hJa _ _ _ (hJa _ _ _ H0.out))
  have bYv : Blk (((W.alloc (.cells #[.func (.yield l) #[] #[]] 49)).alloc (.cells #[.int .i64 1, .int .i64 1, .int .i64 1, .int .i64 2, .int .i64 0, .int .i64 0, .int .i64 0, .int .i64 0] 23)).alloc (.cells #[.slice A 1 c] 24)) W.heap.size 49 #[.func (.yield l) #[] #[]] := (bY.alloc _).alloc _
  have bK : Blk (((W.alloc (.cells #[.func (.yield l) #[] #[]] 49)).alloc (.cells #[.int .i64 1, .int .i64 1, .int .i64 1, .int .i64 2, .int .i64 0, .int .i64 0, .int .i64 0, .int .i64 0] 23)).alloc (.cells #[.slice A 1 c] 24)) (W.heap.size + 1) 23 #[.int .i64 1, .int .i64 1, .int .i64 1, .int .i64 2, .int .i64 0, .int .i64 0, .int .i64 0, .int .i64 0] := by simpa using (Blk.new (W.alloc (.cells #[.func (.yield l) #[] #[]] 49)) 23 #[.int .i64 1, .int .i64 1, .int .i64 1, .int .i64 2, .int .i64 0, .int .i64 0, .int .i64 0, .int .i64 0]).alloc _
  have bL : Blk (((W.alloc (.cells #[.func (.yield l) #[] #[]] 49)).alloc (.cells #[.int .i64 1, .int .i64 1, .int .i64 1, .int .i64 2, .int .i64 0, .int .i64 0, .int .i64 0, .int .i64 0] 23)).alloc (.cells #[.slice A 1 c] 24)) (W.heap.size + 2) 24 #[.slice A 1 c] := by simpa using Blk.new ((W.alloc (.cells #[.func (.yield l) #[] #[]] 49)).alloc (.cells #[.int .i64 1, .int .i64 1, .int .i64 1, .int .i64 2, .int .i64 0, .int .i64 0, .int .i64 0, .int .i64 0] 23)) 24 #[.slice A 1 c]
  have hB0 : Below W.heap.size W (((W.alloc (.cells #[.func (.yield l) #[] #[]] 49)).alloc (.cells #[.int .i64 1, .int .i64 1, .int .i64 1, .int .i64 2, .int .i64 0, .int .i64 0, .int .i64 0, .int .i64 0] 23)).alloc (.cells #[.slice A 1 c] 24)) := by go_grown
  have hsz : (((W.alloc (.cells #[.func (.yield l) #[] #[]] 49)).alloc (.cells #[.int .i64 1, .int .i64 1, .int .i64 1, .int .i64 2, .int .i64 0, .int .i64 0, .int .i64 0, .int .i64 0] 23)).alloc (.cells #[.slice A 1 c] 24)).heap.size = W.heap.size + 3 := by simp
  generalize ((W.alloc (.cells #[.func (.yield l) #[] #[]] 49)).alloc (.cells #[.int .i64 1, .int .i64 1, .int .i64 1, .int .i64 2, .int .i64 0, .int .i64 0, .int .i64 0, .int .i64 0] 23)).alloc (.cells #[.slice A 1 c] 24) = V0 at *
  clear H0 j0 j1 j2 j3 j4 j5 j6 j7 c0 c1 bJ bY
  gi_wp2_with fail
  refine range_in rfl hn1 (gf := 15) (lb := #[.pointer (some ⟨W.heap.size + 1, 0, none⟩), .pointer (some ⟨W.heap.size + 2, 0, none⟩)]) (by first | rfl | simp) trivial (enters_of Try.func15 (by kernel_rfl) rfl)
    (fun x : Ev => #[.agg #[.string x.key, .int .i64 x.at_, .int .i64 x.v]]) (fun _ => rfl)
    (fun pre V => J pre V ∧ (pre = [] → Blk V W.heap.size 49 #[.func (.yield l) #[] #[]]) ∧ W.heap.size + 3 ≤ V.heap.size)
    (fun x b V => ∃ Bx, Blk V Bx 30 #[.string x.key, .int .i64 x.at_, .int .i64 x.v] ∧ b = { tmps := #[.func (.yield l) #[] #[], .pointer (some ⟨bi, 0, none⟩), .pointer (some ⟨bj, 0, none⟩), .pointer (some ⟨W.heap.size, 0, none⟩), undef, .slice A 1 c, .pointer (some ⟨Bx, 0, none⟩), .slice (some ad) 1 1, .int .i64 1, .int .i64 0, .bool true, .pointer (some ad), .slice A 1 c, .agg #[.int .i64 1, .int .i64 1, .int .i64 1, .int .i64 2, .int .i64 0, .int .i64 0, .int .i64 0, .int .i64 0], .slice A 1 c, .func (.func 15) #[] #[.pointer (some ⟨W.heap.size + 1, 0, none⟩), .pointer (some ⟨W.heap.size + 2, 0, none⟩)], .agg #[.string x.key, .int .i64 x.at_, .int .i64 x.v], undef, undef, undef, undef, undef], defers := [] })
    (Sib gb) (KeepT gb) (fun xs => xs = keptF jobA 0 [evA]) (fun pre x => pre ++ [x] <+: keptF jobA 0 [evA]) ?so ?si ?ia ?ip ?rp ?kt ?kp ?h0 ?iter ?assign ?body ?done
  case so =>
    rintro V V' k o ⟨sb, cs, hsb, bS, hT⟩ hk ho _
    refine (hT.keep k (Array.getElem?_eq_some_iff.1 hk).1 (fun e => ?_) (by simp [Value.ownBlock])).trans hk
    subst e
    rw [show V.heap[k]? = _ from bS] at hk
    cases hk
    cases ho
  case si =>
    rintro pre V V' ⟨hj, hy, hs⟩ hS
    obtain ⟨sb, cs, hsb, bS, hT⟩ := hS
    refine ⟨hJs _ _ _ hj (.inl ⟨sb, cs, hsb, bS, hT⟩), fun hp => ?_, Nat.le_trans hs hT.size⟩
    have hb := hy hp
    refine (hT.keep _ hb.lt (fun e => ?_) (by simp [Value.ownBlock])).trans hb
    exact hb.ne_ bS (by decide) e
  case ia =>
    rintro pre V o ⟨hj, hy, hs⟩
    exact ⟨hJa _ _ _ hj, fun hp => (hy hp).alloc o, by simp; omega⟩
  case ip =>
    rintro pre V k o o' ⟨hj, hy, hs⟩ hk hko hoc
    refine ⟨hJs _ _ _ hj (.inr ⟨k, o, o', by omega, hko, hoc, rfl⟩), fun hp => (World.putObj_heap_other (fun e => ?_)).trans (hy hp), by simpa using hs⟩
    subst e
    rw [show V.heap[W.heap.size]? = _ from hy hp] at hko
    cases hko
    cases hoc
  case rp =>
    rintro x b V k o o' ⟨Bx, hB, hb⟩ hk hko hoc
    refine ⟨Bx, (World.putObj_heap_other (fun e => ?_)).trans hB, hb⟩
    subst e
    rw [show V.heap[Bx]? = _ from hB] at hko
    cases hko
    cases hoc
  case kt => exact fun A B C h k => ⟨h.below.trans k.below, fun b cs hb => k.src b cs (h.src b cs hb)⟩
  case kp =>
    intro V k o o' hk _ hko hoc
    refine ⟨(Below.refl _ V).grown (grownBy_putObj' V k o') (by have := (Array.getElem?_eq_some_iff.1 hko).1; omega) (fun q e => by cases e; omega), fun b cs hb => (World.putObj_heap_other (fun e => ?_)).trans hb⟩
    subst e
    rw [show V.heap[b]? = _ from hb] at hko
    cases hko
    cases hoc
  case h0 => exact ⟨HJ.out, fun _ => bYv, by omega⟩
  case iter =>
    intro l' J' W' hW hWs hJa' hJs' hY' hJ0'
    refine (kept1_nx (n - 1) (by omega) l' (W.heap.size + 1) (W.heap.size + 2) gb jobA A 1 c [evA] (by simp [evA]) (by omega) ⟨by simp [jobA], by simp [jobA], by simp [jobA]⟩ J' hJa' hJs' hY' W' (bK.below hW (by omega)) ((bL.below hW (by omega)).cell 0) (by omega) (by omega) (hr.below ((hB0.trans (hW.mono (by omega))).mono hgb)) hJ0').mono ?_
    rintro e V ⟨hv, hJ⟩
    exact ⟨hv, _, rfl, hJ⟩
  case assign =>
    rintro l' pre x V ⟨hj, hy, hs⟩
    gi_wp2
    exact ⟨(KeepsOthers.alloc _ _).from _, ⟨(Below.refl _ V).alloc (by omega) _, fun b cs hb => hb.alloc _⟩, ⟨hJa _ _ _ hj, fun hp => (hy hp).alloc _, by simp; omega⟩, V.heap.size, Blk.new _ _ _, rfl⟩
  case body =>
    rintro l' pre x b V ⟨hj, hy, hs⟩ ⟨Bx, bX, rfl⟩ hNx
    rw [keptA] at hNx
    obtain ⟨rfl, rfl⟩ := nextA hNx
    have y0 := (hy rfl).cell 0
    have x0 := bX.cell 0
    have x1 := bX.cell 1
    have x2 := bX.cell 2
    simp at y0 x0 x1 x2
    obtain ⟨fn, tmps, assign, body, hyy, hR⟩ := hY [] evA V hj hNx
    gi_wp2_with fail
    refine ⟨fun h => by simp [Fence.wide] at h, (round_any hR).mono ?_⟩
    rintro e V2 ⟨rfl, hJ2, hk2⟩
    clear hyy hR
    have HJ2 := Lib.hid hJ2
    clear hJ2
    gi_wp2
    exact ⟨⟨hk2.loops.size, fun k o hk => hk2.loops.same k o (by omega)⟩, hk2.t, HJ2.out, by have := hk2.loops.size; omega⟩
  case done =>
    rintro D ys V hD rfl ⟨hj, hy, hs⟩ hK
    have HJ2 := Lib.hid hj
    rw [keptA] at HJ2
    clear hj
    gi_wp2_with fail
    rw [roundsIn_succ]
    gi_wp2_with fail
    refine ⟨by simp, .inl ⟨_, _, rfl, run_takeDeferred hK, ?_⟩⟩
    refine ⟨.tuple #[], by simp [results, Try.results17, go_sem], ⟨_, rfl⟩, ?_⟩
    exact hJs _ _ _ HJ2.out (.inr ⟨D, _, _, by omega, hK, rfl, rfl⟩)

end Go.Proofs.Ytgaknbgmodmniaa
