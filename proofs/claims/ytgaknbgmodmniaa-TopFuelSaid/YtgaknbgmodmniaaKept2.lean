/- Walk of package model's Kept: the events of a source that are kept, in a row of the call's own. -/
import Derived.Test.YtgaknbgmodmniaaKept1
namespace Go.Proofs.Ytgaknbgmodmniaa
open Go.RowKit Go.Shelf
set_option linter.unusedVariables false
set_option linter.unusedSimpArgs false
attribute [local go_sem] Oper.semAt_some

theorem infoEv : (Try.prog.info? 30).map (fun i => (i.zero, i.size, i.bytes)) = some (some (.agg #[.string .empty, .int .i64 0, .int .i64 0]), 3, 32) := by kernel_rfl
/-- A range over a function whose body never leaves: the iterator may turn memory of its own between two rounds (St), as long as nothing but cells turns and the caller's word I stands. -/
theorem range_all {α : Type} {F : Fence} {n : Nat} {P : Program} {g : Operand} {ps : Array Tmp} {assign body : Code} {Q : Exit → Act → World → Prop} {a : Act} {w : World}
    (hro : F.round = none) (h1 : 1 ≤ n) {gf : Nat} {lb : Array Value} (hg : a.eval g = .func (.func gf) #[] lb) (hF : F.fn gf) (eg : ∀ args w, (callFunc gf args).run P w = .ok (.enter gf args) w)
    (encs : α → Array Value) (hps : ∀ x, (encs x).size = ps.size) (I : List α → World → Prop) (R : α → Act → World → Prop) (St Kp : World → World → Prop) (S : List α → Prop)
    (N : Nat) (hSo : ∀ V V' (k : Nat) (o : Obj), St V V' → V.heap[k]? = some o → o.isCells = false → V'.heap[k]? = some o) (hSI : ∀ pre V V', I pre V → St V V' → I pre V')
    (hIa : ∀ pre V o, I pre V → I pre (V.alloc o)) (hIp : ∀ pre V (k : Nat) (o o' : Obj), I pre V → w.heap.size ≤ k → V.heap[k]? = some o → o.isCells = false → I pre (V.putObj k o'))
    (hRp : ∀ x b V (k : Nat) (o o' : Obj), R x b V → w.heap.size ≤ k → V.heap[k]? = some o → o.isCells = false → R x b (V.putObj k o'))
    (hKt : ∀ A B C, Kp A B → Kp B C → Kp A C) (hKp : ∀ V (k : Nat) (o o' : Obj), w.heap.size ≤ k → V.heap[k]? = some o → o.isCells = false → Kp V (V.putObj k o')) (h0 : I [] w)
    (hiter : ∀ (l : Nat) (J : List α → World → Prop) (W : World), Below w.heap.size w W → w.heap.size ≤ W.heap.size → (∀ pre V o, J pre V → J pre (V.alloc o)) → (∀ pre V V', J pre V → St V V' → J pre V') →
      (∀ pre x V, J pre V → pre.length < N → YieldAt F (n - 1 - 1) P l (encs x) V fun e V' => e = .returned (.bool true) ∧ J (pre ++ [x]) V' ∧ Kp V V') → J [] W →
      CallsIn F (n - 1) P gf (#[.func (.yield l) #[] #[]] ++ lb) W fun e V => (∃ v, e = .returned v) ∧ ∃ xs, S xs ∧ J xs V)
    (hassign : ∀ l pre x V, I pre V → assign.wpIn (F.inRound l) (n - 1 - 1) P (Exit.then (fun b V' => KeepsOthers V V' ∧ Kp V V' ∧ I pre V' ∧ R x b V') (fun _ _ _ => False)) { tmps := (ps.zip (encs x)).foldl (fun t (p, v) => t.setIfInBounds p v) a.tmps, defers := [] } V)
    (hbody : ∀ l pre x b V, I pre V → R x b V → pre.length < N → body.wpIn (F.inRound l) (n - 1 - 1) P (fun e _ V' => e = .normal ∧ KeepsOthers V V' ∧ Kp V V' ∧ I (pre ++ [x]) V') b V)
    (hdone : ∀ D xs V, w.heap.size ≤ D → S xs → I xs V → V.heap[D]? = some (.deferred (some [])) → Q .normal { a with defers := { target := .collected D, args := #[] } :: a.defers } V) :
    (Code.rangeFunc g ps assign body).wpIn F n P Q a w := by
  refine wpIn_rangeFunc fun fn hfn => ?_
  rw [hro]
  obtain ⟨rec, hrec⟩ : ∃ rec : LoopState → Loop, rec = fun st => { state := st, pending := none, fn, tmps := a.tmps, params := ps, assign, body, defers := w.heap.size } := ⟨_, rfl⟩
  have hent := run_enterLoop_outer (P := P) (w := w) fn a.tmps ps assign body
  have hD : ((w.alloc (.deferred (some []))).alloc (.loop (rec .ready))).heap[w.heap.size]? = some (.deferred (some [])) := (Below.heap_alloc _ _ _ (by simp)).trans (World.alloc_heap_new w _)
  have hL : ((w.alloc (.deferred (some []))).alloc (.loop (rec .ready))).heap[w.heap.size + 1]? = some (.loop (rec .ready)) := by
    have := World.alloc_heap_new (w.alloc (.deferred (some []))) (.loop (rec .ready))
    rwa [World.size_alloc] at this
  have hB : Below w.heap.size w ((w.alloc (.deferred (some []))).alloc (.loop (rec .ready))) := ((Below.refl _ w).alloc (Nat.le_refl _) _).alloc (by simp) _
  have hI : I [] ((w.alloc (.deferred (some []))).alloc (.loop (rec .ready))) := hIa _ _ _ (hIa _ _ _ h0)
  rw [show ({ state := .ready, pending := none, fn := fn, tmps := a.tmps, params := ps, assign := assign, body := body, defers := w.heap.size } : Loop) = rec .ready by rw [hrec]] at hent
  generalize (w.alloc (.deferred (some []))).alloc (.loop (rec .ready)) = W1 at hent hD hL hB hI
  have hlt : ∀ {V : World} {k : Nat} {o : Obj}, V.heap[k]? = some o → k < V.heap.size := fun h => (Array.getElem?_eq_some_iff.1 h).1
  refine ⟨w.heap.size + 1, _, W1, { target := .fn (.func gf) lb, args := #[.func (.yield (w.heap.size + 1)) #[] #[]] }, W1, gf, #[.func (.yield (w.heap.size + 1)) #[] #[]] ++ lb, W1, hent, ?_, ?_, ?_, fun _ => h1, ?_⟩
  · simp only [resolve, hg]
    simp [go_sem]
  · intro f' hf'
    simp [Target.leads] at hf'
    subst hf'
    exact hF
  · simp [invoke, go_sem, eg]
  refine (hiter (w.heap.size + 1) (fun pre V => I pre V ∧ V.heap[w.heap.size + 1]? = some (.loop (rec .ready)) ∧ V.heap[w.heap.size]? = some (.deferred (some []))) W1 hB hB.size
    (fun pre V o h => ⟨hIa _ _ _ h.1, (Below.heap_alloc _ _ _ (hlt h.2.1)).trans h.2.1, (Below.heap_alloc _ _ _ (hlt h.2.2)).trans h.2.2⟩)
    (fun pre V V' h hS => ⟨hSI _ _ _ h.1 hS, hSo _ _ _ _ hS h.2.1 rfl, hSo _ _ _ _ hS h.2.2 rfl⟩) ?_ ⟨hI, hL, hD⟩).mono ?_
  · rintro pre x V ⟨hi, hl, hd⟩ hN
    have hy := run_yield (P := P) (args := encs x) hl (by rw [hrec]; exact hps x)
    rw [hrec] at hy
    refine ⟨fn, _, assign, body, hy, roundIn_of_wpIn hfn (wpIn_mono (hassign (w.heap.size + 1) pre x V hi) ?_)⟩
    intro e b V1 hp
    cases e with
    | normal =>
      obtain ⟨hk1, hp1, hi1, hr1⟩ := hp
      have hl1 := hk1.same _ _ hl rfl
      have hd1 := hk1.same _ _ hd rfl
      refine ⟨_, run_beginRound hl1 (by rw [hrec]), ?_⟩
      have hl2 : (V1.putObj (w.heap.size + 1) (.loop { rec .ready with state := .busy })).heap[w.heap.size + 1]? = some (.loop { rec .ready with state := .busy }) := World.putObj_heap_same (hlt hl1)
      have hd2 : (V1.putObj (w.heap.size + 1) (.loop { rec .ready with state := .busy })).heap[w.heap.size]? = some (.deferred (some [])) := (World.putObj_heap_other (by omega)).trans hd1
      have hp2 := hKp V1 _ _ (.loop { rec .ready with state := .busy }) (Nat.le_succ _) hl1 rfl
      refine wpIn_mono (hbody (w.heap.size + 1) pre x b _ (hIp _ _ _ _ _ hi1 (Nat.le_succ _) hl1 rfl) (hRp _ _ _ _ _ _ hr1 (Nat.le_succ _) hl1 rfl) hN) ?_
      rintro e b' V3 ⟨rfl, hk3, hp3, hi3⟩
      have hl3 := hk3.same _ _ hl2 rfl
      have hd3 := hk3.same _ _ hd2 rfl
      have hend := run_endRound (P := P) none hl3
      refine ⟨_, _, hend, rfl, ⟨hIp _ _ _ _ _ hi3 (Nat.le_succ _) hl3 rfl, ?_, (World.putObj_heap_other (by omega)).trans hd3⟩, hKt _ _ _ hp1 (hKt _ _ _ hp2 (hKt _ _ _ hp3 (hKp _ _ _ _ (Nat.le_succ _) hl3 rfl)))⟩
      rw [World.putObj_heap_same (hlt hl3), hrec]
      rfl
    | _ => exact hp.elim
  · rintro e V ⟨⟨v, rfl⟩, xs, hS, hi, hl, hd⟩
    have hend := run_endLoop (P := P) hl (by rw [hrec]; simp)
    refine ⟨none, _, by rw [hend, hrec], hdone _ xs _ (Nat.le_refl _) hS (hIp _ _ _ _ _ hi (Nat.le_succ _) hl rfl) ((World.putObj_heap_other (by omega)).trans hd)⟩

/-- 'out = append(out, w)', the variable in a box below the row: what is known behind the store. -/
theorem box_appended {W w1 : World} {n1 B : Nat} {t e : TypeId} {size : Nat} {v v' : Value} {k m : Nat} {xs ys : List Value} {tmp : Obj}
    (hv : Boxed W B t v) (hte : t ≠ e) (hrow : W.ownsRow n1 e size v k xs) (hown' : w1.ownsRow n1 e size v' m ys) (hgrow : (W.alloc tmp).grownBy w1 v.ownBlock) :
    Boxed w1 B t v ∧ Boxed (w1.setCell ⟨B, 0, none⟩ v') B t v' ∧ (w1.setCell ⟨B, 0, none⟩ v').ownsRow n1 e size v' m ys ∧ KeepsOthers W (w1.setCell ⟨B, 0, none⟩ v') ∧
      (∀ b, b < n1 → b < W.heap.size → b ≠ B → (w1.setCell ⟨B, 0, none⟩ v').heap[b]? = W.heap[b]?) ∧ W.heap.size ≤ (w1.setCell ⟨B, 0, none⟩ v').heap.size := by
  have hv1 : Boxed w1 B t v := (hv.alloc tmp).kept hgrow (hv.not_row hte hrow)
  refine ⟨hv1, hv1.set v', hown'.kept (grownBy_setCell' w1 B v') (.inr (hv1.not_row hte hown').symm), ?_, ?_, ?_⟩
  · refine ((KeepsOthers.alloc W tmp).trans (KeepsOthers.of_grownBy hgrow fun j o ej hj => ?_)).trans (KeepsOthers.setCell _ _ _)
    rcases (hrow.alloc tmp).2 with ⟨rfl, _⟩ | ⟨g, cap, cur, rfl, _, hgb, _⟩
    · simp [Value.ownBlock] at ej
    · obtain rfl : g = j := by simpa [Value.ownBlock] using ej
      rw [hgb] at hj; cases hj; rfl
  · intro b hb hlt hne
    rw [Below.heap_setCell _ _ _ _ (by simpa using hne), hgrow.block b (by simp; omega) (fun ej => ?_), Below.heap_alloc _ _ _ hlt]
    rcases hrow.2 with ⟨rfl, _⟩ | ⟨g, cap, cur, rfl, hbg, _, _⟩
    · simp [Value.ownBlock] at ej
    · simp [Value.ownBlock] at ej; omega
  · have h1 := hgrow.size
    simp at h1
    simp [World.setCell]; omega
theorem evs_snoc (l : List Ev) (x : Ev) : evs (l ++ [x]) = evs l ++ [.string x.key, .int .i64 x.at_, .int .i64 x.v] := by simp [evs, Ev.vals]
def keptZ (j : Jb) (ls : List Ev) : List Ev := if checkZ j ls = 0 then keptF j 0 ls else []
/-- What Kept leaves. -/
def KeptPost (j : Jb) (ls : List Ev) (w : World) (e : Ending) (w' : World) : Prop :=
  ∃ v, e = .returned (.tuple #[v, .int .i64 (checkZ j ls)]) ∧ w'.ownsRow w.heap.size 30 3 v (keptZ j ls).length (evs (keptZ j ls)) ∧ Below w.heap.size w w'

set_option maxHeartbeats 1000000 in
theorem kept_in (n : Nat) (j : Jb) (A : Option Addr) (m c : Nat) (w : World) :
    CallsIn Fence.wide n Try.prog 9 #[.agg #[.int .i64 j.groups, .int .i64 j.size, .int .i64 j.slide, .int .i64 j.fold, .int .i64 j.fuel, .int .i64 j.limit, .int .i64 j.delay, .int .i64 j.idle], .slice A m c] w fun e w' =>
      e = .returned (.func (.func 15) #[] #[.pointer (some ⟨w.heap.size, 0, none⟩), .pointer (some ⟨w.heap.size + 1, 0, none⟩)]) ∧
      w' = (w.alloc (.cells #[.int .i64 j.groups, .int .i64 j.size, .int .i64 j.slide, .int .i64 j.fold, .int .i64 j.fuel, .int .i64 j.limit, .int .i64 j.delay, .int .i64 j.idle] 23)).alloc (.cells #[.slice A m c] 24) := by
  refine callsIn_of_wp Try.func9 rfl trivial ?_ rfl
  simp only [Try.ntmps9, List.size_toArray, List.length_cons, List.length_nil, Nat.reduceAdd, Nat.reduceSub, Array.replicate_succ, Array.replicate_zero, List.push_toArray, List.append_toArray, List.nil_append, List.cons_append]
  gi_wp2
  go_ret
  exact ⟨rfl, rfl⟩

set_option maxRecDepth 100000 in
set_option maxHeartbeats 2000000 in
theorem keptYes_in (n : Nat) (hn : 3 ≤ n) (j : Jb) (A : Option Addr) (m c : Nat) (ls : List Ev) (w : World) (hj : j.Wf) (hr : Reads w w.heap.size 3 A m (evs ls)) (hm : m ≤ 1000) (hs : ∀ z ∈ ls, z.key.size ≤ maxLen) (hv : ∀ z ∈ ls, -9223372036854775808 ≤ z.v ∧ z.v ≤ 9223372036854775807) (h0 : checkZ j ls = 0) :
    CallsIn Fence.wide n Try.prog 4 #[.agg #[.int .i64 j.groups, .int .i64 j.size, .int .i64 j.slide, .int .i64 j.fold, .int .i64 j.fuel, .int .i64 j.limit, .int .i64 j.delay, .int .i64 j.idle], .slice A m c] w (KeptPost j ls w) := by
  obtain ⟨i0, hi, hz0, hz1, hz2⟩ := info_parts infoEv
  have HC := Lib.hid h0
  have hkz : keptZ j ls = keptF j 0 ls := if_pos h0
  have HZ := Lib.hid hkz
  clear h0 hkz
  have hn1 : 1 ≤ n := by omega
  have hr2 : ∀ o o', Reads ((w.alloc o).alloc o') ((w.alloc o).alloc o').heap.size 3 A m (evs ls) := fun o o' => reads_alloc (reads_alloc hr)
  have hcell : ∀ o v t, ((w.alloc o).alloc (.cells #[v] t)).cell? ⟨w.heap.size + 1, 0, none⟩ = some v := fun o v t => by simp
  refine callsIn_of_wp_marks Try.func4 rfl trivial ?_ rfl
  simp only [Try.ntmps4, List.size_toArray, List.length_cons, List.length_nil, Nat.reduceAdd, Nat.reduceSub, Array.replicate_succ, Array.replicate_zero, List.push_toArray, List.append_toArray, List.nil_append, List.cons_append]
  gi_wp2_with fail
  refine ⟨trivial, ?_⟩
  refine (callsIn_wide.2 (check_any j ⟨w.heap.size + 1, 0, none⟩ A m c ls _ hj (hcell _ _ _) (by simp) (hr2 _ _) (by omega) hs)).mono ?_
  rw [HC.out]
  rintro e w1 ⟨rfl, hb1⟩
  have y1 := hb1.size
  simp at y1
  have k1 : Below w.heap.size w w1 := next_below (by go_grown) hb1
  have bJ1 : Blk (w1.alloc (.cells #[.slice none 0 0] 24)) w.heap.size 23 #[.int .i64 j.groups, .int .i64 j.size, .int .i64 j.slide, .int .i64 j.fold, .int .i64 j.fuel, .int .i64 j.limit, .int .i64 j.delay, .int .i64 j.idle] := (((Blk.new w 23 #[.int .i64 j.groups, .int .i64 j.size, .int .i64 j.slide, .int .i64 j.fold, .int .i64 j.fuel, .int .i64 j.limit, .int .i64 j.delay, .int .i64 j.idle]).alloc _).below hb1 (by simp; omega)).alloc _
  have j0 : (w1.alloc (.cells #[.slice none 0 0] 24)).cell? ⟨w.heap.size, 0, none⟩ = some (.int .i64 j.groups) := bJ1.cell 0
  have j1 : (w1.alloc (.cells #[.slice none 0 0] 24)).cell? ⟨w.heap.size, 1, none⟩ = some (.int .i64 j.size) := bJ1.cell 1
  have j2 : (w1.alloc (.cells #[.slice none 0 0] 24)).cell? ⟨w.heap.size, 2, none⟩ = some (.int .i64 j.slide) := bJ1.cell 2
  have j3 : (w1.alloc (.cells #[.slice none 0 0] 24)).cell? ⟨w.heap.size, 3, none⟩ = some (.int .i64 j.fold) := bJ1.cell 3
  have j4 : (w1.alloc (.cells #[.slice none 0 0] 24)).cell? ⟨w.heap.size, 4, none⟩ = some (.int .i64 j.fuel) := bJ1.cell 4
  have j5 : (w1.alloc (.cells #[.slice none 0 0] 24)).cell? ⟨w.heap.size, 5, none⟩ = some (.int .i64 j.limit) := bJ1.cell 5
  have j6 : (w1.alloc (.cells #[.slice none 0 0] 24)).cell? ⟨w.heap.size, 6, none⟩ = some (.int .i64 j.delay) := bJ1.cell 6
  have j7 : (w1.alloc (.cells #[.slice none 0 0] 24)).cell? ⟨w.heap.size, 7, none⟩ = some (.int .i64 j.idle) := bJ1.cell 7
  gi_wp2_with (refine ⟨trivial, ?_⟩; gi_at_call 9; refine (kept_in _ j _ _ _ _).mono ?_; rintro e w' ⟨rfl, rfl⟩)
  have bO := (((Boxed.new w1 24 (.slice none 0 0)).alloc (.cells #[.int .i64 j.groups, .int .i64 j.size, .int .i64 j.slide, .int .i64 j.fold, .int .i64 j.fuel, .int .i64 j.limit, .int .i64 j.delay, .int .i64 j.idle] 23)).alloc (.cells #[.slice A m c] 24))
  have bJ : Blk (((w1.alloc (.cells #[.slice none 0 0] 24)).alloc (.cells #[.int .i64 j.groups, .int .i64 j.size, .int .i64 j.slide, .int .i64 j.fold, .int .i64 j.fuel, .int .i64 j.limit, .int .i64 j.delay, .int .i64 j.idle] 23)).alloc (.cells #[.slice A m c] 24)) (w1.heap.size + 1) 23 #[.int .i64 j.groups, .int .i64 j.size, .int .i64 j.slide, .int .i64 j.fold, .int .i64 j.fuel, .int .i64 j.limit, .int .i64 j.delay, .int .i64 j.idle] := by simpa using (Blk.new (w1.alloc (.cells #[.slice none 0 0] 24)) 23 #[.int .i64 j.groups, .int .i64 j.size, .int .i64 j.slide, .int .i64 j.fold, .int .i64 j.fuel, .int .i64 j.limit, .int .i64 j.delay, .int .i64 j.idle]).alloc _
  have bL : (((w1.alloc (.cells #[.slice none 0 0] 24)).alloc (.cells #[.int .i64 j.groups, .int .i64 j.size, .int .i64 j.slide, .int .i64 j.fold, .int .i64 j.fuel, .int .i64 j.limit, .int .i64 j.delay, .int .i64 j.idle] 23)).alloc (.cells #[.slice A m c] 24)).cell? ⟨w1.heap.size + 1 + 1, 0, none⟩ = some (.slice A m c) := by simpa using (Blk.new ((w1.alloc (.cells #[.slice none 0 0] 24)).alloc (.cells #[.int .i64 j.groups, .int .i64 j.size, .int .i64 j.slide, .int .i64 j.fold, .int .i64 j.fuel, .int .i64 j.limit, .int .i64 j.delay, .int .i64 j.idle] 23)) 24 #[.slice A m c]).cell 0
  have hB0 : Below w.heap.size w (((w1.alloc (.cells #[.slice none 0 0] 24)).alloc (.cells #[.int .i64 j.groups, .int .i64 j.size, .int .i64 j.slide, .int .i64 j.fold, .int .i64 j.fuel, .int .i64 j.limit, .int .i64 j.delay, .int .i64 j.idle] 23)).alloc (.cells #[.slice A m c] 24)) := by go_grown
  have hsz : (((w1.alloc (.cells #[.slice none 0 0] 24)).alloc (.cells #[.int .i64 j.groups, .int .i64 j.size, .int .i64 j.slide, .int .i64 j.fold, .int .i64 j.fuel, .int .i64 j.limit, .int .i64 j.delay, .int .i64 j.idle] 23)).alloc (.cells #[.slice A m c] 24)).heap.size = w1.heap.size + 3 := by simp
  clear j0 j1 j2 j3 j4 j5 j6 j7 bJ1 hb1
  generalize ((w1.alloc (.cells #[.slice none 0 0] 24)).alloc (.cells #[.int .i64 j.groups, .int .i64 j.size, .int .i64 j.slide, .int .i64 j.fold, .int .i64 j.fuel, .int .i64 j.limit, .int .i64 j.delay, .int .i64 j.idle] 23)).alloc (.cells #[.slice A m c] 24) = W0 at *
  have hrd := hr.below hB0
  have lO := bO.lt
  refine range_all rfl hn1 (gf := 15) (lb := #[.pointer (some ⟨w1.heap.size + 1, 0, none⟩), .pointer (some ⟨w1.heap.size + 1 + 1, 0, none⟩)]) rfl trivial (enters_of Try.func15 (by kernel_rfl) rfl)
    (fun x : Ev => #[.agg #[.string x.key, .int .i64 x.at_, .int .i64 x.v]]) (fun _ => rfl)
    (fun pre W => ∃ v, Boxed W w1.heap.size 24 v ∧ W.ownsRow (w1.heap.size + 3) 30 3 v pre.length (evs pre) ∧ Below w.heap.size w W ∧ w1.heap.size + 3 ≤ W.heap.size)
    (fun x b W => ∃ Bx, Blk W Bx 30 #[.string x.key, .int .i64 x.at_, .int .i64 x.v] ∧ b = { tmps := #[.agg #[.int .i64 j.groups, .int .i64 j.size, .int .i64 j.slide, .int .i64 j.fold, .int .i64 j.fuel, .int .i64 j.limit, .int .i64 j.delay, .int .i64 j.idle], .slice A m c, .pointer (some ⟨w.heap.size, 0, none⟩), undef, .slice none 0 0, .int .i64 0, .int .i64 0, .pointer (some ⟨w1.heap.size, 0, none⟩), .pointer (some ⟨Bx, 0, none⟩), .agg #[.int .i64 j.groups, .int .i64 j.size, .int .i64 j.slide, .int .i64 j.fold, .int .i64 j.fuel, .int .i64 j.limit, .int .i64 j.delay, .int .i64 j.idle], .slice A m c, .slice (some ⟨w.heap.size + 1, 0, none⟩) 1 1, .int .i64 0, .int .i64 0, .bool false, undef, .agg #[.int .i64 j.groups, .int .i64 j.size, .int .i64 j.slide, .int .i64 j.fold, .int .i64 j.fuel, .int .i64 j.limit, .int .i64 j.delay, .int .i64 j.idle], .slice A m c, .func (.func 15) #[] #[.pointer (some ⟨w1.heap.size + 1, 0, none⟩), .pointer (some ⟨w1.heap.size + 1 + 1, 0, none⟩)], .agg #[.string x.key, .int .i64 x.at_, .int .i64 x.v], undef, undef, undef, undef, undef], defers := [] })
    (Sib w.heap.size) (KeepT w.heap.size) (fun xs => xs = keptF j 0 ls) m ?so ?si ?ia ?ip ?rp ?kt ?kp ?h0 ?iter ?assign ?body ?done
  case so =>
    rintro V V' k o ⟨sb, cs, hsb, bS, hT⟩ hk ho
    refine (hT.keep k (Array.getElem?_eq_some_iff.1 hk).1 (fun e => ?_) (by simp [Value.ownBlock])).trans hk
    subst e
    rw [show V.heap[k]? = _ from bS] at hk
    cases hk
    cases ho
  case si =>
    rintro pre V V' ⟨v, hv, ho, hb, hs⟩ ⟨sb, cs, hsb, bS, hT⟩
    have n1 : w1.heap.size ≠ sb := fun e => by
      subst e
      have := (show V.heap[w1.heap.size]? = _ from hv).symm.trans bS
      simp at this
    refine ⟨v, (hT.keep _ hv.lt n1 (by simp [Value.ownBlock])).trans hv, ?_, hT.lift _ _ hb hsb hsb (by omega), Nat.le_trans hs hT.size⟩
    refine ⟨ho.1, ?_⟩
    rcases ho.2 with h | ⟨g, cap, cur, e1, e2, e3, e4⟩
    · exact .inl h
    · refine .inr ⟨g, cap, cur, e1, e2, (hT.keep g (Array.getElem?_eq_some_iff.1 e3).1 (fun e => ?_) (by simp [Value.ownBlock])).trans e3, e4⟩
      subst e
      have := e3.symm.trans bS
      simp at this
  case ia =>
    rintro pre V o ⟨v, hv, ho, hb, hs⟩
    exact ⟨v, hv.alloc o, ho.alloc o, hb.alloc hb.size o, by simp; omega⟩
  case ip =>
    rintro pre V k o o' ⟨v, hv, ho, hb, hs⟩ hk hko hoc
    have hkl := (Array.getElem?_eq_some_iff.1 hko).1
    refine ⟨v, (World.putObj_heap_other (by omega)).trans hv, ?_, hb.trans ((Below.refl _ V).grown (grownBy_putObj' V k o') (by have := hb.size; omega) (fun q e => by have := hB0.size; cases e; omega)), by simpa using hs⟩
    refine ⟨ho.1, ?_⟩
    rcases ho.2 with h | ⟨g, cap, cur, e1, e2, e3, e4⟩
    · exact .inl h
    · refine .inr ⟨g, cap, cur, e1, e2, (World.putObj_heap_other (fun e => ?_)).trans e3, e4⟩
      subst e
      rw [e3] at hko
      cases hko
      cases hoc
  case rp =>
    rintro x b V k o o' ⟨Bx, hB, hb⟩ hk hko hoc
    refine ⟨Bx, (World.putObj_heap_other (fun e => ?_)).trans hB, hb⟩
    subst e
    rw [show V.heap[Bx]? = _ from hB] at hko
    cases hko
    cases hoc
  case kt => exact fun A B C h k => ⟨h.below.trans k.below, fun b cs hb => k.src b cs (h.src b cs hb)⟩
  case kp =>
    intro V k o o' hk hko hoc
    have hwl : w.heap.size ≤ k := by have := hB0.size; omega
    refine ⟨(Below.refl _ V).grown (grownBy_putObj' V k o') (by have := (Array.getElem?_eq_some_iff.1 hko).1; omega) (fun q e => by cases e; omega), fun b cs hb => (World.putObj_heap_other (fun e => ?_)).trans hb⟩
    subst e
    rw [show V.heap[b]? = _ from hb] at hko
    cases hko
    cases hoc
  case h0 => exact ⟨_, bO, World.ownsRow_nil _ _ _ _, hB0, by omega⟩
  case iter =>
    intro l J W hW hWs hJa hJs hY hJ0
    refine (kept1_in (n - 1) (by omega) l (w1.heap.size + 1) (w1.heap.size + 1 + 1) w.heap.size j A m c ls hv (by omega) hj J hJa hJs hY W (bJ.below hW (by omega)) ((hW.cell (p := ⟨w1.heap.size + 1 + 1, 0, none⟩) (by simp; omega)).trans bL) (by omega) (by have := hB0.size; omega) (hr.below (hB0.trans (hW.mono (by omega)))) hJ0).mono ?_
    rintro e V ⟨hv, hJ⟩
    exact ⟨hv, _, rfl, hJ⟩
  case assign =>
    rintro l pre x V ⟨v, hv, ho, hb, hs⟩
    gi_wp2
    exact ⟨KeepsOthers.alloc _ _, ⟨(Below.refl _ V).alloc hb.size _, fun b cs hb => hb.alloc _⟩, ⟨v, hv.alloc _, ho.alloc _, hb.alloc hb.size _, by simp; omega⟩, V.heap.size, Blk.new _ _ _, rfl⟩
  case body =>
    rintro l pre x b V ⟨v, hv, hrow, hb, hs⟩ ⟨Bx, bX, rfl⟩ hlt
    have hc := hv.cell
    have x0 := bX.cell 0
    have x1 := bX.cell 1
    have x2 := bX.cell 2
    simp at x0 x1 x2
    have hsW := hb.size
    gi_wp2_with (gi_at_builtin; refine wpListIn_append_own _ rfl (.tmp 20) (.tmp 22) 24 rfl (w1.heap.size + 3) 30 i0 _ 3 32 Try.underlying24 hi hz0 hz1 hz2 rfl (by decide) _ _ _ rfl (hrow.alloc _) ⟨V.heap.size, 0, none⟩ 1 1 [.string x.key, .int .i64 x.at_, .int .i64 x.v] rfl rfl (cell_new V _ #[.string x.key, .int .i64 x.at_, .int .i64 x.v]) (by simp [Value.oneCell']) (by unfold maxLen; omega) (by omega) (by simp; omega) ?_; intro v' w2 hown' hgrow _; obtain ⟨g', cap', rfl⟩ := own_succ hown'; obtain ⟨hv1, hv2, hr2', hk2, hb2, hz2'⟩ := box_appended hv (by decide) hrow hown' hgrow; have hc1 := hv1.cell; have hf1 := hv1.frozen)
    have hsB := hB0.size
    have hgrow' : (V.alloc (.cells #[.string x.key, .int .i64 x.at_, .int .i64 x.v] 30)).grownBy w2 v.ownBlock := hgrow
    clear hgrow
    have hz3 := hz2'
    simp at hz3
    have hgr : ∀ k, (Value.ownBlock v) = some k → w.heap.size ≤ k := fun k hk => by have := (hrow.lt k hk).1; omega
    refine ⟨⟨(((Below.refl w.heap.size V).alloc hb.size _).grown hgrow' (by simp; omega) hgr).setCell (p := ⟨w1.heap.size, 0, none⟩) (by simp; omega) _, fun b cs hbk => ((hbk.alloc _).grown hgrow' (fun e => ?_)).far (p := ⟨w1.heap.size, 0, none⟩) (fun e => ?_) _⟩, _, hv2, ?_, ?_, by omega⟩
    · rcases hrow.2 with ⟨rfl, _⟩ | ⟨g, cap, cur, rfl, _, e3, _⟩
      · simp [Value.ownBlock] at e
      · obtain rfl : b = g := by simpa [Value.ownBlock] using e
        have := e3.symm.trans hbk
        simp at this
    · simp at e
      subst e
      have := (show V.heap[w1.heap.size]? = _ from hv).symm.trans hbk
      simp at this
    · rw [evs_snoc]
      simpa using hr2'
    · exact ((hb.alloc hb.size _).grown hgrow' (by simp; omega) (fun k hk => by have := (hrow.lt k hk).1; omega)).setCell (p := ⟨w1.heap.size, 0, none⟩) (by simp; omega) _
  case done =>
    rintro D ys W hD rfl ⟨v, hv, hrow, hB1, hs4⟩ hK
    have hc := hv.cell
    obtain ⟨A2, c2, rfl⟩ := own_form hrow
    gi_wp2
    refine ⟨by simp, .inl ⟨_, _, rfl, run_takeDeferred hK, ?_⟩⟩
    refine ⟨.tuple #[.slice A2 (keptF j 0 ls).length c2, .int .i64 0], by simp [results, Try.results4, go_sem], ?_⟩
    unfold KeptPost
    rw [HC.out, HZ.out]
    have hwD : w.heap.size ≤ D := by have := hB0.size; omega
    exact ⟨_, rfl, ownsRow_putObj (own_mono hrow (by have := k1.size; omega)) _ hK rfl, hB1.trans (belowK_b (w := w) (Nat.le_refl _) W D _ _ hwD hK rfl rfl)⟩

theorem kept_yes (j : Jb) (A : Option Addr) (m c : Nat) (ls : List Ev) (w : World) (hj : j.Wf) (hr : Reads w w.heap.size 3 A m (evs ls)) (hm : m ≤ 1000) (hs : ∀ z ∈ ls, z.key.size ≤ maxLen) (hv : ∀ z ∈ ls, -9223372036854775808 ≤ z.v ∧ z.v ≤ 9223372036854775807) (h0 : checkZ j ls = 0) :
    Calls Try.prog 4 #[.agg #[.int .i64 j.groups, .int .i64 j.size, .int .i64 j.slide, .int .i64 j.fold, .int .i64 j.fuel, .int .i64 j.limit, .int .i64 j.delay, .int .i64 j.idle], .slice A m c] w (KeptPost j ls w) := callsIn_wide.1 (keptYes_in 3 (Nat.le_refl _) j A m c ls w hj hr hm hs hv h0)
set_option maxHeartbeats 1000000 in
theorem kept_any (j : Jb) (A : Option Addr) (m c : Nat) (ls : List Ev) (w : World) (hj : j.Wf) (hr : Reads w w.heap.size 3 A m (evs ls)) (hm : m ≤ 1000) (hs : ∀ z ∈ ls, z.key.size ≤ maxLen) (hv : ∀ z ∈ ls, -9223372036854775808 ≤ z.v ∧ z.v ≤ 9223372036854775807) :
    Calls Try.prog 4 #[.agg #[.int .i64 j.groups, .int .i64 j.size, .int .i64 j.slide, .int .i64 j.fold, .int .i64 j.fuel, .int .i64 j.limit, .int .i64 j.delay, .int .i64 j.idle], .slice A m c] w (KeptPost j ls w) := by
  by_cases h0 : checkZ j ls = 0
  · exact kept_yes j A m c ls w hj hr hm hs hv h0
  have hkz : keptZ j ls = [] := if_neg h0
  unfold KeptPost
  rw [hkz]
  clear hkz
  have hr2 : ∀ o o', Reads ((w.alloc o).alloc o') ((w.alloc o).alloc o').heap.size 3 A m (evs ls) := fun o o' => reads_alloc (reads_alloc hr)
  have hcell : ∀ o v t, ((w.alloc o).alloc (.cells #[v] t)).cell? ⟨w.heap.size + 1, 0, none⟩ = some v := fun o v t => by simp
  obtain ⟨z, hz⟩ : ∃ z, checkZ j ls = z := ⟨_, rfl⟩
  have HC := Lib.hid hz
  rw [hz] at h0 ⊢
  have hz0 : (z != 0) = true := by simpa using h0
  clear hz h0
  go_enter Try.func4, Try.ntmps4
  go_wp2_with fail
  refine (check_any j ⟨w.heap.size + 1, 0, none⟩ A m c ls _ hj (hcell _ _ _) (by simp) (hr2 _ _) (by omega) hs).mono ?_
  rw [HC.out]
  rintro e w1 ⟨rfl, hb1⟩
  have k1 : Below w.heap.size w w1 := next_below (by go_grown) hb1
  go_wp2
  refine bodyPost_ret (v := .tuple #[.slice none 0 0, .int .i64 z]) (by simp [results, Try.results4, go_sem]) rfl ?_
  exact ⟨_, rfl, World.ownsRow_nil _ _ _ _, k1⟩

end Go.Proofs.Ytgaknbgmodmniaa
