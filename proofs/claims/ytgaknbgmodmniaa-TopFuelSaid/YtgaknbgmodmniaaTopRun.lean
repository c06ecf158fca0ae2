/- Walk of package model's Run at the one job and the one event, and of alive. -/
import Derived.Test.YtgaknbgmodmniaaTopRn1
import Derived.Laws.EntriesVeiled
namespace Go.Proofs.Ytgaknbgmodmniaa
open Go.RowKit Go.Shelf
set_option linter.unusedVariables false
set_option linter.unusedSimpArgs false
attribute [local go_sem] Oper.semAt_some

/-- What a gatherer has, behind what it took. -/
def GatS (gb : Nat) : List Ev → World → Prop
  | [], V => Blk V gb 58 (gatC (.slice none 0 0))
  | _ :: _, V => ∃ g c, Blk V gb 58 (gatC (.slice (some ⟨g, 0, none⟩) 1 c)) ∧ PanAt V g ∧ 1 ≤ c
/-- Blocks of cells lie as they lay, but for sources of package model. -/
def KeepC (V V' : World) : Prop := ∀ b t cs, t ≠ 53 → Blk V b t cs → Blk V' b t cs
theorem GatS.keep {gb : Nat} {pre : List Ev} {V V' : World} (h : GatS gb pre V) (hk : KeepC V V') : GatS gb pre V' := by
  cases pre with
  | nil => exact hk _ _ _ (by decide) h
  | cons x l =>
    obtain ⟨g, c, h1, ⟨cur, h2, h3⟩, h4⟩ := h
    exact ⟨g, c, hk _ _ _ (by decide) h1, ⟨cur, hk _ _ _ (by decide) h2, h3⟩, h4⟩
theorem keepC_alloc (V : World) (o : Obj) : KeepC V (V.alloc o) := fun _ _ _ _ h => h.alloc o
theorem keepC_put {V : World} {k : Nat} {o o' : Obj} (hk : V.heap[k]? = some o) (ho : o.isCells = false) : KeepC V (V.putObj k o') := fun b t cs _ h => by
  refine (World.putObj_heap_other (fun e => ?_)).trans h
  subst e
  rw [show V.heap[b]? = _ from h] at hk
  cases hk
  cases ho
theorem keepC_sib {gb : Nat} {V V' : World} (h : Sib gb V V') : KeepC V V' := fun b t cs ht hb => by
  obtain ⟨sb, cs', hsb, bS, hT⟩ := h
  refine (hT.keep b hb.lt (fun e => ?_) (by simp [Value.ownBlock])).trans hb
  exact hb.ne_ bS ht e
/-- A world behind another one, in which but the gatherer has turned. -/
structure GatF (gb : Nat) (W0 V : World) : Prop where
  own : W0.grownBy V (some gb)
theorem GatF.alloc {gb : Nat} {W0 V : World} (h : GatF gb W0 V) (o : Obj) : GatF gb W0 (V.alloc o) := ⟨only_alloc h.own o⟩
theorem GatF.put {gb k : Nat} {W0 V : World} (h : GatF gb W0 V) (hk : W0.heap.size ≤ k) (o' : Obj) : GatF gb W0 (V.putObj k o') :=
  ⟨h.own.os, h.own.tape, h.own.output, by simpa using h.own.size, fun i hi hne => (World.putObj_heap_other (by omega)).trans (h.own.block i hi hne)⟩
theorem GatF.blk {gb b : Nat} {W0 V : World} {t : TypeId} {cs : Array Value} (h : GatF gb W0 V) (hb : Blk W0 b t cs) (hne : b ≠ gb) : Blk V b t cs := (h.own.block b hb.lt (by simpa using hne)).trans hb
theorem GatF.sib {gb : Nat} {W0 V V' : World} {t7 t9 : TypeId} {c7 c9 : Array Value} (h : GatF gb W0 V) (hz : W0.heap.size = gb + 3) (b7 : Blk W0 (gb + 1) t7 c7) (b9 : Blk W0 (gb + 2) t9 c9) (n7 : t7 ≠ 53) (n9 : t9 ≠ 53) {t0 : TypeId} {c0 : Array Value} (b0 : Blk V gb t0 c0) (n0 : t0 ≠ 53) (hS : Sib gb V V') : GatF gb W0 V' := by
  have v7 := h.blk b7 (by omega)
  have v9 := h.blk b9 (by omega)
  have w7 := keepC_sib hS _ _ _ n7 v7
  have w9 := keepC_sib hS _ _ _ n9 v9
  obtain ⟨sb, cs, hsb, bS, hT⟩ := hS
  have hb : Below gb W0 V := ⟨h.own.os, h.own.tape, h.own.output, h.own.size, fun i hi => h.own.block i (by omega) (by simp; omega)⟩
  have hb' := hT.lift gb W0 hb hsb hsb (by have := h.own.size; omega)
  refine ⟨hb'.os, hb'.tape, hb'.output, hb'.size, fun i hi hne => ?_⟩
  rcases (show i < gb ∨ i = gb ∨ i = gb + 1 ∨ i = gb + 2 by omega) with hh | rfl | rfl | rfl
  · exact hb'.block i hh
  · exact absurd rfl hne
  · exact (show V'.heap[gb + 1]? = _ from w7).trans b7.symm
  · exact (show V'.heap[gb + 2]? = _ from w9).trans b9.symm
theorem GatS.blk {gb : Nat} {pre : List Ev} {V : World} (h : GatS gb pre V) : ∃ cs, Blk V gb 58 cs := by
  cases pre with
  | nil => exact ⟨_, h⟩
  | cons x l =>
    obtain ⟨g, c, h1, _⟩ := h
    exact ⟨_, h1⟩
theorem checkA : checkZ jobA [evA] = 0 := by decide
theorem jobA_wf : jobA.Wf := ⟨by simp [jobA], by simp [jobA], by simp [jobA]⟩

set_option maxRecDepth 100000 in
set_option maxHeartbeats 2000000 in
theorem runA_in (n : Nat) (hn : 5 ≤ n) (ad : Addr) (A : Option Addr) (c : Nat) (w : World) (cI : w.cell? ad = some (.slice A 1 c)) (had : ad.block < w.heap.size) (hr : Reads w w.heap.size 3 A 1 (evs [evA])) :
    CallsIn Fence.wide n Try.prog 10 #[.agg #[.int .i64 1, .int .i64 1, .int .i64 1, .int .i64 2, .int .i64 0, .int .i64 0, .int .i64 0, .int .i64 0], .slice (some ad) 1 1] w fun e w' => ∃ B d, e = .returned (.tuple #[.slice B 1 d, .int .i64 0]) ∧ Below w.heap.size w w' := by
  have hn1 : 1 ≤ n := by omega
  have hck := fun (V : World) (h1 : V.cell? ad = some (.slice A 1 c)) (h2 : ad.block < V.heap.size) (h3 : Reads V V.heap.size 3 A 1 (evs [evA])) => check_any jobA ad A 1 c [evA] V jobA_wf h1 h2 h3 (by omega) (by intro z hz; simp at hz; subst hz; simp [evA, maxLen]; try decide)
  rw [checkA] at hck
  simp only [jobA] at hck
  have HCK := Lib.hid hck
  clear hck
  have hrV : Reads ((((w.alloc (.cells #[.int .i64 1, .int .i64 1, .int .i64 1, .int .i64 2, .int .i64 0, .int .i64 0, .int .i64 0, .int .i64 0] 23)).alloc (.cells #[.slice (some ad) 1 1] 36)).alloc (.cells #[.slice none 0 0] 40)).alloc (.cells #[.int .i64 0] 25)) ((((w.alloc (.cells #[.int .i64 1, .int .i64 1, .int .i64 1, .int .i64 2, .int .i64 0, .int .i64 0, .int .i64 0, .int .i64 0] 23)).alloc (.cells #[.slice (some ad) 1 1] 36)).alloc (.cells #[.slice none 0 0] 40)).alloc (.cells #[.int .i64 0] 25)).heap.size 3 A 1 (evs [evA]) := reads_alloc (reads_alloc (reads_alloc (reads_alloc hr)))
  have hcV : ((((w.alloc (.cells #[.int .i64 1, .int .i64 1, .int .i64 1, .int .i64 2, .int .i64 0, .int .i64 0, .int .i64 0, .int .i64 0] 23)).alloc (.cells #[.slice (some ad) 1 1] 36)).alloc (.cells #[.slice none 0 0] 40)).alloc (.cells #[.int .i64 0] 25)).cell? ad = some (.slice A 1 c) := by
    rw [World.cell?_alloc_lt _ _ _ (by simp; omega), World.cell?_alloc_lt _ _ _ (by simp; omega), World.cell?_alloc_lt _ _ _ (by simp; omega), World.cell?_alloc_lt _ _ _ (by omega)]
    exact cI
  have haV : ad.block < ((((w.alloc (.cells #[.int .i64 1, .int .i64 1, .int .i64 1, .int .i64 2, .int .i64 0, .int .i64 0, .int .i64 0, .int .i64 0] 23)).alloc (.cells #[.slice (some ad) 1 1] 36)).alloc (.cells #[.slice none 0 0] 40)).alloc (.cells #[.int .i64 0] 25)).heap.size := by simp; omega
  have bJ : Blk ((((w.alloc (.cells #[.int .i64 1, .int .i64 1, .int .i64 1, .int .i64 2, .int .i64 0, .int .i64 0, .int .i64 0, .int .i64 0] 23)).alloc (.cells #[.slice (some ad) 1 1] 36)).alloc (.cells #[.slice none 0 0] 40)).alloc (.cells #[.int .i64 0] 25)) w.heap.size 23 #[.int .i64 1, .int .i64 1, .int .i64 1, .int .i64 2, .int .i64 0, .int .i64 0, .int .i64 0, .int .i64 0] := (((Blk.new w _ _).alloc _).alloc _).alloc _
  have bI : Blk ((((w.alloc (.cells #[.int .i64 1, .int .i64 1, .int .i64 1, .int .i64 2, .int .i64 0, .int .i64 0, .int .i64 0, .int .i64 0] 23)).alloc (.cells #[.slice (some ad) 1 1] 36)).alloc (.cells #[.slice none 0 0] 40)).alloc (.cells #[.int .i64 0] 25)) (w.heap.size + 1) 36 #[.slice (some ad) 1 1] := by simpa using ((Blk.new (w.alloc (.cells #[.int .i64 1, .int .i64 1, .int .i64 1, .int .i64 2, .int .i64 0, .int .i64 0, .int .i64 0, .int .i64 0] 23)) 36 #[.slice (some ad) 1 1]).alloc (.cells #[.slice none 0 0] 40)).alloc (.cells #[.int .i64 0] 25)
  have bR : Blk ((((w.alloc (.cells #[.int .i64 1, .int .i64 1, .int .i64 1, .int .i64 2, .int .i64 0, .int .i64 0, .int .i64 0, .int .i64 0] 23)).alloc (.cells #[.slice (some ad) 1 1] 36)).alloc (.cells #[.slice none 0 0] 40)).alloc (.cells #[.int .i64 0] 25)) (w.heap.size + 2) 40 #[.slice none 0 0] := by simpa using (Blk.new ((w.alloc (.cells #[.int .i64 1, .int .i64 1, .int .i64 1, .int .i64 2, .int .i64 0, .int .i64 0, .int .i64 0, .int .i64 0] 23)).alloc (.cells #[.slice (some ad) 1 1] 36)) 40 #[.slice none 0 0]).alloc (.cells #[.int .i64 0] 25)
  have bE : Blk ((((w.alloc (.cells #[.int .i64 1, .int .i64 1, .int .i64 1, .int .i64 2, .int .i64 0, .int .i64 0, .int .i64 0, .int .i64 0] 23)).alloc (.cells #[.slice (some ad) 1 1] 36)).alloc (.cells #[.slice none 0 0] 40)).alloc (.cells #[.int .i64 0] 25)) (w.heap.size + 3) 25 #[.int .i64 0] := by simpa using Blk.new (((w.alloc (.cells #[.int .i64 1, .int .i64 1, .int .i64 1, .int .i64 2, .int .i64 0, .int .i64 0, .int .i64 0, .int .i64 0] 23)).alloc (.cells #[.slice (some ad) 1 1] 36)).alloc (.cells #[.slice none 0 0] 40)) 25 #[.int .i64 0]
  have k1 : Below w.heap.size w ((((w.alloc (.cells #[.int .i64 1, .int .i64 1, .int .i64 1, .int .i64 2, .int .i64 0, .int .i64 0, .int .i64 0, .int .i64 0] 23)).alloc (.cells #[.slice (some ad) 1 1] 36)).alloc (.cells #[.slice none 0 0] 40)).alloc (.cells #[.int .i64 0] 25)) := by go_grown
  have hsz : ((((w.alloc (.cells #[.int .i64 1, .int .i64 1, .int .i64 1, .int .i64 2, .int .i64 0, .int .i64 0, .int .i64 0, .int .i64 0] 23)).alloc (.cells #[.slice (some ad) 1 1] 36)).alloc (.cells #[.slice none 0 0] 40)).alloc (.cells #[.int .i64 0] 25)).heap.size = w.heap.size + 4 := by simp
  refine callsIn_of_wp_marks Try.func10 rfl trivial ?_ rfl
  simp only [Try.ntmps10, List.size_toArray, List.length_cons, List.length_nil, Nat.reduceAdd, Nat.reduceSub, Array.replicate_succ, Array.replicate_zero, List.push_toArray, List.append_toArray, List.nil_append, List.cons_append]
  gi_wp2_with fail
  refine ⟨trivial, ?_⟩
  refine (callsIn_wide.2 (HCK.out _ hcV haV hrV)).mono ?_
  rintro e w1 ⟨rfl, hb1⟩
  generalize ((((w.alloc (.cells #[.int .i64 1, .int .i64 1, .int .i64 1, .int .i64 2, .int .i64 0, .int .i64 0, .int .i64 0, .int .i64 0] 23)).alloc (.cells #[.slice (some ad) 1 1] 36)).alloc (.cells #[.slice none 0 0] 40)).alloc (.cells #[.int .i64 0] 25)) = V at *
  have bJ1 := bJ.below hb1 bJ.lt
  have bI1 := bI.below hb1 bI.lt
  have bR1 := bR.below hb1 bR.lt
  have bE1 := bE.below hb1 bE.lt
  have y1 := hb1.size
  have k2 := next_below k1 hb1
  have j0 : w1.cell? ⟨w.heap.size, 0, none⟩ = some (.int .i64 1) := bJ1.cell 0
  have j1 : w1.cell? ⟨w.heap.size, 1, none⟩ = some (.int .i64 1) := bJ1.cell 1
  have j2 : w1.cell? ⟨w.heap.size, 2, none⟩ = some (.int .i64 1) := bJ1.cell 2
  have j3 : w1.cell? ⟨w.heap.size, 3, none⟩ = some (.int .i64 2) := bJ1.cell 3
  have j4 : w1.cell? ⟨w.heap.size, 4, none⟩ = some (.int .i64 0) := bJ1.cell 4
  have j5 : w1.cell? ⟨w.heap.size, 5, none⟩ = some (.int .i64 0) := bJ1.cell 5
  have j6 : w1.cell? ⟨w.heap.size, 6, none⟩ = some (.int .i64 0) := bJ1.cell 6
  have j7 : w1.cell? ⟨w.heap.size, 7, none⟩ = some (.int .i64 0) := bJ1.cell 7
  clear hrV hcV haV bJ bI bR bE
  gi_wp2_with fail
  have hW0 : Below w.heap.size w (((w1.alloc (.cells #[.int .i64 1, .int .i64 1, .int .i64 1, .int .i64 2, .int .i64 0, .int .i64 0, .int .i64 0, .int .i64 0, .slice none 0 0, .int .i64 0] 58)).alloc (.cells #[.pointer (some ⟨w1.heap.size, 0, none⟩)] 55)).alloc (.cells #[(.func (.func 18) #[.pointer (some ⟨w1.heap.size, 0, none⟩)] #[])] 49)) := ((k2.alloc k2.size _).alloc (by have := k2.size; simp; omega) _).alloc (by have := k2.size; simp; omega) _
  have b6 : Blk (((w1.alloc (.cells #[.int .i64 1, .int .i64 1, .int .i64 1, .int .i64 2, .int .i64 0, .int .i64 0, .int .i64 0, .int .i64 0, .slice none 0 0, .int .i64 0] 58)).alloc (.cells #[.pointer (some ⟨w1.heap.size, 0, none⟩)] 55)).alloc (.cells #[(.func (.func 18) #[.pointer (some ⟨w1.heap.size, 0, none⟩)] #[])] 49)) w1.heap.size 58 (gatC (.slice none 0 0)) := ((Blk.new w1 58 (gatC (.slice none 0 0))).alloc _).alloc _
  have b7 : Blk (((w1.alloc (.cells #[.int .i64 1, .int .i64 1, .int .i64 1, .int .i64 2, .int .i64 0, .int .i64 0, .int .i64 0, .int .i64 0, .slice none 0 0, .int .i64 0] 58)).alloc (.cells #[.pointer (some ⟨w1.heap.size, 0, none⟩)] 55)).alloc (.cells #[(.func (.func 18) #[.pointer (some ⟨w1.heap.size, 0, none⟩)] #[])] 49)) (w1.heap.size + 1) 55 #[.pointer (some ⟨w1.heap.size, 0, none⟩)] := by simpa using (Blk.new (w1.alloc (.cells #[.int .i64 1, .int .i64 1, .int .i64 1, .int .i64 2, .int .i64 0, .int .i64 0, .int .i64 0, .int .i64 0, .slice none 0 0, .int .i64 0] 58)) 55 #[.pointer (some ⟨w1.heap.size, 0, none⟩)]).alloc (.cells #[(.func (.func 18) #[.pointer (some ⟨w1.heap.size, 0, none⟩)] #[])] 49)
  have b9 : Blk (((w1.alloc (.cells #[.int .i64 1, .int .i64 1, .int .i64 1, .int .i64 2, .int .i64 0, .int .i64 0, .int .i64 0, .int .i64 0, .slice none 0 0, .int .i64 0] 58)).alloc (.cells #[.pointer (some ⟨w1.heap.size, 0, none⟩)] 55)).alloc (.cells #[(.func (.func 18) #[.pointer (some ⟨w1.heap.size, 0, none⟩)] #[])] 49)) (w1.heap.size + 2) 49 #[(.func (.func 18) #[.pointer (some ⟨w1.heap.size, 0, none⟩)] #[])] := by simpa using Blk.new ((w1.alloc (.cells #[.int .i64 1, .int .i64 1, .int .i64 1, .int .i64 2, .int .i64 0, .int .i64 0, .int .i64 0, .int .i64 0, .slice none 0 0, .int .i64 0] 58)).alloc (.cells #[.pointer (some ⟨w1.heap.size, 0, none⟩)] 55)) 49 #[(.func (.func 18) #[.pointer (some ⟨w1.heap.size, 0, none⟩)] #[])]
  have bJ0 : Blk (((w1.alloc (.cells #[.int .i64 1, .int .i64 1, .int .i64 1, .int .i64 2, .int .i64 0, .int .i64 0, .int .i64 0, .int .i64 0, .slice none 0 0, .int .i64 0] 58)).alloc (.cells #[.pointer (some ⟨w1.heap.size, 0, none⟩)] 55)).alloc (.cells #[(.func (.func 18) #[.pointer (some ⟨w1.heap.size, 0, none⟩)] #[])] 49)) w.heap.size 23 #[.int .i64 1, .int .i64 1, .int .i64 1, .int .i64 2, .int .i64 0, .int .i64 0, .int .i64 0, .int .i64 0] := ((bJ1.alloc _).alloc _).alloc _
  have bI0 : Blk (((w1.alloc (.cells #[.int .i64 1, .int .i64 1, .int .i64 1, .int .i64 2, .int .i64 0, .int .i64 0, .int .i64 0, .int .i64 0, .slice none 0 0, .int .i64 0] 58)).alloc (.cells #[.pointer (some ⟨w1.heap.size, 0, none⟩)] 55)).alloc (.cells #[(.func (.func 18) #[.pointer (some ⟨w1.heap.size, 0, none⟩)] #[])] 49)) (w.heap.size + 1) 36 #[.slice (some ad) 1 1] := ((bI1.alloc _).alloc _).alloc _
  have bR0 : Blk (((w1.alloc (.cells #[.int .i64 1, .int .i64 1, .int .i64 1, .int .i64 2, .int .i64 0, .int .i64 0, .int .i64 0, .int .i64 0, .slice none 0 0, .int .i64 0] 58)).alloc (.cells #[.pointer (some ⟨w1.heap.size, 0, none⟩)] 55)).alloc (.cells #[(.func (.func 18) #[.pointer (some ⟨w1.heap.size, 0, none⟩)] #[])] 49)) (w.heap.size + 2) 40 #[.slice none 0 0] := ((bR1.alloc _).alloc _).alloc _
  have bE0 : Blk (((w1.alloc (.cells #[.int .i64 1, .int .i64 1, .int .i64 1, .int .i64 2, .int .i64 0, .int .i64 0, .int .i64 0, .int .i64 0, .slice none 0 0, .int .i64 0] 58)).alloc (.cells #[.pointer (some ⟨w1.heap.size, 0, none⟩)] 55)).alloc (.cells #[(.func (.func 18) #[.pointer (some ⟨w1.heap.size, 0, none⟩)] #[])] 49)) (w.heap.size + 3) 25 #[.int .i64 0] := ((bE1.alloc _).alloc _).alloc _
  have hz : (((w1.alloc (.cells #[.int .i64 1, .int .i64 1, .int .i64 1, .int .i64 2, .int .i64 0, .int .i64 0, .int .i64 0, .int .i64 0, .slice none 0 0, .int .i64 0] 58)).alloc (.cells #[.pointer (some ⟨w1.heap.size, 0, none⟩)] 55)).alloc (.cells #[(.func (.func 18) #[.pointer (some ⟨w1.heap.size, 0, none⟩)] #[])] 49)).heap.size = w1.heap.size + 3 := by simp
  have hw1 : w.heap.size + 4 ≤ w1.heap.size := by omega
  obtain ⟨U, hU⟩ : ∃ U, U = (((w1.alloc (.cells #[.int .i64 1, .int .i64 1, .int .i64 1, .int .i64 2, .int .i64 0, .int .i64 0, .int .i64 0, .int .i64 0, .slice none 0 0, .int .i64 0] 58)).alloc (.cells #[.pointer (some ⟨w1.heap.size, 0, none⟩)] 55)).alloc (.cells #[(.func (.func 18) #[.pointer (some ⟨w1.heap.size, 0, none⟩)] #[])] 49)) := ⟨_, rfl⟩
  rw [← hU] at hW0 b6 b7 b9 bJ0 bI0 bR0 bE0 hz ⊢
  clear hU j0 j1 j2 j3 j4 j5 j6 j7 bJ1 bI1 bR1 bE1
  have F0 : GatF w1.heap.size U U := ⟨World.grownBy.refl U _⟩
  refine range_in rfl hn1 (gf := 17) (lb := #[.pointer (some ⟨w.heap.size + 1, 0, none⟩), .pointer (some ⟨w.heap.size, 0, none⟩)]) (by first | rfl | simp) trivial (enters_of Try.func17 (by kernel_rfl) rfl)
    (fun x : Ev => #[.agg #[.string x.key, .int .i64 x.at_, .int .i64 x.v]]) (fun _ => rfl)
    (fun pre V => GatF w1.heap.size U V ∧ GatS w1.heap.size pre V)
    (fun x b V => ∃ Bx, Blk V Bx 30 #[.string x.key, .int .i64 x.at_, .int .i64 x.v] ∧ b = { tmps := #[.agg #[.int .i64 1, .int .i64 1, .int .i64 1, .int .i64 2, .int .i64 0, .int .i64 0, .int .i64 0, .int .i64 0], .slice (some ad) 1 1, .pointer (some ⟨w.heap.size, 0, none⟩), .pointer (some ⟨w.heap.size + 1, 0, none⟩), .pointer (some ⟨w.heap.size + 1 + 1, 0, none⟩), .pointer (some ⟨w.heap.size + 1 + 1 + 1, 0, none⟩), .int .i64 0, .pointer (some ⟨w1.heap.size + 1, 0, none⟩), (.func (.func 17) #[] #[.pointer (some ⟨w.heap.size + 1, 0, none⟩), .pointer (some ⟨w.heap.size, 0, none⟩)]), .pointer (some ⟨w1.heap.size + 1 + 1, 0, none⟩), .pointer (some ⟨Bx, 0, none⟩), .agg #[.int .i64 1, .int .i64 1, .int .i64 1, .int .i64 2, .int .i64 0, .int .i64 0, .int .i64 0, .int .i64 0], .slice (some ad) 1 1, .int .i64 0, .int .i64 0, .bool false, undef, .agg #[.int .i64 1, .int .i64 1, .int .i64 1, .int .i64 2, .int .i64 0, .int .i64 0, .int .i64 0, .int .i64 0], .agg #[.int .i64 1, .int .i64 1, .int .i64 1, .int .i64 2, .int .i64 0, .int .i64 0, .int .i64 0, .int .i64 0, .slice none 0 0, .int .i64 0], .pointer (some ⟨w1.heap.size, 0, none⟩), (.func (.func 17) #[] #[.pointer (some ⟨w.heap.size + 1, 0, none⟩), .pointer (some ⟨w.heap.size, 0, none⟩)]), .pointer (some ⟨w1.heap.size, 0, none⟩), (.func (.func 18) #[.pointer (some ⟨w1.heap.size, 0, none⟩)] #[]), (.func (.func 17) #[] #[.pointer (some ⟨w.heap.size + 1, 0, none⟩), .pointer (some ⟨w.heap.size, 0, none⟩)]), .agg #[.string x.key, .int .i64 x.at_, .int .i64 x.v], undef, undef, undef, undef, undef, undef, undef, undef, undef, undef, undef, undef, undef, undef, undef], defers := [] })
    (StR w1.heap.size U.heap.size) (KeepN w1.heap.size U.heap.size) (fun xs => xs = [evA]) (fun pre x => pre ++ [x] <+: [evA]) ?so ?si ?ia ?ip ?rp ?kt ?kp ?h0 ?iter ?assign ?body ?done
  case so =>
    rintro V V' k o hS hk ho hlt
    rcases hS with ⟨sb, cs, hsb, bS, hT⟩ | ⟨k', o1, o2, hk', hko, hoc, rfl⟩
    · refine (hT.keep k (Array.getElem?_eq_some_iff.1 hk).1 (fun e => ?_) (by simp [Value.ownBlock])).trans hk
      subst e
      rw [show V.heap[k]? = _ from bS] at hk
      cases hk
      cases ho
    · exact (World.putObj_heap_other (by omega)).trans hk
  case si =>
    rintro pre V V' ⟨hf, hg⟩ hS
    rcases hS with hS | ⟨k', o1, o2, hk', hko, hoc, rfl⟩
    · obtain ⟨cs, hb⟩ := hg.blk
      exact ⟨hf.sib hz b7 b9 (by decide) (by decide) hb (by decide) hS, hg.keep (keepC_sib hS)⟩
    · exact ⟨hf.put (by omega) _, hg.keep (keepC_put hko hoc)⟩
  case ia =>
    rintro pre V o ⟨hf, hg⟩
    exact ⟨hf.alloc o, hg.keep (keepC_alloc V o)⟩
  case ip =>
    rintro pre V k o o' ⟨hf, hg⟩ hk hko hoc
    exact ⟨hf.put hk _, hg.keep (keepC_put hko hoc)⟩
  case rp =>
    rintro x b V k o o' ⟨Bx, hB, hb⟩ hk hko hoc
    exact ⟨Bx, keepC_put hko hoc _ _ _ (by decide) hB, hb⟩
  case kt => exact fun A B C h k => ⟨⟨h.t.below.trans k.t.below, fun b cs hb => k.t.src b cs (h.t.src b cs hb)⟩, h.loops.trans k.loops⟩
  case kp =>
    intro V k o o' hk hk2 hko hoc
    refine ⟨⟨(Below.refl _ V).grown (grownBy_putObj' V k o') (by have := (Array.getElem?_eq_some_iff.1 hko).1; omega) (fun q e => by cases e; omega), fun b cs hb => (World.putObj_heap_other (fun e => ?_)).trans hb⟩, ⟨by simp, fun i q hi hq _ => (World.putObj_heap_other (by omega)).trans hq⟩⟩
    subst e
    rw [show V.heap[b]? = _ from hb] at hko
    cases hko
    cases hoc
  case h0 => exact ⟨F0, b6⟩
  case iter =>
    intro l J W hW hWs hJa hJs hY hJ0
    have kW : Below w.heap.size w W := hW0.trans (hW.mono (by omega))
    refine (run1_in (n - 1) (by omega) l (w.heap.size + 1) w.heap.size w1.heap.size U.heap.size ad A c J hJa hJs hY W (bJ0.below hW bJ0.lt) ((bI0.below hW bI0.lt).cell 0) ((kW.cell had).trans cI) (by omega) (by omega) (by omega) hWs ((hr.below kW).more (by omega)) hJ0).mono ?_
    rintro e V ⟨hv, hJ⟩
    exact ⟨hv, _, rfl, hJ⟩
  case assign =>
    rintro l' pre x V ⟨hf, hg⟩
    have hs := hf.own.size
    gi_wp2
    exact ⟨(KeepsOthers.alloc _ _).from _, ⟨⟨(Below.refl _ V).alloc (by omega) _, fun b cs hb => hb.alloc _⟩, (KeepsOthers.alloc _ _).from _⟩, ⟨hf.alloc _, hg.keep (keepC_alloc _ _)⟩, V.heap.size, Blk.new _ _ _, rfl⟩
  case body =>
    rintro l' pre x b V ⟨hf, hg⟩ ⟨Bx, bX, rfl⟩ hNx
    obtain ⟨rfl, rfl⟩ := nextA hNx
    have hs := hf.own.size
    have x0 := bX.cell 0
    have x1 := bX.cell 1
    have x2 := bX.cell 2
    have y0 := (hf.blk b9 (by omega)).cell 0
    simp at x0 x1 x2 y0
    gi_wp2_with fail
    refine ⟨trivial, fun h => by simp [Fence.wide] at h, ?_⟩
    refine (CallsIn.inRound l' (callsIn_wide.2 (take_c w1.heap.size V hg))).mono ?_
    rintro e V2 ⟨rfl, hG, hgr⟩
    have HG := Lib.hid hG
    clear hG
    gi_wp2
    have hkf : KeepsFrom U.heap.size V V2 := ⟨hgr.size, fun k o hk h _ => (hgr.block k (Array.getElem?_eq_some_iff.1 h).1 (by simp; omega)).trans h⟩
    have hkn : KeepN w1.heap.size U.heap.size V V2 := ⟨⟨⟨hgr.os, hgr.tape, hgr.output, hgr.size, fun i hi => hgr.block i (by omega) (by simp; omega)⟩, fun b cs hb => (hgr.block b hb.lt (by
      intro e
      injection e with e
      exact hb.ne_ (show Blk V w1.heap.size 58 _ from hg) (by decide) e)).trans hb⟩, ⟨hgr.size, fun k o hk h _ => (hgr.block k (Array.getElem?_eq_some_iff.1 h).1 (by simp; omega)).trans h⟩⟩
    have hfn : GatF w1.heap.size U V2 := ⟨hf.own.andThen hgr (fun j e => .inr e)⟩
    rw [hz] at hkf hkn
    exact ⟨hkf, hkn, hfn, HG.out⟩
  case done =>
    rintro D ys V hD rfl ⟨hf, g, c', hG, hP, hc'⟩ hK
    have hs := hf.own.size
    have q0 : V.cell? ⟨w.heap.size, 3, none⟩ = some (.int .i64 2) := (hf.blk bJ0 (by omega)).cell 3
    have q1 : V.cell? ⟨w1.heap.size + 1, 0, none⟩ = some (.pointer (some ⟨w1.heap.size, 0, none⟩)) := (hf.blk b7 (by omega)).cell 0
    have q2 : V.cell? ⟨w1.heap.size, 8, none⟩ = some (.slice (some ⟨g, 0, none⟩) 1 c') := hG.cell 8
    have v4 := hf.blk bR0 (by omega)
    have v5 := hf.blk bE0 (by omega)
    gi_wp2_with fail
    have hmix : Try.prog.follows .mixedOrders = true := by kernel_rfl
    first
      | gi_region_with_o (refine ⟨trivial, ?_⟩; gi_at_call 19; refine (callsIn_wide.2 (results_c g c' _ ?hp hc')).mono ?_; (case hp => exact hP); rintro e w5 ⟨B, d, rfl, hb5⟩; have k5 : Below V.heap.size V w5 := ⟨hb5.os, hb5.tape, hb5.output, hb5.size, hb5.block⟩; have u4 := v4.below k5 v4.lt; have u5 := v5.below k5 v5.lt; have f4 := u4.frozen; have f5 := u5.frozen; have d4 : w5.cell? ⟨w.heap.size + 1 + 1, 0, none⟩ = some (.slice none 0 0) := u4.cell 0; have d5 : w5.cell? ⟨w.heap.size + 1 + 1 + 1, 0, none⟩ = some (.int .i64 0) := u5.cell 0)
      | fail
    all_goals
      have lD := (Array.getElem?_eq_some_iff.1 hK).1
      have hK5 := (k5.block D lD).trans hK
      have hKf : ((w5.setCell ⟨w.heap.size + 1 + 1, 0, none⟩ (.slice B 1 d)).setCell ⟨w.heap.size + 1 + 1 + 1, 0, none⟩ (.int .i64 0)).heap[D]? = some (.deferred (some [])) := (Below.heap_setCell _ _ _ _ (by simp; omega)).trans ((Below.heap_setCell _ _ _ _ (by simp; omega)).trans hK5)
      have bZ4 := (u4.set_ 0 (.slice B 1 d)).far (p := ⟨w.heap.size + 1 + 1 + 1, 0, none⟩) (by simp) (.int .i64 0)
      have bZ5 := (u5.far (p := ⟨w.heap.size + 1 + 1, 0, none⟩) (by simp) (.slice B 1 d)).set_ 0 (.int .i64 0)
      have g4 : (((w5.setCell ⟨w.heap.size + 1 + 1, 0, none⟩ (.slice B 1 d)).setCell ⟨w.heap.size + 1 + 1 + 1, 0, none⟩ (.int .i64 0)).putObj D (.deferred none)).cell? ⟨w.heap.size + 1 + 1, 0, none⟩ = some (.slice B 1 d) := Blk.cell (g := w.heap.size + 1 + 1) (t := 40) (cs := #[.slice B 1 d]) ((World.putObj_heap_other (by omega)).trans bZ4) 0
      have g5 : (((w5.setCell ⟨w.heap.size + 1 + 1, 0, none⟩ (.slice B 1 d)).setCell ⟨w.heap.size + 1 + 1 + 1, 0, none⟩ (.int .i64 0)).putObj D (.deferred none)).cell? ⟨w.heap.size + 1 + 1 + 1, 0, none⟩ = some (.int .i64 0) := Blk.cell (g := w.heap.size + 1 + 1 + 1) (t := 25) (cs := #[.int .i64 0]) ((World.putObj_heap_other (by omega)).trans bZ5) 0
      have hB1 : Below w.heap.size w V := hW0.grown hf.own (by omega) (fun k e => by injection e with e; omega)
      have hB2 : Below w.heap.size w ((w5.setCell ⟨w.heap.size + 1 + 1, 0, none⟩ (.slice B 1 d)).setCell ⟨w.heap.size + 1 + 1 + 1, 0, none⟩ (.int .i64 0)) := ((next_below hB1 k5).setCell (p := ⟨w.heap.size + 1 + 1, 0, none⟩) (by simp; omega) _).setCell (p := ⟨w.heap.size + 1 + 1 + 1, 0, none⟩) (by simp; omega) _
      have hwD : w.heap.size ≤ D := by omega
      gi_wp2
      refine ⟨by simp, .inl ⟨_, _, rfl, run_takeDeferred hKf, ?_⟩⟩
      refine ⟨.tuple #[.slice B 1 d, .int .i64 0], by simp [results, Try.results10, go_sem, g4, g5], _, _, rfl, ?_⟩
      exact hB2.trans (belowK_b (w := w) (Nat.le_refl _) _ D _ _ hwD hKf rfl rfl)

end Go.Proofs.Ytgaknbgmodmniaa
