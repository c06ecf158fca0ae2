/- Items in plain Lean; walks of a source's way: tell and mark. -/
import Derived.Test.YtgaknbgmodmniaaSrc3
import Derived.Test.YtgaknbgmodmniaaTick
import Derived.Deep.RegionLaw
namespace Go.Proofs.Ytgaknbgmodmniaa
open Go.RowKit
set_option linter.unusedVariables false
set_option linter.unusedSimpArgs false

/-- An item that a source tells: its kind, an event, a time. -/
structure It where
  kind : Int
  ev : Ev
  mark : Int
def It.vals (i : It) : List Value := [.int .i64 i.kind, .string i.ev.key, .int .i64 i.ev.at_, .int .i64 i.ev.v, .int .i64 i.mark, .int .i64 0, .int .i64 0, .int .i64 0, .string ⟨#[]⟩, .int .i64 0, .int .i64 0]
def itms (l : List It) : List Value := l.flatMap It.vals
theorem itms_cons (r : It) (l : List It) : itms (r :: l) = .int .i64 r.kind :: .string r.ev.key :: .int .i64 r.ev.at_ :: .int .i64 r.ev.v :: .int .i64 r.mark :: .int .i64 0 :: .int .i64 0 :: .int .i64 0 :: .string ⟨#[]⟩ :: .int .i64 0 :: .int .i64 0 :: itms l := rfl
theorem itms_append (a b : List It) : itms (a ++ b) = itms a ++ itms b := by simp [itms]
theorem itms_length (l : List It) : (itms l).length = l.length * 11 := by
  induction l with
  | nil => rfl
  | cons r l ih => rw [itms_cons]; simp only [List.length_cons, ih]; omega
theorem itms_one (l : List It) : ∀ u ∈ itms l, u.oneCell' = true := by
  intro u hu
  obtain ⟨r, _, h⟩ := List.mem_flatMap.1 hu
  simp only [It.vals, List.mem_cons, List.not_mem_nil, or_false] at h
  rcases h with rfl | rfl | rfl | rfl | rfl | rfl | rfl | rfl | rfl | rfl | rfl <;> rfl
theorem cell_new (w : World) (t : TypeId) (cs : Array Value) : ∀ j u, cs.toList[j]? = some u → (w.alloc (.cells cs t)).cell? ((⟨w.heap.size, 0, none⟩ : Addr).add j) = some u := by
  intro j u hu
  have hB := (Blk.new w t cs).cell j
  rw [show (⟨w.heap.size, 0, none⟩ : Addr).add j = ⟨w.heap.size, j, none⟩ from by unfold Addr.add; split <;> simp_all, hB]
  simpa using hu
theorem own_succ {w : World} {base : Nat} {e : TypeId} {size n : Nat} {v : Value} {xs : List Value} (h : w.ownsRow base e size v (n + 1) xs) : ∃ g cap, v = .slice (some ⟨g, 0, none⟩) (n + 1) cap := by
  rcases h.2 with ⟨rfl, h0⟩ | ⟨g, cap, cur, rfl, _⟩
  · omega
  · exact ⟨_, _, rfl⟩
theorem own_form {w : World} {b : Nat} {e : TypeId} {size n : Nat} {v : Value} {xs : List Value} (h : w.ownsRow b e size v n xs) : ∃ A c, v = .slice A n c := by
  rcases h.2 with ⟨rfl, rfl⟩ | ⟨g', cap, cur, rfl, _⟩
  · exact ⟨_, _, rfl⟩
  · exact ⟨_, _, rfl⟩
theorem blk_far {w w1 : World} {base g n size : Nat} {t e : TypeId} {cs : Array Value} {v : Value} {xs : List Value} (h : Blk w g t cs) (ho : w.ownsRow base e size v n xs) (hg : g < base) (hgr : w.grownBy w1 v.ownBlock) : Blk w1 g t cs :=
  h.grown hgr fun e => by have := (ho.lt _ e.symm).1; omega
theorem own_set {w : World} {base : Nat} {e : TypeId} {size : Nat} {v : Value} {n : Nat} {xs : List Value} (h : w.ownsRow base e size v n xs) {p : Addr} (u : Value) (hg : p.block < base) : (w.setCell p u).ownsRow base e size v n xs :=
  h.kept (only_setCell (World.grownBy.refl w (some p.block)) (.inl rfl) u) (.inr fun e => by have := (h.lt _ e).1; omega)
theorem own_below {w w' : World} {base : Nat} {e : TypeId} {size : Nat} {v : Value} {n : Nat} {xs : List Value} (h : w.ownsRow base e size v n xs) (hb : Below w.heap.size w w') : w'.ownsRow base e size v n xs := by
  obtain ⟨h1, h2⟩ := h
  refine ⟨h1, ?_⟩
  rcases h2 with h2 | ⟨g, cap, cur, hv, hg, hh, r⟩
  · exact .inl h2
  · exact .inr ⟨g, cap, cur, hv, hg, (hb.block g (Array.getElem?_eq_some_iff.1 hh).1).trans hh, r⟩
theorem own_mono {w : World} {base base' : Nat} {e : TypeId} {size : Nat} {v : Value} {n : Nat} {xs : List Value} (h : w.ownsRow base e size v n xs) (hb : base' ≤ base) : w.ownsRow base' e size v n xs := by
  obtain ⟨h1, h2⟩ := h
  refine ⟨h1, ?_⟩
  rcases h2 with h2 | ⟨g, cap, cur, hv, hg, r⟩
  · exact .inl h2
  · exact .inr ⟨g, cap, cur, hv, by omega, r⟩
theorem below_drew' {B : Nat} {a w : World} (h : Below B a w) : Below B a w.drew := ⟨h.os, h.tape, h.output, h.size, h.block⟩

/-- What a call leaves that turns a thing in block wb whose row was v and is v': what else was there is as it was. -/
structure Turn (wb base : Nat) (v v' : Value) (w w' : World) : Prop where
  own : ∀ i, v'.ownBlock = some i → v.ownBlock = some i ∨ w.heap.size ≤ i
  size : w.heap.size ≤ w'.heap.size
  keep : ∀ i, i < w.heap.size → i ≠ wb → v.ownBlock ≠ some i → w'.heap[i]? = w.heap[i]?
  lift : ∀ (B : Nat) (a : World), Below B a w → B ≤ wb → B ≤ base → B ≤ w.heap.size → Below B a w'
section
variable {wb base : Nat} {v v' v'' : Value} {w w1 w2 w' : World}
theorem Turn.refl (wb base : Nat) (v : Value) (w : World) : Turn wb base v v w w := ⟨fun _ h => .inl h, Nat.le_refl _, fun _ _ _ _ => rfl, fun _ _ h _ _ _ => h⟩
theorem Turn.then_ (h : Turn wb base v v' w w1) (k : Turn wb base v' v'' w1 w2) : Turn wb base v v'' w w2 := by
  refine ⟨fun i hi => ?_, Nat.le_trans h.size k.size, fun i hi hne hv => ?_, fun B a hBa b1 b2 b3 => k.lift B a (h.lift B a hBa b1 b2 b3) b1 b2 (Nat.le_trans b3 h.size)⟩
  · rcases k.own i hi with e | e
    · exact h.own i e
    · exact .inr (Nat.le_trans h.size e)
  · refine (k.keep i (Nat.lt_of_lt_of_le hi h.size) hne fun e => ?_).trans (h.keep i hi hne hv)
    rcases h.own i e with e' | e'
    · exact hv e'
    · omega
theorem Turn.of_below (hb : Below w.heap.size w w') : Turn wb base v v w w' :=
  ⟨fun _ h => .inl h, hb.size, fun i hi _ _ => hb.block i hi, fun _ _ hBa _ _ b3 => hBa.trans (hb.mono b3)⟩
theorem Turn.set (w : World) (o : Nat) (u : Value) : Turn wb base v v w (w.setCell ⟨wb, o, none⟩ u) :=
  ⟨fun _ h => .inl h, by simp, fun i _ hne _ => Below.heap_setCell w ⟨wb, o, none⟩ u i hne, fun _ _ hBa b1 _ _ => hBa.setCell (p := ⟨wb, o, none⟩) b1 u⟩
theorem Turn.drew (h : Turn wb base v v' w w') : Turn wb base v v' w w'.drew := ⟨h.own, h.size, h.keep, fun B a hBa b1 b2 b3 => below_drew' (h.lift B a hBa b1 b2 b3)⟩
theorem Turn.blk (h : Turn wb base v v' w w') {g : Nat} {t : TypeId} {cs : Array Value} (hg : Blk w g t cs) (hn : g ≠ wb) (hv : v.ownBlock ≠ some g) : Blk w' g t cs := (h.keep g hg.lt hn hv).trans hg
end

/-- A way's cells. -/
def wayC (j : Jb) (E : Value) (done mark quiet : Int) (ended : Bool) (v : Value) : Array Value :=
  #[.int .i64 j.groups, .int .i64 j.size, .int .i64 j.slide, .int .i64 j.fold, .int .i64 j.fuel, .int .i64 j.limit, .int .i64 j.delay, .int .i64 j.idle, E, .int .i64 done, .int .i64 mark, .int .i64 quiet, .bool ended, v]
end Go.Proofs.Ytgaknbgmodmniaa
