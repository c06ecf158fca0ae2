/- 'm[k] += c' on a map of the call's own keyed by an event, in a statement that draws: the three operations' equations. An event is a key. -/
import Derived.Test.YtplfimaopegpmaaEvs
import Derived.Maps.OwnOps
import Derived.Maps.RangeWalk
import Derived.Maps.Views
import Derived.WideKeyEntry
import Derived.DeepKeys5
namespace Go.Proofs.Ytplfimaopegpmaa
open Go.RowKit
open Go.Maps (Keyed)
open Go.ChangeMaps (setBlock)
set_option linter.unusedVariables false
set_option linter.unusedSimpArgs false

theorem setBlock_twice (w : World) (b : Nat) (x y : Obj) : setBlock (setBlock w b x) b y = setBlock w b y := by
  simp [setBlock]

section
variable {H : Type} {P : Program} {w : World} {t k e : TypeId} {b n : Nat} {D : DataW H}
theorem map_bump (L : WideMaps.KeyLaw P k) (ht : P.underlying t = some (.map k e)) (he : P.underlying e = some (.int .i64)) (hz : ∀ u : World, (zeroValue e).run P u = .ok (.int .i64 0) u) (hown : w.ownsMap P k (plainElem P e) b n D) (hn : n < maxLen)
    {key : Value} {kl : Lit} (hkey : keyOf P k key = some kl) :
    ∃ (c : Int) (st : Nat) (w1 : World), (Instr.lookup t (.map (some b)) key false).run P w = .ok (.int .i64 c) w ∧ D.atKey kl (.lit (.int .i64 0)) = .lit (.int .i64 c) ∧ (Lit.int .i64 c).wf = true ∧
      (Instr.mapEntry t (.map (some b)) key).run P w = .ok (.tuple #[.int .i64 c, goInt st]) w1 ∧ (Instr.lookup t (.map (some b)) key false).run P w1 = .ok (.int .i64 c) w1 ∧
      ∀ d : Int, (Lit.int .i64 d).wf = true → ∃ w2, (Instr.entryStore t (.map (some b)) (goInt st) (.int .i64 d)).run P w1 = .ok () w2 ∧ w2.ownsMap P k (plainElem P e) b (n + 1) (D.put kl (.lit (.int .i64 d))) ∧ w.grownBy w2 (some b) := by
  have K := Keyed.of_law L
  obtain ⟨c, hl, hat, hwc⟩ := hown.lookup_int K ht he (hz w) hkey
  obtain ⟨es, clock, hb, F, hs, hD⟩ := hown
  have hown : w.ownsMap P k (plainElem P e) b n D := ⟨es, clock, hb, F, hs, hD⟩
  obtain ⟨v0, st, es1, clock1, hE, _, hS⟩ := WideElems.entry_then_store L ht hz hb F hkey
  have hU : ∃ X, (Instr.mapEntry t (.map (some b)) key).run P w = .ok (.tuple #[.int .i64 c, goInt st]) X ∧ (Instr.mapUpdate t (.map (some b)) key (.int .i64 c)).run P w = .ok () X := by
    rcases K.find w hkey es.toList F.keys with ⟨h1, _⟩ | ⟨j, e0, h1, h2, h3⟩
    · have e1 : (Instr.lookup t (.map (some b)) key false).run P w = .ok (.int .i64 0) w := by
        simp [Instr.lookup, run_underlying ht, MapKept.run_getObj_map hb, K.check w _ hkey, h1, hz, Result.andThen]
      have e2 : (Instr.mapEntry t (.map (some b)) key).run P w = .ok (.tuple #[.int .i64 0, goInt clock]) (setBlock w b (.map (es.push ⟨key, .int .i64 0, clock⟩) (clock + 1))) := by
        simp [Instr.mapEntry, run_underlying ht, MapKept.run_getObj_map hb, K.check w false hkey, h1, hz, MapKept.run_setObj_map _ hb, Result.andThen, setBlock]
      have e3 : (Instr.mapUpdate t (.map (some b)) key (.int .i64 0)).run P w = .ok () (setBlock w b (.map (es.push ⟨key, .int .i64 0, clock⟩) (clock + 1))) := by
        simp [Instr.mapUpdate, run_underlying ht, MapKept.run_getObj_map hb, K.check w false hkey, h1, MapKept.run_setObj_map _ hb, Result.andThen, setBlock]
      rw [hl] at e1
      injection e1 with e1 _
      injection e1 with _ e1
      subst e1
      rw [hE] at e2
      injection e2 with e2 e2'
      have hv0 : v0 = .int .i64 0 := by
        have := congrArg (fun v => match v with | .tuple a => a[0]? | _ => none) e2
        simpa using this
      subst hv0
      exact ⟨_, hE, by rw [e2']; exact e3⟩
    · have hj : es[j]? = some e0 := by simpa using h2
      have e1 : (Instr.lookup t (.map (some b)) key false).run P w = .ok e0.val w := by
        simp [Instr.lookup, run_underlying ht, MapKept.run_getObj_map hb, K.check w _ hkey, h1, hz, Result.andThen]
      have hsame : es.modify j (fun e => { e with key := key }) = es.modify j (fun e => { e with key := key, val := e0.val }) := by
        apply Array.ext'
        rw [Array.toList_modify, Array.toList_modify, ChangeMaps.modify_eq_set _ _ _ _ h2, ChangeMaps.modify_eq_set _ _ _ _ h2]
      have e2 : (Instr.mapEntry t (.map (some b)) key).run P w = .ok (.tuple #[e0.val, goInt e0.born]) (setBlock w b (.map (es.modify j (fun e => { e with key := key, val := e0.val })) clock)) := by
        rw [← hsame]
        simp [Instr.mapEntry, run_underlying ht, MapKept.run_getObj_map hb, K.check w false hkey, h1, hj, h3, K.stays w hkey, MapKept.run_setObj_map _ hb, Result.andThen, setBlock]
      have e3 : (Instr.mapUpdate t (.map (some b)) key e0.val).run P w = .ok () (setBlock w b (.map (es.modify j (fun e => { e with key := key, val := e0.val })) clock)) := by
        simp [Instr.mapUpdate, run_underlying ht, MapKept.run_getObj_map hb, K.check w false hkey, h1, hj, h3, K.stays w hkey, MapKept.run_setObj_map _ hb, Result.andThen, setBlock]
      rw [hl] at e1
      injection e1 with e1 _
      rw [← e1] at e2 e3
      rw [hE] at e2
      injection e2 with e2 e2'
      have hv0 : v0 = .int .i64 c := by
        have := congrArg (fun v => match v with | .tuple a => a[0]? | _ => none) e2
        simpa using this
      subst hv0
      exact ⟨_, hE, by rw [e2']; exact e3⟩
  obtain ⟨X, hX, hXU⟩ := hU
  have hv := plainElem_int (H := H) he hwc
  obtain ⟨w1, hw1, hown1, hg1⟩ := hown.update K ht hn hkey hv
  rw [hXU] at hw1
  injection hw1 with _ hw1
  subst hw1
  obtain ⟨c1, hl1, hat1, _⟩ := hown1.lookup_int K ht he (hz X) hkey
  have hc1 : c1 = c := by
    rw [Maps.atKey_put_same ⟨_, hD⟩ (K.key hkey)] at hat1
    injection hat1 with hat1
    injection hat1 with _ hat1
    exact hat1.symm
  subst hc1
  refine ⟨c1, st, X, hl, hat, hwc, hX, hl1, fun d hd => ?_⟩
  rw [hE] at hX
  injection hX with _ hX
  subst hX
  obtain ⟨es', clock', hs1, hs2⟩ := hS (setBlock w b (.map es1 clock1)) (.int .i64 d) (Go.ChangeMaps.heap_setBlock_same hb _)
  rw [setBlock_twice] at hs1
  obtain ⟨w2, hw2, hown2, hg2⟩ := hown.update K ht hn hkey (plainElem_int (H := H) he hd)
  rw [hs2] at hw2
  injection hw2 with _ hw2
  subst hw2
  exact ⟨_, hs1, hown2, hg2⟩
end

theorem lawEv : WideMaps.KeyLaw Try.prog 23 := deep_law_laid laidOut (m := 2) (by omega) (of_decide_eq_true (by kernel_rfl)) (by kernel_rfl) (by rw [Try.underlying23])
theorem zeroInt (w : World) : (zeroValue 3).run Try.prog w = .ok (.int .i64 0) w := by kernel_rfl
theorem evKey_gen {P : Program} {k : TypeId} {f0 f1 f2 : Field} (h1 : P.keyType k = true) (hu : P.underlying k = some (.struct #[f0, f1, f2])) (hC : P.cellsOf k = 3) (n0 : (f0.name != "_") = true) (n1 : (f1.name != "_") = true) (n2 : (f2.name != "_") = true)
    (o0 : f0.offset = 0) (o1 : f1.offset = 1) (o2 : f2.offset = 2) (c0 : P.cellsOf f0.type = 1) (c1 : P.cellsOf f1.type = 1) (c2 : P.cellsOf f2.type = 1)
    (u0 : P.underlying f0.type = some .string) (u1 : P.underlying f1.type = some (.int .i64)) (u2 : P.underlying f2.type = some (.int .i64)) (hp : 0 < P.types.size)
    {s : ByteArray} {a v : Int} (hs : s.size ≤ maxLen) (ha : (Lit.int .i64 a).wf = true) (hv : (Lit.int .i64 v).wf = true) : ∃ kl, keyOf P k (.agg #[.string s, .int .i64 a, .int .i64 v]) = some kl := by
  obtain ⟨m, hm⟩ : ∃ m, P.types.size = m + 1 := ⟨P.types.size - 1, by omega⟩
  refine Option.isSome_iff_exists.1 ?_
  simp [keyOf, h1, Value.formed, hu, hC, n0, n1, n2, o0, o1, o2, c0, c1, c2, u0, u1, u2, hm, Program.keyLits, Value.cells, hs, ha, hv]
theorem evKey {s : ByteArray} {a v : Int} (hs : s.size ≤ maxLen) (ha : (Lit.int .i64 a).wf = true) (hv : (Lit.int .i64 v).wf = true) : ∃ kl, keyOf Try.prog 23 (.agg #[.string s, .int .i64 a, .int .i64 v]) = some kl :=
  evKey_gen (by kernel_rfl) Try.underlying23 (by kernel_rfl) rfl rfl rfl rfl rfl rfl (by kernel_rfl) (by kernel_rfl) (by kernel_rfl) Try.underlying9 Try.underlying2 Try.underlying2 (of_decide_eq_true (by kernel_rfl)) hs ha hv
end Go.Proofs.Ytplfimaopegpmaa
