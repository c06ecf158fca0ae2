/- LoopTurns: the law returns true at every limit, fuel and row of events. Conditions: none. -/
import Derived.Test.YtplfimaopegpmaaClose
import Derived.Test.YtplfimaopegpmaaLawTu
import Derived.Lib.SmallJoins
namespace Go.Proofs.Ytplfimaopegpmaa
open Go.ChangeShapes Go.WideShapes Go.ChangeAt Go.RowKit Go.Joins
set_option linter.unusedVariables false
set_option linter.unusedSimpArgs false
theorem LoopTurns_contract (H : Type) (enc : TypeId × Value → H) (W : World) (base : Nat) (args : Array Value) (ds gs : List (DataW H)) (before : List MemPlace)
    (hval : ∀ (j : Nat) t v, Try.f7.params[j]? = some t → args[j]? = some v → Value.okWide Try.prog W .any base t v)
    (hW : DataW.Whole enc Try.prog Try.f7.params.toList Rows.loopTurnsSpec.vars false W args.toList ds gs before) :
    Calls Try.prog 7 args W fun e W' => e = .returned (.bool true) ∧ Below W.heap.size W W' := by
  have hlt : ∀ x ∈ before, x.block < W.heap.size := fun x hx => hW.lt x hx
  obtain ⟨p, q, hA0, hV, rfl, hfz, hnd⟩ := hW
  have hA : DataW.TrodAll enc Try.prog W 0 (fun _ => true) true Try.f7.params.toList args.toList ds p := hA0
  rw [Try.params7] at hA hval
  obtain ⟨v0, vs0, d0, ds0, p0, q0, hargs, rfl, rfl, h0, r0⟩ := trodAll_cons hA
  obtain ⟨v1, vs1, d1, ds1, p1, q1, rfl, rfl, rfl, h1, r1⟩ := trodAll_cons r0
  obtain ⟨v2, vs2, d2, ds2, p2, q2, rfl, rfl, rfl, h2, r2⟩ := trodAll_cons r1
  obtain ⟨rfl, rfl, rfl⟩ := trodAll_nil r2
  obtain rfl : args = #[v0, v1, v2] := by cases args; simp_all
  obtain ⟨limit, rfl, rfl, rfl, wlimit0⟩ := open_int Try.underlying2 (hval 0 2 v0 rfl rfl) h0
  have wlimit := i64_of wlimit0
  obtain ⟨fuel, rfl, rfl, rfl, wfuel0⟩ := open_int Try.underlying3 (hval 1 3 v1 rfl rfl) h1
  have wfuel := i64_of wfuel0
  obtain ⟨a2, len2, cap2, rfl⟩ := okWide_slice Try.underlying29 (hval 2 29 v2 rfl rfl)
  obtain ⟨k2, hf2⟩ := h2
  obtain ⟨A, n, c, l, e2, hr, hn, hnc, hw⟩ := open_evs (ti := 0) Try.underlying29 Try.underlying23 (by kernel_rfl) rfl rfl rfl (by kernel_rfl) (by kernel_rfl) (by kernel_rfl) Try.underlying9 Try.underlying2 Try.underlying2 hf2
  rw [e2]
  exact walkTurnsQ limit fuel A n c l W wlimit hr hw hn hnc
theorem LoopTurns_reads : ∀ t ∈ Try.f7.params.toList, Try.prog.readableRec t = true ∧ t < Try.prog.types.size := by
  rw [Try.params7]
  have e : ∀ t, (Try.prog.readableRec t && decide (t < Try.prog.types.size)) = true → Try.prog.readableRec t = true ∧ t < Try.prog.types.size := fun t h => by simpa using h
  intro t ht
  simp only [List.mem_cons, List.not_mem_nil, or_false] at ht
  rcases ht with rfl | rfl | rfl <;> exact e _ (by kernel_rfl)
theorem LoopTurns_fn {H : Type} : ∀ ds : List (DataW H), ds.length = Try.f7.params.size → (Rows.loopTurnsSpec.fn H ds).results = [.lit (.bool true)] ∧ (Rows.loopTurnsSpec.fn H ds).args = ds ∧ (Rows.loopTurnsSpec.fn H ds).vars = [] := by
  intro ds h
  rw [show Try.f7.params.size = 3 by rw [Try.params7]; rfl] at h
  match ds, h with
  | [d0, d1, d2], _ => exact ⟨rfl, rfl, rfl⟩
set_option maxRecDepth 100000 in
theorem LoopTurns_lifted (os : Os) (started : os.Started) (H : Type) (enc : TypeId × Value → H) :
    ReturnsInHanded {} Try.checked os 7 .any (Rows.loopTurnsSpec.pre6 enc Try.prog Try.f7 Rows.loopTurnsRow.domain false) (Rows.loopTurnsSpec.post enc Try.prog Try.f7 false true false false) := by
  refine returnsInHanded_of_change (C := Try.checked) ownNone started (by kernel_rfl) Try.func7
    (ChangeSpec.witness6 (enc := enc) (C := Try.checked) false ⟨#[], #[.int .i64 0, .int .i64 0, .slice none 0 0], []⟩ 8 (by kernel_rfl) (by kernel_rfl) (by kernel_rfl) (by kernel_rfl)) ?_
  intro W base args ds gs before hval hW _ _
  refine (LoopTurns_contract H enc W base args ds gs before hval hW).mono fun e W' ⟨he, hb⟩ => ⟨_, he, ?_⟩
  exact law_post laidOut rfl (by kernel_rfl) Try.underlying4 LoopTurns_reads LoopTurns_fn hW hb

theorem LoopTurns_over : Rows.loopTurnsRow.holds Try.pinned (OpenSpec.ofChange Rows.loopTurnsSpec) :=
  OpenClaim.holds_of_wide 7 Try.f7 rfl rfl rfl rfl rfl rfl rfl ⟨rfl, rfl, rfl, rfl, rfl⟩ rfl rfl rfl rfl rfl (by kernel_rfl) Try.func7 (by kernel_rfl)
    (of_decide_eq_true (by kernel_rfl)) (by unfold Func.isWrapper; first | (rw [if_pos (by decide +kernel)]; kernel_rfl) | (rw [if_neg (by decide +kernel)]; exact ⟨rfl, rfl⟩))
    (fun os started H enc _ => LoopTurns_lifted os started H enc)

theorem LoopTurns_holds : Rows.LoopTurnsSaid := LoopTurns_over
#print axioms LoopTurns_holds
end Go.Proofs.Ytplfimaopegpmaa
