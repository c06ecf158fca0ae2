/- WindowLate: the law returns true at every size, slide, time and mark. Conditions: none. -/
import Derived.Test.YtijmjndaieimaaaClose
import Derived.Test.YtijmjndaieimaaaWin11
namespace Go.Proofs.Ytijmjndaieimaaa
open Go.ChangeShapes Go.WideShapes Go.ChangeAt Go.RowKit
set_option linter.unusedVariables false
set_option linter.unusedSimpArgs false
theorem WindowLate_contract (H : Type) (enc : TypeId × Value → H) (W : World) (base : Nat) (args : Array Value) (ds gs : List (DataW H)) (before : List MemPlace)
    (hval : ∀ (j : Nat) t v, Try.f8.params[j]? = some t → args[j]? = some v → Value.okWide Try.prog W .any base t v)
    (hW : DataW.Whole enc Try.prog Try.f8.params.toList Rows.windowLateSpec.vars false W args.toList ds gs before) :
    Calls Try.prog 8 args W fun e W' => e = .returned (.bool true) ∧ Below W.heap.size W W' := by
  have hlt : ∀ x ∈ before, x.block < W.heap.size := fun x hx => hW.lt x hx
  obtain ⟨p, q, hA0, hV, rfl, hfz, hnd⟩ := hW
  have hA : DataW.TrodAll enc Try.prog W 0 (fun _ => true) true Try.f8.params.toList args.toList ds p := hA0
  rw [Try.params8] at hA hval
  obtain ⟨v0, vs0, d0, ds0, p0, q0, hargs, rfl, rfl, h0, r0⟩ := trodAll_cons hA
  obtain ⟨v1, vs1, d1, ds1, p1, q1, rfl, rfl, rfl, h1, r1⟩ := trodAll_cons r0
  obtain ⟨v2, vs2, d2, ds2, p2, q2, rfl, rfl, rfl, h2, r2⟩ := trodAll_cons r1
  obtain ⟨v3, vs3, d3, ds3, p3, q3, rfl, rfl, rfl, h3, r3⟩ := trodAll_cons r2
  obtain ⟨rfl, rfl, rfl⟩ := trodAll_nil r3
  obtain rfl : args = #[v0, v1, v2, v3] := by cases args; simp_all
  obtain ⟨size, rfl, rfl, rfl, wsize0⟩ := open_int Try.underlying2 (hval 0 2 v0 rfl rfl) h0
  have wsize := i64_of wsize0
  obtain ⟨slide, rfl, rfl, rfl, wslide0⟩ := open_int Try.underlying2 (hval 1 2 v1 rfl rfl) h1
  have wslide := i64_of wslide0
  obtain ⟨t, rfl, rfl, rfl, wt0⟩ := open_int Try.underlying2 (hval 2 2 v2 rfl rfl) h2
  have wt := i64_of wt0
  obtain ⟨mark, rfl, rfl, rfl, wmark0⟩ := open_int Try.underlying2 (hval 3 2 v3 rfl rfl) h3
  have wmark := i64_of wmark0
  exact walkLate size slide t mark W wsize wslide
theorem WindowLate_reads : ∀ t ∈ Try.f8.params.toList, Try.prog.readableRec t = true ∧ t < Try.prog.types.size := by
  rw [Try.params8]
  have e : ∀ t, (Try.prog.readableRec t && decide (t < Try.prog.types.size)) = true → Try.prog.readableRec t = true ∧ t < Try.prog.types.size := fun t h => by simpa using h
  intro t ht
  simp only [List.mem_cons, List.not_mem_nil, or_false] at ht
  rcases ht with rfl | rfl | rfl | rfl <;> exact e _ (by kernel_rfl)
theorem WindowLate_fn {H : Type} : ∀ ds : List (DataW H), ds.length = Try.f8.params.size → (Rows.windowLateSpec.fn H ds).results = [.lit (.bool true)] ∧ (Rows.windowLateSpec.fn H ds).args = ds ∧ (Rows.windowLateSpec.fn H ds).vars = [] := by
  intro ds h
  rw [show Try.f8.params.size = 4 by rw [Try.params8]; rfl] at h
  match ds, h with
  | [d0, d1, d2, d3], _ => exact ⟨rfl, rfl, rfl⟩
set_option maxRecDepth 100000 in
theorem WindowLate_lifted (os : Os) (started : os.Started) (H : Type) (enc : TypeId × Value → H) :
    ReturnsInHanded {} Try.checked os 8 .any (Rows.windowLateSpec.pre6 enc Try.prog Try.f8 Rows.windowLateRow.domain false) (Rows.windowLateSpec.post enc Try.prog Try.f8 false true false false) := by
  refine returnsInHanded_of_change (C := Try.checked) ownNone started (by kernel_rfl) Try.func8
    (ChangeSpec.witness6 (enc := enc) (C := Try.checked) false ⟨#[], #[.int .i64 0, .int .i64 0, .int .i64 0, .int .i64 0], []⟩ 8 (by kernel_rfl) (by kernel_rfl) (by kernel_rfl) (by kernel_rfl)) ?_
  intro W base args ds gs before hval hW _ _
  refine (WindowLate_contract H enc W base args ds gs before hval hW).mono fun e W' ⟨he, hb⟩ => ⟨_, he, ?_⟩
  exact law_post laidOut rfl (by kernel_rfl) Try.underlying4 WindowLate_reads WindowLate_fn hW hb

theorem WindowLate_over : Rows.windowLateRow.holds Try.pinned (OpenSpec.ofChange Rows.windowLateSpec) :=
  OpenClaim.holds_of_wide 8 Try.f8 rfl rfl rfl rfl rfl rfl rfl ⟨rfl, rfl, rfl, rfl, rfl⟩ rfl rfl rfl rfl rfl (by kernel_rfl) Try.func8 (by kernel_rfl)
    (of_decide_eq_true (by kernel_rfl)) (by unfold Func.isWrapper; first | (rw [if_pos (by decide +kernel)]; kernel_rfl) | (rw [if_neg (by decide +kernel)]; exact ⟨rfl, rfl⟩))
    (fun os started H enc _ => WindowLate_lifted os started H enc)

theorem WindowLate_holds : Rows.WindowLateSaid := WindowLate_over
#print axioms WindowLate_holds
end Go.Proofs.Ytijmjndaieimaaa
