/- LeaseFences: the law returns true at every number of groups and every row of what is asked. Conditions: none. -/
import Derived.Test.YtinccckpohaoiaaClose
import Derived.Test.YtinccckpohaoiaaLawFe
import Derived.Lib.SmallJoins
namespace Go.Proofs.Ytinccckpohaoiaa
open Go.ChangeShapes Go.WideShapes Go.ChangeAt Go.RowKit Go.Joins
set_option linter.unusedVariables false
set_option linter.unusedSimpArgs false
theorem LeaseFences_contract (H : Type) (enc : TypeId × Value → H) (W : World) (base : Nat) (args : Array Value) (ds gs : List (DataW H)) (before : List MemPlace)
    (hval : ∀ (j : Nat) t v, Try.f7.params[j]? = some t → args[j]? = some v → Value.okWide Try.prog W .any base t v)
    (hW : DataW.Whole enc Try.prog Try.f7.params.toList Rows.leaseFencesSpec.vars false W args.toList ds gs before) :
    Calls Try.prog 7 args W fun e W' => e = .returned (.bool true) ∧ Below W.heap.size W W' := by
  have hlt : ∀ x ∈ before, x.block < W.heap.size := fun x hx => hW.lt x hx
  obtain ⟨p, q, hA0, hV, rfl, hfz, hnd⟩ := hW
  have hA : DataW.TrodAll enc Try.prog W 0 (fun _ => true) true Try.f7.params.toList args.toList ds p := hA0
  rw [Try.params7] at hA hval
  obtain ⟨v0, vs0, d0, ds0, p0, q0, hargs, rfl, rfl, h0, r0⟩ := trodAll_cons hA
  obtain ⟨v1, vs1, d1, ds1, p1, q1, rfl, rfl, rfl, h1, r1⟩ := trodAll_cons r0
  obtain ⟨rfl, rfl, rfl⟩ := trodAll_nil r1
  obtain rfl : args = #[v0, v1] := by cases args; simp_all
  obtain ⟨gs, rfl, rfl, rfl, wgs0⟩ := open_int Try.underlying3 (hval 0 3 v0 rfl rfl) h0
  have wgs := i64_of wgs0
  obtain ⟨a1, len1, cap1, rfl⟩ := okWide_slice Try.underlying44 (hval 1 44 v1 rfl rfl)
  obtain ⟨k1, hf1⟩ := h1
  obtain ⟨A, n, c, e1, hr, hn, hnc⟩ := open_acts Try.underlying44 Try.underlying47 (by kernel_rfl) (by kernel_rfl) Try.underlying3 Try.underlying3 Try.underlying3 Try.underlying3 Try.underlying2 Try.underlying2 hf1
  rw [e1]
  exact walkFences gs A n c W hr hn
theorem LeaseFences_reads : ∀ t ∈ Try.f7.params.toList, Try.prog.readableRec t = true ∧ t < Try.prog.types.size := by
  rw [Try.params7]
  have e : ∀ t, (Try.prog.readableRec t && decide (t < Try.prog.types.size)) = true → Try.prog.readableRec t = true ∧ t < Try.prog.types.size := fun t h => by simpa using h
  intro t ht
  simp only [List.mem_cons, List.not_mem_nil, or_false] at ht
  rcases ht with rfl | rfl <;> exact e _ (by kernel_rfl)
theorem LeaseFences_fn {H : Type} : ∀ ds : List (DataW H), ds.length = Try.f7.params.size → (Rows.leaseFencesSpec.fn H ds).results = [.lit (.bool true)] ∧ (Rows.leaseFencesSpec.fn H ds).args = ds ∧ (Rows.leaseFencesSpec.fn H ds).vars = [] := by
  intro ds h
  rw [show Try.f7.params.size = 2 by rw [Try.params7]; rfl] at h
  match ds, h with
  | [d0, d1], _ => exact ⟨rfl, rfl, rfl⟩
set_option maxRecDepth 100000 in
theorem LeaseFences_lifted (os : Os) (started : os.Started) (H : Type) (enc : TypeId × Value → H) :
    ReturnsInHanded {} Try.checked os 7 .any (Rows.leaseFencesSpec.pre6 enc Try.prog Try.f7 Rows.leaseFencesRow.domain false) (Rows.leaseFencesSpec.post enc Try.prog Try.f7 false true false false) := by
  refine returnsInHanded_of_change (C := Try.checked) ownNone started (by kernel_rfl) Try.func7
    (ChangeSpec.witness6 (enc := enc) (C := Try.checked) false ⟨#[], #[.int .i64 0, .slice none 0 0], []⟩ 8 (by kernel_rfl) (by kernel_rfl) (by kernel_rfl) (by kernel_rfl)) ?_
  intro W base args ds gs before hval hW _ _
  refine (LeaseFences_contract H enc W base args ds gs before hval hW).mono fun e W' ⟨he, hb⟩ => ⟨_, he, ?_⟩
  exact law_post laidOut rfl (by kernel_rfl) Try.underlying4 LeaseFences_reads LeaseFences_fn hW hb

theorem LeaseFences_over : Rows.leaseFencesRow.holds Try.pinned (OpenSpec.ofChange Rows.leaseFencesSpec) :=
  OpenClaim.holds_of_wide 7 Try.f7 rfl rfl rfl rfl rfl rfl rfl ⟨rfl, rfl, rfl, rfl, rfl⟩ rfl rfl rfl rfl rfl (by kernel_rfl) Try.func7 (by kernel_rfl)
    (of_decide_eq_true (by kernel_rfl)) (by unfold Func.isWrapper; first | (rw [if_pos (by decide +kernel)]; kernel_rfl) | (rw [if_neg (by decide +kernel)]; exact ⟨rfl, rfl⟩))
    (fun os started H enc _ => LeaseFences_lifted os started H enc)

theorem LeaseFences_holds : Rows.LeaseFencesSaid := LeaseFences_over
#print axioms LeaseFences_holds
end Go.Proofs.Ytinccckpohaoiaa
