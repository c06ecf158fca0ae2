/- LeaseMakes: the law returns true at every number of groups, table and time. Conditions: none. -/
import Derived.Test.YtinccckpohaoiaaClose
import Derived.Test.YtinccckpohaoiaaLawMk
import Derived.Lib.SmallJoins
namespace Go.Proofs.Ytinccckpohaoiaa
open Go.ChangeShapes Go.WideShapes Go.ChangeAt Go.RowKit Go.Joins
set_option linter.unusedVariables false
set_option linter.unusedSimpArgs false
theorem LeaseMakes_contract (H : Type) (enc : TypeId × Value → H) (W : World) (base : Nat) (args : Array Value) (ds gs : List (DataW H)) (before : List MemPlace)
    (hval : ∀ (j : Nat) t v, Try.f3.params[j]? = some t → args[j]? = some v → Value.okWide Try.prog W .any base t v)
    (hW : DataW.Whole enc Try.prog Try.f3.params.toList Rows.leaseMakesSpec.vars false W args.toList ds gs before) :
    Calls Try.prog 3 args W fun e W' => e = .returned (.bool true) ∧ Below W.heap.size W W' := by
  have hlt : ∀ x ∈ before, x.block < W.heap.size := fun x hx => hW.lt x hx
  obtain ⟨p, q, hA0, hV, rfl, hfz, hnd⟩ := hW
  have hA : DataW.TrodAll enc Try.prog W 0 (fun _ => true) true Try.f3.params.toList args.toList ds p := hA0
  rw [Try.params3] at hA hval
  obtain ⟨v0, vs0, d0, ds0, p0, q0, hargs, rfl, rfl, h0, r0⟩ := trodAll_cons hA
  obtain ⟨v1, vs1, d1, ds1, p1, q1, rfl, rfl, rfl, h1, r1⟩ := trodAll_cons r0
  obtain ⟨v2, vs2, d2, ds2, p2, q2, rfl, rfl, rfl, h2, r2⟩ := trodAll_cons r1
  obtain ⟨rfl, rfl, rfl⟩ := trodAll_nil r2
  obtain rfl : args = #[v0, v1, v2] := by cases args; simp_all
  obtain ⟨g, rfl, rfl, rfl, wg0⟩ := open_int Try.underlying3 (hval 0 3 v0 rfl rfl) h0
  have wg := i64_of wg0
  obtain ⟨c10, c11, y10, y11, m1, rfl, rfl, rfl, hy10, hy11⟩ := open_agg2 Try.underlying24 (by kernel_rfl) (show Try.prog.cellsOf 24 = 2 by kernel_rfl) (hval 1 24 v1 rfl rfl) h1
  obtain ⟨Ale, nle, cle, lsle, rfl, hrle, hmle, hcle, hwle⟩ := open_leases (ti := 0) Try.underlying22 Try.underlying40 (by kernel_rfl) rfl rfl rfl (by kernel_rfl) (by kernel_rfl) (by kernel_rfl) Try.underlying3 Try.underlying3 Try.underlying2 hy10
  obtain ⟨la, e11, rfl, wla0⟩ := DataW.trod_int Try.underlying3 hy11
  simp at e11
  subst e11
  have wla := i64_of wla0
  obtain ⟨now, rfl, rfl, rfl, wnow0⟩ := open_int Try.underlying2 (hval 2 2 v2 rfl rfl) h2
  have wnow := i64_of wnow0
  exact walkMakes Ale nle cle la g now lsle W hrle hmle hcle
theorem LeaseMakes_reads : ∀ t ∈ Try.f3.params.toList, Try.prog.readableRec t = true ∧ t < Try.prog.types.size := by
  rw [Try.params3]
  have e : ∀ t, (Try.prog.readableRec t && decide (t < Try.prog.types.size)) = true → Try.prog.readableRec t = true ∧ t < Try.prog.types.size := fun t h => by simpa using h
  intro t ht
  simp only [List.mem_cons, List.not_mem_nil, or_false] at ht
  rcases ht with rfl | rfl | rfl <;> exact e _ (by kernel_rfl)
theorem LeaseMakes_fn {H : Type} : ∀ ds : List (DataW H), ds.length = Try.f3.params.size → (Rows.leaseMakesSpec.fn H ds).results = [.lit (.bool true)] ∧ (Rows.leaseMakesSpec.fn H ds).args = ds ∧ (Rows.leaseMakesSpec.fn H ds).vars = [] := by
  intro ds h
  rw [show Try.f3.params.size = 3 by rw [Try.params3]; rfl] at h
  match ds, h with
  | [d0, d1, d2], _ => exact ⟨rfl, rfl, rfl⟩
set_option maxRecDepth 100000 in
theorem LeaseMakes_lifted (os : Os) (started : os.Started) (H : Type) (enc : TypeId × Value → H) :
    ReturnsInHanded {} Try.checked os 3 .any (Rows.leaseMakesSpec.pre6 enc Try.prog Try.f3 Rows.leaseMakesRow.domain false) (Rows.leaseMakesSpec.post enc Try.prog Try.f3 false true false false) := by
  refine returnsInHanded_of_change (C := Try.checked) ownNone started (by kernel_rfl) Try.func3
    (ChangeSpec.witness6 (enc := enc) (C := Try.checked) false ⟨#[], #[.int .i64 0, .agg #[.slice none 0 0, .int .i64 0], .int .i64 0], []⟩ 8 (by kernel_rfl) (by kernel_rfl) (by kernel_rfl) (by kernel_rfl)) ?_
  intro W base args ds gs before hval hW _ _
  refine (LeaseMakes_contract H enc W base args ds gs before hval hW).mono fun e W' ⟨he, hb⟩ => ⟨_, he, ?_⟩
  exact law_post laidOut rfl (by kernel_rfl) Try.underlying4 LeaseMakes_reads LeaseMakes_fn hW hb

theorem LeaseMakes_over : Rows.leaseMakesRow.holds Try.pinned (OpenSpec.ofChange Rows.leaseMakesSpec) :=
  OpenClaim.holds_of_wide 3 Try.f3 rfl rfl rfl rfl rfl rfl rfl ⟨rfl, rfl, rfl, rfl, rfl⟩ rfl rfl rfl rfl rfl (by kernel_rfl) Try.func3 (by kernel_rfl)
    (of_decide_eq_true (by kernel_rfl)) (by unfold Func.isWrapper; first | (rw [if_pos (by decide +kernel)]; kernel_rfl) | (rw [if_neg (by decide +kernel)]; exact ⟨rfl, rfl⟩))
    (fun os started H enc _ => LeaseMakes_lifted os started H enc)

theorem LeaseMakes_holds : Rows.LeaseMakesSaid := LeaseMakes_over
#print axioms LeaseMakes_holds
end Go.Proofs.Ytinccckpohaoiaa
