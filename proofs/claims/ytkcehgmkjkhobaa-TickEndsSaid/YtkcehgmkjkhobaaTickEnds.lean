/- TickEnds: the law returns true at every slice of numbers. Conditions: none. -/
import Derived.Test.YtkcehgmkjkhobaaOpens
import Derived.Test.YtkcehgmkjkhobaaEnds
namespace Go.Proofs.Ytkcehgmkjkhobaa
open Go.ChangeShapes Go.WideShapes Go.ChangeAt Go.RowKit
set_option linter.unusedVariables false
theorem TickEnds_contract (H : Type) (enc : TypeId × Value → H) (W : World) (base : Nat) (args : Array Value) (ds gs : List (DataW H)) (before : List MemPlace)
    (hval : ∀ (j : Nat) t v, Try.f8.params[j]? = some t → args[j]? = some v → Value.okWide Try.prog W .any base t v)
    (hW : DataW.Whole enc Try.prog Try.f8.params.toList Rows.tickEndsSpec.vars false W args.toList ds gs before) :
    Calls Try.prog 8 args W fun e W' => e = .returned (.bool true) ∧ Below W.heap.size W W' := by
  have hlt : ∀ x ∈ before, x.block < W.heap.size := fun x hx => hW.lt x hx
  obtain ⟨p, q, hA0, hV, rfl, hfz, hnd⟩ := hW
  have hA : DataW.TrodAll enc Try.prog W 0 (fun _ => true) true Try.f8.params.toList args.toList ds p := hA0
  rw [Try.params8] at hA hval
  obtain ⟨v0, vs0, d0, ds0, p0, q0, hargs, rfl, rfl, h0, r0⟩ := trodAll_cons hA
  obtain ⟨rfl, rfl, rfl⟩ := trodAll_nil r0
  obtain rfl : args = #[v0] := by cases args; simp_all
  obtain ⟨A, n, c, zs, rfl, hr, hm, hw, _⟩ := open_ints_reads Try.underlying26 Try.underlying2 (show Try.prog.cellsOf 2 = 1 by kernel_rfl) (hval 0 26 v0 rfl rfl) h0 (fun x hx => hlt x (by simp [hx]))
  exact walkEnds A n c zs W hr hm
theorem TickEnds_reads : ∀ t ∈ Try.f8.params.toList, Try.prog.readableRec t = true ∧ t < Try.prog.types.size := by
  rw [Try.params8]
  have e : ∀ t, (Try.prog.readableRec t && decide (t < Try.prog.types.size)) = true → Try.prog.readableRec t = true ∧ t < Try.prog.types.size := fun t h => by simpa using h
  intro t ht
  simp only [List.mem_cons, List.not_mem_nil, or_false] at ht
  subst ht; exact e _ (by kernel_rfl)
theorem TickEnds_fn {H : Type} : ∀ ds : List (DataW H), ds.length = Try.f8.params.size → (Rows.tickEndsSpec.fn H ds).results = [.lit (.bool true)] ∧ (Rows.tickEndsSpec.fn H ds).args = ds ∧ (Rows.tickEndsSpec.fn H ds).vars = [] := by
  intro ds h
  rw [show Try.f8.params.size = 1 by rw [Try.params8]; rfl] at h
  match ds, h with
  | [d0], _ => exact ⟨rfl, rfl, rfl⟩
set_option maxRecDepth 100000 in
theorem TickEnds_lifted (os : Os) (started : os.Started) (H : Type) (enc : TypeId × Value → H) :
    ReturnsInHanded {} Try.checked os 8 .any (Rows.tickEndsSpec.pre6 enc Try.prog Try.f8 Rows.tickEndsRow.domain false) (Rows.tickEndsSpec.post enc Try.prog Try.f8 false true false false) := by
  refine returnsInHanded_of_change (C := Try.checked) ownNone started (by kernel_rfl) Try.func8
    (ChangeSpec.witness6 (enc := enc) (C := Try.checked) false ⟨#[], #[.slice none 0 0], []⟩ 8 (by kernel_rfl) (by kernel_rfl) (by kernel_rfl) (by kernel_rfl)) ?_
  intro W base args ds gs before hval hW _ _
  refine (TickEnds_contract H enc W base args ds gs before hval hW).mono fun e W' ⟨he, hb⟩ => ⟨_, he, ?_⟩
  exact law_post laidOut rfl (by kernel_rfl) Try.underlying4 TickEnds_reads TickEnds_fn hW hb

theorem TickEnds_over : Rows.tickEndsRow.holds Try.pinned (OpenSpec.ofChange Rows.tickEndsSpec) :=
  OpenClaim.holds_of_wide 8 Try.f8 rfl rfl rfl rfl rfl rfl rfl ⟨rfl, rfl, rfl, rfl, rfl⟩ rfl rfl rfl rfl rfl (by kernel_rfl) Try.func8 (by kernel_rfl)
    (of_decide_eq_true (by kernel_rfl)) (by unfold Func.isWrapper; first | (rw [if_pos (by decide +kernel)]; kernel_rfl) | (rw [if_neg (by decide +kernel)]; exact ⟨rfl, rfl⟩))
    (fun os started H enc _ => TickEnds_lifted os started H enc)

theorem TickEnds_holds : Rows.TickEndsSaid := TickEnds_over
#print axioms TickEnds_holds
end Go.Proofs.Ytkcehgmkjkhobaa
