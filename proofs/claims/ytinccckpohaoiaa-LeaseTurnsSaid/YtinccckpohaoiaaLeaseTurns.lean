/- LeaseTurns: the law returns true at every number of groups, group, workers and times. Conditions: none. -/
import Derived.Test.YtinccckpohaoiaaClose
import Derived.Test.YtinccckpohaoiaaLawTn
import Derived.Lib.SmallJoins
namespace Go.Proofs.Ytinccckpohaoiaa
open Go.ChangeShapes Go.WideShapes Go.ChangeAt Go.RowKit Go.Joins
set_option linter.unusedVariables false
set_option linter.unusedSimpArgs false
theorem LeaseTurns_contract (H : Type) (enc : TypeId × Value → H) (W : World) (base : Nat) (args : Array Value) (ds gs : List (DataW H)) (before : List MemPlace)
    (hval : ∀ (j : Nat) t v, Try.f8.params[j]? = some t → args[j]? = some v → Value.okWide Try.prog W .any base t v)
    (hW : DataW.Whole enc Try.prog Try.f8.params.toList Rows.leaseTurnsSpec.vars false W args.toList ds gs before) :
    Calls Try.prog 8 args W fun e W' => e = .returned (.bool true) ∧ Below W.heap.size W W' := by
  have hlt : ∀ x ∈ before, x.block < W.heap.size := fun x hx => hW.lt x hx
  obtain ⟨p, q, hA0, hV, rfl, hfz, hnd⟩ := hW
  have hA : DataW.TrodAll enc Try.prog W 0 (fun _ => true) true Try.f8.params.toList args.toList ds p := hA0
  rw [Try.params8] at hA hval
  obtain ⟨v0, vs0, d0, ds0, p0, q0, hargs, rfl, rfl, h0, r0⟩ := trodAll_cons hA
  obtain ⟨v1, vs1, d1, ds1, p1, q1, rfl, rfl, rfl, h1, r1⟩ := trodAll_cons r0
  obtain ⟨v2, vs2, d2, ds2, p2, q2, rfl, rfl, rfl, h2, r2⟩ := trodAll_cons r1
  obtain ⟨v3, vs3, d3, ds3, p3, q3, rfl, rfl, rfl, h3, r3⟩ := trodAll_cons r2
  obtain ⟨v4, vs4, d4, ds4, p4, q4, rfl, rfl, rfl, h4, r4⟩ := trodAll_cons r3
  obtain ⟨v5, vs5, d5, ds5, p5, q5, rfl, rfl, rfl, h5, r5⟩ := trodAll_cons r4
  obtain ⟨rfl, rfl, rfl⟩ := trodAll_nil r5
  obtain rfl : args = #[v0, v1, v2, v3, v4, v5] := by cases args; simp_all
  obtain ⟨gs, rfl, rfl, rfl, wgs0⟩ := open_int Try.underlying3 (hval 0 3 v0 rfl rfl) h0
  have wgs := i64_of wgs0
  obtain ⟨g, rfl, rfl, rfl, wg0⟩ := open_int Try.underlying3 (hval 1 3 v1 rfl rfl) h1
  have wg := i64_of wg0
  obtain ⟨a, rfl, rfl, rfl, wa0⟩ := open_int Try.underlying3 (hval 2 3 v2 rfl rfl) h2
  have wa := i64_of wa0
  obtain ⟨b, rfl, rfl, rfl, wb0⟩ := open_int Try.underlying3 (hval 3 3 v3 rfl rfl) h3
  have wb := i64_of wb0
  obtain ⟨now, rfl, rfl, rfl, wnow0⟩ := open_int Try.underlying2 (hval 4 2 v4 rfl rfl) h4
  have wnow := i64_of wnow0
  obtain ⟨lg, rfl, rfl, rfl, wlg0⟩ := open_int Try.underlying2 (hval 5 2 v5 rfl rfl) h5
  have wlg := i64_of wlg0
  exact walkTurns gs g a b now lg W wgs wg
theorem LeaseTurns_reads : ∀ t ∈ Try.f8.params.toList, Try.prog.readableRec t = true ∧ t < Try.prog.types.size := by
  rw [Try.params8]
  have e : ∀ t, (Try.prog.readableRec t && decide (t < Try.prog.types.size)) = true → Try.prog.readableRec t = true ∧ t < Try.prog.types.size := fun t h => by simpa using h
  intro t ht
  simp only [List.mem_cons, List.not_mem_nil, or_false] at ht
  rcases ht with rfl | rfl | rfl | rfl | rfl | rfl <;> exact e _ (by kernel_rfl)
theorem LeaseTurns_fn {H : Type} : ∀ ds : List (DataW H), ds.length = Try.f8.params.size → (Rows.leaseTurnsSpec.fn H ds).results = [.lit (.bool true)] ∧ (Rows.leaseTurnsSpec.fn H ds).args = ds ∧ (Rows.leaseTurnsSpec.fn H ds).vars = [] := by
  intro ds h
  rw [show Try.f8.params.size = 6 by rw [Try.params8]; rfl] at h
  match ds, h with
  | [d0, d1, d2, d3, d4, d5], _ => exact ⟨rfl, rfl, rfl⟩
set_option maxRecDepth 100000 in
theorem LeaseTurns_lifted (os : Os) (started : os.Started) (H : Type) (enc : TypeId × Value → H) :
    ReturnsInHanded {} Try.checked os 8 .any (Rows.leaseTurnsSpec.pre6 enc Try.prog Try.f8 Rows.leaseTurnsRow.domain false) (Rows.leaseTurnsSpec.post enc Try.prog Try.f8 false true false false) := by
  refine returnsInHanded_of_change (C := Try.checked) ownNone started (by kernel_rfl) Try.func8
    (ChangeSpec.witness6 (enc := enc) (C := Try.checked) false ⟨#[], #[.int .i64 0, .int .i64 0, .int .i64 0, .int .i64 0, .int .i64 0, .int .i64 0], []⟩ 8 (by kernel_rfl) (by kernel_rfl) (by kernel_rfl) (by kernel_rfl)) ?_
  intro W base args ds gs before hval hW _ _
  refine (LeaseTurns_contract H enc W base args ds gs before hval hW).mono fun e W' ⟨he, hb⟩ => ⟨_, he, ?_⟩
  exact law_post laidOut rfl (by kernel_rfl) Try.underlying4 LeaseTurns_reads LeaseTurns_fn hW hb

theorem LeaseTurns_over : Rows.leaseTurnsRow.holds Try.pinned (OpenSpec.ofChange Rows.leaseTurnsSpec) :=
  OpenClaim.holds_of_wide 8 Try.f8 rfl rfl rfl rfl rfl rfl rfl ⟨rfl, rfl, rfl, rfl, rfl⟩ rfl rfl rfl rfl rfl (by kernel_rfl) Try.func8 (by kernel_rfl)
    (of_decide_eq_true (by kernel_rfl)) (by unfold Func.isWrapper; first | (rw [if_pos (by decide +kernel)]; kernel_rfl) | (rw [if_neg (by decide +kernel)]; exact ⟨rfl, rfl⟩))
    (fun os started H enc _ => LeaseTurns_lifted os started H enc)

theorem LeaseTurns_holds : Rows.LeaseTurnsSaid := LeaseTurns_over
#print axioms LeaseTurns_holds
end Go.Proofs.Ytinccckpohaoiaa
