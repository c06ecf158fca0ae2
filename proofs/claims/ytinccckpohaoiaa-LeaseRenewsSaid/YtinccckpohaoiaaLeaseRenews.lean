/- LeaseRenews: the law returns true at every table, group, token and time. Conditions: none. -/
import Derived.Test.YtinccckpohaoiaaClose
import Derived.Test.YtinccckpohaoiaaLawRn
import Derived.Lib.SmallJoins
namespace Go.Proofs.Ytinccckpohaoiaa
open Go.ChangeShapes Go.WideShapes Go.ChangeAt Go.RowKit Go.Joins
set_option linter.unusedVariables false
set_option linter.unusedSimpArgs false
theorem LeaseRenews_contract (H : Type) (enc : TypeId × Value → H) (W : World) (base : Nat) (args : Array Value) (ds gs : List (DataW H)) (before : List MemPlace)
    (hval : ∀ (j : Nat) t v, Try.f5.params[j]? = some t → args[j]? = some v → Value.okWide Try.prog W .any base t v)
    (hW : DataW.Whole enc Try.prog Try.f5.params.toList Rows.leaseRenewsSpec.vars false W args.toList ds gs before) :
    Calls Try.prog 5 args W fun e W' => e = .returned (.bool true) ∧ Below W.heap.size W W' := by
  have hlt : ∀ x ∈ before, x.block < W.heap.size := fun x hx => hW.lt x hx
  obtain ⟨p, q, hA0, hV, rfl, hfz, hnd⟩ := hW
  have hA : DataW.TrodAll enc Try.prog W 0 (fun _ => true) true Try.f5.params.toList args.toList ds p := hA0
  rw [Try.params5] at hA hval
  obtain ⟨v0, vs0, d0, ds0, p0, q0, hargs, rfl, rfl, h0, r0⟩ := trodAll_cons hA
  obtain ⟨v1, vs1, d1, ds1, p1, q1, rfl, rfl, rfl, h1, r1⟩ := trodAll_cons r0
  obtain ⟨v2, vs2, d2, ds2, p2, q2, rfl, rfl, rfl, h2, r2⟩ := trodAll_cons r1
  obtain ⟨v3, vs3, d3, ds3, p3, q3, rfl, rfl, rfl, h3, r3⟩ := trodAll_cons r2
  obtain ⟨v4, vs4, d4, ds4, p4, q4, rfl, rfl, rfl, h4, r4⟩ := trodAll_cons r3
  obtain ⟨rfl, rfl, rfl⟩ := trodAll_nil r4
  obtain rfl : args = #[v0, v1, v2, v3, v4] := by cases args; simp_all
  obtain ⟨c00, c01, y00, y01, m0, rfl, rfl, rfl, hy00, hy01⟩ := open_agg2 Try.underlying24 (by kernel_rfl) (show Try.prog.cellsOf 24 = 2 by kernel_rfl) (hval 0 24 v0 rfl rfl) h0
  obtain ⟨Ale, nle, cle, lsle, rfl, hrle, hmle, hcle, hwle⟩ := open_leases (ti := 0) Try.underlying22 Try.underlying40 (by kernel_rfl) rfl rfl rfl (by kernel_rfl) (by kernel_rfl) (by kernel_rfl) Try.underlying3 Try.underlying3 Try.underlying2 hy00
  obtain ⟨la, e01, rfl, wla0⟩ := DataW.trod_int Try.underlying3 hy01
  simp at e01
  subst e01
  have wla := i64_of wla0
  obtain ⟨g, rfl, rfl, rfl, wg0⟩ := open_int Try.underlying3 (hval 1 3 v1 rfl rfl) h1
  have wg := i64_of wg0
  obtain ⟨tk, rfl, rfl, rfl, wtk0⟩ := open_int Try.underlying3 (hval 2 3 v2 rfl rfl) h2
  have wtk := i64_of wtk0
  obtain ⟨now, rfl, rfl, rfl, wnow0⟩ := open_int Try.underlying2 (hval 3 2 v3 rfl rfl) h3
  have wnow := i64_of wnow0
  obtain ⟨lg, rfl, rfl, rfl, wlg0⟩ := open_int Try.underlying2 (hval 4 2 v4 rfl rfl) h4
  have wlg := i64_of wlg0
  exact walkRenews Ale nle cle la g tk now lg lsle W hrle hmle hcle
theorem LeaseRenews_reads : ∀ t ∈ Try.f5.params.toList, Try.prog.readableRec t = true ∧ t < Try.prog.types.size := by
  rw [Try.params5]
  have e : ∀ t, (Try.prog.readableRec t && decide (t < Try.prog.types.size)) = true → Try.prog.readableRec t = true ∧ t < Try.prog.types.size := fun t h => by simpa using h
  intro t ht
  simp only [List.mem_cons, List.not_mem_nil, or_false] at ht
  rcases ht with rfl | rfl | rfl | rfl | rfl <;> exact e _ (by kernel_rfl)
theorem LeaseRenews_fn {H : Type} : ∀ ds : List (DataW H), ds.length = Try.f5.params.size → (Rows.leaseRenewsSpec.fn H ds).results = [.lit (.bool true)] ∧ (Rows.leaseRenewsSpec.fn H ds).args = ds ∧ (Rows.leaseRenewsSpec.fn H ds).vars = [] := by
  intro ds h
  rw [show Try.f5.params.size = 5 by rw [Try.params5]; rfl] at h
  match ds, h with
  | [d0, d1, d2, d3, d4], _ => exact ⟨rfl, rfl, rfl⟩
set_option maxRecDepth 100000 in
theorem LeaseRenews_lifted (os : Os) (started : os.Started) (H : Type) (enc : TypeId × Value → H) :
    ReturnsInHanded {} Try.checked os 5 .any (Rows.leaseRenewsSpec.pre6 enc Try.prog Try.f5 Rows.leaseRenewsRow.domain false) (Rows.leaseRenewsSpec.post enc Try.prog Try.f5 false true false false) := by
  refine returnsInHanded_of_change (C := Try.checked) ownNone started (by kernel_rfl) Try.func5
    (ChangeSpec.witness6 (enc := enc) (C := Try.checked) false ⟨#[], #[.agg #[.slice none 0 0, .int .i64 0], .int .i64 0, .int .i64 0, .int .i64 0, .int .i64 0], []⟩ 8 (by kernel_rfl) (by kernel_rfl) (by kernel_rfl) (by kernel_rfl)) ?_
  intro W base args ds gs before hval hW _ _
  refine (LeaseRenews_contract H enc W base args ds gs before hval hW).mono fun e W' ⟨he, hb⟩ => ⟨_, he, ?_⟩
  exact law_post laidOut rfl (by kernel_rfl) Try.underlying4 LeaseRenews_reads LeaseRenews_fn hW hb

theorem LeaseRenews_over : Rows.leaseRenewsRow.holds Try.pinned (OpenSpec.ofChange Rows.leaseRenewsSpec) :=
  OpenClaim.holds_of_wide 5 Try.f5 rfl rfl rfl rfl rfl rfl rfl ⟨rfl, rfl, rfl, rfl, rfl⟩ rfl rfl rfl rfl rfl (by kernel_rfl) Try.func5 (by kernel_rfl)
    (of_decide_eq_true (by kernel_rfl)) (by unfold Func.isWrapper; first | (rw [if_pos (by decide +kernel)]; kernel_rfl) | (rw [if_neg (by decide +kernel)]; exact ⟨rfl, rfl⟩))
    (fun os started H enc _ => LeaseRenews_lifted os started H enc)

theorem LeaseRenews_holds : Rows.LeaseRenewsSaid := LeaseRenews_over
#print axioms LeaseRenews_holds
end Go.Proofs.Ytinccckpohaoiaa
