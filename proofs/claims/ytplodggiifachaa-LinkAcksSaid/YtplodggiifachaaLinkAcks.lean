/- LinkAcks: the law returns true at every sender and every two places. Conditions: none. -/
import Derived.Test.YtplodggiifachaaClose
import Derived.Test.YtplodggiifachaaOpenS
import Derived.Test.YtplodggiifachaaLinkA
import Derived.Lib.SmallJoins
namespace Go.Proofs.Ytplodggiifachaa
open Go.ChangeShapes Go.WideShapes Go.ChangeAt Go.RowKit Go.Joins
set_option linter.unusedVariables false
set_option linter.unusedSimpArgs false
theorem LinkAcks_contract (H : Type) (enc : TypeId × Value → H) (W : World) (base : Nat) (args : Array Value) (ds gs : List (DataW H)) (before : List MemPlace)
    (hval : ∀ (j : Nat) t v, Try.f4.params[j]? = some t → args[j]? = some v → Value.okWide Try.prog W .any base t v)
    (hW : DataW.Whole enc Try.prog Try.f4.params.toList Rows.linkAcksSpec.vars false W args.toList ds gs before) :
    Calls Try.prog 4 args W fun e W' => e = .returned (.bool true) ∧ Below W.heap.size W W' := by
  have hlt : ∀ x ∈ before, x.block < W.heap.size := fun x hx => hW.lt x hx
  obtain ⟨p, q, hA0, hV, rfl, hfz, hnd⟩ := hW
  have hA : DataW.TrodAll enc Try.prog W 0 (fun _ => true) true Try.f4.params.toList args.toList ds p := hA0
  rw [Try.params4] at hA hval
  obtain ⟨v0, vs0, d0, ds0, p0, q0, hargs, rfl, rfl, h0, r0⟩ := trodAll_cons hA
  obtain ⟨v1, vs1, d1, ds1, p1, q1, rfl, rfl, rfl, h1, r1⟩ := trodAll_cons r0
  obtain ⟨v2, vs2, d2, ds2, p2, q2, rfl, rfl, rfl, h2, r2⟩ := trodAll_cons r1
  obtain ⟨rfl, rfl, rfl⟩ := trodAll_nil r2
  obtain rfl : args = #[v0, v1, v2] := by cases args; simp_all
  obtain ⟨c00, c01, c02, c03, y00, y01, y02, y03, m0, rfl, rfl, rfl, hy00, hy01, hy02, hy03⟩ := open_agg4 Try.underlying31 (by kernel_rfl) (show Try.prog.cellsOf 31 = 4 by kernel_rfl) (hval 0 31 v0 rfl rfl) h0
  obtain ⟨ep, e00, rfl, wep0⟩ := DataW.trod_int Try.underlying3 hy00
  simp at e00
  subst e00
  have wep := i64_of wep0
  obtain ⟨base, e01, rfl, wbase0⟩ := DataW.trod_int Try.underlying3 hy01
  simp at e01
  subst e01
  have wbase := i64_of wbase0
  obtain ⟨Abo, nbo, cbo, zsbo, rfl, hrbo, hmbo, hcbo, hsbo⟩ := open_strs_field Try.underlying29 Try.underlying9 (by kernel_rfl) hy02
  obtain ⟨timer, e03, rfl, wtimer0⟩ := DataW.trod_int Try.underlying3 hy03
  simp at e03
  subst e03
  have wtimer := i64_of wtimer0
  obtain ⟨a, rfl, rfl, rfl, wa0⟩ := open_int Try.underlying3 (hval 1 3 v1 rfl rfl) h1
  have wa := i64_of wa0
  obtain ⟨b, rfl, rfl, rfl, wb0⟩ := open_int Try.underlying3 (hval 2 3 v2 rfl rfl) h2
  have wb := i64_of wb0
  exact walkAcks ep base timer a b zsbo Abo nbo cbo W hrbo hmbo hsbo hcbo
theorem LinkAcks_reads : ∀ t ∈ Try.f4.params.toList, Try.prog.readableRec t = true ∧ t < Try.prog.types.size := by
  rw [Try.params4]
  have e : ∀ t, (Try.prog.readableRec t && decide (t < Try.prog.types.size)) = true → Try.prog.readableRec t = true ∧ t < Try.prog.types.size := fun t h => by simpa using h
  intro t ht
  simp only [List.mem_cons, List.not_mem_nil, or_false] at ht
  rcases ht with rfl | rfl | rfl <;> exact e _ (by kernel_rfl)
theorem LinkAcks_fn {H : Type} : ∀ ds : List (DataW H), ds.length = Try.f4.params.size → (Rows.linkAcksSpec.fn H ds).results = [.lit (.bool true)] ∧ (Rows.linkAcksSpec.fn H ds).args = ds ∧ (Rows.linkAcksSpec.fn H ds).vars = [] := by
  intro ds h
  rw [show Try.f4.params.size = 3 by rw [Try.params4]; rfl] at h
  match ds, h with
  | [d0, d1, d2], _ => exact ⟨rfl, rfl, rfl⟩
set_option maxRecDepth 100000 in
theorem LinkAcks_lifted (os : Os) (started : os.Started) (H : Type) (enc : TypeId × Value → H) :
    ReturnsInHanded {} Try.checked os 4 .any (Rows.linkAcksSpec.pre6 enc Try.prog Try.f4 Rows.linkAcksRow.domain false) (Rows.linkAcksSpec.post enc Try.prog Try.f4 false true false false) := by
  refine returnsInHanded_of_change (C := Try.checked) ownNone started (by kernel_rfl) Try.func4
    (ChangeSpec.witness6 (enc := enc) (C := Try.checked) false ⟨#[], #[.agg #[.int .i64 0, .int .i64 0, .slice none 0 0, .int .i64 0], .int .i64 0, .int .i64 0], []⟩ 8 (by kernel_rfl) (by kernel_rfl) (by kernel_rfl) (by kernel_rfl)) ?_
  intro W base args ds gs before hval hW _ _
  refine (LinkAcks_contract H enc W base args ds gs before hval hW).mono fun e W' ⟨he, hb⟩ => ⟨_, he, ?_⟩
  exact law_post laidOut rfl (by kernel_rfl) Try.underlying4 LinkAcks_reads LinkAcks_fn hW hb

theorem LinkAcks_over : Rows.linkAcksRow.holds Try.pinned (OpenSpec.ofChange Rows.linkAcksSpec) :=
  OpenClaim.holds_of_wide 4 Try.f4 rfl rfl rfl rfl rfl rfl rfl ⟨rfl, rfl, rfl, rfl, rfl⟩ rfl rfl rfl rfl rfl (by kernel_rfl) Try.func4 (by kernel_rfl)
    (of_decide_eq_true (by kernel_rfl)) (by unfold Func.isWrapper; first | (rw [if_pos (by decide +kernel)]; kernel_rfl) | (rw [if_neg (by decide +kernel)]; exact ⟨rfl, rfl⟩))
    (fun os started H enc _ => LinkAcks_lifted os started H enc)

theorem LinkAcks_holds : Rows.LinkAcksSaid := LinkAcks_over
#print axioms LinkAcks_holds
end Go.Proofs.Ytplodggiifachaa
