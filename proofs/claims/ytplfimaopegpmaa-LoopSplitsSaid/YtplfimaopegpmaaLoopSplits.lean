/- LoopSplits: the law returns true at every event, limit and two parts of fuel. Conditions: none. -/
import Derived.Test.YtplfimaopegpmaaClose
import Derived.Test.YtplfimaopegpmaaLaw12c
import Derived.Lib.SmallJoins
namespace Go.Proofs.Ytplfimaopegpmaa
open Go.ChangeShapes Go.WideShapes Go.ChangeAt Go.RowKit Go.Joins
set_option linter.unusedVariables false
theorem LoopSplits_contract (H : Type) (enc : TypeId × Value → H) (W : World) (base : Nat) (args : Array Value) (ds gs : List (DataW H)) (before : List MemPlace)
    (hval : ∀ (j : Nat) t v, Try.f5.params[j]? = some t → args[j]? = some v → Value.okWide Try.prog W .any base t v)
    (hW : DataW.Whole enc Try.prog Try.f5.params.toList Rows.loopSplitsSpec.vars false W args.toList ds gs before) :
    Calls Try.prog 5 args W fun e W' => e = .returned (.bool true) ∧ Below W.heap.size W W' := by
  have hlt : ∀ x ∈ before, x.block < W.heap.size := fun x hx => hW.lt x hx
  obtain ⟨p, q, hA0, hV, rfl, hfz, hnd⟩ := hW
  have hA : DataW.TrodAll enc Try.prog W 0 (fun _ => true) true Try.f5.params.toList args.toList ds p := hA0
  rw [Try.params5] at hA hval
  obtain ⟨v0, vs0, d0, ds0, p0, q0, hargs, rfl, rfl, h0, r0⟩ := trodAll_cons hA
  obtain ⟨v1, vs1, d1, ds1, p1, q1, rfl, rfl, rfl, h1, r1⟩ := trodAll_cons r0
  obtain ⟨v2, vs2, d2, ds2, p2, q2, rfl, rfl, rfl, h2, r2⟩ := trodAll_cons r1
  obtain ⟨v3, vs3, d3, ds3, p3, q3, rfl, rfl, rfl, h3, r3⟩ := trodAll_cons r2
  obtain ⟨rfl, rfl, rfl⟩ := trodAll_nil r3
  obtain rfl : args = #[v0, v1, v2, v3] := by cases args; simp_all
  obtain ⟨c00, c01, c02, y00, y01, y02, m0, rfl, rfl, rfl, hy00, hy01, hy02⟩ := open_agg3 Try.underlying23 (by kernel_rfl) (show Try.prog.cellsOf 23 = 3 by kernel_rfl) (hval 0 23 v0 rfl rfl) h0
  obtain ⟨key, e00, rfl, wkey⟩ := DataW.trod_string Try.underlying9 hy00
  simp at e00
  subst e00
  obtain ⟨at_, e01, rfl, wat_0⟩ := DataW.trod_int Try.underlying2 hy01
  simp at e01
  subst e01
  have wat_ := i64_of wat_0
  obtain ⟨v, e02, rfl, wv0⟩ := DataW.trod_int Try.underlying2 hy02
  simp at e02
  subst e02
  have wv := i64_of wv0
  obtain ⟨limit, rfl, rfl, rfl, wlimit0⟩ := open_int Try.underlying2 (hval 1 2 v1 rfl rfl) h1
  have wlimit := i64_of wlimit0
  obtain ⟨a, rfl, rfl, rfl, wa0⟩ := open_int Try.underlying3 (hval 2 3 v2 rfl rfl) h2
  have wa := i64_of wa0
  obtain ⟨b, rfl, rfl, rfl, wb0⟩ := open_int Try.underlying3 (hval 3 3 v3 rfl rfl) h3
  have wb := i64_of wb0
  exact walkSplits key at_ v limit a b W wv wlimit
theorem LoopSplits_reads : ∀ t ∈ Try.f5.params.toList, Try.prog.readableRec t = true ∧ t < Try.prog.types.size := by
  rw [Try.params5]
  have e : ∀ t, (Try.prog.readableRec t && decide (t < Try.prog.types.size)) = true → Try.prog.readableRec t = true ∧ t < Try.prog.types.size := fun t h => by simpa using h
  intro t ht
  simp only [List.mem_cons, List.not_mem_nil, or_false] at ht
  rcases ht with rfl | rfl | rfl | rfl <;> exact e _ (by kernel_rfl)
theorem LoopSplits_fn {H : Type} : ∀ ds : List (DataW H), ds.length = Try.f5.params.size → (Rows.loopSplitsSpec.fn H ds).results = [.lit (.bool true)] ∧ (Rows.loopSplitsSpec.fn H ds).args = ds ∧ (Rows.loopSplitsSpec.fn H ds).vars = [] := by
  intro ds h
  rw [show Try.f5.params.size = 4 by rw [Try.params5]; rfl] at h
  match ds, h with
  | [d0, d1, d2, d3], _ => exact ⟨rfl, rfl, rfl⟩
set_option maxRecDepth 100000 in
theorem LoopSplits_lifted (os : Os) (started : os.Started) (H : Type) (enc : TypeId × Value → H) :
    ReturnsInHanded {} Try.checked os 5 .any (Rows.loopSplitsSpec.pre6 enc Try.prog Try.f5 Rows.loopSplitsRow.domain false) (Rows.loopSplitsSpec.post enc Try.prog Try.f5 false true false false) := by
  refine returnsInHanded_of_change (C := Try.checked) ownNone started (by kernel_rfl) Try.func5
    (ChangeSpec.witness6 (enc := enc) (C := Try.checked) false ⟨#[], #[.agg #[.string .empty, .int .i64 0, .int .i64 0], .int .i64 0, .int .i64 0, .int .i64 0], []⟩ 8 (by kernel_rfl) (by kernel_rfl) (by kernel_rfl) (by kernel_rfl)) ?_
  intro W base args ds gs before hval hW _ _
  refine (LoopSplits_contract H enc W base args ds gs before hval hW).mono fun e W' ⟨he, hb⟩ => ⟨_, he, ?_⟩
  exact law_post laidOut rfl (by kernel_rfl) Try.underlying4 LoopSplits_reads LoopSplits_fn hW hb

theorem LoopSplits_over : Rows.loopSplitsRow.holds Try.pinned (OpenSpec.ofChange Rows.loopSplitsSpec) :=
  OpenClaim.holds_of_wide 5 Try.f5 rfl rfl rfl rfl rfl rfl rfl ⟨rfl, rfl, rfl, rfl, rfl⟩ rfl rfl rfl rfl rfl (by kernel_rfl) Try.func5 (by kernel_rfl)
    (of_decide_eq_true (by kernel_rfl)) (by unfold Func.isWrapper; first | (rw [if_pos (by decide +kernel)]; kernel_rfl) | (rw [if_neg (by decide +kernel)]; exact ⟨rfl, rfl⟩))
    (fun os started H enc _ => LoopSplits_lifted os started H enc)

theorem LoopSplits_holds : Rows.LoopSplitsSaid := LoopSplits_over
#print axioms LoopSplits_holds
end Go.Proofs.Ytplfimaopegpmaa
