/- For every c of type Moved (two texts, two ints): FieldTexts(c) returns true, and its argument reads as before. No condition. -/
import Derived.Test.YtmibbklafogbkaaF
import Derived.Test.YtmibbklafogbkaaLFtexts
import Derived.Lib.SmallJoins
namespace Go.Proofs.Ytmibbklafogbkaa.fieldTextsDone
open Go.ChangeShapes Go.WideShapes Go.ChangeAt Go.RowKit
open Go.ChangeMaps (open_string shut_string)
set_option linter.unusedVariables false
theorem cells69 : Try.prog.cellsOf 69 = 4 := by kernel_rfl
set_option maxRecDepth 100000 in
theorem lifted (os : Os) (started : os.Started) (H : Type) (enc : TypeId × Value → H) :
    ReturnsInHanded {} Try.checked os 13 .any (Rows.fieldTextsSpec.pre6 enc Try.prog Try.f13 Rows.fieldTextsRow.domain false) (Rows.fieldTextsSpec.post enc Try.prog Try.f13 false true false false) := by
  refine returnsInHanded_of_change (C := Try.checked) own started (by kernel_rfl) Try.func13
    (ChangeSpec.witness6 (enc := enc) (C := Try.checked) false ⟨#[], #[.agg #[.string ByteArray.empty, .string ByteArray.empty, .int .i64 0, .int .i64 0]], []⟩ 8 (by kernel_rfl) (by kernel_rfl) (by kernel_rfl) (by kernel_rfl)) ?_
  intro W base args ds gs before hval0 hW hcnd _
  have hval : ∀ (j : Nat) t v, Try.f13.params[j]? = some t → args[j]? = some v → Value.okWide Try.prog W .any base t v := hval0
  have hW' := hW
  obtain ⟨p, q, hA0, hV, rfl, hfz, hnd⟩ := hW
  have hA : DataW.TrodAll enc Try.prog W 0 (fun _ => true) true Try.f13.params.toList args.toList ds p := hA0
  rw [Try.params13] at hA hval
  obtain ⟨v0, vs0, d0, ds0, p0, q0, hargs, rfl, rfl, h0, r0⟩ := trodAll_cons hA
  obtain ⟨rfl, rfl, rfl⟩ := trodAll_nil r0
  obtain rfl : args = #[v0] := by cases args; simp_all
  obtain ⟨rfl, rfl⟩ := trodVars_none hV
  have k0 := h0
  have lt0 : ∀ x ∈ p0, x.block < W.heap.size := by obtain ⟨m, hm⟩ := k0; exact DataW.trod_lt m _ _ _ hm
  obtain ⟨c0, c1, c2, c3, y0, y1, y2, y3, m, rfl, _, _, g0, g1, g2, g3⟩ := Go.Joins.open_agg4 Try.underlying69 (by kernel_rfl) cells69 (hval 0 69 v0 rfl rfl) h0
  obtain ⟨a, e0, _, wa⟩ := DataW.trod_string Try.underlying9 g0
  obtain ⟨b, e1, _, wb⟩ := DataW.trod_string Try.underlying9 g1
  obtain ⟨s, e2, _, ws⟩ := DataW.trod_int Try.underlying3 g2
  obtain ⟨n, e3, _, wn⟩ := DataW.trod_int Try.underlying3 g3
  simp only [List.cons.injEq, and_true] at e0 e1 e2 e3
  subst e0 e1 e2 e3
  clear hA0 hval0
  refine (ftexts_walk a b s n W wa wb ws wn).mono fun e W' ⟨he, bel⟩ => ?_
  subst he
  exact ⟨_, rfl, _, _, _, [], _, [], hW', trodAll_mk1 (shut_bool Try.underlying4 _), (trodAll_cons_mk (Below.trod laidOut (by kernel_rfl) (of_decide_eq_true (by kernel_rfl)) k0 bel lt0) trodAll_mk0), rfl, bel.frame _, fun h => by cases h⟩

theorem joined : joinedFacts Try.prog 13 Try.f13 Rows.fieldTextsSpec Rows.fieldTextsRow = true := by
  unfold joinedFacts
  rw [make_is, lifts_is, may_is]
  kernel_rfl
theorem over : Rows.fieldTextsRow.holds Try.pinned (OpenSpec.ofChange Rows.fieldTextsSpec) :=
  OpenClaim.holds_of_wide 13 Try.f13 rfl rfl rfl rfl rfl rfl rfl ⟨rfl, rfl, rfl, rfl, rfl⟩ rfl rfl rfl rfl rfl (by kernel_rfl) Try.func13 joined
    (of_decide_eq_true (by kernel_rfl)) (by unfold Func.isWrapper; first | (rw [if_pos (by decide +kernel)]; kernel_rfl) | (rw [if_neg (by decide +kernel)]; exact ⟨rfl, rfl⟩))
    (fun os started H enc _ => lifted os started H enc)
end Go.Proofs.Ytmibbklafogbkaa.fieldTextsDone
namespace Go.Proofs.Ytmibbklafogbkaa
theorem fieldTexts_holds : Rows.FieldTextsSaid := fieldTextsDone.over
#print axioms fieldTexts_holds
end Go.Proofs.Ytmibbklafogbkaa
