/- For every c of type Two (two uint32, a text, an int): Sum32Apart(c) returns true, and its argument reads as before. No condition. -/
import Derived.Test.YtmibbklafogbkaaF
import Derived.Test.YtmibbklafogbkaaLApart
import Derived.Lib.SmallJoins
namespace Go.Proofs.Ytmibbklafogbkaa.sum32ApartDone
open Go.ChangeShapes Go.WideShapes Go.ChangeAt Go.RowKit
open Go.ChangeMaps (open_string shut_string)
set_option linter.unusedVariables false
theorem cells36 : Try.prog.cellsOf 36 = 4 := by kernel_rfl
set_option maxRecDepth 100000 in
theorem lifted (os : Os) (started : os.Started) (H : Type) (enc : TypeId × Value → H) :
    ReturnsInHanded {} Try.checked os 8 .any (Rows.sum32ApartSpec.pre6 enc Try.prog Try.f8 Rows.sum32ApartRow.domain false) (Rows.sum32ApartSpec.post enc Try.prog Try.f8 false true false false) := by
  refine returnsInHanded_of_change (C := Try.checked) own started (by kernel_rfl) Try.func8
    (ChangeSpec.witness6 (enc := enc) (C := Try.checked) false ⟨#[], #[.agg #[.int .u32 0, .int .u32 0, .string ByteArray.empty, .int .i64 0]], []⟩ 8 (by kernel_rfl) (by kernel_rfl) (by kernel_rfl) (by kernel_rfl)) ?_
  intro W base args ds gs before hval0 hW hcnd _
  have hval : ∀ (j : Nat) t v, Try.f8.params[j]? = some t → args[j]? = some v → Value.okWide Try.prog W .any base t v := hval0
  have hW' := hW
  obtain ⟨p, q, hA0, hV, rfl, hfz, hnd⟩ := hW
  have hA : DataW.TrodAll enc Try.prog W 0 (fun _ => true) true Try.f8.params.toList args.toList ds p := hA0
  rw [Try.params8] at hA hval
  obtain ⟨v0, vs0, d0, ds0, p0, q0, hargs, rfl, rfl, h0, r0⟩ := trodAll_cons hA
  obtain ⟨rfl, rfl, rfl⟩ := trodAll_nil r0
  obtain rfl : args = #[v0] := by cases args; simp_all
  obtain ⟨rfl, rfl⟩ := trodVars_none hV
  have k0 := h0
  have lt0 : ∀ x ∈ p0, x.block < W.heap.size := by obtain ⟨m, hm⟩ := k0; exact DataW.trod_lt m _ _ _ hm
  obtain ⟨c0, c1, c2, c3, y0, y1, y2, y3, m, rfl, _, _, g0, g1, g2, g3⟩ := Go.Joins.open_agg4 Try.underlying36 (by kernel_rfl) cells36 (hval 0 36 v0 rfl rfl) h0
  obtain ⟨a, e0, _, wa⟩ := DataW.trod_int Try.underlying22 g0
  obtain ⟨b, e1, _, wb⟩ := DataW.trod_int Try.underlying22 g1
  obtain ⟨s, e2, _, ws⟩ := DataW.trod_string Try.underlying9 g2
  obtain ⟨n, e3, _, wn⟩ := DataW.trod_int Try.underlying3 g3
  simp only [List.cons.injEq, and_true] at e0 e1 e2 e3
  subst e0 e1 e2 e3
  clear hA0 hval0
  refine (apart_walk a b s n W wa wb ws wn).mono fun e W' ⟨he, bel⟩ => ?_
  subst he
  exact ⟨_, rfl, _, _, _, [], _, [], hW', trodAll_mk1 (shut_bool Try.underlying4 _), (trodAll_cons_mk (Below.trod laidOut (by kernel_rfl) (of_decide_eq_true (by kernel_rfl)) k0 bel lt0) trodAll_mk0), rfl, bel.frame _, fun h => by cases h⟩

theorem joined : joinedFacts Try.prog 8 Try.f8 Rows.sum32ApartSpec Rows.sum32ApartRow = true := by
  unfold joinedFacts
  rw [make_is, lifts_is, may_is]
  kernel_rfl
theorem over : Rows.sum32ApartRow.holds Try.pinned (OpenSpec.ofChange Rows.sum32ApartSpec) :=
  OpenClaim.holds_of_wide 8 Try.f8 rfl rfl rfl rfl rfl rfl rfl ⟨rfl, rfl, rfl, rfl, rfl⟩ rfl rfl rfl rfl rfl (by kernel_rfl) Try.func8 joined
    (of_decide_eq_true (by kernel_rfl)) (by unfold Func.isWrapper; first | (rw [if_pos (by decide +kernel)]; kernel_rfl) | (rw [if_neg (by decide +kernel)]; exact ⟨rfl, rfl⟩))
    (fun os started H enc _ => lifted os started H enc)
end Go.Proofs.Ytmibbklafogbkaa.sum32ApartDone
namespace Go.Proofs.Ytmibbklafogbkaa
theorem sum32Apart_holds : Rows.Sum32ApartSaid := sum32ApartDone.over
#print axioms sum32Apart_holds
end Go.Proofs.Ytmibbklafogbkaa
