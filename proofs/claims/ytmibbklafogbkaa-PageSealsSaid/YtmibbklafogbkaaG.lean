/- Structs and slices of structs that come in, opened to their cells. -/
import Derived.Test.YtmibbklafogbkaaF
import Derived.Deep.Slices
namespace Go.Proofs.Ytmibbklafogbkaa
open Go.ChangeShapes Go.WideShapes Go.Deep
section
variable {H : Type} {enc : TypeId × Value → H} {P : Program} {w : World} {base : Nat} {spare : Nat → Bool} {held : Bool}
/-- each field of a struct, by the cells that are its own -/
theorem fields_of {t : TypeId} {fs : Array Field} {fuel : Nat} {cs : List Value} {x : DataW H × List MemPlace} (hs : P.underlying t = some (.struct fs)) (h : DataW.trod enc P w base spare held fuel t cs = some x) :
    cs.length = P.cellsOf t ∧ ∃ n, ∀ (i : Nat) (f : Field), fs[i]? = some f → ∃ y, DataW.trod enc P w base spare held n f.type ((cs.drop f.offset).take (P.cellsOf f.type)) = some y := by
  obtain ⟨xs, n, _, _, hl, hx, hf⟩ := DataW.trod_struct hs h
  refine ⟨hl, n, fun i f hi => ?_⟩
  have hlt : i < xs.length := by rw [hx]; exact (Array.getElem?_eq_some_iff.1 hi).1
  exact ⟨xs[i], by rw [hf i f hi, List.getElem?_eq_getElem hlt]⟩
theorem field_at {fs : Array Field} {n : Nat} {cs : List Value} (hcf : ∀ (i : Nat) (f : Field), fs[i]? = some f → ∃ y, DataW.trod enc P w base spare held n f.type ((cs.drop f.offset).take (P.cellsOf f.type)) = some y)
    (i : Nat) (t : TypeId) (o k : Nat) (hf : fs[i]?.map (fun f => (f.type, f.offset)) = some (t, o)) (hk : P.cellsOf t = k) : ∃ y, DataW.trod enc P w base spare held n t ((cs.drop o).take k) = some y := by
  obtain ⟨f, hf1, hf2⟩ := Option.map_eq_some_iff.1 hf
  simp only [Prod.mk.injEq] at hf2
  obtain ⟨rfl, rfl⟩ := hf2
  subst hk
  exact hcf i f hf1
theorem open_struct {r : Reach} {b0 : Nat} {t : TypeId} {fs : Array Field} {v : Value} {d : DataW H} {p : List MemPlace} (hs : P.underlying t = some (.struct fs)) (hv : Value.okWide P w r b0 t v) (h : DataW.Trod enc P w base spare held t v d p) :
    ∃ cs : List Value, v = .agg cs.toArray ∧ cs.length = P.cellsOf t ∧ ∃ n, ∀ (i : Nat) (f : Field), fs[i]? = some f → ∃ y, DataW.trod enc P w base spare held n f.type ((cs.drop f.offset).take (P.cellsOf f.type)) = some y := by
  obtain ⟨ca, rfl, _⟩ := okWide_struct hs hv
  obtain ⟨fuel, hf⟩ := h
  have := fields_of hs hf
  exact ⟨ca.toList, by simp, this⟩
theorem one3 : Try.prog.cellsOf 3 = 1 := by kernel_rfl
theorem one22 : Try.prog.cellsOf 22 = 1 := by kernel_rfl
theorem one9 : Try.prog.cellsOf 9 = 1 := by kernel_rfl
theorem cells58 : Try.prog.cellsOf 58 = 5 := by kernel_rfl
theorem cells72 : Try.prog.cellsOf 72 = 3 := by kernel_rfl
theorem cells74 : Try.prog.cellsOf 74 = 8 := by kernel_rfl
theorem list3 {α : Type} : ∀ l : List α, l.length = 3 → ∃ c0 c1 c2, l = [c0, c1, c2]
  | [c0, c1, c2], _ => ⟨c0, c1, c2, rfl⟩
theorem list4 {α : Type} : ∀ l : List α, l.length = 4 → ∃ c0 c1 c2 c3, l = [c0, c1, c2, c3]
  | [c0, c1, c2, c3], _ => ⟨c0, c1, c2, c3, rfl⟩
theorem list5 {α : Type} : ∀ l : List α, l.length = 5 → ∃ c0 c1 c2 c3 c4, l = [c0, c1, c2, c3, c4]
  | [c0, c1, c2, c3, c4], _ => ⟨c0, c1, c2, c3, c4, rfl⟩
theorem list8 {α : Type} : ∀ l : List α, l.length = 8 → ∃ c0 c1 c2 c3 c4 c5 c6 c7, l = [c0, c1, c2, c3, c4, c5, c6, c7]
  | [c0, c1, c2, c3, c4, c5, c6, c7], _ => ⟨c0, c1, c2, c3, c4, c5, c6, c7, rfl⟩
end
section
variable {H : Type} {enc : TypeId × Value → H} {w : World} {base : Nat} {spare : Nat → Bool} {held : Bool}
/-- the cells of an 'Op' -/
theorem cells_op {fuel : Nat} {cs : List Value} {x : DataW H × List MemPlace} (h : DataW.trod enc Try.prog w base spare held fuel 58 cs = some x) :
    ∃ (z0 z1 z2 z3 : Int) (z4 : ByteArray), cs = [.int .i64 z0, .int .i64 z1, .int .i64 z2, .int .u32 z3, .string z4] ∧ (Lit.int .i64 z0).wf = true ∧ (Lit.int .i64 z1).wf = true ∧ (Lit.int .i64 z2).wf = true ∧ (Lit.int .u32 z3).wf = true ∧ z4.size ≤ maxLen := by
  obtain ⟨hcl, m, hcf⟩ := fields_of Try.underlying58 h
  rw [cells58] at hcl
  obtain ⟨c0, c1, c2, c3, c4, rfl⟩ := list5 cs hcl
  obtain ⟨y0, g0⟩ := field_at hcf 0 3 0 1 rfl one3
  obtain ⟨y1, g1⟩ := field_at hcf 1 3 1 1 rfl one3
  obtain ⟨y2, g2⟩ := field_at hcf 2 3 2 1 rfl one3
  obtain ⟨y3, g3⟩ := field_at hcf 3 22 3 1 rfl one22
  obtain ⟨y4, g4⟩ := field_at hcf 4 9 4 1 rfl one9
  obtain ⟨z0, e0, _, wz0⟩ := DataW.trod_int Try.underlying3 g0
  obtain ⟨z1, e1, _, wz1⟩ := DataW.trod_int Try.underlying3 g1
  obtain ⟨z2, e2, _, wz2⟩ := DataW.trod_int Try.underlying3 g2
  obtain ⟨z3, e3, _, wz3⟩ := DataW.trod_int Try.underlying22 g3
  obtain ⟨z4, e4, _, wz4⟩ := DataW.trod_string Try.underlying9 g4
  simp only [List.drop_succ_cons, List.drop_zero, List.take_succ_cons, List.take_zero, List.cons.injEq, and_true] at e0 e1 e2 e3 e4
  subst e0 e1 e2 e3 e4
  exact ⟨z0, z1, z2, z3, z4, rfl, wz0, wz1, wz2, wz3, wz4⟩
set_option maxRecDepth 100000 in
theorem open_op {r : Reach} {b0 : Nat} {v : Value} {d : DataW H} {p : List MemPlace} (hv : Value.okWide Try.prog w r b0 58 v) (h : DataW.Trod enc Try.prog w base spare held 58 v d p) :
    ∃ (z0 z1 z2 z3 : Int) (z4 : ByteArray), v = .agg #[.int .i64 z0, .int .i64 z1, .int .i64 z2, .int .u32 z3, .string z4] ∧ (Lit.int .i64 z0).wf = true ∧ (Lit.int .i64 z1).wf = true ∧ (Lit.int .i64 z2).wf = true ∧ (Lit.int .u32 z3).wf = true ∧ z4.size ≤ maxLen := by
  obtain ⟨ca, rfl, _⟩ := okWide_struct Try.underlying58 hv
  obtain ⟨fuel, hf⟩ := h
  obtain ⟨l⟩ := ca
  obtain ⟨z0, z1, z2, z3, z4, e, hw⟩ := cells_op hf
  have e' : l = [.int .i64 z0, .int .i64 z1, .int .i64 z2, .int .u32 z3, .string z4] := e
  exact ⟨z0, z1, z2, z3, z4, by rw [e'], hw⟩
end
end Go.Proofs.Ytmibbklafogbkaa
