/- A 'Sums' (a list of pages, three ints) that comes in, opened to its cells. -/
import Derived.Test.YtmibbklafogbkaaGe
import Derived.Lib.SmallJoins
namespace Go.Proofs.Ytmibbklafogbkaa
open Go.ChangeShapes Go.WideShapes Go.Deep
open Fld Go.RowKit
section
variable {H : Type} {enc : TypeId × Value → H} {w : World} {base : Nat} {spare : Nat → Bool} {held : Bool}
theorem cells92 : Try.prog.cellsOf 92 = 4 := by kernel_rfl
set_option maxRecDepth 100000 in
theorem open_sums {r : Reach} {b0 : Nat} {v : Value} {d : DataW H} {p : List MemPlace} (hv : Value.okWide Try.prog w r b0 92 v) (h : DataW.Trod enc Try.prog w base spare held 92 v d p) :
    ∃ (A : Option Addr) (cap : Nat) (l : List Pg) (z1 z2 z3 : Int), v = .agg #[.slice A l.length cap, .int .i64 z1, .int .i64 z2, .int .i64 z3] ∧ l.length ≤ cap ∧ cap ≤ maxLen ∧ PgAt w A l ∧ (∀ p ∈ l, p.pb.size ≤ maxLen) ∧
      (Lit.int .i64 z1).wf = true ∧ (Lit.int .i64 z2).wf = true ∧ (Lit.int .i64 z3).wf = true := by
  obtain ⟨c0, c1, c2, c3, y0, y1, y2, y3, m, rfl, _, _, g0, g1, g2, g3⟩ := Go.Joins.open_agg4 Try.underlying92 (by kernel_rfl) cells92 hv h
  obtain ⟨A, cap, l, e0, h1, h2, h3, h4⟩ := pages_slice g0
  obtain ⟨z1, e1, _, w1⟩ := DataW.trod_int Try.underlying3 g1
  obtain ⟨z2, e2, _, w2⟩ := DataW.trod_int Try.underlying3 g2
  obtain ⟨z3, e3, _, w3⟩ := DataW.trod_int Try.underlying3 g3
  simp only [List.cons.injEq, and_true] at e0 e1 e2 e3
  subst e0 e1 e2 e3
  exact ⟨A, cap, l, z1, z2, z3, rfl, h1, h2, h3, h4, w1, w2, w3⟩
end
end Go.Proofs.Ytmibbklafogbkaa
