/- Areas made in a law: new ones, and of a text. -/
import Derived.Test.YtmibbklafogbkaaL1
import Derived.Test.YtmibbklafogbkaaFn
namespace Go.Proofs.Ytmibbklafogbkaa
open Go.RowKit
open Fld
theorem txt_data (s : ByteArray) : txt s.data.toList = s := by
  unfold txt; simp
theorem ofArea_any (w w0 : World) (s : ByteArray) (h0 : Below w0.heap.size w0 w) (h2 : s.size ≤ 4096) (l : List UInt8) (hl : l = s.data.toList) :
    Calls Try.prog 38 #[.string s] w fun e w' => ∃ p B c pad, e = .returned (.tuple #[.pointer (some ⟨p, 0, none⟩), .int .i64 0]) ∧ Own w0 w' p B c l pad ∧ w.heap.size ≤ p ∧ w.heap.size ≤ B :=
  (of_ok s w h2).mono fun e w' h => by subst hl; exact Own.made h h0
theorem newArea_any (w w0 : World) (size : Int) (h0 : Below w0.heap.size w0 w) (h1 : 0 ≤ size) (h2 : size ≤ 4096) (l : List UInt8) (hl : l = List.replicate size.toNat 0) :
    Calls Try.prog 34 #[.int .i64 size] w fun e w' => ∃ p B c pad, e = .returned (.tuple #[.pointer (some ⟨p, 0, none⟩), .int .i64 0]) ∧ Own w0 w' p B c l pad ∧ w.heap.size ≤ p ∧ w.heap.size ≤ B :=
  (new_ok size w h1 h2).mono fun e w' h => by subst hl; exact Own.made h h0
end Go.Proofs.Ytmibbklafogbkaa
