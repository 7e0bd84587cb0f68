/- A part of a struct stored at a place of a block, the world behind it a variable; texts that are empty or not. -/
import Derived.Test.YtmibbklafogbkaaD2
import Derived.Deep.MidRow
namespace Go.Proofs.Ytmibbklafogbkaa
open Go.RowKit
/-- values laid in a row from a place on -/
def layIn : List Value → Nat → Array Value → Array Value
  | [], _, a => a
  | v :: r, o, a => layIn r (o + 1) (a.setIfInBounds o v)
theorem heap_layIn (b : Nat) (t : TypeId) (fr : Nat × Nat) : ∀ (vs : List Value) (o : Nat) (w : World) (cs : Array Value), w.heap[b]? = some (.cells cs t fr) →
    (w.setCells b o vs).heap[b]? = some (.cells (layIn vs o cs) t fr)
  | [], _, _, _, h => h
  | v :: r, o, w, cs, h => by
    have h1 : (w.setCell ⟨b, o, none⟩ v).heap[b]? = some (.cells (cs.setIfInBounds o v) t fr) := by
      rw [setCell_eq_setRow w b o cs t fr v h]
      exact setRow_heap w b cs _ t fr h
    exact heap_layIn b t fr r (o + 1) _ _ h1
theorem size_setCells (b : Nat) : ∀ (vs : List Value) (o : Nat) (w : World), (w.setCells b o vs).heap.size = w.heap.size
  | [], _, _ => rfl
  | v :: r, o, w => by
    have h1 := size_setCells b r (o + 1) (w.setCell ⟨b, o, none⟩ v)
    have hz : (w.setCell ⟨b, o, none⟩ v).heap.size = w.heap.size := by simp [World.setCell]
    exact h1.trans hz
section
variable {P : Program} {ops : Array Oper} {rest : List Oper} {o : Oper} {a : Act} {w : World} {Q : Exit → Act → World → Prop}
/-- Some cells of a row stored, the world behind it a variable. -/
theorem wpList_storeMid (hgd : o.guard = none) (ty : TypeId) (x y : Operand) (ho : o.op = .store ty x y)
    (g off : Nat) (cells : Array Value) (hx : a.eval x = .pointer (some ⟨g, off, none⟩)) (hy : a.eval y = .agg cells)
    (t : TypeId) (old : Array Value) (hg : w.heap[g]? = some (.cells old t (0, 0))) (hi : (P.info? ty).map (·.size) = some cells.size)
    (hin : off + cells.size ≤ old.size) (h1 : cells.all (·.oneCell') = true)
    (h : ∀ W : World, W.heap[g]? = some (.cells (layIn cells.toList off old) t (0, 0)) → w.grownBy W (some g) → W.heap.size = w.heap.size → wpList P ops Q rest (a.put o.dst undef) W) : wpList P ops Q (o :: rest) a w := by
  refine wpList_store_mid hgd ty x y ho g off cells hx hy (fun j hj => ?_) hi h1 (h _ (heap_layIn g t _ _ _ _ _ hg) (grown_setCells g _ _ _) (size_setCells g _ _ _))
  constructor
  · rw [cell_of_row w g (off + j) _ _ _ hg, Array.getElem?_eq_getElem (by omega)]
    rfl
  · simp [World.frozen?, hg]
end
theorem grown_new' {w W5 W6 : World} {b : Nat} (h5 : w.grownBy W5 none) (h6 : W5.grownBy W6 (some b)) (hb : w.heap.size ≤ b) : w.grownBy W6 none :=
  ⟨h6.os.trans h5.os, h6.tape.trans h5.tape, h6.output.trans h5.output, Nat.le_trans h5.size h6.size, fun k hk _ => (h6.block k (Nat.lt_of_lt_of_le hk h5.size) (fun e => by have := Option.some.inj e; omega)).trans (h5.block k hk (by simp))⟩
theorem no_empty {b : ByteArray} (h : ¬ b = ByteArray.empty) : b.toList.isEmpty = false := by
  rw [Bool.eq_false_iff]
  intro e
  apply h
  have h1 : b.toList = [] := by simpa using e
  rw [ByteArray.toList_eq] at h1
  obtain ⟨⟨d⟩⟩ := b
  have h2 : d = [] := h1
  subst h2
  rfl
theorem empty_size {b : ByteArray} : b = ByteArray.empty ↔ b.size = 0 := by
  constructor
  · rintro rfl; rfl
  · intro h
    obtain ⟨⟨d⟩⟩ := b
    have h2 : d.length = 0 := h
    rw [List.length_eq_zero_iff] at h2
    subst h2
    rfl
theorem no_size {b : ByteArray} (h : 0 < b.size) : b.toList.isEmpty = false := no_empty (fun e => by rw [empty_size.1 e] at h; omega)
end Go.Proofs.Ytmibbklafogbkaa
