/- More words for the walks: a made slice of bytes, a text out of bytes, the worlds behind them variables. -/
import Derived.Test.YtmibbklafogbkaaW
import Derived.Laws.BytesArg
import Derived.Laws.MakeOwn
import Derived.Laws.OwnMore
namespace Go.Proofs.Ytmibbklafogbkaa
open Go.RowKit
theorem strOf_bytes (l : List UInt8) : strOfNums (l.map fun b => (b.toNat : Int)) = ⟨l.toArray⟩ := by
  unfold strOfNums
  congr 2
  rw [List.map_map]
  conv => rhs; rw [← List.map_id l]
  apply List.map_congr_left
  intro b _
  simp
theorem bytesOf_set (l : List UInt8) (i : Nat) (z : UInt8) : (bytesOf l).setIfInBounds i (.int .u8 (z.toNat : Int)) = bytesOf (l.set i z) := by
  apply Array.toList_inj.1
  simp [bytesOf, List.map_set]
theorem bytesRow_eq (s : ByteArray) (c : Nat) : bytesRow s c = bytesOf (s.data.toList ++ List.replicate (c - s.size) 0) := by
  simp [bytesOf, bytesRow]
section
variable {P : Program} {ops : Array Oper} {rest : List Oper} {o : Oper} {a : Act} {w : World} {Q : Exit → Act → World → Prop}
theorem run_string_of (src dst e : TypeId) (hs : P.underlying src = some (.slice e)) (he : P.underlying e = some (.int .u8)) (hd : P.underlying dst = some .string) (b off len cap : Nat) (l : List UInt8) (hl : l.length = len)
    (hc : ∀ i, (h : i < l.length) → w.cell? ⟨b, off + i, none⟩ = some (.int .u8 (l[i].toNat : Int))) :
    (convert src dst (.slice (some ⟨b, off, none⟩) len cap)).run P w = .ok (.string ⟨l.toArray⟩) w := by
  rw [← strOf_bytes]
  refine run_convert_bytes_arg w src e hs he b off len cap _ (by simpa using hl) (fun i hi => ?_) dst hd
  rw [hc i (by omega)]
  simp [show i < l.length by omega]
theorem wpList_w (hw : Region.wanted o (yielded ops a.tmps) = true) (h : ∀ K : Act → World → Prop, (∀ a w, wpList P ops Q rest a w → K a w) → o.wp P a w K Q) : wpList P ops Q (o :: rest) a w :=
  wpList_step fun K hK => by rw [if_pos hw]; exact h K hK
/-- 'string(b)', b a slice of bytes whose cells are known. -/
theorem wpList_string (hw : Region.wanted o (yielded ops a.tmps) = true) (src dst e : TypeId) (x : Operand) (ho : o.op = .convert src dst x) (b off len cap : Nat) (hx : a.eval x = .slice (some ⟨b, off, none⟩) len cap)
    (hs : P.underlying src = some (.slice e)) (he : P.underlying e = some (.int .u8)) (hd : P.underlying dst = some .string) (z : ByteArray) (l : List UInt8) (hzl : z.data.toList = l) (hl : l.length = len)
    (hc : ∀ i, (h : i < l.length) → w.cell? ⟨b, off + i, none⟩ = some (.int .u8 (l[i].toNat : Int)))
    (h : wpList P ops Q rest (a.put o.dst (.string z)) w) : wpList P ops Q (o :: rest) a w := by
  refine wpList_w hw fun K hK => ?_
  have hr := run_string_of (w := w) src dst e hs he hd b off len cap l hl hc
  have hzz : z = ⟨l.toArray⟩ := by subst hzl; simp
  rw [← hzz] at hr
  unfold Oper.wp execOp
  simp only [ho, hx, Sem.run_bind, Sem.run_pure, Result.andThen_ok, hr]
  exact hK _ _ h
/-- 'make([]byte, n)', the world behind it a variable. -/
theorem wpList_makeBytes (hw : Region.wanted o (yielded ops a.tmps) = true) (t e : TypeId) (x y : Operand) (ho : o.op = .makeSlice t x y) (n : Nat) (hx : a.eval x = .int .i64 (n : Int)) (hy : a.eval y = .int .i64 (n : Int))
    (ht : P.underlying t = some (.slice e)) (i : TypeInfo) (hi : P.info? e = some i) (hz : i.zero = some (.int .u8 0)) (h1 : i.size = 1) (hb : i.bytes = 1) (hn : n ≤ 281474976710656)
    (h : ∀ W : World, W.heap[w.heap.size]? = some (.cells (bytesOf (List.replicate n 0)) e (0, 0)) → w.grownBy W none → W.heap.size = w.heap.size + 1 → wpList P ops Q rest (a.put o.dst (.slice (some ⟨w.heap.size, 0, none⟩) n n)) W) :
    wpList P ops Q (o :: rest) a w := by
  refine wpList_w hw fun K hK => ?_
  have hr := run_make (P := P) w t e i _ ht hi hz .i64 .i64 n n (by omega) (Int.le_refl _) (by rw [hb]; omega) (by omega)
  have hcs : madeCells (Value.cells (.int .u8 0)) ((n : Int).toNat * i.size) = bytesOf (List.replicate n 0) := by
    rw [h1, Nat.mul_one, Int.toNat_natCast]
    apply Array.toList_inj.1
    show (madeCells #[.int .u8 0] n).toList = _
    rw [toList_madeCells_one]
    simp [bytesOf]
  rw [hcs] at hr
  simp only [Int.toNat_natCast] at hr
  unfold Oper.wp execOp
  simp only [ho, hx, hy, Sem.run_bind, Sem.run_pure, Result.andThen_ok, hr]
  exact hK _ _ (h _ (heap_alloc_new w _) (World.grownBy_alloc w _ _) (by simp))
end
end Go.Proofs.Ytmibbklafogbkaa
