/- Words that the walks of this seat share: arithmetic on uint32, rows of uint32 cells, blocks. -/
import Derived.Test.YtmibbklafogbkaaRows
import Derived.Test.YtmibbklafogbkaaCrc
import Derived.WalkKit
import Derived.WalkSpells
import Derived.WalkLawsBesides
import Derived.Lib.Hide
import Derived.Laws.CopyOwn
import Derived.Laws.IdiomStrings
import Derived.Deep.WholeRow
namespace Go.Proofs.Ytmibbklafogbkaa
open Go.RowKit
open Crc
theorem ret_int {k : IntKind} {a b : Int} (h : a = b) : Ending.returned (.int k a) = .returned (.int k b) := by rw [h]

theorem u32_and1 (n : Nat) (hn : n < 4294967296) : bits BinOp.and IntKind.u32 (n : Int) 1 = ((n % 2 : Nat) : Int) := by
  have := u32_and_nat n 1 hn (by omega)
  rw [Nat.and_one_is_mod] at this
  exact this
theorem u32_xor_n (a b : Nat) (ha : a < 4294967296) (hb : b < 4294967296) : bits BinOp.xor IntKind.u32 (a : Int) (b : Int) = ((a ^^^ b : Nat) : Int) := u32_xor_nat a b ha hb

def rowU (f : Nat → Nat) (n : Nat) : Array Value := ((List.range n).map fun i => Value.int .u32 (f i : Nat)).toArray
theorem rowU_size (f : Nat → Nat) (n : Nat) : (rowU f n).size = n := by simp [rowU]
theorem rowU_get (f : Nat → Nat) (n i : Nat) (h : i < n) : (rowU f n)[i]? = some (.int .u32 (f i : Nat)) := by simp [rowU, h]
def upd (f : Nat → Nat) (i x : Nat) : Nat → Nat := fun j => if j = i then x else f j
theorem rowU_set (f : Nat → Nat) (n i x : Nat) : (rowU f n).setIfInBounds i (.int .u32 (x : Nat)) = rowU (upd f i x) n := by
  apply Array.ext_getElem?
  intro j
  rw [Array.getElem?_setIfInBounds]
  by_cases hj : j < n
  · rw [rowU_get _ _ _ hj, rowU_get _ _ _ hj]
    by_cases h : i = j
    · subst h; simp [upd, rowU_size, hj]
    · simp [upd, h, show ¬ j = i by omega]
  · have e : ∀ g, (rowU g n)[j]? = none := fun g => Array.getElem?_eq_none (by rw [rowU_size]; omega)
    rw [e, e]
    by_cases h : i = j
    · subst h; simp [rowU_size, hj]
    · simp [h]
theorem rowU_congr {f g : Nat → Nat} {n : Nat} (h : ∀ i, i < n → f i = g i) : rowU f n = rowU g n := by
  apply Array.ext_getElem?
  intro j
  by_cases hj : j < n
  · rw [rowU_get _ _ _ hj, rowU_get _ _ _ hj, h j hj]
  · rw [Array.getElem?_eq_none (by rw [rowU_size]; omega), Array.getElem?_eq_none (by rw [rowU_size]; omega)]
theorem rowU_one (f : Nat → Nat) (n : Nat) : (rowU f n).all (·.oneCell') = true := by
  rw [Array.all_eq_true_iff_forall_mem]
  intro v hv
  simp [rowU] at hv
  obtain ⟨a, _, rfl⟩ := hv
  rfl

/-- A block that is known whole, of which no cell is frozen. -/
def Blk (w : World) (b : Nat) (t : TypeId) (cs : Array Value) : Prop := ∃ fr : Nat × Nat, w.heap[b]? = some (.cells cs t fr) ∧ ∀ i, i < cs.size → ¬ (fr.1 ≤ i ∧ i < fr.2)
theorem Blk.of {w : World} {b : Nat} {t : TypeId} {cs : Array Value} (h : w.heap[b]? = some (.cells cs t (0, 0))) : Blk w b t cs := ⟨(0, 0), h, fun i _ h2 => by simp at h2⟩
theorem Blk.lt {w : World} {b : Nat} {t : TypeId} {cs : Array Value} (h : Blk w b t cs) : b < w.heap.size := by
  obtain ⟨fr, h, _⟩ := h
  exact (Array.getElem?_eq_some_iff.1 h).1
theorem Blk.cell {w : World} {b : Nat} {t : TypeId} {cs : Array Value} (h : Blk w b t cs) (i : Nat) : w.cell? ⟨b, i, none⟩ = cs[i]? := by
  obtain ⟨fr, h, _⟩ := h
  exact cell_of_row w b i cs t fr h
theorem Blk.frozen {w : World} {b : Nat} {t : TypeId} {cs : Array Value} (h : Blk w b t cs) {i : Nat} (hi : i < cs.size) : w.frozen? ⟨b, i, none⟩ = false := by
  obtain ⟨fr, h, hn⟩ := h
  have := hn i hi
  simp only [World.frozen?, h]
  simpa using this
theorem Blk.store {w : World} {b : Nat} {t : TypeId} {cs : Array Value} (h : Blk w b t cs) (i : Nat) (v : Value) : Blk (w.setCell ⟨b, i, none⟩ v) b t (cs.setIfInBounds i v) := by
  obtain ⟨fr, h, hn⟩ := h
  refine ⟨fr, ?_, by simpa using hn⟩
  rw [setCell_eq_setRow w b i cs t fr v h]
  exact setRow_heap w b cs _ t fr h
theorem Blk.row {w : World} {b : Nat} {t : TypeId} {cs : Array Value} (h : Blk w b t cs) (ds : Array Value) (hs : ds.size = cs.size) : Blk (w.setRow b ds) b t ds := by
  obtain ⟨fr, h, hn⟩ := h
  exact ⟨fr, setRow_heap w b cs _ t fr h, by rw [hs]; exact hn⟩
theorem Blk.keep {w w' : World} {b : Nat} {t : TypeId} {cs : Array Value} (h : Blk w b t cs) (e : w'.heap[b]? = w.heap[b]?) : Blk w' b t cs := by
  obtain ⟨fr, h, hn⟩ := h
  exact ⟨fr, e.trans h, hn⟩
theorem Blk.below {w w' : World} {b B : Nat} {t : TypeId} {cs : Array Value} (h : Blk w b t cs) (hb : Below B w w') (hlt : b < B) : Blk w' b t cs := h.keep (hb.block b hlt)
theorem Blk.alloc {w : World} {b : Nat} {t : TypeId} {cs : Array Value} (h : Blk w b t cs) (o : Obj) : Blk (w.alloc o) b t cs := h.keep (Below.heap_alloc w o b h.lt)
theorem Blk.drew {w : World} {b : Nat} {t : TypeId} {cs : Array Value} (h : Blk w b t cs) : Blk w.drew b t cs := h
theorem Blk.new (w : World) (t : TypeId) (cs : Array Value) : Blk (w.alloc (.cells cs t)) w.heap.size t cs := .of (heap_alloc_new w _)
/-- the bytes of a text, as cells -/
def bytesOf (l : List UInt8) : Array Value := (l.map fun b => Value.int .u8 b.toNat).toArray
theorem bytesOf_size (l : List UInt8) : (bytesOf l).size = l.length := by simp [bytesOf]
theorem bytesOf_get (l : List UInt8) (i : Nat) (h : i < l.length) : (bytesOf l)[i]? = some (.int .u8 (l[i].toNat : Int)) := by simp [bytesOf, h]

theorem bytesRow_get (s : ByteArray) (c i : Nat) (h : i < s.size) : (bytesRow s c)[i]? = some (.int .u8 ((s.data.toList[i]'(by simpa using h)).toNat : Int)) := by
  unfold bytesRow
  rw [Array.getElem?_append_left (by simpa using h)]
  rw [Array.getElem?_map, Array.getElem?_eq_getElem (show i < s.data.size from h)]
  simp
theorem bytesRow_size (s : ByteArray) (c : Nat) (h : s.size ≤ c) : (bytesRow s c).size = c := by
  have e : s.data.size = s.size := rfl
  simp [bytesRow, e]; omega

section
variable {P : Program} {ops : Array Oper} {rest : List Oper} {o : Oper} {a : Act} {w : World} {Q : Exit → Act → World → Prop}
/-- '[]byte(s)', the world behind it a variable. -/
theorem wpList_bytes (hgd : o.guard = none) (src dst e : TypeId) (x : Operand) (ho : o.op = .convert src dst x) (s : ByteArray) (hx : a.eval x = .string s)
    (hs : P.underlying src = some .string) (hd : P.underlying dst = some (.slice e)) (he : P.underlying e = some (.int .u8))
    (h : ∀ (W : World) (c : Nat), Blk W w.heap.size e (bytesRow s c) → w.grownBy W none → w.heap.size < W.heap.size → wpList P ops Q rest (a.put o.dst (.slice (some ⟨w.heap.size, 0, none⟩) s.size c)) W) :
    wpList P ops Q (o :: rest) a w := by
  refine wpList_plain hgd fun K hK => ?_
  have hr := run_bytes_of_string (P := P) w src dst e s hs hd he
  unfold Oper.wp execOp
  simp only [ho, hx, Sem.run_bind, Sem.run_pure, Result.andThen_ok, hr]
  refine hK _ _ (h _ _ ⟨_, heap_alloc_new w.drew _, fun i hi h2 => ?_⟩ ⟨rfl, rfl, rfl, by simp, fun k hk _ => Below.heap_alloc w.drew _ k hk⟩ (by simp))
  have := h2.1
  simp only at this
  omega
/-- A whole array stored at a block's head, the world behind it a variable. -/
theorem wpList_storeArr (hgd : o.guard = none) (ty : TypeId) (x y : Operand) (ho : o.op = .store ty x y)
    (g : Nat) (cells : Array Value) (hx : a.eval x = .pointer (some ⟨g, 0, none⟩)) (hy : a.eval y = .agg cells)
    (t : TypeId) (old : Array Value) (hg : w.heap[g]? = some (.cells old t (0, 0))) (hi : (P.info? ty).map (·.size) = some cells.size)
    (hold : old.size = cells.size) (h1 : cells.all (·.oneCell') = true)
    (h : ∀ W : World, W.heap[g]? = some (.cells cells t (0, 0)) → w.grownBy W (some g) → W.heap.size = w.heap.size → wpList P ops Q rest (a.put o.dst undef) W) : wpList P ops Q (o :: rest) a w :=
  wpList_store_row hgd ty x y ho g cells hx hy t old hg hi hold h1
    (h _ (setRow_heap w g old cells t _ hg) ⟨rfl, rfl, rfl, by simp, fun k _ hk => setRow_other w g k cells (fun e => hk (by rw [e]))⟩ (by simp))
/-- A new variable of an array's type, the world behind it a variable. -/
theorem wpList_allocArr (hgd : o.guard = none) (ty : TypeId) (ho : o.op = .alloc ty) (cs : Array Value) (hz : ∀ w, (zeroValue ty).run P w = .ok (.agg cs) w)
    (h : ∀ W : World, W.heap[w.heap.size]? = some (.cells cs ty (0, 0)) → w.grownBy W none → W.heap.size = w.heap.size + 1 → wpList P ops Q rest (a.put o.dst (.pointer (some ⟨w.heap.size, 0, none⟩))) W) :
    wpList P ops Q (o :: rest) a w := by
  refine wpList_plain hgd fun K hK => ?_
  unfold Oper.wp execOp
  simp only [ho, Instr.alloc, Sem.run_bind, Sem.run_pure, Result.andThen_ok, hz, newVar, newRow, run_newObj_alloc, Value.cells]
  exact hK _ _ (h _ (heap_alloc_new w _) (World.grownBy_alloc w _ _) (by simp))
/-- A value laid in a new variable, the world behind it a variable. -/
theorem wpList_boxArr (hgd : o.guard = none) (ty : TypeId) (x : Operand) (ho : o.op = .box ty x) (cs : Array Value) (hx : a.eval x = .agg cs)
    (h : ∀ W : World, W.heap[w.heap.size]? = some (.cells cs ty (0, 0)) → w.grownBy W none → W.heap.size = w.heap.size + 1 → wpList P ops Q rest (a.put o.dst (.pointer (some ⟨w.heap.size, 0, none⟩))) W) :
    wpList P ops Q (o :: rest) a w := by
  refine wpList_plain hgd fun K hK => ?_
  unfold Oper.wp execOp
  simp only [ho, hx, Instr.box, Sem.run_bind, Sem.run_pure, Result.andThen_ok, newVar, newRow, run_newObj_alloc, Value.cells]
  exact hK _ _ (h _ (heap_alloc_new w _) (World.grownBy_alloc w _ _) (by simp))
end
end Go.Proofs.Ytmibbklafogbkaa
