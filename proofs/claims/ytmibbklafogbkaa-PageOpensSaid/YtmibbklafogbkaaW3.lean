/- Words for areas of bytes in memory: copy out of a text or a slice, the worlds behind them variables. -/
import Derived.Test.YtmibbklafogbkaaW2
import Derived.Test.YtmibbklafogbkaaFm
import Derived.Laws.IdiomCopy
import Derived.Lib.LazyBuf
namespace Go.Proofs.Ytmibbklafogbkaa
open Go.RowKit
open Fld
theorem cells_eq (bs : List UInt8) : (bs.map fun x => Value.int .u8 (x.toNat : Int)) = (bytesOf bs).toList := by simp [bytesOf]
theorem Blk.setCells (b : Nat) (t : TypeId) : ∀ (bs : List UInt8) (o : Nat) (w : World) (l : List UInt8), Blk w b t (bytesOf l) → o + bs.length ≤ l.length →
    Blk (w.setCells b o (bs.map fun x => Value.int .u8 (x.toNat : Int))) b t (bytesOf (setL l o bs))
  | [], o, w, l, h, _ => by rw [setL_nil]; exact h
  | x :: r, o, w, l, h, hl => by
    rw [setL_cons l o x r (by simp at hl; omega)]
    have h1 := h.store o (.int .u8 (x.toNat : Int))
    rw [bytesOf_set] at h1
    exact Blk.setCells b t r (o + 1) _ (l.set o x) h1 (by simp at hl ⊢; omega)
theorem grown_setCells (b : Nat) : ∀ (vs : List Value) (o : Nat) (w : World), w.grownBy (w.setCells b o vs) (some b)
  | [], _, w => World.grownBy.refl w _
  | v :: r, o, w => by
    have h1 := grown_setCells b r (o + 1) (w.setCell ⟨b, o, none⟩ v)
    have hz : (w.setCell ⟨b, o, none⟩ v).heap.size = w.heap.size := by simp [World.setCell]
    exact ⟨h1.os, h1.tape, h1.output, by rw [← hz]; exact h1.size, fun k hk hne => (h1.block k (by rw [hz]; exact hk) hne).trans (Below.heap_setCell _ _ _ _ (fun e => hne (by rw [e])))⟩
section
variable {P : Program} {ops : Array Oper} {rest : List Oper} {o : Oper} {a : Act} {w : World} {Q : Exit → Act → World → Prop}
/-- '[]byte(s)', with what is known of the capacity. -/
theorem wpList_bytes' (hw : Region.wanted o (yielded ops a.tmps) = true) (src dst e : TypeId) (x : Operand) (ho : o.op = .convert src dst x) (s : ByteArray) (hx : a.eval x = .string s)
    (hs : P.underlying src = some .string) (hd : P.underlying dst = some (.slice e)) (he : P.underlying e = some (.int .u8))
    (h : ∀ (W : World) (c : Nat), Blk W w.heap.size e (bytesRow s c) → w.grownBy W none → w.heap.size < W.heap.size → s.size ≤ c → wpList P ops Q rest (a.put o.dst (.slice (some ⟨w.heap.size, 0, none⟩) s.size c)) W) :
    wpList P ops Q (o :: rest) a w := by
  refine wpList_w hw fun K hK => ?_
  have hr := run_bytes_of_string (P := P) w src dst e s hs hd he
  unfold Oper.wp execOp
  simp only [ho, hx, Sem.run_bind, Sem.run_pure, Result.andThen_ok, hr]
  refine hK _ _ (h _ _ ⟨_, heap_alloc_new w.drew _, fun i hi h2 => ?_⟩ ⟨rfl, rfl, rfl, by simp, fun k hk _ => Below.heap_alloc w.drew _ k hk⟩ (by simp) (Nat.le_add_right _ _))
  have := h2.1
  simp only at this
  omega
/-- 'copy(dst, s)' from a text, dst as long as it. -/
theorem wpList_copyS (hw : Region.wanted o (yielded ops a.tmps) = true) (d x : Operand) (dT sT : TypeId) (ho : o.op = .call { callee := .builtin .copy, args := #[d, x], argTypes := #[dT, sT] }) (elem : TypeId)
    (hu : P.underlying dT = some (.slice elem)) (hz : ∀ w, (Go.sizeOf elem).run P w = .ok 1 w) (b off dLen dCap : Nat) (ad : Addr) (hd : a.eval d = .slice (some ad) dLen dCap) (had : 0 < dLen → ad = ⟨b, off, none⟩) (t : ByteArray) (hx : a.eval x = .string t) (hle : t.size = dLen)
    (T : TypeId) (l : List UInt8) (hb : Blk w b T (bytesOf l)) (hl : off + t.size ≤ l.length)
    (h : ∀ W : World, Blk W b T (bytesOf (setL l off t.data.toList)) → w.grownBy W (some b) → wpList P ops Q rest (a.put o.dst (goInt t.size)) W) : wpList P ops Q (o :: rest) a w := by
  have hts : t.data.toList.length = t.size := Array.length_toList ..
  refine wpList_w hw fun K hK => ?_
  by_cases h0 : t.size = 0
  · have hnil : t.data.toList = [] := List.eq_nil_of_length_eq_zero (by omega)
    have hrun : (Builtin.copy_ #[dT, sT] o.type #[.slice (some ad) dLen dCap, .string t]).run P w = .ok (goInt t.size) w := by
      simp [Builtin.copy_, run_underlying hu, Builtin.lenOf, Builtin.firstCells, hz, h0, storeCells]
    unfold Oper.wp execOp
    simp only [ho, resolve, invoke, builtin, hd, hx, Sem.run_bind, Sem.run_pure, Result.andThen_ok, List.map_toArray, List.map_cons, List.map_nil, hrun]
    exact hK _ _ (h w (by rw [hnil, setL_nil]; exact hb) (World.grownBy.refl w _))
  · obtain rfl := had (by omega)
    have hrun := run_copy_string (P := P) w dT sT o.type elem b off dLen dCap t hu hz (by omega)
      (fun j hj => by rw [hb.cell, bytesOf_get l (off + j) (by omega)]; rfl) (fun j hj => hb.frozen (by rw [bytesOf_size]; omega))
    unfold Oper.wp execOp
    simp only [ho, resolve, invoke, builtin, hd, hx, Sem.run_bind, Sem.run_pure, Result.andThen_ok, List.map_toArray, List.map_cons, List.map_nil, hrun]
    exact hK _ _ (h _ (Blk.setCells b T _ off w l hb (by omega)) (grown_setCells b _ off w))
/-- 'copy(dst, src)' from a slice of bytes, both of one length; they may overlap. -/
theorem wpList_copyB (hw : Region.wanted o (yielded ops a.tmps) = true) (d x : Operand) (dT sT : TypeId) (ho : o.op = .call { callee := .builtin .copy, args := #[d, x], argTypes := #[dT, sT] }) (elem : TypeId)
    (hu : P.underlying dT = some (.slice elem)) (hz : (P.info? elem).map (·.size) = some 1) (b off n dCap sCap : Nat) (ad sd : Addr) (hd : a.eval d = .slice (some ad) n dCap) (had : 0 < n → ad = ⟨b, off, none⟩)
    (hx : a.eval x = .slice (some sd) n sCap) (bs : List UInt8) (hbs : bs.length = n) (hsrc : 0 < n → ∀ i, (h : i < bs.length) → w.cell? (sd.add i) = some (.int .u8 (bs[i].toNat : Int)))
    (T : TypeId) (l : List UInt8) (hb : Blk w b T (bytesOf l)) (hl : off + n ≤ l.length)
    (h : ∀ W : World, Blk W b T (bytesOf (setL l off bs)) → w.grownBy W (some b) → wpList P ops Q rest (a.put o.dst (goInt n)) W) : wpList P ops Q (o :: rest) a w := by
  refine wpList_w hw fun K hK => ?_
  by_cases h0 : n = 0
  · subst h0
    have hnil : bs = [] := List.eq_nil_of_length_eq_zero hbs
    have hrun := run_copy_none (P := P) w dT sT o.type elem (some ad) (some sd) 0 dCap 0 sCap hu hz rfl
    unfold Oper.wp execOp
    simp only [ho, resolve, invoke, builtin, hd, hx, Sem.run_bind, Sem.run_pure, Result.andThen_ok, List.map_toArray, List.map_cons, List.map_nil, hrun]
    exact hK _ _ (h w (by rw [hnil, setL_nil]; exact hb) (World.grownBy.refl w _))
  · obtain rfl := had (by omega)
    have hrun := run_copy_cells (P := P) w dT sT o.type elem b off n dCap sd n sCap (bs.map fun x => Value.int .u8 (x.toNat : Int)) hu hz (by simp [hbs])
      (fun j v hv => by
        rw [List.getElem?_map] at hv
        obtain ⟨y, hy, rfl⟩ := Option.map_eq_some_iff.1 hv
        obtain ⟨h1, rfl⟩ := List.getElem?_eq_some_iff.1 hy
        exact hsrc (by omega) j h1)
      (fun j hj => by rw [hb.cell, bytesOf_get l (off + j) (by simp at hj; omega)]; rfl) (fun j hj => hb.frozen (by rw [bytesOf_size]; simp at hj; omega))
      (fun v hv => by obtain ⟨y, _, rfl⟩ := List.mem_map.1 hv; rfl)
    rw [List.length_map, hbs] at hrun
    unfold Oper.wp execOp
    simp only [ho, resolve, invoke, builtin, hd, hx, Sem.run_bind, Sem.run_pure, Result.andThen_ok, List.map_toArray, List.map_cons, List.map_nil, hrun]
    exact hK _ _ (h _ (Blk.setCells b T _ off w l hb (by omega)) (grown_setCells b _ off w))
end
end Go.Proofs.Ytmibbklafogbkaa
