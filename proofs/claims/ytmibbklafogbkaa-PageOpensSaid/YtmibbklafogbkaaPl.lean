/- The page layer: the answers of the document that the laws look at (cadastrelaw03.live, 61). -/
import Derived.Test.YtmibbklafogbkaaPd
import Derived.Test.YtmibbklafogbkaaPc
namespace Go.Proofs.Ytmibbklafogbkaa
open Go.RowKit
open Fld
open Crc
def pgA : Pg := ⟨2, 7, ⟨#[97, 98]⟩⟩
theorem pgA_may : May pgA := by decide
theorem v_head : (txt (sealL pgA)).extract 0 11 = ⟨#[2, 0, 0, 2, 0, 0, 0, 7, 97, 98, 0]⟩ := by kernel_rfl
theorem v_torn : opn (tornL (sealL pgA) 9) = (⟨0, 0, ⟨#[]⟩⟩, 7) := by kernel_rfl
theorem v_blank : opn blankL = (⟨0, 0, ⟨#[]⟩⟩, 0) := by kernel_rfl
theorem v_cut (l : List UInt8) (h : l.length ≠ 256) : opn l = (⟨0, 0, ⟨#[]⟩⟩, 9) := by unfold opn; rw [if_pos h]; rfl
theorem v_no : mayI ⟨0, 0, ⟨#[]⟩⟩ = 1 ∧ sealS ⟨0, 0, ⟨#[]⟩⟩ = ⟨#[]⟩ := may_no (by decide)
theorem Row3.new (w : World) (pk pn : Int) (pb : ByteArray) : Row3 (w.alloc (Obj.cells #[.int .i64 pk, .int .i64 pn, .string pb] 72)) w.heap.size pk pn pb := Row3.of (heap_alloc_new w _)
theorem Row3.lt {w : World} {b : Nat} {pk pn : Int} {pb : ByteArray} (h : Row3 w b pk pn pb) : b < w.heap.size := World.block_lt_of_cell? _ _ h.c0
set_option maxRecDepth 100000 in
set_option maxHeartbeats 4000000 in
theorem live3_any (w : World) : Calls Try.prog 61 #[] w fun e w' => e = .returned (.bool true) ∧ Below w.heap.size w w' := by
  have h0 : Below w.heap.size w w := Below.refl _ _
  obtain ⟨Y, hY⟩ : ∃ Y, Y = txt (sealL pgA) := ⟨_, rfl⟩
  have hYl : Y.data.toList = sealL pgA := by rw [hY]; rfl
  have hYs : Y.size = 256 := by rw [hY, txt_size, seal_length pgA_may]
  obtain ⟨b1, g1, g2, g3⟩ := whole_facts hYs
  have HYS : Hid (Y = sealS ⟨2, 7, ⟨#[97, 98]⟩⟩) := Lib.hid (by rw [hY]; exact (may_yes pgA_may).2.symm)
  have HYF : Hid ((0 : Int) = mayI ⟨2, 7, ⟨#[97, 98]⟩⟩) := Lib.hid (may_yes pgA_may).1.symm
  have HYM : Hid (Y.size ≤ maxLen) := Lib.hid (by unfold maxLen; omega)
  have HO1 : Hid (opn Y.data.toList = (⟨2, 7, ⟨#[97, 98]⟩⟩, 0)) := Lib.hid (by rw [hYl]; exact opn_seal pgA_may)
  have HO2 : Hid (opn (Y.extract 1 Y.size).data.toList = (⟨0, 0, ⟨#[]⟩⟩, 9)) := Lib.hid (v_cut _ (by rw [toList_size, ByteArray.size_extract]; omega))
  have HC2 : Hid ((Y.extract 1 Y.size).size ≤ maxLen) := Lib.hid (by rw [ByteArray.size_extract]; unfold maxLen; omega)
  obtain ⟨T, hT⟩ : ∃ T, T = txt (tornL Y.data.toList 9) := ⟨_, rfl⟩
  have HT := Lib.hid hT
  have HTF : Hid ((0 : Int) = tornI Y.data.toList 9) := Lib.hid (torn_yes ⟨hYs, by decide, by decide⟩).2.symm
  have hTl : T.data.toList = tornL (sealL pgA) 9 := by rw [hT, hYl]; rfl
  have HO3 : Hid (opn T.data.toList = (⟨0, 0, ⟨#[]⟩⟩, 7)) := Lib.hid (by rw [hTl]; exact v_torn)
  have HTM : Hid (T.size ≤ maxLen) := Lib.hid (by rw [← toList_size, hTl, ← hYl, (torn_yes (s := Y) (n := 9) ⟨hYs, by decide, by decide⟩).1]; rw [List.length_append, List.length_replicate, List.length_take]; unfold maxLen; omega)
  obtain ⟨z, hz⟩ : ∃ z, z = txt blankL := ⟨_, rfl⟩
  have HZ := Lib.hid hz
  have HO4 : Hid (opn z.data.toList = (⟨0, 0, ⟨#[]⟩⟩, 0)) := Lib.hid (by rw [hz]; exact v_blank)
  have HZM : Hid (z.size ≤ maxLen) := Lib.hid (by rw [hz, txt_size]; unfold blankL maxLen; simp)
  have hx : Y.extract 0 11 = ⟨#[2, 0, 0, 2, 0, 0, 0, 7, 97, 98, 0]⟩ := by rw [hY]; exact v_head
  clear hY hYl hYs hT hTl hz
  go_enter Try.func61, Try.ntmps61
  go_upto_region 5 with (first
    | (go_at_call 62; with_reducible refine (seal_any 2 7 ⟨#[97, 98]⟩ _ w h0 Y 0 HYS.out HYF.out).mono ?_; rintro e w8 ⟨rfl, hb8⟩)
    | (go_at_call 68; with_reducible refine (open_as Y _ w hb8 HYM.out 2 7 0 ⟨#[97, 98]⟩ HO1.out).mono ?_; rintro e w9 ⟨rfl, hb9⟩))
  have R1 := Row3.new w9 2 7 ⟨#[97, 98]⟩
  have hbw := hb9.alloc hb9.size (Obj.cells #[Value.int IntKind.i64 2, Value.int IntKind.i64 7, Value.string { data := #[97, 98] }] 72)
  generalize w9.heap.size = eb at R1 ⊢
  generalize w9.alloc (Obj.cells #[Value.int IntKind.i64 2, Value.int IntKind.i64 7, Value.string { data := #[97, 98] }] 72) = W2 at R1 hbw ⊢
  clear hb8 hb9 h0
  have hb0 : Below W2.heap.size W2 W2 := Below.refl _ _
  go_upto_region 9 with (first
    | (go_at_call 68; with_reducible refine (open_as (Y.extract 1 Y.size) _ W2 hb0 HC2.out 0 0 9 ⟨#[]⟩ HO2.out).mono ?_; rintro e w10 ⟨rfl, hb10⟩)
    | (go_at_call 64; with_reducible refine (torn_at Y 9 _ W2 (hb10.alloc hb10.size _) T 0 HT.out HTF.out).mono ?_; rintro e w11 ⟨rfl, hb11⟩)
    | (go_at_call 68; with_reducible refine (open_as T _ W2 hb11 HTM.out 0 0 7 ⟨#[]⟩ HO3.out).mono ?_; rintro e w12 ⟨rfl, hb12⟩)
    | (go_at_call 66; with_reducible refine (blank_any _ W2 (hb12.alloc hb12.size _)).mono ?_; rintro e w13 ⟨rfl, hb13⟩; rw [← HZ.out])
    | (go_at_call 68; with_reducible refine (open_as z _ W2 hb13 HZM.out 0 0 0 ⟨#[]⟩ HO4.out).mono ?_; rintro e w14 ⟨rfl, hb14⟩))
  have R2 := Row3.new w14 0 0 ⟨#[]⟩
  have hb3 := hb14.alloc hb14.size (Obj.cells #[Value.int IntKind.i64 0, Value.int IntKind.i64 0, Value.string { data := #[] }] 72)
  generalize w14.heap.size = qb at R2 ⊢
  generalize w14.alloc (Obj.cells #[Value.int IntKind.i64 0, Value.int IntKind.i64 0, Value.string { data := #[] }] 72) = W3 at R2 hb3 ⊢
  clear hb10 hb11 hb12 hb13 hb14 hb0
  replace R1 := R1.below hb3 R1.lt
  replace hbw := hbw.trans (hb3.mono hbw.size)
  clear hb3
  go_upto_region 10 with (go_at_call 62; with_reducible refine (seal_any 0 0 ⟨#[]⟩ _ W3 (Below.refl _ _) ⟨#[]⟩ 1 v_no.2.symm v_no.1.symm).mono ?_; rintro e w15 ⟨rfl, hb15⟩)
  obtain ⟨x0, x1, x2⟩ := R1.below hb15 R1.lt
  obtain ⟨y0, y1, y2⟩ := R2.below hb15 R2.lt
  go_wp2
  go_ret
  exact ⟨rfl, hbw.trans (hb15.mono hbw.size)⟩
theorem live3 (w w0 : World) (h : Below w0.heap.size w0 w) : Calls Try.prog 61 #[] w fun e w' => e = .returned (.bool true) ∧ Below w0.heap.size w0 w' :=
  (live3_any w).mono fun _ _ ⟨a, b⟩ => ⟨a, h.trans (b.mono h.size)⟩
end Go.Proofs.Ytmibbklafogbkaa
