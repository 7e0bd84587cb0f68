/- The page layer: blank pages, a page's tail (66, 67, 83, 85). -/
import Derived.Test.YtmibbklafogbkaaPm
import Derived.Test.YtmibbklafogbkaaShelf
import Derived.Test.YtmibbklafogbkaaEw
import Derived.Test.YtmibbklafogbkaaEn
namespace Go.Proofs.Ytmibbklafogbkaa
open Go.RowKit
open Fld
open Crc
theorem repeat_one (x : UInt8) (c : Nat) : Lib.repeatL [x] c = List.replicate c x := by
  induction c with
  | zero => rfl
  | succ c ih => simp only [Lib.repeatL, ih, List.replicate_succ]; rfl
theorem rep_at (b : UInt8) (c : Int) (n : Nat) (hc : c = n) (hn : n ≤ 300) (w w0 : World) (h : Below w0.heap.size w0 w) :
    Calls Try.prog 86 #[.string ⟨#[b]⟩, .int .i64 c] w fun e w' => e = .returned (.string (txt (List.replicate n b))) ∧ Below w0.heap.size w0 w' := by
  subst hc
  refine (Try.strings_Repeat ⟨#[b]⟩ n w (by omega) (by have : (⟨#[b]⟩ : ByteArray).size = 1 := rfl; rw [this]; omega)).mono fun _ _ ⟨x, y⟩ => ⟨?_, h.trans (y.mono h.size)⟩
  rw [x]
  have e : (⟨#[b]⟩ : ByteArray).data.toList = [b] := rfl
  rw [e, repeat_one]
  rfl
set_option maxRecDepth 100000 in
set_option maxHeartbeats 1000000 in
theorem blank_any (w w0 : World) (h : Below w0.heap.size w0 w) : Calls Try.prog 66 #[] w fun e w' => e = .returned (.string (txt blankL)) ∧ Below w0.heap.size w0 w' := by
  obtain ⟨z, hz⟩ : ∃ z, z = txt blankL := ⟨_, rfl⟩
  have hz2 : txt (List.replicate 256 0) = z := by rw [hz]; rfl
  rw [← hz]
  have HZ := Lib.hid hz2
  clear hz hz2
  go_enter Try.func66, Try.ntmps66
  go_wp2_with (go_at_call 86; with_reducible refine (rep_at 0 256 256 (by omega) (by omega) _ w0 h).mono ?_; rintro e w' ⟨rfl, hb⟩; rw [HZ.out])
  go_ret
  exact ⟨rfl, hb⟩
theorem info5' : (Try.prog.info? 5).map (fun i => (i.zero, i.size, i.bytes)) = some (some (.int .u8 0), 1, 1) := by kernel_rfl
set_option maxRecDepth 100000 in
set_option maxHeartbeats 1000000 in
theorem rblank_any (w w0 : World) (h : Below w0.heap.size w0 w) : Calls Try.prog 67 #[] w fun e w' => e = .returned (.string (txt blankL)) ∧ Below w0.heap.size w0 w' := by
  obtain ⟨i0, hi0, hz0, hz1, hz2⟩ := info_parts info5'
  obtain ⟨l, hl⟩ : ∃ l : List UInt8, l = List.replicate 256 0 := ⟨_, rfl⟩
  have hb : blankL = l := hl.symm
  have hll : l.length = 256 := by rw [hl]; simp
  rw [hb]
  have HL := Lib.hid hl
  have HLL := Lib.hid hll
  clear hb hl hll
  obtain ⟨z, hz⟩ : ∃ z, z = txt l := ⟨_, rfl⟩
  rw [← hz]
  have HZ : Hid (z.data.toList = l) := Lib.hid (by rw [hz]; rfl)
  clear hz
  have h256 : ((256 : Nat) : Int) = 256 := rfl
  go_enter Try.func67, Try.ntmps67
  go_wp2_with (first
    | (refine wpList_makeBytes (by first | rfl | go_simp) 30 5 _ _ rfl 256 rfl rfl Try.underlying30 i0 hi0 hz0 hz1 hz2 (by omega) ?_; intro W5 hW5 hg5 hz5; rw [← HL.out] at hW5; have HB : Hid (Blk W5 w.heap.size 5 (bytesOf l)) := Lib.hid (Blk.of hW5); clear hW5 hz5)
    | (refine wpList_string (by first | rfl | go_simp) 30 9 5 _ rfl w.heap.size 0 256 256 rfl Try.underlying30 Try.underlying5 Try.underlying9 z l HZ.out HLL.out (fun i hi => by rw [Nat.zero_add, HB.out.cell, bytesOf_get _ _ hi]) ?_))
  go_ret
  exact ⟨rfl, h.trans (((Below.refl _ _).grown hg5 (Nat.le_refl _) (by simp)).mono h.size)⟩
theorem u8_of (m : Nat) : ((UInt8.ofNat m).toNat : Int) = (m : Int) % 256 := by
  rw [UInt8.toNat_ofNat']
  omega
theorem low_cells (n : Nat) (hn : n < 4294967296) (w : World) : ∀ i, (h : i < (low n).length) →
    (w.alloc (Obj.cells #[Value.int IntKind.u8 ((n : Int) % 256), Value.int IntKind.u8 ((n : Int) / 256 % 256), Value.int IntKind.u8 ((n : Int) / 65536 % 256), Value.int IntKind.u8 ((n : Int) / 16777216)] 5)).cell? ⟨w.heap.size, 0 + i, none⟩ = some (.int .u8 ((low n)[i].toNat : Int)) := by
  intro i h
  have h4 : i < 4 := h
  rw [Nat.zero_add, cell_of_row _ _ _ _ _ _ (heap_alloc_new w _)]
  rcases (show i = 0 ∨ i = 1 ∨ i = 2 ∨ i = 3 by omega) with rfl | rfl | rfl | rfl
  · show some (Value.int IntKind.u8 ((n : Int) % 256)) = some (.int .u8 ((UInt8.ofNat n).toNat : Int))
    rw [u8_of]
  · show some (Value.int IntKind.u8 ((n : Int) / 256 % 256)) = some (.int .u8 ((UInt8.ofNat (n / 256)).toNat : Int))
    rw [u8_of]; congr 2
  · show some (Value.int IntKind.u8 ((n : Int) / 65536 % 256)) = some (.int .u8 ((UInt8.ofNat (n / 65536)).toNat : Int))
    rw [u8_of]; congr 2
  · show some (Value.int IntKind.u8 ((n : Int) / 16777216)) = some (.int .u8 ((UInt8.ofNat (n / 16777216)).toNat : Int))
    rw [u8_of]; congr 2; omega
set_option maxRecDepth 100000 in
set_option maxHeartbeats 1000000 in
theorem low_nat (n : Nat) (w : World) (hn : n < 4294967296) : Calls Try.prog 85 #[.int .u32 (n : Int)] w fun e w' => e = .returned (.string (txt (low n))) ∧ Below w.heap.size w w' := by
  obtain ⟨z, hz⟩ : ∃ z, z = txt (low n) := ⟨_, rfl⟩
  rw [← hz]
  have HZ : Hid (z.data.toList = low n) := Lib.hid (by rw [hz]; rfl)
  clear hz
  go_enter Try.func85, Try.ntmps85
  go_wp2_with (refine wpList_string (by first | rfl | go_simp) 30 9 5 _ rfl w.heap.size 0 4 4 rfl Try.underlying30 Try.underlying5 Try.underlying9 z (low n) HZ.out rfl (low_cells n hn w) ?_)
  go_ret
  exact ⟨rfl, (Below.refl _ _).alloc (Nat.le_refl _) _⟩
theorem low_at (n : Int) (w w0 : World) (h : Below w0.heap.size w0 w) (h0 : 0 ≤ n) (h1 : n < 4294967296) (z : ByteArray) (hz : z = txt (low n.toNat)) : Calls Try.prog 85 #[.int .u32 n] w fun e w' => e = .returned (.string z) ∧ Below w0.heap.size w0 w' := by
  obtain ⟨m, rfl⟩ := Int.eq_ofNat_of_zero_le h0
  exact (low_nat m w (by omega)).mono fun _ _ ⟨a, b⟩ => ⟨by rw [a, hz]; rfl, h.trans (b.mono h.size)⟩
set_option maxRecDepth 100000 in
set_option maxHeartbeats 1000000 in
theorem tail_any (s : ByteArray) (w : World) (h1 : 252 ≤ s.size) (h2 : s.size ≤ 300) (N : Nat) (hN : N = crc (s.data.toList.take 252)) : Calls Try.prog 83 #[.string s] w fun e w' => e = .returned (.string (txt (low N))) ∧ Below w.heap.size w w' := by
  have hlt : N < 4294967296 := by rw [hN]; exact crc_lt _
  have hsum : sumI (s.extract 0 252) = (N : Int) := by
    unfold sumI
    have e : (s.extract 0 252).data.toList = s.data.toList.take 252 := by simp
    rw [e, hN]
  have HS := Lib.hid hsum
  clear hsum hN
  obtain ⟨z, hz⟩ : ∃ z, z = txt (low N) := ⟨_, rfl⟩
  rw [← hz]
  have HZ : Hid (z.data.toList = low N) := Lib.hid (by rw [hz]; rfl)
  clear hz
  have hs3 : (s.extract 0 252).size ≤ 140737488351232 := by rw [ByteArray.size_extract]; omega
  go_enter Try.func83, Try.ntmps83
  go_wp2_with (first
    | (go_at_call 27; with_reducible refine (sum_any _ _ hs3).mono ?_; rintro e w9 ⟨rfl, hb⟩; rw [HS.out])
    | (refine wpList_string (by first | rfl | go_simp) 30 9 5 _ rfl w9.heap.size 0 4 4 rfl Try.underlying30 Try.underlying5 Try.underlying9 z (low N) HZ.out rfl (low_cells N hlt w9) ?_))
  go_ret
  exact ⟨rfl, hb.alloc hb.size _⟩
theorem tail_at (s : ByteArray) (w w0 : World) (h : Below w0.heap.size w0 w) (h1 : 252 ≤ s.size) (h2 : s.size ≤ 300) (z : ByteArray) (hz : z = txt (low (crc (s.data.toList.take 252)))) : Calls Try.prog 83 #[.string s] w fun e w' => e = .returned (.string z) ∧ Below w0.heap.size w0 w' :=
  (tail_any s w h1 h2 _ rfl).mono fun _ _ ⟨a, b⟩ => ⟨by rw [a, hz], h.trans (b.mono h.size)⟩
end Go.Proofs.Ytmibbklafogbkaa
