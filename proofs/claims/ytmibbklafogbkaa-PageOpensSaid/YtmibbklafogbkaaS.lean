/- The walks of package sum32: what each function computes, over every world. -/
import Derived.Test.YtmibbklafogbkaaW
namespace Go.Proofs.Ytmibbklafogbkaa
open Go.RowKit
open Crc
theorem stp_odd {n : Nat} (hn : n < 4294967296) (h : (bits BinOp.and IntKind.u32 (n : Int) 1 == 1) = true) : bits BinOp.xor IntKind.u32 ((n : Int) / 2) 3988292384 = (stp n : Int) := by
  rw [u32_and1 n hn] at h
  have h' : n % 2 = 1 := by have := beq_iff_eq.1 h; omega
  unfold stp
  rw [if_pos h']
  exact u32_xor_nat (n / 2) 3988292384 (by omega) (by omega)
theorem stp_even {n : Nat} (hn : n < 4294967296) (h : (bits BinOp.and IntKind.u32 (n : Int) 1 == 1) = false) : (n : Int) / 2 = (stp n : Int) := by
  rw [u32_and1 n hn] at h
  have h' : ¬ n % 2 = 1 := by have := beq_eq_false_iff_ne.1 h; omega
  unfold stp
  rw [if_neg h']
  rfl
set_option maxHeartbeats 400000 in
theorem step_any (n : Nat) (w : World) (hn : n < 4294967296) :
    Calls Try.prog 89 #[.int .u32 n] w fun e w' => e = .returned (.int .u32 (stp n)) ∧ w = w' := by
  go_enter Try.func89, Try.ntmps89
  go_wp2
  · go_ret
    exact ⟨ret_int (stp_odd hn ‹_›), rfl⟩
  · go_ret
    exact ⟨ret_int (stp_even hn ‹_›), rfl⟩
def tabTo (k : Nat) : Nat → Nat := fun i => if i < k then tab i else 0
theorem tabTo_succ (k : Nat) : upd (tabTo k) k (tab k) = tabTo (k + 1) := by
  funext j
  unfold upd tabTo
  by_cases h : j = k
  · subst h; simp
  · by_cases h2 : j < k
    · simp [h, h2, show j < k + 1 by omega]
    · simp [h, h2, show ¬ j < k + 1 by omega]
theorem zero120 : Try.zeroCells120 = rowU (tabTo 0) 256 := by kernel_rfl
def Tab : Array Value := rowU tab 256

set_option maxHeartbeats 400000 in
set_option maxRecDepth 100000 in
theorem table_any (w : World) :
    Calls Try.prog 88 #[] w fun e w' => e = .returned (.agg Tab) ∧ Below w.heap.size w w' := by
  go_enter Try.func88, Try.ntmps88
  go_wp2
  go_loopw [3] (fun i wr => ∃ k : Nat, k ≤ 256 ∧ i = .int .i64 k ∧ wr.heap[w.heap.size]? = some (.cells (rowU (tabTo k) 256) 120 (0, 0)) ∧ Below w.heap.size w wr) (fun i _ => 256 - (intOf i).toNat)
  case atStart => exact ⟨0, by omega, rfl, by rw [heap_alloc_new, zero120], (Below.refl _ _).alloc (Nat.le_refl _) _⟩
  case round =>
    obtain ⟨k, hk, rfl, hb, hbel⟩ := hrel
    have Hb := Lib.hid hb
    clear hb
    by_cases hlt : k < 256
    · have hd : decide ((k : Int) < 256) = true := decide_eq_true (by omega)
      go_wp2
      go_loop [2, 8] (fun n j => ∃ i : Nat, i ≤ 8 ∧ j = .int .i64 i ∧ n = .int .u32 (stps i k)) (fun _ j => 8 - (intOf j).toNat)
      case atStart => exact ⟨0, by omega, rfl, rfl⟩
      case round =>
        obtain ⟨i, hi, rfl, rfl⟩ := hrel
        have hst : stps i k < 4294967296 := stps_lt i (by omega)
        by_cases hi8 : i < 8
        · go_wp2_with (go_at_call 89; refine (step_any _ _ hst).mono ?_; rintro e w' ⟨rfl, rfl⟩)
          go_round
          case rel => exact ⟨i + 1, by omega, by go_num, by rw [stps_succ']⟩
          case measure => simp [intOf]; omega
        · obtain rfl : i = 8 := by omega
          have hc : wr.cell? ⟨w.heap.size, k, none⟩ = some (.int .u32 ((tabTo k k : Nat) : Int)) := by
            rw [cell_of_row _ _ _ _ _ _ Hb.out, rowU_get _ _ _ hlt]
          have hf : wr.frozen? ⟨w.heap.size, k, none⟩ = false := frozen_of_row _ _ _ _ _ Hb.out
          go_wp2
          go_roundw
          case rel => exact ⟨k + 1, by omega, by go_num, by
            have e := heap_setCell_same _ _ k _ _ (.int .u32 ((stps 8 k : Nat) : Int)) Hb.out
            rw [rowU_set, show stps 8 k = tab k from rfl, tabTo_succ] at e
            exact e, hbel.setCell (Nat.le_refl _) _⟩
          case measure => simp [intOf]; omega
    · obtain rfl : k = 256 := by omega
      have e : rowU (tabTo 256) 256 = Tab := rowU_congr fun i hi => by simp [tabTo, hi]
      have Hb2 : Hid (wr.heap[w.heap.size]? = some (.cells Tab 120 (0, 0))) := by rw [← e]; exact Hb
      have hsz : (Try.prog.info? 120).map (·.size) = some Tab.size := by rw [show Tab.size = 256 from rowU_size _ _]; kernel_rfl
      go_wp2_with (first
        | (refine wpList_load_row rfl 120 _ rfl w.heap.size rfl 120 Tab (0, 0) _ Hb2.out Try.underlying120 rfl hsz ?_)
        | (refine wpList_store_row rfl 120 _ _ rfl w.heap.size Tab rfl rfl 120 Tab Hb2.out hsz rfl (rowU_one _ _) ?_))
      exact bodyPost_ret (results_cell_row rfl _ _ w.heap.size 120 Tab (0, 0) _ rfl (setRow_heap _ _ _ _ _ _ Hb2.out) Try.underlying120 rfl hsz) rfl ⟨rfl, below_setRow hbel (Nat.le_refl _) _⟩
set_option maxHeartbeats 400000 in
set_option maxRecDepth 100000 in
theorem on_nat (n : Nat) (s : ByteArray) (w : World) (hn : n < 4294967296) (hs : s.size ≤ 140737488351232) :
    Calls Try.prog 71 #[.int .u32 n, .string s] w fun e w' => e = .returned (.int .u32 (onl n s.data.toList)) ∧ Below w.heap.size w w' := by
  have hsz : (Try.prog.info? 120).map (·.size) = some Tab.size := by rw [show Tab.size = 256 from rowU_size _ _]; kernel_rfl
  go_enter Try.func71, Try.ntmps71
  go_wp2_with (first
    | (go_at_call 88; refine (table_any _).mono ?_; rintro e w1 ⟨rfl, hb1⟩)
    | (refine wpList_storeArr rfl 120 _ _ rfl _ Tab rfl rfl 120 Try.zeroCells120 (heap_alloc_new _ _) hsz (by rw [zero120, rowU_size]; rfl) (rowU_one _ _) ?_; intro W2 hW2 hg2 hz2; have HW2 := Lib.hid hW2; have HZ2 := Lib.hid hz2; clear hW2 hz2)
    | (refine wpList_bytes rfl 9 30 5 _ rfl s rfl Try.underlying9 Try.underlying30 Try.underlying5 ?_; intro W3 c hW3 hg3 hz3))
  have HT : Blk W3 w1.heap.size 120 Tab := (Blk.of HW2.out).keep (hg3.block _ (by rw [HZ2.out]; simp) (by simp))
  have hbel : Below w.heap.size w W3 := ((hb1.alloc hb1.size _).grown hg2 (by have := hb1.size; simp; omega) (by intro k hk; cases hk; exact hb1.size)).grown hg3 (by rw [HZ2.out]; have := hb1.size; simp; omega) (by simp)
  have HB : Blk W3 W2.heap.size 5 (bytesRow s c) := hW3
  clear hW3 hg3 hz3 HW2 HZ2 hg2 hb1
  go_loop [0, 12] (fun t i => ∃ k : Nat, k ≤ s.size ∧ i = .int .i64 k ∧ t = .int .u32 (onl n (s.data.toList.take k))) (fun _ i => s.size - (intOf i).toNat)
  case atStart => exact ⟨0, by omega, rfl, rfl⟩
  case round =>
    obtain ⟨k, hk, rfl, rfl⟩ := hrel
    by_cases hlt : k < s.size
    · obtain ⟨x, hx⟩ : ∃ x, x = onl n (s.data.toList.take k) := ⟨_, rfl⟩
      obtain ⟨y, hy⟩ : ∃ y, y = s.data.toList[k]'(by simpa using hlt) := ⟨_, rfl⟩
      have hxl : x < 4294967296 := by rw [hx]; exact onl_lt _ hn
      have hyl : y.toNat < 256 := y.toNat_lt
      obtain ⟨j, hj⟩ : ∃ j, j = (x % 256) ^^^ y.toNat := ⟨_, rfl⟩
      have hjl : j < 256 := by rw [hj]; exact Nat.xor_lt_two_pow (n := 8) (by omega) (by omega)
      have hc : W3.cell? ⟨W2.heap.size, k, none⟩ = some (.int .u8 (y.toNat : Int)) := by rw [HB.cell, bytesRow_get s c k hlt, hy]
      have ht : W3.cell? ⟨w1.heap.size, j, none⟩ = some (.int .u32 (tab j : Nat)) := by rw [HT.cell]; exact rowU_get _ _ _ hjl
      have h8 : bits BinOp.xor IntKind.u8 ((x : Int) % 256) (y.toNat : Int) = (j : Int) := by rw [hj]; exact u8_xor_nat (x % 256) y.toNat (by omega) hyl
      have h32 : bits BinOp.xor IntKind.u32 ((x : Int) / 256) ((tab j : Nat) : Int) = ((onb x y.toNat : Nat) : Int) := by
        rw [onb_tab, ← hj]; exact u32_xor_nat (x / 256) (tab j) (by omega) (stps_lt 8 (by omega))
      have hstep : onl n (s.data.toList.take (k + 1)) = onb x y.toNat := by
        rw [List.take_succ_eq_append_getElem (by simpa using hlt), onl_snoc, ← hx, ← hy]
      have HS := Lib.hid hstep
      have HX := Lib.hid hx
      rw [← hx]
      clear hstep hx hy hj
      go_wp2
      go_round
      case rel => exact ⟨k + 1, by omega, by go_num, by rw [HS.out]⟩
      case measure => simp [intOf]; omega
    · obtain rfl : k = s.size := by omega
      have e : s.data.toList.take s.size = s.data.toList := List.take_of_length_le (Nat.le_of_eq (Array.length_toList ..))
      rw [e]
      clear e
      go_wp2
      go_ret
      exact ⟨rfl, hbel⟩
theorem on_any (n : Int) (s : ByteArray) (w : World) (h0 : 0 ≤ n) (hn : n < 4294967296) (hs : s.size ≤ 140737488351232) :
    Calls Try.prog 71 #[.int .u32 n, .string s] w fun e w' => e = .returned (.int .u32 (onl n.toNat s.data.toList)) ∧ Below w.heap.size w w' := by
  obtain ⟨m, rfl⟩ := Int.eq_ofNat_of_zero_le h0
  exact on_nat m s w (by omega) hs
theorem div_pow_cast (n k : Nat) : ((n : Int) / 2 ^ k) = ((n / 2 ^ k : Nat) : Int) := by
  rw [Int.natCast_ediv, Int.natCast_pow]; rfl
theorem bit_test (n k : Nat) (hn : n < 4294967296) : (bits BinOp.and IntKind.u32 ((n : Int) / 2 ^ k) 1 == 1) = decide (n / 2 ^ k % 2 = 1) := by
  have hlt : n / 2 ^ k < 4294967296 := Nat.lt_of_le_of_lt (Nat.div_le_self _ _) hn
  rw [div_pow_cast, u32_and1 _ hlt, Bool.eq_iff_iff]
  simp only [beq_iff_eq, decide_eq_true_eq]
  omega
theorem mofTo_yes (f : Nat → Nat) (n k : Nat) (hn : n < 4294967296) (h : (bits BinOp.and IntKind.u32 ((n : Int) / 2 ^ k) 1 == 1) = true) (h1 : mofTo f n k < 4294967296) (h2 : f k < 4294967296) :
    bits BinOp.xor IntKind.u32 ((mofTo f n k : Nat) : Int) ((f k : Nat) : Int) = ((mofTo f n (k + 1) : Nat) : Int) := by
  rw [bit_test n k hn, decide_eq_true_eq] at h
  rw [u32_xor_nat _ _ h1 h2]
  conv => rhs; unfold mofTo
  rw [if_pos h]
theorem mofTo_no (f : Nat → Nat) (n k : Nat) (hn : n < 4294967296) (h : (bits BinOp.and IntKind.u32 ((n : Int) / 2 ^ k) 1 == 1) = false) : mofTo f n (k + 1) = mofTo f n k := by
  rw [bit_test n k hn, decide_eq_false_iff_not] at h
  conv => lhs; unfold mofTo
  rw [if_neg h]
set_option maxHeartbeats 400000 in
set_option maxRecDepth 100000 in
theorem of_nat (g : Nat) (f : Nat → Nat) (n : Nat) (w : World) (hn : n < 4294967296) (hm : Blk w g 123 (rowU f 32)) (hf : ∀ i, i < 32 → f i < 4294967296) :
    Calls Try.prog 91 #[.pointer (some ⟨g, 0, none⟩), .int .u32 n] w fun e w' => e = .returned (.int .u32 (mofTo f n 32)) ∧ w = w' := by
  go_enter Try.func91, Try.ntmps91
  go_wp2
  go_loop [5, 7] (fun t i => ∃ k : Nat, k ≤ 32 ∧ i = .int .i64 k ∧ t = .int .u32 (mofTo f n k)) (fun _ i => 32 - (intOf i).toNat)
  case atStart => exact ⟨0, by omega, rfl, rfl⟩
  case round =>
    obtain ⟨k, hk, rfl, rfl⟩ := hrel
    by_cases hlt : k < 32
    · have hc := hm.cell k
      rw [rowU_get f 32 k hlt] at hc
      go_wp2
      · have hy := mofTo_yes f n k hn ‹_› (mofTo_lt f n k fun i hi => hf i (by omega)) (hf k hlt)
        go_round
        case rel => exact ⟨k + 1, by omega, by go_num, by rw [hy]⟩
        case measure => simp [intOf]; omega
      · have hy := mofTo_no f n k hn ‹_›
        go_round
        case rel => exact ⟨k + 1, by omega, by go_num, by rw [hy]⟩
        case measure => simp [intOf]; omega
    · obtain rfl : k = 32 := by omega
      go_wp2
      go_ret
      exact ⟨rfl, rfl⟩
theorem of_any (g : Nat) (f : Nat → Nat) (n : Int) (w : World) (h0 : 0 ≤ n) (hn : n < 4294967296) (hm : Blk w g 123 (rowU f 32)) (hf : ∀ i, i < 32 → f i < 4294967296) :
    Calls Try.prog 91 #[.pointer (some ⟨g, 0, none⟩), .int .u32 n] w fun e w' => e = .returned (.int .u32 (mofTo f n.toNat 32)) ∧ w = w' := by
  obtain ⟨m, rfl⟩ := Int.eq_ofNat_of_zero_le h0
  exact of_nat g f m w (by omega) hm hf
def twi (f : Nat → Nat) : Nat → Nat := fun i => mofTo f (f i) 32
theorem zero123 : ∀ w, (zeroValue 123).run Try.prog w = .ok (.agg (rowU (fun _ => 0) 32)) w := (zero_of_info (n := 32) (by kernel_rfl)).1
theorem size123 (f : Nat → Nat) : (Try.prog.info? 123).map (·.size) = some (rowU f 32).size := by rw [rowU_size]; kernel_rfl
def twiTo (f : Nat → Nat) (k : Nat) : Nat → Nat := fun i => if i < k then twi f i else 0
theorem twiTo_succ (f : Nat → Nat) (k : Nat) : upd (twiTo f k) k (twi f k) = twiTo f (k + 1) := by
  funext j
  unfold upd twiTo
  by_cases h : j = k
  · subst h; simp
  · by_cases h2 : j < k
    · simp [h, h2, show j < k + 1 by omega]
    · simp [h, h2, show ¬ j < k + 1 by omega]
theorem twi_lt (f : Nat → Nat) (hf : ∀ i, i < 32 → f i < 4294967296) (i : Nat) : twi f i < 4294967296 := mofTo_lt f (f i) 32 hf
set_option maxHeartbeats 400000 in
set_option maxRecDepth 100000 in
theorem twice_any (f : Nat → Nat) (w : World) (hf : ∀ i, i < 32 → f i < 4294967296) :
    Calls Try.prog 90 #[.agg (rowU f 32)] w fun e w' => e = .returned (.agg (rowU (twi f) 32)) ∧ Below w.heap.size w w' := by
  have hsz := size123
  go_enter Try.func90, Try.ntmps90
  go_wp2_with (first
    | (refine wpList_boxArr (o := ⟨some 1, _, _, _, _, _⟩) rfl 123 _ rfl (rowU f 32) rfl ?_; intro W1 hW1 hg1 hz1; have HW1 := Lib.hid hW1; have HZ1 := Lib.hid hz1; clear hW1 hz1)
    | (refine wpList_allocArr (o := ⟨some 2, _, _, _, _, _⟩) rfl 123 rfl (rowU (fun _ => 0) 32) zero123 ?_; intro W2 hW2 hg2 hz2; have HW2 := Lib.hid hW2; have HZ2 := Lib.hid hz2; clear hW2 hz2)
    | (refine wpList_allocArr (o := ⟨some 3, _, _, _, _, _⟩) rfl 123 rfl (rowU (fun _ => 0) 32) zero123 ?_; intro W3 hW3 hg3 hz3; have HW3 := Lib.hid hW3; have HZ3 := Lib.hid hz3; clear hW3 hz3))
  have z1 : w.heap.size < W1.heap.size := by rw [HZ1.out]; omega
  have z2 : W1.heap.size < W2.heap.size := by rw [HZ2.out]; omega
  have z3 : W2.heap.size < W3.heap.size := by rw [HZ3.out]; omega
  have B0 : Blk W3 w.heap.size 123 (rowU f 32) := ((Blk.of HW1.out).keep (hg2.block _ (by omega) (by simp))).keep (hg3.block _ (by omega) (by simp))
  have B1 : W3.heap[W1.heap.size]? = some (.cells (rowU (fun _ => 0) 32) 123 (0, 0)) := (hg3.block _ (by omega) (by simp)).trans HW2.out
  have B2 : W3.heap[W2.heap.size]? = some (.cells (rowU (twiTo f 0) 32) 123 (0, 0)) := HW3.out
  have hbel : Below w.heap.size w W3 := (((Below.refl _ _).grown hg1 (by omega) (by simp)).grown hg2 (by omega) (by simp)).grown hg3 (by omega) (by simp)
  have HB1 := Lib.hid B1
  have HB2 := Lib.hid B2
  clear B1 B2 HW1 HW2 HW3 HZ1 HZ2 HZ3 hg1 hg2 hg3
  go_loopw [5] (fun i wr => ∃ k : Nat, k ≤ 32 ∧ i = .int .i64 k ∧ wr.heap[W2.heap.size]? = some (.cells (rowU (twiTo f k) 32) 123 (0, 0)) ∧ W3.grownBy wr (some W2.heap.size)) (fun i _ => 32 - (intOf i).toNat)
  case atStart => exact ⟨0, by omega, rfl, HB2.out, World.grownBy.refl _ _⟩
  case round =>
    obtain ⟨k, hk, rfl, hb, hg⟩ := hrel
    have Hb := Lib.hid hb
    clear hb
    have B0' : Blk wr w.heap.size 123 (rowU f 32) := B0.keep (hg.block _ (by omega) (fun h => by have := Option.some.inj h; omega))
    have hbel' : Below w.heap.size w wr := hbel.grown hg (by omega) (by intro k h; cases h; omega)
    by_cases hlt : k < 32
    · have hd : decide ((k : Int) < 32) = true := decide_eq_true (by omega)
      have hc := B0'.cell k
      rw [rowU_get f 32 k hlt] at hc
      have hc2 : wr.cell? ⟨W2.heap.size, k, none⟩ = some (.int .u32 ((twiTo f k k : Nat) : Int)) := by
        rw [cell_of_row _ _ _ _ _ _ Hb.out, rowU_get _ _ _ hlt]
      have hf2 : wr.frozen? ⟨W2.heap.size, k, none⟩ = false := frozen_of_row _ _ _ _ _ Hb.out
      go_wp2_with (go_at_call 91; refine (of_nat _ f _ _ (hf k hlt) B0' hf).mono ?_; rintro e w' ⟨rfl, rfl⟩)
      go_roundw
      case rel => exact ⟨k + 1, by omega, by go_num, by
        have e := heap_setCell_same _ _ k _ _ (.int .u32 ((twi f k : Nat) : Int)) Hb.out
        rw [rowU_set, twiTo_succ] at e
        exact e, ⟨hg.os, hg.tape, hg.output, by simpa [World.setCell] using hg.size, fun j hj hne => (Below.heap_setCell _ _ _ _ (fun e => hne (by rw [e]))).trans (hg.block j hj hne)⟩⟩
      case measure => simp [intOf]; omega
    · obtain rfl : k = 32 := by omega
      have e : rowU (twiTo f 32) 32 = rowU (twi f) 32 := rowU_congr fun i hi => by simp [twiTo, hi]
      have HT : wr.heap[W2.heap.size]? = some (.cells (rowU (twi f) 32) 123 (0, 0)) := by rw [← e]; exact Hb.out
      have HR : wr.heap[W1.heap.size]? = some (.cells (rowU (fun _ => 0) 32) 123 (0, 0)) := (hg.block _ (by omega) (fun h => by have := Option.some.inj h; omega)).trans HB1.out
      have HT' := Lib.hid HT
      have HR' := Lib.hid HR
      clear HT HR
      go_wp2_with (first
        | (refine wpList_load_row rfl 123 _ rfl W2.heap.size rfl 123 (rowU (twi f) 32) (0, 0) _ HT'.out Try.underlying123 rfl (size123 _) ?_)
        | (refine wpList_storeArr rfl 123 _ _ rfl W1.heap.size (rowU (twi f) 32) rfl rfl 123 _ HR'.out (size123 _) (by rw [rowU_size, rowU_size]) (rowU_one _ _) ?_; intro W4 hW4 hg4 hz4; have HW4 := Lib.hid hW4; clear hW4))
      exact bodyPost_ret (results_cell_row rfl _ _ W1.heap.size 123 (rowU (twi f) 32) (0, 0) _ rfl HW4.out Try.underlying123 rfl (size123 _)) rfl ⟨rfl, hbel'.grown hg4 (by have := hg.size; omega) (by intro k h; have := Option.some.inj h; omega)⟩
/-- the matrix of so many steps -/
def Lin (k : Nat) : Nat → Nat := fun i => stps k (2 ^ i)
theorem pow_lt32 {i : Nat} (h : i < 32) : 2 ^ i < 2 ^ 32 := Nat.pow_lt_pow_right (by omega) h
theorem Lin_lt (k i : Nat) (h : i < 32) : Lin k i < 4294967296 := stps_lt k (pow_lt32 h)
theorem mof_Lin (k n : Nat) (hn : n < 4294967296) : mofTo (Lin k) n 32 = stps k n := by
  have := mofTo_linear (stps k) (stps_xor k) n 32
  rw [Nat.mod_eq_of_lt (show n < 2 ^ 32 from hn)] at this
  exact this
theorem twi_Lin (k : Nat) : rowU (twi (Lin k)) 32 = rowU (Lin (k + k)) 32 := rowU_congr fun i hi => by
  show mofTo (Lin k) (Lin k i) 32 = _
  rw [mof_Lin k _ (Lin_lt k i hi)]
  unfold Lin
  rw [stps_add]
theorem twice_Lin (k : Nat) (w : World) : Calls Try.prog 90 #[.agg (rowU (Lin k) 32)] w fun e w' => e = .returned (.agg (rowU (Lin (k + k)) 32)) ∧ Below w.heap.size w w' := by
  have := twice_any (Lin k) w (Lin_lt k)
  rw [twi_Lin] at this
  exact this
theorem of_Lin (g : Nat) (k n : Nat) (w : World) (hn : n < 4294967296) (hm : Blk w g 123 (rowU (Lin k) 32)) :
    Calls Try.prog 91 #[.pointer (some ⟨g, 0, none⟩), .int .u32 n] w fun e w' => e = .returned (.int .u32 (stps k n : Nat)) ∧ w = w' := by
  have := of_nat g (Lin k) n w hn hm (Lin_lt k)
  rw [mof_Lin k n hn] at this
  exact this
theorem i64_and1 (n : Nat) (hn : n < 9223372036854775808) : bits BinOp.and IntKind.i64 (n : Int) 1 = ((n % 2 : Nat) : Int) := by
  have hx : n &&& 1 < 2 ^ 63 := Nat.and_lt_two_pow _ (by omega)
  show IntKind.i64.wrap ((BitVec.ofInt 64 (n : Int) &&& BitVec.ofInt 64 ((1 : Nat) : Int)).toNat : Int) = _
  rw [BitVec.toNat_and, BitVec.ofInt_natCast, BitVec.ofInt_natCast, BitVec.toNat_ofNat, BitVec.toNat_ofNat, IntKind.wrap_i64]
  have e1 : n % 2 ^ 64 = n := Nat.mod_eq_of_lt (by omega)
  have e2 : 1 % 2 ^ 64 = 1 := by omega
  rw [e1, e2, Nat.and_one_is_mod]
  omega
def LinTo (k : Nat) : Nat → Nat := fun i => if i < k then Lin 1 i else 0
theorem LinTo_succ (k : Nat) : upd (LinTo k) k (Lin 1 k) = LinTo (k + 1) := by
  funext j
  unfold upd LinTo
  by_cases h : j = k
  · subst h; simp
  · by_cases h2 : j < k
    · simp [h, h2, show j < k + 1 by omega]
    · simp [h, h2, show ¬ j < k + 1 by omega]
theorem odd_steps (m z : Nat) (h : z % 2 = 1) : 8 * m + 8 * (2 * m) * (z / 2) = 8 * m * z := by
  obtain ⟨q, rfl⟩ : ∃ q, z = 2 * q + 1 := ⟨z / 2, by omega⟩
  rw [show (2 * q + 1) / 2 = q by omega, Nat.mul_add, Nat.mul_one, Nat.add_comm]
  congr 1
  rw [show 8 * (2 * m) = 8 * m * 2 by omega, Nat.mul_assoc]
theorem even_steps (m z : Nat) (h : ¬ z % 2 = 1) : 8 * (2 * m) * (z / 2) = 8 * m * z := by
  obtain ⟨q, rfl⟩ : ∃ q, z = 2 * q := ⟨z / 2, by omega⟩
  rw [show 2 * q / 2 = q by omega, show 8 * (2 * m) = 8 * m * 2 by omega, Nat.mul_assoc]
set_option maxHeartbeats 400000 in
set_option maxRecDepth 100000 in
theorem through_nat (n : Nat) (size : Int) (w : World) (hn : n < 4294967296) (hs0 : -9223372036854775808 ≤ size) (hs1 : size ≤ 9223372036854775807) :
    Calls Try.prog 72 #[.int .u32 n, .int .i64 size] w fun e w' => e = .returned (.int .u32 (thr n size.toNat : Nat)) ∧ Below w.heap.size w w' := by
  go_enter Try.func72, Try.ntmps72
  go_wp2_with (first
    | (refine wpList_allocArr (o := ⟨some 5, _, _, _, _, _⟩) rfl 123 rfl (rowU (fun _ => 0) 32) zero123 ?_; intro W1 hW1 hg1 hz1; have HW1 := Lib.hid hW1; have HZ1 := Lib.hid hz1; clear hW1 hz1))
  have hbel : Below w.heap.size w W1 := (Below.refl _ _).grown hg1 (by omega) (by simp)
  clear hg1 HZ1
  go_loopw [7] (fun i wr => ∃ k : Nat, k ≤ 32 ∧ i = .int .i64 k ∧ wr.heap[w.heap.size]? = some (.cells (rowU (LinTo k) 32) 123 (0, 0)) ∧ Below w.heap.size w wr) (fun i _ => 32 - (intOf i).toNat)
  case atStart => exact ⟨0, by omega, rfl, HW1.out, hbel⟩
  case round =>
    clear hbel HW1
    obtain ⟨k, hk, rfl, hb, hbel⟩ := hrel
    have Hb := Lib.hid hb
    clear hb
    by_cases hlt : k < 32
    · have hd : decide ((k : Int) < 32) = true := decide_eq_true (by omega)
      obtain ⟨p, hp⟩ : ∃ p, p = 2 ^ k := ⟨_, rfl⟩
      have hpl : p < 4294967296 := by rw [hp]; exact pow_lt32 hlt
      have hpm : (2 : Int) ^ k % 4294967296 = (p : Int) := by
        have : (2 : Int) ^ k = (p : Int) := by rw [hp, Int.natCast_pow]; rfl
        rw [this]; omega
      have hlin : stp p = Lin 1 k := by rw [hp]; rfl
      have HL := Lib.hid hlin
      clear hlin hp
      have hc2 : wr.cell? ⟨w.heap.size, k, none⟩ = some (.int .u32 ((LinTo k k : Nat) : Int)) := by
        rw [cell_of_row _ _ _ _ _ _ Hb.out, rowU_get _ _ _ hlt]
      have hf2 : wr.frozen? ⟨w.heap.size, k, none⟩ = false := frozen_of_row _ _ _ _ _ Hb.out
      go_wp2_with (go_at_call 89; refine (step_any p _ hpl).mono ?_; rintro e w' ⟨rfl, rfl⟩)
      go_roundw
      case rel => exact ⟨k + 1, by omega, by go_num, by
        have e := heap_setCell_same _ _ k _ _ (.int .u32 ((Lin 1 k : Nat) : Int)) Hb.out
        rw [rowU_set, LinTo_succ] at e
        rw [HL.out]
        exact e, hbel.setCell (Nat.le_refl _) _⟩
      case measure => simp [intOf]; omega
    · have e : rowU (LinTo k) 32 = rowU (Lin 1) 32 := rowU_congr fun i hi => by simp [LinTo, show i < k by omega]
      have HM : Hid (wr.heap[w.heap.size]? = some (.cells (rowU (Lin 1) 32) 123 (0, 0))) := by rw [← e]; exact Hb
      rw [show (k : Int) = 32 by omega]
      clear Hb e hlt hk
      go_wp2
      go_loopw [16] (fun i wx => ∃ j : Nat, j ≤ 3 ∧ i = .int .i64 j ∧ wx.heap[w.heap.size]? = some (.cells (rowU (Lin (2 ^ j)) 32) 123 (0, 0)) ∧ Below w.heap.size w wx) (fun i _ => 3 - (intOf i).toNat)
      case atStart => exact ⟨0, by omega, rfl, HM.out, hbel⟩
      case round =>
        clear hbel HM
        obtain ⟨j, hj, rfl, hb, hbel⟩ := hrel
        have Hb := Lib.hid hb
        clear hb
        have hlt : w.heap.size < wr.heap.size := (Array.getElem?_eq_some_iff.1 Hb.out).1
        by_cases hj3 : j < 3
        · have hd : decide ((j : Int) < 3) = true := decide_eq_true (by omega)
          go_wp2_with (first
            | (refine wpList_load_row rfl 123 _ rfl w.heap.size rfl 123 (rowU (Lin (2 ^ j)) 32) (0, 0) _ Hb.out Try.underlying123 rfl (size123 _) ?_)
            | (go_at_call 90; refine (twice_Lin (2 ^ j) _).mono ?_; rintro e w2 ⟨rfl, hb2⟩)
            | (refine wpList_storeArr rfl 123 _ _ rfl w.heap.size (rowU (Lin (2 ^ j + 2 ^ j)) 32) rfl rfl 123 _ ((hb2.block _ hlt).trans Hb.out) (size123 _) (by rw [rowU_size, rowU_size]) (rowU_one _ _) ?_; intro W4 hW4 hg4 hz4; have HW4 := Lib.hid hW4; clear hW4 hz4))
          go_roundw
          case rel => exact ⟨j + 1, by omega, by go_num, by
            have := HW4.out
            rwa [show 2 ^ j + 2 ^ j = 2 ^ (j + 1) by rw [Nat.pow_succ]; omega] at this, (hbel.trans (hb2.mono (by omega))).grown hg4 (by have := hb2.size; omega) (by intro k h; have := Option.some.inj h; omega)⟩
          case measure => simp [intOf]; omega
        · have HM : Hid (wr.heap[w.heap.size]? = some (.cells (rowU (Lin (8 * 1)) 32) 123 (0, 0))) := by
            have := Hb.out
            rwa [show j = 3 by omega] at this
          rw [show (j : Int) = 3 by omega]
          go_wp2
          clear Hb hj3 hj
          go_loopw [0, 1] (fun t z wx => ∃ (m x : Nat) (sz : Int), t = .int .u32 x ∧ z = .int .i64 sz ∧ x < 4294967296 ∧ -9223372036854775808 ≤ sz ∧ sz ≤ 9223372036854775807 ∧ stps (8 * m * sz.toNat) x = thr n size.toNat ∧ wx.heap[w.heap.size]? = some (.cells (rowU (Lin (8 * m)) 32) 123 (0, 0)) ∧ Below w.heap.size w wx) (fun _ z _ => (intOf z).toNat)
          case atStart => exact ⟨1, n, size, rfl, rfl, hn, hs0, hs1, rfl, HM.out, hbel⟩
          case round =>
            clear hbel HM hlt
            obtain ⟨m, x, sz, rfl, rfl, hx, hz0, hz1, heq, hb, hbel⟩ := hrel
            have Hb := Lib.hid hb
            have He := Lib.hid heq
            clear hb heq
            have hlt : w.heap.size < wr.heap.size := (Array.getElem?_eq_some_iff.1 Hb.out).1
            by_cases hpos : 0 < sz
            · obtain ⟨z, rfl⟩ := Int.eq_ofNat_of_zero_le (show 0 ≤ sz by omega)
              have hd : decide ((0 : Int) < (z : Int)) = true := decide_eq_true (by omega)
              by_cases hodd : z % 2 = 1
              · have ho : (bits BinOp.and IntKind.i64 (z : Int) 1 == 1) = true := by rw [i64_and1 z (by omega)]; simp; omega
                go_wp2_with (first
                  | (go_at_call 91; refine (of_Lin _ (8 * m) x _ hx (Blk.of Hb.out)).mono ?_; rintro e w' ⟨rfl, rfl⟩)
                  | (refine wpList_load_row rfl 123 _ rfl w.heap.size rfl 123 (rowU (Lin (8 * m)) 32) (0, 0) _ Hb.out Try.underlying123 rfl (size123 _) ?_)
                  | (go_at_call 90; refine (twice_Lin (8 * m) _).mono ?_; rintro e w2 ⟨rfl, hb2⟩)
                  | (refine wpList_storeArr rfl 123 _ _ rfl w.heap.size (rowU (Lin (8 * m + 8 * m)) 32) rfl rfl 123 _ ((hb2.block _ hlt).trans Hb.out) (size123 _) (by rw [rowU_size, rowU_size]) (rowU_one _ _) ?_; intro W4 hW4 hg4 hz4; have HW4 := Lib.hid hW4; clear hW4 hz4))
                go_roundw
                case rel => exact ⟨2 * m, stps (8 * m) x, (z : Int) / 2, rfl, rfl, stps_lt _ hx, by omega, by omega, by
                  rw [← He.out, ← stps_add]
                  congr 1
                  rw [show ((z : Int) / 2).toNat = z / 2 by omega, Int.toNat_natCast]
                  exact odd_steps m z hodd, by
                  have := HW4.out
                  rwa [show 8 * m + 8 * m = 8 * (2 * m) by omega] at this, (hbel.trans (hb2.mono (by omega))).grown hg4 (by have := hb2.size; omega) (by intro k h; have := Option.some.inj h; omega)⟩
                case measure => simp [intOf]; omega
              · have ho : (bits BinOp.and IntKind.i64 (z : Int) 1 == 1) = false := by rw [i64_and1 z (by omega)]; simp; omega
                go_wp2_with (first
                  | (refine wpList_load_row rfl 123 _ rfl w.heap.size rfl 123 (rowU (Lin (8 * m)) 32) (0, 0) _ Hb.out Try.underlying123 rfl (size123 _) ?_)
                  | (go_at_call 90; refine (twice_Lin (8 * m) _).mono ?_; rintro e w2 ⟨rfl, hb2⟩)
                  | (refine wpList_storeArr rfl 123 _ _ rfl w.heap.size (rowU (Lin (8 * m + 8 * m)) 32) rfl rfl 123 _ ((hb2.block _ hlt).trans Hb.out) (size123 _) (by rw [rowU_size, rowU_size]) (rowU_one _ _) ?_; intro W4 hW4 hg4 hz4; have HW4 := Lib.hid hW4; clear hW4 hz4))
                go_roundw
                case rel => exact ⟨2 * m, x, (z : Int) / 2, rfl, rfl, hx, by omega, by omega, by
                  rw [← He.out]
                  congr 1
                  rw [show ((z : Int) / 2).toNat = z / 2 by omega, Int.toNat_natCast]
                  exact even_steps m z hodd, by
                  have := HW4.out
                  rwa [show 8 * m + 8 * m = 8 * (2 * m) by omega] at this, (hbel.trans (hb2.mono (by omega))).grown hg4 (by have := hb2.size; omega) (by intro k h; have := Option.some.inj h; omega)⟩
                case measure => simp [intOf]; omega
            · have e : sz.toNat = 0 := by omega
              have hfin : x = thr n size.toNat := by
                have := He.out
                rw [e, Nat.mul_zero] at this
                exact this
              have HF := Lib.hid hfin
              clear e hfin
              go_wp2
              go_ret
              exact ⟨ret_int (by rw [← HF.out]), hbel⟩
theorem through_any (n : Int) (size : Int) (w : World) (h0 : 0 ≤ n) (hn : n < 4294967296) (hs0 : -9223372036854775808 ≤ size) (hs1 : size ≤ 9223372036854775807) :
    Calls Try.prog 72 #[.int .u32 n, .int .i64 size] w fun e w' => e = .returned (.int .u32 (thr n.toNat size.toNat : Nat)) ∧ Below w.heap.size w w' := by
  obtain ⟨m, rfl⟩ := Int.eq_ofNat_of_zero_le h0
  exact through_nat m size w (by omega) hs0 hs1
end Go.Proofs.Ytmibbklafogbkaa
