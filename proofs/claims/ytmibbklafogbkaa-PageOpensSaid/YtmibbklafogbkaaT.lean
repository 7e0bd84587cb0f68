/- The walks of sum32's exported functions and of the reference's sums (cadastreref02): what each computes. -/
import Derived.Test.YtmibbklafogbkaaS
namespace Go.Proofs.Ytmibbklafogbkaa
open Go.RowKit
open Crc
set_option maxHeartbeats 400000 in
theorem refOn_nat (n c : Nat) (w : World) (hn : n < 4294967296) (hc : c < 256) :
    Calls Try.prog 70 #[.int .u32 n, .int .u8 c] w fun e w' => e = .returned (.int .u32 (onb n c : Nat)) ∧ w = w' := by
  obtain ⟨x, hx⟩ : ∃ x, x = n ^^^ c := ⟨_, rfl⟩
  have hxl : x < 4294967296 := by rw [hx]; exact Nat.xor_lt_two_pow (n := 32) (by omega) (by omega)
  have hxe : bits BinOp.xor IntKind.u32 (n : Int) (c : Int) = (x : Int) := by rw [hx]; exact u32_xor_nat n c hn (by omega)
  have hfin : onb n c = stps 8 x := by rw [hx]; rfl
  have HF := Lib.hid hfin
  clear hx hfin
  go_enter Try.func70, Try.ntmps70
  go_wp2
  clear hxe
  go_loop [0, 5] (fun t i => ∃ k : Nat, k ≤ 8 ∧ i = .int .i64 k ∧ t = .int .u32 (stps k x)) (fun _ i => 8 - (intOf i).toNat)
  case atStart => exact ⟨0, by omega, rfl, rfl⟩
  case round =>
    obtain ⟨k, hk, rfl, rfl⟩ := hrel
    have hst : stps k x < 4294967296 := stps_lt k (by omega)
    obtain ⟨y, hy⟩ : ∃ y, y = stps k x := ⟨_, rfl⟩
    have hsc : stps (k + 1) x = stp y := by rw [stps_succ', hy]
    rw [← hy] at hst ⊢
    have HY := Lib.hid hy
    have HSC := Lib.hid hsc
    clear hy hsc
    by_cases hlt : k < 8
    · by_cases hodd : y % 2 = 1
      · have hb : ((y : Int) % 2 == 1) = true := by simp; omega
        have hz : bits BinOp.xor IntKind.u32 ((y : Int) / 2) 3988292384 = (stp y : Int) := by
          unfold stp; rw [if_pos hodd]; exact u32_xor_nat (y / 2) 3988292384 (by omega) (by omega)
        go_wp2
        go_round
        case rel => exact ⟨k + 1, by omega, by go_num, by rw [HSC.out]⟩
        case measure => simp [intOf]; omega
      · have hb : ((y : Int) % 2 == 1) = false := by simp; omega
        have hz : ((y : Int) / 2) = (stp y : Int) := by unfold stp; rw [if_neg hodd]; rfl
        have HZ := Lib.hid hz
        clear hz
        go_wp2
        go_round
        case rel => exact ⟨k + 1, by omega, by go_num, by rw [HSC.out, HZ.out]⟩
        case measure => simp [intOf]; omega
    · obtain rfl : k = 8 := by omega
      go_wp2
      go_ret
      exact ⟨ret_int (by rw [HF.out, HY.out]), rfl⟩
theorem refOn_any (n c : Int) (w : World) (h0 : 0 ≤ n) (hn : n < 4294967296) (c0 : 0 ≤ c) (hc : c < 256) :
    Calls Try.prog 70 #[.int .u32 n, .int .u8 c] w fun e w' => e = .returned (.int .u32 (onb n.toNat c.toNat : Nat)) ∧ w = w' := by
  obtain ⟨m, rfl⟩ := Int.eq_ofNat_of_zero_le h0
  obtain ⟨d, rfl⟩ := Int.eq_ofNat_of_zero_le c0
  exact refOn_nat m d w (by omega) (by omega)
set_option maxHeartbeats 400000 in
theorem refThrough_nat (n : Nat) (size : Int) (w : World) (hn : n < 4294967296) (hs1 : size ≤ 9223372036854775807) :
    Calls Try.prog 73 #[.int .u32 n, .int .i64 size] w fun e w' => e = .returned (.int .u32 (thr n size.toNat : Nat)) ∧ w = w' := by
  go_enter Try.func73, Try.ntmps73
  go_wp2
  go_loop [0, 5] (fun t i => ∃ k : Nat, k ≤ size.toNat ∧ i = .int .i64 k ∧ t = .int .u32 (thr n k)) (fun _ i => size.toNat - (intOf i).toNat)
  case atStart => exact ⟨0, by omega, rfl, rfl⟩
  case round =>
    obtain ⟨k, hk, rfl, rfl⟩ := hrel
    have hst : thr n k < 4294967296 := thr_lt k hn
    by_cases hlt : (k : Int) < size
    · go_wp2_with (go_at_call 70; refine (refOn_nat _ 0 _ hst (by omega)).mono ?_; rintro e w' ⟨rfl, rfl⟩)
      go_round
      case rel => exact ⟨k + 1, by omega, by go_num, by rw [thr_succ]⟩
      case measure => simp [intOf]; omega
    · have e : size.toNat = k := by omega
      have HE := Lib.hid e
      clear e
      go_wp2
      go_ret
      exact ⟨ret_int (by rw [HE.out]), rfl⟩

def sumI (s : ByteArray) : Int := (crc s.data.toList : Nat)
def zerosI (a n : Int) : Int := (thr (a.toNat ^^^ ones) n.toNat ^^^ ones : Nat)
def joinI (a b n : Int) : Int := (thr a.toNat n.toNat ^^^ b.toNat : Nat)
def turnedI (a : Int) (s : ByteArray) (n : Int) : Int := (a.toNat ^^^ thr (onl 0 s.data.toList) n.toNat : Nat)
theorem u32_xor_ones (a : Nat) (ha : a < 4294967296) : bits BinOp.xor IntKind.u32 (a : Int) 4294967295 = ((a ^^^ ones : Nat) : Int) := u32_xor_nat a 4294967295 ha (by omega)
theorem xor_lt32 {a b : Nat} (ha : a < 4294967296) (hb : b < 4294967296) : a ^^^ b < 4294967296 := Nat.xor_lt_two_pow (n := 32) ha hb
theorem sumI_bd (s : ByteArray) : 0 ≤ sumI s ∧ sumI s < 4294967296 := by unfold sumI; have := crc_lt s.data.toList; omega
theorem zerosI_bd (a n : Int) (h0 : 0 ≤ a) (h1 : a < 4294967296) : 0 ≤ zerosI a n ∧ zerosI a n < 4294967296 := by
  unfold zerosI; have := xor_lt32 (thr_lt n.toNat (xor_lt32 (show a.toNat < 4294967296 by omega) ones_lt)) ones_lt; omega
theorem joinI_bd (a b n : Int) (h0 : 0 ≤ a) (h1 : a < 4294967296) (h2 : 0 ≤ b) (h3 : b < 4294967296) : 0 ≤ joinI a b n ∧ joinI a b n < 4294967296 := by
  unfold joinI; have := xor_lt32 (thr_lt n.toNat (show a.toNat < 2 ^ 32 by omega)) (show b.toNat < 4294967296 by omega); omega
theorem turnedI_bd (a : Int) (s : ByteArray) (n : Int) (h0 : 0 ≤ a) (h1 : a < 4294967296) : 0 ≤ turnedI a s n ∧ turnedI a s n < 4294967296 := by
  unfold turnedI; have := xor_lt32 (show a.toNat < 4294967296 by omega) (thr_lt n.toNat (onl_lt s.data.toList (show 0 < 2 ^ 32 by omega))); omega

set_option maxHeartbeats 400000 in
theorem sum_any (s : ByteArray) (w : World) (hs : s.size ≤ 140737488351232) :
    Calls Try.prog 27 #[.string s] w fun e w' => e = .returned (.int .u32 (sumI s)) ∧ Below w.heap.size w w' := by
  go_enter Try.func27, Try.ntmps27
  go_wp2_with (go_at_call 71; refine (on_any _ s _ (by omega) (by omega) hs).mono ?_; rintro e w' ⟨rfl, hb⟩)
  go_ret
  exact ⟨ret_int (u32_xor_ones _ (onl_lt _ ones_lt)), hb⟩
set_option maxHeartbeats 400000 in
theorem zeros_any (a n : Int) (w : World) (h0 : 0 ≤ a) (h1 : a < 4294967296) (hs0 : -9223372036854775808 ≤ n) (hs1 : n ≤ 9223372036854775807) :
    Calls Try.prog 28 #[.int .u32 a, .int .i64 n] w fun e w' => e = .returned (.int .u32 (zerosI a n)) ∧ Below w.heap.size w w' := by
  obtain ⟨m, rfl⟩ := Int.eq_ofNat_of_zero_le h0
  obtain ⟨x, hx⟩ : ∃ x, x = m ^^^ ones := ⟨_, rfl⟩
  have hxl : x < 4294967296 := by rw [hx]; exact xor_lt32 (by omega) ones_lt
  have hxe : bits BinOp.xor IntKind.u32 (m : Int) 4294967295 = (x : Int) := by rw [hx]; exact u32_xor_ones m (by omega)
  have hfin : bits BinOp.xor IntKind.u32 ((thr x n.toNat : Nat) : Int) 4294967295 = zerosI m n := by
    rw [u32_xor_ones _ (thr_lt _ hxl), hx]; rfl
  have HF := Lib.hid hfin
  clear hx hfin
  go_enter Try.func28, Try.ntmps28
  go_wp2_with (go_at_call 72; refine (through_nat x n _ hxl hs0 hs1).mono ?_; rintro e w' ⟨rfl, hb⟩)
  go_ret
  exact ⟨ret_int HF.out, hb⟩
set_option maxHeartbeats 400000 in
theorem join_any (a b n : Int) (w : World) (h0 : 0 ≤ a) (h1 : a < 4294967296) (h2 : 0 ≤ b) (h3 : b < 4294967296) (hs0 : -9223372036854775808 ≤ n) (hs1 : n ≤ 9223372036854775807) :
    Calls Try.prog 30 #[.int .u32 a, .int .u32 b, .int .i64 n] w fun e w' => e = .returned (.int .u32 (joinI a b n)) ∧ Below w.heap.size w w' := by
  obtain ⟨m, rfl⟩ := Int.eq_ofNat_of_zero_le h0
  obtain ⟨d, rfl⟩ := Int.eq_ofNat_of_zero_le h2
  have hfin : bits BinOp.xor IntKind.u32 ((thr m n.toNat : Nat) : Int) (d : Int) = joinI m d n := u32_xor_nat _ _ (thr_lt _ (by omega)) (by omega)
  have HF := Lib.hid hfin
  clear hfin
  go_enter Try.func30, Try.ntmps30
  go_wp2_with (go_at_call 72; refine (through_nat m n _ (by omega) hs0 hs1).mono ?_; rintro e w' ⟨rfl, hb⟩)
  go_ret
  exact ⟨ret_int HF.out, hb⟩
set_option maxHeartbeats 400000 in
theorem turned_any (a : Int) (s : ByteArray) (n : Int) (w : World) (h0 : 0 ≤ a) (h1 : a < 4294967296) (hs : s.size ≤ 140737488351232) (hs0 : -9223372036854775808 ≤ n) (hs1 : n ≤ 9223372036854775807) :
    Calls Try.prog 32 #[.int .u32 a, .string s, .int .i64 n] w fun e w' => e = .returned (.int .u32 (turnedI a s n)) ∧ Below w.heap.size w w' := by
  obtain ⟨m, rfl⟩ := Int.eq_ofNat_of_zero_le h0
  obtain ⟨x, hx⟩ : ∃ x, x = onl 0 s.data.toList := ⟨_, rfl⟩
  have hxl : x < 4294967296 := by rw [hx]; exact onl_lt _ (by omega)
  have hfin : bits BinOp.xor IntKind.u32 (m : Int) ((thr x n.toNat : Nat) : Int) = turnedI m s n := by
    rw [u32_xor_nat _ _ (by omega) (thr_lt _ hxl), hx]; rfl
  have HF := Lib.hid hfin
  have HX := Lib.hid hx
  clear hfin hx
  go_enter Try.func32, Try.ntmps32
  go_wp2_with (first
    | (go_at_call 71; refine (on_any _ s _ (by omega) (by omega) hs).mono ?_; rintro e w1 ⟨rfl, hb1⟩; rw [show onl (Int.toNat 0) s.data.toList = x from HX.out.symm])
    | (go_at_call 72; refine (through_nat x n _ hxl hs0 hs1).mono ?_; rintro e w' ⟨rfl, hb⟩))
  go_ret
  exact ⟨ret_int HF.out, hb1.trans (hb.mono hb1.size)⟩

theorem take_next (s : ByteArray) (k : Nat) (h : k < s.size) : s.data.toList.take (k + 1) = s.data.toList.take k ++ [s.data[k]] := by
  rw [List.take_succ_eq_append_getElem (by simpa using h)]; simp
set_option maxHeartbeats 400000 in
theorem refSum_any (s : ByteArray) (w : World) (hs : s.size ≤ 140737488351232) :
    Calls Try.prog 26 #[.string s] w fun e w' => e = .returned (.int .u32 (sumI s)) ∧ w = w' := by
  go_enter Try.func26, Try.ntmps26
  go_wp2
  go_loop [3, 4] (fun t i => ∃ k : Nat, k ≤ s.size ∧ i = .int .i64 k ∧ t = .int .u32 (onl ones (s.data.toList.take k))) (fun _ i => s.size - (intOf i).toNat)
  case atStart => exact ⟨0, by omega, rfl, rfl⟩
  case round =>
    obtain ⟨k, hk, rfl, rfl⟩ := hrel
    by_cases hlt : k < s.size
    · have hst : onl ones (s.data.toList.take k) < 4294967296 := onl_lt _ ones_lt
      have hsn : onl ones (s.data.toList.take (k + 1)) = onb (onl ones (s.data.toList.take k)) s.data[k].toNat := by rw [take_next s k hlt, onl_snoc]
      have HS := Lib.hid hsn
      clear hsn
      go_wp2_with (go_at_call 70; refine (refOn_nat _ _ _ hst (UInt8.toNat_lt _)).mono ?_; rintro e w' ⟨rfl, rfl⟩)
      go_round
      case rel => exact ⟨k + 1, by omega, by go_num, by rw [HS.out]; rfl⟩
      case measure => simp [intOf]; omega
    · obtain rfl : k = s.size := by omega
      have e : s.data.toList.take s.size = s.data.toList := List.take_of_length_le (Nat.le_of_eq (Array.length_toList ..))
      rw [e]
      clear e
      have hfin := u32_xor_ones (onl ones s.data.toList) (onl_lt _ ones_lt)
      have HF := Lib.hid hfin
      clear hfin
      go_wp2
      go_ret
      exact ⟨ret_int HF.out, rfl⟩
set_option maxHeartbeats 400000 in
theorem refZeros_any (a n : Int) (w : World) (h0 : 0 ≤ a) (h1 : a < 4294967296) (hs1 : n ≤ 9223372036854775807) :
    Calls Try.prog 29 #[.int .u32 a, .int .i64 n] w fun e w' => e = .returned (.int .u32 (zerosI a n)) ∧ w = w' := by
  obtain ⟨m, rfl⟩ := Int.eq_ofNat_of_zero_le h0
  obtain ⟨x, hx⟩ : ∃ x, x = m ^^^ ones := ⟨_, rfl⟩
  have hxl : x < 4294967296 := by rw [hx]; exact xor_lt32 (by omega) ones_lt
  have hxe : bits BinOp.xor IntKind.u32 (m : Int) 4294967295 = (x : Int) := by rw [hx]; exact u32_xor_ones m (by omega)
  have hfin : bits BinOp.xor IntKind.u32 ((thr x n.toNat : Nat) : Int) 4294967295 = zerosI m n := by
    rw [u32_xor_ones _ (thr_lt _ hxl), hx]; rfl
  have HF := Lib.hid hfin
  clear hx hfin
  go_enter Try.func29, Try.ntmps29
  go_wp2
  go_loop [5, 6] (fun t i => ∃ k : Nat, k ≤ n.toNat ∧ i = .int .i64 k ∧ t = .int .u32 (thr x k)) (fun _ i => n.toNat - (intOf i).toNat)
  case atStart => exact ⟨0, by omega, rfl, rfl⟩
  case round =>
    obtain ⟨k, hk, rfl, rfl⟩ := hrel
    have hst : thr x k < 4294967296 := thr_lt k hxl
    by_cases hlt : (k : Int) < n
    · go_wp2_with (go_at_call 70; refine (refOn_nat _ 0 _ hst (by omega)).mono ?_; rintro e w' ⟨rfl, rfl⟩)
      go_round
      case rel => exact ⟨k + 1, by omega, by go_num, by rw [thr_succ]⟩
      case measure => simp [intOf]; omega
    · have e : n.toNat = k := by omega
      rw [e] at HF
      clear e
      go_wp2
      go_ret
      exact ⟨ret_int HF.out, rfl⟩
set_option maxHeartbeats 400000 in
theorem refJoin_any (a b n : Int) (w : World) (h0 : 0 ≤ a) (h1 : a < 4294967296) (h2 : 0 ≤ b) (h3 : b < 4294967296) (hs1 : n ≤ 9223372036854775807) :
    Calls Try.prog 31 #[.int .u32 a, .int .u32 b, .int .i64 n] w fun e w' => e = .returned (.int .u32 (joinI a b n)) ∧ w = w' := by
  obtain ⟨m, rfl⟩ := Int.eq_ofNat_of_zero_le h0
  obtain ⟨d, rfl⟩ := Int.eq_ofNat_of_zero_le h2
  have hfin : bits BinOp.xor IntKind.u32 ((thr m n.toNat : Nat) : Int) (d : Int) = joinI m d n := u32_xor_nat _ _ (thr_lt _ (by omega)) (by omega)
  have HF := Lib.hid hfin
  clear hfin
  go_enter Try.func31, Try.ntmps31
  go_wp2_with (go_at_call 73; refine (refThrough_nat m n _ (by omega) hs1).mono ?_; rintro e w' ⟨rfl, rfl⟩)
  go_ret
  exact ⟨ret_int HF.out, rfl⟩
set_option maxHeartbeats 400000 in
theorem refTurned_any (a : Int) (s : ByteArray) (n : Int) (w : World) (h0 : 0 ≤ a) (h1 : a < 4294967296) (hs : s.size ≤ 140737488351232) (hs1 : n ≤ 9223372036854775807) :
    Calls Try.prog 33 #[.int .u32 a, .string s, .int .i64 n] w fun e w' => e = .returned (.int .u32 (turnedI a s n)) ∧ w = w' := by
  obtain ⟨m, rfl⟩ := Int.eq_ofNat_of_zero_le h0
  go_enter Try.func33, Try.ntmps33
  go_wp2
  go_loop [7, 8] (fun t i => ∃ k : Nat, k ≤ s.size ∧ i = .int .i64 k ∧ t = .int .u32 (onl 0 (s.data.toList.take k))) (fun _ i => s.size - (intOf i).toNat)
  case atStart => exact ⟨0, by omega, rfl, rfl⟩
  case round =>
    obtain ⟨k, hk, rfl, rfl⟩ := hrel
    by_cases hlt : k < s.size
    · have hst : onl 0 (s.data.toList.take k) < 4294967296 := onl_lt _ (by omega)
      have hsn : onl 0 (s.data.toList.take (k + 1)) = onb (onl 0 (s.data.toList.take k)) s.data[k].toNat := by rw [take_next s k hlt, onl_snoc]
      have HS := Lib.hid hsn
      clear hsn
      go_wp2_with (go_at_call 70; refine (refOn_nat _ _ _ hst (UInt8.toNat_lt _)).mono ?_; rintro e w' ⟨rfl, rfl⟩)
      go_round
      case rel => exact ⟨k + 1, by omega, by go_num, by rw [HS.out]; rfl⟩
      case measure => simp [intOf]; omega
    · obtain rfl : k = s.size := by omega
      have e : s.data.toList.take s.size = s.data.toList := List.take_of_length_le (Nat.le_of_eq (Array.length_toList ..))
      rw [e]
      clear e
      obtain ⟨x, hx⟩ : ∃ x, x = onl 0 s.data.toList := ⟨_, rfl⟩
      have hxl : x < 4294967296 := by rw [hx]; exact onl_lt _ (by omega)
      have hfin : bits BinOp.xor IntKind.u32 (m : Int) ((thr x n.toNat : Nat) : Int) = turnedI m s n := by
        rw [u32_xor_nat _ _ (by omega) (thr_lt _ hxl), hx]; rfl
      have HF := Lib.hid hfin
      rw [← hx]
      clear hfin hx
      go_wp2_with (go_at_call 73; refine (refThrough_nat x n _ hxl hs1).mono ?_; rintro e w' ⟨rfl, rfl⟩)
      go_ret
      exact ⟨ret_int HF.out, rfl⟩
end Go.Proofs.Ytmibbklafogbkaa
