/- The walk of the law Sum32Apart. -/
import Derived.Test.YtmibbklafogbkaaL2
import Derived.Test.YtmibbklafogbkaaW2
import Derived.Deep.QuietTactic
import Derived.BigQuiet
namespace Go.Proofs.Ytmibbklafogbkaa
open Go.RowKit
open Crc
theorem turned_xor (a : Int) (s : ByteArray) (n : Int) (h0 : 0 ≤ a) (h1 : a < 4294967296) : bits BinOp.xor IntKind.u32 (turnedI a s n) a = ((thr (onl 0 s.data.toList) n.toNat : Nat) : Int) := by
  obtain ⟨m, rfl⟩ := Int.eq_ofNat_of_zero_le h0
  unfold turnedI
  have hl := thr_lt n.toNat (onl_lt s.data.toList (show 0 < 2 ^ 32 by omega))
  simp only [Int.toNat_natCast]
  rw [u32_xor_nat _ _ (xor_lt32 (by omega) hl) (by omega), Nat.xor_comm m, Nat.xor_assoc, Nat.xor_self, Nat.xor_zero]
theorem turned_eq (a b : Int) (s : ByteArray) (n : Int) (h0 : 0 ≤ a) (h2 : 0 ≤ b) : (turnedI a s n == turnedI b s n) = (a == b) := by
  rw [Bool.eq_iff_iff]
  simp only [beq_iff_eq]
  constructor
  · intro h
    unfold turnedI at h
    have h' : a.toNat ^^^ thr (onl 0 s.data.toList) n.toNat = b.toNat ^^^ thr (onl 0 s.data.toList) n.toNat := by exact_mod_cast h
    rw [Nat.xor_comm, Nat.xor_comm b.toNat] at h'
    have := xor_inj _ _ _ h'
    omega
  · rintro rfl; rfl
theorem turned_zeros (a : Int) (k : Nat) (n : Int) (h0 : 0 ≤ a) : turnedI a ⟨(List.replicate k 0).toArray⟩ n = a := by
  unfold turnedI
  rw [List.toList_toArray, onl_zeros, thr_of_zero, thr_of_zero, Nat.xor_zero]; omega
theorem info5 : (Try.prog.info? 5).map (fun i => (i.zero, i.size, i.bytes)) = some (some (.int .u8 0), 1, 1) := by kernel_rfl
set_option maxRecDepth 100000 in
set_option maxHeartbeats 1000000 in
theorem apart_walk (a b : Int) (s : ByteArray) (n : Int) (w : World) (wa : (Lit.int .u32 a).wf = true) (wb : (Lit.int .u32 b).wf = true) (hs : s.size ≤ maxLen) (wn : (Lit.int .i64 n).wf = true) :
    Calls Try.prog 8 #[.agg #[.int .u32 a, .int .u32 b, .string s, .int .i64 n]] w fun e w' => e = .returned (.bool true) ∧ Below w.heap.size w w' := by
  obtain ⟨a0, a1'⟩ := bounds_u32 wa
  have a1 : a < 4294967296 := by omega
  obtain ⟨b0, b1'⟩ := bounds_u32 wb
  have b1 : b < 4294967296 := by omega
  obtain ⟨n0, n1⟩ := bounds_i64 wn
  unfold maxLen at hs
  clear wa wb wn a1' b1'
  have h0 : ∀ k, Below w.heap.size w ((w.alloc (.cells #[.int .u32 a, .int .u32 b, .string s, .int .i64 n] 36)).drewN k) := fun k => (((Below.refl _ _).alloc (Nat.le_refl _) _).trans ⟨rfl, rfl, rfl, Nat.le_refl _, fun _ _ => rfl⟩)
  rcases (show 2000 < s.size ∨ (s.size ≤ 2000 ∧ n < 0) ∨ (s.size ≤ 2000 ∧ 0 ≤ n ∧ 1000000000 < n) ∨ (s.size ≤ 2000 ∧ 0 ≤ n ∧ n ≤ 1000000000) by omega) with hm | ⟨hm, hn⟩ | ⟨hm, hn, hb⟩ | ⟨hm, hn, hb⟩
  case inr.inr.inr =>
    obtain ⟨i0, hi0, hz0, hz1, hz2⟩ := info_parts info5
    go_enter Try.func8, Try.ntmps8
    go_wp2_with fail
    go_quiet (fail)
    have hbl := h0 nq
    clear h0
    generalize ((w.alloc (.cells #[.int .u32 a, .int .u32 b, .string s, .int .i64 n] 36)).drewN nq) = W at hbl ⊢
    have e1 := turned_eq a b s n a0 b0
    have e2 := turned_xor a s n a0 a1
    have e3 := turned_xor b s n b0 b1
    obtain ⟨Z, hZ⟩ : ∃ Z : ByteArray, Z = ⟨(List.replicate s.size 0).toArray⟩ := ⟨_, rfl⟩
    have e4 := turned_zeros a s.size n a0
    rw [← hZ] at e4
    have hzs : Z.size ≤ 2000 := by rw [hZ]; show (List.replicate s.size (0 : UInt8)).toArray.size ≤ 2000; rw [List.size_toArray, List.length_replicate]; exact hm
    have HZ := Lib.hid hZ
    clear hZ
    go_wp2_with (first
      | (refine wpList_makeBytes (by first | rfl | go_simp) 30 5 _ _ rfl s.size rfl rfl Try.underlying30 i0 hi0 hz0 hz1 hz2 (by omega) ?_; intro W5 hW5 hg5 hz5; have HW5 := Lib.hid hW5; have hbl5 : Below w.heap.size w W5 := (Below.grown (by assumption) hg5 (Below.size (by assumption)) (by simp)); clear hW5 hz5 hg5)
      | (refine wpList_string (by first | rfl | go_simp) 30 9 5 _ rfl _ 0 s.size s.size rfl Try.underlying30 Try.underlying5 Try.underlying9 Z (List.replicate s.size 0) (by rw [HZ.out]) (by simp) (fun i hi => by rw [cell_of_row _ _ _ _ _ _ HW5.out, Nat.zero_add, bytesOf_get _ _ hi]) ?_)
      | (go_at_call 25; refine (frm (live2_any _) (by assumption)).mono ?_; rintro e w' ⟨rfl, hb⟩)
      | (go_at_call 32; refine (frm (turned_any _ _ _ _ (by first | with_reducible assumption | with_reducible exact (sumI_bd _).1 | with_reducible exact (sumI_bd _).2 | with_reducible exact (zerosI_bd _ _ (by omega) (by omega)).1 | with_reducible exact (zerosI_bd _ _ (by omega) (by omega)).2 | omega) (by first | with_reducible assumption | with_reducible exact (sumI_bd _).1 | with_reducible exact (sumI_bd _).2 | with_reducible exact (zerosI_bd _ _ (by omega) (by omega)).1 | with_reducible exact (zerosI_bd _ _ (by omega) (by omega)).2 | omega) (by first | omega | (simp; omega)) (by omega) (by omega)) (by assumption)).mono ?_; rintro e w' ⟨rfl, hb⟩))
    go_ret
    exact ⟨rfl, by assumption⟩
  all_goals
    go_enter Try.func8, Try.ntmps8
    go_wp2_with fail
    go_quiet (fail)
    have hbl := h0 nq
    clear h0
    generalize ((w.alloc (.cells #[.int .u32 a, .int .u32 b, .string s, .int .i64 n] 36)).drewN nq) = W at hbl ⊢
    go_wp2_with (go_at_call 25; refine (frm (live2_any _) (by assumption)).mono ?_; rintro e w' ⟨rfl, hb⟩)
    go_ret
    exact ⟨rfl, by assumption⟩
end Go.Proofs.Ytmibbklafogbkaa
