/- The walk of the law Sum32Far. -/
import Derived.Test.YtmibbklafogbkaaL2
namespace Go.Proofs.Ytmibbklafogbkaa
open Go.RowKit
open Crc
theorem xor_ones_twice (a : Nat) : a ^^^ ones ^^^ ones = a := by rw [Nat.xor_assoc, Nat.xor_self, Nat.xor_zero]
theorem zeros_add (a m n : Int) (h0 : 0 ≤ m) (h1 : 0 ≤ n) : zerosI (zerosI a m) n = zerosI a (m + n) := by
  unfold zerosI
  rw [Int.toNat_natCast, xor_ones_twice, thr_add, Int.toNat_add h0 h1]
theorem zeros_none (a : Int) (h0 : 0 ≤ a) : zerosI a 0 = a := by
  unfold zerosI
  rw [Int.toNat_zero, thr_zero, xor_ones_twice]; omega
theorem join_none (a : Int) (h0 : 0 ≤ a) : joinI a 0 0 = a := by
  unfold joinI
  rw [Int.toNat_zero, thr_zero, Nat.xor_zero]; omega
set_option maxRecDepth 100000 in
set_option maxHeartbeats 1000000 in
theorem far_walk (a m n : Int) (w : World) (wa : (Lit.int .u32 a).wf = true) (wm : (Lit.int .i64 m).wf = true) (wn : (Lit.int .i64 n).wf = true) :
    Calls Try.prog 7 #[.int .u32 a, .int .i64 m, .int .i64 n] w fun e w' => e = .returned (.bool true) ∧ Below w.heap.size w w' := by
  obtain ⟨a0, a1'⟩ := bounds_u32 wa
  have a1 : a < 4294967296 := by omega
  obtain ⟨m0, m1⟩ := bounds_i64 wm
  obtain ⟨n0, n1⟩ := bounds_i64 wn
  have h0 : Below w.heap.size w w := Below.refl _ _
  rcases (show m < 0 ∨ (0 ≤ m ∧ n < 0) ∨ (0 ≤ m ∧ 0 ≤ n ∧ 1000000000 < m) ∨ (0 ≤ m ∧ 0 ≤ n ∧ m ≤ 1000000000 ∧ 1000000000 < n) ∨ (0 ≤ m ∧ 0 ≤ n ∧ m ≤ 1000000000 ∧ n ≤ 1000000000) by omega) with hm | ⟨hm, hn⟩ | ⟨hm, hn, hb⟩ | ⟨hm, hn, hb, hc⟩ | ⟨hm, hn, hb, hc⟩
  case inr.inr.inr.inr =>
    have e1 := zeros_add a m n hm hn
    have e2 := zeros_none a a0
    have e3 := join_none a a0
    go_enter Try.func7, Try.ntmps7
    go_wp2_with (first
      | (go_at_call 25; refine (frm (live2_any _) (by assumption)).mono ?_; rintro e w' ⟨rfl, hb⟩)
      | (go_at_call 28; refine (frm (zeros_any _ _ _ (by first | with_reducible assumption | with_reducible exact (sumI_bd _).1 | with_reducible exact (sumI_bd _).2 | with_reducible exact (zerosI_bd _ _ (by omega) (by omega)).1 | with_reducible exact (zerosI_bd _ _ (by omega) (by omega)).2 | omega) (by first | with_reducible assumption | with_reducible exact (sumI_bd _).1 | with_reducible exact (sumI_bd _).2 | with_reducible exact (zerosI_bd _ _ (by omega) (by omega)).1 | with_reducible exact (zerosI_bd _ _ (by omega) (by omega)).2 | omega) (by omega) (by omega)) (by assumption)).mono ?_; rintro e w' ⟨rfl, hb⟩)
      | (go_at_call 30; refine (frm (join_any _ _ _ _ (by first | with_reducible assumption | with_reducible exact (sumI_bd _).1 | with_reducible exact (sumI_bd _).2 | with_reducible exact (zerosI_bd _ _ (by omega) (by omega)).1 | with_reducible exact (zerosI_bd _ _ (by omega) (by omega)).2 | omega) (by first | with_reducible assumption | with_reducible exact (sumI_bd _).1 | with_reducible exact (sumI_bd _).2 | with_reducible exact (zerosI_bd _ _ (by omega) (by omega)).1 | with_reducible exact (zerosI_bd _ _ (by omega) (by omega)).2 | omega) (by first | with_reducible assumption | with_reducible exact (sumI_bd _).1 | with_reducible exact (sumI_bd _).2 | with_reducible exact (zerosI_bd _ _ (by omega) (by omega)).1 | with_reducible exact (zerosI_bd _ _ (by omega) (by omega)).2 | omega) (by first | with_reducible assumption | with_reducible exact (sumI_bd _).1 | with_reducible exact (sumI_bd _).2 | with_reducible exact (zerosI_bd _ _ (by omega) (by omega)).1 | with_reducible exact (zerosI_bd _ _ (by omega) (by omega)).2 | omega) (by omega) (by omega)) (by assumption)).mono ?_; rintro e w' ⟨rfl, hb⟩))
    go_ret
    exact ⟨rfl, by assumption⟩
  all_goals
    go_enter Try.func7, Try.ntmps7
    go_wp2_with (go_at_call 25; refine (frm (live2_any _) (by assumption)).mono ?_; rintro e w' ⟨rfl, hb⟩)
    go_ret
    exact ⟨rfl, by assumption⟩
end Go.Proofs.Ytmibbklafogbkaa
