/- The walks of the laws of layer 2 (sum32). -/
import Derived.Test.YtmibbklafogbkaaT
import Derived.OpenShut
namespace Go.Proofs.Ytmibbklafogbkaa
open Go.RowKit
open Crc
theorem frm {P : Program} {f : FuncId} {args : Array Value} {w w0 : World} {r : Ending} (c : Calls P f args w fun e w' => e = r ∧ Below w.heap.size w w') (h : Below w0.heap.size w0 w) :
    Calls P f args w fun e w' => e = r ∧ Below w0.heap.size w0 w' := c.mono fun _ _ ⟨a, b⟩ => ⟨a, h.trans (b.mono h.size)⟩
theorem lit1 : sumI ⟨#[49, 50, 51, 52, 53, 54, 55, 56, 57]⟩ = 3421780262 := by kernel_rfl
theorem lit2 : sumI ⟨#[]⟩ = 0 := by kernel_rfl
theorem lit3 : joinI (sumI ⟨#[49, 50, 51, 52]⟩) (sumI ⟨#[53, 54, 55, 56, 57]⟩) 5 = 3421780262 := by kernel_rfl
theorem lit4 : zerosI (sumI ⟨#[97]⟩) 2 = sumI ⟨#[97, 0, 0]⟩ := by kernel_rfl
theorem lit5 : turnedI (sumI ⟨#[97, 98, 99]⟩) ⟨#[3]⟩ 1 = sumI ⟨#[97, 97, 99]⟩ := by kernel_rfl
set_option maxHeartbeats 400000 in
theorem live2_any (w : World) : Calls Try.prog 25 #[] w fun e w' => e = .returned (.bool true) ∧ Below w.heap.size w w' := by
  have h1 := lit1
  have h2 := lit2
  have h3 := lit3
  have h4 := lit4
  have h5 := lit5
  have h0 : Below w.heap.size w w := Below.refl _ _
  go_enter Try.func25, Try.ntmps25
  go_wp2_with (first
    | (go_at_call 27; refine (frm (sum_any _ _ (by decide)) (by assumption)).mono ?_; rintro e w' ⟨rfl, hb⟩)
    | (go_at_call 28; refine (frm (zeros_any _ _ _ (sumI_bd _).1 (sumI_bd _).2 (by omega) (by omega)) (by assumption)).mono ?_; rintro e w' ⟨rfl, hb⟩)
    | (go_at_call 30; refine (frm (join_any _ _ _ _ (sumI_bd _).1 (sumI_bd _).2 (sumI_bd _).1 (sumI_bd _).2 (by omega) (by omega)) (by assumption)).mono ?_; rintro e w' ⟨rfl, hb⟩)
    | (go_at_call 32; refine (frm (turned_any _ _ _ _ (sumI_bd _).1 (sumI_bd _).2 (by decide) (by omega) (by omega)) (by assumption)).mono ?_; rintro e w' ⟨rfl, hb⟩))
  go_ret
  exact ⟨rfl, by assumption⟩
set_option maxRecDepth 100000 in
set_option maxHeartbeats 1000000 in
theorem sums_walk (s : ByteArray) (a n : Int) (w : World) (hs : s.size ≤ maxLen) (wa : (Lit.int .u32 a).wf = true) (wn : (Lit.int .i64 n).wf = true) :
    Calls Try.prog 3 #[.string s, .int .u32 a, .int .i64 n] w fun e w' => e = .returned (.bool true) ∧ Below w.heap.size w w' := by
  obtain ⟨a0, a1'⟩ := bounds_u32 wa
  have a1 : a < 4294967296 := by omega
  obtain ⟨n0, n1⟩ := bounds_i64 wn
  unfold maxLen at hs
  have h0 : Below w.heap.size w w := Below.refl _ _
  by_cases hc : 3000 < s.size ∨ 3000 < n
  · have hc1 : (decide ((s.size : Int) > 3000) || decide (n > 3000)) = true := by simp; omega
    by_cases hc2 : (s.size : Int) > 3000
    · go_enter Try.func3, Try.ntmps3
      go_wp2_with (go_at_call 25; refine (frm (live2_any _) (by assumption)).mono ?_; rintro e w' ⟨rfl, hb⟩)
      go_ret
      exact ⟨rfl, by assumption⟩
    · have hc3 : n > 3000 := by omega
      go_enter Try.func3, Try.ntmps3
      go_wp2_with (go_at_call 25; refine (frm (live2_any _) (by assumption)).mono ?_; rintro e w' ⟨rfl, hb⟩)
      go_ret
      exact ⟨rfl, by assumption⟩
  · have hc1 : ¬ (s.size : Int) > 3000 := by omega
    have hc2 : ¬ n > 3000 := by omega
    clear hc
    go_enter Try.func3, Try.ntmps3
    go_wp2_with (first
      | (go_at_call 25; refine (frm (live2_any _) (by assumption)).mono ?_; rintro e w' ⟨rfl, hb⟩)
      | (go_at_call 26; refine (refSum_any _ _ (by first | omega | (simp; omega))).mono ?_; rintro e w' ⟨rfl, rfl⟩)
      | (go_at_call 27; refine (frm (sum_any _ _ (by first | omega | (simp; omega))) (by assumption)).mono ?_; rintro e w' ⟨rfl, hb⟩)
      | (go_at_call 28; refine (frm (zeros_any _ _ _ (by first | with_reducible assumption | with_reducible exact (sumI_bd _).1 | with_reducible exact (sumI_bd _).2 | with_reducible exact (zerosI_bd _ _ (by omega) (by omega)).1 | with_reducible exact (zerosI_bd _ _ (by omega) (by omega)).2 | omega) (by first | with_reducible assumption | with_reducible exact (sumI_bd _).1 | with_reducible exact (sumI_bd _).2 | with_reducible exact (zerosI_bd _ _ (by omega) (by omega)).1 | with_reducible exact (zerosI_bd _ _ (by omega) (by omega)).2 | omega) (by omega) (by omega)) (by assumption)).mono ?_; rintro e w' ⟨rfl, hb⟩)
      | (go_at_call 29; refine (refZeros_any _ _ _ (by first | with_reducible assumption | with_reducible exact (sumI_bd _).1 | with_reducible exact (sumI_bd _).2 | with_reducible exact (zerosI_bd _ _ (by omega) (by omega)).1 | with_reducible exact (zerosI_bd _ _ (by omega) (by omega)).2 | omega) (by first | with_reducible assumption | with_reducible exact (sumI_bd _).1 | with_reducible exact (sumI_bd _).2 | with_reducible exact (zerosI_bd _ _ (by omega) (by omega)).1 | with_reducible exact (zerosI_bd _ _ (by omega) (by omega)).2 | omega) (by omega)).mono ?_; rintro e w' ⟨rfl, rfl⟩)
      | (go_at_call 30; refine (frm (join_any _ _ _ _ (by first | with_reducible assumption | with_reducible exact (sumI_bd _).1 | with_reducible exact (sumI_bd _).2 | with_reducible exact (zerosI_bd _ _ (by omega) (by omega)).1 | with_reducible exact (zerosI_bd _ _ (by omega) (by omega)).2 | omega) (by first | with_reducible assumption | with_reducible exact (sumI_bd _).1 | with_reducible exact (sumI_bd _).2 | with_reducible exact (zerosI_bd _ _ (by omega) (by omega)).1 | with_reducible exact (zerosI_bd _ _ (by omega) (by omega)).2 | omega) (by first | with_reducible assumption | with_reducible exact (sumI_bd _).1 | with_reducible exact (sumI_bd _).2 | with_reducible exact (zerosI_bd _ _ (by omega) (by omega)).1 | with_reducible exact (zerosI_bd _ _ (by omega) (by omega)).2 | omega) (by first | with_reducible assumption | with_reducible exact (sumI_bd _).1 | with_reducible exact (sumI_bd _).2 | with_reducible exact (zerosI_bd _ _ (by omega) (by omega)).1 | with_reducible exact (zerosI_bd _ _ (by omega) (by omega)).2 | omega) (by omega) (by omega)) (by assumption)).mono ?_; rintro e w' ⟨rfl, hb⟩)
      | (go_at_call 31; refine (refJoin_any _ _ _ _ (by first | with_reducible assumption | with_reducible exact (sumI_bd _).1 | with_reducible exact (sumI_bd _).2 | with_reducible exact (zerosI_bd _ _ (by omega) (by omega)).1 | with_reducible exact (zerosI_bd _ _ (by omega) (by omega)).2 | omega) (by first | with_reducible assumption | with_reducible exact (sumI_bd _).1 | with_reducible exact (sumI_bd _).2 | with_reducible exact (zerosI_bd _ _ (by omega) (by omega)).1 | with_reducible exact (zerosI_bd _ _ (by omega) (by omega)).2 | omega) (by first | with_reducible assumption | with_reducible exact (sumI_bd _).1 | with_reducible exact (sumI_bd _).2 | with_reducible exact (zerosI_bd _ _ (by omega) (by omega)).1 | with_reducible exact (zerosI_bd _ _ (by omega) (by omega)).2 | omega) (by first | with_reducible assumption | with_reducible exact (sumI_bd _).1 | with_reducible exact (sumI_bd _).2 | with_reducible exact (zerosI_bd _ _ (by omega) (by omega)).1 | with_reducible exact (zerosI_bd _ _ (by omega) (by omega)).2 | omega) (by omega)).mono ?_; rintro e w' ⟨rfl, rfl⟩)
      | (go_at_call 32; refine (frm (turned_any _ _ _ _ (by first | with_reducible assumption | with_reducible exact (sumI_bd _).1 | with_reducible exact (sumI_bd _).2 | with_reducible exact (zerosI_bd _ _ (by omega) (by omega)).1 | with_reducible exact (zerosI_bd _ _ (by omega) (by omega)).2 | omega) (by first | with_reducible assumption | with_reducible exact (sumI_bd _).1 | with_reducible exact (sumI_bd _).2 | with_reducible exact (zerosI_bd _ _ (by omega) (by omega)).1 | with_reducible exact (zerosI_bd _ _ (by omega) (by omega)).2 | omega) (by first | omega | (simp; omega)) (by omega) (by omega)) (by assumption)).mono ?_; rintro e w' ⟨rfl, hb⟩)
      | (go_at_call 33; refine (refTurned_any _ _ _ _ (by first | with_reducible assumption | with_reducible exact (sumI_bd _).1 | with_reducible exact (sumI_bd _).2 | with_reducible exact (zerosI_bd _ _ (by omega) (by omega)).1 | with_reducible exact (zerosI_bd _ _ (by omega) (by omega)).2 | omega) (by first | with_reducible assumption | with_reducible exact (sumI_bd _).1 | with_reducible exact (sumI_bd _).2 | with_reducible exact (zerosI_bd _ _ (by omega) (by omega)).1 | with_reducible exact (zerosI_bd _ _ (by omega) (by omega)).2 | omega) (by first | omega | (simp; omega)) (by omega)).mono ?_; rintro e w' ⟨rfl, rfl⟩))
    all_goals go_ret
    all_goals exact ⟨rfl, by assumption⟩
end Go.Proofs.Ytmibbklafogbkaa
