/- The entry layer: may a page be staged? (79) -/
import Derived.Test.YtmibbklafogbkaaW4
import Derived.Test.YtmibbklafogbkaaEm
import Derived.Deep.Cut
namespace Go.Proofs.Ytmibbklafogbkaa
open Go.RowKit
open Fld
set_option maxRecDepth 100000 in
set_option maxHeartbeats 2000000 in
theorem isStaged_ok (pk pn : Int) (pb : ByteArray) (w : World) (hp : pb.size ≤ maxLen) :
    Calls Try.prog 79 #[.agg #[.int .i64 pk, .int .i64 pn, .string pb]] w fun e w' => e = .returned (.bool (decide (Staged pk pn pb))) ∧ Below w.heap.size w w' := by
  unfold maxLen at hp
  have h0 : Below w.heap.size w w := Below.refl _ _
  rcases (show pk < 0 ∨ 0 ≤ pk by omega) with h1 | h1
  · have HR : Hid (Ending.returned (.bool false) = Ending.returned (.bool (decide (Staged pk pn pb)))) := Lib.hid (by rw [decide_eq_false (by unfold Staged; omega)])
    go_enter Try.func79, Try.ntmps79
    go_upto_region 1 with (refine wpList_boxArr rfl 72 _ rfl _ rfl ?_; intro W1 hW1 hg1 hz1; have d0 := cell_of_row _ _ 0 _ _ _ hW1; have d1 := cell_of_row _ _ 1 _ _ _ hW1; have d2 := cell_of_row _ _ 2 _ _ _ hW1; simp at d0 d1 d2; clear hW1)
    go_wp2
    go_ret
    exact ⟨HR.out, h0.grown hg1 (Nat.le_refl _) (by simp)⟩
  rcases (show 5 ≤ pk ∨ pk < 5 by omega) with h2 | h2
  · have HR : Hid (Ending.returned (.bool false) = Ending.returned (.bool (decide (Staged pk pn pb)))) := Lib.hid (by rw [decide_eq_false (by unfold Staged; omega)])
    go_enter Try.func79, Try.ntmps79
    go_upto_region 1 with (refine wpList_boxArr rfl 72 _ rfl _ rfl ?_; intro W1 hW1 hg1 hz1; have d0 := cell_of_row _ _ 0 _ _ _ hW1; have d1 := cell_of_row _ _ 1 _ _ _ hW1; have d2 := cell_of_row _ _ 2 _ _ _ hW1; simp at d0 d1 d2; clear hW1)
    go_wp2
    go_ret
    exact ⟨HR.out, h0.grown hg1 (Nat.le_refl _) (by simp)⟩
  rcases (show pn < 0 ∨ 0 ≤ pn by omega) with h3 | h3
  · have HR : Hid (Ending.returned (.bool false) = Ending.returned (.bool (decide (Staged pk pn pb)))) := Lib.hid (by rw [decide_eq_false (by unfold Staged; omega)])
    go_enter Try.func79, Try.ntmps79
    go_upto_region 1 with (refine wpList_boxArr rfl 72 _ rfl _ rfl ?_; intro W1 hW1 hg1 hz1; have d0 := cell_of_row _ _ 0 _ _ _ hW1; have d1 := cell_of_row _ _ 1 _ _ _ hW1; have d2 := cell_of_row _ _ 2 _ _ _ hW1; simp at d0 d1 d2; clear hW1)
    go_wp2
    go_ret
    exact ⟨HR.out, h0.grown hg1 (Nat.le_refl _) (by simp)⟩
  rcases (show 1000 ≤ pn ∨ pn < 1000 by omega) with h4 | h4
  · have HR : Hid (Ending.returned (.bool false) = Ending.returned (.bool (decide (Staged pk pn pb)))) := Lib.hid (by rw [decide_eq_false (by unfold Staged; omega)])
    go_enter Try.func79, Try.ntmps79
    go_upto_region 1 with (refine wpList_boxArr rfl 72 _ rfl _ rfl ?_; intro W1 hW1 hg1 hz1; have d0 := cell_of_row _ _ 0 _ _ _ hW1; have d1 := cell_of_row _ _ 1 _ _ _ hW1; have d2 := cell_of_row _ _ 2 _ _ _ hW1; simp at d0 d1 d2; clear hW1)
    go_wp2
    go_ret
    exact ⟨HR.out, h0.grown hg1 (Nat.le_refl _) (by simp)⟩
  rcases (show (230 : Int) < pb.size ∨ (pb.size : Int) ≤ 230 by omega) with h5 | h5
  · have HR : Hid (Ending.returned (.bool false) = Ending.returned (.bool (decide (Staged pk pn pb)))) := Lib.hid (by rw [decide_eq_false (by unfold Staged; omega)])
    go_enter Try.func79, Try.ntmps79
    go_upto_region 1 with (refine wpList_boxArr rfl 72 _ rfl _ rfl ?_; intro W1 hW1 hg1 hz1; have d0 := cell_of_row _ _ 0 _ _ _ hW1; have d1 := cell_of_row _ _ 1 _ _ _ hW1; have d2 := cell_of_row _ _ 2 _ _ _ hW1; simp at d0 d1 d2; clear hW1)
    go_wp2
    go_ret
    exact ⟨HR.out, h0.grown hg1 (Nat.le_refl _) (by simp)⟩
  by_cases h6 : pk = 0
  · by_cases h7 : pb.size = 0
    · have HR : Hid (Ending.returned (.bool true) = Ending.returned (.bool (decide (Staged pk pn pb)))) := Lib.hid (by rw [decide_eq_true (by unfold Staged; omega)])
      rw [← empty_size] at h7
      subst h6 h7
      go_enter Try.func79, Try.ntmps79
      go_upto_region 1 with (refine wpList_boxArr rfl 72 _ rfl _ rfl ?_; intro W1 hW1 hg1 hz1; have d0 := cell_of_row _ _ 0 _ _ _ hW1; have d1 := cell_of_row _ _ 1 _ _ _ hW1; have d2 := cell_of_row _ _ 2 _ _ _ hW1; simp at d0 d1 d2; clear hW1)
      go_wp2
      go_ret
      exact ⟨HR.out, h0.grown hg1 (Nat.le_refl _) (by simp)⟩
    · have HR : Hid (Ending.returned (.bool false) = Ending.returned (.bool (decide (Staged pk pn pb)))) := Lib.hid (by rw [decide_eq_false (by unfold Staged; omega)])
      subst h6
      have h8 := no_size (show 0 < pb.size by omega)
      go_enter Try.func79, Try.ntmps79
      go_upto_region 1 with (refine wpList_boxArr rfl 72 _ rfl _ rfl ?_; intro W1 hW1 hg1 hz1; have d0 := cell_of_row _ _ 0 _ _ _ hW1; have d1 := cell_of_row _ _ 1 _ _ _ hW1; have d2 := cell_of_row _ _ 2 _ _ _ hW1; simp at d0 d1 d2; clear hW1)
      go_wp2
      go_ret
      exact ⟨HR.out, h0.grown hg1 (Nat.le_refl _) (by simp)⟩
  · have HR : Hid (Ending.returned (.bool true) = Ending.returned (.bool (decide (Staged pk pn pb)))) := Lib.hid (by rw [decide_eq_true (by unfold Staged; omega)])
    have h8 : (pk == 0) = false := beq_eq_false_iff_ne.2 h6
    go_enter Try.func79, Try.ntmps79
    go_upto_region 1 with (refine wpList_boxArr rfl 72 _ rfl _ rfl ?_; intro W1 hW1 hg1 hz1; have d0 := cell_of_row _ _ 0 _ _ _ hW1; have d1 := cell_of_row _ _ 1 _ _ _ hW1; have d2 := cell_of_row _ _ 2 _ _ _ hW1; simp at d0 d1 d2; clear hW1)
    go_wp2
    go_ret
    exact ⟨HR.out, h0.grown hg1 (Nat.le_refl _) (by simp)⟩
end Go.Proofs.Ytmibbklafogbkaa
