/- The walk of the law Sum32Joins. -/
import Derived.Test.YtmibbklafogbkaaL2
namespace Go.Proofs.Ytmibbklafogbkaa
open Go.RowKit
open Crc
theorem join_sums (s t : ByteArray) (n : Int) (hn : n = (t.size : Int)) : joinI (sumI s) (sumI t) n = sumI (s ++ t) := by
  subst hn
  unfold joinI sumI
  have e : (s ++ t).data.toList = s.data.toList ++ t.data.toList := by simp
  rw [e, crc_join]
  simp only [Int.toNat_natCast]
  rfl
set_option maxRecDepth 100000 in
set_option maxHeartbeats 1000000 in
theorem joins_walk (s t u : ByteArray) (w : World) (hs : s.size ≤ maxLen) (ht : t.size ≤ maxLen) (hu : u.size ≤ maxLen) :
    Calls Try.prog 4 #[.string s, .string t, .string u] w fun e w' => e = .returned (.bool true) ∧ Below w.heap.size w w' := by
  unfold maxLen at hs ht hu
  have h0 : Below w.heap.size w w := Below.refl _ _
  rcases (show 2000 < s.size ∨ (s.size ≤ 2000 ∧ 2000 < t.size) ∨ (s.size ≤ 2000 ∧ t.size ≤ 2000 ∧ 2000 < u.size) ∨ (s.size ≤ 2000 ∧ t.size ≤ 2000 ∧ u.size ≤ 2000) by omega) with hm | ⟨hm, hn⟩ | ⟨hm, hn, hb⟩ | ⟨hm, hn, hb⟩
  case inr.inr.inr =>
    have e1 := join_sums s t t.size rfl
    have e2 := join_sums (s ++ t) u u.size rfl
    have e3 := join_sums t u u.size rfl
    have e4 : joinI (sumI s) (sumI (t ++ u)) ((t.size : Int) + u.size) = sumI (s ++ t ++ u) := by
      rw [join_sums s (t ++ u) _ (by simp), ByteArray.append_assoc]
    go_enter Try.func4, Try.ntmps4
    go_wp2_with (first
      | (go_at_call 25; refine (frm (live2_any _) (by assumption)).mono ?_; rintro e w' ⟨rfl, hb⟩)
      | (go_at_call 27; refine (frm (sum_any _ _ (by first | omega | (simp; omega))) (by assumption)).mono ?_; rintro e w' ⟨rfl, hb⟩)
      | (go_at_call 30; refine (frm (join_any _ _ _ _ (by first | with_reducible assumption | with_reducible exact (sumI_bd _).1 | with_reducible exact (sumI_bd _).2 | with_reducible exact (zerosI_bd _ _ (by omega) (by omega)).1 | with_reducible exact (zerosI_bd _ _ (by omega) (by omega)).2 | omega) (by first | with_reducible assumption | with_reducible exact (sumI_bd _).1 | with_reducible exact (sumI_bd _).2 | with_reducible exact (zerosI_bd _ _ (by omega) (by omega)).1 | with_reducible exact (zerosI_bd _ _ (by omega) (by omega)).2 | omega) (by first | with_reducible assumption | with_reducible exact (sumI_bd _).1 | with_reducible exact (sumI_bd _).2 | with_reducible exact (zerosI_bd _ _ (by omega) (by omega)).1 | with_reducible exact (zerosI_bd _ _ (by omega) (by omega)).2 | omega) (by first | with_reducible assumption | with_reducible exact (sumI_bd _).1 | with_reducible exact (sumI_bd _).2 | with_reducible exact (zerosI_bd _ _ (by omega) (by omega)).1 | with_reducible exact (zerosI_bd _ _ (by omega) (by omega)).2 | omega) (by omega) (by omega)) (by assumption)).mono ?_; rintro e w' ⟨rfl, hb⟩))
    go_ret
    exact ⟨rfl, by assumption⟩
  all_goals
    go_enter Try.func4, Try.ntmps4
    go_wp2_with (go_at_call 25; refine (frm (live2_any _) (by assumption)).mono ?_; rintro e w' ⟨rfl, hb⟩)
    go_ret
    exact ⟨rfl, by assumption⟩
end Go.Proofs.Ytmibbklafogbkaa
