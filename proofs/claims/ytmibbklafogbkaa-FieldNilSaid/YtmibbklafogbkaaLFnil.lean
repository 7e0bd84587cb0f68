/- The walk of the law FieldNil. -/
import Derived.Test.YtmibbklafogbkaaD2
namespace Go.Proofs.Ytmibbklafogbkaa
open Go.RowKit
open Fld
set_option maxRecDepth 100000 in
set_option maxHeartbeats 2000000 in
theorem fnil_walk (dd at' width n : Int) (S s : ByteArray) (w : World) (wa : (Lit.int .i64 at').wf = true) (ww : (Lit.int .i64 width).wf = true) (wn : (Lit.int .u32 n).wf = true) (hS : S.size ≤ maxLen) (hs : s.size ≤ maxLen) :
    Calls Try.prog 12 #[.agg #[.int .i64 dd, .int .i64 at', .int .i64 width, .int .u32 n, .string S], .string s] w fun e w' => e = .returned (.bool true) ∧ Below w.heap.size w w' := by
  obtain ⟨a0, a1⟩ := bounds_i64 wa
  obtain ⟨d0, d1⟩ := bounds_i64 ww
  obtain ⟨n0, n1⟩ := bounds_u32 wn
  unfold maxLen at hs hS
  clear wa ww wn
  have h0 : Below w.heap.size w (w.alloc (.cells #[.int .i64 dd, .int .i64 at', .int .i64 width, .int .u32 n, .string S] 58)) := (Below.refl _ _).alloc (Nat.le_refl _) _
  have hem : txt [] = ByteArray.empty := rfl
  rcases (show 5000 < s.size ∨ (s.size ≤ 5000 ∧ 300 < S.size) ∨ (s.size ≤ 5000 ∧ S.size ≤ 300 ∧ 4096 < s.size) ∨ (s.size ≤ 4096 ∧ S.size ≤ 300) by omega) with h1 | ⟨h1, h2⟩ | ⟨h1, h2, h3⟩ | ⟨h1, h2⟩
  case inr.inr.inr =>
    obtain ⟨l, hl⟩ : ∃ l : List UInt8, l = s.data.toList := ⟨_, rfl⟩
    have htx : txt l = s := by rw [hl, txt_data]
    have HL := Lib.hid hl
    clear hl
    go_enter Try.func12, Try.ntmps12
    go_wp2_with (first
      | (go_at_call 34; with_reducible refine (new_bad (-1) _ (by omega)).mono ?_; rintro e w' ⟨rfl, rfl⟩)
      | (go_at_call 37; with_reducible refine (get_nil _ _ _).mono ?_; rintro e w' ⟨rfl, rfl⟩)
      | (go_at_call 45; with_reducible refine (getText_nil _ _ _).mono ?_; rintro e w' ⟨rfl, rfl⟩)
      | (go_at_call 36; with_reducible refine (put_nil _ _ _ _).mono ?_; rintro e w' ⟨rfl, rfl⟩)
      | (go_at_call 43; with_reducible refine (putText_nil _ _ _).mono ?_; rintro e w' ⟨rfl, rfl⟩)
      | (go_at_call 47; with_reducible refine (move_nil _ _ _ _).mono ?_; rintro e w' ⟨rfl, rfl⟩)
      | (go_at_call 39; with_reducible refine (bytes_nil _).mono ?_; rintro e w' ⟨rfl, rfl⟩)
      | (go_at_call 49; with_reducible refine (size_nil _).mono ?_; rintro e w' ⟨rfl, rfl⟩)
      | (go_at_call 38; with_reducible refine (ofArea_any _ w s h0 h1 l HL.out).mono ?_; rintro e w' ⟨p, B, c, pad, rfl, ho, hp1, hp2⟩; clear hp1 hp2)
      | (go_at_call 39; with_reducible refine (bytes_any ho).mono ?_; rintro e w' ⟨rfl, rfl⟩)
      | (go_at_call 35; with_reducible refine (frm (live1_any _) ho.bel).mono ?_; rintro e w' ⟨rfl, hb⟩))
    go_ret
    exact ⟨rfl, hb⟩
  case inr.inr.inl =>
    go_enter Try.func12, Try.ntmps12
    go_wp2_with (first
      | (go_at_call 34; with_reducible refine (new_bad (-1) _ (by omega)).mono ?_; rintro e w' ⟨rfl, rfl⟩)
      | (go_at_call 37; with_reducible refine (get_nil _ _ _).mono ?_; rintro e w' ⟨rfl, rfl⟩)
      | (go_at_call 45; with_reducible refine (getText_nil _ _ _).mono ?_; rintro e w' ⟨rfl, rfl⟩)
      | (go_at_call 36; with_reducible refine (put_nil _ _ _ _).mono ?_; rintro e w' ⟨rfl, rfl⟩)
      | (go_at_call 43; with_reducible refine (putText_nil _ _ _).mono ?_; rintro e w' ⟨rfl, rfl⟩)
      | (go_at_call 47; with_reducible refine (move_nil _ _ _ _).mono ?_; rintro e w' ⟨rfl, rfl⟩)
      | (go_at_call 39; with_reducible refine (bytes_nil _).mono ?_; rintro e w' ⟨rfl, rfl⟩)
      | (go_at_call 49; with_reducible refine (size_nil _).mono ?_; rintro e w' ⟨rfl, rfl⟩)
      | (go_at_call 38; with_reducible refine (of_bad s _ h3 hs).mono ?_; rintro e w' ⟨rfl, rfl⟩)
      | (go_at_call 35; with_reducible refine (frm (live1_any _) h0).mono ?_; rintro e w' ⟨rfl, hb⟩))
    go_ret
    exact ⟨rfl, hb⟩
  all_goals
    go_enter Try.func12, Try.ntmps12
    go_wp2_with (go_at_call 35; with_reducible refine (frm (live1_any _) h0).mono ?_; rintro e w' ⟨rfl, hb⟩)
    go_ret
    exact ⟨rfl, hb⟩
end Go.Proofs.Ytmibbklafogbkaa
