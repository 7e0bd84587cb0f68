/- The answers of the document that the laws of layer 1 look at. -/
import Derived.Test.YtmibbklafogbkaaD
import Derived.Test.YtmibbklafogbkaaL2
namespace Go.Proofs.Ytmibbklafogbkaa
open Go.RowKit
open Fld
def v0 : List UInt8 := List.replicate (Int.toNat 4) 0
def v1 : List UInt8 := putL v0 1 2 258
def v2 : List UInt8 := putL v1 3 2 1
def v3 : List UInt8 := putL v2 0 1 256
def v4 : List UInt8 := moveL v3 0 1 3
theorem v_a : errI (okPut v0.length 1 2 258) = 0 := by kernel_rfl
theorem v_b : errI (okPut v1.length 3 2 1) = 1 := by kernel_rfl
theorem v_c : errI (okPut v2.length 0 1 256) = 1 := by kernel_rfl
theorem v_d : getN v3 1 2 = 258 := by kernel_rfl
theorem v_e : errI (okGet v3.length 1 2) = 0 := by kernel_rfl
theorem v_f : errI (okMove v3.length 0 1 3) = 0 := by kernel_rfl
theorem v_g : getS v4 0 2 = ⟨#[1, 2]⟩ := by kernel_rfl
theorem v_h : errI (rngB v4.length 0 2) = 0 := by kernel_rfl
theorem v_i : txt v4 = ⟨#[1, 2, 0, 0]⟩ := by kernel_rfl
theorem v_j : (v4.length : Int) = 4 := by kernel_rfl
theorem live1_new (w w0 : World) (h0 : Below w0.heap.size w0 w) : Calls Try.prog 34 #[.int .i64 4] w fun e w' => ∃ p B c pad, e = .returned (.tuple #[.pointer (some ⟨p, 0, none⟩), .int .i64 0]) ∧ Own w0 w' p B c v0 pad :=
  (new_ok 4 w (by omega) (by omega)).mono fun e w' h => by
    obtain ⟨p, B, c, pad, he, ho, _⟩ := Own.made h h0
    exact ⟨p, B, c, pad, he, ho⟩
set_option maxRecDepth 100000 in
set_option maxHeartbeats 1000000 in
theorem live1_any (w : World) : Calls Try.prog 35 #[] w fun e w' => e = .returned (.bool true) ∧ Below w.heap.size w w' := by
  have a1 := v_a
  have a2 := v_b
  have a3 := v_c
  have a4 := v_d
  have a5 := v_e
  have a6 := v_f
  have a7 := v_g
  have a8 := v_h
  have a9 := v_i
  have a10 := v_j
  have h0 : Below w.heap.size w w := Below.refl _ _
  go_enter Try.func35, Try.ntmps35
  go_wp2_with (first
    | (go_at_call 34; with_reducible refine (live1_new _ _ h0).mono ?_; rintro e w' ⟨p, B, c, pad, rfl, ho⟩)
    | (go_at_call 34; with_reducible refine (new_bad 4097 _ (by omega)).mono ?_; rintro e w' ⟨rfl, rfl⟩)
    | (go_at_call 36; with_reducible refine (put_any ho 1 2 258 (by omega) (by omega) (by omega) (by omega) (by omega) (by omega)).mono ?_; rintro e w' ⟨rfl, ho1⟩)
    | (go_at_call 36; with_reducible refine (put_any (l := v1) ho1 3 2 1 (by omega) (by omega) (by omega) (by omega) (by omega) (by omega)).mono ?_; rintro e w' ⟨rfl, ho2⟩)
    | (go_at_call 36; with_reducible refine (put_any (l := v2) ho2 0 1 256 (by omega) (by omega) (by omega) (by omega) (by omega) (by omega)).mono ?_; rintro e w' ⟨rfl, ho3⟩)
    | (go_at_call 37; with_reducible refine (get_any (l := v3) ho3 1 2 (by omega) (by omega) (by omega) (by omega)).mono ?_; rintro e w' ⟨rfl, rfl⟩)
    | (go_at_call 47; with_reducible refine (move_any (l := v3) ho3 0 1 3 (by omega) (by omega) (by omega) (by omega) (by omega) (by omega)).mono ?_; rintro e w' ⟨rfl, ho4⟩)
    | (go_at_call 45; with_reducible refine (getText_any (l := v4) ho4 0 2 (by omega) (by omega) (by omega) (by omega)).mono ?_; rintro e w' ⟨rfl, rfl⟩)
    | (go_at_call 39; with_reducible refine (bytes_any (l := v4) ho4).mono ?_; rintro e w' ⟨rfl, rfl⟩)
    | (go_at_call 49; with_reducible refine (size_any (l := v4) ho4).mono ?_; rintro e w' ⟨rfl, rfl⟩))
  go_ret
  exact ⟨rfl, ho4.bel⟩
end Go.Proofs.Ytmibbklafogbkaa
