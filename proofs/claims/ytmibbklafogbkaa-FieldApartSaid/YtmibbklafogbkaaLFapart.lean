/- The walk of the law FieldApart. -/
import Derived.Test.YtmibbklafogbkaaL1
import Derived.Test.YtmibbklafogbkaaFn
import Derived.Deep.QuietTactic
import Derived.BigQuiet
namespace Go.Proofs.Ytmibbklafogbkaa
open Go.RowKit
open Fld
theorem okPut_yes (l : List UInt8) (a : Nat) (n : Int) (h : a + 4 ≤ l.length) (hn : n < 4294967296) : okPut l.length a 4 n = true := by
  rw [okPut_iff]
  exact ⟨.inr (.inr rfl), ⟨by omega, by omega, by omega, by omega⟩, by show n < 4294967296; exact hn⟩
theorem okGet_yes (l : List UInt8) (a : Nat) (h : a + 4 ≤ l.length) : okGet l.length a 4 = true := by
  rw [okGet_iff]
  exact ⟨.inr (.inr rfl), ⟨by omega, by omega, by omega, by omega⟩⟩
theorem join_halves (n m : Nat) (hm : m < 4294967296) : bits BinOp.or IntKind.u32 ((n : Int) * 65536 % 4294967296) ((m : Int) / 65536) = ((n % 65536 * 65536 + m / 65536 : Nat) : Int) := by
  have h := bits_join .u32 32 (by decide) wraps_u32 16 ((n : Int) * 65536 % 4294967296) ((m : Int) / 65536) (by omega) (by omega) (by omega) (by omega) (by omega) (by omega)
  rw [h]; omega
/-- two numbers put side by side, and what is got -/
theorem side (l : List UInt8) (a n m : Nat) (h : a + 8 ≤ l.length) (hn : n < 4294967296) (hm : m < 4294967296) :
    (putL (putL l a 4 n) ((a : Int) + 4) 4 m) = setL l a (be 4 n ++ be 4 m) := by
  have h1 : putL l a 4 n = setL l a (be 4 n) := by
    unfold putL
    rw [okPut_yes l a n (by omega) (by omega)]; rfl
  have hl : (setL l a (be 4 n)).length = l.length := setL_length _ _ _ (by rw [be_length]; omega)
  rw [h1, show ((a : Int) + 4) = ((a + 4 : Nat) : Int) by omega]
  unfold putL
  rw [okPut_yes _ (a + 4) m (by omega) (by omega), if_pos rfl]
  have := setL_append l a (be 4 n) (be 4 m) (by rw [be_length, be_length]; omega)
  rw [be_length] at this
  exact this
theorem side_get (l : List UInt8) (a i n m : Nat) (h : a + 8 ≤ l.length) (hi : i + 4 ≤ 8) :
    getN (setL l a (be 4 n ++ be 4 m)) ((a : Int) + i) 4 = (num (getL (be 4 n ++ be 4 m) i 4) : Nat) := by
  have hz : (be 4 n ++ be 4 m).length = 8 := by rw [List.length_append, be_length, be_length]
  have hl : (setL l a (be 4 n ++ be 4 m)).length = l.length := setL_length _ _ _ (by rw [hz]; omega)
  rw [show ((a : Int) + i) = ((a + i : Nat) : Int) by omega]
  unfold getN
  rw [okGet_yes _ (a + i) (by omega), if_pos rfl, Int.toNat_natCast, getL_in l a i _ _ (by rw [hz]; omega) (by rw [hz]; exact hi)]
  rfl
theorem new_any (w w0 : World) (size : Int) (h0 : Below w0.heap.size w0 w) (h1 : 0 ≤ size) (h2 : size ≤ 4096) (l : List UInt8) (hl : l = List.replicate size.toNat 0) :
    Calls Try.prog 34 #[.int .i64 size] w fun e w' => ∃ p B c pad, e = .returned (.tuple #[.pointer (some ⟨p, 0, none⟩), .int .i64 0]) ∧ Own w0 w' p B c l pad ∧ w.heap.size ≤ p ∧ w.heap.size ≤ B :=
  (new_ok size w h1 h2).mono fun e w' h => by subst hl; exact Own.made h h0
set_option maxRecDepth 100000 in
set_option maxHeartbeats 1000000 in
theorem fapart_walk (size at' n m : Int) (w : World) (ws : (Lit.int .i64 size).wf = true) (wa : (Lit.int .i64 at').wf = true) (wn : (Lit.int .u32 n).wf = true) (wm : (Lit.int .u32 m).wf = true) :
    Calls Try.prog 9 #[.agg #[.int .i64 size, .int .i64 at', .int .u32 n, .int .u32 m]] w fun e w' => e = .returned (.bool true) ∧ Below w.heap.size w w' := by
  obtain ⟨s0, s1⟩ := bounds_i64 ws
  obtain ⟨a0, a1⟩ := bounds_i64 wa
  obtain ⟨n0, n1⟩ := bounds_u32 wn
  obtain ⟨m0, m1⟩ := bounds_u32 wm
  clear ws wa wn wm
  have h0 : ∀ k, Below w.heap.size w ((w.alloc (.cells #[.int .i64 size, .int .i64 at', .int .u32 n, .int .u32 m] 39)).drewN k) := fun k => (((Below.refl _ _).alloc (Nat.le_refl _) _).trans ⟨rfl, rfl, rfl, Nat.le_refl _, fun _ _ => rfl⟩)
  by_cases hsz : 0 ≤ size ∧ size ≤ 4096
  · obtain ⟨hs0, hs1⟩ := hsz
    obtain ⟨l, hl⟩ : ∃ l : List UInt8, l = List.replicate size.toNat 0 := ⟨_, rfl⟩
    have hll : (l.length : Int) = size := by rw [hl, List.length_replicate]; omega
    have HLL := Lib.hid hll
    have HL := Lib.hid hl
    clear hl hll
    rcases (show at' < 0 ∨ (0 ≤ at' ∧ 4000 < at') ∨ (0 ≤ at' ∧ at' ≤ 4000 ∧ size < at' + 8) ∨ (0 ≤ at' ∧ at' ≤ 4000 ∧ at' + 8 ≤ size) by omega) with h1 | ⟨h1, h2⟩ | ⟨h1, h2, h3⟩ | ⟨h1, h2, h3⟩
    case inr.inr.inr =>
      obtain ⟨a, rfl⟩ := Int.eq_ofNat_of_zero_le h1
      obtain ⟨N, rfl⟩ := Int.eq_ofNat_of_zero_le n0
      obtain ⟨M, rfl⟩ := Int.eq_ofNat_of_zero_le m0
      have hal : a + 8 ≤ l.length := by have := HLL.out; omega
      obtain ⟨l1, hl1⟩ : ∃ l1, l1 = putL l a 4 N := ⟨_, rfl⟩
      have hl1n : l1.length = l.length := by rw [hl1]; exact putL_length _ _ _ _
      obtain ⟨l2, hl2⟩ : ∃ l2, l2 = putL l1 ((a : Int) + 4) 4 M := ⟨_, rfl⟩
      have hl2n : l2.length = l.length := by rw [hl2, putL_length, hl1n]
      have hside : l2 = setL l a (be 4 N ++ be 4 M) := by rw [hl2, hl1]; exact side l a N M hal (by omega) (by omega)
      have e1 : errI (okPut l.length a 4 N) = 0 := by rw [okPut_yes _ _ _ (by omega) (by omega)]; rfl
      have e2 : errI (okPut l1.length ((a : Int) + 4) 4 M) = 0 := by rw [show ((a : Int) + 4) = ((a + 4 : Nat) : Int) by omega, okPut_yes _ _ _ (by omega) (by omega)]; rfl
      have e3 : errI (okGet l2.length a 4) = 0 := by rw [okGet_yes _ _ (by omega)]; rfl
      have e4 : errI (okGet l2.length ((a : Int) + 4) 4) = 0 := by rw [show ((a : Int) + 4) = ((a + 4 : Nat) : Int) by omega, okGet_yes _ _ (by omega)]; rfl
      have e5 : errI (okGet l2.length ((a : Int) + 2) 4) = 0 := by rw [show ((a : Int) + 2) = ((a + 2 : Nat) : Int) by omega, okGet_yes _ _ (by omega)]; rfl
      rw [hl1n] at e2
      rw [hl2n] at e3 e4 e5
      have hb4 : (256 : Nat) ^ 4 = 4294967296 := rfl
      have g1 : getN l2 a 4 = N := by
        have := side_get l a 0 N M hal (by omega)
        rw [← hside, show ((a : Int) + (0 : Nat)) = a by omega] at this
        have hx := getL_left (be 4 N) (be 4 M)
        rw [be_length] at hx
        rw [this, hx, num_be 4 N (by omega)]
      have g2 : getN l2 ((a : Int) + 4) 4 = M := by
        have := side_get l a 4 N M hal (by omega)
        rw [← hside] at this
        have hx := getL_right (be 4 N) (be 4 M)
        rw [be_length, be_length] at hx
        rw [hx, num_be 4 M (by omega)] at this
        exact this
      have g3 : getN l2 ((a : Int) + 2) 4 = ((N % 65536 * 65536 + M / 65536 : Nat) : Int) := by
        have := side_get l a 2 N M hal (by omega)
        rw [← hside, num_between N M (by omega)] at this
        exact this
      have g4 := join_halves N M (by omega)
      rw [← g4] at g3
      have H1 := Lib.hid hl1
      have H2 := Lib.hid hl2
      clear g4 hside hl1 hl2 hb4
      go_enter Try.func9, Try.ntmps9
      go_wp2_with fail
      go_quiet (fail)
      have hbl := h0 nq
      clear h0
      generalize ((w.alloc (.cells #[.int .i64 size, .int .i64 (a : Int), .int .u32 (N : Int), .int .u32 (M : Int)] 39)).drewN nq) = W at hbl ⊢
      go_wp2_with (first
        | (go_at_call 34; with_reducible refine (new_any _ w size hbl hs0 hs1 l HL.out).mono ?_; rintro e w' ⟨p, B, c, pad, rfl, ho, hp1, hp2⟩; clear hp1 hp2)
        | (go_at_call 36; with_reducible refine (put_any ho a 4 N (by omega) (by omega) (by omega) (by omega) (by omega) (by omega)).mono ?_; rintro e w' ⟨rfl, ho1⟩; rw [← H1.out] at ho1)
        | (go_at_call 36; with_reducible refine (put_any ho1 ((a : Int) + 4) 4 M (by omega) (by omega) (by omega) (by omega) (by omega) (by omega)).mono ?_; rintro e w' ⟨rfl, ho2⟩; rw [← H2.out] at ho2)
        | (go_at_call 37; with_reducible refine (get_any ho2 _ 4 (by omega) (by omega) (by omega) (by omega)).mono ?_; rintro e w' ⟨rfl, rfl⟩)
        | (go_at_call 35; with_reducible refine (frm (live1_any _) ho2.bel).mono ?_; rintro e w' ⟨rfl, hb⟩))
      go_ret
      exact ⟨rfl, hb⟩
    all_goals
      go_enter Try.func9, Try.ntmps9
      go_wp2_with fail
      go_quiet (fail)
      have hbl := h0 nq
      clear h0
      generalize ((w.alloc (.cells #[.int .i64 size, .int .i64 at', .int .u32 n, .int .u32 m] 39)).drewN nq) = W at hbl ⊢
      go_wp2_with (first
        | (go_at_call 34; with_reducible refine (new_any _ w size hbl hs0 hs1 l HL.out).mono ?_; rintro e w' ⟨p, B, c, pad, rfl, ho, hp1, hp2⟩; clear hp1 hp2)
        | (go_at_call 35; with_reducible refine (frm (live1_any _) ho.bel).mono ?_; rintro e w' ⟨rfl, hb⟩))
      go_ret
      exact ⟨rfl, hb⟩
  · have hbad : size < 0 ∨ 4096 < size := by omega
    clear hsz
    go_enter Try.func9, Try.ntmps9
    go_wp2_with fail
    go_quiet (fail)
    have hbl := h0 nq
    clear h0
    generalize ((w.alloc (.cells #[.int .i64 size, .int .i64 at', .int .u32 n, .int .u32 m] 39)).drewN nq) = W at hbl ⊢
    go_wp2_with (first
      | (go_at_call 34; with_reducible refine (new_bad size _ hbad).mono ?_; rintro e w' ⟨rfl, rfl⟩)
      | (go_at_call 35; with_reducible refine (frm (live1_any _) hbl).mono ?_; rintro e w' ⟨rfl, hb⟩))
    go_ret
    exact ⟨rfl, hb⟩
end Go.Proofs.Ytmibbklafogbkaa
