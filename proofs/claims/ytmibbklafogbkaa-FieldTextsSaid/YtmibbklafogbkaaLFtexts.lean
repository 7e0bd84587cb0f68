/- The walk of the law FieldTexts. -/
import Derived.Test.YtmibbklafogbkaaD2
import Derived.Deep.QuietTactic
import Derived.BigQuiet
namespace Go.Proofs.Ytmibbklafogbkaa
open Go.RowKit
open Fld
theorem setL_self (l : List UInt8) (a n : Nat) (h : a + n ≤ l.length) : setL l a (getL l a n) = l := by
  unfold setL
  rw [getL_length l a n h]
  unfold getL
  rw [← List.drop_drop, List.take_append_drop, List.take_append_drop]
theorem rngB_yes {n a k : Nat} (h : a + k ≤ n) : rngB n a k = true := by
  rw [rngB_iff]
  exact ⟨by omega, by omega, by omega, by omega⟩
set_option maxRecDepth 100000 in
set_option maxHeartbeats 1000000 in
theorem ftexts_walk (s t : ByteArray) (at' to : Int) (w : World) (hs : s.size ≤ maxLen) (ht : t.size ≤ maxLen) (wa : (Lit.int .i64 at').wf = true) (wt : (Lit.int .i64 to).wf = true) :
    Calls Try.prog 13 #[.agg #[.string s, .string t, .int .i64 at', .int .i64 to]] w fun e w' => e = .returned (.bool true) ∧ Below w.heap.size w w' := by
  obtain ⟨a0, a1⟩ := bounds_i64 wa
  obtain ⟨d0, d1⟩ := bounds_i64 wt
  unfold maxLen at hs ht
  clear wa wt
  have h0 : ∀ k, Below w.heap.size w ((w.alloc (.cells #[.string s, .string t, .int .i64 at', .int .i64 to] 69)).drewN k) := fun k => (((Below.refl _ _).alloc (Nat.le_refl _) _).trans ⟨rfl, rfl, rfl, Nat.le_refl _, fun _ _ => rfl⟩)
  rcases (show 1000 < s.size ∨ (s.size ≤ 1000 ∧ 1000 < t.size) ∨ (s.size ≤ 1000 ∧ t.size ≤ 1000) by omega) with h1 | ⟨h1, h2⟩ | ⟨hsz, htz⟩
  case inr.inr =>
    obtain ⟨l, hl⟩ : ∃ l : List UInt8, l = s.data.toList := ⟨_, rfl⟩
    have hll : (l.length : Int) = s.size := by rw [hl, Array.length_toList]; rfl
    have htx : txt l = s := by rw [hl, txt_data]
    have htl : t.data.toList.length = t.size := Array.length_toList ..
    have HLL := Lib.hid hll
    have HL := Lib.hid hl
    clear hl hll
    by_cases hok : rngB l.length at' t.size = true
    · obtain ⟨r0, r1, r2, r3⟩ := (rngB_iff _ _ _).1 hok
      obtain ⟨a, rfl⟩ := Int.eq_ofNat_of_zero_le r0
      have hal : a + t.size ≤ l.length := by omega
      obtain ⟨l1, hl1⟩ : ∃ l1, l1 = putS l a t := ⟨_, rfl⟩
      have hset : l1 = setL l a t.data.toList := by rw [hl1]; unfold putS; rw [if_pos hok, Int.toNat_natCast]
      have hl1n : l1.length = l.length := by rw [hl1]; exact putS_length _ _ _
      have hgl : getL l1 a t.size = t.data.toList := by
        have := getL_setL l a t.data.toList (by rw [htl]; exact hal)
        rw [htl] at this
        rw [hset, this]
      have e1 : errI (rngB l.length a t.size) = 0 := by rw [hok]; rfl
      have e2 : getS l1 a t.size = t := by
        unfold getS
        rw [hl1n, hok, if_pos rfl, Int.toNat_natCast, Int.toNat_natCast, hgl, txt_data]
      have e3 : errI (okMove l.length a a t.size) = 0 := by unfold okMove; rw [hok]; rfl
      have hmv : moveL l1 a a t.size = l1 := by
        unfold moveL okMove
        rw [hl1n, hok, Bool.and_self, if_pos rfl, Int.toNat_natCast, Int.toNat_natCast, setL_self l1 a t.size (by omega)]
      have HMV := Lib.hid hmv
      have HH1 := Lib.hid hl1
      clear hmv hl1
      by_cases hmo : okMove l.length to a t.size = true
      · have hto : rngB l.length to t.size = true := by unfold okMove at hmo; simp only [Bool.and_eq_true] at hmo; exact hmo.1
        obtain ⟨q0, q1, q2, q3⟩ := (rngB_iff _ _ _).1 hto
        obtain ⟨q, rfl⟩ := Int.eq_ofNat_of_zero_le q0
        obtain ⟨l2, hl2⟩ : ∃ l2, l2 = moveL l1 q a t.size := ⟨_, rfl⟩
        have hl2n : l2.length = l.length := by rw [hl2, moveL_length, hl1n]
        have hset2 : l2 = setL l1 q t.data.toList := by
          rw [hl2]
          unfold moveL
          rw [hl1n, if_pos hmo, Int.toNat_natCast, Int.toNat_natCast, Int.toNat_natCast, hgl]
        have e4 : errI (okMove l.length q a t.size) = 0 := by rw [hmo]; rfl
        have e5 : errI (rngB l.length q t.size) = 0 := by rw [hto]; rfl
        have e6 : getS l2 q t.size = t := by
          unfold getS
          have := getL_setL l1 q t.data.toList (by rw [htl]; omega)
          rw [htl] at this
          rw [hl2n, hto, if_pos rfl, Int.toNat_natCast, Int.toNat_natCast, hset2, this, txt_data]
        have HH2 := Lib.hid hl2
        clear hl2 hset hset2 hgl hok hmo hto htl htx
        go_enter Try.func13, Try.ntmps13
        go_wp2_with fail
        go_quiet (fail)
        have hbl := h0 nq
        clear h0
        generalize ((w.alloc (.cells #[.string s, .string t, .int .i64 (a : Int), .int .i64 (q : Int)] 69)).drewN nq) = W at hbl ⊢
        go_wp2_with (first
          | (go_at_call 38; with_reducible refine (ofArea_any _ w s hbl (by omega) l HL.out).mono ?_; rintro e w' ⟨p, B, c, pad, rfl, ho, hp1, hp2⟩; clear hp1 hp2)
          | (go_at_call 43; with_reducible refine (putText_any ho a t (by omega) (by omega) (by omega)).mono ?_; rintro e w' ⟨rfl, ho1⟩; rw [← HH1.out] at ho1)
          | (go_at_call 47; with_reducible refine (move_any ho1 a a t.size (by omega) (by omega) (by omega) (by omega) (by omega) (by omega)).mono ?_; rintro e w' ⟨rfl, ho2⟩; rw [HMV.out] at ho2)
          | (go_at_call 47; with_reducible refine (move_any ho2 q a t.size (by omega) (by omega) (by omega) (by omega) (by omega) (by omega)).mono ?_; rintro e w' ⟨rfl, ho3⟩; rw [← HH2.out] at ho3)
          | (go_at_call 45; with_reducible refine (getText_any ho3 q t.size (by omega) (by omega) (by omega) (by omega)).mono ?_; rintro e w' ⟨rfl, rfl⟩)
          | (go_at_call 45; with_reducible refine (getText_any ho2 a t.size (by omega) (by omega) (by omega) (by omega)).mono ?_; rintro e w' ⟨rfl, rfl⟩)
          | (go_at_call 45; with_reducible refine (getText_any ho1 a t.size (by omega) (by omega) (by omega) (by omega)).mono ?_; rintro e w' ⟨rfl, rfl⟩)
          | (go_at_call 35; with_reducible refine (frm (live1_any _) ho3.bel).mono ?_; rintro e w' ⟨rfl, hb⟩))
        go_ret
        exact ⟨rfl, hb⟩
      · rw [Bool.not_eq_true] at hmo
        have e4 : errI (okMove l.length to a t.size) = 1 := by rw [hmo]; rfl
        clear hset hgl hok hmo htl htx
        go_enter Try.func13, Try.ntmps13
        go_wp2_with fail
        go_quiet (fail)
        have hbl := h0 nq
        clear h0
        generalize ((w.alloc (.cells #[.string s, .string t, .int .i64 (a : Int), .int .i64 to] 69)).drewN nq) = W at hbl ⊢
        go_wp2_with (first
          | (go_at_call 38; with_reducible refine (ofArea_any _ w s hbl (by omega) l HL.out).mono ?_; rintro e w' ⟨p, B, c, pad, rfl, ho, hp1, hp2⟩; clear hp1 hp2)
          | (go_at_call 43; with_reducible refine (putText_any ho a t (by omega) (by omega) (by omega)).mono ?_; rintro e w' ⟨rfl, ho1⟩; rw [← HH1.out] at ho1)
          | (go_at_call 47; with_reducible refine (move_any ho1 a a t.size (by omega) (by omega) (by omega) (by omega) (by omega) (by omega)).mono ?_; rintro e w' ⟨rfl, ho2⟩; rw [HMV.out] at ho2)
          | (go_at_call 47; with_reducible refine (move_any ho2 to a t.size (by omega) (by omega) (by omega) (by omega) (by omega) (by omega)).mono ?_; rintro e w' ⟨rfl, ho3⟩)
          | (go_at_call 45; with_reducible refine (getText_any ho2 a t.size (by omega) (by omega) (by omega) (by omega)).mono ?_; rintro e w' ⟨rfl, rfl⟩)
          | (go_at_call 45; with_reducible refine (getText_any ho1 a t.size (by omega) (by omega) (by omega) (by omega)).mono ?_; rintro e w' ⟨rfl, rfl⟩)
          | (go_at_call 35; with_reducible refine (frm (live1_any _) ho3.bel).mono ?_; rintro e w' ⟨rfl, hb⟩))
        go_ret
        exact ⟨rfl, hb⟩
    · rw [Bool.not_eq_true] at hok
      have e1 : errI (rngB l.length at' t.size) = 1 := by rw [hok]; rfl
      have hpl : putS l at' t = l := by unfold putS; rw [hok]; rfl
      have hbad : at' < 0 ∨ (0 ≤ at' ∧ (s.size : Int) < at') ∨ (0 ≤ at' ∧ at' ≤ (s.size : Int) ∧ (s.size : Int) - at' < t.size) := by
        have hn : ¬ Rng l.length at' t.size := fun x => by rw [(rngB_iff _ _ _).2 x] at hok; cases hok
        unfold Rng at hn
        have := HLL.out
        omega
      have HPL := Lib.hid hpl
      clear hpl hok htl
      rcases hbad with g1 | ⟨g1, g2⟩ | ⟨g1, g2, g3⟩
      all_goals
        go_enter Try.func13, Try.ntmps13
        go_wp2_with fail
        go_quiet (fail)
        have hbl := h0 nq
        clear h0
        generalize ((w.alloc (.cells #[.string s, .string t, .int .i64 at', .int .i64 to] 69)).drewN nq) = W at hbl ⊢
        go_wp2_with (first
          | (go_at_call 38; with_reducible refine (ofArea_any _ w s hbl (by omega) l HL.out).mono ?_; rintro e w' ⟨p, B, c, pad, rfl, ho, hp1, hp2⟩; clear hp1 hp2)
          | (go_at_call 43; with_reducible refine (putText_any ho at' t (by omega) (by omega) (by omega)).mono ?_; rintro e w' ⟨rfl, ho1⟩; rw [HPL.out] at ho1)
          | (go_at_call 39; with_reducible refine (bytes_any ho1).mono ?_; rintro e w' ⟨rfl, rfl⟩)
          | (go_at_call 35; with_reducible refine (frm (live1_any _) ho1.bel).mono ?_; rintro e w' ⟨rfl, hb⟩))
        go_ret
        exact ⟨rfl, hb⟩
  all_goals
    go_enter Try.func13, Try.ntmps13
    go_wp2_with fail
    go_quiet (fail)
    have hbl := h0 nq
    clear h0
    generalize ((w.alloc (.cells #[.string s, .string t, .int .i64 at', .int .i64 to] 69)).drewN nq) = W at hbl ⊢
    go_wp2_with (go_at_call 35; with_reducible refine (frm (live1_any _) hbl).mono ?_; rintro e w' ⟨rfl, hb⟩)
    go_ret
    exact ⟨rfl, hb⟩
end Go.Proofs.Ytmibbklafogbkaa
