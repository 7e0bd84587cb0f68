/- The walk of the law FieldBack. -/
import Derived.Test.YtmibbklafogbkaaD2
import Derived.Deep.QuietTactic
import Derived.BigQuiet
import Derived.StillTailTactics
namespace Go.Proofs.Ytmibbklafogbkaa
open Go.RowKit
open Fld
theorem extract_txt (l : List UInt8) (i j : Nat) : (txt l).extract i j = txt ((l.take j).drop i) := by
  apply ByteArray.ext
  unfold txt
  simp [List.drop_take]
set_option maxRecDepth 100000 in
set_option maxHeartbeats 1000000 in
theorem fback_walk (s : ByteArray) (at' width n : Int) (w : World) (hs : s.size ≤ maxLen) (wa : (Lit.int .i64 at').wf = true) (ww : (Lit.int .i64 width).wf = true) (wn : (Lit.int .u32 n).wf = true) :
    Calls Try.prog 10 #[.agg #[.string s, .int .i64 at', .int .i64 width, .int .u32 n]] w fun e w' => e = .returned (.bool true) ∧ Below w.heap.size w w' := by
  obtain ⟨a0, a1⟩ := bounds_i64 wa
  obtain ⟨d0, d1⟩ := bounds_i64 ww
  obtain ⟨n0, n1⟩ := bounds_u32 wn
  unfold maxLen at hs
  clear wa ww wn
  have h0 : ∀ k, Below w.heap.size w ((w.alloc (.cells #[.string s, .int .i64 at', .int .i64 width, .int .u32 n] 49)).drewN k) := fun k => (((Below.refl _ _).alloc (Nat.le_refl _) _).trans ⟨rfl, rfl, rfl, Nat.le_refl _, fun _ _ => rfl⟩)
  by_cases hsz : s.size ≤ 4096
  · obtain ⟨l, hl⟩ : ∃ l : List UInt8, l = s.data.toList := ⟨_, rfl⟩
    have hll : (l.length : Int) = s.size := by rw [hl, Array.length_toList]; rfl
    have htx : txt l = s := by rw [hl, txt_data]
    have HLL := Lib.hid hll
    have HL := Lib.hid hl
    clear hl hll
    by_cases hok : okPut l.length at' width n = true
    · obtain ⟨hw, ⟨r0, r1, r2, r3⟩, hn⟩ := (okPut_iff _ _ _ _).1 hok
      obtain ⟨a, rfl⟩ := Int.eq_ofNat_of_zero_le r0
      obtain ⟨d, rfl⟩ := Int.eq_ofNat_of_zero_le r1
      obtain ⟨N, rfl⟩ := Int.eq_ofNat_of_zero_le n0
      have e1 : errI (okPut l.length a d N) = 0 := by rw [hok]; rfl
      have e2 : errI (okGet l.length a d) = 0 := by rw [(okGet_iff _ _ _).2 ⟨hw, r0, r1, r2, r3⟩]; rfl
      have hal : a + d ≤ l.length := by omega
      obtain ⟨l1, hl1⟩ : ∃ l1, l1 = putL l a d N := ⟨_, rfl⟩
      have hl1n : l1.length = l.length := by rw [hl1]; exact putL_length _ _ _ _
      have hset : l1 = setL l a (be d N) := by rw [hl1]; unfold putL; rw [if_pos hok]; rfl
      have hnd : N < 256 ^ d := by rw [Int.toNat_natCast] at hn; exact_mod_cast hn
      have g1 : getN l1 a d = N := by
        unfold getN
        rw [hl1n, (okGet_iff _ _ _).2 ⟨hw, r0, r1, r2, r3⟩, if_pos rfl, hset, Int.toNat_natCast, Int.toNat_natCast]
        have := getL_setL l a (be d N) (by rw [be_length]; exact hal)
        rw [be_length] at this
        rw [this, num_be d N hnd]
      obtain ⟨t, ht⟩ : ∃ t, t = txt l1 := ⟨_, rfl⟩
      have hts : t.size = s.size := by rw [ht, txt_size, hl1n]; have := HLL.out; omega
      have hsn : s.size = l.length := by have := HLL.out; omega
      have hx1 : t.extract 0 a = s.extract 0 a := by
        rw [ht, ← htx, extract_txt, extract_txt, hset]
        unfold setL
        rw [List.take_append_of_le_length (by rw [List.length_take]; omega), List.take_take, Nat.min_self]
      have hx2 : t.extract (a + d) s.size = s.extract (a + d) s.size := by
        rw [hsn, ht, ← htx, extract_txt, extract_txt, List.take_of_length_le (by rw [hl1n]; omega), List.take_of_length_le (by omega), hset]
        congr 1
        unfold setL
        have h1 : (l.take a).length = a := by rw [List.length_take]; omega
        rw [← List.append_assoc, List.drop_append, List.length_append, h1, be_length, List.drop_eq_nil_of_le (by rw [List.length_append, h1, be_length]; omega), List.nil_append, Nat.sub_self, List.drop_zero]
      clear hsn
      have HX1 := Lib.hid hx1
      have HX2 := Lib.hid hx2
      clear hx1 hx2
      have HH1 := Lib.hid hl1
      have HS := Lib.hid hset
      have HT := Lib.hid ht
      clear hl1 hset hn hnd hok ht hw
      have x1 : a ≤ s.size := by have := HLL.out; omega
      have x2 : a + d ≤ s.size := by have := HLL.out; omega
      go_enter Try.func10, Try.ntmps10
      go_wp2_with fail
      go_quiet (fail)
      have hbl := h0 nq
      clear h0
      generalize ((w.alloc (.cells #[.string s, .int .i64 (a : Int), .int .i64 (d : Int), .int .u32 (N : Int)] 49)).drewN nq) = W at hbl ⊢
      go_wp2_with (first
        | (go_at_call 38; with_reducible refine (ofArea_any _ w s hbl hsz l HL.out).mono ?_; rintro e w' ⟨p, B, c, pad, rfl, ho, hp1, hp2⟩; clear hp1 hp2)
        | (go_at_call 36; with_reducible refine (put_any ho a d N (by omega) (by omega) (by omega) (by omega) (by omega) (by omega)).mono ?_; rintro e w' ⟨rfl, ho1⟩; rw [← HH1.out] at ho1)
        | (go_at_call 37; with_reducible refine (get_any ho1 _ _ (by omega) (by omega) (by omega) (by omega)).mono ?_; rintro e w' ⟨rfl, rfl⟩)
        | (go_at_call 39; with_reducible refine (bytes_any ho1).mono ?_; rintro e w' ⟨rfl, rfl⟩; rw [← HT.out])
        | (go_at_call 35; with_reducible refine (frm (live1_any _) ho2.bel).mono ?_; rintro e w' ⟨rfl, hb⟩))
      have hx1 := HX1.out
      have hx2 := HX2.out
      have k1 : IntKind.i64.wrap ((a : Int) + (d : Int)) = (a : Int) + (d : Int) := IntWalk.i64_in _ (by omega)
      have k2 : (0 : Int) ≤ (a : Int) + (d : Int) := by omega
      have k3 : ((a : Int) + (d : Int)).toNat = a + d := by omega
      have k4 : (a : Int) + (d : Int) ≤ (s.size : Int) := by omega
      go_still_tail 21, (by kernel_rfl)
      change wpList _ _ _ _ _ w'.drew
      have hb2 : Below w.heap.size w w'.drew := ho1.bel.drew
      generalize w'.drew = w2 at hb2 ⊢
      go_wp2_with (go_at_call 35; with_reducible refine (frm (live1_any _) hb2).mono ?_; rintro e w' ⟨rfl, hb⟩)
      go_ret
      exact ⟨rfl, hb⟩
    · rw [Bool.not_eq_true] at hok
      have e1 : errI (okPut l.length at' width n) = 1 := by rw [hok]; rfl
      have hpl : putL l at' width n = l := by unfold putL; rw [hok]; rfl
      have HPL := Lib.hid hpl
      clear hpl hok
      go_enter Try.func10, Try.ntmps10
      go_wp2_with fail
      go_quiet (fail)
      have hbl := h0 nq
      clear h0
      generalize ((w.alloc (.cells #[.string s, .int .i64 at', .int .i64 width, .int .u32 n] 49)).drewN nq) = W at hbl ⊢
      go_wp2_with (first
        | (go_at_call 38; with_reducible refine (ofArea_any _ w s hbl hsz l HL.out).mono ?_; rintro e w' ⟨p, B, c, pad, rfl, ho, hp1, hp2⟩; clear hp1 hp2)
        | (go_at_call 36; with_reducible refine (put_any ho at' width n (by omega) (by omega) (by omega) (by omega) (by omega) (by omega)).mono ?_; rintro e w' ⟨rfl, ho1⟩; rw [HPL.out] at ho1)
        | (go_at_call 39; with_reducible refine (bytes_any ho1).mono ?_; rintro e w' ⟨rfl, rfl⟩)
        | (go_at_call 35; with_reducible refine (frm (live1_any _) ho1.bel).mono ?_; rintro e w' ⟨rfl, hb⟩))
      go_ret
      exact ⟨rfl, hb⟩
  · have hbig : 4096 < s.size := by omega
    clear hsz
    go_enter Try.func10, Try.ntmps10
    go_wp2_with fail
    go_quiet (fail)
    have hbl := h0 nq
    clear h0
    generalize ((w.alloc (.cells #[.string s, .int .i64 at', .int .i64 width, .int .u32 n] 49)).drewN nq) = W at hbl ⊢
    go_wp2_with (go_at_call 35; with_reducible refine (frm (live1_any _) hbl).mono ?_; rintro e w' ⟨rfl, hb⟩)
    go_ret
    exact ⟨rfl, hb⟩
end Go.Proofs.Ytmibbklafogbkaa
