/- The walks of the reference of layer 1 (cadastreref01): an area made, its ranges, numbers put and got. -/
import Derived.Test.YtmibbklafogbkaaD
import Derived.RegionTactic
import Derived.BigRegion
namespace Go.Proofs.Ytmibbklafogbkaa
open Go.RowKit
open Fld
/-- An area of the reference. -/
structure RefAt (w : World) (p B c : Nat) (l pad : List UInt8) : Prop where
  head : w.heap[p]? = some (.cells #[.slice (some ⟨B, 0, none⟩) l.length c] 64 (0, 0))
  row : Blk w B 5 (bytesOf (l ++ pad))
  cap : l.length + pad.length = c
  small : l.length ≤ 4096
theorem RefAt.cell {w : World} {p B c : Nat} {l pad : List UInt8} (h : RefAt w p B c l pad) : w.cell? ⟨p, 0, none⟩ = some (.slice (some ⟨B, 0, none⟩) l.length c) := by
  rw [cell_of_row _ _ _ _ _ _ h.head]; rfl
theorem RefAt.ne {w : World} {p B c : Nat} {l pad : List UInt8} (h : RefAt w p B c l pad) : p ≠ B := by
  rintro rfl
  obtain ⟨fr, hr, _⟩ := h.row
  have := h.head
  rw [hr] at this
  simp at this
theorem RefAt.put {w W : World} {p B c : Nat} {l pad : List UInt8} (h : RefAt w p B c l pad) {o : Nat} {bs : List UInt8} (hB : Blk W B 5 (bytesOf (setL l o bs ++ pad))) (hg : w.grownBy W (some B)) (hl : o + bs.length ≤ l.length) :
    RefAt W p B c (setL l o bs) pad := by
  have hz := setL_length l o bs hl
  refine ⟨?_, hB, by rw [hz]; exact h.cap, by rw [hz]; exact h.small⟩
  rw [hz, hg.block p (Array.getElem?_eq_some_iff.1 h.head).1 (fun e => h.ne (Option.some.inj e))]
  exact h.head
theorem RefAt.keep {w W : World} {p B c : Nat} {l pad : List UInt8} (h : RefAt w p B c l pad) (e1 : W.heap[p]? = w.heap[p]?) (e2 : W.heap[B]? = w.heap[B]?) : RefAt W p B c l pad :=
  ⟨by rw [e1]; exact h.head, h.row.keep e2, h.cap, h.small⟩
theorem RefAt.lt {w : World} {p B c : Nat} {l pad : List UInt8} (h : RefAt w p B c l pad) : p < w.heap.size ∧ B < w.heap.size := ⟨(Array.getElem?_eq_some_iff.1 h.head).1, h.row.lt⟩
def RNewPost (w : World) (l : List UInt8) (e : Ending) (w' : World) : Prop :=
  ∃ p B c pad, e = .returned (.tuple #[.pointer (some ⟨p, 0, none⟩), .int .i64 0]) ∧ RefAt w' p B c l pad ∧ Below w.heap.size w w' ∧ w.heap.size ≤ p ∧ w.heap.size ≤ B ∧ p ≠ B
set_option maxRecDepth 100000 in
set_option maxHeartbeats 1000000 in
theorem rnew_ok (size : Int) (w : World) (h0 : 0 ≤ size) (h1 : size ≤ 4096) :
    Calls Try.prog 40 #[.int .i64 size] w (RNewPost w (List.replicate size.toNat 0)) := by
  obtain ⟨n, rfl⟩ := Int.eq_ofNat_of_zero_le h0
  obtain ⟨i0, hi0, hz0, hz1, hz2⟩ := info_parts info5
  go_enter Try.func40, Try.ntmps40
  go_wp2_with (refine wpList_makeBytes (by first | rfl | go_simp) 30 5 _ _ rfl n rfl rfl Try.underlying30 i0 hi0 hz0 hz1 hz2 (by omega) ?_; intro W5 hW5 hg5 hz5; have HW5 := Lib.hid hW5; have HZ5 := Lib.hid hz5; clear hW5 hz5)
  go_ret2
  refine ⟨_, _, n, [], rfl, ⟨?_, ?_, by simp, by simp; omega⟩, ?_, ?_, Nat.le_refl _, ?_⟩
  · rw [heap_alloc_new]; simp
  · rw [List.append_nil]; exact (Blk.of HW5.out).alloc _
  · exact ((Below.refl _ _).grown hg5 (Nat.le_refl _) (by simp)).alloc hg5.size _
  · exact hg5.size
  · have := HZ5.out; omega
set_option maxRecDepth 100000 in
set_option maxHeartbeats 1000000 in
theorem rnew_bad (size : Int) (w : World) (h : size < 0 ∨ 4096 < size) :
    Calls Try.prog 40 #[.int .i64 size] w fun e w' => e = .returned (.tuple #[.pointer none, .int .i64 1]) ∧ w = w' := by
  rcases (show size < 0 ∨ (0 ≤ size ∧ 4096 < size) by omega) with h | ⟨h1, h2⟩
  all_goals
    go_enter Try.func40, Try.ntmps40
    go_wp2
    go_ret2
    exact ⟨rfl, rfl⟩
def mostI (w : Int) : Int := if w = 1 then 255 else if w = 2 then 65535 else if w = 4 then 4294967295 else 0
theorem mostI_pow (w : Nat) (h : Wid w) : mostI w + 1 = ((256 ^ w : Nat) : Int) := by
  unfold Wid at h
  rcases (show w = 1 ∨ w = 2 ∨ w = 4 by omega) with rfl | rfl | rfl <;> rfl
theorem mostI_zero (w : Int) (h : ¬ Wid w) : mostI w = 0 := by
  unfold mostI
  unfold Wid at h
  rw [if_neg (by omega), if_neg (by omega), if_neg (by omega)]
set_option maxRecDepth 100000 in
theorem most_any (width : Int) (w : World) : Calls Try.prog 75 #[.int .i64 width] w fun e w' => e = .returned (.int .u32 (mostI width)) ∧ w = w' := by
  by_cases h1 : width = 1
  · subst h1
    go_enter Try.func75, Try.ntmps75
    go_wp2
    go_ret
    exact ⟨rfl, rfl⟩
  · by_cases h2 : width = 2
    · subst h2
      go_enter Try.func75, Try.ntmps75
      go_wp2
      go_ret
      exact ⟨rfl, rfl⟩
    · by_cases h4 : width = 4
      · subst h4
        go_enter Try.func75, Try.ntmps75
        go_wp2
        go_ret
        exact ⟨rfl, rfl⟩
      · have b1 : (width == 1) = false := by rw [beq_eq_false_iff_ne]; exact h1
        have b2 : (width == 2) = false := by rw [beq_eq_false_iff_ne]; exact h2
        have b4 : (width == 4) = false := by rw [beq_eq_false_iff_ne]; exact h4
        have hm : mostI width = 0 := by unfold mostI; rw [if_neg h1, if_neg h2, if_neg h4]
        have HM := Lib.hid hm
        clear hm h1 h2 h4
        go_enter Try.func75, Try.ntmps75
        go_wp2
        go_ret
        exact ⟨ret_int HM.out.symm, rfl⟩
set_option maxRecDepth 100000 in
set_option maxHeartbeats 1000000 in
theorem is_any (p B c : Nat) (l pad : List UInt8) (at' size : Int) (w : World) (h : RefAt w p B c l pad) (ha : -9223372036854775808 ≤ at') (ha' : at' ≤ 9223372036854775807) (hs : -9223372036854775808 ≤ size) (hs' : size ≤ 9223372036854775807) :
    Calls Try.prog 76 #[.pointer (some ⟨p, 0, none⟩), .int .i64 at', .int .i64 size] w fun e w' => e = .returned (.bool (rngB l.length at' size)) ∧ w = w' := by
  have hc := h.cell
  have hs2 := h.small
  clear h
  rcases (show at' < 0 ∨ (0 ≤ at' ∧ size < 0) ∨ (0 ≤ at' ∧ 0 ≤ size ∧ (l.length : Int) < at') ∨ (0 ≤ at' ∧ 0 ≤ size ∧ at' ≤ l.length ∧ (l.length : Int) - at' < size) ∨ (0 ≤ at' ∧ 0 ≤ size ∧ at' ≤ l.length ∧ size ≤ (l.length : Int) - at') by omega) with h | ⟨h1, h2⟩ | ⟨h1, h2, h3⟩ | ⟨h1, h2, h3, h4⟩ | ⟨h1, h2, h3, h4⟩
  case inr.inr.inr.inr =>
    have hb : rngB l.length at' size = true := (rngB_iff _ _ _).2 ⟨h1, h2, h3, h4⟩
    rw [hb]
    clear hb
    go_enter Try.func76, Try.ntmps76
    go_wp2
    go_ret
    exact ⟨rfl, rfl⟩
  all_goals
    have hb : rngB l.length at' size = false := by
      rw [← Bool.not_eq_true, rngB_iff]
      unfold Rng
      omega
    rw [hb]
    clear hb
    try have hd : decide (size ≤ (l.length : Int) - at') = false := decide_eq_false (by omega)
    go_enter Try.func76, Try.ntmps76
    go_wp2
    go_ret
    exact ⟨rfl, rfl⟩
set_option maxRecDepth 100000 in
set_option maxHeartbeats 1000000 in
theorem rput_ok (p B c : Nat) (l pad : List UInt8) (at' width n : Int) (w : World) (h : RefAt w p B c l pad) (hw : Wid width) (hr : Rng l.length at' width) (h0 : 0 ≤ n) (hn : n < 256 ^ width.toNat) :
    Calls Try.prog 41 #[.pointer (some ⟨p, 0, none⟩), .int .i64 at', .int .i64 width, .int .u32 n] w fun e w' => e = .returned (.int .i64 0) ∧ RefAt w' p B c (setL l at'.toNat (be width.toNat n.toNat)) pad ∧ w.grownBy w' (some B) := by
  have hrb := (rngB_iff _ _ _).2 hr
  obtain ⟨r0, r1, r2, r3⟩ := hr
  obtain ⟨q, rfl⟩ := Int.eq_ofNat_of_zero_le r0
  obtain ⟨N, rfl⟩ := Int.eq_ofNat_of_zero_le h0
  obtain ⟨W, rfl⟩ := Int.eq_ofNat_of_zero_le r1
  have hW : 1 ≤ W ∧ W ≤ 4 := by unfold Wid at hw; omega
  simp only [Int.toNat_natCast] at hn
  have hn : N < 256 ^ W := by exact_mod_cast hn
  have hN : N < 4294967296 := Nat.lt_of_lt_of_le hn (Nat.pow_le_pow_right (n := 256) (by omega) hW.2)
  have hmp := mostI_pow W hw
  have hm0 : (mostI W == 0) = false := by
    rw [beq_eq_false_iff_ne]
    have : 256 ^ 1 ≤ 256 ^ W := Nat.pow_le_pow_right (by omega) hW.1
    omega
  have hm1 : decide (mostI W < (N : Int)) = false := decide_eq_false (by omega)
  have HN := Lib.hid hn
  clear hn hmp
  have hq : q + W ≤ l.length := by omega
  have hne := h.ne
  have hlt := h.lt
  have HR := h.row
  have hss := h.small
  go_enter Try.func41, Try.ntmps41
  go_wp2_with (first
    | (go_at_call 75; refine (most_any _ _).mono ?_; rintro e w' ⟨rfl, rfl⟩)
    | (go_at_call 76; refine (is_any p B c l pad _ _ _ h (by omega) (by omega) (by omega) (by omega)).mono ?_; rintro e w' ⟨rfl, rfl⟩))
  clear hm0 hm1 hrb
  go_loopw [3, 9] (fun t i wr => ∃ m k : Nat, m + k = W ∧ i = .int .i64 ((m : Int) - 1) ∧ t = .int .u32 ((N / 256 ^ k : Nat) : Int) ∧ Blk wr B 5 (bytesOf (setL l (q + m) ((be W N).drop m) ++ pad)) ∧ w.grownBy wr (some B)) (fun _ i _ => (intOf i + 1).toNat)
  case atStart => exact ⟨W, 0, by omega, rfl, by simp, by rw [List.drop_of_length_le (by rw [be_length]; omega), setL_nil]; exact HR, World.grownBy.refl _ _⟩
  case round =>
    obtain ⟨m, k, hmk, rfl, rfl, HB, hg⟩ := hrel
    obtain ⟨x, hx⟩ : ∃ x, x = N / 256 ^ k := ⟨_, rfl⟩
    have hxl : x < 4294967296 := by rw [hx]; exact Nat.lt_of_le_of_lt (Nat.div_le_self _ _) hN
    have hx2 : x / 256 = N / 256 ^ (k + 1) := by rw [hx, Nat.div_div_eq_div_mul, ← Nat.pow_succ]
    rw [← hx]
    by_cases hm0 : 0 < m
    · obtain ⟨j, rfl⟩ : ∃ j, m = j + 1 := ⟨m - 1, by omega⟩
      rw [show (((j + 1 : Nat) : Int) - 1) = (j : Int) by omega]
      have hd : decide (0 ≤ (j : Int)) = true := decide_eq_true (by omega)
      have hdl : ((be W N).drop (j + 1)).length = k := by rw [List.length_drop, be_length]; omega
      have hlen : (setL l (q + (j + 1)) ((be W N).drop (j + 1))).length = l.length := setL_length _ _ _ (by omega)
      obtain ⟨z, hz⟩ : ∃ z, (setL l (q + (j + 1)) ((be W N).drop (j + 1)) ++ pad)[q + j]? = some z := ⟨_, List.getElem?_eq_getElem (by rw [List.length_append]; omega)⟩
      have hcell : wr.cell? ⟨B, q + j, none⟩ = some (.int .u8 (z.toNat : Int)) := by
        obtain ⟨h1, h2⟩ := List.getElem?_eq_some_iff.1 hz
        rw [HB.cell, bytesOf_get _ _ h1, h2]
      have hfro : wr.frozen? ⟨B, q + j, none⟩ = false := HB.frozen (by rw [bytesOf_size, List.length_append]; omega)
      have hc : wr.cell? ⟨p, 0, none⟩ = some (.slice (some ⟨B, 0, none⟩) l.length c) := (hg.cell h.cell (fun e => hne (Option.some.inj e)))
      have hbg : (be W N)[j]? = some (UInt8.ofNat x) := by rw [be_get W N j (by omega), show W - 1 - j = k by omega, hx]
      have hst : (setL l (q + (j + 1)) ((be W N).drop (j + 1)) ++ pad).set (q + j) (UInt8.ofNat x) = setL l (q + j) ((be W N).drop j) ++ pad := by
        rw [List.set_append_left _ _ (by omega)]
        have h1 := setL_pre l (q + j) (UInt8.ofNat x) ((be W N).drop (j + 1)) (by omega)
        obtain ⟨h2, h3⟩ := List.getElem?_eq_some_iff.1 hbg
        rw [List.drop_eq_getElem_cons h2, h3, ← h1]
        rfl
      have hby : ((x : Int) % 256) = (((UInt8.ofNat x).toNat : Nat) : Int) := by rw [UInt8.toNat_ofNat']; omega
      have HX2 := Lib.hid hx2
      have HS := Lib.hid hst
      have HBY := Lib.hid hby
      clear hx2 hst hby hbg hz hx hlen hdl
      go_wp2
      go_roundw
      case rel => exact ⟨j, k + 1, by omega, rfl, by rw [← HX2.out]; rfl, by
        have := HB.store (q + j) (.int .u8 (((UInt8.ofNat x).toNat : Nat) : Int))
        rw [bytesOf_set, HS.out] at this
        rw [HBY.out]
        exact this, ⟨hg.os, hg.tape, hg.output, by simpa [World.setCell] using hg.size, fun j hj hne => (Below.heap_setCell _ _ _ _ (fun e => hne (by rw [e]))).trans (hg.block j hj hne)⟩⟩
      case measure => simp [intOf]
    · obtain rfl : m = 0 := by omega
      have HF : RefAt wr p B c (setL l q (be W N)) pad := by
        rw [List.drop_zero, Nat.add_zero] at HB
        exact h.put HB hg (by rw [be_length]; exact hq)
      clear hx2 hx
      go_wp2
      go_ret
      exact ⟨rfl, HF, hg⟩
theorem mostI_bd (w : Int) : 0 ≤ mostI w ∧ mostI w ≤ 4294967295 := by
  unfold mostI
  split
  · omega
  · split
    · omega
    · split <;> omega
set_option maxRecDepth 100000 in
set_option maxHeartbeats 1000000 in
theorem rput_bad (p B c : Nat) (l pad : List UInt8) (at' width n : Int) (w : World) (h : RefAt w p B c l pad) (ha : -9223372036854775808 ≤ at') (ha' : at' ≤ 9223372036854775807) (hs : -9223372036854775808 ≤ width) (hs' : width ≤ 9223372036854775807)
    (hr : ¬ (Wid width ∧ Rng l.length at' width ∧ n < 256 ^ width.toNat)) :
    Calls Try.prog 41 #[.pointer (some ⟨p, 0, none⟩), .int .i64 at', .int .i64 width, .int .u32 n] w fun e w' => e = .returned (.int .i64 1) ∧ w = w' := by
  by_cases hw : Wid width
  · obtain ⟨W, rfl⟩ := Int.eq_ofNat_of_zero_le (show 0 ≤ width by unfold Wid at hw; omega)
    have hmp := mostI_pow W hw
    have hm0 : (mostI W == 0) = false := by
      rw [beq_eq_false_iff_ne]
      have : 256 ^ 1 ≤ 256 ^ W := Nat.pow_le_pow_right (by omega) (by unfold Wid at hw; omega)
      omega
    by_cases hrg : Rng l.length at' W
    · have hbig : mostI W < n := by
        have : ¬ n < 256 ^ (W : Int).toNat := fun x => hr ⟨hw, hrg, x⟩
        rw [Int.toNat_natCast] at this
        have e : ((256 ^ W : Nat) : Int) = (256 : Int) ^ W := by rw [Int.natCast_pow]; rfl
        omega
      have hrb := (rngB_iff _ _ _).2 hrg
      have hm1 : decide (mostI W < n) = true := decide_eq_true hbig
      clear hmp hr hrg
      go_enter Try.func41, Try.ntmps41
      go_wp2_with (first
        | (go_at_call 75; refine (most_any _ _).mono ?_; rintro e w' ⟨rfl, rfl⟩)
        | (go_at_call 76; refine (is_any p B c l pad _ _ _ h ha ha' hs hs').mono ?_; rintro e w' ⟨rfl, rfl⟩))
      go_ret
      exact ⟨rfl, rfl⟩
    · have hrb : rngB l.length at' W = false := by rw [← Bool.not_eq_true, rngB_iff]; exact hrg
      clear hmp hr hrg
      go_enter Try.func41, Try.ntmps41
      go_wp2_with (first
        | (go_at_call 75; refine (most_any _ _).mono ?_; rintro e w' ⟨rfl, rfl⟩)
        | (go_at_call 76; refine (is_any p B c l pad _ _ _ h ha ha' hs hs').mono ?_; rintro e w' ⟨rfl, rfl⟩))
      go_ret
      exact ⟨rfl, rfl⟩
  · have hm := mostI_zero width hw
    clear hr hw
    go_enter Try.func41, Try.ntmps41
    go_wp2_with (go_at_call 75; refine (most_any _ _).mono ?_; rintro e w' ⟨rfl, rfl⟩)
    go_ret
    exact ⟨rfl, rfl⟩
set_option maxRecDepth 100000 in
set_option maxHeartbeats 1000000 in
theorem rget_ok (p B c : Nat) (l pad : List UInt8) (at' width : Int) (w : World) (h : RefAt w p B c l pad) (hw : Wid width) (hr : Rng l.length at' width) :
    Calls Try.prog 42 #[.pointer (some ⟨p, 0, none⟩), .int .i64 at', .int .i64 width] w fun e w' => e = .returned (.tuple #[.int .u32 (num (getL l at'.toNat width.toNat) : Nat), .int .i64 0]) ∧ w = w' := by
  have hrb := (rngB_iff _ _ _).2 hr
  obtain ⟨r0, r1, r2, r3⟩ := hr
  obtain ⟨q, rfl⟩ := Int.eq_ofNat_of_zero_le r0
  obtain ⟨W, rfl⟩ := Int.eq_ofNat_of_zero_le r1
  have hW : 1 ≤ W ∧ W ≤ 4 := by unfold Wid at hw; omega
  have hmp := mostI_pow W hw
  have hm0 : (mostI W == 0) = false := by
    rw [beq_eq_false_iff_ne]
    have : 256 ^ 1 ≤ 256 ^ W := Nat.pow_le_pow_right (by omega) hW.1
    omega
  clear hmp
  have hq : q + W ≤ l.length := by omega
  have HR := h.row
  have hc := h.cell
  have hss := h.small
  have hgl : (getL l q W).length = W := getL_length l q W hq
  have HG := Lib.hid hgl
  clear hgl
  go_enter Try.func42, Try.ntmps42
  go_wp2_with (first
    | (go_at_call 75; refine (most_any _ _).mono ?_; rintro e w' ⟨rfl, rfl⟩)
    | (go_at_call 76; refine (is_any p B c l pad _ _ _ h (by omega) (by omega) (by omega) (by omega)).mono ?_; rintro e w' ⟨rfl, rfl⟩))
  clear hm0 hrb
  go_loop [8, 9] (fun t i => ∃ k : Nat, k ≤ W ∧ i = .int .i64 k ∧ t = .int .u32 (num ((getL l q W).take k) : Nat)) (fun _ i => W - (intOf i).toNat)
  case atStart => exact ⟨0, by omega, rfl, rfl⟩
  case round =>
    obtain ⟨k, hk, rfl, rfl⟩ := hrel
    by_cases hlk : k < W
    · have hd : decide ((k : Int) < (W : Int)) = true := decide_eq_true (by omega)
      have hgk : k < (getL l q W).length := by rw [HG.out]; exact hlk
      obtain ⟨y, hy⟩ : ∃ y, y = (getL l q W)[k] := ⟨_, rfl⟩
      have hcell : w.cell? ⟨B, q + k, none⟩ = some (.int .u8 (y.toNat : Int)) := by
        have h1 : (l ++ pad)[q + k]? = some y := by
          rw [List.getElem?_append_left (by omega), ← getL_get l q W k hlk, List.getElem?_eq_getElem hgk, hy]
        obtain ⟨h2, h3⟩ := List.getElem?_eq_some_iff.1 h1
        rw [HR.cell, bytesOf_get _ _ h2, h3]
      obtain ⟨x, hx⟩ : ∃ x, x = num ((getL l q W).take k) := ⟨_, rfl⟩
      have hxl : x < 16777216 := by
        have h1 := num_lt ((getL l q W).take k)
        rw [← hx] at h1
        have h2 : 256 ^ ((getL l q W).take k).length ≤ 256 ^ 3 := Nat.pow_le_pow_right (by omega) (by rw [List.length_take]; omega)
        exact Nat.lt_of_lt_of_le h1 h2
      have hnx : num ((getL l q W).take (k + 1)) = x * 256 + y.toNat := by
        rw [List.take_succ_eq_append_getElem hgk, num_snoc, hx, hy]
      have hyl := y.toNat_lt
      rw [← hx]
      have HNX := Lib.hid hnx
      clear hnx hx hy
      go_wp2
      go_round
      case rel => exact ⟨k + 1, by omega, by go_num, by rw [HNX.out]; congr 1; omega⟩
      case measure => simp [intOf]; omega
    · have ek : (getL l q W).take k = getL l q W := List.take_of_length_le (by rw [HG.out]; omega)
      rw [ek]
      clear ek
      go_wp2
      go_ret2
      exact ⟨rfl, rfl⟩
set_option maxRecDepth 100000 in
set_option maxHeartbeats 1000000 in
theorem rget_bad (p B c : Nat) (l pad : List UInt8) (at' width : Int) (w : World) (h : RefAt w p B c l pad) (ha : -9223372036854775808 ≤ at') (ha' : at' ≤ 9223372036854775807) (hs : -9223372036854775808 ≤ width) (hs' : width ≤ 9223372036854775807)
    (hr : ¬ (Wid width ∧ Rng l.length at' width)) :
    Calls Try.prog 42 #[.pointer (some ⟨p, 0, none⟩), .int .i64 at', .int .i64 width] w fun e w' => e = .returned (.tuple #[.int .u32 0, .int .i64 1]) ∧ w = w' := by
  by_cases hw : Wid width
  · obtain ⟨W, rfl⟩ := Int.eq_ofNat_of_zero_le (show 0 ≤ width by unfold Wid at hw; omega)
    have hmp := mostI_pow W hw
    have hm0 : (mostI W == 0) = false := by
      rw [beq_eq_false_iff_ne]
      have : 256 ^ 1 ≤ 256 ^ W := Nat.pow_le_pow_right (by omega) (by unfold Wid at hw; omega)
      omega
    have hrb : rngB l.length at' W = false := by rw [← Bool.not_eq_true, rngB_iff]; exact fun x => hr ⟨hw, x⟩
    clear hmp hr
    go_enter Try.func42, Try.ntmps42
    go_wp2_with (first
      | (go_at_call 75; refine (most_any _ _).mono ?_; rintro e w' ⟨rfl, rfl⟩)
      | (go_at_call 76; refine (is_any p B c l pad _ _ _ h ha ha' hs hs').mono ?_; rintro e w' ⟨rfl, rfl⟩))
    go_ret2
    exact ⟨rfl, rfl⟩
  · have hm := mostI_zero width hw
    clear hr hw
    go_enter Try.func42, Try.ntmps42
    go_wp2_with (go_at_call 75; refine (most_any _ _).mono ?_; rintro e w' ⟨rfl, rfl⟩)
    go_ret2
    exact ⟨rfl, rfl⟩
end Go.Proofs.Ytmibbklafogbkaa
