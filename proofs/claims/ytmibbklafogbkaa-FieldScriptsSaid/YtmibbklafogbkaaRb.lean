/- The walks of the reference of layer 1 (cadastreref01): texts put and got, bytes moved. -/
import Derived.Test.YtmibbklafogbkaaR
import Derived.Test.YtmibbklafogbkaaT
namespace Go.Proofs.Ytmibbklafogbkaa
open Go.RowKit
open Fld
set_option maxRecDepth 100000 in
set_option maxHeartbeats 1000000 in
theorem rputText_ok (p B c : Nat) (l pad : List UInt8) (at' : Int) (s : ByteArray) (w : World) (h : RefAt w p B c l pad) (hr : Rng l.length at' s.size) :
    Calls Try.prog 44 #[.pointer (some ⟨p, 0, none⟩), .int .i64 at', .string s] w fun e w' => e = .returned (.int .i64 0) ∧ RefAt w' p B c (setL l at'.toNat s.data.toList) pad ∧ w.grownBy w' (some B) := by
  have hrb := (rngB_iff _ _ _).2 hr
  obtain ⟨r0, r1, r2, r3⟩ := hr
  obtain ⟨q, rfl⟩ := Int.eq_ofNat_of_zero_le r0
  have hq : q + s.size ≤ l.length := by omega
  have hsl : s.data.toList.length = s.size := Array.length_toList ..
  have HSL := Lib.hid hsl
  clear hsl
  have hne := h.ne
  have HR := h.row
  have hss := h.small
  have hcap : l.length ≤ c := by have := h.cap; omega
  go_enter Try.func44, Try.ntmps44
  go_wp2_with (go_at_call 76; refine (is_any p B c l pad _ _ _ h (by omega) (by omega) (by omega) (by omega)).mono ?_; rintro e w' ⟨rfl, rfl⟩)
  clear hrb
  go_loopw [7] (fun i wr => ∃ k : Nat, k ≤ s.size ∧ i = .int .i64 k ∧ Blk wr B 5 (bytesOf (setL l q (s.data.toList.take k) ++ pad)) ∧ w.grownBy wr (some B)) (fun i _ => s.size - (intOf i).toNat)
  case atStart => exact ⟨0, by omega, rfl, by rw [List.take_zero, setL_nil]; exact HR, World.grownBy.refl _ _⟩
  case round =>
    obtain ⟨k, hk, rfl, HB, hg⟩ := hrel
    by_cases hlk : k < s.size
    · have hd : decide ((k : Int) < (s.size : Int)) = true := decide_eq_true (by omega)
      have htl : (s.data.toList.take k).length = k := by rw [List.length_take, HSL.out]; omega
      have hlen : (setL l q (s.data.toList.take k)).length = l.length := setL_length _ _ _ (by omega)
      obtain ⟨x, hx⟩ : ∃ x, (setL l q (s.data.toList.take k) ++ pad)[q + k]? = some x := ⟨_, List.getElem?_eq_getElem (by rw [List.length_append]; omega)⟩
      have hcell : wr.cell? ⟨B, q + k, none⟩ = some (.int .u8 (x.toNat : Int)) := by
        obtain ⟨h1, h2⟩ := List.getElem?_eq_some_iff.1 hx
        rw [HB.cell, bytesOf_get _ _ h1, h2]
      have hfro : wr.frozen? ⟨B, q + k, none⟩ = false := HB.frozen (by rw [bytesOf_size, List.length_append]; omega)
      have hc : wr.cell? ⟨p, 0, none⟩ = some (.slice (some ⟨B, 0, none⟩) l.length c) := (hg.cell h.cell (fun e => hne (Option.some.inj e)))
      have hst : (setL l q (s.data.toList.take k) ++ pad).set (q + k) s.data[k] = setL l q (s.data.toList.take (k + 1)) ++ pad := by
        rw [List.set_append_left _ _ (by omega)]
        have := setL_snoc l q s.data[k] (s.data.toList.take k) (by omega)
        rw [htl] at this
        rw [this, take_next s k hlk]
      have k1 : IntKind.i64.wrap ((q : Int) + (k : Int)) = (q : Int) + (k : Int) := IntWalk.i64_in _ (by omega)
      have k2 : (0 : Int) ≤ (q : Int) + (k : Int) := by omega
      have k3 : ((q : Int) + (k : Int)).toNat = q + k := by omega
      have k4 : (q : Int) + (k : Int) < (l.length : Int) := by omega
      have HS := Lib.hid hst
      clear hst hx hlen htl
      go_wp2
      go_region
      go_wp2
      go_roundw
      case rel => exact ⟨k + 1, by omega, by go_num, by
        have := HB.store (q + k) (.int .u8 (s.data[k].toNat : Int))
        rw [bytesOf_set, HS.out] at this
        exact this.drew, ⟨hg.os, hg.tape, hg.output, by simpa [World.setCell] using hg.size, fun j hj hne => (Below.heap_setCell _ _ _ _ (fun e => hne (by rw [e]))).trans (hg.block j hj hne)⟩⟩
      case measure => simp [intOf]; omega
    · have HF : RefAt wr p B c (setL l q s.data.toList) pad := by
        rw [List.take_of_length_le (by rw [HSL.out]; omega)] at HB
        exact h.put HB hg (by rw [HSL.out]; exact hq)
      go_wp2
      go_ret
      exact ⟨rfl, HF, hg⟩
set_option maxRecDepth 100000 in
set_option maxHeartbeats 1000000 in
theorem rputText_bad (p B c : Nat) (l pad : List UInt8) (at' : Int) (s : ByteArray) (w : World) (h : RefAt w p B c l pad) (ha : -9223372036854775808 ≤ at') (ha' : at' ≤ 9223372036854775807) (hs : s.size ≤ 9223372036854775807) (hr : ¬ Rng l.length at' s.size) :
    Calls Try.prog 44 #[.pointer (some ⟨p, 0, none⟩), .int .i64 at', .string s] w fun e w' => e = .returned (.int .i64 1) ∧ w = w' := by
  have hrb : rngB l.length at' s.size = false := by rw [← Bool.not_eq_true, rngB_iff]; exact hr
  clear hr
  go_enter Try.func44, Try.ntmps44
  go_wp2_with (go_at_call 76; refine (is_any p B c l pad _ _ _ h (by omega) (by omega) (by omega) (by omega)).mono ?_; rintro e w' ⟨rfl, rfl⟩)
  go_ret
  exact ⟨rfl, rfl⟩
set_option maxRecDepth 100000 in
set_option maxHeartbeats 1000000 in
theorem rgetText_ok (p B c : Nat) (l pad : List UInt8) (at' size : Int) (w : World) (h : RefAt w p B c l pad) (hr : Rng l.length at' size) :
    Calls Try.prog 46 #[.pointer (some ⟨p, 0, none⟩), .int .i64 at', .int .i64 size] w fun e w' => e = .returned (.tuple #[.string (txt (getL l at'.toNat size.toNat)), .int .i64 0]) ∧ w = w' := by
  have hrb := (rngB_iff _ _ _).2 hr
  obtain ⟨r0, r1, r2, r3⟩ := hr
  obtain ⟨q, rfl⟩ := Int.eq_ofNat_of_zero_le r0
  obtain ⟨n, rfl⟩ := Int.eq_ofNat_of_zero_le r1
  rw [Int.toNat_natCast, Int.toNat_natCast]
  have hq : q + n ≤ l.length := by omega
  have hgl := getL_length l q n hq
  have HR := h.row
  have hc := h.cell
  have hss := h.small
  have hcap : l.length ≤ c := by have := h.cap; omega
  have HGL := Lib.hid hgl
  clear hgl
  obtain ⟨z, hz⟩ : ∃ z, z = txt (getL l q n) := ⟨_, rfl⟩
  rw [← hz]
  have HZ := Lib.hid hz
  clear hz
  by_cases hcq : c = q
  · skip
    go_enter Try.func46, Try.ntmps46
    go_wp2_with (first
      | (go_at_call 76; refine (is_any p B c l pad _ _ _ h (by omega) (by omega) (by omega) (by omega)).mono ?_; rintro e w' ⟨rfl, rfl⟩)
      | (refine wpList_string (by first | rfl | go_simp) 30 9 5 _ rfl B 0 _ _ rfl Try.underlying30 Try.underlying5 Try.underlying9 z (getL l q n) (by rw [HZ.out]; rfl) (by rw [HGL.out]; omega) (row_cells HR q n 0 hq (fun hp => by omega)) ?_))
    go_ret2
    exact ⟨rfl, rfl⟩
  · skip
    go_enter Try.func46, Try.ntmps46
    go_wp2_with (first
      | (go_at_call 76; refine (is_any p B c l pad _ _ _ h (by omega) (by omega) (by omega) (by omega)).mono ?_; rintro e w' ⟨rfl, rfl⟩)
      | (refine wpList_string (by first | rfl | go_simp) 30 9 5 _ rfl B q _ _ rfl Try.underlying30 Try.underlying5 Try.underlying9 z (getL l q n) (by rw [HZ.out]; rfl) (by rw [HGL.out]; omega) (row_cells HR q n q hq (fun _ => rfl)) ?_))
    go_ret2
    exact ⟨rfl, rfl⟩
set_option maxRecDepth 100000 in
set_option maxHeartbeats 1000000 in
theorem rgetText_bad (p B c : Nat) (l pad : List UInt8) (at' size : Int) (w : World) (h : RefAt w p B c l pad) (ha : -9223372036854775808 ≤ at') (ha' : at' ≤ 9223372036854775807) (hs : -9223372036854775808 ≤ size) (hs' : size ≤ 9223372036854775807) (hr : ¬ Rng l.length at' size) :
    Calls Try.prog 46 #[.pointer (some ⟨p, 0, none⟩), .int .i64 at', .int .i64 size] w fun e w' => e = .returned (.tuple #[.string (txt []), .int .i64 1]) ∧ w = w' := by
  have hrb : rngB l.length at' size = false := by rw [← Bool.not_eq_true, rngB_iff]; exact hr
  clear hr
  go_enter Try.func46, Try.ntmps46
  go_wp2_with (go_at_call 76; refine (is_any p B c l pad _ _ _ h ha ha' hs hs').mono ?_; rintro e w' ⟨rfl, rfl⟩)
  go_ret2
  exact ⟨rfl, rfl⟩
set_option maxRecDepth 100000 in
set_option maxHeartbeats 1000000 in
theorem rmove_ok (p B c : Nat) (l pad : List UInt8) (to from' size : Int) (w : World) (h : RefAt w p B c l pad) (h1 : Rng l.length to size) (h2 : Rng l.length from' size) :
    Calls Try.prog 48 #[.pointer (some ⟨p, 0, none⟩), .int .i64 to, .int .i64 from', .int .i64 size] w fun e w' => e = .returned (.int .i64 0) ∧ RefAt w' p B c (setL l to.toNat (getL l from'.toNat size.toNat)) pad ∧ w.grownBy w' (some B) := by
  have hrb := (rngB_iff _ _ _).2 h1
  have hrb2 := (rngB_iff _ _ _).2 h2
  have hr1 := h1
  obtain ⟨r0, r1, r2, r3⟩ := h1
  obtain ⟨s0, s1, s2, s3⟩ := h2
  obtain ⟨q, rfl⟩ := Int.eq_ofNat_of_zero_le s0
  obtain ⟨n, rfl⟩ := Int.eq_ofNat_of_zero_le r1
  rw [Int.toNat_natCast, Int.toNat_natCast]
  have hq : q + n ≤ l.length := by omega
  have hgl := getL_length l q n hq
  have HR := h.row
  have hc := h.cell
  have hss := h.small
  have hcap : l.length ≤ c := by have := h.cap; omega
  have HGL := Lib.hid hgl
  clear hgl
  obtain ⟨z, hz⟩ : ∃ z, z = txt (getL l q n) := ⟨_, rfl⟩
  have hzs : z.size = n := by rw [hz, txt_size, HGL.out]
  have hrz : Rng l.length to z.size := by rw [hzs]; exact hr1
  have HZ := Lib.hid hz
  have HRZ := Lib.hid hrz
  have HZL : Hid (z.data.toList = getL l q n) := by rw [hz]; exact rfl
  clear hz hzs hr1 hrz
  by_cases hcq : c = q
  · skip
    go_enter Try.func48, Try.ntmps48
    go_wp2_with (first
      | (go_at_call 76; with_reducible refine (is_any p B c l pad to n _ h (by omega) (by omega) (by omega) (by omega)).mono ?_; rintro e w' ⟨rfl, rfl⟩)
      | (go_at_call 76; with_reducible refine (is_any p B c l pad q n _ h (by omega) (by omega) (by omega) (by omega)).mono ?_; rintro e w' ⟨rfl, rfl⟩)
      | (refine wpList_string (by first | rfl | go_simp) 30 9 5 _ rfl B 0 _ _ rfl Try.underlying30 Try.underlying5 Try.underlying9 z (getL l q n) (by rw [HZ.out]; rfl) (by rw [HGL.out]; omega) (row_cells HR q n 0 hq (fun hp => by omega)) ?_)
      | (go_at_call 44; with_reducible refine (rputText_ok p B c l pad to z _ h HRZ.out).mono ?_; rintro e w' ⟨rfl, hA, hg⟩; rw [HZL.out] at hA))
    go_ret
    exact ⟨rfl, hA, hg⟩
  · skip
    go_enter Try.func48, Try.ntmps48
    go_wp2_with (first
      | (go_at_call 76; with_reducible refine (is_any p B c l pad to n _ h (by omega) (by omega) (by omega) (by omega)).mono ?_; rintro e w' ⟨rfl, rfl⟩)
      | (go_at_call 76; with_reducible refine (is_any p B c l pad q n _ h (by omega) (by omega) (by omega) (by omega)).mono ?_; rintro e w' ⟨rfl, rfl⟩)
      | (refine wpList_string (by first | rfl | go_simp) 30 9 5 _ rfl B q _ _ rfl Try.underlying30 Try.underlying5 Try.underlying9 z (getL l q n) (by rw [HZ.out]; rfl) (by rw [HGL.out]; omega) (row_cells HR q n q hq (fun _ => rfl)) ?_)
      | (go_at_call 44; with_reducible refine (rputText_ok p B c l pad to z _ h HRZ.out).mono ?_; rintro e w' ⟨rfl, hA, hg⟩; rw [HZL.out] at hA))
    go_ret
    exact ⟨rfl, hA, hg⟩
set_option maxRecDepth 100000 in
set_option maxHeartbeats 1000000 in
theorem rmove_bad (p B c : Nat) (l pad : List UInt8) (to from' size : Int) (w : World) (h : RefAt w p B c l pad) (ha : -9223372036854775808 ≤ to) (ha' : to ≤ 9223372036854775807) (hb : -9223372036854775808 ≤ from') (hb' : from' ≤ 9223372036854775807) (hs : -9223372036854775808 ≤ size) (hs' : size ≤ 9223372036854775807)
    (hr : ¬ (Rng l.length to size ∧ Rng l.length from' size)) :
    Calls Try.prog 48 #[.pointer (some ⟨p, 0, none⟩), .int .i64 to, .int .i64 from', .int .i64 size] w fun e w' => e = .returned (.int .i64 1) ∧ w = w' := by
  by_cases h1 : Rng l.length to size
  · have hb1 := (rngB_iff _ _ _).2 h1
    have hb2 : rngB l.length from' size = false := by rw [← Bool.not_eq_true, rngB_iff]; exact fun x => hr ⟨h1, x⟩
    clear hr h1
    go_enter Try.func48, Try.ntmps48
    go_wp2_with (first
      | (go_at_call 76; with_reducible refine (is_any p B c l pad to size _ h ha ha' hs hs').mono ?_; rintro e w' ⟨rfl, rfl⟩)
      | (go_at_call 76; with_reducible refine (is_any p B c l pad from' size _ h hb hb' hs hs').mono ?_; rintro e w' ⟨rfl, rfl⟩))
    go_ret
    exact ⟨rfl, rfl⟩
  · have hb1 : rngB l.length to size = false := by rw [← Bool.not_eq_true, rngB_iff]; exact h1
    clear hr h1
    go_enter Try.func48, Try.ntmps48
    go_wp2_with (go_at_call 76; with_reducible refine (is_any p B c l pad to size _ h ha ha' hs hs').mono ?_; rintro e w' ⟨rfl, rfl⟩)
    go_ret
    exact ⟨rfl, rfl⟩
end Go.Proofs.Ytmibbklafogbkaa
