/- The walks of package field: numbers put and got, texts put. -/
import Derived.Test.YtmibbklafogbkaaA
namespace Go.Proofs.Ytmibbklafogbkaa
open Go.RowKit
open Fld
theorem AreaAt.ne {w : World} {p B c : Nat} {l pad : List UInt8} (h : AreaAt w p B c l pad) : p ≠ B := by
  rintro rfl
  obtain ⟨fr, hr, _⟩ := h.row
  have := h.head
  rw [hr] at this
  simp at this
theorem AreaAt.put {w W : World} {p B c : Nat} {l pad : List UInt8} (h : AreaAt w p B c l pad) {o : Nat} {bs : List UInt8} (hB : Blk W B 5 (bytesOf (setL l o bs ++ pad))) (hg : w.grownBy W (some B)) (hl : o + bs.length ≤ l.length) :
    AreaAt W p B c (setL l o bs) pad := by
  have hz := setL_length l o bs hl
  refine ⟨?_, hB, by rw [hz]; exact h.cap, by rw [hz]; exact h.small⟩
  rw [hz, hg.block p (Array.getElem?_eq_some_iff.1 h.head).1 (fun e => h.ne (Option.some.inj e))]
  exact h.head
theorem AreaAt.keep {w W : World} {p B c : Nat} {l pad : List UInt8} (h : AreaAt w p B c l pad) (e1 : W.heap[p]? = w.heap[p]?) (e2 : W.heap[B]? = w.heap[B]?) : AreaAt W p B c l pad :=
  ⟨by rw [e1]; exact h.head, h.row.keep e2, h.cap, h.small⟩
theorem AreaAt.lt {w : World} {p B c : Nat} {l pad : List UInt8} (h : AreaAt w p B c l pad) : p < w.heap.size ∧ B < w.heap.size := ⟨(Array.getElem?_eq_some_iff.1 h.head).1, h.row.lt⟩
theorem pow256 (k : Nat) : 256 ^ k = 2 ^ (8 * k) := by rw [Nat.pow_mul]
theorem div_pow_nat (n k : Nat) : ((n : Int) / 2 ^ k) = ((n / 2 ^ k : Nat) : Int) := by rw [Int.natCast_ediv, Int.natCast_pow]; rfl
theorem no_more (N W : Nat) (h : N < 256 ^ W) : ((N : Int) / 2 ^ (8 * W) != 0) = false := by
  rw [div_pow_nat, Nat.div_eq_of_lt (by rw [← pow256]; exact h)]; rfl
theorem some_more (N W : Nat) (h : ¬ N < 256 ^ W) : ((N : Int) / 2 ^ (8 * W) != 0) = true := by
  rw [div_pow_nat, bne_iff_ne]
  intro e
  have : N / 2 ^ (8 * W) = 0 := by exact_mod_cast e
  rw [Nat.div_eq_zero_iff, ← pow256] at this
  have h2 : 0 < 256 ^ W := Nat.pow_pos (by omega)
  omega
theorem byte_of (N j : Nat) : ((N : Int) / 2 ^ (8 * j) % 256) = (((UInt8.ofNat (N / 256 ^ j)).toNat : Nat) : Int) := by
  rw [div_pow_nat, ← pow256, UInt8.toNat_ofNat']
  generalize N / 256 ^ j = x
  omega
set_option maxRecDepth 100000 in
set_option maxHeartbeats 1000000 in
theorem put_ok (p B c : Nat) (l pad : List UInt8) (at' width n : Int) (w : World) (h : AreaAt w p B c l pad) (hw : Wid width) (hr : Rng l.length at' width) (h0 : 0 ≤ n) (hn : n < 256 ^ width.toNat) :
    Calls Try.prog 36 #[.pointer (some ⟨p, 0, none⟩), .int .i64 at', .int .i64 width, .int .u32 n] w fun e w' => e = .returned (.int .i64 0) ∧ AreaAt w' p B c (setL l at'.toNat (be width.toNat n.toNat)) pad ∧ w.grownBy w' (some B) := by
  obtain ⟨r0, r1, r2, r3⟩ := hr
  obtain ⟨q, rfl⟩ := Int.eq_ofNat_of_zero_le r0
  obtain ⟨N, rfl⟩ := Int.eq_ofNat_of_zero_le h0
  obtain ⟨W, rfl⟩ := Int.eq_ofNat_of_zero_le r1
  have hW : 1 ≤ W ∧ W ≤ 4 := by unfold Wid at hw; omega
  have heq := fun w a n c => run_eql_slice_nil (P := Try.prog) w 30 5 a n c Try.underlying30
  simp only [Int.toNat_natCast] at hn
  have hn : N < 256 ^ W := by exact_mod_cast hn
  have hN : N < 4294967296 := Nat.lt_of_lt_of_le hn (Nat.pow_le_pow_right (n := 256) (by omega) hW.2)
  have hsh := no_more N W hn
  have HN := Lib.hid hn
  clear hn
  have hq : q + W ≤ l.length := by omega
  have hne := h.ne
  have hlt := h.lt
  have HR := h.row
  go_enter Try.func36, Try.ntmps36
  go_wp2_with (go_at_call 74; refine (number_ok p B c l pad _ _ _ h hw ⟨r0, r1, r2, r3⟩).mono ?_; rintro e w' ⟨o, rfl, had, rfl⟩; have ho := (had (by omega)).symm; rw [Int.toNat_natCast] at ho; subst ho; clear had)
  clear hsh heq
  go_loopw [27] (fun i wr => ∃ k : Nat, k ≤ W ∧ i = .int .i64 k ∧ Blk wr B 5 (bytesOf (setL l q ((be W N).take k) ++ pad)) ∧ w.grownBy wr (some B)) (fun i _ => W - (intOf i).toNat)
  case atStart => exact ⟨0, by omega, rfl, by rw [List.take_zero, setL_nil]; exact HR, World.grownBy.refl _ _⟩
  case round =>
    obtain ⟨k, hk, rfl, HB, hg⟩ := hrel
    by_cases hlk : k < W
    · have hd : decide ((k : Int) < (W : Int)) = true := decide_eq_true (by omega)
      have htl : ((be W N).take k).length = k := by rw [List.length_take, be_length]; omega
      have hlen : (setL l q ((be W N).take k)).length = l.length := setL_length _ _ _ (by omega)
      obtain ⟨x, hx⟩ : ∃ x, (setL l q ((be W N).take k) ++ pad)[q + k]? = some x := ⟨_, List.getElem?_eq_getElem (by rw [List.length_append]; omega)⟩
      have hcell : wr.cell? ⟨B, q + k, none⟩ = some (.int .u8 (x.toNat : Int)) := by
        obtain ⟨h1, h2⟩ := List.getElem?_eq_some_iff.1 hx
        rw [HB.cell, bytesOf_get _ _ h1, h2]
      have hfro : wr.frozen? ⟨B, q + k, none⟩ = false := HB.frozen (by rw [bytesOf_size, List.length_append]; omega)
      obtain ⟨m, hm⟩ : ∃ m, W = m + 1 + k := ⟨W - 1 - k, by omega⟩
      have hby := byte_of N m
      have hbg : (be W N)[k]? = some (UInt8.ofNat (N / 256 ^ m)) := by rw [be_get W N k hlk, show W - 1 - k = m by omega]
      have hst : (setL l q ((be W N).take k) ++ pad).set (q + k) (UInt8.ofNat (N / 256 ^ m)) = setL l q ((be W N).take (k + 1)) ++ pad := by
        rw [List.set_append_left _ _ (by omega)]
        have := setL_snoc l q (UInt8.ofNat (N / 256 ^ m)) ((be W N).take k) (by omega)
        rw [htl] at this
        rw [this]
        congr 2
        rw [List.take_add_one, hbg]; rfl
      obtain ⟨y, hy⟩ : ∃ y, y = UInt8.ofNat (N / 256 ^ m) := ⟨_, rfl⟩
      rw [← hy] at hby hst
      have HS := Lib.hid hst
      have HBY := Lib.hid hby
      clear hby hbg hst hy hx hlen htl
      go_wp2
      go_roundw
      case rel => exact ⟨k + 1, by omega, by go_num, by
        have := HB.store (q + k) (.int .u8 (y.toNat : Int))
        rw [bytesOf_set, HS.out] at this
        rw [HBY.out]
        exact this, ⟨hg.os, hg.tape, hg.output, by simpa [World.setCell] using hg.size, fun j hj hne => (Below.heap_setCell _ _ _ _ (fun e => hne (by rw [e]))).trans (hg.block j hj hne)⟩⟩
      case measure => simp [intOf]; omega
    · have ek : k = W := by omega
      have HF : AreaAt wr p B c (setL l q (be W N)) pad := by
        rw [ek, List.take_of_length_le (by rw [be_length]; omega)] at HB
        exact h.put HB hg (by rw [be_length]; exact hq)
      clear ek
      go_wp2
      go_ret
      exact ⟨rfl, HF, hg⟩
set_option maxRecDepth 100000 in
set_option maxHeartbeats 1000000 in
theorem put_bad (p B c : Nat) (l pad : List UInt8) (at' width n : Int) (w : World) (h : AreaAt w p B c l pad) (ha : -9223372036854775808 ≤ at') (ha' : at' ≤ 9223372036854775807) (hs : -9223372036854775808 ≤ width) (hs' : width ≤ 9223372036854775807)
    (h0 : 0 ≤ n) (hn : n < 4294967296) (hr : ¬ (Wid width ∧ Rng l.length at' width ∧ n < 256 ^ width.toNat)) :
    Calls Try.prog 36 #[.pointer (some ⟨p, 0, none⟩), .int .i64 at', .int .i64 width, .int .u32 n] w fun e w' => e = .returned (.int .i64 1) ∧ w = w' := by
  have heq := fun w a n c => run_eql_slice_nil (P := Try.prog) w 30 5 a n c Try.underlying30
  by_cases hok : Wid width ∧ Rng l.length at' width
  · obtain ⟨hw, hrg⟩ := hok
    have hbig : ¬ n < 256 ^ width.toNat := fun hx => hr ⟨hw, hrg, hx⟩
    clear hr
    obtain ⟨r0, r1, r2, r3⟩ := hrg
    obtain ⟨N, rfl⟩ := Int.eq_ofNat_of_zero_le h0
    obtain ⟨W, rfl⟩ := Int.eq_ofNat_of_zero_le r1
    have hW : 1 ≤ W ∧ W ≤ 4 := by unfold Wid at hw; omega
    have hbig' : ¬ N < 256 ^ W := fun hx => hbig (by simpa using (by exact_mod_cast hx : (N : Int) < 256 ^ W))
    have hsh := some_more N W hbig'
    clear hbig hbig'
    go_enter Try.func36, Try.ntmps36
    go_wp2_with (go_at_call 74; refine (number_ok p B c l pad _ _ _ h hw ⟨r0, r1, r2, r3⟩).mono ?_; rintro e w' ⟨o, rfl, had, rfl⟩; clear had)
    go_ret
    exact ⟨rfl, rfl⟩
  · clear hr
    go_enter Try.func36, Try.ntmps36
    go_wp2_with (go_at_call 74; refine (number_bad p B c l pad _ _ _ h ha ha' hs hs' hok).mono ?_; rintro e w' ⟨rfl, rfl⟩)
    go_ret
    exact ⟨rfl, rfl⟩
set_option maxRecDepth 100000 in
set_option maxHeartbeats 1000000 in
theorem put_nil (at' width n : Int) (w : World) :
    Calls Try.prog 36 #[.pointer none, .int .i64 at', .int .i64 width, .int .u32 n] w fun e w' => e = .returned (.int .i64 1) ∧ w = w' := by
  have heq := fun w a n c => run_eql_slice_nil (P := Try.prog) w 30 5 a n c Try.underlying30
  go_enter Try.func36, Try.ntmps36
  go_wp2_with (go_at_call 74; refine (number_nil _ _ _).mono ?_; rintro e w' ⟨rfl, rfl⟩)
  go_ret
  exact ⟨rfl, rfl⟩
theorem wraps_u32 (n : Int) (h₀ : 0 ≤ n) (h₁ : n < 2 ^ 32) : IntKind.u32.wrap n = n := by rw [IntKind.wrap_u32]; omega
theorem join_byte (x y : Nat) (hx : x < 16777216) (hy : y < 256) : bits BinOp.or IntKind.u32 ((x : Int) * 256) (y : Int) = ((x * 256 + y : Nat) : Int) := by
  have h := bits_join .u32 32 (by decide) wraps_u32 8 ((x : Int) * 256) (y : Int) (by omega) (by omega) (by omega) (by omega) (by omega) (by omega)
  rw [h]; omega
set_option maxRecDepth 100000 in
set_option maxHeartbeats 1000000 in
theorem get_ok (p B c : Nat) (l pad : List UInt8) (at' width : Int) (w : World) (h : AreaAt w p B c l pad) (hw : Wid width) (hr : Rng l.length at' width) :
    Calls Try.prog 37 #[.pointer (some ⟨p, 0, none⟩), .int .i64 at', .int .i64 width] w fun e w' => e = .returned (.tuple #[.int .u32 (num (getL l at'.toNat width.toNat) : Nat), .int .i64 0]) ∧ w = w' := by
  obtain ⟨r0, r1, r2, r3⟩ := hr
  obtain ⟨q, rfl⟩ := Int.eq_ofNat_of_zero_le r0
  obtain ⟨W, rfl⟩ := Int.eq_ofNat_of_zero_le r1
  have hW : 1 ≤ W ∧ W ≤ 4 := by unfold Wid at hw; omega
  have heq := fun w a n c => run_eql_slice_nil (P := Try.prog) w 30 5 a n c Try.underlying30
  have hq : q + W ≤ l.length := by omega
  have HR := h.row
  have hgl : (getL l q W).length = W := getL_length l q W hq
  go_enter Try.func37, Try.ntmps37
  go_wp2_with (go_at_call 74; refine (number_ok p B c l pad _ _ _ h hw ⟨r0, r1, r2, r3⟩).mono ?_; rintro e w' ⟨o, rfl, had, rfl⟩; have ho := (had (by omega)).symm; rw [Int.toNat_natCast] at ho; subst ho; clear had)
  clear heq
  go_loop [9, 20] (fun t i => ∃ k : Nat, k ≤ W ∧ i = .int .i64 k ∧ t = .int .u32 (num ((getL l q W).take k) : Nat)) (fun _ i => W - (intOf i).toNat)
  case atStart => exact ⟨0, by omega, rfl, rfl⟩
  case round =>
    obtain ⟨k, hk, rfl, rfl⟩ := hrel
    have HG := Lib.hid hgl
    clear hgl
    by_cases hlk : k < W
    · have hd : decide ((k : Int) < (W : Int)) = true := decide_eq_true (by omega)
      have hgk : k < (getL l q W).length := by rw [HG.out]; exact hlk
      obtain ⟨y, hy⟩ : ∃ y, y = (getL l q W)[k] := ⟨_, rfl⟩
      have hcell : w.cell? ⟨B, q + k, none⟩ = some (.int .u8 (y.toNat : Int)) := by
        have h1 : (l ++ pad)[q + k]? = some y := by
          rw [List.getElem?_append_left (by omega), ← getL_get l q W k hlk, List.getElem?_eq_getElem hgk, hy]
        obtain ⟨h2, h3⟩ := List.getElem?_eq_some_iff.1 h1
        rw [HR.cell, bytesOf_get _ _ h2, h3]
      obtain ⟨x, hx⟩ : ∃ x, x = num ((getL l q W).take k) := ⟨_, rfl⟩
      have hxl : x < 16777216 := by
        have h1 := num_lt ((getL l q W).take k)
        rw [← hx] at h1
        have h2 : 256 ^ ((getL l q W).take k).length ≤ 256 ^ 3 := Nat.pow_le_pow_right (by omega) (by rw [List.length_take]; omega)
        exact Nat.lt_of_lt_of_le h1 h2
      have hnx : num ((getL l q W).take (k + 1)) = x * 256 + y.toNat := by
        rw [List.take_succ_eq_append_getElem hgk, num_snoc, hx, hy]
      have hyl := y.toNat_lt
      have hjo := join_byte x y.toNat hxl (by omega)
      rw [← hx]
      have HJ := Lib.hid hjo
      have HNX := Lib.hid hnx
      clear hjo hnx hx hy
      go_wp2
      go_round
      case rel => exact ⟨k + 1, by omega, by go_num, by rw [HNX.out, HJ.out]⟩
      case measure => simp [intOf]; omega
    · have ek : (getL l q W).take k = getL l q W := List.take_of_length_le (by rw [HG.out]; omega)
      rw [ek]
      clear ek
      go_wp2
      go_ret2
      exact ⟨rfl, rfl⟩
set_option maxRecDepth 100000 in
set_option maxHeartbeats 1000000 in
theorem get_bad (p B c : Nat) (l pad : List UInt8) (at' width : Int) (w : World) (h : AreaAt w p B c l pad) (ha : -9223372036854775808 ≤ at') (ha' : at' ≤ 9223372036854775807) (hs : -9223372036854775808 ≤ width) (hs' : width ≤ 9223372036854775807)
    (hr : ¬ (Wid width ∧ Rng l.length at' width)) :
    Calls Try.prog 37 #[.pointer (some ⟨p, 0, none⟩), .int .i64 at', .int .i64 width] w fun e w' => e = .returned (.tuple #[.int .u32 0, .int .i64 1]) ∧ w = w' := by
  have heq := fun w a n c => run_eql_slice_nil (P := Try.prog) w 30 5 a n c Try.underlying30
  go_enter Try.func37, Try.ntmps37
  go_wp2_with (go_at_call 74; refine (number_bad p B c l pad _ _ _ h ha ha' hs hs' hr).mono ?_; rintro e w' ⟨rfl, rfl⟩)
  go_ret2
  exact ⟨rfl, rfl⟩
set_option maxRecDepth 100000 in
set_option maxHeartbeats 1000000 in
theorem get_nil (at' width : Int) (w : World) :
    Calls Try.prog 37 #[.pointer none, .int .i64 at', .int .i64 width] w fun e w' => e = .returned (.tuple #[.int .u32 0, .int .i64 1]) ∧ w = w' := by
  have heq := fun w a n c => run_eql_slice_nil (P := Try.prog) w 30 5 a n c Try.underlying30
  go_enter Try.func37, Try.ntmps37
  go_wp2_with (go_at_call 74; refine (number_nil _ _ _).mono ?_; rintro e w' ⟨rfl, rfl⟩)
  go_ret2
  exact ⟨rfl, rfl⟩
theorem size5 : ∀ w, (Go.sizeOf 5).run Try.prog w = .ok 1 w := fun _ => by kernel_rfl
theorem size5' : (Try.prog.info? 5).map (·.size) = some 1 := by kernel_rfl
set_option maxRecDepth 100000 in
set_option maxHeartbeats 1000000 in
theorem putText_ok (p B c : Nat) (l pad : List UInt8) (at' : Int) (s : ByteArray) (w : World) (h : AreaAt w p B c l pad) (hr : Rng l.length at' s.size) :
    Calls Try.prog 43 #[.pointer (some ⟨p, 0, none⟩), .int .i64 at', .string s] w fun e w' => e = .returned (.int .i64 0) ∧ AreaAt w' p B c (setL l at'.toNat s.data.toList) pad ∧ w.grownBy w' (some B) := by
  obtain ⟨r0, r1, r2, r3⟩ := hr
  obtain ⟨q, rfl⟩ := Int.eq_ofNat_of_zero_le r0
  have heq := fun w a n c => run_eql_slice_nil (P := Try.prog) w 30 5 a n c Try.underlying30
  have hq : q + s.size ≤ l.length := by omega
  have hsl : s.data.toList.length = s.size := Array.length_toList ..
  have HSL := Lib.hid hsl
  clear hsl
  have HR := h.row
  have hss := h.small
  go_enter Try.func43, Try.ntmps43
  go_wp2_with (first
    | (go_at_call 77; refine (part_ok p B c l pad _ _ _ h r0 r1 r2 r3).mono ?_; rintro e w' ⟨o, rfl, had, rfl⟩; rw [Int.toNat_natCast] at had ⊢; have HAD := Lib.hid had; clear had)
    | (refine wpList_copyS (o := ⟨some 17, _, _, _, _, _⟩) (by first | rfl | go_simp) (.tmp 15) (.tmp 16) 30 9 rfl 5 Try.underlying30 size5 B q s.size s.size _ rfl (fun hp => by rw [HAD.out hp, Int.toNat_natCast]) s rfl rfl 5 (l ++ pad) HR (by rw [List.length_append]; omega) ?_; intro W4 hW4 hg4))
  go_ret
  exact ⟨rfl, h.put (by rw [← setL_pad _ _ _ _ (by rw [HSL.out]; exact hq)]; exact hW4) hg4 (by rw [HSL.out]; exact hq), hg4⟩
end Go.Proofs.Ytmibbklafogbkaa
