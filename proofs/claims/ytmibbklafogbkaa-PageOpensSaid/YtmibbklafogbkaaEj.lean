/- The entry layer: what stands in bytes, by the document (cadastreref03.Narrow, 82; cadastreref06.Decode, 59). -/
import Derived.Test.YtmibbklafogbkaaEn
import Derived.Test.YtmibbklafogbkaaEd
import Derived.StillTailTactics
namespace Go.Proofs.Ytmibbklafogbkaa
open Go.RowKit
open Fld
theorem num_take (s : ByteArray) (k : Nat) (h : k < s.size) : num (s.data.toList.take (k + 1)) = num (s.data.toList.take k) * 256 + (s[k]).toNat := by
  rw [take_next s k h, num_snoc]; rfl
set_option maxRecDepth 100000 in
set_option maxHeartbeats 1000000 in
theorem narrow_any (s : ByteArray) (w : World) (hs : s.size ≤ 4) :
    Calls Try.prog 82 #[.string s] w fun e w' => e = .returned (.int .i64 (num s.data.toList : Nat)) ∧ w = w' := by
  go_enter Try.func82, Try.ntmps82
  go_wp2
  go_loop [3, 4] (fun v i => ∃ (k N : Nat), k ≤ s.size ∧ i = .int .i64 k ∧ v = .int .i64 N ∧ Hid (N = num (s.data.toList.take k)) ∧ N ≤ 4294967295) (fun _ i => s.size - (intOf i).toNat)
  case atStart => exact ⟨0, 0, Nat.zero_le _, rfl, rfl, Lib.hid rfl, Nat.zero_le _⟩
  case round =>
    obtain ⟨k, N, hk, rfl, rfl, HN, hN⟩ := hrel
    by_cases hlt : k < s.size
    · have hx := num_take s k hlt
      rw [← HN.out] at hx
      have hy : num (s.data.toList.take (k + 1)) < 256 ^ 4 := by
        have h1 := num_lt (s.data.toList.take (k + 1))
        have h2 : (s.data.toList.take (k + 1)).length ≤ 4 := Nat.le_trans (List.length_take_le _ _) (by omega)
        exact Nat.lt_of_lt_of_le h1 (Nat.pow_le_pow_right (by omega) h2)
      have h5 : (256 : Nat) ^ 4 = 4294967296 := rfl
      have hz : N * 256 + (s[k]).toNat ≤ 4294967295 := by omega
      have HX := Lib.hid hx
      have k0 : (0 : Int) ≤ (s[k].toNat : Int) := by omega
      have k1 : (s[k].toNat : Int) < 256 := by have := s[k].toNat_lt; omega
      clear hx hy h5
      go_wp2
      go_round
      case rel => exact ⟨k + 1, N * 256 + (s[k]).toNat, by omega, by go_num, by rw [Int.mul_comm]; go_num, Lib.hid HX.out.symm, hz⟩
      case measure => simp [intOf]; omega
    · obtain rfl : k = s.size := by omega
      have hv : N = num s.data.toList := by
        rw [HN.out, List.take_of_length_le (by rw [toList_size]; omega)]
      have HV := Lib.hid hv
      clear hv
      go_wp2
      go_ret
      exact ⟨by rw [HV.out]; rfl, rfl⟩
theorem cut_list (s : ByteArray) (a b : Nat) : (s.extract a b).data.toList = getL s.data.toList a (b - a) := by
  simp [getL]
theorem narrow_at (s : ByteArray) (a b : Nat) (w : World) (hb : b ≤ a + 4) (N : Int) (hN : N = (num (getL s.data.toList a (b - a)) : Nat)) :
    Calls Try.prog 82 #[.string (s.extract a b)] w fun e w' => e = .returned (.int .i64 N) ∧ w = w' := by
  have h := narrow_any (s.extract a b) w (by rw [ByteArray.size_extract]; omega)
  rw [cut_list, ← hN] at h
  exact h
theorem narrow_still (s : ByteArray) (a b : Nat) (w : World) (hb : b ≤ a + 4) (N : Int) (hN : N = (num (getL s.data.toList a (b - a)) : Nat)) :
    Calls Try.prog 82 #[.string (s.extract a b)] w fun e w' => e = .returned (.int .i64 N) ∧ w' = w := (narrow_at s a b w hb N hN).mono fun _ _ ⟨x, y⟩ => ⟨x, y.symm⟩
theorem byte_num (s : ByteArray) (k : Nat) (h : k < s.size) : num (getL s.data.toList k 1) = s[k].toNat := by
  have e : getL s.data.toList k 1 = [s[k]] := by
    unfold getL
    rw [List.drop_eq_getElem_cons (by rw [toList_size]; exact h)]
    simp
    rfl
  rw [e]; simp [num]
theorem str_ne_b {a b : ByteArray} (h : a ≠ b) : (a.toList == b.toList) = false := by
  rw [beq_eq_false_iff_ne]
  intro e
  rw [ByteArray.toList_eq, ByteArray.toList_eq] at e
  exact h (ByteArray.ext (Array.toList_inj.1 e))
theorem two_stores_b {W : World} {b : Nat} {cs : Array Value} {t : TypeId} (h : W.heap[b]? = some (.cells cs t (0, 0))) (i j : Nat) (u v : Value) :
    ((W.setCell ⟨b, i, none⟩ u).setCell ⟨b, j, none⟩ v).heap[b]? = some (.cells ((cs.setIfInBounds i u).setIfInBounds j v) t (0, 0)) ∧ W.grownBy ((W.setCell ⟨b, i, none⟩ u).setCell ⟨b, j, none⟩ v) (some b) := by
  obtain ⟨a, g⟩ := two_stores h i j u v
  exact ⟨a, ⟨g.os, g.tape, g.output, g.size, g.block⟩⟩
set_option maxRecDepth 100000 in
set_option maxHeartbeats 2000000 in
theorem rdecode_none  (w : World) :
    Calls Try.prog 59 #[.string ⟨#[]⟩] w fun e w' => e = .returned (.tuple #[.agg #[.int .i64 0, .int .i64 0, .int .i64 0, .int .i64 0, .int .i64 0, .string ByteArray.empty, .int .i64 0, .int .u32 0], .int .i64 9]) ∧ Below w.heap.size w w' := by
  obtain ⟨rb, hrb⟩ : ∃ rb, rb = w.heap.size := ⟨_, rfl⟩
  have HRB := Lib.hid hrb
  clear hrb
  go_enter Try.func59, Try.ntmps59
  go_upto_region 1 with (refine wpList_allocArr rfl 74 rfl _ zero74 ?_; intro W1 hW1 hg1 hz1; rw [← HRB.out] at hW1 ⊢; have H1 := Lib.hid hW1; clear hW1)
  go_wp2_with (refine wpList_storeArr rfl 74 _ _ rfl rb #[.int .i64 0, .int .i64 0, .int .i64 0, .int .i64 0, .int .i64 0, .string ByteArray.empty, .int .i64 0, .int .u32 0] rfl rfl 74 _ H1.out size74 rfl (ent_one _ _ _ _ _ _ _ _) ?_; intro W7 hW7 hg7 hz7; obtain ⟨d0, d1, d2, d3, d4, d5, d6, d7⟩ := Row8.of hW7)
  exact bodyPost_ret (v := .tuple #[.agg #[.int .i64 0, .int .i64 0, .int .i64 0, .int .i64 0, .int .i64 0, .string ByteArray.empty, .int .i64 0, .int .u32 0], .int .i64 9]) (by simp [results, Try.results59, go_sem, d0, d1, d2, d3, d4, d5, d6, d7]) rfl ⟨rfl, ((Below.refl _ _).grown hg1 (Nat.le_refl _) (by simp)).grown hg7 hg1.size (fun k hk => by have := Option.some.inj hk; have := HRB.out; omega)⟩
set_option maxRecDepth 100000 in
set_option maxHeartbeats 2000000 in
theorem rdecode_form (s : ByteArray) (h0 : 0 < s.size) (g1 : (s[0].toNat : Int) ≠ 1) (g2 : (s[0].toNat : Int) ≠ 2) (g3 : (s[0].toNat : Int) ≠ 3) (w : World) :
    Calls Try.prog 59 #[.string s] w fun e w' => e = .returned (.tuple #[.agg #[.int .i64 0, .int .i64 0, .int .i64 0, .int .i64 0, .int .i64 0, .string ByteArray.empty, .int .i64 0, .int .u32 0], .int .i64 6]) ∧ Below w.heap.size w w' := by
  have he := no_size h0
  have k0 : (0 : Int) ≤ (s[0].toNat : Int) := by omega
  have k1 : (s[0].toNat : Int) < 256 := by have := s[0].toNat_lt; omega
  have G1 := Lib.hid g1
  have G2 := Lib.hid g2
  have G3 := Lib.hid g3
  clear g1 g2 g3
  obtain ⟨rb, hrb⟩ : ∃ rb, rb = w.heap.size := ⟨_, rfl⟩
  have HRB := Lib.hid hrb
  clear hrb
  go_enter Try.func59, Try.ntmps59
  go_upto_region 1 with (refine wpList_allocArr rfl 74 rfl _ zero74 ?_; intro W1 hW1 hg1 hz1; rw [← HRB.out] at hW1 ⊢; have H1 := Lib.hid hW1; clear hW1)
  obtain ⟨eb, heb⟩ : ∃ eb, eb = W1.heap.size := ⟨_, rfl⟩
  have HEB := Lib.hid heb
  clear heb
  go_upto_region 4 with (first
    | (refine wpList_allocArr rfl 74 rfl _ zero74 ?_; intro W2 hW2 hg2 hz2; rw [← HEB.out] at hW2 ⊢; have H2 := Lib.hid hW2; clear hW2)
    | (refine wpList_storeArr rfl 74 _ _ rfl eb #[.int .i64 ((s[0].toNat : Nat) : Int), .int .i64 0, .int .i64 0, .int .i64 0, .int .i64 0, .string ⟨#[]⟩, .int .i64 0, .int .u32 0] rfl rfl 74 _ H2.out size74 rfl (ent_one _ _ _ _ _ _ _ _) ?_; intro W3 hW3 hg3 hz3; have H3 := Row8.of hW3; clear hW3))
  obtain ⟨e0, _, _, _, _, _, _, _⟩ := H3
  have l1 : rb < W1.heap.size := (Array.getElem?_eq_some_iff.1 H1.out).1
  have hne : rb ≠ eb := by have := HEB.out; omega
  have H5 : Hid (W3.heap[rb]? = _) := Lib.hid (((hg3.block rb (Nat.lt_of_lt_of_le l1 hg2.size) (fun e => hne (Option.some.inj e))).trans (hg2.block rb l1 (by simp))).trans H1.out)
  have hbl : Below w.heap.size w W3 := (((Below.refl _ _).grown hg1 (Nat.le_refl _) (by simp)).grown hg2 hg1.size (by simp)).grown hg3 (Nat.le_trans hg1.size hg2.size) (fun k hk => by have := Option.some.inj hk; have := HEB.out; have := hg1.size; omega)
  have hrw : w.heap.size ≤ rb := by rw [HRB.out]; exact Nat.le_refl _
  generalize ((s[0].toNat : Nat) : Int) = K at k0 k1 e0 G1 G2 G3 ⊢
  have b1 : (K == 1) = false := beq_eq_false_iff_ne.2 G1.out
  have b2 : (K == 2) = false := beq_eq_false_iff_ne.2 G2.out
  have b3 : (K == 3) = false := beq_eq_false_iff_ne.2 G3.out
  go_wp2_with (refine wpList_storeArr rfl 74 _ _ rfl rb #[.int .i64 0, .int .i64 0, .int .i64 0, .int .i64 0, .int .i64 0, .string ByteArray.empty, .int .i64 0, .int .u32 0] rfl rfl 74 _ H5.out size74 rfl (ent_one _ _ _ _ _ _ _ _) ?_; intro W7 hW7 hg7 hz7; obtain ⟨d0, d1, d2, d3, d4, d5, d6, d7⟩ := Row8.of hW7)
  exact bodyPost_ret (v := .tuple #[.agg #[.int .i64 0, .int .i64 0, .int .i64 0, .int .i64 0, .int .i64 0, .string ByteArray.empty, .int .i64 0, .int .u32 0], .int .i64 6]) (by simp [results, Try.results59, go_sem, d0, d1, d2, d3, d4, d5, d6, d7]) rfl ⟨rfl, hbl.grown hg7 hbl.size (fun k hk => by have := Option.some.inj hk; omega)⟩
set_option maxRecDepth 100000 in
set_option maxHeartbeats 2000000 in
theorem rdecode_cut1 (s : ByteArray) (h0 : 0 < s.size) (hK : ((s[0].toNat : Nat) : Int) = 1) (h3 : s.size < 10) (w : World) :
    Calls Try.prog 59 #[.string s] w fun e w' => e = .returned (.tuple #[.agg #[.int .i64 0, .int .i64 0, .int .i64 0, .int .i64 0, .int .i64 0, .string ByteArray.empty, .int .i64 0, .int .u32 0], .int .i64 9]) ∧ Below w.heap.size w w' := by
  have he := no_size h0
  have k0 : (0 : Int) ≤ (s[0].toNat : Int) := by omega
  have k1 : (s[0].toNat : Int) < 256 := by have := s[0].toNat_lt; omega
  have HK := Lib.hid hK
  clear hK
  obtain ⟨rb, hrb⟩ : ∃ rb, rb = w.heap.size := ⟨_, rfl⟩
  have HRB := Lib.hid hrb
  clear hrb
  go_enter Try.func59, Try.ntmps59
  go_upto_region 1 with (refine wpList_allocArr rfl 74 rfl _ zero74 ?_; intro W1 hW1 hg1 hz1; rw [← HRB.out] at hW1 ⊢; have H1 := Lib.hid hW1; clear hW1)
  obtain ⟨eb, heb⟩ : ∃ eb, eb = W1.heap.size := ⟨_, rfl⟩
  have HEB := Lib.hid heb
  clear heb
  go_upto_region 4 with (first
    | (refine wpList_allocArr rfl 74 rfl _ zero74 ?_; intro W2 hW2 hg2 hz2; rw [← HEB.out] at hW2 ⊢; have H2 := Lib.hid hW2; clear hW2)
    | (refine wpList_storeArr rfl 74 _ _ rfl eb #[.int .i64 ((s[0].toNat : Nat) : Int), .int .i64 0, .int .i64 0, .int .i64 0, .int .i64 0, .string ⟨#[]⟩, .int .i64 0, .int .u32 0] rfl rfl 74 _ H2.out size74 rfl (ent_one _ _ _ _ _ _ _ _) ?_; intro W3 hW3 hg3 hz3; have H3 := Row8.of hW3; clear hW3))
  obtain ⟨e0, _, _, _, _, _, _, _⟩ := H3
  have l1 : rb < W1.heap.size := (Array.getElem?_eq_some_iff.1 H1.out).1
  have hne : rb ≠ eb := by have := HEB.out; omega
  have H5 : Hid (W3.heap[rb]? = _) := Lib.hid (((hg3.block rb (Nat.lt_of_lt_of_le l1 hg2.size) (fun e => hne (Option.some.inj e))).trans (hg2.block rb l1 (by simp))).trans H1.out)
  have hbl : Below w.heap.size w W3 := (((Below.refl _ _).grown hg1 (Nat.le_refl _) (by simp)).grown hg2 hg1.size (by simp)).grown hg3 (Nat.le_trans hg1.size hg2.size) (fun k hk => by have := Option.some.inj hk; have := HEB.out; have := hg1.size; omega)
  have hrw : w.heap.size ≤ rb := by rw [HRB.out]; exact Nat.le_refl _
  rw [HK.out] at e0 ⊢
  clear k0 k1
  go_wp2_with (refine wpList_storeArr rfl 74 _ _ rfl rb #[.int .i64 0, .int .i64 0, .int .i64 0, .int .i64 0, .int .i64 0, .string ByteArray.empty, .int .i64 0, .int .u32 0] rfl rfl 74 _ H5.out size74 rfl (ent_one _ _ _ _ _ _ _ _) ?_; intro W7 hW7 hg7 hz7; obtain ⟨d0, d1, d2, d3, d4, d5, d6, d7⟩ := Row8.of hW7)
  exact bodyPost_ret (v := .tuple #[.agg #[.int .i64 0, .int .i64 0, .int .i64 0, .int .i64 0, .int .i64 0, .string ByteArray.empty, .int .i64 0, .int .u32 0], .int .i64 9]) (by simp [results, Try.results59, go_sem, d0, d1, d2, d3, d4, d5, d6, d7]) rfl ⟨rfl, hbl.grown hg7 hbl.size (fun k hk => by have := Option.some.inj hk; omega)⟩
set_option maxRecDepth 100000 in
set_option maxHeartbeats 2000000 in
theorem rdecode_cut2 (s : ByteArray) (h0 : 0 < s.size) (hK : ((s[0].toNat : Nat) : Int) = 2) (h3 : s.size < 13) (w : World) :
    Calls Try.prog 59 #[.string s] w fun e w' => e = .returned (.tuple #[.agg #[.int .i64 0, .int .i64 0, .int .i64 0, .int .i64 0, .int .i64 0, .string ByteArray.empty, .int .i64 0, .int .u32 0], .int .i64 9]) ∧ Below w.heap.size w w' := by
  have he := no_size h0
  have k0 : (0 : Int) ≤ (s[0].toNat : Int) := by omega
  have k1 : (s[0].toNat : Int) < 256 := by have := s[0].toNat_lt; omega
  have HK := Lib.hid hK
  clear hK
  obtain ⟨rb, hrb⟩ : ∃ rb, rb = w.heap.size := ⟨_, rfl⟩
  have HRB := Lib.hid hrb
  clear hrb
  go_enter Try.func59, Try.ntmps59
  go_upto_region 1 with (refine wpList_allocArr rfl 74 rfl _ zero74 ?_; intro W1 hW1 hg1 hz1; rw [← HRB.out] at hW1 ⊢; have H1 := Lib.hid hW1; clear hW1)
  obtain ⟨eb, heb⟩ : ∃ eb, eb = W1.heap.size := ⟨_, rfl⟩
  have HEB := Lib.hid heb
  clear heb
  go_upto_region 4 with (first
    | (refine wpList_allocArr rfl 74 rfl _ zero74 ?_; intro W2 hW2 hg2 hz2; rw [← HEB.out] at hW2 ⊢; have H2 := Lib.hid hW2; clear hW2)
    | (refine wpList_storeArr rfl 74 _ _ rfl eb #[.int .i64 ((s[0].toNat : Nat) : Int), .int .i64 0, .int .i64 0, .int .i64 0, .int .i64 0, .string ⟨#[]⟩, .int .i64 0, .int .u32 0] rfl rfl 74 _ H2.out size74 rfl (ent_one _ _ _ _ _ _ _ _) ?_; intro W3 hW3 hg3 hz3; have H3 := Row8.of hW3; clear hW3))
  obtain ⟨e0, _, _, _, _, _, _, _⟩ := H3
  have l1 : rb < W1.heap.size := (Array.getElem?_eq_some_iff.1 H1.out).1
  have hne : rb ≠ eb := by have := HEB.out; omega
  have H5 : Hid (W3.heap[rb]? = _) := Lib.hid (((hg3.block rb (Nat.lt_of_lt_of_le l1 hg2.size) (fun e => hne (Option.some.inj e))).trans (hg2.block rb l1 (by simp))).trans H1.out)
  have hbl : Below w.heap.size w W3 := (((Below.refl _ _).grown hg1 (Nat.le_refl _) (by simp)).grown hg2 hg1.size (by simp)).grown hg3 (Nat.le_trans hg1.size hg2.size) (fun k hk => by have := Option.some.inj hk; have := HEB.out; have := hg1.size; omega)
  have hrw : w.heap.size ≤ rb := by rw [HRB.out]; exact Nat.le_refl _
  rw [HK.out] at e0 ⊢
  clear k0 k1
  go_wp2_with (refine wpList_storeArr rfl 74 _ _ rfl rb #[.int .i64 0, .int .i64 0, .int .i64 0, .int .i64 0, .int .i64 0, .string ByteArray.empty, .int .i64 0, .int .u32 0] rfl rfl 74 _ H5.out size74 rfl (ent_one _ _ _ _ _ _ _ _) ?_; intro W7 hW7 hg7 hz7; obtain ⟨d0, d1, d2, d3, d4, d5, d6, d7⟩ := Row8.of hW7)
  exact bodyPost_ret (v := .tuple #[.agg #[.int .i64 0, .int .i64 0, .int .i64 0, .int .i64 0, .int .i64 0, .string ByteArray.empty, .int .i64 0, .int .u32 0], .int .i64 9]) (by simp [results, Try.results59, go_sem, d0, d1, d2, d3, d4, d5, d6, d7]) rfl ⟨rfl, hbl.grown hg7 hbl.size (fun k hk => by have := Option.some.inj hk; omega)⟩
set_option maxRecDepth 100000 in
set_option maxHeartbeats 2000000 in
theorem rdecode_cut3 (s : ByteArray) (h0 : 0 < s.size) (hK : ((s[0].toNat : Nat) : Int) = 3) (h3 : s.size < 7) (w : World) :
    Calls Try.prog 59 #[.string s] w fun e w' => e = .returned (.tuple #[.agg #[.int .i64 0, .int .i64 0, .int .i64 0, .int .i64 0, .int .i64 0, .string ByteArray.empty, .int .i64 0, .int .u32 0], .int .i64 9]) ∧ Below w.heap.size w w' := by
  have he := no_size h0
  have k0 : (0 : Int) ≤ (s[0].toNat : Int) := by omega
  have k1 : (s[0].toNat : Int) < 256 := by have := s[0].toNat_lt; omega
  have HK := Lib.hid hK
  clear hK
  obtain ⟨rb, hrb⟩ : ∃ rb, rb = w.heap.size := ⟨_, rfl⟩
  have HRB := Lib.hid hrb
  clear hrb
  go_enter Try.func59, Try.ntmps59
  go_upto_region 1 with (refine wpList_allocArr rfl 74 rfl _ zero74 ?_; intro W1 hW1 hg1 hz1; rw [← HRB.out] at hW1 ⊢; have H1 := Lib.hid hW1; clear hW1)
  obtain ⟨eb, heb⟩ : ∃ eb, eb = W1.heap.size := ⟨_, rfl⟩
  have HEB := Lib.hid heb
  clear heb
  go_upto_region 4 with (first
    | (refine wpList_allocArr rfl 74 rfl _ zero74 ?_; intro W2 hW2 hg2 hz2; rw [← HEB.out] at hW2 ⊢; have H2 := Lib.hid hW2; clear hW2)
    | (refine wpList_storeArr rfl 74 _ _ rfl eb #[.int .i64 ((s[0].toNat : Nat) : Int), .int .i64 0, .int .i64 0, .int .i64 0, .int .i64 0, .string ⟨#[]⟩, .int .i64 0, .int .u32 0] rfl rfl 74 _ H2.out size74 rfl (ent_one _ _ _ _ _ _ _ _) ?_; intro W3 hW3 hg3 hz3; have H3 := Row8.of hW3; clear hW3))
  obtain ⟨e0, _, _, _, _, _, _, _⟩ := H3
  have l1 : rb < W1.heap.size := (Array.getElem?_eq_some_iff.1 H1.out).1
  have hne : rb ≠ eb := by have := HEB.out; omega
  have H5 : Hid (W3.heap[rb]? = _) := Lib.hid (((hg3.block rb (Nat.lt_of_lt_of_le l1 hg2.size) (fun e => hne (Option.some.inj e))).trans (hg2.block rb l1 (by simp))).trans H1.out)
  have hbl : Below w.heap.size w W3 := (((Below.refl _ _).grown hg1 (Nat.le_refl _) (by simp)).grown hg2 hg1.size (by simp)).grown hg3 (Nat.le_trans hg1.size hg2.size) (fun k hk => by have := Option.some.inj hk; have := HEB.out; have := hg1.size; omega)
  have hrw : w.heap.size ≤ rb := by rw [HRB.out]; exact Nat.le_refl _
  rw [HK.out] at e0 ⊢
  clear k0 k1
  go_wp2_with (refine wpList_storeArr rfl 74 _ _ rfl rb #[.int .i64 0, .int .i64 0, .int .i64 0, .int .i64 0, .int .i64 0, .string ByteArray.empty, .int .i64 0, .int .u32 0] rfl rfl 74 _ H5.out size74 rfl (ent_one _ _ _ _ _ _ _ _) ?_; intro W7 hW7 hg7 hz7; obtain ⟨d0, d1, d2, d3, d4, d5, d6, d7⟩ := Row8.of hW7)
  exact bodyPost_ret (v := .tuple #[.agg #[.int .i64 0, .int .i64 0, .int .i64 0, .int .i64 0, .int .i64 0, .string ByteArray.empty, .int .i64 0, .int .u32 0], .int .i64 9]) (by simp [results, Try.results59, go_sem, d0, d1, d2, d3, d4, d5, d6, d7]) rfl ⟨rfl, hbl.grown hg7 hbl.size (fun k hk => by have := Option.some.inj hk; omega)⟩
set_option maxRecDepth 100000 in
set_option maxHeartbeats 8000000 in
theorem rdecode_1 (s : ByteArray) (w : World) (h1 : s.size ≤ 300) (h2 : 10 ≤ s.size) (h0 : 0 < s.size) (hK : ((s[0].toNat : Nat) : Int) = 1) (tx ix pk pn : Int) (pb : ByteArray) (hpb : pb = s.extract 10 s.size) (htx : tx = (num (getL s.data.toList 1 (5 - 1)) : Nat)) (hix : ix = (num (getL s.data.toList 5 (7 - 5)) : Nat)) (hpk : pk = (num (getL s.data.toList 7 (8 - 7)) : Nat)) (hpn : pn = (num (getL s.data.toList 8 (10 - 8)) : Nat)) :
    Calls Try.prog 59 #[.string s] w fun e w' => (e = if chkI ⟨1, tx, ix, pk, pn, pb, 0, 0⟩ = 0 ∧ encS ⟨1, tx, ix, pk, pn, pb, 0, 0⟩ = s then .returned (.tuple #[.agg #[.int .i64 1, .int .i64 tx, .int .i64 ix, .int .i64 pk, .int .i64 pn, .string pb, .int .i64 0, .int .u32 0], .int .i64 0]) else .returned (.tuple #[.agg #[.int .i64 0, .int .i64 0, .int .i64 0, .int .i64 0, .int .i64 0, .string ByteArray.empty, .int .i64 0, .int .u32 0], .int .i64 6])) ∧ Below w.heap.size w w' := by
  have he := no_size h0
  have k0 : (0 : Int) ≤ (s[0].toNat : Int) := by omega
  have k1 : (s[0].toNat : Int) < 256 := by have := s[0].toNat_lt; omega
  have btx : tx < 4294967296 := by
    have q := num_lt (getL s.data.toList 1 (5 - 1))
    rw [getL_length _ _ _ (by rw [toList_size]; omega)] at q
    have q2 : (256 : Nat) ^ (5 - 1) = 4294967296 := rfl
    omega
  have ctx : 0 ≤ tx := by omega
  have bix : ix < 65536 := by
    have q := num_lt (getL s.data.toList 5 (7 - 5))
    rw [getL_length _ _ _ (by rw [toList_size]; omega)] at q
    have q2 : (256 : Nat) ^ (7 - 5) = 65536 := rfl
    omega
  have cix : 0 ≤ ix := by omega
  have bpk : pk < 256 := by
    have q := num_lt (getL s.data.toList 7 (8 - 7))
    rw [getL_length _ _ _ (by rw [toList_size]; omega)] at q
    have q2 : (256 : Nat) ^ (8 - 7) = 256 := rfl
    omega
  have cpk : 0 ≤ pk := by omega
  have bpn : pn < 65536 := by
    have q := num_lt (getL s.data.toList 8 (10 - 8))
    rw [getL_length _ _ _ (by rw [toList_size]; omega)] at q
    have q2 : (256 : Nat) ^ (10 - 8) = 65536 := rfl
    omega
  have cpn : 0 ≤ pn := by omega
  have hp7 : ((s[7].toNat : Nat) : Int) = pk := by rw [hpk, ← byte_num s 7 (by omega)]
  have j0 : (0 : Int) ≤ (s[7].toNat : Int) := by omega
  have j1 : (s[7].toNat : Int) < 256 := by have := s[7].toNat_lt; omega
  have HP7 := Lib.hid hp7
  clear hp7
  have hps : pb.size ≤ 300 := by rw [hpb, ByteArray.size_extract]; omega
  have HPB := Lib.hid hpb
  clear hpb
  have Xtx := Lib.hid htx
  clear htx
  have Xix := Lib.hid hix
  clear hix
  have Xpk := Lib.hid hpk
  clear hpk
  have Xpn := Lib.hid hpn
  clear hpn
  have HK := Lib.hid hK
  clear hK
  obtain ⟨rb, hrb⟩ : ∃ rb, rb = w.heap.size := ⟨_, rfl⟩
  have HRB := Lib.hid hrb
  clear hrb
  obtain ⟨T, hT⟩ : ∃ T, T = encS ⟨1, tx, ix, pk, pn, pb, 0, 0⟩ := ⟨_, rfl⟩
  obtain ⟨F, hF⟩ : ∃ F, F = chkI ⟨1, tx, ix, pk, pn, pb, 0, 0⟩ := ⟨_, rfl⟩
  have f01 : F = 0 ∨ F = 1 := by rw [hF]; unfold chkI; split <;> simp
  rw [← hT, ← hF]
  have HT := Lib.hid hT
  have HF := Lib.hid hF
  clear hT hF
  obtain ⟨Z, hZ⟩ : ∃ Z, Z = (if F = 0 ∧ T = s then Ending.returned (.tuple #[.agg #[.int .i64 1, .int .i64 tx, .int .i64 ix, .int .i64 pk, .int .i64 pn, .string pb, .int .i64 0, .int .u32 0], .int .i64 0]) else Ending.returned (.tuple #[.agg #[.int .i64 0, .int .i64 0, .int .i64 0, .int .i64 0, .int .i64 0, .string ByteArray.empty, .int .i64 0, .int .u32 0], .int .i64 6])) := ⟨_, rfl⟩
  rw [← hZ]
  have HZ := Lib.hid hZ
  clear hZ
  go_enter Try.func59, Try.ntmps59
  go_upto_region 1 with (refine wpList_allocArr rfl 74 rfl _ zero74 ?_; intro W1 hW1 hg1 hz1; rw [← HRB.out] at hW1 ⊢; have H1 := Lib.hid hW1; clear hW1)
  obtain ⟨eb, heb⟩ : ∃ eb, eb = W1.heap.size := ⟨_, rfl⟩
  have HEB := Lib.hid heb
  clear heb
  go_upto_region 4 with (first
    | (refine wpList_allocArr rfl 74 rfl _ zero74 ?_; intro W2 hW2 hg2 hz2; rw [← HEB.out] at hW2 ⊢; have H2 := Lib.hid hW2; clear hW2)
    | (refine wpList_storeArr rfl 74 _ _ rfl eb #[.int .i64 ((s[0].toNat : Nat) : Int), .int .i64 0, .int .i64 0, .int .i64 0, .int .i64 0, .string ⟨#[]⟩, .int .i64 0, .int .u32 0] rfl rfl 74 _ H2.out size74 rfl (ent_one _ _ _ _ _ _ _ _) ?_; intro W3 hW3 hg3 hz3; rw [HK.out] at hW3; have H3 := Lib.hid hW3; clear hW3))
  have l1 : rb < W1.heap.size := (Array.getElem?_eq_some_iff.1 H1.out).1
  have hne : rb ≠ eb := by have := HEB.out; omega
  have H5 : Hid (W3.heap[rb]? = _) := Lib.hid (((hg3.block rb (Nat.lt_of_lt_of_le l1 hg2.size) (fun e => hne (Option.some.inj e))).trans (hg2.block rb l1 (by simp))).trans H1.out)
  have hbl : Below w.heap.size w W3 := (((Below.refl _ _).grown hg1 (Nat.le_refl _) (by simp)).grown hg2 hg1.size (by simp)).grown hg3 (Nat.le_trans hg1.size hg2.size) (fun k hk => by have := Option.some.inj hk; have := HEB.out; have := hg1.size; omega)
  have hrw : w.heap.size ≤ rb := by rw [HRB.out]; exact Nat.le_refl _
  have hew : w.heap.size ≤ eb := by have := HEB.out; have := hg1.size; omega
  rw [HK.out]
  clear k0 k1 hg1 hg2 hg3 hz1 hz2 hz3 l1
  obtain ⟨e0, e1, e2, e3, e4, e5, e6, e7⟩ := Row8.of H3.out
  have f1 : W3.frozen? ⟨eb, 1, none⟩ = false := by simp [World.frozen?, H3.out]
  have f2 : W3.frozen? ⟨eb, 2, none⟩ = false := by simp [World.frozen?, H3.out]
  go_upto_region 17 with (first
    | (go_at_call 82; with_reducible refine (narrow_at s 1 5 _ (by omega) tx Xtx.out).mono ?_; rintro e w9 ⟨rfl, rfl⟩)
    | (go_at_call 82; with_reducible refine (narrow_at s 5 7 _ (by omega) ix Xix.out).mono ?_; rintro e w9 ⟨rfl, rfl⟩))
  obtain ⟨hW4, hg4⟩ := two_stores_b H3.out 1 2 (.int .i64 tx) (.int .i64 ix)
  clear e0 e1 e2 e3 e4 e5 e6 e7 f1 f2
  generalize (World.setCell _ { block := eb, off := 1 } (Value.int IntKind.i64 tx)).setCell { block := eb, off := 2 } (Value.int IntKind.i64 ix) = W4 at hW4 hg4 ⊢
  replace hW4 : W4.heap[eb]? = some (.cells #[.int .i64 1, .int .i64 tx, .int .i64 ix, .int .i64 0, .int .i64 0, .string ⟨#[]⟩, .int .i64 0, .int .u32 0] 74 (0, 0)) := hW4
  have H6 : Hid (W4.heap[rb]? = _) := Lib.hid ((hg4.block rb (Array.getElem?_eq_some_iff.1 H5.out).1 (fun e => hne (Option.some.inj e))).trans H5.out)
  have hb4 : Below w.heap.size w W4 := hbl.grown hg4 hbl.size (fun k hk => by have := Option.some.inj hk; omega)
  clear hg4 H5 hbl H3
  obtain ⟨d0, d1, d2, d3, d4, d5, d6, d7⟩ := Row8.of hW4
  go_upto_region 18 with (fail)
  refine wp_region_still_tail 10 (by kernel_rfl) (by kernel_rfl) ?_
  simp only [List.take_succ_cons, List.take_zero, List.drop_succ_cons, List.drop_zero]
  have H4 : Hid (W4.drew.heap[eb]? = _) := Lib.hid hW4
  have H7 : Hid (W4.drew.heap[rb]? = _) := Lib.hid H6.out
  replace hb4 := hb4.drew
  have i7 : (7 : Int) < (s.size : Int) := by omega
  change wpStill _ _ W4.drew _ _ _
  still_step
  still_step
  still_step
  rw [HP7.out, IntWalk.i64_in pk (by omega)]
  still_step
  still_step
  still_call (narrow_still s 8 10 _ (by omega) pn Xpn.out)
  still_step
  still_step
  rw [← HPB.out]
  still_step
  still_step
  refine wpStill_nil ?_
  change wpList _ _ _ _ _ W4.drew
  clear d0 d1 d2 d3 d4 d5 d6 d7 hW4 H6
  generalize W4.drew = W5 at H4 H7 hb4 ⊢
  go_upto_region 19 with (refine wpList_storeMid rfl 72 _ _ rfl eb 3 #[.int .i64 pk, .int .i64 pn, .string pb] rfl rfl 74 _ H4.out size72 (Nat.le_of_ble_eq_true rfl) (page_one _ _ _) ?_; intro W6 hW6 hg6 hz6)
  have hR : W6.heap[eb]? = some (.cells #[.int .i64 1, .int .i64 tx, .int .i64 ix, .int .i64 pk, .int .i64 pn, .string pb, .int .i64 0, .int .u32 0] 74 (0, 0)) := hW6
  have H8 : Hid (W6.heap[rb]? = _) := Lib.hid ((hg6.block rb (Array.getElem?_eq_some_iff.1 H7.out).1 (fun e => hne (Option.some.inj e))).trans H7.out)
  have hb5 : Below w.heap.size w W6 := hb4.grown hg6 hb4.size (fun k hk => by have := Option.some.inj hk; omega)
  clear hW6 hg6 hz6 H7 H4 hb4
  obtain ⟨d0, d1, d2, d3, d4, d5, d6, d7⟩ := Row8.of hR
  go_upto_region 23 with (go_at_call 53; with_reducible refine (rencode_any 1 tx ix pk pn 0 0 pb _ hps (by omega) (by omega)).mono ?_; rintro e w12 ⟨rfl, hb12⟩; rw [← HT.out, ← HF.out])
  clear d0 d1 d2 d3 d4 d5 d6 d7
  obtain ⟨d0, d1, d2, d3, d4, d5, d6, d7⟩ := (Row8.of hR).below hb12 ((Array.getElem?_eq_some_iff.1 hR).1)
  have hres : Hid (w12.heap[rb]? = _) := Lib.hid ((hb12.block rb (Array.getElem?_eq_some_iff.1 H8.out).1).trans H8.out)
  have hbl := hb5.trans (hb12.mono hb5.size)
  clear hb5 H8 hR hb12
  rcases f01 with f | f
  · subst f
    by_cases hT : T = s
    · subst hT
      go_wp2_with (refine wpList_storeArr rfl 74 _ _ rfl rb #[.int .i64 1, .int .i64 tx, .int .i64 ix, .int .i64 pk, .int .i64 pn, .string pb, .int .i64 0, .int .u32 0] rfl rfl 74 _ hres.out size74 rfl (ent_one _ _ _ _ _ _ _ _) ?_; intro W7 hW7 hg7 hz7; clear d0 d1 d2 d3 d4 d5 d6 d7; obtain ⟨d0, d1, d2, d3, d4, d5, d6, d7⟩ := Row8.of hW7)
      exact bodyPost_ret (v := .tuple #[.agg #[.int .i64 1, .int .i64 tx, .int .i64 ix, .int .i64 pk, .int .i64 pn, .string pb, .int .i64 0, .int .u32 0], .int .i64 0]) (by simp [results, Try.results59, go_sem, d0, d1, d2, d3, d4, d5, d6, d7]) rfl ⟨by rw [HZ.out]; simp, hbl.grown hg7 hbl.size (fun k hk => by have := Option.some.inj hk; omega)⟩
    · have b1 := str_ne_b hT
      have HN := Lib.hid hT
      clear hT
      go_wp2_with (refine wpList_storeArr rfl 74 _ _ rfl rb #[.int .i64 0, .int .i64 0, .int .i64 0, .int .i64 0, .int .i64 0, .string ByteArray.empty, .int .i64 0, .int .u32 0] rfl rfl 74 _ hres.out size74 rfl (ent_one _ _ _ _ _ _ _ _) ?_; intro W7 hW7 hg7 hz7; clear d0 d1 d2 d3 d4 d5 d6 d7; obtain ⟨d0, d1, d2, d3, d4, d5, d6, d7⟩ := Row8.of hW7)
      exact bodyPost_ret (v := .tuple #[.agg #[.int .i64 0, .int .i64 0, .int .i64 0, .int .i64 0, .int .i64 0, .string ByteArray.empty, .int .i64 0, .int .u32 0], .int .i64 6]) (by simp [results, Try.results59, go_sem, d0, d1, d2, d3, d4, d5, d6, d7]) rfl ⟨by rw [HZ.out]; simp [HN.out], hbl.grown hg7 hbl.size (fun k hk => by have := Option.some.inj hk; omega)⟩
  · subst f
    go_wp2_with (refine wpList_storeArr rfl 74 _ _ rfl rb #[.int .i64 0, .int .i64 0, .int .i64 0, .int .i64 0, .int .i64 0, .string ByteArray.empty, .int .i64 0, .int .u32 0] rfl rfl 74 _ hres.out size74 rfl (ent_one _ _ _ _ _ _ _ _) ?_; intro W7 hW7 hg7 hz7; clear d0 d1 d2 d3 d4 d5 d6 d7; obtain ⟨d0, d1, d2, d3, d4, d5, d6, d7⟩ := Row8.of hW7)
    exact bodyPost_ret (v := .tuple #[.agg #[.int .i64 0, .int .i64 0, .int .i64 0, .int .i64 0, .int .i64 0, .string ByteArray.empty, .int .i64 0, .int .u32 0], .int .i64 6]) (by simp [results, Try.results59, go_sem, d0, d1, d2, d3, d4, d5, d6, d7]) rfl ⟨by rw [HZ.out]; simp, hbl.grown hg7 hbl.size (fun k hk => by have := Option.some.inj hk; omega)⟩
set_option maxRecDepth 100000 in
set_option maxHeartbeats 8000000 in
theorem rdecode_2 (s : ByteArray) (w : World) (h1 : s.size ≤ 300) (h2 : 13 ≤ s.size) (h0 : 0 < s.size) (hK : ((s[0].toNat : Nat) : Int) = 2) (tx ix cnt sum : Int) (htx : tx = (num (getL s.data.toList 1 (5 - 1)) : Nat)) (hix : ix = (num (getL s.data.toList 5 (7 - 5)) : Nat)) (hcnt : cnt = (num (getL s.data.toList 7 (9 - 7)) : Nat)) (hsum : sum = (num (getL s.data.toList 9 (13 - 9)) : Nat)) :
    Calls Try.prog 59 #[.string s] w fun e w' => (e = if chkI ⟨2, tx, ix, 0, 0, ByteArray.empty, cnt, sum⟩ = 0 ∧ encS ⟨2, tx, ix, 0, 0, ByteArray.empty, cnt, sum⟩ = s then .returned (.tuple #[.agg #[.int .i64 2, .int .i64 tx, .int .i64 ix, .int .i64 0, .int .i64 0, .string ByteArray.empty, .int .i64 cnt, .int .u32 sum], .int .i64 0]) else .returned (.tuple #[.agg #[.int .i64 0, .int .i64 0, .int .i64 0, .int .i64 0, .int .i64 0, .string ByteArray.empty, .int .i64 0, .int .u32 0], .int .i64 6])) ∧ Below w.heap.size w w' := by
  have he := no_size h0
  have k0 : (0 : Int) ≤ (s[0].toNat : Int) := by omega
  have k1 : (s[0].toNat : Int) < 256 := by have := s[0].toNat_lt; omega
  have btx : tx < 4294967296 := by
    have q := num_lt (getL s.data.toList 1 (5 - 1))
    rw [getL_length _ _ _ (by rw [toList_size]; omega)] at q
    have q2 : (256 : Nat) ^ (5 - 1) = 4294967296 := rfl
    omega
  have ctx : 0 ≤ tx := by omega
  have bix : ix < 65536 := by
    have q := num_lt (getL s.data.toList 5 (7 - 5))
    rw [getL_length _ _ _ (by rw [toList_size]; omega)] at q
    have q2 : (256 : Nat) ^ (7 - 5) = 65536 := rfl
    omega
  have cix : 0 ≤ ix := by omega
  have bcnt : cnt < 65536 := by
    have q := num_lt (getL s.data.toList 7 (9 - 7))
    rw [getL_length _ _ _ (by rw [toList_size]; omega)] at q
    have q2 : (256 : Nat) ^ (9 - 7) = 65536 := rfl
    omega
  have ccnt : 0 ≤ cnt := by omega
  have bsum : sum < 4294967296 := by
    have q := num_lt (getL s.data.toList 9 (13 - 9))
    rw [getL_length _ _ _ (by rw [toList_size]; omega)] at q
    have q2 : (256 : Nat) ^ (13 - 9) = 4294967296 := rfl
    omega
  have csum : 0 ≤ sum := by omega
  have Xtx := Lib.hid htx
  clear htx
  have Xix := Lib.hid hix
  clear hix
  have Xcnt := Lib.hid hcnt
  clear hcnt
  have Xsum := Lib.hid hsum
  clear hsum
  have HK := Lib.hid hK
  clear hK
  obtain ⟨rb, hrb⟩ : ∃ rb, rb = w.heap.size := ⟨_, rfl⟩
  have HRB := Lib.hid hrb
  clear hrb
  obtain ⟨T, hT⟩ : ∃ T, T = encS ⟨2, tx, ix, 0, 0, ByteArray.empty, cnt, sum⟩ := ⟨_, rfl⟩
  obtain ⟨F, hF⟩ : ∃ F, F = chkI ⟨2, tx, ix, 0, 0, ByteArray.empty, cnt, sum⟩ := ⟨_, rfl⟩
  have f01 : F = 0 ∨ F = 1 := by rw [hF]; unfold chkI; split <;> simp
  rw [← hT, ← hF]
  have HT := Lib.hid hT
  have HF := Lib.hid hF
  clear hT hF
  obtain ⟨Z, hZ⟩ : ∃ Z, Z = (if F = 0 ∧ T = s then Ending.returned (.tuple #[.agg #[.int .i64 2, .int .i64 tx, .int .i64 ix, .int .i64 0, .int .i64 0, .string ByteArray.empty, .int .i64 cnt, .int .u32 sum], .int .i64 0]) else Ending.returned (.tuple #[.agg #[.int .i64 0, .int .i64 0, .int .i64 0, .int .i64 0, .int .i64 0, .string ByteArray.empty, .int .i64 0, .int .u32 0], .int .i64 6])) := ⟨_, rfl⟩
  rw [← hZ]
  have HZ := Lib.hid hZ
  clear hZ
  go_enter Try.func59, Try.ntmps59
  go_upto_region 1 with (refine wpList_allocArr rfl 74 rfl _ zero74 ?_; intro W1 hW1 hg1 hz1; rw [← HRB.out] at hW1 ⊢; have H1 := Lib.hid hW1; clear hW1)
  obtain ⟨eb, heb⟩ : ∃ eb, eb = W1.heap.size := ⟨_, rfl⟩
  have HEB := Lib.hid heb
  clear heb
  go_upto_region 4 with (first
    | (refine wpList_allocArr rfl 74 rfl _ zero74 ?_; intro W2 hW2 hg2 hz2; rw [← HEB.out] at hW2 ⊢; have H2 := Lib.hid hW2; clear hW2)
    | (refine wpList_storeArr rfl 74 _ _ rfl eb #[.int .i64 ((s[0].toNat : Nat) : Int), .int .i64 0, .int .i64 0, .int .i64 0, .int .i64 0, .string ⟨#[]⟩, .int .i64 0, .int .u32 0] rfl rfl 74 _ H2.out size74 rfl (ent_one _ _ _ _ _ _ _ _) ?_; intro W3 hW3 hg3 hz3; rw [HK.out] at hW3; have H3 := Lib.hid hW3; clear hW3))
  have l1 : rb < W1.heap.size := (Array.getElem?_eq_some_iff.1 H1.out).1
  have hne : rb ≠ eb := by have := HEB.out; omega
  have H5 : Hid (W3.heap[rb]? = _) := Lib.hid (((hg3.block rb (Nat.lt_of_lt_of_le l1 hg2.size) (fun e => hne (Option.some.inj e))).trans (hg2.block rb l1 (by simp))).trans H1.out)
  have hbl : Below w.heap.size w W3 := (((Below.refl _ _).grown hg1 (Nat.le_refl _) (by simp)).grown hg2 hg1.size (by simp)).grown hg3 (Nat.le_trans hg1.size hg2.size) (fun k hk => by have := Option.some.inj hk; have := HEB.out; have := hg1.size; omega)
  have hrw : w.heap.size ≤ rb := by rw [HRB.out]; exact Nat.le_refl _
  have hew : w.heap.size ≤ eb := by have := HEB.out; have := hg1.size; omega
  rw [HK.out]
  clear k0 k1 hg1 hg2 hg3 hz1 hz2 hz3 l1
  obtain ⟨e0, e1, e2, e3, e4, e5, e6, e7⟩ := Row8.of H3.out
  have f1 : W3.frozen? ⟨eb, 1, none⟩ = false := by simp [World.frozen?, H3.out]
  have f2 : W3.frozen? ⟨eb, 2, none⟩ = false := by simp [World.frozen?, H3.out]
  go_upto_region 17 with (first
    | (go_at_call 82; with_reducible refine (narrow_at s 1 5 _ (by omega) tx Xtx.out).mono ?_; rintro e w9 ⟨rfl, rfl⟩)
    | (go_at_call 82; with_reducible refine (narrow_at s 5 7 _ (by omega) ix Xix.out).mono ?_; rintro e w9 ⟨rfl, rfl⟩))
  obtain ⟨hW4, hg4⟩ := two_stores_b H3.out 1 2 (.int .i64 tx) (.int .i64 ix)
  clear e0 e1 e2 e3 e4 e5 e6 e7 f1 f2
  generalize (World.setCell _ { block := eb, off := 1 } (Value.int IntKind.i64 tx)).setCell { block := eb, off := 2 } (Value.int IntKind.i64 ix) = W4 at hW4 hg4 ⊢
  replace hW4 : W4.heap[eb]? = some (.cells #[.int .i64 2, .int .i64 tx, .int .i64 ix, .int .i64 0, .int .i64 0, .string ⟨#[]⟩, .int .i64 0, .int .u32 0] 74 (0, 0)) := hW4
  have H6 : Hid (W4.heap[rb]? = _) := Lib.hid ((hg4.block rb (Array.getElem?_eq_some_iff.1 H5.out).1 (fun e => hne (Option.some.inj e))).trans H5.out)
  have hb4 : Below w.heap.size w W4 := hbl.grown hg4 hbl.size (fun k hk => by have := Option.some.inj hk; omega)
  clear hg4 H5 hbl H3
  obtain ⟨d0, d1, d2, d3, d4, d5, d6, d7⟩ := Row8.of hW4
  have f6 : W4.frozen? ⟨eb, 6, none⟩ = false := by simp [World.frozen?, hW4]
  have f7 : W4.frozen? ⟨eb, 7, none⟩ = false := by simp [World.frozen?, hW4]
  have HW4 := Lib.hid hW4
  clear hW4
  go_upto_region 22 with (first
    | (go_at_call 82; with_reducible refine (narrow_at s 7 9 _ (by omega) cnt Xcnt.out).mono ?_; rintro e w9 ⟨rfl, rfl⟩)
    | (go_at_call 82; with_reducible refine (narrow_at s 9 13 _ (by omega) sum Xsum.out).mono ?_; rintro e w9 ⟨rfl, rfl⟩))
  obtain ⟨hW6, hg6⟩ := two_stores_b HW4.out 6 7 (.int .i64 cnt) (.int .u32 sum)
  clear d0 d1 d2 d3 d4 d5 d6 d7 f6 f7
  generalize (World.setCell _ { block := eb, off := 6 } (Value.int IntKind.i64 cnt)).setCell { block := eb, off := 7 } (Value.int IntKind.u32 sum) = W6 at hW6 hg6 ⊢
  have hR : W6.heap[eb]? = some (.cells #[.int .i64 2, .int .i64 tx, .int .i64 ix, .int .i64 0, .int .i64 0, .string ByteArray.empty, .int .i64 cnt, .int .u32 sum] 74 (0, 0)) := hW6
  have H8 : Hid (W6.heap[rb]? = _) := Lib.hid ((hg6.block rb (Array.getElem?_eq_some_iff.1 H6.out).1 (fun e => hne (Option.some.inj e))).trans H6.out)
  have hb5 : Below w.heap.size w W6 := hb4.grown hg6 hb4.size (fun k hk => by have := Option.some.inj hk; omega)
  clear hW6 hg6 H6 hb4 HW4
  obtain ⟨d0, d1, d2, d3, d4, d5, d6, d7⟩ := Row8.of hR
  go_upto_region 23 with (go_at_call 53; with_reducible refine (rencode_any 2 tx ix 0 0 cnt sum ByteArray.empty _ (by decide) csum bsum).mono ?_; rintro e w12 ⟨rfl, hb12⟩; rw [← HT.out, ← HF.out])
  clear d0 d1 d2 d3 d4 d5 d6 d7
  obtain ⟨d0, d1, d2, d3, d4, d5, d6, d7⟩ := (Row8.of hR).below hb12 ((Array.getElem?_eq_some_iff.1 hR).1)
  have hres : Hid (w12.heap[rb]? = _) := Lib.hid ((hb12.block rb (Array.getElem?_eq_some_iff.1 H8.out).1).trans H8.out)
  have hbl := hb5.trans (hb12.mono hb5.size)
  clear hb5 H8 hR hb12
  rcases f01 with f | f
  · subst f
    by_cases hT : T = s
    · subst hT
      go_wp2_with (refine wpList_storeArr rfl 74 _ _ rfl rb #[.int .i64 2, .int .i64 tx, .int .i64 ix, .int .i64 0, .int .i64 0, .string ByteArray.empty, .int .i64 cnt, .int .u32 sum] rfl rfl 74 _ hres.out size74 rfl (ent_one _ _ _ _ _ _ _ _) ?_; intro W7 hW7 hg7 hz7; clear d0 d1 d2 d3 d4 d5 d6 d7; obtain ⟨d0, d1, d2, d3, d4, d5, d6, d7⟩ := Row8.of hW7)
      exact bodyPost_ret (v := .tuple #[.agg #[.int .i64 2, .int .i64 tx, .int .i64 ix, .int .i64 0, .int .i64 0, .string ByteArray.empty, .int .i64 cnt, .int .u32 sum], .int .i64 0]) (by simp [results, Try.results59, go_sem, d0, d1, d2, d3, d4, d5, d6, d7]) rfl ⟨by rw [HZ.out]; simp, hbl.grown hg7 hbl.size (fun k hk => by have := Option.some.inj hk; omega)⟩
    · have b1 := str_ne_b hT
      have HN := Lib.hid hT
      clear hT
      go_wp2_with (refine wpList_storeArr rfl 74 _ _ rfl rb #[.int .i64 0, .int .i64 0, .int .i64 0, .int .i64 0, .int .i64 0, .string ByteArray.empty, .int .i64 0, .int .u32 0] rfl rfl 74 _ hres.out size74 rfl (ent_one _ _ _ _ _ _ _ _) ?_; intro W7 hW7 hg7 hz7; clear d0 d1 d2 d3 d4 d5 d6 d7; obtain ⟨d0, d1, d2, d3, d4, d5, d6, d7⟩ := Row8.of hW7)
      exact bodyPost_ret (v := .tuple #[.agg #[.int .i64 0, .int .i64 0, .int .i64 0, .int .i64 0, .int .i64 0, .string ByteArray.empty, .int .i64 0, .int .u32 0], .int .i64 6]) (by simp [results, Try.results59, go_sem, d0, d1, d2, d3, d4, d5, d6, d7]) rfl ⟨by rw [HZ.out]; simp [HN.out], hbl.grown hg7 hbl.size (fun k hk => by have := Option.some.inj hk; omega)⟩
  · subst f
    go_wp2_with (refine wpList_storeArr rfl 74 _ _ rfl rb #[.int .i64 0, .int .i64 0, .int .i64 0, .int .i64 0, .int .i64 0, .string ByteArray.empty, .int .i64 0, .int .u32 0] rfl rfl 74 _ hres.out size74 rfl (ent_one _ _ _ _ _ _ _ _) ?_; intro W7 hW7 hg7 hz7; clear d0 d1 d2 d3 d4 d5 d6 d7; obtain ⟨d0, d1, d2, d3, d4, d5, d6, d7⟩ := Row8.of hW7)
    exact bodyPost_ret (v := .tuple #[.agg #[.int .i64 0, .int .i64 0, .int .i64 0, .int .i64 0, .int .i64 0, .string ByteArray.empty, .int .i64 0, .int .u32 0], .int .i64 6]) (by simp [results, Try.results59, go_sem, d0, d1, d2, d3, d4, d5, d6, d7]) rfl ⟨by rw [HZ.out]; simp, hbl.grown hg7 hbl.size (fun k hk => by have := Option.some.inj hk; omega)⟩
set_option maxRecDepth 100000 in
set_option maxHeartbeats 8000000 in
theorem rdecode_3 (s : ByteArray) (w : World) (h1 : s.size ≤ 300) (h2 : 7 ≤ s.size) (h0 : 0 < s.size) (hK : ((s[0].toNat : Nat) : Int) = 3) (tx ix : Int) (htx : tx = (num (getL s.data.toList 1 (5 - 1)) : Nat)) (hix : ix = (num (getL s.data.toList 5 (7 - 5)) : Nat)) :
    Calls Try.prog 59 #[.string s] w fun e w' => (e = if chkI ⟨3, tx, ix, 0, 0, ByteArray.empty, 0, 0⟩ = 0 ∧ encS ⟨3, tx, ix, 0, 0, ByteArray.empty, 0, 0⟩ = s then .returned (.tuple #[.agg #[.int .i64 3, .int .i64 tx, .int .i64 ix, .int .i64 0, .int .i64 0, .string ByteArray.empty, .int .i64 0, .int .u32 0], .int .i64 0]) else .returned (.tuple #[.agg #[.int .i64 0, .int .i64 0, .int .i64 0, .int .i64 0, .int .i64 0, .string ByteArray.empty, .int .i64 0, .int .u32 0], .int .i64 6])) ∧ Below w.heap.size w w' := by
  have he := no_size h0
  have k0 : (0 : Int) ≤ (s[0].toNat : Int) := by omega
  have k1 : (s[0].toNat : Int) < 256 := by have := s[0].toNat_lt; omega
  have btx : tx < 4294967296 := by
    have q := num_lt (getL s.data.toList 1 (5 - 1))
    rw [getL_length _ _ _ (by rw [toList_size]; omega)] at q
    have q2 : (256 : Nat) ^ (5 - 1) = 4294967296 := rfl
    omega
  have ctx : 0 ≤ tx := by omega
  have bix : ix < 65536 := by
    have q := num_lt (getL s.data.toList 5 (7 - 5))
    rw [getL_length _ _ _ (by rw [toList_size]; omega)] at q
    have q2 : (256 : Nat) ^ (7 - 5) = 65536 := rfl
    omega
  have cix : 0 ≤ ix := by omega
  have Xtx := Lib.hid htx
  clear htx
  have Xix := Lib.hid hix
  clear hix
  have HK := Lib.hid hK
  clear hK
  obtain ⟨rb, hrb⟩ : ∃ rb, rb = w.heap.size := ⟨_, rfl⟩
  have HRB := Lib.hid hrb
  clear hrb
  obtain ⟨T, hT⟩ : ∃ T, T = encS ⟨3, tx, ix, 0, 0, ByteArray.empty, 0, 0⟩ := ⟨_, rfl⟩
  obtain ⟨F, hF⟩ : ∃ F, F = chkI ⟨3, tx, ix, 0, 0, ByteArray.empty, 0, 0⟩ := ⟨_, rfl⟩
  have f01 : F = 0 ∨ F = 1 := by rw [hF]; unfold chkI; split <;> simp
  rw [← hT, ← hF]
  have HT := Lib.hid hT
  have HF := Lib.hid hF
  clear hT hF
  obtain ⟨Z, hZ⟩ : ∃ Z, Z = (if F = 0 ∧ T = s then Ending.returned (.tuple #[.agg #[.int .i64 3, .int .i64 tx, .int .i64 ix, .int .i64 0, .int .i64 0, .string ByteArray.empty, .int .i64 0, .int .u32 0], .int .i64 0]) else Ending.returned (.tuple #[.agg #[.int .i64 0, .int .i64 0, .int .i64 0, .int .i64 0, .int .i64 0, .string ByteArray.empty, .int .i64 0, .int .u32 0], .int .i64 6])) := ⟨_, rfl⟩
  rw [← hZ]
  have HZ := Lib.hid hZ
  clear hZ
  go_enter Try.func59, Try.ntmps59
  go_upto_region 1 with (refine wpList_allocArr rfl 74 rfl _ zero74 ?_; intro W1 hW1 hg1 hz1; rw [← HRB.out] at hW1 ⊢; have H1 := Lib.hid hW1; clear hW1)
  obtain ⟨eb, heb⟩ : ∃ eb, eb = W1.heap.size := ⟨_, rfl⟩
  have HEB := Lib.hid heb
  clear heb
  go_upto_region 4 with (first
    | (refine wpList_allocArr rfl 74 rfl _ zero74 ?_; intro W2 hW2 hg2 hz2; rw [← HEB.out] at hW2 ⊢; have H2 := Lib.hid hW2; clear hW2)
    | (refine wpList_storeArr rfl 74 _ _ rfl eb #[.int .i64 ((s[0].toNat : Nat) : Int), .int .i64 0, .int .i64 0, .int .i64 0, .int .i64 0, .string ⟨#[]⟩, .int .i64 0, .int .u32 0] rfl rfl 74 _ H2.out size74 rfl (ent_one _ _ _ _ _ _ _ _) ?_; intro W3 hW3 hg3 hz3; rw [HK.out] at hW3; have H3 := Lib.hid hW3; clear hW3))
  have l1 : rb < W1.heap.size := (Array.getElem?_eq_some_iff.1 H1.out).1
  have hne : rb ≠ eb := by have := HEB.out; omega
  have H5 : Hid (W3.heap[rb]? = _) := Lib.hid (((hg3.block rb (Nat.lt_of_lt_of_le l1 hg2.size) (fun e => hne (Option.some.inj e))).trans (hg2.block rb l1 (by simp))).trans H1.out)
  have hbl : Below w.heap.size w W3 := (((Below.refl _ _).grown hg1 (Nat.le_refl _) (by simp)).grown hg2 hg1.size (by simp)).grown hg3 (Nat.le_trans hg1.size hg2.size) (fun k hk => by have := Option.some.inj hk; have := HEB.out; have := hg1.size; omega)
  have hrw : w.heap.size ≤ rb := by rw [HRB.out]; exact Nat.le_refl _
  have hew : w.heap.size ≤ eb := by have := HEB.out; have := hg1.size; omega
  rw [HK.out]
  clear k0 k1 hg1 hg2 hg3 hz1 hz2 hz3 l1
  obtain ⟨e0, e1, e2, e3, e4, e5, e6, e7⟩ := Row8.of H3.out
  have f1 : W3.frozen? ⟨eb, 1, none⟩ = false := by simp [World.frozen?, H3.out]
  have f2 : W3.frozen? ⟨eb, 2, none⟩ = false := by simp [World.frozen?, H3.out]
  go_upto_region 17 with (first
    | (go_at_call 82; with_reducible refine (narrow_at s 1 5 _ (by omega) tx Xtx.out).mono ?_; rintro e w9 ⟨rfl, rfl⟩)
    | (go_at_call 82; with_reducible refine (narrow_at s 5 7 _ (by omega) ix Xix.out).mono ?_; rintro e w9 ⟨rfl, rfl⟩))
  obtain ⟨hW4, hg4⟩ := two_stores_b H3.out 1 2 (.int .i64 tx) (.int .i64 ix)
  clear e0 e1 e2 e3 e4 e5 e6 e7 f1 f2
  generalize (World.setCell _ { block := eb, off := 1 } (Value.int IntKind.i64 tx)).setCell { block := eb, off := 2 } (Value.int IntKind.i64 ix) = W4 at hW4 hg4 ⊢
  replace hW4 : W4.heap[eb]? = some (.cells #[.int .i64 3, .int .i64 tx, .int .i64 ix, .int .i64 0, .int .i64 0, .string ⟨#[]⟩, .int .i64 0, .int .u32 0] 74 (0, 0)) := hW4
  have H6 : Hid (W4.heap[rb]? = _) := Lib.hid ((hg4.block rb (Array.getElem?_eq_some_iff.1 H5.out).1 (fun e => hne (Option.some.inj e))).trans H5.out)
  have hb4 : Below w.heap.size w W4 := hbl.grown hg4 hbl.size (fun k hk => by have := Option.some.inj hk; omega)
  clear hg4 H5 hbl H3
  obtain ⟨d0, d1, d2, d3, d4, d5, d6, d7⟩ := Row8.of hW4
  go_upto_region 22 with (fail)
  have hR : W4.heap[eb]? = some (.cells #[.int .i64 3, .int .i64 tx, .int .i64 ix, .int .i64 0, .int .i64 0, .string ByteArray.empty, .int .i64 0, .int .u32 0] 74 (0, 0)) := hW4
  have H8 := H6
  have hb5 := hb4
  clear hW4 H6 hb4 d0 d1 d2 d3 d4 d5 d6 d7
  obtain ⟨d0, d1, d2, d3, d4, d5, d6, d7⟩ := Row8.of hR
  go_upto_region 23 with (go_at_call 53; with_reducible refine (rencode_any 3 tx ix 0 0 0 0 ByteArray.empty _ (by decide) (by omega) (by omega)).mono ?_; rintro e w12 ⟨rfl, hb12⟩; rw [← HT.out, ← HF.out])
  clear d0 d1 d2 d3 d4 d5 d6 d7
  obtain ⟨d0, d1, d2, d3, d4, d5, d6, d7⟩ := (Row8.of hR).below hb12 ((Array.getElem?_eq_some_iff.1 hR).1)
  have hres : Hid (w12.heap[rb]? = _) := Lib.hid ((hb12.block rb (Array.getElem?_eq_some_iff.1 H8.out).1).trans H8.out)
  have hbl := hb5.trans (hb12.mono hb5.size)
  clear hb5 H8 hR hb12
  rcases f01 with f | f
  · subst f
    by_cases hT : T = s
    · subst hT
      go_wp2_with (refine wpList_storeArr rfl 74 _ _ rfl rb #[.int .i64 3, .int .i64 tx, .int .i64 ix, .int .i64 0, .int .i64 0, .string ByteArray.empty, .int .i64 0, .int .u32 0] rfl rfl 74 _ hres.out size74 rfl (ent_one _ _ _ _ _ _ _ _) ?_; intro W7 hW7 hg7 hz7; clear d0 d1 d2 d3 d4 d5 d6 d7; obtain ⟨d0, d1, d2, d3, d4, d5, d6, d7⟩ := Row8.of hW7)
      exact bodyPost_ret (v := .tuple #[.agg #[.int .i64 3, .int .i64 tx, .int .i64 ix, .int .i64 0, .int .i64 0, .string ByteArray.empty, .int .i64 0, .int .u32 0], .int .i64 0]) (by simp [results, Try.results59, go_sem, d0, d1, d2, d3, d4, d5, d6, d7]) rfl ⟨by rw [HZ.out]; simp, hbl.grown hg7 hbl.size (fun k hk => by have := Option.some.inj hk; omega)⟩
    · have b1 := str_ne_b hT
      have HN := Lib.hid hT
      clear hT
      go_wp2_with (refine wpList_storeArr rfl 74 _ _ rfl rb #[.int .i64 0, .int .i64 0, .int .i64 0, .int .i64 0, .int .i64 0, .string ByteArray.empty, .int .i64 0, .int .u32 0] rfl rfl 74 _ hres.out size74 rfl (ent_one _ _ _ _ _ _ _ _) ?_; intro W7 hW7 hg7 hz7; clear d0 d1 d2 d3 d4 d5 d6 d7; obtain ⟨d0, d1, d2, d3, d4, d5, d6, d7⟩ := Row8.of hW7)
      exact bodyPost_ret (v := .tuple #[.agg #[.int .i64 0, .int .i64 0, .int .i64 0, .int .i64 0, .int .i64 0, .string ByteArray.empty, .int .i64 0, .int .u32 0], .int .i64 6]) (by simp [results, Try.results59, go_sem, d0, d1, d2, d3, d4, d5, d6, d7]) rfl ⟨by rw [HZ.out]; simp [HN.out], hbl.grown hg7 hbl.size (fun k hk => by have := Option.some.inj hk; omega)⟩
  · subst f
    go_wp2_with (refine wpList_storeArr rfl 74 _ _ rfl rb #[.int .i64 0, .int .i64 0, .int .i64 0, .int .i64 0, .int .i64 0, .string ByteArray.empty, .int .i64 0, .int .u32 0] rfl rfl 74 _ hres.out size74 rfl (ent_one _ _ _ _ _ _ _ _) ?_; intro W7 hW7 hg7 hz7; clear d0 d1 d2 d3 d4 d5 d6 d7; obtain ⟨d0, d1, d2, d3, d4, d5, d6, d7⟩ := Row8.of hW7)
    exact bodyPost_ret (v := .tuple #[.agg #[.int .i64 0, .int .i64 0, .int .i64 0, .int .i64 0, .int .i64 0, .string ByteArray.empty, .int .i64 0, .int .u32 0], .int .i64 6]) (by simp [results, Try.results59, go_sem, d0, d1, d2, d3, d4, d5, d6, d7]) rfl ⟨by rw [HZ.out]; simp, hbl.grown hg7 hbl.size (fun k hk => by have := Option.some.inj hk; omega)⟩
theorem least_of {k : Int} (h : k ≠ 1 ∧ k ≠ 2 ∧ k ≠ 3) : leastI k = 0 := by unfold leastI; rw [if_neg h.1, if_neg h.2.1, if_neg h.2.2]
/-- the document's entry of bytes -/
theorem rdecode_as (s : ByteArray) (w : World) (hs : s.size ≤ 300) (kind tx ix pk pn cnt sum err : Int) (pb : ByteArray) (hd : dec s.data.toList = (⟨kind, tx, ix, pk, pn, pb, cnt, sum⟩, err)) :
    Calls Try.prog 59 #[.string s] w fun e w' => e = .returned (.tuple #[.agg #[.int .i64 kind, .int .i64 tx, .int .i64 ix, .int .i64 pk, .int .i64 pn, .string pb, .int .i64 cnt, .int .u32 sum], .int .i64 err]) ∧ Below w.heap.size w w' := by
  have hll : s.data.toList.length = s.size := toList_size s
  by_cases h0 : s.size = 0
  · have e := data_empty h0
    subst e
    simp [dec, Ent.zero] at hd
    obtain ⟨⟨rfl, rfl, rfl, rfl, rfl, rfl, rfl, rfl⟩, rfl⟩ := hd
    exact rdecode_none w
  have h0 : 0 < s.size := by omega
  have hf := first_num s h0
  have hne : ¬ s.data.toList = [] := by intro x; rw [x] at hll; simp at hll; omega
  unfold dec at hd
  rw [if_neg hne, hf] at hd
  have hcut : s.extract 10 s.size = ⟨(s.data.toList.drop 10).toArray⟩ := by
    apply ByteArray.ext
    apply Array.toList_inj.1
    simp
    rw [List.take_of_length_le (by rw [List.length_drop, hll]; exact Nat.le_refl _)]
  by_cases hk : (s[0].toNat : Int) ≠ 1 ∧ (s[0].toNat : Int) ≠ 2 ∧ (s[0].toNat : Int) ≠ 3
  · rw [if_pos (.inl (least_of hk))] at hd
    simp only [Ent.zero, Prod.mk.injEq, Ent.mk.injEq] at hd
    obtain ⟨⟨rfl, rfl, rfl, rfl, rfl, rfl, rfl, rfl⟩, rfl⟩ := hd
    exact rdecode_form s h0 hk.1 hk.2.1 hk.2.2 w
  have hk : (s[0].toNat : Int) = 1 ∨ (s[0].toNat : Int) = 2 ∨ (s[0].toNat : Int) = 3 := by omega
  rcases hk with k | k | k
  · have hl : leastI (s[0].toNat : Int) = 10 := by rw [k]; rfl
    rw [hl] at hd
    by_cases h4 : s.size < 10
    · rw [if_neg (by rw [hll]; omega), if_pos (by rw [hll]; omega)] at hd
      simp only [Ent.zero, Prod.mk.injEq, Ent.mk.injEq] at hd
      obtain ⟨⟨rfl, rfl, rfl, rfl, rfl, rfl, rfl, rfl⟩, rfl⟩ := hd
      exact rdecode_cut1 s h0 k h4 w
    have hp : parse s.data.toList = ⟨1, (num (getL s.data.toList 1 (5 - 1)) : Nat), (num (getL s.data.toList 5 (7 - 5)) : Nat), (num (getL s.data.toList 7 (8 - 7)) : Nat), (num (getL s.data.toList 8 (10 - 8)) : Nat), s.extract 10 s.size, 0, 0⟩ := by
      unfold parse; rw [hf, k, if_pos rfl, hcut]
    refine (rdecode_1 s w hs (by omega) h0 k _ _ _ _ _ rfl rfl rfl rfl rfl).mono fun e w' h => ⟨?_, h.2⟩
    rw [h.1]
    rw [hp] at hd
    simp only [chk_iff]
    by_cases h2 : 256 < s.size
    · have hc : ¬ (Ent.Ok ⟨1, (num (getL s.data.toList 1 (5 - 1)) : Nat), (num (getL s.data.toList 5 (7 - 5)) : Nat), (num (getL s.data.toList 7 (8 - 7)) : Nat), (num (getL s.data.toList 8 (10 - 8)) : Nat), s.extract 10 s.size, 0, 0⟩ ∧ Ent.enc ⟨1, (num (getL s.data.toList 1 (5 - 1)) : Nat), (num (getL s.data.toList 5 (7 - 5)) : Nat), (num (getL s.data.toList 7 (8 - 7)) : Nat), (num (getL s.data.toList 8 (10 - 8)) : Nat), s.extract 10 s.size, 0, 0⟩ = s.data.toList) := by
        rintro ⟨x, y⟩
        have := Ent.enc_bounds x
        rw [y, hll] at this
        omega
      rw [if_pos (.inr (by rw [hll]; exact h2))] at hd
      rw [if_neg hc]
      simp only [Ent.zero, Prod.mk.injEq, Ent.mk.injEq] at hd
      obtain ⟨⟨rfl, rfl, rfl, rfl, rfl, rfl, rfl, rfl⟩, rfl⟩ := hd
      rfl
    rw [if_neg (by rw [hll]; omega), if_neg (by rw [hll]; omega)] at hd
    by_cases g : Ent.Ok ⟨1, (num (getL s.data.toList 1 (5 - 1)) : Nat), (num (getL s.data.toList 5 (7 - 5)) : Nat), (num (getL s.data.toList 7 (8 - 7)) : Nat), (num (getL s.data.toList 8 (10 - 8)) : Nat), s.extract 10 s.size, 0, 0⟩ ∧ Ent.enc ⟨1, (num (getL s.data.toList 1 (5 - 1)) : Nat), (num (getL s.data.toList 5 (7 - 5)) : Nat), (num (getL s.data.toList 7 (8 - 7)) : Nat), (num (getL s.data.toList 8 (10 - 8)) : Nat), s.extract 10 s.size, 0, 0⟩ = s.data.toList
    · rw [if_pos g] at hd ⊢
      simp only [Prod.mk.injEq, Ent.mk.injEq] at hd
      obtain ⟨⟨rfl, rfl, rfl, rfl, rfl, rfl, rfl, rfl⟩, rfl⟩ := hd
      rfl
    · rw [if_neg g] at hd ⊢
      simp only [Ent.zero, Prod.mk.injEq, Ent.mk.injEq] at hd
      obtain ⟨⟨rfl, rfl, rfl, rfl, rfl, rfl, rfl, rfl⟩, rfl⟩ := hd
      rfl
  · have hl : leastI (s[0].toNat : Int) = 13 := by rw [k]; rfl
    rw [hl] at hd
    by_cases h4 : s.size < 13
    · rw [if_neg (by rw [hll]; omega), if_pos (by rw [hll]; omega)] at hd
      simp only [Ent.zero, Prod.mk.injEq, Ent.mk.injEq] at hd
      obtain ⟨⟨rfl, rfl, rfl, rfl, rfl, rfl, rfl, rfl⟩, rfl⟩ := hd
      exact rdecode_cut2 s h0 k h4 w
    have hp : parse s.data.toList = ⟨2, (num (getL s.data.toList 1 (5 - 1)) : Nat), (num (getL s.data.toList 5 (7 - 5)) : Nat), 0, 0, ByteArray.empty, (num (getL s.data.toList 7 (9 - 7)) : Nat), (num (getL s.data.toList 9 (13 - 9)) : Nat)⟩ := by
      unfold parse; rw [hf, k, if_neg (by decide), if_pos rfl]; rfl
    refine (rdecode_2 s w hs (by omega) h0 k _ _ _ _ rfl rfl rfl rfl).mono fun e w' h => ⟨?_, h.2⟩
    rw [h.1]
    rw [hp] at hd
    simp only [chk_iff]
    by_cases h2 : 256 < s.size
    · have hc : ¬ (Ent.Ok ⟨2, (num (getL s.data.toList 1 (5 - 1)) : Nat), (num (getL s.data.toList 5 (7 - 5)) : Nat), 0, 0, ByteArray.empty, (num (getL s.data.toList 7 (9 - 7)) : Nat), (num (getL s.data.toList 9 (13 - 9)) : Nat)⟩ ∧ Ent.enc ⟨2, (num (getL s.data.toList 1 (5 - 1)) : Nat), (num (getL s.data.toList 5 (7 - 5)) : Nat), 0, 0, ByteArray.empty, (num (getL s.data.toList 7 (9 - 7)) : Nat), (num (getL s.data.toList 9 (13 - 9)) : Nat)⟩ = s.data.toList) := by
        rintro ⟨x, y⟩
        have := Ent.enc_bounds x
        rw [y, hll] at this
        omega
      rw [if_pos (.inr (by rw [hll]; exact h2))] at hd
      rw [if_neg hc]
      simp only [Ent.zero, Prod.mk.injEq, Ent.mk.injEq] at hd
      obtain ⟨⟨rfl, rfl, rfl, rfl, rfl, rfl, rfl, rfl⟩, rfl⟩ := hd
      rfl
    rw [if_neg (by rw [hll]; omega), if_neg (by rw [hll]; omega)] at hd
    by_cases g : Ent.Ok ⟨2, (num (getL s.data.toList 1 (5 - 1)) : Nat), (num (getL s.data.toList 5 (7 - 5)) : Nat), 0, 0, ByteArray.empty, (num (getL s.data.toList 7 (9 - 7)) : Nat), (num (getL s.data.toList 9 (13 - 9)) : Nat)⟩ ∧ Ent.enc ⟨2, (num (getL s.data.toList 1 (5 - 1)) : Nat), (num (getL s.data.toList 5 (7 - 5)) : Nat), 0, 0, ByteArray.empty, (num (getL s.data.toList 7 (9 - 7)) : Nat), (num (getL s.data.toList 9 (13 - 9)) : Nat)⟩ = s.data.toList
    · rw [if_pos g] at hd ⊢
      simp only [Prod.mk.injEq, Ent.mk.injEq] at hd
      obtain ⟨⟨rfl, rfl, rfl, rfl, rfl, rfl, rfl, rfl⟩, rfl⟩ := hd
      rfl
    · rw [if_neg g] at hd ⊢
      simp only [Ent.zero, Prod.mk.injEq, Ent.mk.injEq] at hd
      obtain ⟨⟨rfl, rfl, rfl, rfl, rfl, rfl, rfl, rfl⟩, rfl⟩ := hd
      rfl
  · have hl : leastI (s[0].toNat : Int) = 7 := by rw [k]; rfl
    rw [hl] at hd
    by_cases h4 : s.size < 7
    · rw [if_neg (by rw [hll]; omega), if_pos (by rw [hll]; omega)] at hd
      simp only [Ent.zero, Prod.mk.injEq, Ent.mk.injEq] at hd
      obtain ⟨⟨rfl, rfl, rfl, rfl, rfl, rfl, rfl, rfl⟩, rfl⟩ := hd
      exact rdecode_cut3 s h0 k h4 w
    have hp : parse s.data.toList = ⟨3, (num (getL s.data.toList 1 (5 - 1)) : Nat), (num (getL s.data.toList 5 (7 - 5)) : Nat), 0, 0, ByteArray.empty, 0, 0⟩ := by
      unfold parse; rw [hf, k, if_neg (by decide), if_neg (by decide)]; rfl
    refine (rdecode_3 s w hs (by omega) h0 k _ _ rfl rfl).mono fun e w' h => ⟨?_, h.2⟩
    rw [h.1]
    rw [hp] at hd
    simp only [chk_iff]
    by_cases h2 : 256 < s.size
    · have hc : ¬ (Ent.Ok ⟨3, (num (getL s.data.toList 1 (5 - 1)) : Nat), (num (getL s.data.toList 5 (7 - 5)) : Nat), 0, 0, ByteArray.empty, 0, 0⟩ ∧ Ent.enc ⟨3, (num (getL s.data.toList 1 (5 - 1)) : Nat), (num (getL s.data.toList 5 (7 - 5)) : Nat), 0, 0, ByteArray.empty, 0, 0⟩ = s.data.toList) := by
        rintro ⟨x, y⟩
        have := Ent.enc_bounds x
        rw [y, hll] at this
        omega
      rw [if_pos (.inr (by rw [hll]; exact h2))] at hd
      rw [if_neg hc]
      simp only [Ent.zero, Prod.mk.injEq, Ent.mk.injEq] at hd
      obtain ⟨⟨rfl, rfl, rfl, rfl, rfl, rfl, rfl, rfl⟩, rfl⟩ := hd
      rfl
    rw [if_neg (by rw [hll]; omega), if_neg (by rw [hll]; omega)] at hd
    by_cases g : Ent.Ok ⟨3, (num (getL s.data.toList 1 (5 - 1)) : Nat), (num (getL s.data.toList 5 (7 - 5)) : Nat), 0, 0, ByteArray.empty, 0, 0⟩ ∧ Ent.enc ⟨3, (num (getL s.data.toList 1 (5 - 1)) : Nat), (num (getL s.data.toList 5 (7 - 5)) : Nat), 0, 0, ByteArray.empty, 0, 0⟩ = s.data.toList
    · rw [if_pos g] at hd ⊢
      simp only [Prod.mk.injEq, Ent.mk.injEq] at hd
      obtain ⟨⟨rfl, rfl, rfl, rfl, rfl, rfl, rfl, rfl⟩, rfl⟩ := hd
      rfl
    · rw [if_neg g] at hd ⊢
      simp only [Ent.zero, Prod.mk.injEq, Ent.mk.injEq] at hd
      obtain ⟨⟨rfl, rfl, rfl, rfl, rfl, rfl, rfl, rfl⟩, rfl⟩ := hd
      rfl
end Go.Proofs.Ytmibbklafogbkaa
