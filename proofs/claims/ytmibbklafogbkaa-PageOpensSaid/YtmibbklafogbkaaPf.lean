/- The page layer: what stands in bytes, by the document (cadastreref03.Open, 69). -/
import Derived.Test.YtmibbklafogbkaaPl
import Derived.Test.YtmibbklafogbkaaPe
import Derived.Test.YtmibbklafogbkaaEj
namespace Go.Proofs.Ytmibbklafogbkaa
open Go.RowKit
open Fld
open Crc
set_option linter.unusedSimpArgs false
set_option maxRecDepth 100000 in
set_option maxHeartbeats 2000000 in
theorem ropen_cut (s : ByteArray) (hs : s.size ≠ 256) (h9 : s.size ≤ maxLen) (w : World) :
    Calls Try.prog 69 #[.string s] w fun e w' => e = .returned (.tuple #[.agg #[.int .i64 0, .int .i64 0, .string ByteArray.empty], .int .i64 9]) ∧ Below w.heap.size w w' := by
  have h9' : s.size ≤ 9223372036854775807 := h9
  have b1 : ¬ ((s.size : Int) = 256) := by omega
  clear hs h9
  obtain ⟨rb, hrb⟩ : ∃ rb, rb = w.heap.size := ⟨_, rfl⟩
  have HRB := Lib.hid hrb
  clear hrb
  go_enter Try.func69, Try.ntmps69
  go_wp2_with (first
    | (refine wpList_allocArr rfl 72 rfl _ zero72 ?_; intro W1 hW1 hg1 hz1; rw [← HRB.out] at hW1 ⊢; have H1 := Lib.hid hW1; clear hW1)
    | (refine wpList_storeArr rfl 72 _ _ rfl rb #[.int .i64 0, .int .i64 0, .string ByteArray.empty] rfl rfl 72 _ H1.out size72 rfl (page_one _ _ _) ?_; intro W7 hW7 hg7 hz7; obtain ⟨d0, d1, d2⟩ := Row3.of hW7))
  exact bodyPost_ret (v := .tuple #[.agg #[.int .i64 0, .int .i64 0, .string ByteArray.empty], .int .i64 9]) (by simp [results, Try.results69, go_sem, d0, d1, d2]) rfl ⟨rfl, ((Below.refl _ _).grown hg1 (Nat.le_refl _) (by simp)).grown hg7 hg1.size (fun k hk => by have := Option.some.inj hk; have := HRB.out; omega)⟩
set_option maxRecDepth 100000 in
set_option maxHeartbeats 2000000 in
theorem ropen_blank (s : ByteArray) (hs : s = txt blankL) (w : World) :
    Calls Try.prog 69 #[.string s] w fun e w' => e = .returned (.tuple #[.agg #[.int .i64 0, .int .i64 0, .string ByteArray.empty], .int .i64 0]) ∧ Below w.heap.size w w' := by
  have hsz : s.size = 256 := by rw [hs, txt_size]; unfold blankL; simp
  have b1 : ((s.size : Int) == 256) = true := by rw [beq_iff_eq]; omega
  have g1 : (256 : Int) ≤ (s.size : Int) := by omega
  have g2 : (s.size : Int) ≤ 256 := by omega
  have HS := Lib.hid hs.symm
  clear hs hsz
  obtain ⟨rb, hrb⟩ : ∃ rb, rb = w.heap.size := ⟨_, rfl⟩
  have HRB := Lib.hid hrb
  clear hrb
  go_enter Try.func69, Try.ntmps69
  go_wp2_with (first
    | (refine wpList_allocArr rfl 72 rfl _ zero72 ?_; intro W1 hW1 hg1 hz1; rw [← HRB.out] at hW1 ⊢; have H1 := Lib.hid hW1; clear hW1)
    | (go_at_call 67; with_reducible refine (rblank_any _ W1 (Below.refl _ _)).mono ?_; rintro e w9 ⟨rfl, hb9⟩; rw [HS.out])
    | (refine wpList_storeArr rfl 72 _ _ rfl rb #[.int .i64 0, .int .i64 0, .string ByteArray.empty] rfl rfl 72 _ ((hb9.block rb (Array.getElem?_eq_some_iff.1 H1.out).1).trans H1.out) size72 rfl (page_one _ _ _) ?_; intro W7 hW7 hg7 hz7; obtain ⟨d0, d1, d2⟩ := Row3.of hW7))
  exact bodyPost_ret (v := .tuple #[.agg #[.int .i64 0, .int .i64 0, .string ByteArray.empty], .int .i64 0]) (by simp [results, Try.results69, go_sem, d0, d1, d2]) rfl ⟨rfl, (((Below.refl _ _).grown hg1 (Nat.le_refl _) (by simp)).trans (hb9.mono hg1.size)).grown hg7 (Nat.le_trans hg1.size hb9.size) (fun k hk => by have := Option.some.inj hk; have := HRB.out; omega)⟩
set_option maxRecDepth 100000 in
set_option maxHeartbeats 4000000 in
theorem ropen_sum (s : ByteArray) (hs : s.size = 256) (hz : s ≠ txt blankL) (ht : s.data.toList.drop 252 ≠ low (crc (s.data.toList.take 252))) (w : World) :
    Calls Try.prog 69 #[.string s] w fun e w' => e = .returned (.tuple #[.agg #[.int .i64 0, .int .i64 0, .string ByteArray.empty], .int .i64 7]) ∧ Below w.heap.size w w' := by
  obtain ⟨b1, g1, g2, g3⟩ := whole_facts hs
  obtain ⟨z, hz2⟩ : ∃ z, z = txt blankL := ⟨_, rfl⟩
  have HZ := Lib.hid hz2.symm
  rw [← hz2] at hz
  have q1 := str_ne_b hz
  obtain ⟨N, hN⟩ : ∃ N : Nat, N = crc (s.data.toList.take 252) := ⟨_, rfl⟩
  have hlt : N < 4294967296 := by rw [hN]; exact crc_lt _
  have hsum : sumI (s.extract 0 252) = (N : Int) := by
    unfold sumI
    have e : (s.extract 0 252).data.toList = s.data.toList.take 252 := by simp
    rw [e, hN]
  obtain ⟨T, hT⟩ : ∃ T, T = txt (low (Int.toNat (N : Int))) := ⟨_, rfl⟩
  obtain ⟨U, hU⟩ : ∃ U, U = s.extract 252 s.size := ⟨_, rfl⟩
  have hUT : T ≠ U := by
    intro e
    apply ht
    have e2 : U.data.toList = T.data.toList := by rw [e]
    have e4 : T.data.toList = low N := by rw [hT]; rfl
    rw [hU, cut_tail s hs, e4, hN] at e2
    exact e2
  have q2 := str_ne hUT
  have q3 := str_ne_b hUT
  have hall : (s.extract 0 252).size ≤ 140737488351232 := by rw [ByteArray.size_extract]; omega
  have HALL := Lib.hid hall
  clear hall
  have c6 : (0 : Int) ≤ (N : Int) := by omega
  have c7 : (N : Int) < 4294967296 := by omega
  have HLOW := Lib.hid (fun (w w0 : World) (h : Below w0.heap.size w0 w) => low_at (N : Int) w w0 h c6 c7 T hT)
  have HU := Lib.hid hU
  have HS := Lib.hid hsum
  clear hz hz2 ht hT hU hUT hs hsum hN c6 c7 hlt
  obtain ⟨rb, hrb⟩ : ∃ rb, rb = w.heap.size := ⟨_, rfl⟩
  have HRB := Lib.hid hrb
  clear hrb
  go_enter Try.func69, Try.ntmps69
  go_upto_region 5 with (first
    | (refine wpList_allocArr rfl 72 rfl _ zero72 ?_; intro W1 hW1 hg1 hz1; rw [← HRB.out] at hW1 ⊢; have H1 := Lib.hid hW1; clear hW1)
    | (go_at_call 67; with_reducible refine (rblank_any _ W1 (Below.refl _ _)).mono ?_; rintro e w9 ⟨rfl, hb9⟩; rw [HZ.out]))
  have hb := hb9.drew
  go_region_held3 (fun W' => True) (first | exact trivial)
    (first
      | (go_at_call 26; (with_reducible refine (refSum_any _ _ HALL.out).mono ?_); rintro e w12 ⟨rfl, rfl⟩; rw [HS.out])
      | (go_at_call 85; (with_reducible refine (HLOW.out _ _ hb).mono ?_); rintro e w12 ⟨rfl, hb10⟩; replace hb := hb10; clear hb10))
  all_goals
    rw [← HU.out]
    go_upto_region 6 with (fail)
    all_goals first
      | (exfalso; have hx : (!T.toList == U.toList) = false := (by assumption); rw [q3] at hx; exact absurd hx (by decide))
      | skip
    have hres := Lib.hid ((hb.block rb (Array.getElem?_eq_some_iff.1 H1.out).1).trans H1.out)
    have hbl : Below w.heap.size w w12 := (grown_below hg1).trans (hb.mono hg1.size)
    have hrb2 : w.heap.size ≤ rb := by rw [HRB.out]; exact Nat.le_refl _
    go_wp2_with (refine wpList_storeArr rfl 72 _ _ rfl rb #[.int .i64 0, .int .i64 0, .string ByteArray.empty] rfl rfl 72 _ hres.out size72 rfl (page_one _ _ _) ?_; intro W7 hW7 hg7 hz7; obtain ⟨d0, d1, d2⟩ := Row3.of hW7)
    exact bodyPost_ret (v := .tuple #[.agg #[.int .i64 0, .int .i64 0, .string ByteArray.empty], .int .i64 7]) (by simp [results, Try.results69, go_sem, d0, d1, d2]) rfl ⟨rfl, hbl.grown hg7 hbl.size (fun k hk => by have := Option.some.inj hk; omega)⟩
set_option maxRecDepth 100000 in
set_option maxHeartbeats 8000000 in
theorem ropen_form (s : ByteArray) (hs : s.size = 256) (hz : s ≠ txt blankL) (ht : s.data.toList.drop 252 = low (crc (s.data.toList.take 252))) (n : Int) (hn : n = (num (getL s.data.toList 2 (4 - 2)) : Nat)) (hb : 244 < n) (w : World) :
    Calls Try.prog 69 #[.string s] w fun e w' => e = .returned (.tuple #[.agg #[.int .i64 0, .int .i64 0, .string ByteArray.empty], .int .i64 6]) ∧ Below w.heap.size w w' := by
  obtain ⟨b1, g1, g2, g3⟩ := whole_facts hs
  obtain ⟨z, hz2⟩ : ∃ z, z = txt blankL := ⟨_, rfl⟩
  have HZ := Lib.hid hz2.symm
  rw [← hz2] at hz
  have q1 := str_ne_b hz
  obtain ⟨N, hN⟩ : ∃ N : Nat, N = crc (s.data.toList.take 252) := ⟨_, rfl⟩
  have hlt : N < 4294967296 := by rw [hN]; exact crc_lt _
  have hsum : sumI (s.extract 0 252) = (N : Int) := by
    unfold sumI
    have e : (s.extract 0 252).data.toList = s.data.toList.take 252 := by simp
    rw [e, hN]
  obtain ⟨T, hT⟩ : ∃ T, T = txt (low (Int.toNat (N : Int))) := ⟨_, rfl⟩
  have hU : s.extract 252 s.size = T := by
    apply ByteArray.ext
    apply Array.toList_inj.1
    rw [cut_tail s hs, ht, hT, Int.toNat_natCast, hN]
    rfl
  have hall : (s.extract 0 252).size ≤ 140737488351232 := by rw [ByteArray.size_extract]; omega
  have HALL := Lib.hid hall
  clear hall
  have c6 : (0 : Int) ≤ (N : Int) := by omega
  have c7 : (N : Int) < 4294967296 := by omega
  have HLOW := Lib.hid (fun (w w0 : World) (h : Below w0.heap.size w0 w) => low_at (N : Int) w w0 h c6 c7 T hT)
  have HU := Lib.hid hU
  have HS := Lib.hid hsum
  clear hz hz2 ht hT hU hsum hN c6 c7 hlt
  obtain ⟨rb, hrb⟩ : ∃ rb, rb = w.heap.size := ⟨_, rfl⟩
  have HRB := Lib.hid hrb
  clear hrb
  have HN := Lib.hid hn
  clear hn hs
  go_enter Try.func69, Try.ntmps69
  go_upto_region 5 with (first
    | (refine wpList_allocArr rfl 72 rfl _ zero72 ?_; intro W1 hW1 hg1 hz1; rw [← HRB.out] at hW1 ⊢; have H1 := Lib.hid hW1; clear hW1)
    | (go_at_call 67; with_reducible refine (rblank_any _ W1 (Below.refl _ _)).mono ?_; rintro e w9 ⟨rfl, hb9⟩; rw [HZ.out]))
  have hb := hb9.drew
  go_region_held3 (fun W' => True) (first | exact trivial)
    (first
      | (go_at_call 26; (with_reducible refine (refSum_any _ _ HALL.out).mono ?_); rintro e w12 ⟨rfl, rfl⟩; rw [HS.out])
      | (go_at_call 85; (with_reducible refine (HLOW.out _ _ hb).mono ?_); rintro e w12 ⟨rfl, hb10⟩; replace hb := hb10; clear hb10))
  all_goals
    rw [HU.out]
    go_upto_region 7 with (fail)
    all_goals first
      | (exfalso; have hx : (!T.toList == T.toList) = true := (by assumption); simp at hx; done)
      | skip
    have hres := Lib.hid ((hb.block rb (Array.getElem?_eq_some_iff.1 H1.out).1).trans H1.out)
    have hbl : Below w.heap.size w w12 := (grown_below hg1).trans (hb.mono hg1.size)
    have hrb2 : w.heap.size ≤ rb := by rw [HRB.out]; exact Nat.le_refl _
    go_wp2_with (first
      | (go_at_call 82; with_reducible refine (narrow_at s 2 4 _ (by omega) n HN.out).mono ?_; rintro e w13 ⟨rfl, rfl⟩)
      | (refine wpList_storeArr rfl 72 _ _ rfl rb #[.int .i64 0, .int .i64 0, .string ByteArray.empty] rfl rfl 72 _ hres.out size72 rfl (page_one _ _ _) ?_; intro W7 hW7 hg7 hz7; obtain ⟨d0, d1, d2⟩ := Row3.of hW7))
    exact bodyPost_ret (v := .tuple #[.agg #[.int .i64 0, .int .i64 0, .string ByteArray.empty], .int .i64 6]) (by simp [results, Try.results69, go_sem, d0, d1, d2]) rfl ⟨rfl, hbl.grown hg7 hbl.size (fun k hk => by have := Option.some.inj hk; omega)⟩
set_option maxRecDepth 100000 in
set_option maxHeartbeats 8000000 in
theorem ropen_main (s : ByteArray) (hs : s.size = 256) (hz : s ≠ txt blankL) (ht : s.data.toList.drop 252 = low (crc (s.data.toList.take 252))) (n : Int) (hn : n = (num (getL s.data.toList 2 (4 - 2)) : Nat)) (hb : n ≤ 244) (pk pn : Int) (hpk : pk = (num (getL s.data.toList 0 1) : Nat)) (hpn : pn = (num (getL s.data.toList 4 (8 - 4)) : Nat)) (pb : ByteArray) (hpb : pb = s.extract 8 (8 + n.toNat)) (S : ByteArray) (F : Int) (hS : S = sealS ⟨pk, pn, pb⟩) (hF : F = mayI ⟨pk, pn, pb⟩) (w : World) :
    Calls Try.prog 69 #[.string s] w fun e w' => (e = if F = 0 ∧ S = s then .returned (.tuple #[.agg #[.int .i64 pk, .int .i64 pn, .string pb], .int .i64 0]) else .returned (.tuple #[.agg #[.int .i64 0, .int .i64 0, .string ByteArray.empty], .int .i64 6])) ∧ Below w.heap.size w w' := by
  obtain ⟨b1, g1, g2, g3⟩ := whole_facts hs
  obtain ⟨z, hz2⟩ : ∃ z, z = txt blankL := ⟨_, rfl⟩
  have HZ := Lib.hid hz2.symm
  rw [← hz2] at hz
  have q1 := str_ne_b hz
  obtain ⟨N, hN⟩ : ∃ N : Nat, N = crc (s.data.toList.take 252) := ⟨_, rfl⟩
  have hlt : N < 4294967296 := by rw [hN]; exact crc_lt _
  have hsum : sumI (s.extract 0 252) = (N : Int) := by
    unfold sumI
    have e : (s.extract 0 252).data.toList = s.data.toList.take 252 := by simp
    rw [e, hN]
  obtain ⟨T, hT⟩ : ∃ T, T = txt (low (Int.toNat (N : Int))) := ⟨_, rfl⟩
  have hU : s.extract 252 s.size = T := by
    apply ByteArray.ext
    apply Array.toList_inj.1
    rw [cut_tail s hs, ht, hT, Int.toNat_natCast, hN]
    rfl
  have hall : (s.extract 0 252).size ≤ 140737488351232 := by rw [ByteArray.size_extract]; omega
  have HALL := Lib.hid hall
  clear hall
  have c6 : (0 : Int) ≤ (N : Int) := by omega
  have c7 : (N : Int) < 4294967296 := by omega
  have HLOW := Lib.hid (fun (w w0 : World) (h : Below w0.heap.size w0 w) => low_at (N : Int) w w0 h c6 c7 T hT)
  have HU := Lib.hid hU
  have HS := Lib.hid hsum
  clear hz hz2 ht hT hU hsum hN c6 c7 hlt
  obtain ⟨rb, hrb⟩ : ∃ rb, rb = w.heap.size := ⟨_, rfl⟩
  have HRB := Lib.hid hrb
  clear hrb
  have HN := Lib.hid hn
  have n0 : 0 ≤ n := by omega
  have h0 : 0 < s.size := by omega
  have XK : Hid (((s[0]'h0).toNat : Int) = pk) := Lib.hid (by rw [hpk, byte_num s 0 (by omega)])
  have kb : pk < 256 := by rw [← XK.out]; have := (s[0]'h0).toNat_lt; omega
  have k0 : 0 ≤ pk := by rw [← XK.out]; omega
  have h1 : (0 : Int) < (s.size : Int) := by omega
  have XN := Lib.hid hpn
  have XB := Lib.hid hpb.symm
  have f01 : F = 0 ∨ F = 1 := by rw [hF]; unfold mayI; split <;> simp
  have HSS := Lib.hid hS
  have HFF := Lib.hid hF
  have w8n : IntKind.i64.wrap (8 + n) = 8 + n := IntWalk.i64_in _ (by omega)
  have n8 : 0 ≤ 8 + n := by omega
  have wk : IntKind.i64.wrap pk = pk := IntWalk.i64_in _ (by omega)
  have n11 : 8 ≤ 8 + n := by omega
  have g8 : (8 : Int) ≤ (s.size : Int) := by omega
  have g4 : (4 : Int) ≤ (s.size : Int) := by omega
  have n9 : 8 + n ≤ (s.size : Int) := by omega
  have n10 : (8 + n).toNat = 8 + n.toNat := by omega
  clear hn hpk hpn hpb hS hF hs
  obtain ⟨Z, hZ⟩ : ∃ Z, Z = (if F = 0 ∧ S = s then Ending.returned (.tuple #[.agg #[.int .i64 pk, .int .i64 pn, .string pb], .int .i64 0]) else Ending.returned (.tuple #[.agg #[.int .i64 0, .int .i64 0, .string ByteArray.empty], .int .i64 6])) := ⟨_, rfl⟩
  rw [← hZ]
  have HZZ := Lib.hid hZ
  clear hZ
  go_enter Try.func69, Try.ntmps69
  go_upto_region 5 with (first
    | (refine wpList_allocArr rfl 72 rfl _ zero72 ?_; intro W1 hW1 hg1 hz1; rw [← HRB.out] at hW1 ⊢; have H1 := Lib.hid hW1; clear hW1)
    | (go_at_call 67; with_reducible refine (rblank_any _ W1 (Below.refl _ _)).mono ?_; rintro e w9 ⟨rfl, hb9⟩; rw [HZ.out]))
  have hb := hb9.drew
  go_region_held3 (fun W' => True) (first | exact trivial)
    (first
      | (go_at_call 26; (with_reducible refine (refSum_any _ _ HALL.out).mono ?_); rintro e w12 ⟨rfl, rfl⟩; rw [HS.out])
      | (go_at_call 85; (with_reducible refine (HLOW.out _ _ hb).mono ?_); rintro e w12 ⟨rfl, hb10⟩; replace hb := hb10; clear hb10))
  all_goals
    rw [HU.out]
    go_upto_region 7 with (fail)
    all_goals first
      | (exfalso; have hx : (!T.toList == T.toList) = true := (by assumption); simp at hx; done)
      | skip
    have hres := Lib.hid ((hb.block rb (Array.getElem?_eq_some_iff.1 H1.out).1).trans H1.out)
    have hbl : Below w.heap.size w w12 := (grown_below hg1).trans (hb.mono hg1.size)
    have hrb2 : w.heap.size ≤ rb := by rw [HRB.out]; exact Nat.le_refl _
    go_upto_region 10 with (go_at_call 82; with_reducible refine (narrow_at s 2 4 _ (by omega) n HN.out).mono ?_; rintro e w13 ⟨rfl, rfl⟩)
    have xk := XK.out
    have xb := XB.out
    refine wp_region_held_drew (S := fun _ => True) (by kernel_rfl) trivial (fun hHeld => ?_)
    (try simp only [Act.put, List.setIfInBounds_toArray, List.set_cons_zero, List.set_cons_succ])
    refine wpAnyH_take (i := 0) (v := ?_) rfl (by kernel_rfl) (by kernel_rfl) (by kernel_rfl) (fun _ _ _ h => h) (Or.inl ⟨by rfl, ?_⟩) (by assumption) ?_
    rotate_left
    · (intro w hSw; go_simp; try with_reducible rfl)
    (try simp only [Act.put, List.setIfInBounds_toArray, List.set_cons_zero, List.set_cons_succ])
    refine wpAnyH_take (i := 1) (v := ?_) rfl (by kernel_rfl) (by kernel_rfl) (by kernel_rfl) (fun _ _ _ h => h) (Or.inl ⟨by rfl, ?_⟩) (by assumption) ?_
    rotate_left
    · (intro w hSw; go_simp; try with_reducible rfl)
    (try simp only [Act.put, List.setIfInBounds_toArray, List.set_cons_zero, List.set_cons_succ])
    refine wpAnyH_take (i := 2) (v := ?_) rfl (by kernel_rfl) (by kernel_rfl) (by kernel_rfl) (fun _ _ _ h => h) (Or.inl ⟨by rfl, ?_⟩) (by assumption) ?_
    rotate_left
    · (intro w hSw; go_simp; try with_reducible rfl)
    (try simp only [Act.put, List.setIfInBounds_toArray, List.set_cons_zero, List.set_cons_succ])
    refine wpAnyH_take (i := 3) (v := ?_) rfl (by kernel_rfl) (by kernel_rfl) (by kernel_rfl) (fun _ _ _ h => h) (Or.inl ⟨by rfl, ?_⟩) (by assumption) ?_
    rotate_left
    · (intro w hSw; go_simp; try with_reducible rfl)
    (try simp only [Act.put, List.setIfInBounds_toArray, List.set_cons_zero, List.set_cons_succ])
    refine wpAnyH_take (i := 4) (v := ?_) rfl (by kernel_rfl) (by kernel_rfl) (by kernel_rfl) (fun _ _ _ h => h) (Or.inl ⟨by rfl, ?_⟩) (by assumption) ?_
    rotate_left
    · (intro w hSw; go_simp; try with_reducible rfl)
    (try simp only [Act.put, List.setIfInBounds_toArray, List.set_cons_zero, List.set_cons_succ])
    refine wpAnyH_take (i := 6) (v := ?_) rfl (by kernel_rfl) (by kernel_rfl) (by kernel_rfl) (fun _ _ _ h => h) (Or.inl ⟨by rfl, ?_⟩) (by assumption) ?_
    rotate_left
    · (intro w hSw; go_simp; try with_reducible rfl)
    (try simp only [Act.put, List.setIfInBounds_toArray, List.set_cons_zero, List.set_cons_succ])
    refine wpAnyH_take (i := 7) (v := ?_) rfl (by kernel_rfl) (by kernel_rfl) (by kernel_rfl) (fun _ _ _ h => h) (Or.inl ⟨by rfl, ?_⟩) (by assumption) ?_
    rotate_left
    · (intro w hSw; go_simp; try with_reducible rfl)
    (try simp only [Act.put, List.setIfInBounds_toArray, List.set_cons_zero, List.set_cons_succ])
    refine wpAnyH_take (i := 8) (v := ?_) rfl (by kernel_rfl) (by kernel_rfl) (by kernel_rfl) (fun _ _ _ h => h) (Or.inl ⟨by rfl, ?_⟩) (by assumption) ?_
    rotate_left
    · (intro w hSw; go_simp; try with_reducible rfl)
    (try simp only [Act.put, List.setIfInBounds_toArray, List.set_cons_zero, List.set_cons_succ])
    refine wpAnyH_take (i := 9) (v := ?_) rfl (by kernel_rfl) (by kernel_rfl) (by kernel_rfl) (fun _ _ _ h => h) (Or.inl ⟨by rfl, ?_⟩) (by assumption) ?_
    rotate_left
    · (intro w hSw; go_simp; try with_reducible rfl)
    (try simp only [Act.put, List.setIfInBounds_toArray, List.set_cons_zero, List.set_cons_succ])
    refine wpAnyH_ready (rs := [5, 11]) (by kernel_rfl) (by simp) ?_
    refine AllReadyH.cons rfl (fun K hK => ?_) ?_
    · skip
      go_simp
      (with_reducible refine (narrow_at s 4 8 _ (by omega) pn XN.out).mono ?_)
      rintro e w14 ⟨rfl, rfl⟩
      refine hK.out _ _ trivial (fun hHeld => ?_)
      clear hK K
      (try simp only [Act.put, List.setIfInBounds_toArray, List.set_cons_zero, List.set_cons_succ])
      refine wpAnyH_take (i := 10) (v := ?_) rfl (by kernel_rfl) (by kernel_rfl) (by kernel_rfl) (fun _ _ _ h => h) (Or.inl ⟨by rfl, ?_⟩) (by assumption) ?_
      rotate_left
      · (intro w hSw; go_simp; try with_reducible rfl)
      (try simp only [Act.put, List.setIfInBounds_toArray, List.set_cons_zero, List.set_cons_succ])
      refine wpAnyH_ready (rs := [11]) (by kernel_rfl) (by simp) ?_
      refine AllReadyH.cons rfl (fun K hK => ?_) AllReadyH.nil
      go_simp
      refine hK.out _ _ trivial (fun hHeld => ?_)
      clear hK K
      (try simp only [Act.put, List.setIfInBounds_toArray, List.set_cons_zero, List.set_cons_succ])
      refine wpAnyH_ready (rs := [12]) (by kernel_rfl) (by simp) ?_
      refine AllReadyH.cons rfl (fun K hK => ?_) AllReadyH.nil
      go_simp
      refine hK.out _ _ trivial (fun hHeld => ?_)
      clear hK K
      (try simp only [Act.put, List.setIfInBounds_toArray, List.set_cons_zero, List.set_cons_succ])
      refine wpAnyH_done (by kernel_rfl) ?_ _
      have R0 := Row3.new w12 pk pn pb
      have hg := (Below.refl w12.heap.size w12).alloc (Nat.le_refl _) (Obj.cells #[.int .i64 pk, .int .i64 pn, .string pb] 72)
      have R1 : Row3 (w12.alloc (Obj.cells #[.int .i64 pk, .int .i64 pn, .string pb] 72)).drew w12.heap.size pk pn pb := ⟨R0.c0, R0.c1, R0.c2⟩
      have hres1 := Lib.hid ((hg.drew.block rb (Array.getElem?_eq_some_iff.1 hres.out).1).trans hres.out)
      have hbl1 := hbl.trans (hg.drew.mono hbl.size)
      clear hbl hres R0 hg hb xk xb
      generalize w12.heap.size = eb at R1 ⊢
      generalize (w12.alloc (Obj.cells #[.int .i64 pk, .int .i64 pn, .string pb] 72)).drew = W13 at R1 hres1 hbl1 ⊢
      have RR := Lib.hid R1
      obtain ⟨d0, d1, d2⟩ := R1
      go_upto_region 12 with (go_at_call 63; with_reducible refine (rseal_any pk pn pb _ _ (Below.refl _ _) S F HSS.out HFF.out).mono ?_; rintro e w14 ⟨rfl, hb14⟩)
      clear d0 d1 d2
      obtain ⟨d0, d1, d2⟩ := RR.out.below hb14 RR.out.lt
      have hres := Lib.hid ((hb14.block rb (Array.getElem?_eq_some_iff.1 hres1.out).1).trans hres1.out)
      have hbl := hbl1.trans (hb14.mono hbl1.size)
      rcases f01 with f | f
      · subst f
        by_cases hT : S = s
        · subst hT
          go_wp2_with (refine wpList_storeArr rfl 72 _ _ rfl rb #[.int .i64 pk, .int .i64 pn, .string pb] rfl rfl 72 _ hres.out size72 rfl (page_one _ _ _) ?_; intro W7 hW7 hg7 hz7; clear d0 d1 d2; obtain ⟨d0, d1, d2⟩ := Row3.of hW7)
          exact bodyPost_ret (v := .tuple #[.agg #[.int .i64 pk, .int .i64 pn, .string pb], .int .i64 0]) (by simp [results, Try.results69, go_sem, d0, d1, d2]) rfl ⟨by rw [HZZ.out]; simp, hbl.grown hg7 hbl.size (fun k hk => by have := Option.some.inj hk; omega)⟩
        · have b9 := str_ne hT
          have b8 := str_ne_b hT
          have HNN := Lib.hid hT
          clear hT
          go_wp2_with (refine wpList_storeArr rfl 72 _ _ rfl rb #[.int .i64 0, .int .i64 0, .string ByteArray.empty] rfl rfl 72 _ hres.out size72 rfl (page_one _ _ _) ?_; intro W7 hW7 hg7 hz7; clear d0 d1 d2; obtain ⟨d0, d1, d2⟩ := Row3.of hW7)
          exact bodyPost_ret (v := .tuple #[.agg #[.int .i64 0, .int .i64 0, .string ByteArray.empty], .int .i64 6]) (by simp [results, Try.results69, go_sem, d0, d1, d2]) rfl ⟨by rw [HZZ.out]; simp [HNN.out], hbl.grown hg7 hbl.size (fun k hk => by have := Option.some.inj hk; omega)⟩
      · subst f
        go_wp2_with (refine wpList_storeArr rfl 72 _ _ rfl rb #[.int .i64 0, .int .i64 0, .string ByteArray.empty] rfl rfl 72 _ hres.out size72 rfl (page_one _ _ _) ?_; intro W7 hW7 hg7 hz7; clear d0 d1 d2; obtain ⟨d0, d1, d2⟩ := Row3.of hW7)
        exact bodyPost_ret (v := .tuple #[.agg #[.int .i64 0, .int .i64 0, .string ByteArray.empty], .int .i64 6]) (by simp [results, Try.results69, go_sem, d0, d1, d2]) rfl ⟨by rw [HZZ.out]; simp, hbl.grown hg7 hbl.size (fun k hk => by have := Option.some.inj hk; omega)⟩
    refine AllReadyH.cons rfl (fun K hK => ?_) AllReadyH.nil
    go_simp
    refine hK.out _ _ trivial (fun hHeld => ?_)
    clear hK K
    (try simp only [Act.put, List.setIfInBounds_toArray, List.set_cons_zero, List.set_cons_succ])
    refine wpAnyH_ready (rs := [5]) (by kernel_rfl) (by simp) ?_
    refine AllReadyH.cons rfl (fun K hK => ?_) AllReadyH.nil
    go_simp
    (with_reducible refine (narrow_at s 4 8 _ (by omega) pn XN.out).mono ?_)
    rintro e w14 ⟨rfl, rfl⟩
    refine hK.out _ _ trivial (fun hHeld => ?_)
    clear hK K
    (try simp only [Act.put, List.setIfInBounds_toArray, List.set_cons_zero, List.set_cons_succ])
    refine wpAnyH_take (i := 10) (v := ?_) rfl (by kernel_rfl) (by kernel_rfl) (by kernel_rfl) (fun _ _ _ h => h) (Or.inl ⟨by rfl, ?_⟩) (by assumption) ?_
    rotate_left
    · (intro w hSw; go_simp; try with_reducible rfl)
    (try simp only [Act.put, List.setIfInBounds_toArray, List.set_cons_zero, List.set_cons_succ])
    refine wpAnyH_ready (rs := [12]) (by kernel_rfl) (by simp) ?_
    refine AllReadyH.cons rfl (fun K hK => ?_) AllReadyH.nil
    go_simp
    refine hK.out _ _ trivial (fun hHeld => ?_)
    clear hK K
    (try simp only [Act.put, List.setIfInBounds_toArray, List.set_cons_zero, List.set_cons_succ])
    refine wpAnyH_done (by kernel_rfl) ?_ _
    have R0 := Row3.new w12 pk pn pb
    have hg := (Below.refl w12.heap.size w12).alloc (Nat.le_refl _) (Obj.cells #[.int .i64 pk, .int .i64 pn, .string pb] 72)
    have R1 : Row3 (w12.alloc (Obj.cells #[.int .i64 pk, .int .i64 pn, .string pb] 72)).drew w12.heap.size pk pn pb := ⟨R0.c0, R0.c1, R0.c2⟩
    have hres1 := Lib.hid ((hg.drew.block rb (Array.getElem?_eq_some_iff.1 hres.out).1).trans hres.out)
    have hbl1 := hbl.trans (hg.drew.mono hbl.size)
    clear hbl hres R0 hg hb xk xb
    generalize w12.heap.size = eb at R1 ⊢
    generalize (w12.alloc (Obj.cells #[.int .i64 pk, .int .i64 pn, .string pb] 72)).drew = W13 at R1 hres1 hbl1 ⊢
    have RR := Lib.hid R1
    obtain ⟨d0, d1, d2⟩ := R1
    go_upto_region 12 with (go_at_call 63; with_reducible refine (rseal_any pk pn pb _ _ (Below.refl _ _) S F HSS.out HFF.out).mono ?_; rintro e w14 ⟨rfl, hb14⟩)
    clear d0 d1 d2
    obtain ⟨d0, d1, d2⟩ := RR.out.below hb14 RR.out.lt
    have hres := Lib.hid ((hb14.block rb (Array.getElem?_eq_some_iff.1 hres1.out).1).trans hres1.out)
    have hbl := hbl1.trans (hb14.mono hbl1.size)
    rcases f01 with f | f
    · subst f
      by_cases hT : S = s
      · subst hT
        go_wp2_with (refine wpList_storeArr rfl 72 _ _ rfl rb #[.int .i64 pk, .int .i64 pn, .string pb] rfl rfl 72 _ hres.out size72 rfl (page_one _ _ _) ?_; intro W7 hW7 hg7 hz7; clear d0 d1 d2; obtain ⟨d0, d1, d2⟩ := Row3.of hW7)
        exact bodyPost_ret (v := .tuple #[.agg #[.int .i64 pk, .int .i64 pn, .string pb], .int .i64 0]) (by simp [results, Try.results69, go_sem, d0, d1, d2]) rfl ⟨by rw [HZZ.out]; simp, hbl.grown hg7 hbl.size (fun k hk => by have := Option.some.inj hk; omega)⟩
      · have b9 := str_ne hT
        have b8 := str_ne_b hT
        have HNN := Lib.hid hT
        clear hT
        go_wp2_with (refine wpList_storeArr rfl 72 _ _ rfl rb #[.int .i64 0, .int .i64 0, .string ByteArray.empty] rfl rfl 72 _ hres.out size72 rfl (page_one _ _ _) ?_; intro W7 hW7 hg7 hz7; clear d0 d1 d2; obtain ⟨d0, d1, d2⟩ := Row3.of hW7)
        exact bodyPost_ret (v := .tuple #[.agg #[.int .i64 0, .int .i64 0, .string ByteArray.empty], .int .i64 6]) (by simp [results, Try.results69, go_sem, d0, d1, d2]) rfl ⟨by rw [HZZ.out]; simp [HNN.out], hbl.grown hg7 hbl.size (fun k hk => by have := Option.some.inj hk; omega)⟩
    · subst f
      go_wp2_with (refine wpList_storeArr rfl 72 _ _ rfl rb #[.int .i64 0, .int .i64 0, .string ByteArray.empty] rfl rfl 72 _ hres.out size72 rfl (page_one _ _ _) ?_; intro W7 hW7 hg7 hz7; clear d0 d1 d2; obtain ⟨d0, d1, d2⟩ := Row3.of hW7)
      exact bodyPost_ret (v := .tuple #[.agg #[.int .i64 0, .int .i64 0, .string ByteArray.empty], .int .i64 6]) (by simp [results, Try.results69, go_sem, d0, d1, d2]) rfl ⟨by rw [HZZ.out]; simp, hbl.grown hg7 hbl.size (fun k hk => by have := Option.some.inj hk; omega)⟩
theorem cut_txt (s : ByteArray) (k : Nat) : s.extract 8 (8 + k) = txt (getL s.data.toList 8 k) := by
  apply ByteArray.ext
  apply Array.toList_inj.1
  rw [cut_list, show 8 + k - 8 = k by omega]
  rfl
/-- the page of bytes by the document, whatever they are -/
theorem ropen_as (s : ByteArray) (w w0 : World) (hb : Below w0.heap.size w0 w) (hs : s.size ≤ maxLen) (pk pn err : Int) (pb : ByteArray) (hd : opn s.data.toList = (⟨pk, pn, pb⟩, err)) :
    Calls Try.prog 69 #[.string s] w fun e w' => e = .returned (.tuple #[.agg #[.int .i64 pk, .int .i64 pn, .string pb], .int .i64 err]) ∧ Below w0.heap.size w0 w' := by
  suffices hh : Calls Try.prog 69 #[.string s] w fun e w' => e = .returned (.tuple #[.agg #[.int .i64 pk, .int .i64 pn, .string pb], .int .i64 err]) ∧ Below w.heap.size w w' from hh.mono fun _ _ ⟨x, y⟩ => ⟨x, hb.trans (y.mono hb.size)⟩
  have hll : s.data.toList.length = s.size := toList_size s
  unfold opn at hd
  by_cases h1 : s.size = 256
  case neg =>
    rw [if_pos (by rw [hll]; exact h1)] at hd
    simp only [Pg.zero, Prod.mk.injEq, Pg.mk.injEq] at hd
    obtain ⟨⟨rfl, rfl, rfl⟩, rfl⟩ := hd
    exact ropen_cut s h1 hs w
  rw [if_neg (by rw [hll]; omega)] at hd
  by_cases h2 : s.data.toList = blankL
  · rw [if_pos h2] at hd
    simp only [Pg.zero, Prod.mk.injEq, Pg.mk.injEq] at hd
    obtain ⟨⟨rfl, rfl, rfl⟩, rfl⟩ := hd
    exact ropen_blank s (by rw [← h2, txt_data]) w
  rw [if_neg h2] at hd
  have h2' : s ≠ txt blankL := by
    intro e
    apply h2
    rw [e]
    rfl
  by_cases h3 : s.data.toList.drop 252 = low (crc (s.data.toList.take 252))
  case neg =>
    rw [if_pos h3] at hd
    simp only [Pg.zero, Prod.mk.injEq, Pg.mk.injEq] at hd
    obtain ⟨⟨rfl, rfl, rfl⟩, rfl⟩ := hd
    exact ropen_sum s h1 h2' h3 w
  rw [if_neg (by simp [h3])] at hd
  have e24 : num (getL s.data.toList 2 (4 - 2)) = num (getL s.data.toList 2 2) := rfl
  by_cases h4 : 244 < num (getL s.data.toList 2 2)
  · rw [if_pos h4] at hd
    simp only [Pg.zero, Prod.mk.injEq, Pg.mk.injEq] at hd
    obtain ⟨⟨rfl, rfl, rfl⟩, rfl⟩ := hd
    exact ropen_form s h1 h2' h3 _ rfl (by omega) w
  rw [if_neg h4] at hd
  refine (ropen_main s h1 h2' h3 _ rfl (by omega) _ _ rfl rfl _ rfl _ _ rfl rfl w).mono fun e w' h => ⟨?_, h.2⟩
  rw [h.1]
  have hp : (⟨(num (getL s.data.toList 0 1) : Nat), (num (getL s.data.toList 4 (8 - 4)) : Nat), s.extract 8 (8 + Int.toNat ((num (getL s.data.toList 2 (4 - 2)) : Nat) : Int))⟩ : Pg) = pageOf s.data.toList := by
    rw [cut_txt]
    rfl
  rw [hp]
  simp only [page_iff]
  by_cases g : May (pageOf s.data.toList) ∧ sealL (pageOf s.data.toList) = s.data.toList
  · rw [if_pos g] at hd
    rw [if_pos g]
    have e : pageOf s.data.toList = ⟨pk, pn, pb⟩ := congrArg Prod.fst hd
    have e2 : (0 : Int) = err := congrArg Prod.snd hd
    rw [← hp] at e
    obtain ⟨f1, f2, f3⟩ := Pg.mk.inj e
    rw [f1, f2, f3, e2]
  · rw [if_neg g] at hd
    rw [if_neg g]
    simp only [Pg.zero, Prod.mk.injEq, Pg.mk.injEq] at hd
    obtain ⟨⟨rfl, rfl, rfl⟩, rfl⟩ := hd
    rfl
end Go.Proofs.Ytmibbklafogbkaa
