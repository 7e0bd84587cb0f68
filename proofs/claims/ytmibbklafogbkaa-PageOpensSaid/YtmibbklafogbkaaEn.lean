/- The entry layer: numbers as bytes, and the bytes of an entry, by the document (cadastreref03.Wide, 78; cadastreref06.Encode, 53). -/
import Derived.Test.YtmibbklafogbkaaEr
import Derived.Test.YtmibbklafogbkaaEk
import Derived.Deep.RegionHeld3
namespace Go.Proofs.Ytmibbklafogbkaa
open Go.RowKit
open Fld
theorem be_step (m : Nat) (n : Nat) (acc : List UInt8) : be m (n / 256) ++ (UInt8.ofNat (n % 256) :: acc) = be (m + 1) n ++ acc := by
  rw [be, List.append_assoc]
  have : UInt8.ofNat (n % 256) = UInt8.ofNat n := by
    apply UInt8.toNat_inj.1
    simp
  rw [this]
  rfl
set_option maxRecDepth 100000 in
set_option maxHeartbeats 2000000 in
theorem wide_nat (n m : Nat) (w : World) (hn : n ≤ 9223372036854775807) (hm : m ≤ 8) :
    Calls Try.prog 78 #[.int .i64 n, .int .i64 m] w fun e w' => e = .returned (.string (txt (be m n))) ∧ Below w.heap.size w w' := by
  go_enter Try.func78, Try.ntmps78
  go_wp2
  go_loopw [0, 5, 6] (fun x v i wr => ∃ (k : Nat) (s : ByteArray), k ≤ m ∧ i = .int .i64 k ∧ x = .int .i64 ((n / 256 ^ k : Nat) : Int) ∧ v = .string s ∧ Hid (be (m - k) (n / 256 ^ k) ++ s.data.toList = be m n) ∧ s.size = k ∧ Below w.heap.size w wr) (fun _ _ i _ => m - (intOf i).toNat)
  case atStart => exact ⟨0, ⟨#[]⟩, Nat.zero_le _, rfl, by simp, rfl, Lib.hid (by simp), rfl, Below.refl _ _⟩
  case round =>
    obtain ⟨k, s, hk, rfl, rfl, rfl, HS, hs, hb⟩ := hrel
    by_cases hlt : k < m
    · obtain ⟨q, hq⟩ : ∃ q, q = n / 256 ^ k := ⟨_, rfl⟩
      have hqn : q ≤ n := by rw [hq]; exact Nat.div_le_self _ _
      rw [← hq] at HS ⊢
      have hq2 : n / 256 ^ (k + 1) = q / 256 := by rw [Nat.pow_succ, ← Nat.div_div_eq_div_mul, hq]
      have HQ := Lib.hid hq
      have HQ2 := Lib.hid hq2
      clear hq hq2
      have hz : (txt [UInt8.ofNat (q % 256)]).data.toList = [UInt8.ofNat (q % 256)] := rfl
      have hc : ∀ i, (h : i < [UInt8.ofNat (q % 256)].length) → (wr.alloc (Obj.cells #[Value.int IntKind.u8 ((q : Int) % 256)] 5)).cell? ⟨wr.heap.size, 0 + i, none⟩ = some (.int .u8 ([UInt8.ofNat (q % 256)][i].toNat : Int)) := by
        intro i hi
        have hi' : i < 1 := hi
        obtain rfl : i = 0 := by omega
        rw [cell_of_row _ _ _ _ _ _ (heap_alloc_new wr _)]
        simp
      have HC := Lib.hid hc
      have HZ := Lib.hid hz
      have HX : Hid (be (m - (k + 1)) (n / 256 ^ (k + 1)) ++ (txt [UInt8.ofNat (q % 256)] ++ s).data.toList = be m n) := Lib.hid (by
        rw [← HS.out, HQ2.out]
        have e := be_step (m - (k + 1)) q s.data.toList
        rw [show m - (k + 1) + 1 = m - k by omega] at e
        rw [← e, ByteArray.data_append, Array.toList_append]
        rfl)
      have hsz : (txt [UInt8.ofNat (q % 256)] ++ s).size = k + 1 := by rw [ByteArray.size_append, hs, txt_size]; simp; omega
      clear hz hc
      obtain ⟨z, hzz⟩ : ∃ z, z = txt [UInt8.ofNat (q % 256)] := ⟨_, rfl⟩
      rw [← hzz] at HX hsz HZ
      have hz1 : z.size = 1 := by rw [hzz]; rfl
      clear hzz
      go_wp2_with (refine wpList_string (by first | rfl | go_simp) 30 9 5 _ rfl wr.heap.size 0 1 1 rfl Try.underlying30 Try.underlying5 Try.underlying9 z _ HZ.out rfl HC.out ?_)
      go_roundw
      case rel => exact ⟨k + 1, z ++ s, by omega, by go_num, by rw [HQ2.out]; go_num, rfl, HX, hsz, hb.alloc hb.size _⟩
      case measure => simp [intOf]; omega
    · obtain rfl : k = m := by omega
      have hv : s = txt (be k n) := by
        have := HS.out
        rw [Nat.sub_self] at this
        rw [← this]; simp [be, txt]
      have HV := Lib.hid hv
      clear hv
      go_wp2
      go_ret
      exact ⟨by rw [← HV.out]; rfl, hb⟩
theorem wide_any (n m : Int) (w w0 : World) (h : Below w0.heap.size w0 w) (h0 : 0 ≤ n) (h1 : n ≤ 9223372036854775807) (h2 : 0 ≤ m) (h3 : m ≤ 8) (z : ByteArray) (hz : z = txt (be m.toNat n.toNat)) :
    Calls Try.prog 78 #[.int .i64 n, .int .i64 m] w fun e w' => e = .returned (.string z) ∧ Below w0.heap.size w0 w' := by
  obtain ⟨a, rfl⟩ := Int.eq_ofNat_of_zero_le h0
  obtain ⟨b, rfl⟩ := Int.eq_ofNat_of_zero_le h2
  refine (wide_nat a b w (by omega) (by omega)).mono fun e w' ⟨x, y⟩ => ⟨by rw [x, hz]; rfl, h.trans (y.mono h.size)⟩
theorem wide_wrap (n m : Int) (w w0 : World) (h : Below w0.heap.size w0 w) (h0 : 0 ≤ n) (h1 : n ≤ 9223372036854775807) (h2 : 0 ≤ m) (h3 : m ≤ 8) (z : ByteArray) (hz : z = txt (be m.toNat n.toNat)) :
    Calls Try.prog 78 #[.int .i64 (IntKind.i64.wrap n), .int .i64 m] w fun e w' => e = .returned (.string z) ∧ Below w0.heap.size w0 w' := by
  rw [IntWalk.i64_in n (by omega)]
  exact wide_any n m w w0 h h0 h1 h2 h3 z hz
theorem be_text (m n : Nat) : (txt (be m n)).size = m := by rw [txt_size, be_length]
theorem rcheck_yes (kind tx ix pk pn cnt sum : Int) (pb : ByteArray) (w : World) (h : Ent.Ok ⟨kind, tx, ix, pk, pn, pb, cnt, sum⟩) :
    Calls Try.prog 55 #[.agg #[.int .i64 kind, .int .i64 tx, .int .i64 ix, .int .i64 pk, .int .i64 pn, .string pb, .int .i64 cnt, .int .u32 sum]] w fun r w' => r = .returned (.int .i64 0) ∧ Below w.heap.size w w' :=
  (rcheck_any kind tx ix pk pn cnt sum pb w).mono fun _ _ ⟨a, b⟩ => ⟨by rw [a, chk_ok h], b⟩
theorem rcheck_not (kind tx ix pk pn cnt sum : Int) (pb : ByteArray) (w : World) (h : ¬ Ent.Ok ⟨kind, tx, ix, pk, pn, pb, cnt, sum⟩) :
    Calls Try.prog 55 #[.agg #[.int .i64 kind, .int .i64 tx, .int .i64 ix, .int .i64 pk, .int .i64 pn, .string pb, .int .i64 cnt, .int .u32 sum]] w fun r w' => r = .returned (.int .i64 1) ∧ Below w.heap.size w w' :=
  (rcheck_any kind tx ix pk pn cnt sum pb w).mono fun _ _ ⟨a, b⟩ => ⟨by rw [a, chk_not h], b⟩
set_option maxRecDepth 100000 in
set_option maxHeartbeats 2000000 in
theorem rencode_not (kind tx ix pk pn cnt sum : Int) (pb : ByteArray) (w : World) (h : ¬ Ent.Ok ⟨kind, tx, ix, pk, pn, pb, cnt, sum⟩) :
    Calls Try.prog 53 #[.agg #[.int .i64 kind, .int .i64 tx, .int .i64 ix, .int .i64 pk, .int .i64 pn, .string pb, .int .i64 cnt, .int .u32 sum]] w fun r w' => r = .returned (.tuple #[.string ⟨#[]⟩, .int .i64 1]) ∧ Below w.heap.size w w' := by
  go_enter Try.func53, Try.ntmps53
  go_wp2_with (first
    | (refine wpList_boxArr rfl 74 _ rfl _ rfl ?_; intro W1 hW1 hg1 hz1; obtain ⟨d0, d1, d2, d3, d4, d5, d6, d7⟩ := Row8.of hW1; clear hW1)
    | (go_at_call 55; with_reducible refine (rcheck_not _ _ _ _ _ _ _ _ _ h).mono ?_; rintro e w8 ⟨rfl, hb8⟩))
  go_ret2
  exact ⟨rfl, ((Below.refl _ _).grown hg1 (Nat.le_refl _) (by simp)).trans (hb8.mono hg1.size)⟩
set_option maxRecDepth 100000 in
set_option maxHeartbeats 4000000 in
theorem rencode_1 (tx ix pk pn : Int) (pb : ByteArray) (w : World) (h : Ent.Ok ⟨1, tx, ix, pk, pn, pb, 0, 0⟩) :
    Calls Try.prog 53 #[.agg #[.int .i64 1, .int .i64 tx, .int .i64 ix, .int .i64 pk, .int .i64 pn, .string pb, .int .i64 0, .int .u32 0]] w fun r w' => r = .returned (.tuple #[.string (txt (Ent.enc ⟨1, tx, ix, pk, pn, pb, 0, 0⟩)), .int .i64 0]) ∧ Below w.heap.size w w' := by
  obtain ⟨t1, t2, i1, i2, hk⟩ := id h
  simp only at t1 t2 i1 i2
  obtain ⟨p1, p2, n1, n2, s1, _⟩ := ok_stage h
  clear hk
  obtain ⟨a1, ha1⟩ : ∃ z, z = txt (be (Int.toNat 1) (Int.toNat 1)) := ⟨_, rfl⟩
  have sa1 : a1.size = 1 := by rw [ha1, be_text]; rfl
  replace sa1 : a1.size ≤ 1 := Nat.le_of_eq sa1
  obtain ⟨a2, ha2⟩ : ∃ z, z = txt (be (Int.toNat 4) (Int.toNat tx)) := ⟨_, rfl⟩
  have sa2 : a2.size = 4 := by rw [ha2, be_text]; rfl
  replace sa2 : a2.size ≤ 4 := Nat.le_of_eq sa2
  obtain ⟨a3, ha3⟩ : ∃ z, z = txt (be (Int.toNat 2) (Int.toNat ix)) := ⟨_, rfl⟩
  have sa3 : a3.size = 2 := by rw [ha3, be_text]; rfl
  replace sa3 : a3.size ≤ 2 := Nat.le_of_eq sa3
  obtain ⟨a4, ha4⟩ : ∃ z, z = txt (be (Int.toNat 1) (Int.toNat pk)) := ⟨_, rfl⟩
  have sa4 : a4.size = 1 := by rw [ha4, be_text]; rfl
  replace sa4 : a4.size ≤ 1 := Nat.le_of_eq sa4
  obtain ⟨a5, ha5⟩ : ∃ z, z = txt (be (Int.toNat 2) (Int.toNat pn)) := ⟨_, rfl⟩
  have sa5 : a5.size = 2 := by rw [ha5, be_text]; rfl
  replace sa5 : a5.size ≤ 2 := Nat.le_of_eq sa5
  have henc : a1 ++ a2 ++ a3 ++ a4 ++ a5 ++ pb = txt (Ent.enc ⟨1, tx, ix, pk, pn, pb, 0, 0⟩) := by
    rw [ha1, ha2, ha3, ha4, ha5]
    apply ByteArray.ext
    simp [Ent.enc, txt, ByteArray.data_append]
  rw [← henc]
  have Ha1 := Lib.hid ha1
  have Ha2 := Lib.hid ha2
  have Ha3 := Lib.hid ha3
  have Ha4 := Lib.hid ha4
  have Ha5 := Lib.hid ha5
  clear henc ha1 ha2 ha3 ha4 ha5
  obtain ⟨eb, heb⟩ : ∃ eb, eb = w.heap.size := ⟨_, rfl⟩
  have HEB := Lib.hid heb
  clear heb
  go_enter Try.func53, Try.ntmps53
  go_upto_region 3 with (first
    | (refine wpList_boxArr rfl 74 _ rfl _ rfl ?_; intro W1 hW1 hg1 hz1; rw [← HEB.out] at hW1 ⊢; obtain ⟨d0, d1, d2, d3, d4, d5, d6, d7⟩ := Row8.of hW1; have l1 : eb < W1.heap.size := (Array.getElem?_eq_some_iff.1 hW1).1; clear hW1)
    | (go_at_call 55; with_reducible refine (rcheck_yes _ _ _ _ _ _ _ _ _ h).mono ?_; rintro e w8 ⟨rfl, hb8⟩; have R1 : Row8 _ _ _ _ _ _ _ _ _ _ := ⟨d0, d1, d2, d3, d4, d5, d6, d7⟩; clear d0 d1 d2 d3 d4 d5 d6 d7; have R := R1.below hb8 l1; clear R1; have l8 : eb < w8.heap.size := Nat.lt_of_lt_of_le l1 hb8.size))
  have HS : Hid (∀ W' : World, Below w8.heap.size w8 W' → W'.cell? ⟨eb, 0, none⟩ = some (.int .i64 1) ∧ W'.cell? ⟨eb, 1, none⟩ = some (.int .i64 tx) ∧ W'.cell? ⟨eb, 2, none⟩ = some (.int .i64 ix) ∧ W'.cell? ⟨eb, 3, none⟩ = some (.int .i64 pk) ∧ W'.cell? ⟨eb, 4, none⟩ = some (.int .i64 pn) ∧ W'.cell? ⟨eb, 5, none⟩ = some (.string pb) ∧ W'.cell? ⟨eb, 6, none⟩ = some (.int .i64 0) ∧ W'.cell? ⟨eb, 7, none⟩ = some (.int .u32 0)) := Lib.hid fun W' h => by
    obtain ⟨r0, r1, r2, r3, r4, r5, r6, r7⟩ := R.below h l8
    exact ⟨r0, r1, r2, r3, r4, r5, r6, r7⟩
  have hbl : Below w.heap.size w w8 := ((Below.refl _ _).grown hg1 (Nat.le_refl _) (by simp)).trans (hb8.mono hg1.size)
  clear hb8 hg1 l1 R hz1
  have hb3 : Below w8.heap.size w8 w8.drew := (Below.refl _ _).drew
  have fa2 : (9223372036854775807 < a1.size + a2.size) = False := eq_false (by omega)
  have ga3 : (9223372036854775807 < a1.size + a2.size + a3.size) = False := eq_false (by omega)
  go_region_held3 (fun W' => W'.cell? ⟨eb, 0, none⟩ = some (.int .i64 1) ∧ W'.cell? ⟨eb, 1, none⟩ = some (.int .i64 tx) ∧ W'.cell? ⟨eb, 2, none⟩ = some (.int .i64 ix) ∧ W'.cell? ⟨eb, 3, none⟩ = some (.int .i64 pk) ∧ W'.cell? ⟨eb, 4, none⟩ = some (.int .i64 pn) ∧ W'.cell? ⟨eb, 5, none⟩ = some (.string pb) ∧ W'.cell? ⟨eb, 6, none⟩ = some (.int .i64 0) ∧ W'.cell? ⟨eb, 7, none⟩ = some (.int .u32 0))
    (first | exact HS.out _ hb3)
    (first
      | (go_at_call 78; (with_reducible refine (wide_any 1 1 _ w8 hb3 (by omega) (by omega) (by omega) (by omega) a1 Ha1.out).mono ?_); rintro e w20 ⟨rfl, hb20⟩; replace hb3 := hb20; clear hb20)
      | (go_at_call 78; (with_reducible refine (wide_any tx 4 _ w8 hb3 (by omega) (by omega) (by omega) (by omega) a2 Ha2.out).mono ?_); rintro e w20 ⟨rfl, hb20⟩; replace hb3 := hb20; clear hb20)
      | (go_at_call 78; (with_reducible refine (wide_any ix 2 _ w8 hb3 (by omega) (by omega) (by omega) (by omega) a3 Ha3.out).mono ?_); rintro e w20 ⟨rfl, hb20⟩; replace hb3 := hb20; clear hb20))
  all_goals
    obtain ⟨d0, d1, d2, d3, d4, d5, d6, d7⟩ := HS.out _ hb3
    go_upto_region 5 with (fail)
    clear d0 d1 d2 d3 d4 d5 d6 d7
    replace hb3 := hb3.drew
    have ga4 : (9223372036854775807 < a1.size + a2.size + a3.size + a4.size) = False := eq_false (by omega)
    have ga5 : (9223372036854775807 < a1.size + a2.size + a3.size + a4.size + a5.size) = False := eq_false (by omega)
    have gtail : (9223372036854775807 < a1.size + a2.size + a3.size + a4.size + a5.size + pb.size) = False := eq_false (by omega)
    go_region_held3 (fun W' => W'.cell? ⟨eb, 0, none⟩ = some (.int .i64 1) ∧ W'.cell? ⟨eb, 1, none⟩ = some (.int .i64 tx) ∧ W'.cell? ⟨eb, 2, none⟩ = some (.int .i64 ix) ∧ W'.cell? ⟨eb, 3, none⟩ = some (.int .i64 pk) ∧ W'.cell? ⟨eb, 4, none⟩ = some (.int .i64 pn) ∧ W'.cell? ⟨eb, 5, none⟩ = some (.string pb) ∧ W'.cell? ⟨eb, 6, none⟩ = some (.int .i64 0) ∧ W'.cell? ⟨eb, 7, none⟩ = some (.int .u32 0))
      (first | exact HS.out _ hb3)
      (first
        | (go_at_call 78; (with_reducible refine (wide_any pk 1 _ w8 hb3 (by omega) (by omega) (by omega) (by omega) a4 Ha4.out).mono ?_); rintro e w20 ⟨rfl, hb20⟩; replace hb3 := hb20; clear hb20)
        | (go_at_call 78; (with_reducible refine (wide_any pn 2 _ w8 hb3 (by omega) (by omega) (by omega) (by omega) a5 Ha5.out).mono ?_); rintro e w20 ⟨rfl, hb20⟩; replace hb3 := hb20; clear hb20))
  all_goals
    obtain ⟨d0, d1, d2, d3, d4, d5, d6, d7⟩ := HS.out _ hb3
    go_wp2
    go_ret2
    exact ⟨rfl, hbl.trans (hb3.mono hbl.size)⟩
set_option maxRecDepth 100000 in
set_option maxHeartbeats 4000000 in
theorem rencode_2 (tx cnt sum : Int) (w : World) (h : Ent.Ok ⟨2, tx, cnt, 0, 0, ByteArray.empty, cnt, sum⟩) (s0 : 0 ≤ sum) (s1 : sum < 4294967296) :
    Calls Try.prog 53 #[.agg #[.int .i64 2, .int .i64 tx, .int .i64 cnt, .int .i64 0, .int .i64 0, .string ByteArray.empty, .int .i64 cnt, .int .u32 sum]] w fun r w' => r = .returned (.tuple #[.string (txt (Ent.enc ⟨2, tx, cnt, 0, 0, ByteArray.empty, cnt, sum⟩)), .int .i64 0]) ∧ Below w.heap.size w w' := by
  obtain ⟨t1, t2, i1, i2, hk⟩ := id h
  simp only at t1 t2 i1 i2
  clear hk
  obtain ⟨a1, ha1⟩ : ∃ z, z = txt (be (Int.toNat 1) (Int.toNat 2)) := ⟨_, rfl⟩
  have sa1 : a1.size = 1 := by rw [ha1, be_text]; rfl
  replace sa1 : a1.size ≤ 1 := Nat.le_of_eq sa1
  obtain ⟨a2, ha2⟩ : ∃ z, z = txt (be (Int.toNat 4) (Int.toNat tx)) := ⟨_, rfl⟩
  have sa2 : a2.size = 4 := by rw [ha2, be_text]; rfl
  replace sa2 : a2.size ≤ 4 := Nat.le_of_eq sa2
  obtain ⟨a3, ha3⟩ : ∃ z, z = txt (be (Int.toNat 2) (Int.toNat cnt)) := ⟨_, rfl⟩
  have sa3 : a3.size = 2 := by rw [ha3, be_text]; rfl
  replace sa3 : a3.size ≤ 2 := Nat.le_of_eq sa3
  obtain ⟨a4, ha4⟩ : ∃ z, z = txt (be (Int.toNat 2) (Int.toNat cnt)) := ⟨_, rfl⟩
  have sa4 : a4.size = 2 := by rw [ha4, be_text]; rfl
  replace sa4 : a4.size ≤ 2 := Nat.le_of_eq sa4
  obtain ⟨a5, ha5⟩ : ∃ z, z = txt (be (Int.toNat 4) (Int.toNat sum)) := ⟨_, rfl⟩
  have sa5 : a5.size = 4 := by rw [ha5, be_text]; rfl
  replace sa5 : a5.size ≤ 4 := Nat.le_of_eq sa5
  have henc : a1 ++ a2 ++ a3 ++ a4 ++ a5 = txt (Ent.enc ⟨2, tx, cnt, 0, 0, ByteArray.empty, cnt, sum⟩) := by
    rw [ha1, ha2, ha3, ha4, ha5]
    apply ByteArray.ext
    simp [Ent.enc, txt, ByteArray.data_append]
  rw [← henc]
  have Ha1 := Lib.hid ha1
  have Ha2 := Lib.hid ha2
  have Ha3 := Lib.hid ha3
  have Ha4 := Lib.hid ha4
  have Ha5 := Lib.hid ha5
  clear henc ha1 ha2 ha3 ha4 ha5
  obtain ⟨eb, heb⟩ : ∃ eb, eb = w.heap.size := ⟨_, rfl⟩
  have HEB := Lib.hid heb
  clear heb
  go_enter Try.func53, Try.ntmps53
  go_upto_region 3 with (first
    | (refine wpList_boxArr rfl 74 _ rfl _ rfl ?_; intro W1 hW1 hg1 hz1; rw [← HEB.out] at hW1 ⊢; obtain ⟨d0, d1, d2, d3, d4, d5, d6, d7⟩ := Row8.of hW1; have l1 : eb < W1.heap.size := (Array.getElem?_eq_some_iff.1 hW1).1; clear hW1)
    | (go_at_call 55; with_reducible refine (rcheck_yes _ _ _ _ _ _ _ _ _ h).mono ?_; rintro e w8 ⟨rfl, hb8⟩; have R1 : Row8 _ _ _ _ _ _ _ _ _ _ := ⟨d0, d1, d2, d3, d4, d5, d6, d7⟩; clear d0 d1 d2 d3 d4 d5 d6 d7; have R := R1.below hb8 l1; clear R1; have l8 : eb < w8.heap.size := Nat.lt_of_lt_of_le l1 hb8.size))
  have HS : Hid (∀ W' : World, Below w8.heap.size w8 W' → W'.cell? ⟨eb, 0, none⟩ = some (.int .i64 2) ∧ W'.cell? ⟨eb, 1, none⟩ = some (.int .i64 tx) ∧ W'.cell? ⟨eb, 2, none⟩ = some (.int .i64 cnt) ∧ W'.cell? ⟨eb, 3, none⟩ = some (.int .i64 0) ∧ W'.cell? ⟨eb, 4, none⟩ = some (.int .i64 0) ∧ W'.cell? ⟨eb, 5, none⟩ = some (.string ByteArray.empty) ∧ W'.cell? ⟨eb, 6, none⟩ = some (.int .i64 cnt) ∧ W'.cell? ⟨eb, 7, none⟩ = some (.int .u32 sum)) := Lib.hid fun W' h => by
    obtain ⟨r0, r1, r2, r3, r4, r5, r6, r7⟩ := R.below h l8
    exact ⟨r0, r1, r2, r3, r4, r5, r6, r7⟩
  have hbl : Below w.heap.size w w8 := ((Below.refl _ _).grown hg1 (Nat.le_refl _) (by simp)).trans (hb8.mono hg1.size)
  clear hb8 hg1 l1 R hz1
  have hb3 : Below w8.heap.size w8 w8.drew := (Below.refl _ _).drew
  have fa2 : (9223372036854775807 < a1.size + a2.size) = False := eq_false (by omega)
  have ga3 : (9223372036854775807 < a1.size + a2.size + a3.size) = False := eq_false (by omega)
  go_region_held3 (fun W' => W'.cell? ⟨eb, 0, none⟩ = some (.int .i64 2) ∧ W'.cell? ⟨eb, 1, none⟩ = some (.int .i64 tx) ∧ W'.cell? ⟨eb, 2, none⟩ = some (.int .i64 cnt) ∧ W'.cell? ⟨eb, 3, none⟩ = some (.int .i64 0) ∧ W'.cell? ⟨eb, 4, none⟩ = some (.int .i64 0) ∧ W'.cell? ⟨eb, 5, none⟩ = some (.string ByteArray.empty) ∧ W'.cell? ⟨eb, 6, none⟩ = some (.int .i64 cnt) ∧ W'.cell? ⟨eb, 7, none⟩ = some (.int .u32 sum))
    (first | exact HS.out _ hb3)
    (first
      | (go_at_call 78; (with_reducible refine (wide_any 2 1 _ w8 hb3 (by omega) (by omega) (by omega) (by omega) a1 Ha1.out).mono ?_); rintro e w20 ⟨rfl, hb20⟩; replace hb3 := hb20; clear hb20)
      | (go_at_call 78; (with_reducible refine (wide_any tx 4 _ w8 hb3 (by omega) (by omega) (by omega) (by omega) a2 Ha2.out).mono ?_); rintro e w20 ⟨rfl, hb20⟩; replace hb3 := hb20; clear hb20)
      | (go_at_call 78; (with_reducible refine (wide_any cnt 2 _ w8 hb3 (by omega) (by omega) (by omega) (by omega) a3 Ha3.out).mono ?_); rintro e w20 ⟨rfl, hb20⟩; replace hb3 := hb20; clear hb20))
  all_goals
    obtain ⟨d0, d1, d2, d3, d4, d5, d6, d7⟩ := HS.out _ hb3
    go_upto_region 7 with (fail)
    clear d0 d1 d2 d3 d4 d5 d6 d7
    replace hb3 := hb3.drew
    have ga4 : (9223372036854775807 < a1.size + a2.size + a3.size + a4.size) = False := eq_false (by omega)
    have ga5 : (9223372036854775807 < a1.size + a2.size + a3.size + a4.size + a5.size) = False := eq_false (by omega)
    go_region_held3 (fun W' => W'.cell? ⟨eb, 0, none⟩ = some (.int .i64 2) ∧ W'.cell? ⟨eb, 1, none⟩ = some (.int .i64 tx) ∧ W'.cell? ⟨eb, 2, none⟩ = some (.int .i64 cnt) ∧ W'.cell? ⟨eb, 3, none⟩ = some (.int .i64 0) ∧ W'.cell? ⟨eb, 4, none⟩ = some (.int .i64 0) ∧ W'.cell? ⟨eb, 5, none⟩ = some (.string ByteArray.empty) ∧ W'.cell? ⟨eb, 6, none⟩ = some (.int .i64 cnt) ∧ W'.cell? ⟨eb, 7, none⟩ = some (.int .u32 sum))
      (first | exact HS.out _ hb3)
      (first
        | (go_at_call 78; (with_reducible refine (wide_any cnt 2 _ w8 hb3 (by omega) (by omega) (by omega) (by omega) a4 Ha4.out).mono ?_); rintro e w20 ⟨rfl, hb20⟩; replace hb3 := hb20; clear hb20)
        | (go_at_call 78; (with_reducible refine (wide_wrap sum 4 _ w8 hb3 (by omega) (by omega) (by omega) (by omega) a5 Ha5.out).mono ?_); rintro e w20 ⟨rfl, hb20⟩; replace hb3 := hb20; clear hb20)
        | (go_at_call 78; (with_reducible refine (wide_any sum 4 _ w8 hb3 (by omega) (by omega) (by omega) (by omega) a5 Ha5.out).mono ?_); rintro e w20 ⟨rfl, hb20⟩; replace hb3 := hb20; clear hb20))
  all_goals
    obtain ⟨d0, d1, d2, d3, d4, d5, d6, d7⟩ := HS.out _ hb3
    go_wp2
    go_ret2
    exact ⟨rfl, hbl.trans (hb3.mono hbl.size)⟩
set_option maxRecDepth 100000 in
set_option maxHeartbeats 4000000 in
theorem rencode_3 (tx ix : Int) (w : World) (h : Ent.Ok ⟨3, tx, ix, 0, 0, ByteArray.empty, 0, 0⟩) :
    Calls Try.prog 53 #[.agg #[.int .i64 3, .int .i64 tx, .int .i64 ix, .int .i64 0, .int .i64 0, .string ByteArray.empty, .int .i64 0, .int .u32 0]] w fun r w' => r = .returned (.tuple #[.string (txt (Ent.enc ⟨3, tx, ix, 0, 0, ByteArray.empty, 0, 0⟩)), .int .i64 0]) ∧ Below w.heap.size w w' := by
  obtain ⟨t1, t2, i1, i2, hk⟩ := id h
  simp only at t1 t2 i1 i2
  clear hk
  obtain ⟨a1, ha1⟩ : ∃ z, z = txt (be (Int.toNat 1) (Int.toNat 3)) := ⟨_, rfl⟩
  have sa1 : a1.size = 1 := by rw [ha1, be_text]; rfl
  replace sa1 : a1.size ≤ 1 := Nat.le_of_eq sa1
  obtain ⟨a2, ha2⟩ : ∃ z, z = txt (be (Int.toNat 4) (Int.toNat tx)) := ⟨_, rfl⟩
  have sa2 : a2.size = 4 := by rw [ha2, be_text]; rfl
  replace sa2 : a2.size ≤ 4 := Nat.le_of_eq sa2
  obtain ⟨a3, ha3⟩ : ∃ z, z = txt (be (Int.toNat 2) (Int.toNat ix)) := ⟨_, rfl⟩
  have sa3 : a3.size = 2 := by rw [ha3, be_text]; rfl
  replace sa3 : a3.size ≤ 2 := Nat.le_of_eq sa3
  have henc : a1 ++ a2 ++ a3 = txt (Ent.enc ⟨3, tx, ix, 0, 0, ByteArray.empty, 0, 0⟩) := by
    rw [ha1, ha2, ha3]
    apply ByteArray.ext
    simp [Ent.enc, txt, ByteArray.data_append]
  rw [← henc]
  have Ha1 := Lib.hid ha1
  have Ha2 := Lib.hid ha2
  have Ha3 := Lib.hid ha3
  clear henc ha1 ha2 ha3
  obtain ⟨eb, heb⟩ : ∃ eb, eb = w.heap.size := ⟨_, rfl⟩
  have HEB := Lib.hid heb
  clear heb
  go_enter Try.func53, Try.ntmps53
  go_upto_region 3 with (first
    | (refine wpList_boxArr rfl 74 _ rfl _ rfl ?_; intro W1 hW1 hg1 hz1; rw [← HEB.out] at hW1 ⊢; obtain ⟨d0, d1, d2, d3, d4, d5, d6, d7⟩ := Row8.of hW1; have l1 : eb < W1.heap.size := (Array.getElem?_eq_some_iff.1 hW1).1; clear hW1)
    | (go_at_call 55; with_reducible refine (rcheck_yes _ _ _ _ _ _ _ _ _ h).mono ?_; rintro e w8 ⟨rfl, hb8⟩; have R1 : Row8 _ _ _ _ _ _ _ _ _ _ := ⟨d0, d1, d2, d3, d4, d5, d6, d7⟩; clear d0 d1 d2 d3 d4 d5 d6 d7; have R := R1.below hb8 l1; clear R1; have l8 : eb < w8.heap.size := Nat.lt_of_lt_of_le l1 hb8.size))
  have HS : Hid (∀ W' : World, Below w8.heap.size w8 W' → W'.cell? ⟨eb, 0, none⟩ = some (.int .i64 3) ∧ W'.cell? ⟨eb, 1, none⟩ = some (.int .i64 tx) ∧ W'.cell? ⟨eb, 2, none⟩ = some (.int .i64 ix) ∧ W'.cell? ⟨eb, 3, none⟩ = some (.int .i64 0) ∧ W'.cell? ⟨eb, 4, none⟩ = some (.int .i64 0) ∧ W'.cell? ⟨eb, 5, none⟩ = some (.string ByteArray.empty) ∧ W'.cell? ⟨eb, 6, none⟩ = some (.int .i64 0) ∧ W'.cell? ⟨eb, 7, none⟩ = some (.int .u32 0)) := Lib.hid fun W' h => by
    obtain ⟨r0, r1, r2, r3, r4, r5, r6, r7⟩ := R.below h l8
    exact ⟨r0, r1, r2, r3, r4, r5, r6, r7⟩
  have hbl : Below w.heap.size w w8 := ((Below.refl _ _).grown hg1 (Nat.le_refl _) (by simp)).trans (hb8.mono hg1.size)
  clear hb8 hg1 l1 R hz1
  have hb3 : Below w8.heap.size w8 w8.drew := (Below.refl _ _).drew
  have fa2 : (9223372036854775807 < a1.size + a2.size) = False := eq_false (by omega)
  have ga3 : (9223372036854775807 < a1.size + a2.size + a3.size) = False := eq_false (by omega)
  go_region_held3 (fun W' => W'.cell? ⟨eb, 0, none⟩ = some (.int .i64 3) ∧ W'.cell? ⟨eb, 1, none⟩ = some (.int .i64 tx) ∧ W'.cell? ⟨eb, 2, none⟩ = some (.int .i64 ix) ∧ W'.cell? ⟨eb, 3, none⟩ = some (.int .i64 0) ∧ W'.cell? ⟨eb, 4, none⟩ = some (.int .i64 0) ∧ W'.cell? ⟨eb, 5, none⟩ = some (.string ByteArray.empty) ∧ W'.cell? ⟨eb, 6, none⟩ = some (.int .i64 0) ∧ W'.cell? ⟨eb, 7, none⟩ = some (.int .u32 0))
    (first | exact HS.out _ hb3)
    (first
      | (go_at_call 78; (with_reducible refine (wide_any 3 1 _ w8 hb3 (by omega) (by omega) (by omega) (by omega) a1 Ha1.out).mono ?_); rintro e w20 ⟨rfl, hb20⟩; replace hb3 := hb20; clear hb20)
      | (go_at_call 78; (with_reducible refine (wide_any tx 4 _ w8 hb3 (by omega) (by omega) (by omega) (by omega) a2 Ha2.out).mono ?_); rintro e w20 ⟨rfl, hb20⟩; replace hb3 := hb20; clear hb20)
      | (go_at_call 78; (with_reducible refine (wide_any ix 2 _ w8 hb3 (by omega) (by omega) (by omega) (by omega) a3 Ha3.out).mono ?_); rintro e w20 ⟨rfl, hb20⟩; replace hb3 := hb20; clear hb20))
  all_goals
    obtain ⟨d0, d1, d2, d3, d4, d5, d6, d7⟩ := HS.out _ hb3
    go_wp2
    go_ret2
    exact ⟨rfl, hbl.trans (hb3.mono hbl.size)⟩
theorem rencode_any (kind tx ix pk pn cnt sum : Int) (pb : ByteArray) (w : World) (_hp : pb.size ≤ 300) (s0 : 0 ≤ sum) (s1 : sum < 4294967296) :
    Calls Try.prog 53 #[.agg #[.int .i64 kind, .int .i64 tx, .int .i64 ix, .int .i64 pk, .int .i64 pn, .string pb, .int .i64 cnt, .int .u32 sum]] w fun r w' =>
      r = .returned (.tuple #[.string (encS ⟨kind, tx, ix, pk, pn, pb, cnt, sum⟩), .int .i64 (chkI ⟨kind, tx, ix, pk, pn, pb, cnt, sum⟩)]) ∧ Below w.heap.size w w' := by
  by_cases h : Ent.Ok ⟨kind, tx, ix, pk, pn, pb, cnt, sum⟩
  · rw [enc_yes h, chk_ok h]
    obtain ⟨t1, t2, i1, i2, hk⟩ := id h
    simp only at hk
    rcases hk with ⟨rfl, _, rfl, rfl⟩ | ⟨rfl, rfl, rfl, e1, rfl, _⟩ | ⟨rfl, rfl, rfl, e1, rfl, rfl⟩
    · exact rencode_1 tx ix pk pn pb w h
    · rw [← empty_size] at e1
      subst e1
      exact rencode_2 tx cnt sum w h s0 s1
    · rw [← empty_size] at e1
      subst e1
      exact rencode_3 tx ix w h
  · rw [enc_not h, chk_not h]
    exact rencode_not kind tx ix pk pn cnt sum pb w h
theorem ref53 : Ref53 := rencode_any
theorem ref55 : Ref55 := rcheck_any
end Go.Proofs.Ytmibbklafogbkaa
