/- The walk of the law PageTurned. -/
import Derived.Test.YtmibbklafogbkaaPt
import Derived.Test.YtmibbklafogbkaaLPapart
namespace Go.Proofs.Ytmibbklafogbkaa
open Go.RowKit
open Fld
open Crc
set_option maxRecDepth 100000 in
set_option maxHeartbeats 4000000 in
theorem pturned_walk (ak an p b : Int) (ab : ByteArray) (w : World) (_ha : ab.size ≤ maxLen) (wp : (Lit.int .i64 p).wf = true) (wb : (Lit.int .u32 b).wf = true) :
    Calls Try.prog 22 #[.agg #[.int .i64 ak, .int .i64 an, .string ab], .int .i64 p, .int .u32 b] w fun e w' => e = .returned (.bool true) ∧ Below w.heap.size w w' := by
  obtain ⟨p0, p1⟩ := bounds_i64 wp
  obtain ⟨b0, b1⟩ := bounds_u32 wb
  clear wp wb
  obtain ⟨SA, hSA⟩ : ∃ S, S = sealS ⟨ak, an, ab⟩ := ⟨_, rfl⟩
  obtain ⟨FA, hFA⟩ : ∃ F, F = mayI ⟨ak, an, ab⟩ := ⟨_, rfl⟩
  have fa : FA = 0 ∨ FA = 1 := by rw [hFA]; exact may_01 _
  have HFACT : Hid (FA = 0 → SA.size = 256 ∧ May ⟨ak, an, ab⟩ ∧ SA.data.toList = sealL ⟨ak, an, ab⟩) := Lib.hid fun f => by
    have hm := may_of0 (hFA.symm.trans f)
    rw [hSA, ← toList_size, seal_data (hFA.symm.trans f)]
    exact ⟨seal_length hm, hm, rfl⟩
  have HSA := Lib.hid hSA
  have HFA := Lib.hid hFA
  clear hSA hFA
  obtain ⟨ea, hea⟩ : ∃ eb, eb = w.heap.size := ⟨_, rfl⟩
  have HEA := Lib.hid hea
  clear hea
  go_enter Try.func22, Try.ntmps22
  go_upto_region 1 with (refine wpList_boxArr rfl 72 _ rfl _ rfl ?_; intro W1 hW1 hg1 hz1; rw [← HEA.out] at hW1 ⊢; have RA := Row3.of hW1; clear hW1 hz1)
  have hb : Below w.heap.size w W1 := (Below.refl _ _).grown hg1 (Nat.le_refl _) (by simp)
  obtain ⟨x0, x1, x2⟩ := RA
  go_upto_region 2 with (go_at_call 62; with_reducible refine (seal_any ak an ab _ w hb SA FA HSA.out HFA.out).mono ?_; rintro e w10 ⟨rfl, hb9⟩; replace hb := hb9; clear hb9 x0 x1 x2 hg1)
  rcases fa with rfl | rfl
  case inr =>
    go_wp2_with (go_at_call 61; with_reducible refine (live3 _ w hb).mono ?_; rintro e w9 ⟨rfl, hb9⟩)
    go_ret
    exact ⟨rfl, hb9⟩
  rcases (show p < 0 ∨ 0 ≤ p by omega) with hp | hp
  · go_wp2_with (go_at_call 61; with_reducible refine (live3 _ w hb).mono ?_; rintro e w9 ⟨rfl, hb9⟩)
    go_ret
    exact ⟨rfl, hb9⟩
  rcases (show b = 0 ∨ 0 < b by omega) with rfl | hc
  · go_wp2_with (go_at_call 61; with_reducible refine (live3 _ w hb).mono ?_; rintro e w9 ⟨rfl, hb9⟩)
    go_ret
    exact ⟨rfl, hb9⟩
  obtain ⟨hs, hm, hsl⟩ := HFACT.out rfl
  obtain ⟨n, rfl⟩ := Int.eq_ofNat_of_zero_le b0
  have d4 : ((n : Int) == 0) = false := by rw [beq_eq_false_iff_ne]; omega
  obtain ⟨f, hf⟩ : ∃ f : Nat, p % 2017 = (f : Int) := ⟨(p % 2017).toNat, by rw [Int.toNat_of_nonneg]; exact Int.emod_nonneg _ (by omega)⟩
  have hfl : f < 2017 := by have := Int.emod_lt_of_pos p (show (0 : Int) < 2017 by omega); omega
  obtain ⟨c1, c2, c3, c4⟩ := whole_facts hs
  have hSl : SA.data.toList.length = 256 := by rw [toList_size, hs]
  have HM := Lib.hid hm
  have HSL := Lib.hid hsl
  have HSS := Lib.hid hs
  have HSZ := Lib.hid hSl
  clear hs hm hsl hSl HFACT
  go_wp2_with (refine wpList_bytes rfl 9 30 5 _ rfl SA rfl Try.underlying9 Try.underlying30 Try.underlying5 ?_; intro W3 c hW3 hg3 hz3)
  have hbel : Below w.heap.size w W3 := hb.grown hg3 hb.size (by simp)
  have HB : Blk W3 w10.heap.size 5 (bytesOf (SA.data.toList ++ List.replicate (c - 256) 0)) := by
    rw [← HSS.out, ← bytesRow_eq]; exact hW3
  have hwb : w.heap.size ≤ w10.heap.size := hb.size
  have hl9 : w10.heap.size < W3.heap.size := HB.lt
  clear hW3 hz3 hb hg3
  generalize w10.heap.size = B at HB hwb hl9 ⊢
  rw [hf]
  clear hf
  go_loopw [11] (fun i wr => ∃ (k : Nat) (l : List UInt8), k ≤ 32 ∧ i = .int .i64 k ∧ l.length = 256 ∧ val l = val SA.data.toList ^^^ 2 ^ f * (n % 2 ^ k) ∧ Blk wr B 5 (bytesOf (l ++ List.replicate (c - 256) 0)) ∧ Below w.heap.size w wr) (fun i _ => 32 - (intOf i).toNat)
  case atStart => exact ⟨0, SA.data.toList, by omega, rfl, HSZ.out, by simp [Nat.mod_one], HB, hbel⟩
  case round =>
    clear hbel HB
    obtain ⟨k, l, hk, rfl, hll, hv, HB, hbel⟩ := hrel
    have HV := Lib.hid hv
    have HL := Lib.hid hll
    clear hv hll
    by_cases hlt : k < 32
    · have hd : decide ((k : Int) < 32) = true := decide_eq_true (by omega)
      by_cases hodd : n / 2 ^ k % 2 = 1
      · have ho : (((n : Int) / 2 ^ k).tmod 2 == 1) = true := by rw [tmod_test]; exact decide_eq_true hodd
        have hil : (f + k) / 8 < l.length := by rw [HL.out]; omega
        obtain ⟨x, hx⟩ : ∃ x, x = l[(f + k) / 8] := ⟨_, rfl⟩
        have hcell : wr.cell? ⟨B, (f + k) / 8, none⟩ = some (.int .u8 (x.toNat : Int)) := by
          have hg : (l ++ List.replicate (c - 256) 0)[(f + k) / 8]? = some x := by
            rw [List.getElem?_append_left (by omega), List.getElem?_eq_getElem hil, hx]
          obtain ⟨h1, h2⟩ := List.getElem?_eq_some_iff.1 hg
          rw [HB.cell, bytesOf_get _ _ h1, h2]
        have hfro : wr.frozen? ⟨B, (f + k) / 8, none⟩ = false := HB.frozen (by rw [bytesOf_size, List.length_append]; omega)
        have hx8 := bits_bit x ((f + k) % 8) (Nat.mod_lt _ (by omega))
        have hvy := val_yes HV.out hodd hil
        rw [← hx] at hvy
        obtain ⟨y, hy⟩ : ∃ y, y = bitTurned x ((f + k) % 8) := ⟨_, rfl⟩
        rw [← hy] at hx8 hvy
        have HVY := Lib.hid hvy
        clear hvy hy hx
        go_wp2
        go_roundw
        case rel => exact ⟨k + 1, l.set ((f + k) / 8) y, by omega, by go_num, by rw [List.length_set]; exact HL.out, HVY.out, by
          have := HB.store ((f + k) / 8) (.int .u8 (y.toNat : Int))
          rw [bytesOf_set, List.set_append_left _ _ hil] at this
          exact this, hbel.setCell hwb _⟩
        case measure => simp [intOf]; omega
      · have ho : (((n : Int) / 2 ^ k).tmod 2 == 1) = false := by rw [tmod_test]; exact decide_eq_false hodd
        go_wp2
        go_roundw
        case rel => exact ⟨k + 1, l, by omega, by go_num, HL.out, by rw [top_no n k hodd]; exact HV.out, HB, hbel⟩
        case measure => simp [intOf]; omega
    · obtain ⟨z, hz⟩ : ∃ z : ByteArray, z = ⟨l.toArray⟩ := ⟨_, rfl⟩
      have hzl : z.data.toList = l := by rw [hz]
      have HO : Hid (opn z.data.toList = (⟨0, 0, ⟨#[]⟩⟩, 7)) := Lib.hid (by
        have hv := HV.out
        rw [show k = 32 by omega, Nat.mod_eq_of_lt (show n < 2 ^ 32 by omega), HSL.out] at hv
        rw [hzl]
        exact opn_turned HM.out l f n HL.out hv (by omega) (by omega) (by omega))
      have HZM : Hid (z.size ≤ maxLen) := Lib.hid (by rw [← toList_size, hzl, HL.out]; unfold maxLen; omega)
      have hcz : ∀ i, (h : i < z.data.toList.length) → wr.cell? ⟨B, 0 + i, none⟩ = some (.int .u8 (z.data.toList[i].toNat : Int)) := by
        intro i h
        have hlt' : i < l.length := by rw [← hzl]; exact h
        rw [Nat.zero_add, HB.cell, bytesOf_get _ _ (show i < _ by rw [List.length_append]; omega)]
        congr 4
        rw [List.getElem_append_left hlt']
        congr 1
        rw [hzl]
      have HC := Lib.hid hcz
      have HZ : Hid (z.data.toList.length = SA.size) := by rw [hzl, HSS.out]; exact HL
      have HBEL := Lib.hid hbel
      have hself : Below wr.heap.size wr wr := Below.refl _ _
      clear hcz hzl hz HB HV HL hl9
      rw [show (k : Int) = 32 by omega]
      go_upto_region 14 with (first
        | (refine wpList_string (by first | rfl | go_simp) 30 9 5 _ rfl _ 0 SA.size c rfl Try.underlying30 Try.underlying5 Try.underlying9 z _ rfl HZ.out (fun i h => HC.out i h) ?_)
        | (go_at_call 68; with_reducible refine (open_as z _ wr hself HZM.out 0 0 7 ⟨#[]⟩ HO.out).mono ?_; rintro e w14 ⟨rfl, hb14⟩))
      replace hb14 := hb14.alloc hb14.size (Obj.cells #[Value.int IntKind.i64 0, Value.int IntKind.i64 0, Value.string { data := #[] }] 72)
      generalize w14.alloc (Obj.cells #[Value.int IntKind.i64 0, Value.int IntKind.i64 0, Value.string { data := #[] }] 72) = W5 at hb14 ⊢
      have hbx := (hbel.trans (hb14.mono hbel.size)).drew
      clear hb14 hself HBEL HC hbel
      first
        | go_region_with (go_at_call 61; with_reducible refine (live3 _ w hbx).mono ?_; rintro e w12 ⟨rfl, hb9⟩; replace hbx := hb9; clear hb9)
        | fail
      all_goals
        go_wp2
        go_ret
        exact ⟨rfl, hbx⟩
end Go.Proofs.Ytmibbklafogbkaa
