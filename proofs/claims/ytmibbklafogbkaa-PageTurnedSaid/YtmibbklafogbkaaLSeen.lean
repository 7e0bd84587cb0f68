/- The walk of the law Sum32Seen. -/
import Derived.Test.YtmibbklafogbkaaL2
import Derived.Test.YtmibbklafogbkaaW2
import Derived.RegionTactic
import Derived.BigRegion
namespace Go.Proofs.Ytmibbklafogbkaa
open Go.RowKit
open Crc
/-- a byte of which one bit is turned -/
def bitTurned (x : UInt8) (j : Nat) : UInt8 := x ^^^ UInt8.ofNat (2 ^ j)
theorem bitTurned_toNat (x : UInt8) (j : Nat) (hj : j < 8) : (bitTurned x j).toNat = x.toNat ^^^ 2 ^ j := by
  have : 2 ^ j < 2 ^ 8 := Nat.pow_lt_pow_right (by omega) hj
  unfold bitTurned
  rw [UInt8.toNat_xor, UInt8.toNat_ofNat']
  congr 1
  exact Nat.mod_eq_of_lt this
theorem bits_bit (x : UInt8) (j : Nat) (hj : j < 8) : bits BinOp.xor IntKind.u8 (x.toNat : Int) ((2 : Int) ^ j % 256) = ((bitTurned x j).toNat : Int) := by
  have h : 2 ^ j < 2 ^ 8 := Nat.pow_lt_pow_right (by omega) hj
  have e : (2 : Int) ^ j % 256 = ((2 ^ j : Nat) : Int) := by
    have : (2 : Int) ^ j = ((2 ^ j : Nat) : Int) := by rw [Int.natCast_pow]; rfl
    rw [this]
    generalize 2 ^ j = q at h
    omega
  rw [e, u8_xor_nat _ _ x.toNat_lt (by omega), bitTurned_toNat x j hj]
theorem val_bit (l : List UInt8) (p : Nat) (h : p / 8 < l.length) : val (l.set (p / 8) (bitTurned l[p / 8] (p % 8))) = val l ^^^ 2 ^ p := by
  rw [val_set l _ _ h, bitTurned_toNat _ _ (Nat.mod_lt _ (by omega)), xor_cancel, ← Nat.pow_add]
  congr 2
  omega
theorem val_yes {l m : List UInt8} {f n k : Nat} (hv : val l = val m ^^^ 2 ^ f * (n % 2 ^ k)) (h : n / 2 ^ k % 2 = 1) (hl : (f + k) / 8 < l.length) :
    val (l.set ((f + k) / 8) (bitTurned l[(f + k) / 8] ((f + k) % 8))) = val m ^^^ 2 ^ f * (n % 2 ^ (k + 1)) := by
  rw [val_bit l (f + k) hl, hv, top_bit n k h, mul_xor, ← Nat.pow_add, Nat.xor_assoc]
theorem tmod_test (n k : Nat) : (((n : Int) / 2 ^ k).tmod 2 == 1) = decide (n / 2 ^ k % 2 = 1) := by
  rw [div_pow_cast]
  generalize n / 2 ^ k = q
  rw [Int.tmod_eq_emod_of_nonneg (by omega), Bool.eq_iff_iff]
  simp only [beq_iff_eq, decide_eq_true_eq]
  omega
set_option maxRecDepth 100000 in
set_option maxHeartbeats 1000000 in
theorem seen_walk (s : ByteArray) (p : Int) (b : Int) (w : World) (hs : s.size ≤ maxLen) (wp : (Lit.int .i64 p).wf = true) (wb : (Lit.int .u32 b).wf = true) :
    Calls Try.prog 6 #[.string s, .int .i64 p, .int .u32 b] w fun e w' => e = .returned (.bool true) ∧ Below w.heap.size w w' := by
  obtain ⟨p0, p1⟩ := bounds_i64 wp
  obtain ⟨b0, b1⟩ := bounds_u32 wb
  unfold maxLen at hs
  clear wp wb
  have h0 : Below w.heap.size w w := Below.refl _ _
  rcases (show 2000 < s.size ∨ (s.size ≤ 2000 ∧ s.size < 5) ∨ (s.size ≤ 2000 ∧ 5 ≤ s.size ∧ p < 0) ∨ (s.size ≤ 2000 ∧ 5 ≤ s.size ∧ 0 ≤ p ∧ b = 0) ∨ (s.size ≤ 2000 ∧ 5 ≤ s.size ∧ 0 ≤ p ∧ 0 < b) by omega) with hm | ⟨hm, hn⟩ | ⟨hm, hn, hb⟩ | ⟨hm, hn, hb, rfl⟩ | ⟨hm, hn, hb, hc⟩
  case inr.inr.inr.inr =>
    obtain ⟨n, rfl⟩ := Int.eq_ofNat_of_zero_le b0
    obtain ⟨f, hf⟩ : ∃ f : Nat, p % (8 * (s.size : Int) - 31) = (f : Int) := ⟨(p % (8 * (s.size : Int) - 31)).toNat, by rw [Int.toNat_of_nonneg]; exact Int.emod_nonneg _ (by omega)⟩
    have hfl : f < 8 * s.size - 31 := by have := Int.emod_lt_of_pos p (show 0 < 8 * (s.size : Int) - 31 by omega); omega
    have d1 : decide ((2000 : Int) < (s.size : Int)) = false := decide_eq_false (by omega)
    have d2 : decide ((s.size : Int) < 5) = false := decide_eq_false (by omega)
    have d3 : decide (p < 0) = false := decide_eq_false (by omega)
    have d4 : ((n : Int) == 0) = false := by rw [beq_eq_false_iff_ne]; omega
    have d5 : ((8 * (s.size : Int) - 31) == 0) = false := by rw [beq_eq_false_iff_ne]; omega
    go_enter Try.func6, Try.ntmps6
    go_wp2_with (refine wpList_bytes rfl 9 30 5 _ rfl s rfl Try.underlying9 Try.underlying30 Try.underlying5 ?_; intro W3 c hW3 hg3 hz3)
    have hbel : Below w.heap.size w W3 := (Below.refl _ _).grown hg3 (Nat.le_refl _) (by simp)
    have HB : Blk W3 w.heap.size 5 (bytesOf (s.data.toList ++ List.replicate (c - s.size) 0)) := by
      rw [← bytesRow_eq]; exact hW3
    clear hW3 hg3 hz3
    rw [hf]
    clear hf
    go_loopw [9] (fun i wr => ∃ (k : Nat) (l : List UInt8), k ≤ 32 ∧ i = .int .i64 k ∧ l.length = s.size ∧ val l = val s.data.toList ^^^ 2 ^ f * (n % 2 ^ k) ∧ Blk wr w.heap.size 5 (bytesOf (l ++ List.replicate (c - s.size) 0)) ∧ Below w.heap.size w wr) (fun i _ => 32 - (intOf i).toNat)
    case atStart => exact ⟨0, s.data.toList, by omega, rfl, by simp, by simp [Nat.mod_one], HB, hbel⟩
    case round =>
      clear hbel HB
      obtain ⟨k, l, hk, rfl, hll, hv, HB, hbel⟩ := hrel
      have HV := Lib.hid hv
      have HL := Lib.hid hll
      clear hv hll
      by_cases hlt : k < 32
      · have hd : decide ((k : Int) < 32) = true := decide_eq_true (by omega)
        by_cases hodd : n / 2 ^ k % 2 = 1
        · have ho : (((n : Int) / 2 ^ k).tmod 2 == 1) = true := by rw [tmod_test]; exact decide_eq_true hodd
          have hil : (f + k) / 8 < l.length := by rw [HL.out]; omega
          obtain ⟨x, hx⟩ : ∃ x, x = l[(f + k) / 8] := ⟨_, rfl⟩
          have hcell : wr.cell? ⟨w.heap.size, (f + k) / 8, none⟩ = some (.int .u8 (x.toNat : Int)) := by
            have hg : (l ++ List.replicate (c - s.size) 0)[(f + k) / 8]? = some x := by
              rw [List.getElem?_append_left (by omega), List.getElem?_eq_getElem hil, hx]
            obtain ⟨h1, h2⟩ := List.getElem?_eq_some_iff.1 hg
            rw [HB.cell, bytesOf_get _ _ h1, h2]
          have hfro : wr.frozen? ⟨w.heap.size, (f + k) / 8, none⟩ = false := HB.frozen (by rw [bytesOf_size, List.length_append]; omega)
          have hx8 := bits_bit x ((f + k) % 8) (Nat.mod_lt _ (by omega))
          have hvy := val_yes HV.out hodd hil
          rw [← hx] at hvy
          obtain ⟨y, hy⟩ : ∃ y, y = bitTurned x ((f + k) % 8) := ⟨_, rfl⟩
          rw [← hy] at hx8 hvy
          have HVY := Lib.hid hvy
          clear hvy hy hx
          go_wp2
          go_roundw
          case rel => exact ⟨k + 1, l.set ((f + k) / 8) y, by omega, by go_num, by rw [List.length_set]; exact HL.out, HVY.out, by
            have := HB.store ((f + k) / 8) (.int .u8 (y.toNat : Int))
            rw [bytesOf_set, List.set_append_left _ _ hil] at this
            exact this, hbel.setCell (Nat.le_refl _) _⟩
          case measure => simp [intOf]; omega
        · have ho : (((n : Int) / 2 ^ k).tmod 2 == 1) = false := by rw [tmod_test]; exact decide_eq_false hodd
          go_wp2
          go_roundw
          case rel => exact ⟨k + 1, l, by omega, by go_num, HL.out, by rw [top_no n k hodd]; exact HV.out, HB, hbel⟩
          case measure => simp [intOf]; omega
      · obtain ⟨z, hz⟩ : ∃ z : ByteArray, z = ⟨l.toArray⟩ := ⟨_, rfl⟩
        have hzl : z.data.toList = l := by rw [hz]
        have hzs : z.size ≤ 2000 := by have : z.data.toList.length = z.size := Array.length_toList ..; rw [hzl, HL.out] at this; omega
        have hne : (sumI z != sumI s) = true := by
          rw [bne_iff_ne]
          intro h
          unfold sumI at h
          have h' : crc z.data.toList = crc s.data.toList := by exact_mod_cast h
          unfold crc at h'
          rw [Nat.xor_comm, Nat.xor_comm (onl ones s.data.toList), hzl] at h'
          have hv := HV.out
          rw [show k = 32 by omega, Nat.mod_eq_of_lt (show n < 2 ^ 32 by omega)] at hv
          exact Crc.seen ones s.data.toList l (by rw [HL.out]; simp) f n hv (by have : s.data.toList.length = s.size := Array.length_toList ..; omega) (by omega) (by omega) (xor_inj _ _ _ h')
        have hcz : ∀ i, (h : i < z.data.toList.length) → wr.cell? ⟨w.heap.size, 0 + i, none⟩ = some (.int .u8 (z.data.toList[i].toNat : Int)) := by
          intro i h
          have hlt' : i < l.length := by rw [← hzl]; exact h
          rw [Nat.zero_add, HB.cell, bytesOf_get _ _ (show i < _ by rw [List.length_append]; omega)]
          congr 4
          rw [List.getElem_append_left hlt']
          congr 1
          rw [hzl]
        have HC := Lib.hid hcz
        have HZ : Hid (z.data.toList.length = s.size) := by rw [hzl]; exact HL
        have hlw : w.heap.size < wr.heap.size := HB.lt
        have HBEL := Lib.hid hbel
        have hself : Below wr.heap.size wr wr := Below.refl _ _
        have hsz : s.data.toList.length = s.size := Array.length_toList ..
        clear hcz hzl hz HB hbel h0 hsz HV HL
        rw [show (k : Int) = 32 by omega]
        go_wp2_with (first
          | (refine wpList_string (by first | rfl | go_simp) 30 9 5 _ rfl _ 0 s.size c rfl Try.underlying30 Try.underlying5 Try.underlying9 z _ rfl HZ.out (fun i h => (Below.cell (p := ⟨_, _, none⟩) (by with_reducible assumption) hlw).trans (HC.out i h)) ?_)
          | (go_at_call 25; refine (frm (live2_any _) (by assumption)).mono ?_; rintro e w' ⟨rfl, hb⟩)
          | (go_at_call 27; refine (frm (sum_any _ _ (by first | omega | (simp; omega))) (by assumption)).mono ?_; rintro e w' ⟨rfl, hb⟩))
        go_ret
        exact ⟨rfl, HBEL.out.trans (hb.mono (by omega))⟩
  all_goals
    go_enter Try.func6, Try.ntmps6
    go_wp2_with (go_at_call 25; refine (frm (live2_any _) (by assumption)).mono ?_; rintro e w' ⟨rfl, hb⟩)
    go_ret
    exact ⟨rfl, by assumption⟩
end Go.Proofs.Ytmibbklafogbkaa
