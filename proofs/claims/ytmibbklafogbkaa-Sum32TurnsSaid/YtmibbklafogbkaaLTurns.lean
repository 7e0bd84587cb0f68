/- The walk of the law Sum32Turns. -/
import Derived.Test.YtmibbklafogbkaaL2
import Derived.Test.YtmibbklafogbkaaW2
import Derived.RegionTactic
import Derived.BigRegion
namespace Go.Proofs.Ytmibbklafogbkaa
open Go.RowKit
open Crc
/-- a text of which the first k bytes from a place on are turned -/
def cur (l b : List UInt8) (at' k : Nat) : List UInt8 := l.take at' ++ (List.zipWith (fun x y => x ^^^ y) ((l.drop at').take k) (b.take k) ++ l.drop (at' + k))
theorem cur_zero (l b : List UInt8) (at' : Nat) : cur l b at' 0 = l := by simp [cur]
theorem cur_length (l b : List UInt8) (at' k : Nat) (hk : k ≤ b.length) (h : at' + k ≤ l.length) : (cur l b at' k).length = l.length := by
  simp only [cur, List.length_append, List.length_take, List.length_zipWith, List.length_drop]
  omega
theorem cur_get (l b : List UInt8) (at' k : Nat) (hk : k < b.length) (h : at' + k < l.length) : (cur l b at' k)[at' + k]? = l[at' + k]? := by
  unfold cur
  have h1 : (l.take at').length = at' := by simp; omega
  have h2 : (List.zipWith (fun x y => x ^^^ y) ((l.drop at').take k) (b.take k)).length = k := by simp; omega
  rw [List.getElem?_append_right (by omega), h1, List.getElem?_append_right (by omega), h2, List.getElem?_drop]
  congr 1; omega
theorem cur_set (l b : List UInt8) (at' k : Nat) (hk : k < b.length) (h : at' + k < l.length) : (cur l b at' k).set (at' + k) (l[at' + k] ^^^ b[k]) = cur l b at' (k + 1) := by
  unfold cur
  have h1 : (l.take at').length = at' := by simp; omega
  have h2 : (List.zipWith (fun x y => x ^^^ y) ((l.drop at').take k) (b.take k)).length = k := by simp; omega
  rw [List.set_append_right _ _ (by omega), h1, List.set_append_right _ _ (by omega), h2]
  congr 1
  rw [List.take_succ_eq_append_getElem hk, List.take_succ_eq_append_getElem (show k < (l.drop at').length by simp; omega), List.zipWith_append (by simp; omega)]
  simp only [List.zipWith_cons_cons, List.zipWith_nil_right, List.append_assoc]
  congr 1
  rw [show at' + k - at' - k = 0 by omega, List.drop_eq_getElem_cons (show at' + k < l.length by omega)]
  simp [Nat.add_assoc]
theorem turn_crc (l b : List UInt8) (at' : Nat) (h : at' + b.length ≤ l.length) : crc (cur l b at' b.length) = crc l ^^^ thr (onl 0 b) (l.length - at' - b.length) := by
  have e := crc_turn (l.take at') ((l.drop at').take b.length) (l.drop (at' + b.length)) b (by simp; omega)
  have e2 : l.take at' ++ (l.drop at').take b.length ++ l.drop (at' + b.length) = l := by
    rw [List.append_assoc, ← List.drop_drop, List.take_append_drop, List.take_append_drop]
  rw [e2, List.append_assoc] at e
  unfold cur
  rw [List.take_length, e, List.length_drop]
  congr 2
  omega
theorem turn_back (a : Nat) (x : Nat) : a ^^^ x ^^^ x = a := by rw [Nat.xor_assoc, Nat.xor_self, Nat.xor_zero]
set_option maxRecDepth 100000 in
set_option maxHeartbeats 1000000 in
theorem turns_walk (s : ByteArray) (p : Int) (t : ByteArray) (w : World) (hs : s.size ≤ maxLen) (wp : (Lit.int .i64 p).wf = true) (ht : t.size ≤ maxLen) :
    Calls Try.prog 5 #[.string s, .int .i64 p, .string t] w fun e w' => e = .returned (.bool true) ∧ Below w.heap.size w w' := by
  obtain ⟨p0, p1⟩ := bounds_i64 wp
  unfold maxLen at hs ht
  have h0 : Below w.heap.size w w := Below.refl _ _
  rcases (show 2000 < s.size ∨ (s.size ≤ 2000 ∧ p < 0) ∨ (s.size ≤ 2000 ∧ 0 ≤ p ∧ (s.size : Int) < p) ∨ (s.size ≤ 2000 ∧ 0 ≤ p ∧ p ≤ (s.size : Int) ∧ (s.size : Int) - p < t.size) ∨ (s.size ≤ 2000 ∧ 0 ≤ p ∧ p ≤ (s.size : Int) ∧ (t.size : Int) ≤ (s.size : Int) - p) by omega) with hm | ⟨hm, hn⟩ | ⟨hm, hn, hb⟩ | ⟨hm, hn, hb, hc⟩ | ⟨hm, hn, hb, hc⟩
  case inr.inr.inr.inr =>
    obtain ⟨q, rfl⟩ := Int.eq_ofNat_of_zero_le hn
    have b1 : decide ((2000 : Int) < (s.size : Int)) = false := decide_eq_false (by omega)
    have b2 : decide ((q : Int) < 0) = false := decide_eq_false (by omega)
    have b3 : decide ((s.size : Int) - (q : Int) < (t.size : Int)) = false := decide_eq_false (by omega)
    have b4 : decide ((s.size : Int) < (q : Int)) = false := decide_eq_false (by omega)
    go_enter Try.func5, Try.ntmps5
    go_wp2_with (refine wpList_bytes rfl 9 30 5 _ rfl s rfl Try.underlying9 Try.underlying30 Try.underlying5 ?_; intro W3 c hW3 hg3 hz3)
    have hbel : Below w.heap.size w W3 := (Below.refl _ _).grown hg3 (Nat.le_refl _) (by simp)
    have HB : Blk W3 w.heap.size 5 (bytesOf (cur s.data.toList t.data.toList q 0 ++ List.replicate (c - s.size) 0)) := by
      rw [cur_zero, ← bytesRow_eq]; exact hW3
    clear hW3 hg3 hz3
    go_loopw [8] (fun i wr => ∃ k : Nat, k ≤ t.size ∧ i = .int .i64 k ∧ Blk wr w.heap.size 5 (bytesOf (cur s.data.toList t.data.toList q k ++ List.replicate (c - s.size) 0)) ∧ Below w.heap.size w wr) (fun i _ => t.size - (intOf i).toNat)
    case atStart => exact ⟨0, by omega, rfl, HB, hbel⟩
    case round =>
      clear hbel HB
      obtain ⟨k, hk, rfl, HB, hbel⟩ := hrel
      by_cases hlt : k < t.size
      · have hd : decide ((k : Int) < (t.size : Int)) = true := decide_eq_true (by omega)
        have i1 : (0 : Int) ≤ (q : Int) + k := by omega
        have i2 : (q : Int) + k < (s.size : Int) := by omega
        have hkl : q + k < s.data.toList.length := by simp only [Array.length_toList]; show q + k < s.size; omega
        have hkt : k < t.data.toList.length := by simpa using hlt
        obtain ⟨x, hx⟩ : ∃ x, x = s.data.toList[q + k] := ⟨_, rfl⟩
        have hlen : (cur s.data.toList t.data.toList q k).length = s.data.toList.length := cur_length _ _ _ _ (by omega) (by omega)
        have hcell : wr.cell? ⟨w.heap.size, q + k, none⟩ = some (.int .u8 (x.toNat : Int)) := by
          have hg : (cur s.data.toList t.data.toList q k ++ List.replicate (c - s.size) 0)[q + k]? = some x := by
            rw [List.getElem?_append_left (by omega), cur_get _ _ _ _ hkt hkl, List.getElem?_eq_getElem hkl, hx]
          obtain ⟨h1, h2⟩ := List.getElem?_eq_some_iff.1 hg
          rw [HB.cell, bytesOf_get _ _ h1, h2]
        have hfro : wr.frozen? ⟨w.heap.size, q + k, none⟩ = false := HB.frozen (by rw [bytesOf_size, List.length_append]; omega)
        have hx8 : bits BinOp.xor IntKind.u8 (x.toNat : Int) (t[k].toNat : Int) = (((x ^^^ t.data.toList[k]) : UInt8).toNat : Int) := by
          rw [u8_xor_nat _ _ x.toNat_lt (UInt8.toNat_lt _), UInt8.toNat_xor]; rfl
        have hset : (cur s.data.toList t.data.toList q k ++ List.replicate (c - s.size) 0).set (q + k) (x ^^^ t.data.toList[k]) = cur s.data.toList t.data.toList q (k + 1) ++ List.replicate (c - s.size) 0 := by
          rw [List.set_append_left _ _ (by omega), hx, cur_set _ _ _ _ hkt hkl]
        obtain ⟨y, hy⟩ : ∃ y, y = x ^^^ t.data.toList[k] := ⟨_, rfl⟩
        rw [← hy] at hx8 hset
        have HS := Lib.hid hset
        clear hset hy hx hlen
        go_wp2
        go_region
        go_wp2
        go_roundw
        case rel => exact ⟨k + 1, by omega, by go_num, by
          have := HB.store (q + k) (.int .u8 (y.toNat : Int))
          rw [bytesOf_set, HS.out] at this
          exact this.drew, (hbel.setCell (Nat.le_refl _) _).drew⟩
        case measure => simp [intOf]; omega
      · obtain rfl : k = t.size := by omega
        obtain ⟨z, hz⟩ : ∃ z : ByteArray, z = ⟨(cur s.data.toList t.data.toList q t.size).toArray⟩ := ⟨_, rfl⟩
        have hzl : z.data.toList = cur s.data.toList t.data.toList q t.size := by rw [hz]
        have htl : t.data.toList.length = t.size := by simp
        have hsl : s.data.toList.length = s.size := by simp
        have hzn : z.data.toList.length = s.size := by rw [hzl, cur_length _ _ _ _ (by omega) (by omega), hsl]
        have hzs : z.size ≤ 2000 := by have : z.data.toList.length = z.size := Array.length_toList ..; omega
        have e1 : turnedI (sumI s) t ((s.size : Int) - (q : Int) - (t.size : Int)) = sumI z := by
          unfold turnedI sumI
          rw [hzl, ← htl, turn_crc _ _ _ (by omega), hsl, htl]
          congr 2
          congr 1
          omega
        have e2 : turnedI (sumI z) t ((s.size : Int) - (q : Int) - (t.size : Int)) = sumI s := by
          unfold turnedI sumI
          rw [hzl, ← htl, turn_crc _ _ _ (by omega), hsl, htl]
          rw [Int.toNat_natCast, show ((s.size : Int) - (q : Int) - (t.size : Int)).toNat = s.size - q - t.size by omega, turn_back]
        have hcz : ∀ i, (h : i < z.data.toList.length) → wr.cell? ⟨w.heap.size, 0 + i, none⟩ = some (.int .u8 (z.data.toList[i].toNat : Int)) := by
          intro i h
          have hlt' : i < (cur s.data.toList t.data.toList q t.size).length := by rw [← hzl]; exact h
          rw [Nat.zero_add, HB.cell, bytesOf_get _ _ (show i < _ by rw [List.length_append]; omega)]
          congr 4
          rw [List.getElem_append_left hlt']
          congr 1
          rw [hzl]
        have HC := Lib.hid hcz
        have HZ := Lib.hid hzn
        have hlw : w.heap.size < wr.heap.size := HB.lt
        have HBEL := Lib.hid hbel
        have hself : Below wr.heap.size wr wr := Below.refl _ _
        clear hcz hzn hzl hz hsl htl HB hbel h0
        go_wp2_with (first
          | (refine wpList_string (by first | rfl | go_simp) 30 9 5 _ rfl _ 0 s.size c rfl Try.underlying30 Try.underlying5 Try.underlying9 z _ rfl HZ.out (fun i h => (Below.cell (p := ⟨_, _, none⟩) (by with_reducible assumption) hlw).trans (HC.out i h)) ?_)
          | (go_at_call 25; refine (frm (live2_any _) (by assumption)).mono ?_; rintro e w' ⟨rfl, hb⟩)
          | (go_at_call 27; refine (frm (sum_any _ _ (by first | omega | (simp; omega))) (by assumption)).mono ?_; rintro e w' ⟨rfl, hb⟩)
          | (go_at_call 32; refine (frm (turned_any _ _ _ _ (by first | with_reducible assumption | with_reducible exact (sumI_bd _).1 | with_reducible exact (sumI_bd _).2 | with_reducible exact (zerosI_bd _ _ (by omega) (by omega)).1 | with_reducible exact (zerosI_bd _ _ (by omega) (by omega)).2 | omega) (by first | with_reducible assumption | with_reducible exact (sumI_bd _).1 | with_reducible exact (sumI_bd _).2 | with_reducible exact (zerosI_bd _ _ (by omega) (by omega)).1 | with_reducible exact (zerosI_bd _ _ (by omega) (by omega)).2 | omega) (by first | omega | (simp; omega)) (by omega) (by omega)) (by assumption)).mono ?_; rintro e w' ⟨rfl, hb⟩))
        go_ret
        exact ⟨rfl, HBEL.out.trans (hb.mono (by omega))⟩
  all_goals
    go_enter Try.func5, Try.ntmps5
    go_wp2_with (go_at_call 25; refine (frm (live2_any _) (by assumption)).mono ?_; rintro e w' ⟨rfl, hb⟩)
    go_ret
    exact ⟨rfl, by assumption⟩
end Go.Proofs.Ytmibbklafogbkaa
