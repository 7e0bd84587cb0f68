/- More on texts of bytes: two that are laid side by side. -/
import Derived.Test.YtmibbklafogbkaaFm
namespace Go.Proofs.Ytmibbklafogbkaa
namespace Fld
theorem setL_append (l : List UInt8) (a : Nat) (x y : List UInt8) (h : a + x.length + y.length ≤ l.length) : setL (setL l a x) (a + x.length) y = setL l a (x ++ y) := by
  unfold setL
  have h1 : (l.take a).length = a := by simp; omega
  have e1 : (l.take a ++ (x ++ l.drop (a + x.length))).take (a + x.length) = l.take a ++ x := by
    rw [← List.append_assoc, List.take_append_of_le_length (by rw [List.length_append]; omega), List.take_of_length_le (by rw [List.length_append]; omega)]
  have e2 : (l.take a ++ (x ++ l.drop (a + x.length))).drop (a + x.length + y.length) = l.drop (a + (x ++ y).length) := by
    rw [← List.append_assoc, List.drop_append, List.length_append, h1, List.drop_eq_nil_of_le (by rw [List.length_append]; omega), List.nil_append, List.drop_drop, List.length_append]
    congr 1; omega
  rw [e1, e2]
  simp
theorem getL_in (l : List UInt8) (a i n : Nat) (z : List UInt8) (h : a + z.length ≤ l.length) (hi : i + n ≤ z.length) : getL (setL l a z) (a + i) n = getL z i n := by
  unfold getL setL
  have h1 : (l.take a).length = a := by simp; omega
  rw [List.drop_append, h1, List.drop_eq_nil_of_le (by omega), List.nil_append, show a + i - a = i by omega, List.drop_append_of_le_length (by omega), List.take_append_of_le_length (by rw [List.length_drop]; omega)]
theorem getL_all (z : List UInt8) : getL z 0 z.length = z := by simp [getL]
theorem getL_left (x y : List UInt8) : getL (x ++ y) 0 x.length = x := by simp [getL]
theorem getL_right (x y : List UInt8) : getL (x ++ y) x.length y.length = y := by simp [getL]
theorem be4 (n : Nat) : be 4 n = [UInt8.ofNat (n / 256 / 256 / 256), UInt8.ofNat (n / 256 / 256), UInt8.ofNat (n / 256), UInt8.ofNat n] := rfl
theorem num_between (n m : Nat) (hm : m < 4294967296) : num (getL (be 4 n ++ be 4 m) 2 4) = n % 65536 * 65536 + m / 65536 := by
  rw [be4, be4]
  simp only [List.cons_append, List.nil_append, getL, List.drop_succ_cons, List.drop_zero, List.take_succ_cons, List.take_zero, num, List.foldl_cons, List.foldl_nil, UInt8.toNat_ofNat']
  omega
end Fld
end Go.Proofs.Ytmibbklafogbkaa
