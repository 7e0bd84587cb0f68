/- Texts of bytes and numbers in them, as plain lists: no program in sight. -/
namespace Go.Proofs.Ytmibbklafogbkaa
namespace Fld
/-- a text in which bytes are laid at a place -/
def setL (l : List UInt8) (o : Nat) (bs : List UInt8) : List UInt8 := l.take o ++ (bs ++ l.drop (o + bs.length))
/-- so many bytes from a place on -/
def getL (l : List UInt8) (o n : Nat) : List UInt8 := (l.drop o).take n
theorem setL_nil (l : List UInt8) (o : Nat) : setL l o [] = l := by simp [setL]
theorem setL_length (l : List UInt8) (o : Nat) (bs : List UInt8) (h : o + bs.length ≤ l.length) : (setL l o bs).length = l.length := by
  simp [setL]; omega
theorem getL_length (l : List UInt8) (o n : Nat) (h : o + n ≤ l.length) : (getL l o n).length = n := by simp [getL]; omega
theorem getL_get (l : List UInt8) (o n i : Nat) (h : i < n) : (getL l o n)[i]? = l[o + i]? := by simp [getL, h]
theorem set_as (l : List UInt8) (o : Nat) (x : UInt8) (h : o < l.length) : l.set o x = l.take o ++ x :: l.drop (o + 1) := by
  rw [List.set_eq_take_append_cons_drop, if_pos h]
theorem setL_cons (l : List UInt8) (o : Nat) (x : UInt8) (bs : List UInt8) (h : o < l.length) : setL l o (x :: bs) = setL (l.set o x) (o + 1) bs := by
  unfold setL
  rw [List.take_set, List.drop_set, if_pos (by omega), List.take_succ_eq_append_getElem h]
  rw [List.set_append_right _ _ (by simp; omega), List.length_take, show o - min o l.length = 0 by omega]
  simp [Nat.add_assoc, Nat.add_comm 1]
theorem setL_snoc (l : List UInt8) (o : Nat) (x : UInt8) (bs : List UInt8) (h : o + bs.length < l.length) : (setL l o bs).set (o + bs.length) x = setL l o (bs ++ [x]) := by
  unfold setL
  have h1 : (l.take o).length = o := by simp; omega
  rw [List.set_append_right _ _ (by omega), h1, List.set_append_right _ _ (by omega), show o + bs.length - o - bs.length = 0 by omega]
  rw [List.drop_eq_getElem_cons h]
  simp [Nat.add_assoc]
theorem setL_pre (l : List UInt8) (o : Nat) (x : UInt8) (bs : List UInt8) (h : o < l.length) : (setL l (o + 1) bs).set o x = setL l o (x :: bs) := by
  unfold setL
  have h1 : (l.take (o + 1)).length = o + 1 := by simp; omega
  rw [List.set_append_left _ _ (by omega), List.take_succ_eq_append_getElem h, List.set_append_right _ _ (by simp; omega), List.length_take, show o - min o l.length = 0 by omega]
  simp [Nat.add_assoc, Nat.add_comm 1]
theorem setL_pad (l pad : List UInt8) (o : Nat) (bs : List UInt8) (h : o + bs.length ≤ l.length) : setL (l ++ pad) o bs = setL l o bs ++ pad := by
  unfold setL
  rw [List.take_append_of_le_length (by omega), List.drop_append_of_le_length h]
  simp
theorem getL_setL (l : List UInt8) (o : Nat) (bs : List UInt8) (h : o + bs.length ≤ l.length) : getL (setL l o bs) o bs.length = bs := by
  unfold getL setL
  have h1 : (l.take o).length = o := by simp; omega
  rw [List.drop_append_of_le_length (by omega), List.drop_eq_nil_of_le (by omega), List.nil_append, List.take_append_of_le_length (by omega), List.take_length]
theorem getL_take (l : List UInt8) (o n : Nat) : getL l o n = (l.take (o + n)).drop o := by
  unfold getL
  rw [List.drop_take, Nat.add_sub_cancel_left]

theorem rev_ind {P : List UInt8 → Prop} (h0 : P []) (hs : ∀ l c, P l → P (l ++ [c])) : ∀ l, P l := by
  have h : ∀ l : List UInt8, P l.reverse := by
    intro l
    induction l with
    | nil => exact h0
    | cons c l ih => rw [List.reverse_cons]; exact hs _ _ ih
  intro l
  have := h l.reverse
  rwa [List.reverse_reverse] at this
/-- the number of bytes, the highest first -/
def num (l : List UInt8) : Nat := l.foldl (fun n c => n * 256 + c.toNat) 0
theorem num_snoc (l : List UInt8) (c : UInt8) : num (l ++ [c]) = num l * 256 + c.toNat := by simp [num]
theorem num_lt (l : List UInt8) : num l < 256 ^ l.length := by
  refine rev_ind (P := fun l => num l < 256 ^ l.length) (by simp [num]) (fun l c ih => ?_) l
  · rw [num_snoc, List.length_append, List.length_singleton, Nat.pow_succ]
    have := c.toNat_lt
    omega
/-- a number in so many bytes, the highest first -/
def be : Nat → Nat → List UInt8
  | 0, _ => []
  | w + 1, n => be w (n / 256) ++ [UInt8.ofNat n]
theorem be_length (w n : Nat) : (be w n).length = w := by
  induction w generalizing n with
  | zero => rfl
  | succ w ih => simp [be, ih]
theorem num_be (w n : Nat) (h : n < 256 ^ w) : num (be w n) = n := by
  induction w generalizing n with
  | zero => simp at h; subst h; rfl
  | succ w ih =>
    rw [be, num_snoc, ih _ (by rw [Nat.pow_succ] at h; omega), UInt8.toNat_ofNat']
    omega
theorem be_get (w n i : Nat) (h : i < w) : (be w n)[i]? = some (UInt8.ofNat (n / 256 ^ (w - 1 - i))) := by
  induction w generalizing n with
  | zero => omega
  | succ w ih =>
    rw [be]
    by_cases hi : i < w
    · rw [List.getElem?_append_left (by rw [be_length]; exact hi), ih _ hi, Nat.div_div_eq_div_mul, ← Nat.pow_succ', show w + 1 - 1 - i = w - 1 - i + 1 by omega]
    · have : i = w := by omega
      subst this
      rw [List.getElem?_append_right (by rw [be_length]; omega), be_length]
      simp
theorem be_num (l : List UInt8) : be l.length (num l) = l := by
  refine rev_ind (P := fun l => be l.length (num l) = l) rfl (fun l c ih => ?_) l
  · rw [List.length_append, List.length_singleton, be, num_snoc]
    have := c.toNat_lt
    rw [show (num l * 256 + c.toNat) / 256 = num l by omega, ih]
    congr 2
    apply UInt8.toNat_inj.1
    rw [UInt8.toNat_ofNat']
    omega
end Fld
end Go.Proofs.Ytmibbklafogbkaa
