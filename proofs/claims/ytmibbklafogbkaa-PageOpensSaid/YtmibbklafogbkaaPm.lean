/- Pages as plain data: which may be, their bytes, what is read out of bytes, torn bytes; no program in sight. -/
import Derived.Test.YtmibbklafogbkaaEs
namespace Go.Proofs.Ytmibbklafogbkaa
namespace Fld
open Crc
/-- may a page be? -/
def May (p : Pg) : Prop := 1 ≤ p.pk ∧ p.pk ≤ 5 ∧ 0 ≤ p.pn ∧ p.pn ≤ 999 ∧ p.pb.size ≤ 244
instance (p : Pg) : Decidable (May p) := by unfold May; infer_instance
/-- a page's bytes ahead of their sum -/
def hdr (p : Pg) : List UInt8 := be 1 p.pk.toNat ++ [0] ++ be 2 p.pb.size ++ be 4 p.pn.toNat ++ p.pb.data.toList ++ List.replicate (244 - p.pb.size) 0
/-- a sum's four bytes, the lowest first -/
def low (n : Nat) : List UInt8 := [UInt8.ofNat n, UInt8.ofNat (n / 256), UInt8.ofNat (n / 65536), UInt8.ofNat (n / 16777216)]
def sealL (p : Pg) : List UInt8 := hdr p ++ low (crc (hdr p))
def blankL : List UInt8 := List.replicate 256 0
def Pg.zero : Pg := ⟨0, 0, ⟨#[]⟩⟩
/-- the page of bytes -/
def pageOf (l : List UInt8) : Pg := ⟨(num (getL l 0 1) : Nat), (num (getL l 4 4) : Nat), ⟨(getL l 8 (num (getL l 2 2))).toArray⟩⟩
def opn (l : List UInt8) : Pg × Int :=
  if l.length ≠ 256 then (Pg.zero, 9)
  else if l = blankL then (Pg.zero, 0)
  else if l.drop 252 ≠ low (crc (l.take 252)) then (Pg.zero, 7)
  else if 244 < num (getL l 2 2) then (Pg.zero, 6)
  else if May (pageOf l) ∧ sealL (pageOf l) = l then (pageOf l, 0) else (Pg.zero, 6)
theorem hdr_length {p : Pg} (h : May p) : (hdr p).length = 252 := by
  unfold May at h
  unfold hdr
  simp only [List.length_append, be_length, List.length_cons, List.length_nil, List.length_replicate, toList_size]
  omega
theorem low_length (n : Nat) : (low n).length = 4 := rfl
theorem seal_length {p : Pg} (h : May p) : (sealL p).length = 256 := by
  unfold sealL
  rw [List.length_append, hdr_length h, low_length]
theorem seal_take {p : Pg} (h : May p) : (sealL p).take 252 = hdr p := by
  unfold sealL
  rw [← hdr_length h, List.take_left]
theorem seal_drop {p : Pg} (h : May p) : (sealL p).drop 252 = low (crc (hdr p)) := by
  unfold sealL
  rw [← hdr_length h, List.drop_left]
theorem getL_hdr {p : Pg} (h : May p) (o n : Nat) (hn : o + n ≤ 252) : getL (sealL p) o n = getL (hdr p) o n := by
  unfold sealL
  exact getL_app _ _ _ _ (by rw [hdr_length h]; exact hn)
theorem hdr_kind (p : Pg) : getL (hdr p) 0 1 = be 1 p.pk.toNat := by
  unfold hdr
  rw [List.append_assoc, List.append_assoc, List.append_assoc, List.append_assoc, getL_app _ _ _ _ (by simp [be_length]), getL_be]
theorem hdr_size (p : Pg) : getL (hdr p) 2 2 = be 2 p.pb.size := by
  unfold hdr
  rw [List.append_assoc, List.append_assoc, List.append_assoc, getL_skip _ _ _ _ (by simp [be_length])]
  have e : (be 1 p.pk.toNat ++ [0]).length = 2 := by simp [be_length]
  rw [e, Nat.sub_self, getL_app _ _ _ _ (by simp [be_length]), getL_be]
theorem hdr_number (p : Pg) : getL (hdr p) 4 4 = be 4 p.pn.toNat := by
  unfold hdr
  rw [List.append_assoc, List.append_assoc, getL_skip _ _ _ _ (by simp [be_length])]
  have e : (be 1 p.pk.toNat ++ [0] ++ be 2 p.pb.size).length = 4 := by simp [be_length]
  rw [e, Nat.sub_self, getL_app _ _ _ _ (by simp [be_length]), getL_be]
theorem hdr_body (p : Pg) : getL (hdr p) 8 p.pb.size = p.pb.data.toList := by
  unfold hdr
  rw [List.append_assoc, getL_skip _ _ _ _ (by simp [be_length])]
  have e : (be 1 p.pk.toNat ++ [0] ++ be 2 p.pb.size ++ be 4 p.pn.toNat).length = 8 := by simp [be_length]
  have hs := toList_size p.pb
  rw [e, Nat.sub_self, getL_app _ _ _ _ (by omega)]
  unfold getL
  rw [List.drop_zero, List.take_of_length_le (by omega)]
theorem seal_num {p : Pg} (h : May p) : num (getL (sealL p) 2 2) = p.pb.size := by
  have h' := h
  unfold May at h'
  rw [getL_hdr h _ _ (by omega), hdr_size, num_be _ _ (by omega)]
theorem pageOf_seal {p : Pg} (h : May p) : pageOf (sealL p) = p := by
  have h' := h
  unfold May at h'
  unfold pageOf
  rw [seal_num h, getL_hdr h _ _ (by omega), getL_hdr h _ _ (by omega), getL_hdr h _ _ (by omega), hdr_kind, hdr_number, hdr_body, num_be _ _ (by omega), num_be _ _ (by omega)]
  obtain ⟨k, n, b⟩ := p
  simp only at h' ⊢
  rw [Int.toNat_of_nonneg (by omega), Int.toNat_of_nonneg (by omega)]
theorem seal_blank {p : Pg} (h : May p) : sealL p ≠ blankL := by
  intro e
  have h1 := getL_hdr h 0 1 (by omega)
  rw [e, hdr_kind] at h1
  have h2 : getL blankL 0 1 = [0] := rfl
  rw [h2] at h1
  have h3 := congrArg num h1
  unfold May at h
  rw [num_be _ _ (by omega)] at h3
  have h4 : num [0] = 0 := rfl
  omega
/-- what is sealed is opened -/
theorem opn_seal {p : Pg} (h : May p) : opn (sealL p) = (p, 0) := by
  have h' := h
  unfold May at h'
  unfold opn
  rw [if_neg (by rw [seal_length h]; omega), if_neg (seal_blank h), if_neg (by rw [seal_drop h, seal_take h]; simp), seal_num h, if_neg (by omega), pageOf_seal h, if_pos ⟨h, rfl⟩]
theorem seal_inj {p q : Pg} (hp : May p) (hq : May q) (e : sealL p = sealL q) : p = q := by rw [← pageOf_seal hp, e, pageOf_seal hq]
/-- what is opened, but a blank one, is what was sealed -/
theorem opn_ok {l : List UInt8} (h : (opn l).2 = 0) : (l = blankL ∧ (opn l).1 = Pg.zero) ∨ (May (opn l).1 ∧ sealL (opn l).1 = l) := by
  unfold opn at h ⊢
  split at h
  · simp at h
  · next h1 =>
    rw [if_neg h1]
    split at h
    · next h2 => rw [if_pos h2]; exact .inl ⟨h2, rfl⟩
    · next h2 =>
      rw [if_neg h2]
      split at h
      · simp at h
      · next h3 =>
        rw [if_neg h3]
        split at h
        · simp at h
        · next h4 =>
          rw [if_neg h4]
          split at h
          · next h5 => rw [if_pos h5]; exact .inr h5
          · simp at h
theorem opn_bad {l : List UInt8} (h : (opn l).2 ≠ 0) : (opn l).1 = Pg.zero := by
  unfold opn at h ⊢
  split
  · rfl
  · next h1 =>
    rw [if_neg h1] at h
    split
    · rfl
    · next h2 =>
      rw [if_neg h2] at h
      split
      · rfl
      · next h3 =>
        rw [if_neg h3] at h
        split
        · rfl
        · next h4 =>
          rw [if_neg h4] at h
          split
          · next h5 => rw [if_pos h5] at h; simp at h
          · rfl
/-- torn bytes, and the error's number -/
def tornL (l : List UInt8) (n : Int) : List UInt8 := if l.length = 256 ∧ 0 ≤ n ∧ n ≤ 256 then l.take n.toNat ++ List.replicate (256 - n.toNat) 238 else []
def tornI (l : List UInt8) (n : Int) : Int := if l.length = 256 ∧ 0 ≤ n ∧ n ≤ 256 then 0 else 1
end Fld
end Go.Proofs.Ytmibbklafogbkaa
