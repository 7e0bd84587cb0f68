/- A sealed page of which up to 32 bits one behind the other are turned is refused; no program in sight. -/
import Derived.Test.YtmibbklafogbkaaPm
import Derived.Test.YtmibbklafogbkaaLSeen
namespace Go.Proofs.Ytmibbklafogbkaa
namespace Fld
open Crc
theorem val_low (c : Nat) (h : c < 4294967296) : val (low c) = c := by
  unfold low
  simp only [val, UInt8.toNat_ofNat']
  omega
theorem low_len8 (c : Nat) : 8 * (low c).length = 32 := rfl
/-- the residue: over whole bytes the sum's register ends at one place -/
theorem residue {l : List UInt8} (h : l.drop 252 = low (crc (l.take 252))) : onl ones l = stps 32 ones := by
  have hc := crc_lt (l.take 252)
  have e : onl ones l = onl (onl ones (l.take 252)) (l.drop 252) := by rw [← onl_append, List.take_append_drop]
  have e2 : onl ones (l.take 252) = crc (l.take 252) ^^^ ones := by
    unfold crc
    rw [Nat.xor_assoc, Nat.xor_self, Nat.xor_zero]
  rw [e, h, onl_val, low_len8, val_low _ (by omega), e2, Nat.xor_comm (crc _) ones, Nat.xor_assoc, Nat.xor_self, Nat.xor_zero]
theorem seal_start (p : Pg) (h : May p) : ∃ a2 a3 R, sealL p = UInt8.ofNat p.pk.toNat :: 0 :: a2 :: a3 :: 0 :: R := by
  unfold May at h
  have e : UInt8.ofNat (p.pn.toNat / 256 / 256 / 256) = 0 := by
    rw [show p.pn.toNat / 256 / 256 / 256 = 0 by omega]; rfl
  refine ⟨UInt8.ofNat (p.pb.size / 256), UInt8.ofNat p.pb.size, UInt8.ofNat (p.pn.toNat / 256 / 256) :: UInt8.ofNat (p.pn.toNat / 256) :: UInt8.ofNat p.pn.toNat :: (p.pb.data.toList ++ (List.replicate (244 - p.pb.size) 0 ++ low (crc (hdr p)))), ?_⟩
  have h1 : be 1 p.pk.toNat = [UInt8.ofNat p.pk.toNat] := rfl
  have h2 : be 2 p.pb.size = [UInt8.ofNat (p.pb.size / 256), UInt8.ofNat p.pb.size] := rfl
  have h4 : be 4 p.pn.toNat = [0, UInt8.ofNat (p.pn.toNat / 256 / 256), UInt8.ofNat (p.pn.toNat / 256), UInt8.ofNat p.pn.toNat] := by rw [← e]; rfl
  have hh : hdr p = UInt8.ofNat p.pk.toNat :: 0 :: UInt8.ofNat (p.pb.size / 256) :: UInt8.ofNat p.pb.size :: 0 :: UInt8.ofNat (p.pn.toNat / 256 / 256) :: UInt8.ofNat (p.pn.toNat / 256) :: UInt8.ofNat p.pn.toNat :: (p.pb.data.toList ++ List.replicate (244 - p.pb.size) 0) := by
    unfold hdr
    rw [h1, h2, h4]
    simp
  unfold sealL
  generalize crc (hdr p) = c
  rw [hh]
  simp
theorem far_back : stps 2048 3474305625 = stps 32 ones := by kernel_rfl
theorem seal_not_near {p : Pg} (h : May p) (f n : Nat) (hn : n < 2 ^ 32) (e : val (sealL p) = 2 ^ f * n) : False := by
  obtain ⟨a2, a3, R, hs⟩ := seal_start p h
  have h' := h
  unfold May at h'
  have hr := residue (l := sealL p) (by rw [seal_drop h, seal_take h])
  rw [onl_val, seal_length h] at hr
  have hv : val (sealL p) = p.pk.toNat + 256 * (0 + 256 * (a2.toNat + 256 * (a3.toNat + 256 * (0 + 256 * val R)))) := by
    rw [hs]
    simp only [val]
    rw [show (UInt8.ofNat p.pk.toNat).toNat = p.pk.toNat by rw [UInt8.toNat_ofNat']; omega]
    rfl
  have b2 := a2.toNat_lt
  have b3 := a3.toNat_lt
  have hf : f < 8 := by
    by_cases q : f < 8
    · exact q
    · obtain ⟨g, rfl⟩ : ∃ g, f = 8 + g := ⟨f - 8, by omega⟩
      rw [Nat.pow_add, Nat.mul_assoc] at e
      have e8 : 2 ^ 8 = 256 := rfl
      rw [e8] at e
      omega
  have hp : 2 ^ f ≤ 128 := by
    have : f ≤ 7 := by omega
    calc 2 ^ f ≤ 2 ^ 7 := Nat.pow_le_pow_right (by omega) this
      _ = 128 := rfl
  have hlt : val (sealL p) < 1099511627776 := by
    rw [e]
    calc 2 ^ f * n ≤ 128 * n := Nat.mul_le_mul_right _ hp
      _ < 1099511627776 := by omega
  have hR : val R = 0 := by omega
  have hlt2 : val (sealL p) < 2 ^ 32 := by rw [hv, hR]; omega
  have hr2 : stps 2048 (ones ^^^ val (sealL p)) = stps 32 ones := hr
  have hz : stps 2048 ((ones ^^^ val (sealL p)) ^^^ 3474305625) = 0 := by
    rw [stps_xor, hr2, far_back, Nat.xor_self]
  have hz2 := stps_eq_zero 2048 (Nat.xor_lt_two_pow (Nat.xor_lt_two_pow ones_lt hlt2) (by decide)) hz
  have hz3 : ones ^^^ val (sealL p) = 3474305625 := by
    have q := xor_cancel 3474305625 (ones ^^^ val (sealL p))
    rw [Nat.xor_comm 3474305625 (ones ^^^ val (sealL p)), hz2, Nat.xor_zero] at q
    exact q.symm
  have hz4 : val (sealL p) = 820661670 := by
    have q := xor_cancel ones (val (sealL p))
    rw [hz3] at q
    exact q.symm
  omega
/-- a page of which up to 32 bits one behind the other are turned is refused -/
theorem opn_turned {p : Pg} (h : May p) (l : List UInt8) (f n : Nat) (hl : l.length = 256) (hv : val l = val (sealL p) ^^^ 2 ^ f * n) (hf : f ≤ 2048) (hn : n < 2 ^ 32) (h0 : n ≠ 0) : opn l = (⟨0, 0, ⟨#[]⟩⟩, 7) := by
  have hne := Crc.seen ones (sealL p) l (by rw [hl, seal_length h]) f n hv (by rw [seal_length h]; exact hf) hn h0
  have hb : l ≠ blankL := by
    intro e
    have hvb : val blankL = 0 := by kernel_rfl
    rw [e, hvb] at hv
    have q := xor_cancel (val (sealL p)) (2 ^ f * n)
    rw [← hv, Nat.xor_zero] at q
    exact seal_not_near h f n hn q
  have hd : l.drop 252 ≠ low (crc (l.take 252)) := by
    intro e
    have h1 := residue e
    have h2 := residue (l := sealL p) (by rw [seal_drop h, seal_take h])
    exact hne (h1.trans h2.symm)
  unfold opn
  rw [if_neg (by omega), if_neg hb, if_pos hd]
  rfl
end Fld
end Go.Proofs.Ytmibbklafogbkaa
