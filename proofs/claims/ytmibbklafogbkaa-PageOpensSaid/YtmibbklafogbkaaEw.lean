/- An area that is written from its begin on: what was written so far, and bytes 0 behind it. -/
import Derived.Test.YtmibbklafogbkaaW4
namespace Go.Proofs.Ytmibbklafogbkaa
open Go.RowKit
open Fld
theorem setL_zeros (z bs : List UInt8) (m : Nat) : setL (z ++ List.replicate m 0) z.length bs = (z ++ bs) ++ List.replicate (m - bs.length) 0 := by
  unfold setL
  rw [List.take_append_of_le_length (Nat.le_refl _), List.take_length, List.drop_append, List.drop_eq_nil_of_le (by omega), List.nil_append, Nat.add_sub_cancel_left, List.drop_replicate, List.append_assoc]
def Wr (w0 w : World) (p B c n : Nat) (z pad : List UInt8) : Prop := z.length ≤ n ∧ Own w0 w p B c (z ++ List.replicate (n - z.length) 0) pad
section
variable {w0 w : World} {p B c n : Nat} {z pad : List UInt8}
theorem Wr.bel (h : Wr w0 w p B c n z pad) : Below w0.heap.size w0 w := h.2.bel
theorem Wr.len (h : Wr w0 w p B c n z pad) : (z ++ List.replicate (n - z.length) 0).length = n := by
  have := h.1
  rw [List.length_append, List.length_replicate]; omega
theorem put_wr (h : Wr w0 w p B c n z pad) (a d N : Int) (z1 : List UInt8) (hz1 : z1 = z ++ be d.toNat N.toNat) (ha : a = z.length) (hw : Wid d) (hr : z.length + d ≤ n) (h0 : 0 ≤ N) (hn : N < 256 ^ d.toNat) :
    Calls Try.prog 36 #[.pointer (some ⟨p, 0, none⟩), .int .i64 a, .int .i64 d, .int .u32 N] w fun e w' => e = .returned (.int .i64 0) ∧ Wr w0 w' p B c n z1 pad := by
  have hl := h.len
  have hd : 0 < d := by unfold Wid at hw; omega
  refine (put_ok p B c _ pad a d N w h.2.area hw ⟨by omega, by omega, by omega, by omega⟩ h0 hn).mono ?_
  rintro e w' ⟨rfl, hA, hg⟩
  have hbl : (be d.toNat N.toNat).length = d.toNat := be_length _ _
  have ha' : a.toNat = z.length := by omega
  refine ⟨rfl, ?_, ?_⟩
  · rw [hz1, List.length_append, hbl]; omega
  · have h2 := h.2.step hA hg
    rw [ha', setL_zeros] at h2
    rw [hz1]
    rw [show n - (z ++ be d.toNat N.toNat).length = n - z.length - (be d.toNat N.toNat).length by rw [List.length_append]; omega]
    exact h2
theorem putText_wr (h : Wr w0 w p B c n z pad) (a : Int) (s : ByteArray) (z1 : List UInt8) (hz1 : z1 = z ++ s.data.toList) (ha : a = z.length) (hr : z.length + s.size ≤ n) :
    Calls Try.prog 43 #[.pointer (some ⟨p, 0, none⟩), .int .i64 a, .string s] w fun e w' => e = .returned (.int .i64 0) ∧ Wr w0 w' p B c n z1 pad := by
  have hl := h.len
  have hs : s.data.toList.length = s.size := Array.length_toList ..
  refine (putText_ok p B c _ pad a s w h.2.area ⟨by omega, by omega, by omega, by omega⟩).mono ?_
  rintro e w' ⟨rfl, hA, hg⟩
  have ha' : a.toNat = z.length := by omega
  refine ⟨rfl, ?_, ?_⟩
  · rw [hz1, List.length_append, hs]; omega
  · have h2 := h.2.step hA hg
    rw [ha', setL_zeros] at h2
    rw [hz1]
    rw [show n - (z ++ s.data.toList).length = n - z.length - s.data.toList.length by rw [List.length_append]; omega]
    exact h2
/-- the rest stays as it is: bytes 0 are as good as written -/
theorem Wr.skip (h : Wr w0 w p B c n z pad) (k : Nat) (z1 : List UInt8) (hz1 : z1 = z ++ List.replicate k 0) (hk : z.length + k ≤ n) : Wr w0 w p B c n z1 pad := by
  refine ⟨by rw [hz1, List.length_append, List.length_replicate]; exact hk, ?_⟩
  have h2 := h.2
  rw [hz1, List.append_assoc, List.replicate_append_replicate, List.length_append, List.length_replicate, show k + (n - (z.length + k)) = n - z.length by omega]
  exact h2
theorem bytes_wr (h : Wr w0 w p B c n z pad) (hz : z.length = n) :
    Calls Try.prog 39 #[.pointer (some ⟨p, 0, none⟩)] w fun e w' => e = .returned (.string (txt z)) ∧ w = w' := by
  have h2 := h.2
  rw [hz, Nat.sub_self, List.replicate_zero, List.append_nil] at h2
  exact bytes_any h2
theorem bytes_wr' (h : Wr w0 w p B c n z pad) :
    Calls Try.prog 39 #[.pointer (some ⟨p, 0, none⟩)] w fun e w' => e = .returned (.string (txt (z ++ List.replicate (n - z.length) 0))) ∧ w = w' := bytes_any h.2
end
theorem new_wr (size : Int) (w : World) (n : Nat) (h0 : size = n) (h1 : n ≤ 4096) :
    Calls Try.prog 34 #[.int .i64 size] w fun e w' => ∃ p B c pad, e = .returned (.tuple #[.pointer (some ⟨p, 0, none⟩), .int .i64 0]) ∧ Wr w w' p B c n [] pad ∧ w.heap.size ≤ p ∧ w.heap.size ≤ B := by
  refine (newArea_any w w size (Below.refl _ _) (by omega) (by omega) (List.replicate n 0) (by rw [h0, Int.toNat_natCast])).mono ?_
  rintro e w' ⟨p, B, c, pad, he, ho, h2, h3⟩
  exact ⟨p, B, c, pad, he, ⟨by simp, by simpa using ho⟩, h2, h3⟩
end Go.Proofs.Ytmibbklafogbkaa
