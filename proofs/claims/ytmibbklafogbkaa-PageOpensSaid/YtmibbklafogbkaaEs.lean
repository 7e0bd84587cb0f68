/- The bytes of staged pages one behind the other; a turned bit makes another sum; no program in sight. -/
import Derived.Test.YtmibbklafogbkaaEm
import Derived.Test.YtmibbklafogbkaaCrc
namespace Go.Proofs.Ytmibbklafogbkaa
namespace Fld
open Crc
structure Pg where
  pk : Int
  pn : Int
  pb : ByteArray
/-- an entry's bytes; none, if it may not be -/
def encP (e : Ent) : List UInt8 := if e.Ok then e.enc else []
def Pg.at' (p : Pg) (i : Nat) : Ent := Ent.stage i p.pk p.pn p.pb
/-- the bytes of pages from the i-th on -/
def cat : Nat → List Pg → List UInt8
  | _, [] => []
  | i, p :: r => encP (p.at' i) ++ cat (i + 1) r
theorem cat_append (a b : List Pg) : ∀ i, cat i (a ++ b) = cat i a ++ cat (i + a.length) b := by
  induction a with
  | nil => intro i; simp [cat]
  | cons p a ih => intro i; simp only [List.cons_append, cat, ih, List.length_cons, List.append_assoc]; rw [show i + 1 + a.length = i + (a.length + 1) by omega]
theorem cat_snoc (a : List Pg) (p : Pg) : cat 0 (a ++ [p]) = cat 0 a ++ encP (p.at' a.length) := by
  rw [cat_append]; simp [cat]
theorem encP_length (e : Ent) : (encP e).length ≤ 240 := by
  unfold encP
  split
  · next h => exact (Ent.enc_bounds h).2
  · simp
theorem cat_length (l : List Pg) : ∀ i, (cat i l).length ≤ 240 * l.length := by
  induction l with
  | nil => intro i; simp [cat]
  | cons p a ih =>
    intro i
    have h1 := ih (i + 1)
    have h2 := encP_length (p.at' i)
    simp only [cat, List.length_append, List.length_cons]
    omega
theorem xor_zero {a b : Nat} (h : a ^^^ b = 0) : a = b := by
  have h1 := xor_cancel a b
  rw [h, Nat.xor_zero] at h1
  exact h1
theorem thr_inj {a b : Nat} (size : Nat) (ha : a < 2 ^ 32) (hb : b < 2 ^ 32) (h : thr a size = thr b size) : a = b := by
  have h1 : thr (a ^^^ b) size = 0 := by rw [thr_xor, h, Nat.xor_self]
  exact xor_zero (thr_eq_zero size (Nat.xor_lt_two_pow ha hb) h1)
theorem onl_inj {a b : Nat} (l : List UInt8) (ha : a < 2 ^ 32) (hb : b < 2 ^ 32) (h : onl a l = onl b l) : a = b := by
  rw [onl_from a, onl_from b, Nat.xor_comm _ (onl 0 l), Nat.xor_comm _ (onl 0 l)] at h
  exact thr_inj _ ha hb (xor_inj _ _ _ h)
theorem onb_inj {n c d : Nat} (hn : n < 2 ^ 32) (hc : c < 256) (hd : d < 256) (h : onb n c = onb n d) : c = d := by
  unfold onb at h
  have h1 : stps 8 ((n ^^^ c) ^^^ (n ^^^ d)) = 0 := by rw [stps_xor, h, Nat.xor_self]
  have hc' : c < 2 ^ 32 := by omega
  have hd' : d < 2 ^ 32 := by omega
  have h2 := xor_zero (stps_eq_zero 8 (Nat.xor_lt_two_pow (Nat.xor_lt_two_pow hn hc') (Nat.xor_lt_two_pow hn hd')) h1)
  exact xor_inj _ _ _ h2
/-- a byte that is another one makes another sum -/
theorem crc_byte (x y : List UInt8) (c d : UInt8) (h : c ≠ d) : crc (x ++ c :: y) ≠ crc (x ++ d :: y) := by
  intro e
  unfold crc at e
  rw [Nat.xor_comm _ ones, Nat.xor_comm _ ones] at e
  have e := xor_inj _ _ _ e
  rw [onl_append, onl_append] at e
  have hx := onl_lt x ones_lt
  have e2 : onl (onb (onl ones x) c.toNat) y = onl (onb (onl ones x) d.toNat) y := e
  have e3 := onl_inj y (onb_lt hx c.toNat_lt) (onb_lt hx d.toNat_lt) e2
  exact h (UInt8.toNat_inj.1 (onb_inj hx c.toNat_lt d.toNat_lt e3))
theorem stage_ok {p : Pg} {i : Nat} (h : Staged p.pk p.pn p.pb) (hi : i ≤ 999) : (p.at' i).Ok := by
  unfold Pg.at' Ent.stage Ent.Ok
  exact ⟨by simp, by simp, by simp, by simp; omega, .inl ⟨rfl, h, rfl, rfl⟩⟩
theorem stage_enc (p : Pg) (i : Nat) : (p.at' i).enc = (be 1 1 ++ be 4 1 ++ be 2 i ++ (be 1 p.pk.toNat ++ be 2 p.pn.toNat)) ++ p.pb.data.toList := by
  unfold Pg.at' Ent.stage Ent.enc
  simp
/-- pages of which one has another byte in its body have another sum -/
theorem cat_byte (a b : List Pg) (p q : Pg) (x y : List UInt8) (c d : UInt8) (hk : p.pk = q.pk) (hn : p.pn = q.pn) (hp : p.pb.data.toList = x ++ c :: y) (hq : q.pb.data.toList = x ++ d :: y)
    (h1 : Staged p.pk p.pn p.pb) (h2 : Staged q.pk q.pn q.pb) (hl : a.length ≤ 999) (h : c ≠ d) : crc (cat 0 (a ++ p :: b)) ≠ crc (cat 0 (a ++ q :: b)) := by
  rw [cat_append, cat_append]
  simp only [cat]
  unfold encP
  rw [Nat.zero_add, if_pos (stage_ok h1 hl), if_pos (stage_ok h2 hl), stage_enc, stage_enc, hk, hn, hp, hq]
  have e : ∀ (u v w : List UInt8) (z : UInt8), u ++ ((v ++ (x ++ z :: y)) ++ w) = (u ++ v ++ x) ++ z :: (y ++ w) := fun u v w z => by simp
  rw [e, e]
  exact crc_byte _ _ _ _ h
end Fld
end Go.Proofs.Ytmibbklafogbkaa
