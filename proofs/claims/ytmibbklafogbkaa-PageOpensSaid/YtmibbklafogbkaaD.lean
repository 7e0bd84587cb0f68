/- An area in a law's walk: each call of package field as a function of the area's bytes, whatever is asked. -/
import Derived.Test.YtmibbklafogbkaaC
namespace Go.Proofs.Ytmibbklafogbkaa
open Go.RowKit
open Fld
def rngB (n : Nat) (at' size : Int) : Bool := decide (0 ≤ at') && decide (0 ≤ size) && decide (at' ≤ n) && decide (size ≤ n - at')
theorem rngB_iff (n : Nat) (at' size : Int) : rngB n at' size = true ↔ Rng n at' size := by
  unfold rngB Rng
  simp [and_assoc]
def widB (w : Int) : Bool := w == 1 || w == 2 || w == 4
theorem widB_iff (w : Int) : widB w = true ↔ Wid w := by
  unfold widB Wid
  simp [or_assoc]
def okPut (n : Nat) (at' width m : Int) : Bool := widB width && rngB n at' width && decide (m < 256 ^ width.toNat)
theorem okPut_iff (n : Nat) (at' width m : Int) : okPut n at' width m = true ↔ Wid width ∧ Rng n at' width ∧ m < 256 ^ width.toNat := by
  unfold okPut
  simp [widB_iff, rngB_iff, and_assoc]
def okGet (n : Nat) (at' width : Int) : Bool := widB width && rngB n at' width
theorem okGet_iff (n : Nat) (at' width : Int) : okGet n at' width = true ↔ Wid width ∧ Rng n at' width := by
  unfold okGet
  simp [widB_iff, rngB_iff]
def errI (ok : Bool) : Int := if ok then 0 else 1
def putL (l : List UInt8) (at' width m : Int) : List UInt8 := if okPut l.length at' width m then setL l at'.toNat (be width.toNat m.toNat) else l
def getN (l : List UInt8) (at' width : Int) : Int := if okGet l.length at' width then (num (getL l at'.toNat width.toNat) : Nat) else 0
def putS (l : List UInt8) (at' : Int) (s : ByteArray) : List UInt8 := if rngB l.length at' s.size then setL l at'.toNat s.data.toList else l
def getS (l : List UInt8) (at' size : Int) : ByteArray := if rngB l.length at' size then txt (getL l at'.toNat size.toNat) else txt []
def okMove (n : Nat) (to from' size : Int) : Bool := rngB n to size && rngB n from' size
def moveL (l : List UInt8) (to from' size : Int) : List UInt8 := if okMove l.length to from' size then setL l to.toNat (getL l from'.toNat size.toNat) else l
theorem putL_length (l : List UInt8) (at' width m : Int) : (putL l at' width m).length = l.length := by
  unfold putL
  split
  · next h =>
    obtain ⟨_, hr, _⟩ := (okPut_iff _ _ _ _).1 h
    unfold Rng at hr
    exact setL_length _ _ _ (by rw [be_length]; omega)
  · rfl
theorem putS_length (l : List UInt8) (at' : Int) (s : ByteArray) : (putS l at' s).length = l.length := by
  unfold putS
  split
  · next h =>
    have hr := (rngB_iff _ _ _).1 h
    unfold Rng at hr
    have hs : s.data.toList.length = s.size := Array.length_toList ..
    exact setL_length _ _ _ (by omega)
  · rfl
theorem moveL_length (l : List UInt8) (to from' size : Int) : (moveL l to from' size).length = l.length := by
  unfold moveL
  split
  · next h =>
    unfold okMove at h
    simp only [Bool.and_eq_true] at h
    have h1 := (rngB_iff _ _ _).1 h.1
    have h2 := (rngB_iff _ _ _).1 h.2
    unfold Rng at h1 h2
    exact setL_length _ _ _ (by rw [getL_length _ _ _ (by omega)]; omega)
  · rfl

/-- An area that a law has made: it lies in new memory; what was there ahead of the law is as it was. -/
structure Own (w0 w : World) (p B c : Nat) (l pad : List UInt8) : Prop where
  area : AreaAt w p B c l pad
  bel : Below w0.heap.size w0 w
  hp : w0.heap.size ≤ p
  hB : w0.heap.size ≤ B
theorem Own.step {w0 w w' : World} {p B c : Nat} {l l' pad : List UInt8} (h : Own w0 w p B c l pad) (ha : AreaAt w' p B c l' pad) (hg : w.grownBy w' (some B)) : Own w0 w' p B c l' pad :=
  ⟨ha, h.bel.grown hg h.bel.size (fun k hk => by have := Option.some.inj hk; have := h.hB; omega), h.hp, h.hB⟩
theorem Own.made {w w' : World} {l : List UInt8} {e : Ending} (h : NewPost w l e w') {w0 : World} (h0 : Below w0.heap.size w0 w) : ∃ p B c pad, e = .returned (.tuple #[.pointer (some ⟨p, 0, none⟩), .int .i64 0]) ∧ Own w0 w' p B c l pad ∧ w.heap.size ≤ p ∧ w.heap.size ≤ B := by
  obtain ⟨p, B, c, pad, he, ha, hb, h1, h2, _⟩ := h
  exact ⟨p, B, c, pad, he, ⟨ha, h0.trans (hb.mono h0.size), by have := h0.size; omega, by have := h0.size; omega⟩, h1, h2⟩
section
variable {w0 w : World} {p B c : Nat} {l pad : List UInt8}
theorem put_any (h : Own w0 w p B c l pad) (at' width n : Int) (ha : -9223372036854775808 ≤ at') (ha' : at' ≤ 9223372036854775807) (hs : -9223372036854775808 ≤ width) (hs' : width ≤ 9223372036854775807) (h0 : 0 ≤ n) (hn : n < 4294967296) :
    Calls Try.prog 36 #[.pointer (some ⟨p, 0, none⟩), .int .i64 at', .int .i64 width, .int .u32 n] w fun e w' => e = .returned (.int .i64 (errI (okPut l.length at' width n))) ∧ Own w0 w' p B c (putL l at' width n) pad := by
  by_cases hok : okPut l.length at' width n = true
  · obtain ⟨h1, h2, h3⟩ := (okPut_iff _ _ _ _).1 hok
    refine (put_ok p B c l pad at' width n w h.area h1 h2 h0 h3).mono ?_
    rintro e w' ⟨rfl, hA, hg⟩
    exact ⟨by rw [hok]; rfl, by unfold putL; rw [if_pos hok]; exact h.step hA hg⟩
  · refine (put_bad p B c l pad at' width n w h.area ha ha' hs hs' h0 hn (fun x => hok ((okPut_iff _ _ _ _).2 x))).mono ?_
    rintro e w' ⟨rfl, rfl⟩
    rw [Bool.not_eq_true] at hok
    exact ⟨by rw [hok]; rfl, by unfold putL; rw [hok]; exact h⟩
theorem get_any (h : Own w0 w p B c l pad) (at' width : Int) (ha : -9223372036854775808 ≤ at') (ha' : at' ≤ 9223372036854775807) (hs : -9223372036854775808 ≤ width) (hs' : width ≤ 9223372036854775807) :
    Calls Try.prog 37 #[.pointer (some ⟨p, 0, none⟩), .int .i64 at', .int .i64 width] w fun e w' => e = .returned (.tuple #[.int .u32 (getN l at' width), .int .i64 (errI (okGet l.length at' width))]) ∧ w = w' := by
  by_cases hok : okGet l.length at' width = true
  · obtain ⟨h1, h2⟩ := (okGet_iff _ _ _).1 hok
    refine (get_ok p B c l pad at' width w h.area h1 h2).mono ?_
    rintro e w' ⟨rfl, rfl⟩
    exact ⟨by unfold getN; rw [hok]; rfl, rfl⟩
  · refine (get_bad p B c l pad at' width w h.area ha ha' hs hs' (fun x => hok ((okGet_iff _ _ _).2 x))).mono ?_
    rintro e w' ⟨rfl, rfl⟩
    rw [Bool.not_eq_true] at hok
    exact ⟨by unfold getN; rw [hok]; rfl, rfl⟩
theorem putText_any (h : Own w0 w p B c l pad) (at' : Int) (s : ByteArray) (ha : -9223372036854775808 ≤ at') (ha' : at' ≤ 9223372036854775807) (hs : s.size ≤ 9223372036854775807) :
    Calls Try.prog 43 #[.pointer (some ⟨p, 0, none⟩), .int .i64 at', .string s] w fun e w' => e = .returned (.int .i64 (errI (rngB l.length at' s.size))) ∧ Own w0 w' p B c (putS l at' s) pad := by
  by_cases hok : rngB l.length at' s.size = true
  · refine (putText_ok p B c l pad at' s w h.area ((rngB_iff _ _ _).1 hok)).mono ?_
    rintro e w' ⟨rfl, hA, hg⟩
    exact ⟨by rw [hok]; rfl, by unfold putS; rw [if_pos hok]; exact h.step hA hg⟩
  · refine (putText_bad p B c l pad at' s w h.area ha ha' hs (fun x => hok ((rngB_iff _ _ _).2 x))).mono ?_
    rintro e w' ⟨rfl, rfl⟩
    rw [Bool.not_eq_true] at hok
    exact ⟨by rw [hok]; rfl, by unfold putS; rw [hok]; exact h⟩
theorem getText_any (h : Own w0 w p B c l pad) (at' size : Int) (ha : -9223372036854775808 ≤ at') (ha' : at' ≤ 9223372036854775807) (hs : -9223372036854775808 ≤ size) (hs' : size ≤ 9223372036854775807) :
    Calls Try.prog 45 #[.pointer (some ⟨p, 0, none⟩), .int .i64 at', .int .i64 size] w fun e w' => e = .returned (.tuple #[.string (getS l at' size), .int .i64 (errI (rngB l.length at' size))]) ∧ w = w' := by
  by_cases hok : rngB l.length at' size = true
  · refine (getText_ok p B c l pad at' size w h.area ((rngB_iff _ _ _).1 hok)).mono ?_
    rintro e w' ⟨rfl, rfl⟩
    exact ⟨by unfold getS; rw [hok]; rfl, rfl⟩
  · refine (getText_bad p B c l pad at' size w h.area ha ha' hs hs' (fun x => hok ((rngB_iff _ _ _).2 x))).mono ?_
    rintro e w' ⟨rfl, rfl⟩
    rw [Bool.not_eq_true] at hok
    exact ⟨by unfold getS; rw [hok]; rfl, rfl⟩
theorem move_any (h : Own w0 w p B c l pad) (to from' size : Int) (ha : -9223372036854775808 ≤ to) (ha' : to ≤ 9223372036854775807) (hb : -9223372036854775808 ≤ from') (hb' : from' ≤ 9223372036854775807) (hs : -9223372036854775808 ≤ size) (hs' : size ≤ 9223372036854775807) :
    Calls Try.prog 47 #[.pointer (some ⟨p, 0, none⟩), .int .i64 to, .int .i64 from', .int .i64 size] w fun e w' => e = .returned (.int .i64 (errI (okMove l.length to from' size))) ∧ Own w0 w' p B c (moveL l to from' size) pad := by
  by_cases hok : okMove l.length to from' size = true
  · have hok' := hok
    unfold okMove at hok'
    simp only [Bool.and_eq_true] at hok'
    refine (move_ok p B c l pad to from' size w h.area ((rngB_iff _ _ _).1 hok'.1) ((rngB_iff _ _ _).1 hok'.2)).mono ?_
    rintro e w' ⟨rfl, hA, hg⟩
    exact ⟨by rw [hok]; rfl, by unfold moveL; rw [if_pos hok]; exact h.step hA hg⟩
  · refine (move_bad p B c l pad to from' size w h.area ha ha' hb hb' hs hs' (fun x => hok (by unfold okMove; rw [(rngB_iff _ _ _).2 x.1, (rngB_iff _ _ _).2 x.2]; rfl))).mono ?_
    rintro e w' ⟨rfl, rfl⟩
    rw [Bool.not_eq_true] at hok
    exact ⟨by rw [hok]; rfl, by unfold moveL; rw [hok]; exact h⟩
theorem bytes_any (h : Own w0 w p B c l pad) : Calls Try.prog 39 #[.pointer (some ⟨p, 0, none⟩)] w fun e w' => e = .returned (.string (txt l)) ∧ w = w' := bytes_ok p B c l pad w h.area
theorem size_any (h : Own w0 w p B c l pad) : Calls Try.prog 49 #[.pointer (some ⟨p, 0, none⟩)] w fun e w' => e = .returned (.int .i64 (l.length : Int)) ∧ w = w' := size_ok p B c l pad w h.area
end
end Go.Proofs.Ytmibbklafogbkaa
