/- Two areas side by side, the program's and the reference's: each call as a function of the bytes, and what it leaves alone. -/
import Derived.Test.YtmibbklafogbkaaRb
import Derived.Test.YtmibbklafogbkaaD2
namespace Go.Proofs.Ytmibbklafogbkaa
open Go.RowKit
open Fld
section
variable {w0 w : World} {p B c : Nat} {l pad : List UInt8}
theorem fput_any (h : Own w0 w p B c l pad) (at' width n : Int) (ha : -9223372036854775808 ≤ at') (ha' : at' ≤ 9223372036854775807) (hs : -9223372036854775808 ≤ width) (hs' : width ≤ 9223372036854775807) (h0 : 0 ≤ n) (hn : n < 4294967296) :
    Calls Try.prog 36 #[.pointer (some ⟨p, 0, none⟩), .int .i64 at', .int .i64 width, .int .u32 n] w fun e w' => e = .returned (.int .i64 (errI (okPut l.length at' width n))) ∧ Own w0 w' p B c (putL l at' width n) pad ∧ w.grownBy w' (some B) := by
  by_cases hok : okPut l.length at' width n = true
  · obtain ⟨h1, h2, h3⟩ := (okPut_iff _ _ _ _).1 hok
    refine (put_ok p B c l pad at' width n w h.area h1 h2 h0 h3).mono ?_
    rintro e w' ⟨rfl, hA, hg⟩
    exact ⟨by rw [hok]; rfl, by unfold putL; rw [if_pos hok]; exact h.step hA hg, hg⟩
  · refine (put_bad p B c l pad at' width n w h.area ha ha' hs hs' h0 hn (fun x => hok ((okPut_iff _ _ _ _).2 x))).mono ?_
    rintro e w' ⟨rfl, rfl⟩
    rw [Bool.not_eq_true] at hok
    exact ⟨by rw [hok]; rfl, by unfold putL; rw [hok]; exact h, World.grownBy.refl _ _⟩
theorem fget_any (h : Own w0 w p B c l pad) (at' width : Int) (ha : -9223372036854775808 ≤ at') (ha' : at' ≤ 9223372036854775807) (hs : -9223372036854775808 ≤ width) (hs' : width ≤ 9223372036854775807) :
    Calls Try.prog 37 #[.pointer (some ⟨p, 0, none⟩), .int .i64 at', .int .i64 width] w fun e w' => e = .returned (.tuple #[.int .u32 (getN l at' width), .int .i64 (errI (okGet l.length at' width))]) ∧ w = w' := by
  by_cases hok : okGet l.length at' width = true
  · obtain ⟨h1, h2⟩ := (okGet_iff _ _ _).1 hok
    refine (get_ok p B c l pad at' width w h.area h1 h2).mono ?_
    rintro e w' ⟨rfl, rfl⟩
    exact ⟨by unfold getN; rw [hok]; rfl, rfl⟩
  · refine (get_bad p B c l pad at' width w h.area ha ha' hs hs' (fun x => hok ((okGet_iff _ _ _).2 x))).mono ?_
    rintro e w' ⟨rfl, rfl⟩
    rw [Bool.not_eq_true] at hok
    exact ⟨by unfold getN; rw [hok]; rfl, rfl⟩
theorem fputText_any (h : Own w0 w p B c l pad) (at' : Int) (s : ByteArray) (ha : -9223372036854775808 ≤ at') (ha' : at' ≤ 9223372036854775807) (hs : s.size ≤ 9223372036854775807) :
    Calls Try.prog 43 #[.pointer (some ⟨p, 0, none⟩), .int .i64 at', .string s] w fun e w' => e = .returned (.int .i64 (errI (rngB l.length at' s.size))) ∧ Own w0 w' p B c (putS l at' s) pad ∧ w.grownBy w' (some B) := by
  by_cases hok : rngB l.length at' s.size = true
  · refine (putText_ok p B c l pad at' s w h.area ((rngB_iff _ _ _).1 hok)).mono ?_
    rintro e w' ⟨rfl, hA, hg⟩
    exact ⟨by rw [hok]; rfl, by unfold putS; rw [if_pos hok]; exact h.step hA hg, hg⟩
  · refine (putText_bad p B c l pad at' s w h.area ha ha' hs (fun x => hok ((rngB_iff _ _ _).2 x))).mono ?_
    rintro e w' ⟨rfl, rfl⟩
    rw [Bool.not_eq_true] at hok
    exact ⟨by rw [hok]; rfl, by unfold putS; rw [hok]; exact h, World.grownBy.refl _ _⟩
theorem fgetText_any (h : Own w0 w p B c l pad) (at' size : Int) (ha : -9223372036854775808 ≤ at') (ha' : at' ≤ 9223372036854775807) (hs : -9223372036854775808 ≤ size) (hs' : size ≤ 9223372036854775807) :
    Calls Try.prog 45 #[.pointer (some ⟨p, 0, none⟩), .int .i64 at', .int .i64 size] w fun e w' => e = .returned (.tuple #[.string (getS l at' size), .int .i64 (errI (rngB l.length at' size))]) ∧ w = w' := by
  by_cases hok : rngB l.length at' size = true
  · refine (getText_ok p B c l pad at' size w h.area ((rngB_iff _ _ _).1 hok)).mono ?_
    rintro e w' ⟨rfl, rfl⟩
    exact ⟨by unfold getS; rw [hok]; rfl, rfl⟩
  · refine (getText_bad p B c l pad at' size w h.area ha ha' hs hs' (fun x => hok ((rngB_iff _ _ _).2 x))).mono ?_
    rintro e w' ⟨rfl, rfl⟩
    rw [Bool.not_eq_true] at hok
    exact ⟨by unfold getS; rw [hok]; rfl, rfl⟩
theorem fmove_any (h : Own w0 w p B c l pad) (to from' size : Int) (ha : -9223372036854775808 ≤ to) (ha' : to ≤ 9223372036854775807) (hb : -9223372036854775808 ≤ from') (hb' : from' ≤ 9223372036854775807) (hs : -9223372036854775808 ≤ size) (hs' : size ≤ 9223372036854775807) :
    Calls Try.prog 47 #[.pointer (some ⟨p, 0, none⟩), .int .i64 to, .int .i64 from', .int .i64 size] w fun e w' => e = .returned (.int .i64 (errI (okMove l.length to from' size))) ∧ Own w0 w' p B c (moveL l to from' size) pad ∧ w.grownBy w' (some B) := by
  by_cases hok : okMove l.length to from' size = true
  · have hok' := hok
    unfold okMove at hok'
    simp only [Bool.and_eq_true] at hok'
    refine (move_ok p B c l pad to from' size w h.area ((rngB_iff _ _ _).1 hok'.1) ((rngB_iff _ _ _).1 hok'.2)).mono ?_
    rintro e w' ⟨rfl, hA, hg⟩
    exact ⟨by rw [hok]; rfl, by unfold moveL; rw [if_pos hok]; exact h.step hA hg, hg⟩
  · refine (move_bad p B c l pad to from' size w h.area ha ha' hb hb' hs hs' (fun x => hok (by unfold okMove; rw [(rngB_iff _ _ _).2 x.1, (rngB_iff _ _ _).2 x.2]; rfl))).mono ?_
    rintro e w' ⟨rfl, rfl⟩
    rw [Bool.not_eq_true] at hok
    exact ⟨by rw [hok]; rfl, by unfold moveL; rw [hok]; exact h, World.grownBy.refl _ _⟩
end
/-- An area that a law has made: it lies in new memory; what was there ahead of the law is as it was. -/
structure OwnR (w0 w : World) (p B c : Nat) (l pad : List UInt8) : Prop where
  area : RefAt w p B c l pad
  bel : Below w0.heap.size w0 w
  hp : w0.heap.size ≤ p
  hB : w0.heap.size ≤ B
theorem OwnR.step {w0 w w' : World} {p B c : Nat} {l l' pad : List UInt8} (h : OwnR w0 w p B c l pad) (ha : RefAt w' p B c l' pad) (hg : w.grownBy w' (some B)) : OwnR w0 w' p B c l' pad :=
  ⟨ha, h.bel.grown hg h.bel.size (fun k hk => by have := Option.some.inj hk; have := h.hB; omega), h.hp, h.hB⟩
theorem OwnR.made {w w' : World} {l : List UInt8} {e : Ending} (h : RNewPost w l e w') {w0 : World} (h0 : Below w0.heap.size w0 w) : ∃ p B c pad, e = .returned (.tuple #[.pointer (some ⟨p, 0, none⟩), .int .i64 0]) ∧ OwnR w0 w' p B c l pad ∧ w.heap.size ≤ p ∧ w.heap.size ≤ B := by
  obtain ⟨p, B, c, pad, he, ha, hb, h1, h2, _⟩ := h
  exact ⟨p, B, c, pad, he, ⟨ha, h0.trans (hb.mono h0.size), by have := h0.size; omega, by have := h0.size; omega⟩, h1, h2⟩
section
variable {w0 w : World} {p B c : Nat} {l pad : List UInt8}
theorem rput_any (h : OwnR w0 w p B c l pad) (at' width n : Int) (ha : -9223372036854775808 ≤ at') (ha' : at' ≤ 9223372036854775807) (hs : -9223372036854775808 ≤ width) (hs' : width ≤ 9223372036854775807) (h0 : 0 ≤ n) (_hn : n < 4294967296) :
    Calls Try.prog 41 #[.pointer (some ⟨p, 0, none⟩), .int .i64 at', .int .i64 width, .int .u32 n] w fun e w' => e = .returned (.int .i64 (errI (okPut l.length at' width n))) ∧ OwnR w0 w' p B c (putL l at' width n) pad ∧ w.grownBy w' (some B) := by
  by_cases hok : okPut l.length at' width n = true
  · obtain ⟨h1, h2, h3⟩ := (okPut_iff _ _ _ _).1 hok
    refine (rput_ok p B c l pad at' width n w h.area h1 h2 h0 h3).mono ?_
    rintro e w' ⟨rfl, hA, hg⟩
    exact ⟨by rw [hok]; rfl, by unfold putL; rw [if_pos hok]; exact h.step hA hg, hg⟩
  · refine (rput_bad p B c l pad at' width n w h.area ha ha' hs hs' (fun x => hok ((okPut_iff _ _ _ _).2 x))).mono ?_
    rintro e w' ⟨rfl, rfl⟩
    rw [Bool.not_eq_true] at hok
    exact ⟨by rw [hok]; rfl, by unfold putL; rw [hok]; exact h, World.grownBy.refl _ _⟩
theorem rget_any (h : OwnR w0 w p B c l pad) (at' width : Int) (ha : -9223372036854775808 ≤ at') (ha' : at' ≤ 9223372036854775807) (hs : -9223372036854775808 ≤ width) (hs' : width ≤ 9223372036854775807) :
    Calls Try.prog 42 #[.pointer (some ⟨p, 0, none⟩), .int .i64 at', .int .i64 width] w fun e w' => e = .returned (.tuple #[.int .u32 (getN l at' width), .int .i64 (errI (okGet l.length at' width))]) ∧ w = w' := by
  by_cases hok : okGet l.length at' width = true
  · obtain ⟨h1, h2⟩ := (okGet_iff _ _ _).1 hok
    refine (rget_ok p B c l pad at' width w h.area h1 h2).mono ?_
    rintro e w' ⟨rfl, rfl⟩
    exact ⟨by unfold getN; rw [hok]; rfl, rfl⟩
  · refine (rget_bad p B c l pad at' width w h.area ha ha' hs hs' (fun x => hok ((okGet_iff _ _ _).2 x))).mono ?_
    rintro e w' ⟨rfl, rfl⟩
    rw [Bool.not_eq_true] at hok
    exact ⟨by unfold getN; rw [hok]; rfl, rfl⟩
theorem rputText_any (h : OwnR w0 w p B c l pad) (at' : Int) (s : ByteArray) (ha : -9223372036854775808 ≤ at') (ha' : at' ≤ 9223372036854775807) (hs : s.size ≤ 9223372036854775807) :
    Calls Try.prog 44 #[.pointer (some ⟨p, 0, none⟩), .int .i64 at', .string s] w fun e w' => e = .returned (.int .i64 (errI (rngB l.length at' s.size))) ∧ OwnR w0 w' p B c (putS l at' s) pad ∧ w.grownBy w' (some B) := by
  by_cases hok : rngB l.length at' s.size = true
  · refine (rputText_ok p B c l pad at' s w h.area ((rngB_iff _ _ _).1 hok)).mono ?_
    rintro e w' ⟨rfl, hA, hg⟩
    exact ⟨by rw [hok]; rfl, by unfold putS; rw [if_pos hok]; exact h.step hA hg, hg⟩
  · refine (rputText_bad p B c l pad at' s w h.area ha ha' hs (fun x => hok ((rngB_iff _ _ _).2 x))).mono ?_
    rintro e w' ⟨rfl, rfl⟩
    rw [Bool.not_eq_true] at hok
    exact ⟨by rw [hok]; rfl, by unfold putS; rw [hok]; exact h, World.grownBy.refl _ _⟩
theorem rgetText_any (h : OwnR w0 w p B c l pad) (at' size : Int) (ha : -9223372036854775808 ≤ at') (ha' : at' ≤ 9223372036854775807) (hs : -9223372036854775808 ≤ size) (hs' : size ≤ 9223372036854775807) :
    Calls Try.prog 46 #[.pointer (some ⟨p, 0, none⟩), .int .i64 at', .int .i64 size] w fun e w' => e = .returned (.tuple #[.string (getS l at' size), .int .i64 (errI (rngB l.length at' size))]) ∧ w = w' := by
  by_cases hok : rngB l.length at' size = true
  · refine (rgetText_ok p B c l pad at' size w h.area ((rngB_iff _ _ _).1 hok)).mono ?_
    rintro e w' ⟨rfl, rfl⟩
    exact ⟨by unfold getS; rw [hok]; rfl, rfl⟩
  · refine (rgetText_bad p B c l pad at' size w h.area ha ha' hs hs' (fun x => hok ((rngB_iff _ _ _).2 x))).mono ?_
    rintro e w' ⟨rfl, rfl⟩
    rw [Bool.not_eq_true] at hok
    exact ⟨by unfold getS; rw [hok]; rfl, rfl⟩
theorem rmove_any (h : OwnR w0 w p B c l pad) (to from' size : Int) (ha : -9223372036854775808 ≤ to) (ha' : to ≤ 9223372036854775807) (hb : -9223372036854775808 ≤ from') (hb' : from' ≤ 9223372036854775807) (hs : -9223372036854775808 ≤ size) (hs' : size ≤ 9223372036854775807) :
    Calls Try.prog 48 #[.pointer (some ⟨p, 0, none⟩), .int .i64 to, .int .i64 from', .int .i64 size] w fun e w' => e = .returned (.int .i64 (errI (okMove l.length to from' size))) ∧ OwnR w0 w' p B c (moveL l to from' size) pad ∧ w.grownBy w' (some B) := by
  by_cases hok : okMove l.length to from' size = true
  · have hok' := hok
    unfold okMove at hok'
    simp only [Bool.and_eq_true] at hok'
    refine (rmove_ok p B c l pad to from' size w h.area ((rngB_iff _ _ _).1 hok'.1) ((rngB_iff _ _ _).1 hok'.2)).mono ?_
    rintro e w' ⟨rfl, hA, hg⟩
    exact ⟨by rw [hok]; rfl, by unfold moveL; rw [if_pos hok]; exact h.step hA hg, hg⟩
  · refine (rmove_bad p B c l pad to from' size w h.area ha ha' hb hb' hs hs' (fun x => hok (by unfold okMove; rw [(rngB_iff _ _ _).2 x.1, (rngB_iff _ _ _).2 x.2]; rfl))).mono ?_
    rintro e w' ⟨rfl, rfl⟩
    rw [Bool.not_eq_true] at hok
    exact ⟨by rw [hok]; rfl, by unfold moveL; rw [hok]; exact h, World.grownBy.refl _ _⟩
end
theorem rnewArea_any (w w0 : World) (size : Int) (h0 : Below w0.heap.size w0 w) (h1 : 0 ≤ size) (h2 : size ≤ 4096) (l : List UInt8) (hl : l = List.replicate size.toNat 0) :
    Calls Try.prog 40 #[.int .i64 size] w fun e w' => ∃ p B c pad, e = .returned (.tuple #[.pointer (some ⟨p, 0, none⟩), .int .i64 0]) ∧ OwnR w0 w' p B c l pad ∧ Below w.heap.size w w' ∧ w.heap.size ≤ p ∧ w.heap.size ≤ B :=
  (rnew_ok size w h1 h2).mono fun e w' h => by
    subst hl
    obtain ⟨p, B, c, pad, he, ho, h3, h4⟩ := OwnR.made h h0
    obtain ⟨_, _, _, _, _, _, hb, _⟩ := h
    exact ⟨p, B, c, pad, he, ho, hb, h3, h4⟩
/-- The program's area and the reference's. -/
structure Pair (w0 w : World) (p B c p' B' c' : Nat) (l pad l' pad' : List UInt8) : Prop where
  a : Own w0 w p B c l pad
  r : OwnR w0 w p' B' c' l' pad'
  ne : B ≠ B'
theorem row_ne_a {w : World} {p B c b : Nat} {l pad : List UInt8} (h : AreaAt w p B c l pad) {cs : Array Value} (hb : Blk w b 5 cs) : p ≠ b := by
  rintro rfl
  obtain ⟨fr, hr, _⟩ := hb
  have := h.head
  rw [hr] at this
  simp at this
theorem row_ne_r {w : World} {p B c b : Nat} {l pad : List UInt8} (h : RefAt w p B c l pad) {cs : Array Value} (hb : Blk w b 5 cs) : p ≠ b := by
  rintro rfl
  obtain ⟨fr, hr, _⟩ := hb
  have := h.head
  rw [hr] at this
  simp at this
section
variable {w0 w w' : World} {p B c p' B' c' : Nat} {l pad l' pad' l1 : List UInt8}
theorem Pair.stepA (h : Pair w0 w p B c p' B' c' l pad l' pad') (ha : Own w0 w' p B c l1 pad) (hg : w.grownBy w' (some B)) : Pair w0 w' p B c p' B' c' l1 pad l' pad' :=
  ⟨ha, ⟨h.r.area.keep (hg.block _ h.r.area.lt.1 (fun e => row_ne_r h.r.area h.a.area.row (Option.some.inj e))) (hg.block _ h.r.area.lt.2 (fun e => h.ne (Option.some.inj e).symm)), ha.bel, h.r.hp, h.r.hB⟩, h.ne⟩
theorem Pair.stepR (h : Pair w0 w p B c p' B' c' l pad l' pad') (hr : OwnR w0 w' p' B' c' l1 pad') (hg : w.grownBy w' (some B')) : Pair w0 w' p B c p' B' c' l pad l1 pad' :=
  ⟨⟨h.a.area.keep (hg.block _ h.a.area.lt.1 (fun e => row_ne_a h.a.area h.r.area.row (Option.some.inj e))) (hg.block _ h.a.area.lt.2 (fun e => h.ne (Option.some.inj e))), hr.bel, h.a.hp, h.a.hB⟩, hr, h.ne⟩
/-- behind new blocks, draws, and stores into blocks that are neither's -/
theorem Pair.grow (h : Pair w0 w p B c p' B' c' l pad l' pad') (hg : w.grownBy w' none) : Pair w0 w' p B c p' B' c' l pad l' pad' :=
  have hb : Below w0.heap.size w0 w' := h.a.bel.grown hg h.a.bel.size (by simp)
  ⟨⟨h.a.area.keep (hg.block _ h.a.area.lt.1 (by simp)) (hg.block _ h.a.area.lt.2 (by simp)), hb, h.a.hp, h.a.hB⟩, ⟨h.r.area.keep (hg.block _ h.r.area.lt.1 (by simp)) (hg.block _ h.r.area.lt.2 (by simp)), hb, h.r.hp, h.r.hB⟩, h.ne⟩
theorem Pair.drew (h : Pair w0 w p B c p' B' c' l pad l' pad') : Pair w0 w.drew p B c p' B' c' l pad l' pad' :=
  h.grow ⟨rfl, rfl, rfl, Nat.le_refl _, fun _ _ _ => rfl⟩
theorem Pair.drewN (h : Pair w0 w p B c p' B' c' l pad l' pad') (n : Nat) : Pair w0 (w.drewN n) p B c p' B' c' l pad l' pad' :=
  h.grow ⟨rfl, rfl, rfl, Nat.le_refl _, fun _ _ _ => rfl⟩
end
end Go.Proofs.Ytmibbklafogbkaa
