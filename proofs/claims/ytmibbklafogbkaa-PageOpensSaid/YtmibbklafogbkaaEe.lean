/- The entry layer: an entry's bytes (entry.Encode, 51); how many bytes an entry has at least (80). -/
import Derived.Test.YtmibbklafogbkaaEc
import Derived.Test.YtmibbklafogbkaaEw
namespace Go.Proofs.Ytmibbklafogbkaa
open Go.RowKit
open Fld
theorem chk_ok {e : Ent} (h : e.Ok) : chkI e = 0 := by unfold chkI; rw [if_pos h]
theorem chk_not {e : Ent} (h : ¬ e.Ok) : chkI e = 1 := by unfold chkI; rw [if_neg h]
theorem check_yes (kind tx ix pk pn cnt sum : Int) (pb : ByteArray) (w : World) (hp : pb.size ≤ maxLen) (h : Ent.Ok ⟨kind, tx, ix, pk, pn, pb, cnt, sum⟩) :
    Calls Try.prog 54 #[.agg #[.int .i64 kind, .int .i64 tx, .int .i64 ix, .int .i64 pk, .int .i64 pn, .string pb, .int .i64 cnt, .int .u32 sum]] w fun r w' => r = .returned (.int .i64 0) ∧ Below w.heap.size w w' :=
  (check_any ⟨kind, tx, ix, pk, pn, pb, cnt, sum⟩ w hp).mono fun r w' ⟨a, b⟩ => ⟨by rw [a, chk_ok h], b⟩
theorem check_not (kind tx ix pk pn cnt sum : Int) (pb : ByteArray) (w : World) (hp : pb.size ≤ maxLen) (h : ¬ Ent.Ok ⟨kind, tx, ix, pk, pn, pb, cnt, sum⟩) :
    Calls Try.prog 54 #[.agg #[.int .i64 kind, .int .i64 tx, .int .i64 ix, .int .i64 pk, .int .i64 pn, .string pb, .int .i64 cnt, .int .u32 sum]] w fun r w' => r = .returned (.int .i64 1) ∧ Below w.heap.size w w' :=
  (check_any ⟨kind, tx, ix, pk, pn, pb, cnt, sum⟩ w hp).mono fun r w' ⟨a, b⟩ => ⟨by rw [a, chk_not h], b⟩
set_option maxRecDepth 100000 in
set_option maxHeartbeats 2000000 in
theorem encode_not (kind tx ix pk pn cnt sum : Int) (pb : ByteArray) (w : World) (hp : pb.size ≤ maxLen) (h : ¬ Ent.Ok ⟨kind, tx, ix, pk, pn, pb, cnt, sum⟩) :
    Calls Try.prog 51 #[.agg #[.int .i64 kind, .int .i64 tx, .int .i64 ix, .int .i64 pk, .int .i64 pn, .string pb, .int .i64 cnt, .int .u32 sum]] w fun r w' => r = .returned (.tuple #[.string ⟨#[]⟩, .int .i64 1]) ∧ Below w.heap.size w w' := by
  go_enter Try.func51, Try.ntmps51
  go_wp2_with (first
    | (refine wpList_boxArr rfl 77 _ rfl _ rfl ?_; intro W1 hW1 hg1 hz1; have d0 := cell_of_row _ _ 0 _ _ _ hW1; have d1 := cell_of_row _ _ 1 _ _ _ hW1; have d2 := cell_of_row _ _ 2 _ _ _ hW1; have d3 := cell_of_row _ _ 3 _ _ _ hW1; have d4 := cell_of_row _ _ 4 _ _ _ hW1; have d5 := cell_of_row _ _ 5 _ _ _ hW1; have d6 := cell_of_row _ _ 6 _ _ _ hW1; have d7 := cell_of_row _ _ 7 _ _ _ hW1; simp at d0 d1 d2 d3 d4 d5 d6 d7; clear hW1)
    | (go_at_call 54; with_reducible refine (check_not _ _ _ _ _ _ _ _ _ hp h).mono ?_; rintro e w8 ⟨rfl, hb8⟩))
  go_ret2
  exact ⟨rfl, ((Below.refl _ _).grown hg1 (Nat.le_refl _) (by simp)).trans (hb8.mono hg1.size)⟩
/-- the eight cells of an entry in memory -/
structure Row8 (w : World) (b : Nat) (kind tx ix pk pn cnt sum : Int) (pb : ByteArray) : Prop where
  c0 : w.cell? ⟨b, 0, none⟩ = some (.int .i64 kind)
  c1 : w.cell? ⟨b, 1, none⟩ = some (.int .i64 tx)
  c2 : w.cell? ⟨b, 2, none⟩ = some (.int .i64 ix)
  c3 : w.cell? ⟨b, 3, none⟩ = some (.int .i64 pk)
  c4 : w.cell? ⟨b, 4, none⟩ = some (.int .i64 pn)
  c5 : w.cell? ⟨b, 5, none⟩ = some (.string pb)
  c6 : w.cell? ⟨b, 6, none⟩ = some (.int .i64 cnt)
  c7 : w.cell? ⟨b, 7, none⟩ = some (.int .u32 sum)
theorem wid1 : Wid 1 := .inl rfl
theorem wid2 : Wid 2 := .inr (.inl rfl)
theorem wid4 : Wid 4 := .inr (.inr rfl)
theorem Row8.below {w w' : World} {b B : Nat} {kind tx ix pk pn cnt sum : Int} {pb : ByteArray} (h : Row8 w b kind tx ix pk pn cnt sum pb) (hb : Below B w w') (l : b < B) : Row8 w' b kind tx ix pk pn cnt sum pb := by
  obtain ⟨h0, h1, h2, h3, h4, h5, h6, h7⟩ := h
  exact ⟨(hb.cell (p := ⟨b, 0, none⟩) l).trans h0, (hb.cell (p := ⟨b, 1, none⟩) l).trans h1, (hb.cell (p := ⟨b, 2, none⟩) l).trans h2, (hb.cell (p := ⟨b, 3, none⟩) l).trans h3,
    (hb.cell (p := ⟨b, 4, none⟩) l).trans h4, (hb.cell (p := ⟨b, 5, none⟩) l).trans h5, (hb.cell (p := ⟨b, 6, none⟩) l).trans h6, (hb.cell (p := ⟨b, 7, none⟩) l).trans h7⟩
theorem Row8.of {w : World} {b : Nat} {kind tx ix pk pn cnt sum : Int} {pb : ByteArray} {t : TypeId} {fr : Nat × Nat} (h : w.heap[b]? = some (.cells #[.int .i64 kind, .int .i64 tx, .int .i64 ix, .int .i64 pk, .int .i64 pn, .string pb, .int .i64 cnt, .int .u32 sum] t fr)) :
    Row8 w b kind tx ix pk pn cnt sum pb := by
  refine ⟨?_, ?_, ?_, ?_, ?_, ?_, ?_, ?_⟩ <;> rw [cell_of_row _ _ _ _ _ _ h] <;> rfl
theorem Row8.grown {w w' : World} {b : Nat} {kind tx ix pk pn cnt sum : Int} {pb : ByteArray} {o : Option Nat} (h : Row8 w b kind tx ix pk pn cnt sum pb) (hg : w.grownBy w' o) (hne : (some b : Option Nat) ≠ o) : Row8 w' b kind tx ix pk pn cnt sum pb := by
  obtain ⟨h0, h1, h2, h3, h4, h5, h6, h7⟩ := h
  exact ⟨World.grownBy.cell hg h0 hne, World.grownBy.cell hg h1 hne, World.grownBy.cell hg h2 hne, World.grownBy.cell hg h3 hne, World.grownBy.cell hg h4 hne, World.grownBy.cell hg h5 hne, World.grownBy.cell hg h6 hne, World.grownBy.cell hg h7 hne⟩
set_option maxRecDepth 100000 in
set_option maxHeartbeats 4000000 in
theorem encode_1 (tx ix pk pn : Int) (pb : ByteArray) (w : World) (h : Ent.Ok ⟨1, tx, ix, pk, pn, pb, 0, 0⟩) :
    Calls Try.prog 51 #[.agg #[.int .i64 1, .int .i64 tx, .int .i64 ix, .int .i64 pk, .int .i64 pn, .string pb, .int .i64 0, .int .u32 0]] w fun r w' => r = .returned (.tuple #[.string (txt (Ent.enc ⟨1, tx, ix, pk, pn, pb, 0, 0⟩)), .int .i64 0]) ∧ Below w.heap.size w w' := by
  obtain ⟨t1, t2, i1, i2, hk⟩ := id h
  simp only at t1 t2 i1 i2
  obtain ⟨p1, p2, n1, n2, s1, _⟩ := ok_stage h
  have hp : pb.size ≤ maxLen := by unfold maxLen; omega
  clear hk
  obtain ⟨z1, hz1⟩ : ∃ z, z = [] ++ be (Int.toNat 1) (Int.toNat 1) := ⟨_, rfl⟩
  obtain ⟨z2, hz2⟩ : ∃ z, z = z1 ++ be (Int.toNat 4) (Int.toNat tx) := ⟨_, rfl⟩
  obtain ⟨z3, hz3⟩ : ∃ z, z = z2 ++ be (Int.toNat 2) (Int.toNat ix) := ⟨_, rfl⟩
  obtain ⟨z4, hz4⟩ : ∃ z, z = z3 ++ be (Int.toNat 1) (Int.toNat pk) := ⟨_, rfl⟩
  obtain ⟨z5, hz5⟩ : ∃ z, z = z4 ++ be (Int.toNat 2) (Int.toNat pn) := ⟨_, rfl⟩
  obtain ⟨z6, hz6⟩ : ∃ z, z = z5 ++ pb.data.toList := ⟨_, rfl⟩
  have L1 : Hid (z1.length = 1) := Lib.hid (by rw [hz1]; rfl)
  have L2 : Hid (z2.length = 5) := Lib.hid (by rw [hz2, List.length_append, L1.out]; rfl)
  have L3 : Hid (z3.length = 7) := Lib.hid (by rw [hz3, List.length_append, L2.out]; rfl)
  have L4 : Hid (z4.length = 8) := Lib.hid (by rw [hz4, List.length_append, L3.out]; rfl)
  have L5 : Hid (z5.length = 10) := Lib.hid (by rw [hz5, List.length_append, L4.out]; rfl)
  have L6 : Hid (z6.length = 10 + pb.size) := Lib.hid (by rw [hz6, List.length_append, L5.out, toList_size])
  have henc : z6 = Ent.enc ⟨1, tx, ix, pk, pn, pb, 0, 0⟩ := by rw [hz6, hz5, hz4, hz3, hz2, hz1]; simp [Ent.enc]
  rw [← henc]
  have Z1 := Lib.hid hz1
  have Z2 := Lib.hid hz2
  have Z3 := Lib.hid hz3
  have Z4 := Lib.hid hz4
  have Z5 := Lib.hid hz5
  have Z6 := Lib.hid hz6
  clear hz1 hz2 hz3 hz4 hz5 hz6 henc
  obtain ⟨eb, heb⟩ : ∃ eb, eb = w.heap.size := ⟨_, rfl⟩
  have HEB := Lib.hid heb
  clear heb
  go_enter Try.func51, Try.ntmps51
  go_upto_region 10 with (first
    | (refine wpList_boxArr rfl 77 _ rfl _ rfl ?_; intro W1 hW1 hg1 hz1; rw [← HEB.out] at hW1 ⊢; obtain ⟨d0, d1, d2, d3, d4, d5, d6, d7⟩ := Row8.of hW1; have l1 : eb < W1.heap.size := (Array.getElem?_eq_some_iff.1 hW1).1; clear hW1)
    | (go_at_call 54; with_reducible refine (check_yes _ _ _ _ _ _ _ _ _ hp h).mono ?_; rintro e w8 ⟨rfl, hb8⟩; have R1 : Row8 _ _ _ _ _ _ _ _ _ _ := ⟨d0, d1, d2, d3, d4, d5, d6, d7⟩; clear d0 d1 d2 d3 d4 d5 d6 d7; have R := R1.below hb8 l1; clear R1; obtain ⟨d0, d1, d2, d3, d4, d5, d6, d7⟩ := R; have l8 : eb < w8.heap.size := Nat.lt_of_lt_of_le l1 hb8.size))
  have R8 : Hid (Row8 w8 eb 1 tx ix pk pn 0 0 pb) := Lib.hid ⟨d0, d1, d2, d3, d4, d5, d6, d7⟩
  have hbl : Below w.heap.size w w8 := ((Below.refl _ _).grown hg1 (Nat.le_refl _) (by simp)).trans (hb8.mono hg1.size)
  clear hb8 hg1 l1
  go_wp2_with (first
    | (go_at_call 34; with_reducible refine (new_wr _ _ (10 + pb.size) (by first | rfl | omega | (simp; done)) (by omega)).mono ?_; rintro e w9 ⟨p, B, c, pad, rfl, ho0, hp1, hp2⟩; clear d0 d1 d2 d3 d4 d5 d6 d7; obtain ⟨d0, d1, d2, d3, d4, d5, d6, d7⟩ := R8.out.below ho0.bel l8)
    | (go_at_call 36; with_reducible refine (put_wr ho0 0 1 1 z1 Z1.out (by simp) (wid1) (by first | (simp; done) | (simp; omega)) (by omega) (by first | (simp; done) | (simp; omega))).mono ?_; rintro e w9 ⟨rfl, ho1⟩; clear d0 d1 d2 d3 d4 d5 d6 d7; obtain ⟨d0, d1, d2, d3, d4, d5, d6, d7⟩ := R8.out.below ho1.bel l8)
    | (go_at_call 36; with_reducible refine (put_wr ho1 1 4 tx z2 Z2.out (by have := L1.out; omega) (wid4) (by have := L1.out; omega) (by omega) (by first | (simp; done) | (simp; omega))).mono ?_; rintro e w9 ⟨rfl, ho2⟩; clear d0 d1 d2 d3 d4 d5 d6 d7; obtain ⟨d0, d1, d2, d3, d4, d5, d6, d7⟩ := R8.out.below ho2.bel l8)
    | (go_at_call 36; with_reducible refine (put_wr ho2 5 2 ix z3 Z3.out (by have := L2.out; omega) (wid2) (by have := L2.out; omega) (by omega) (by first | (simp; done) | (simp; omega))).mono ?_; rintro e w9 ⟨rfl, ho3⟩; clear d0 d1 d2 d3 d4 d5 d6 d7; obtain ⟨d0, d1, d2, d3, d4, d5, d6, d7⟩ := R8.out.below ho3.bel l8)
    | (go_at_call 36; with_reducible refine (put_wr ho3 7 1 pk z4 Z4.out (by have := L3.out; omega) (wid1) (by have := L3.out; omega) (by omega) (by first | (simp; done) | (simp; omega))).mono ?_; rintro e w9 ⟨rfl, ho4⟩; clear d0 d1 d2 d3 d4 d5 d6 d7; obtain ⟨d0, d1, d2, d3, d4, d5, d6, d7⟩ := R8.out.below ho4.bel l8)
    | (go_at_call 36; with_reducible refine (put_wr ho4 8 2 pn z5 Z5.out (by have := L4.out; omega) (wid2) (by have := L4.out; omega) (by omega) (by first | (simp; done) | (simp; omega))).mono ?_; rintro e w9 ⟨rfl, ho5⟩; clear d0 d1 d2 d3 d4 d5 d6 d7; obtain ⟨d0, d1, d2, d3, d4, d5, d6, d7⟩ := R8.out.below ho5.bel l8)
    | (go_at_call 43; with_reducible refine (putText_wr ho5 10 pb z6 Z6.out (by have := L5.out; omega) (by have := L5.out; omega)).mono ?_; rintro e w9 ⟨rfl, ho6⟩; clear d0 d1 d2 d3 d4 d5 d6 d7; obtain ⟨d0, d1, d2, d3, d4, d5, d6, d7⟩ := R8.out.below ho6.bel l8)
    | (go_at_call 39; with_reducible refine (bytes_wr ho6 L6.out).mono ?_; rintro e w9 ⟨rfl, rfl⟩))
  go_ret2
  exact ⟨rfl, hbl.trans (ho6.bel.mono hbl.size)⟩
set_option maxRecDepth 100000 in
set_option maxHeartbeats 4000000 in
theorem encode_2 (tx cnt sum : Int) (w : World) (h : Ent.Ok ⟨2, tx, cnt, 0, 0, ByteArray.empty, cnt, sum⟩) (s0 : 0 ≤ sum) (s1 : sum < 4294967296) :
    Calls Try.prog 51 #[.agg #[.int .i64 2, .int .i64 tx, .int .i64 cnt, .int .i64 0, .int .i64 0, .string ByteArray.empty, .int .i64 cnt, .int .u32 sum]] w fun r w' => r = .returned (.tuple #[.string (txt (Ent.enc ⟨2, tx, cnt, 0, 0, ByteArray.empty, cnt, sum⟩)), .int .i64 0]) ∧ Below w.heap.size w w' := by
  obtain ⟨t1, t2, i1, i2, hk⟩ := id h
  simp only at t1 t2 i1 i2
  have hp : ByteArray.empty.size ≤ maxLen := by unfold maxLen; decide
  clear hk
  obtain ⟨z1, hz1⟩ : ∃ z, z = [] ++ be (Int.toNat 1) (Int.toNat 2) := ⟨_, rfl⟩
  obtain ⟨z2, hz2⟩ : ∃ z, z = z1 ++ be (Int.toNat 4) (Int.toNat tx) := ⟨_, rfl⟩
  obtain ⟨z3, hz3⟩ : ∃ z, z = z2 ++ be (Int.toNat 2) (Int.toNat cnt) := ⟨_, rfl⟩
  obtain ⟨z4, hz4⟩ : ∃ z, z = z3 ++ be (Int.toNat 2) (Int.toNat cnt) := ⟨_, rfl⟩
  obtain ⟨z5, hz5⟩ : ∃ z, z = z4 ++ be (Int.toNat 4) (Int.toNat sum) := ⟨_, rfl⟩
  have L1 : Hid (z1.length = 1) := Lib.hid (by rw [hz1]; rfl)
  have L2 : Hid (z2.length = 5) := Lib.hid (by rw [hz2, List.length_append, L1.out]; rfl)
  have L3 : Hid (z3.length = 7) := Lib.hid (by rw [hz3, List.length_append, L2.out]; rfl)
  have L4 : Hid (z4.length = 9) := Lib.hid (by rw [hz4, List.length_append, L3.out]; rfl)
  have L5 : Hid (z5.length = 13) := Lib.hid (by rw [hz5, List.length_append, L4.out]; rfl)
  have henc : z5 = Ent.enc ⟨2, tx, cnt, 0, 0, ByteArray.empty, cnt, sum⟩ := by rw [hz5, hz4, hz3, hz2, hz1]; simp [Ent.enc]
  rw [← henc]
  have Z1 := Lib.hid hz1
  have Z2 := Lib.hid hz2
  have Z3 := Lib.hid hz3
  have Z4 := Lib.hid hz4
  have Z5 := Lib.hid hz5
  clear hz1 hz2 hz3 hz4 hz5 henc
  obtain ⟨eb, heb⟩ : ∃ eb, eb = w.heap.size := ⟨_, rfl⟩
  have HEB := Lib.hid heb
  clear heb
  go_enter Try.func51, Try.ntmps51
  go_upto_region 10 with (first
    | (refine wpList_boxArr rfl 77 _ rfl _ rfl ?_; intro W1 hW1 hg1 hz1; rw [← HEB.out] at hW1 ⊢; obtain ⟨d0, d1, d2, d3, d4, d5, d6, d7⟩ := Row8.of hW1; have l1 : eb < W1.heap.size := (Array.getElem?_eq_some_iff.1 hW1).1; clear hW1)
    | (go_at_call 54; with_reducible refine (check_yes _ _ _ _ _ _ _ _ _ hp h).mono ?_; rintro e w8 ⟨rfl, hb8⟩; have R1 : Row8 _ _ _ _ _ _ _ _ _ _ := ⟨d0, d1, d2, d3, d4, d5, d6, d7⟩; clear d0 d1 d2 d3 d4 d5 d6 d7; have R := R1.below hb8 l1; clear R1; obtain ⟨d0, d1, d2, d3, d4, d5, d6, d7⟩ := R; have l8 : eb < w8.heap.size := Nat.lt_of_lt_of_le l1 hb8.size))
  have R8 : Hid (Row8 w8 eb 2 tx cnt 0 0 cnt sum ByteArray.empty) := Lib.hid ⟨d0, d1, d2, d3, d4, d5, d6, d7⟩
  have hbl : Below w.heap.size w w8 := ((Below.refl _ _).grown hg1 (Nat.le_refl _) (by simp)).trans (hb8.mono hg1.size)
  clear hb8 hg1 l1
  go_wp2_with (first
    | (go_at_call 34; with_reducible refine (new_wr _ _ (13) (by first | rfl | omega | (simp; done)) (by omega)).mono ?_; rintro e w9 ⟨p, B, c, pad, rfl, ho0, hp1, hp2⟩; clear d0 d1 d2 d3 d4 d5 d6 d7; obtain ⟨d0, d1, d2, d3, d4, d5, d6, d7⟩ := R8.out.below ho0.bel l8)
    | (go_at_call 36; with_reducible refine (put_wr ho0 0 1 2 z1 Z1.out (by simp) (wid1) (by first | (simp; done) | (simp; omega)) (by omega) (by first | (simp; done) | (simp; omega))).mono ?_; rintro e w9 ⟨rfl, ho1⟩; clear d0 d1 d2 d3 d4 d5 d6 d7; obtain ⟨d0, d1, d2, d3, d4, d5, d6, d7⟩ := R8.out.below ho1.bel l8)
    | (go_at_call 36; with_reducible refine (put_wr ho1 1 4 tx z2 Z2.out (by have := L1.out; omega) (wid4) (by have := L1.out; omega) (by omega) (by first | (simp; done) | (simp; omega))).mono ?_; rintro e w9 ⟨rfl, ho2⟩; clear d0 d1 d2 d3 d4 d5 d6 d7; obtain ⟨d0, d1, d2, d3, d4, d5, d6, d7⟩ := R8.out.below ho2.bel l8)
    | (go_at_call 36; with_reducible refine (put_wr ho2 5 2 cnt z3 Z3.out (by have := L2.out; omega) (wid2) (by have := L2.out; omega) (by omega) (by first | (simp; done) | (simp; omega))).mono ?_; rintro e w9 ⟨rfl, ho3⟩; clear d0 d1 d2 d3 d4 d5 d6 d7; obtain ⟨d0, d1, d2, d3, d4, d5, d6, d7⟩ := R8.out.below ho3.bel l8)
    | (go_at_call 36; with_reducible refine (put_wr ho3 7 2 cnt z4 Z4.out (by have := L3.out; omega) (wid2) (by have := L3.out; omega) (by omega) (by first | (simp; done) | (simp; omega))).mono ?_; rintro e w9 ⟨rfl, ho4⟩; clear d0 d1 d2 d3 d4 d5 d6 d7; obtain ⟨d0, d1, d2, d3, d4, d5, d6, d7⟩ := R8.out.below ho4.bel l8)
    | (go_at_call 36; with_reducible refine (put_wr ho4 9 4 sum z5 Z5.out (by have := L4.out; omega) (wid4) (by have := L4.out; omega) (by omega) (by first | (simp; done) | (simp; omega))).mono ?_; rintro e w9 ⟨rfl, ho5⟩; clear d0 d1 d2 d3 d4 d5 d6 d7; obtain ⟨d0, d1, d2, d3, d4, d5, d6, d7⟩ := R8.out.below ho5.bel l8)
    | (go_at_call 39; with_reducible refine (bytes_wr ho5 L5.out).mono ?_; rintro e w9 ⟨rfl, rfl⟩))
  go_ret2
  exact ⟨rfl, hbl.trans (ho5.bel.mono hbl.size)⟩
set_option maxRecDepth 100000 in
set_option maxHeartbeats 4000000 in
theorem encode_3 (tx ix : Int) (w : World) (h : Ent.Ok ⟨3, tx, ix, 0, 0, ByteArray.empty, 0, 0⟩) :
    Calls Try.prog 51 #[.agg #[.int .i64 3, .int .i64 tx, .int .i64 ix, .int .i64 0, .int .i64 0, .string ByteArray.empty, .int .i64 0, .int .u32 0]] w fun r w' => r = .returned (.tuple #[.string (txt (Ent.enc ⟨3, tx, ix, 0, 0, ByteArray.empty, 0, 0⟩)), .int .i64 0]) ∧ Below w.heap.size w w' := by
  obtain ⟨t1, t2, i1, i2, hk⟩ := id h
  simp only at t1 t2 i1 i2
  have hp : ByteArray.empty.size ≤ maxLen := by unfold maxLen; decide
  clear hk
  obtain ⟨z1, hz1⟩ : ∃ z, z = [] ++ be (Int.toNat 1) (Int.toNat 3) := ⟨_, rfl⟩
  obtain ⟨z2, hz2⟩ : ∃ z, z = z1 ++ be (Int.toNat 4) (Int.toNat tx) := ⟨_, rfl⟩
  obtain ⟨z3, hz3⟩ : ∃ z, z = z2 ++ be (Int.toNat 2) (Int.toNat ix) := ⟨_, rfl⟩
  have L1 : Hid (z1.length = 1) := Lib.hid (by rw [hz1]; rfl)
  have L2 : Hid (z2.length = 5) := Lib.hid (by rw [hz2, List.length_append, L1.out]; rfl)
  have L3 : Hid (z3.length = 7) := Lib.hid (by rw [hz3, List.length_append, L2.out]; rfl)
  have henc : z3 = Ent.enc ⟨3, tx, ix, 0, 0, ByteArray.empty, 0, 0⟩ := by rw [hz3, hz2, hz1]; simp [Ent.enc]
  rw [← henc]
  have Z1 := Lib.hid hz1
  have Z2 := Lib.hid hz2
  have Z3 := Lib.hid hz3
  clear hz1 hz2 hz3 henc
  obtain ⟨eb, heb⟩ : ∃ eb, eb = w.heap.size := ⟨_, rfl⟩
  have HEB := Lib.hid heb
  clear heb
  go_enter Try.func51, Try.ntmps51
  go_upto_region 10 with (first
    | (refine wpList_boxArr rfl 77 _ rfl _ rfl ?_; intro W1 hW1 hg1 hz1; rw [← HEB.out] at hW1 ⊢; obtain ⟨d0, d1, d2, d3, d4, d5, d6, d7⟩ := Row8.of hW1; have l1 : eb < W1.heap.size := (Array.getElem?_eq_some_iff.1 hW1).1; clear hW1)
    | (go_at_call 54; with_reducible refine (check_yes _ _ _ _ _ _ _ _ _ hp h).mono ?_; rintro e w8 ⟨rfl, hb8⟩; have R1 : Row8 _ _ _ _ _ _ _ _ _ _ := ⟨d0, d1, d2, d3, d4, d5, d6, d7⟩; clear d0 d1 d2 d3 d4 d5 d6 d7; have R := R1.below hb8 l1; clear R1; obtain ⟨d0, d1, d2, d3, d4, d5, d6, d7⟩ := R; have l8 : eb < w8.heap.size := Nat.lt_of_lt_of_le l1 hb8.size))
  have R8 : Hid (Row8 w8 eb 3 tx ix 0 0 0 0 ByteArray.empty) := Lib.hid ⟨d0, d1, d2, d3, d4, d5, d6, d7⟩
  have hbl : Below w.heap.size w w8 := ((Below.refl _ _).grown hg1 (Nat.le_refl _) (by simp)).trans (hb8.mono hg1.size)
  clear hb8 hg1 l1
  go_wp2_with (first
    | (go_at_call 34; with_reducible refine (new_wr _ _ (7) (by first | rfl | omega | (simp; done)) (by omega)).mono ?_; rintro e w9 ⟨p, B, c, pad, rfl, ho0, hp1, hp2⟩; clear d0 d1 d2 d3 d4 d5 d6 d7; obtain ⟨d0, d1, d2, d3, d4, d5, d6, d7⟩ := R8.out.below ho0.bel l8)
    | (go_at_call 36; with_reducible refine (put_wr ho0 0 1 3 z1 Z1.out (by simp) (wid1) (by first | (simp; done) | (simp; omega)) (by omega) (by first | (simp; done) | (simp; omega))).mono ?_; rintro e w9 ⟨rfl, ho1⟩; clear d0 d1 d2 d3 d4 d5 d6 d7; obtain ⟨d0, d1, d2, d3, d4, d5, d6, d7⟩ := R8.out.below ho1.bel l8)
    | (go_at_call 36; with_reducible refine (put_wr ho1 1 4 tx z2 Z2.out (by have := L1.out; omega) (wid4) (by have := L1.out; omega) (by omega) (by first | (simp; done) | (simp; omega))).mono ?_; rintro e w9 ⟨rfl, ho2⟩; clear d0 d1 d2 d3 d4 d5 d6 d7; obtain ⟨d0, d1, d2, d3, d4, d5, d6, d7⟩ := R8.out.below ho2.bel l8)
    | (go_at_call 36; with_reducible refine (put_wr ho2 5 2 ix z3 Z3.out (by have := L2.out; omega) (wid2) (by have := L2.out; omega) (by omega) (by first | (simp; done) | (simp; omega))).mono ?_; rintro e w9 ⟨rfl, ho3⟩; clear d0 d1 d2 d3 d4 d5 d6 d7; obtain ⟨d0, d1, d2, d3, d4, d5, d6, d7⟩ := R8.out.below ho3.bel l8)
    | (go_at_call 39; with_reducible refine (bytes_wr ho3 L3.out).mono ?_; rintro e w9 ⟨rfl, rfl⟩))
  go_ret2
  exact ⟨rfl, hbl.trans (ho3.bel.mono hbl.size)⟩
/-- an entry's bytes as a text; none if it may not be -/
def encS (e : Ent) : ByteArray := if e.Ok then txt e.enc else ⟨#[]⟩
theorem enc_yes {e : Ent} (h : e.Ok) : encS e = txt e.enc := by unfold encS; rw [if_pos h]
theorem enc_not {e : Ent} (h : ¬ e.Ok) : encS e = ⟨#[]⟩ := by unfold encS; rw [if_neg h]
theorem encode_any (kind tx ix pk pn cnt sum : Int) (pb : ByteArray) (w : World) (hp : pb.size ≤ maxLen) (s0 : 0 ≤ sum) (s1 : sum < 4294967296) :
    Calls Try.prog 51 #[.agg #[.int .i64 kind, .int .i64 tx, .int .i64 ix, .int .i64 pk, .int .i64 pn, .string pb, .int .i64 cnt, .int .u32 sum]] w fun r w' =>
      r = .returned (.tuple #[.string (encS ⟨kind, tx, ix, pk, pn, pb, cnt, sum⟩), .int .i64 (chkI ⟨kind, tx, ix, pk, pn, pb, cnt, sum⟩)]) ∧ Below w.heap.size w w' := by
  by_cases h : Ent.Ok ⟨kind, tx, ix, pk, pn, pb, cnt, sum⟩
  · rw [enc_yes h, chk_ok h]
    obtain ⟨t1, t2, i1, i2, hk⟩ := id h
    simp only at hk
    rcases hk with ⟨rfl, _, rfl, rfl⟩ | ⟨rfl, rfl, rfl, e1, rfl, _⟩ | ⟨rfl, rfl, rfl, e1, rfl, rfl⟩
    · exact encode_1 tx ix pk pn pb w h
    · rw [← empty_size] at e1
      subst e1
      exact encode_2 tx cnt sum w h s0 s1
    · rw [← empty_size] at e1
      subst e1
      exact encode_3 tx ix w h
  · rw [enc_not h, chk_not h]
    exact encode_not kind tx ix pk pn cnt sum pb w hp h
set_option maxRecDepth 100000 in
set_option maxHeartbeats 1000000 in
theorem least_any (k : Int) (w : World) (h0 : 0 ≤ k) (_h1 : k < 256) : Calls Try.prog 80 #[.int .i64 k] w fun e w' => e = .returned (.int .i64 (leastI k)) ∧ w = w' := by
  have i0 : ∀ w, (Instr.index 126 (.agg #[.int .i64 0, .int .i64 10, .int .i64 13, .int .i64 7, .int .i64 0]) (.int .i64 0)).run Try.prog w = .ok (.int .i64 0) w := fun _ => by kernel_rfl
  have i1 : ∀ w, (Instr.index 126 (.agg #[.int .i64 0, .int .i64 10, .int .i64 13, .int .i64 7, .int .i64 0]) (.int .i64 1)).run Try.prog w = .ok (.int .i64 10) w := fun _ => by kernel_rfl
  have i2 : ∀ w, (Instr.index 126 (.agg #[.int .i64 0, .int .i64 10, .int .i64 13, .int .i64 7, .int .i64 0]) (.int .i64 2)).run Try.prog w = .ok (.int .i64 13) w := fun _ => by kernel_rfl
  have i3 : ∀ w, (Instr.index 126 (.agg #[.int .i64 0, .int .i64 10, .int .i64 13, .int .i64 7, .int .i64 0]) (.int .i64 3)).run Try.prog w = .ok (.int .i64 7) w := fun _ => by kernel_rfl
  have i4 : ∀ w, (Instr.index 126 (.agg #[.int .i64 0, .int .i64 10, .int .i64 13, .int .i64 7, .int .i64 0]) (.int .i64 4)).run Try.prog w = .ok (.int .i64 0) w := fun _ => by kernel_rfl
  rcases (show k = 0 ∨ k = 1 ∨ k = 2 ∨ k = 3 ∨ k = 4 ∨ 5 ≤ k by omega) with rfl | rfl | rfl | rfl | rfl | h4
  · go_enter Try.func80, Try.ntmps80
    go_wp2
    go_ret
    exact ⟨rfl, rfl⟩
  · go_enter Try.func80, Try.ntmps80
    go_wp2
    go_ret
    exact ⟨rfl, rfl⟩
  · go_enter Try.func80, Try.ntmps80
    go_wp2
    go_ret
    exact ⟨rfl, rfl⟩
  · go_enter Try.func80, Try.ntmps80
    go_wp2
    go_ret
    exact ⟨rfl, rfl⟩
  · go_enter Try.func80, Try.ntmps80
    go_wp2
    go_ret
    exact ⟨rfl, rfl⟩
  · have hl : leastI k = 0 := by unfold leastI; rw [if_neg (by omega), if_neg (by omega), if_neg (by omega)]
    have HL := Lib.hid hl
    clear hl
    go_enter Try.func80, Try.ntmps80
    go_wp2
    go_ret
    exact ⟨by rw [HL.out]; rfl, rfl⟩
end Go.Proofs.Ytmibbklafogbkaa
