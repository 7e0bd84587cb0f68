/- The page layer: a page's bytes (page.Seal, 62). -/
import Derived.Test.YtmibbklafogbkaaPa
namespace Go.Proofs.Ytmibbklafogbkaa
open Go.RowKit
open Fld
open Crc
/-- the three cells of a page in memory -/
structure Row3 (w : World) (b : Nat) (pk pn : Int) (pb : ByteArray) : Prop where
  c0 : w.cell? ⟨b, 0, none⟩ = some (.int .i64 pk)
  c1 : w.cell? ⟨b, 1, none⟩ = some (.int .i64 pn)
  c2 : w.cell? ⟨b, 2, none⟩ = some (.string pb)
theorem Row3.below {w w' : World} {b B : Nat} {pk pn : Int} {pb : ByteArray} (h : Row3 w b pk pn pb) (hb : Below B w w') (l : b < B) : Row3 w' b pk pn pb :=
  ⟨(hb.cell (p := ⟨b, 0, none⟩) l).trans h.c0, (hb.cell (p := ⟨b, 1, none⟩) l).trans h.c1, (hb.cell (p := ⟨b, 2, none⟩) l).trans h.c2⟩
theorem Row3.of {w : World} {b : Nat} {pk pn : Int} {pb : ByteArray} {t : TypeId} {fr : Nat × Nat} (h : w.heap[b]? = some (.cells #[.int .i64 pk, .int .i64 pn, .string pb] t fr)) : Row3 w b pk pn pb := by
  refine ⟨?_, ?_, ?_⟩ <;> rw [cell_of_row _ _ _ _ _ _ h] <;> rfl
def mayI (p : Pg) : Int := if May p then 0 else 1
def sealS (p : Pg) : ByteArray := if May p then txt (sealL p) else ⟨#[]⟩
theorem may_yes {p : Pg} (h : May p) : mayI p = 0 ∧ sealS p = txt (sealL p) := by unfold mayI sealS; rw [if_pos h, if_pos h]; exact ⟨rfl, rfl⟩
theorem Wr.keep {w0 w w' : World} {p B c n : Nat} {z pad : List UInt8} (h : Wr w0 w p B c n z pad) (hb : Below w.heap.size w w') : Wr w0 w' p B c n z pad := by
  obtain ⟨h1, h2⟩ := h
  have l1 : p < w.heap.size := (Array.getElem?_eq_some_iff.1 h2.area.head).1
  have l2 : B < w.heap.size := h2.area.row.lt
  exact ⟨h1, ⟨⟨(hb.block p l1).trans h2.area.head, h2.area.row.below hb l2, h2.area.cap, h2.area.small⟩, h2.bel.trans (hb.mono h2.bel.size), h2.hp, h2.hB⟩⟩
theorem may_no {p : Pg} (h : ¬ May p) : mayI p = 1 ∧ sealS p = ⟨#[]⟩ := by unfold mayI sealS; rw [if_neg h, if_neg h]; exact ⟨rfl, rfl⟩
set_option maxRecDepth 100000 in
set_option maxHeartbeats 2000000 in
theorem seal_not (pk pn : Int) (pb : ByteArray) (w : World) (h : ¬ May ⟨pk, pn, pb⟩) :
    Calls Try.prog 62 #[.agg #[.int .i64 pk, .int .i64 pn, .string pb]] w fun r w' => r = .returned (.tuple #[.string ⟨#[]⟩, .int .i64 1]) ∧ Below w.heap.size w w' := by
  have h' : pk < 1 ∨ (1 ≤ pk ∧ 5 < pk) ∨ (1 ≤ pk ∧ pk ≤ 5 ∧ pn < 0) ∨ (1 ≤ pk ∧ pk ≤ 5 ∧ 0 ≤ pn ∧ 1000 ≤ pn) ∨ (1 ≤ pk ∧ pk ≤ 5 ∧ 0 ≤ pn ∧ pn < 1000 ∧ (244 : Int) < pb.size) := by
    unfold May at h
    simp only at h
    omega
  clear h
  rcases h' with t1 | ⟨t1, t2⟩ | ⟨t1, t2, t3⟩ | ⟨t1, t2, t3, t4⟩ | ⟨t1, t2, t3, t4, t5⟩
  all_goals
    go_enter Try.func62, Try.ntmps62
    go_upto_region 1 with (refine wpList_boxArr rfl 72 _ rfl _ rfl ?_; intro W1 hW1 hg1 hz1; obtain ⟨d0, d1, d2⟩ := Row3.of hW1; clear hW1 hz1)
    go_wp2
    go_ret2
    exact ⟨rfl, (Below.refl _ _).grown hg1 (Nat.le_refl _) (by simp)⟩
set_option maxRecDepth 100000 in
set_option maxHeartbeats 4000000 in
theorem seal_ok (pk pn : Int) (pb : ByteArray) (w : World) (h : May ⟨pk, pn, pb⟩) :
    Calls Try.prog 62 #[.agg #[.int .i64 pk, .int .i64 pn, .string pb]] w fun r w' => r = .returned (.tuple #[.string (txt (sealL ⟨pk, pn, pb⟩)), .int .i64 0]) ∧ Below w.heap.size w w' := by
  obtain ⟨k1, k2, n1, n2, s1⟩ := id h
  simp only at k1 k2 n1 n2 s1
  obtain ⟨z1, hz1⟩ : ∃ z, z = [] ++ be (Int.toNat 1) pk.toNat := ⟨_, rfl⟩
  obtain ⟨z1', hz1'⟩ : ∃ z, z = z1 ++ List.replicate 1 0 := ⟨_, rfl⟩
  obtain ⟨z2, hz2⟩ : ∃ z, z = z1' ++ be (Int.toNat 2) (Int.toNat (pb.size : Int)) := ⟨_, rfl⟩
  obtain ⟨z3, hz3⟩ : ∃ z, z = z2 ++ be (Int.toNat 4) pn.toNat := ⟨_, rfl⟩
  obtain ⟨z4, hz4⟩ : ∃ z, z = z3 ++ pb.data.toList := ⟨_, rfl⟩
  obtain ⟨z5, hz5⟩ : ∃ z, z = z4 ++ List.replicate (244 - pb.size) 0 := ⟨_, rfl⟩
  have L1 : Hid (z1.length = 1) := Lib.hid (by rw [hz1]; rfl)
  have L1' : Hid (z1'.length = 2) := Lib.hid (by rw [hz1', List.length_append, L1.out]; rfl)
  have L2 : Hid (z2.length = 4) := Lib.hid (by rw [hz2, List.length_append, L1'.out]; rfl)
  have L3 : Hid (z3.length = 8) := Lib.hid (by rw [hz3, List.length_append, L2.out]; rfl)
  have L4 : Hid (z4.length = 8 + pb.size) := Lib.hid (by rw [hz4, List.length_append, L3.out, toList_size])
  have L5 : Hid (z5.length = 252) := Lib.hid (by rw [hz5, List.length_append, L4.out, List.length_replicate]; omega)
  have hhdr : z5 = hdr ⟨pk, pn, pb⟩ := by rw [hz5, hz4, hz3, hz2, hz1', hz1]; rfl
  obtain ⟨T, hT⟩ : ∃ T, T = txt (low (crc z5)) := ⟨_, rfl⟩
  have hTs : T.size = 4 := by rw [hT, txt_size]; rfl
  obtain ⟨z6, hz6⟩ : ∃ z, z = z5 ++ T.data.toList := ⟨_, rfl⟩
  have L6 : Hid (z6.length = 256) := Lib.hid (by rw [hz6, List.length_append, L5.out, toList_size, hTs])
  have hseal : z6 = sealL ⟨pk, pn, pb⟩ := by
    rw [hz6, hT]
    unfold sealL
    rw [← hhdr]
    rfl
  obtain ⟨S0, hS0⟩ : ∃ S, S = txt (z5 ++ List.replicate (256 - z5.length) 0) := ⟨_, rfl⟩
  have hs0 : S0.size = 256 := by rw [hS0, txt_size, List.length_append, List.length_replicate, L5.out]
  have htk : T = txt (low (crc (S0.data.toList.take 252))) := by
    rw [hT, hS0]
    have e : (txt (z5 ++ List.replicate (256 - z5.length) 0)).data.toList = z5 ++ List.replicate (256 - z5.length) 0 := rfl
    rw [e, ← L5.out, List.take_left]
  rw [← hseal]
  have Z1 := Lib.hid hz1
  have Z1' := Lib.hid hz1'
  have Z2 := Lib.hid hz2
  have Z3 := Lib.hid hz3
  have Z4 := Lib.hid hz4
  have Z5 := Lib.hid hz5
  have Z6 := Lib.hid hz6
  have HS0 := Lib.hid hS0
  have HTK := Lib.hid htk
  have hT4 : T.size ≤ 4 := Nat.le_of_eq hTs
  have hs1 : 252 ≤ S0.size := by omega
  have hs2 : S0.size ≤ 300 := by omega
  clear hz1 hz1' hz2 hz3 hz4 hz5 hz6 hS0 htk hT hseal hhdr hTs hs0
  obtain ⟨eb, heb⟩ : ∃ eb, eb = w.heap.size := ⟨_, rfl⟩
  have HEB := Lib.hid heb
  clear heb
  go_enter Try.func62, Try.ntmps62
  go_upto_region 3 with (refine wpList_boxArr rfl 72 _ rfl _ rfl ?_; intro W1 hW1 hg1 hz1; rw [← HEB.out] at hW1 ⊢; have R1 := Row3.of hW1; obtain ⟨d0, d1, d2⟩ := id R1; have l1 : eb < W1.heap.size := (Array.getElem?_eq_some_iff.1 hW1).1; clear hW1 hz1)
  have HR : Hid (∀ W' : World, Below W1.heap.size W1 W' → Row3 W' eb pk pn pb) := Lib.hid fun W' h => R1.below h l1
  have hbl : Below w.heap.size w W1 := (Below.refl _ _).grown hg1 (Nat.le_refl _) (by simp)
  clear R1 hg1
  go_wp2_with (first
    | (go_at_call 34; with_reducible refine (new_wr _ _ 256 (by omega) (by omega)).mono ?_; rintro e w9 ⟨p, B, c, pad, rfl, ho0, hp1, hp2⟩; clear d0 d1 d2; obtain ⟨d0, d1, d2⟩ := HR.out _ ho0.bel)
    | (go_at_call 36; with_reducible refine (put_wr ho0 0 1 pk z1 Z1.out (by simp) wid1 (by simp) (by omega) (by simp; omega)).mono ?_; rintro e w9 ⟨rfl, ho1⟩; clear d0 d1 d2; obtain ⟨d0, d1, d2⟩ := HR.out _ ho1.bel; have ho1' := ho1.skip 1 z1' Z1'.out (by have := L1.out; omega))
    | (go_at_call 36; with_reducible refine (put_wr ho1' 2 2 (pb.size : Int) z2 Z2.out (by have := L1'.out; omega) wid2 (by have := L1'.out; omega) (by omega) (by simp; omega)).mono ?_; rintro e w9 ⟨rfl, ho2⟩; clear d0 d1 d2; obtain ⟨d0, d1, d2⟩ := HR.out _ ho2.bel)
    | (go_at_call 36; with_reducible refine (put_wr ho2 4 4 pn z3 Z3.out (by have := L2.out; omega) wid4 (by have := L2.out; omega) (by omega) (by simp; omega)).mono ?_; rintro e w9 ⟨rfl, ho3⟩; clear d0 d1 d2; obtain ⟨d0, d1, d2⟩ := HR.out _ ho3.bel)
    | (go_at_call 43; with_reducible refine (putText_wr ho3 8 pb z4 Z4.out (by have := L3.out; omega) (by have := L3.out; omega)).mono ?_; rintro e w9 ⟨rfl, ho4⟩; clear d0 d1 d2; have ho5 := ho4.skip (244 - pb.size) z5 Z5.out (by have := L4.out; omega))
    | (go_at_call 39; with_reducible refine (bytes_wr' ho5).mono ?_; rintro e w9 ⟨rfl, rfl⟩; rw [← HS0.out])
    | (go_at_call 83; with_reducible refine (tail_any S0 _ hs1 hs2 _ rfl).mono ?_; rintro e w9 ⟨rfl, hbt⟩; rw [← HTK.out]; have ho5' := ho5.keep hbt)
    | (go_at_call 43; with_reducible refine (putText_wr ho5' 252 T z6 Z6.out (by have := L5.out; omega) (by have := L5.out; omega)).mono ?_; rintro e w9 ⟨rfl, ho6⟩)
    | (go_at_call 39; with_reducible refine (bytes_wr ho6 L6.out).mono ?_; rintro e w9 ⟨rfl, rfl⟩))
  go_ret2
  exact ⟨rfl, hbl.trans (ho6.bel.mono hbl.size)⟩
theorem seal_any (pk pn : Int) (pb : ByteArray) (w w0 : World) (hb : Below w0.heap.size w0 w) (S : ByteArray) (F : Int) (hS : S = sealS ⟨pk, pn, pb⟩) (hF : F = mayI ⟨pk, pn, pb⟩) :
    Calls Try.prog 62 #[.agg #[.int .i64 pk, .int .i64 pn, .string pb]] w fun r w' => r = .returned (.tuple #[.string S, .int .i64 F]) ∧ Below w0.heap.size w0 w' := by
  by_cases h : May ⟨pk, pn, pb⟩
  · rw [hS, hF, (may_yes h).1, (may_yes h).2]
    exact (seal_ok pk pn pb w h).mono fun _ _ ⟨a, b⟩ => ⟨a, hb.trans (b.mono hb.size)⟩
  · rw [hS, hF, (may_no h).1, (may_no h).2]
    exact (seal_not pk pn pb w h).mono fun _ _ ⟨a, b⟩ => ⟨a, hb.trans (b.mono hb.size)⟩
end Go.Proofs.Ytmibbklafogbkaa
