/- The page layer: a page's bytes, by the document (cadastreref03.Seal, 63). -/
import Derived.Test.YtmibbklafogbkaaPb
import Derived.Test.YtmibbklafogbkaaPc
import Derived.Deep.RegionHeld3
namespace Go.Proofs.Ytmibbklafogbkaa
open Go.RowKit
open Fld
open Crc
set_option linter.unusedSimpArgs false
theorem may_yes84 (pk pn : Int) (pb : ByteArray) (w : World) (h : May ⟨pk, pn, pb⟩) : Calls Try.prog 84 #[.agg #[.int .i64 pk, .int .i64 pn, .string pb]] w fun r w' => r = .returned (.bool true) ∧ Below w.heap.size w w' :=
  (may_any pk pn pb w).mono fun _ _ ⟨a, b⟩ => ⟨by rw [a, decide_eq_true h], b⟩
theorem may_no84 (pk pn : Int) (pb : ByteArray) (w : World) (h : ¬ May ⟨pk, pn, pb⟩) : Calls Try.prog 84 #[.agg #[.int .i64 pk, .int .i64 pn, .string pb]] w fun r w' => r = .returned (.bool false) ∧ Below w.heap.size w w' :=
  (may_any pk pn pb w).mono fun _ _ ⟨a, b⟩ => ⟨by rw [a, decide_eq_false h], b⟩
/-- a row of bytes 0 -/
def zrow (m : Nat) : Obj := .cells (bytesOf (List.replicate m 0)) 5
theorem run_zrow (m : Nat) (hm : m ≤ 300) (w : World) : (Instr.makeSlice 30 (.int .i64 (m : Int)) (.int .i64 (m : Int))).run Try.prog w = .ok (.slice (some ⟨w.heap.size, 0, none⟩) m m) (w.alloc (zrow m)) := by
  obtain ⟨i, hi, hz, h1, hb⟩ := info_parts info5'
  have hr := run_make (P := Try.prog) w 30 5 i _ Try.underlying30 hi hz .i64 .i64 m m (by omega) (Int.le_refl _) (by rw [hb]; omega) (by omega)
  have hcs : madeCells (Value.cells (.int .u8 0)) ((m : Int).toNat * i.size) = bytesOf (List.replicate m 0) := by
    rw [h1, Nat.mul_one, Int.toNat_natCast]
    apply Array.toList_inj.1
    show (madeCells #[.int .u8 0] m).toList = _
    rw [toList_madeCells_one]
    simp [bytesOf]
  rw [hcs, Int.toNat_natCast] at hr
  exact hr
/-- that row, as a text -/
def Zconv (m b : Nat) (w : World) : Prop := w.heap[b]? = some (zrow m)
theorem Zconv.run {m b : Nat} {w : World} (h : Zconv m b w) (z : ByteArray) (hz : z = txt (List.replicate m 0)) : (convert 30 9 (.slice (some ⟨b, 0, none⟩) m m)).run Try.prog w = .ok (.string z) w := by
  have hb : Blk w b 5 (bytesOf (List.replicate m 0)) := Blk.of h
  have hr := run_string_of (P := Try.prog) (w := w) 30 9 5 Try.underlying30 Try.underlying5 Try.underlying9 b 0 m m (List.replicate m 0) (by simp) (fun i hi => by rw [Nat.zero_add, hb.cell, bytesOf_get _ _ hi])
  rw [hr, hz]
  rfl
theorem Zconv.new (m : Nat) (w : World) : Zconv m w.heap.size (w.alloc (zrow m)) := heap_alloc_new w _
theorem wpAnyH_more {P : Program} {md : Region.Mode} {ops : Array Oper} {Q : Exit → Act → World → Prop} {S S' : World → Prop} (hs : ∀ w, S' w → S w) :
    ∀ (fuel : Nat) (listed : Array Bool) (a : Act) (w : World), wpAnyH P md ops Q S' fuel listed a w → wpAnyH P md ops Q S fuel listed a w
  | 0, _, _, _, h => h
  | fuel + 1, _, _, _, h => ⟨h.1, fun i hi => wpOp_mono (fun a' w' h' => ⟨hs w' h'.1, wpAnyH_more hs fuel _ a' w' h'.2⟩) (h.2 i hi)⟩
theorem Zconv.below {m b : Nat} {w w' : World} (h : Zconv m b w) (hb : Below w.heap.size w w') : Zconv m b w' := (hb.block b (Array.getElem?_eq_some_iff.1 h).1).trans h
set_option maxRecDepth 100000 in
set_option maxHeartbeats 2000000 in
theorem rseal_not (pk pn : Int) (pb : ByteArray) (w : World) (h : ¬ May ⟨pk, pn, pb⟩) :
    Calls Try.prog 63 #[.agg #[.int .i64 pk, .int .i64 pn, .string pb]] w fun r w' => r = .returned (.tuple #[.string ⟨#[]⟩, .int .i64 1]) ∧ Below w.heap.size w w' := by
  go_enter Try.func63, Try.ntmps63
  go_wp2_with (first
    | (refine wpList_boxArr rfl 72 _ rfl _ rfl ?_; intro W1 hW1 hg1 hz1; obtain ⟨d0, d1, d2⟩ := Row3.of hW1; clear hW1)
    | (go_at_call 84; with_reducible refine (may_no84 _ _ _ _ h).mono ?_; rintro e w8 ⟨rfl, hb8⟩))
  go_ret2
  exact ⟨rfl, ((Below.refl _ _).grown hg1 (Nat.le_refl _) (by simp)).trans (hb8.mono hg1.size)⟩
set_option maxRecDepth 100000 in
set_option maxHeartbeats 8000000 in
theorem rseal_ok (pk pn : Int) (pb : ByteArray) (w : World) (h : May ⟨pk, pn, pb⟩) :
    Calls Try.prog 63 #[.agg #[.int .i64 pk, .int .i64 pn, .string pb]] w fun r w' => r = .returned (.tuple #[.string (txt (sealL ⟨pk, pn, pb⟩)), .int .i64 0]) ∧ Below w.heap.size w w' := by
  obtain ⟨k1, k2, n1, n2, s1⟩ := id h
  simp only at k1 k2 n1 n2 s1
  obtain ⟨m, hm⟩ : ∃ m, m = 244 - pb.size := ⟨_, rfl⟩
  obtain ⟨a1, ha1⟩ : ∃ z, z = txt (be (Int.toNat 1) pk.toNat) := ⟨_, rfl⟩
  obtain ⟨a2, ha2⟩ : ∃ z, z = txt (be (Int.toNat 1) (Int.toNat 0)) := ⟨_, rfl⟩
  obtain ⟨a3, ha3⟩ : ∃ z, z = txt (be (Int.toNat 2) (Int.toNat (pb.size : Int))) := ⟨_, rfl⟩
  obtain ⟨a4, ha4⟩ : ∃ z, z = txt (be (Int.toNat 4) pn.toNat) := ⟨_, rfl⟩
  obtain ⟨a5, ha5⟩ : ∃ z, z = txt (List.replicate m 0) := ⟨_, rfl⟩
  have sa1 : a1.size ≤ 1 := by rw [ha1, be_text]; decide
  have sa2 : a2.size ≤ 1 := by rw [ha2, be_text]; decide
  have sa3 : a3.size ≤ 2 := by rw [ha3, be_text]; decide
  have sa4 : a4.size ≤ 4 := by rw [ha4, be_text]; decide
  have sa5 : a5.size ≤ 244 := by rw [ha5, txt_size, List.length_replicate]; omega
  have hhdr : (a1 ++ a2 ++ a3 ++ a4 ++ pb ++ a5).data.toList = hdr ⟨pk, pn, pb⟩ := by
    rw [ha1, ha2, ha3, ha4, ha5, hm]
    simp only [ByteArray.data_append, Array.toList_append]
    rfl
  obtain ⟨N, hN⟩ : ∃ N : Nat, N = crc (hdr ⟨pk, pn, pb⟩) := ⟨_, rfl⟩
  have hNl : N < 4294967296 := by rw [hN]; exact crc_lt _
  have hsum : sumI (a1 ++ a2 ++ a3 ++ a4 ++ pb ++ a5) = (N : Int) := by unfold sumI; rw [hhdr, hN]
  obtain ⟨T, hT⟩ : ∃ T, T = txt (low (Int.toNat (N : Int))) := ⟨_, rfl⟩
  have hTs : T.size ≤ 4 := by rw [hT, txt_size]; exact Nat.le_refl _
  have hfin : (a1 ++ a2 ++ a3 ++ a4 ++ pb ++ a5) ++ T = txt (sealL ⟨pk, pn, pb⟩) := by
    apply ByteArray.ext
    apply Array.toList_inj.1
    rw [ByteArray.data_append, Array.toList_append, hhdr, hT, Int.toNat_natCast, hN]
    rfl
  rw [← hfin]
  have HA1 := Lib.hid ha1
  have HA2 := Lib.hid ha2
  have HA3 := Lib.hid ha3
  have HA4 := Lib.hid ha4
  have HA5 := Lib.hid ha5
  have HS' := Lib.hid hsum
  have HT := Lib.hid hT
  have hm3 : m ≤ 300 := by omega
  have HMK := Lib.hid (run_zrow m hm3)
  have hsub : IntKind.i64.wrap (244 - (pb.size : Int)) = (m : Int) := by rw [IntWalk.i64_in _ (by omega)]; omega
  have HSUB := Lib.hid hsub
  have hall : (a1 ++ a2 ++ a3 ++ a4 ++ pb ++ a5).size ≤ 140737488351232 := by simp only [ByteArray.size_append]; omega
  have f1 : (9223372036854775807 < a1.size + a2.size) = False := eq_false (by omega)
  have f2 : (9223372036854775807 < a1.size + a2.size + a3.size) = False := eq_false (by omega)
  have f3 : (9223372036854775807 < a1.size + a2.size + a3.size + a4.size) = False := eq_false (by omega)
  have f4 : (9223372036854775807 < a1.size + a2.size + a3.size + a4.size + pb.size) = False := eq_false (by omega)
  have f5 : (9223372036854775807 < a1.size + a2.size + a3.size + a4.size + pb.size + a5.size) = False := eq_false (by omega)
  have f6 : (9223372036854775807 < a1.size + a2.size + a3.size + a4.size + pb.size + a5.size + T.size) = False := eq_false (by omega)
  have c1 : (0 : Int) ≤ (pb.size : Int) := by omega
  have c2 : (pb.size : Int) ≤ 9223372036854775807 := by omega
  have c3 : pk ≤ 9223372036854775807 := by omega
  have c4 : pn ≤ 9223372036854775807 := by omega
  have c5 : 0 ≤ pk := by omega
  have c6 : (0 : Int) ≤ (N : Int) := by omega
  have c7 : (N : Int) < 4294967296 := by omega
  clear ha1 ha2 ha3 ha4 ha5 hhdr hN hsum hT hfin hsub hm
  obtain ⟨eb, heb⟩ : ∃ eb, eb = w.heap.size := ⟨_, rfl⟩
  have HEB := Lib.hid heb
  clear heb
  go_enter Try.func63, Try.ntmps63
  go_upto_region 3 with (first
    | (refine wpList_boxArr rfl 72 _ rfl _ rfl ?_; intro W1 hW1 hg1 hz1; rw [← HEB.out] at hW1 ⊢; have R1 := Row3.of hW1; obtain ⟨d0, d1, d2⟩ := id R1; have l1 : eb < W1.heap.size := (Array.getElem?_eq_some_iff.1 hW1).1; clear hW1 hz1)
    | (go_at_call 84; with_reducible refine (may_yes84 _ _ _ _ h).mono ?_; rintro e w8 ⟨rfl, hb8⟩; clear d0 d1 d2))
  have R := R1.below hb8 l1
  have l8 : eb < w8.heap.size := Nat.lt_of_lt_of_le l1 hb8.size
  have HS : Hid (∀ W' : World, Below w8.heap.size w8 W' → W'.cell? ⟨eb, 0, none⟩ = some (.int .i64 pk) ∧ W'.cell? ⟨eb, 1, none⟩ = some (.int .i64 pn) ∧ W'.cell? ⟨eb, 2, none⟩ = some (.string pb)) := Lib.hid fun W' h => by
    obtain ⟨r0, r1, r2⟩ := R.below h l8
    exact ⟨r0, r1, r2⟩
  have hbl : Below w.heap.size w w8 := ((Below.refl _ _).grown hg1 (Nat.le_refl _) (by simp)).trans (hb8.mono hg1.size)
  clear hb8 hg1 l1 R R1
  have hb3 : Below w8.heap.size w8 w8.drew := (Below.refl _ _).drew
  refine wp_region_held_drew (S := fun W' => W'.cell? ⟨eb, 0, none⟩ = some (.int .i64 pk) ∧ W'.cell? ⟨eb, 1, none⟩ = some (.int .i64 pn) ∧ W'.cell? ⟨eb, 2, none⟩ = some (.string pb)) (by kernel_rfl) (HS.out _ hb3) (fun hHeld => ?_)
  generalize w8.drew = w20 at hb3 hHeld ⊢
  have hsub := HSUB.out
  refine wpAnyH_take (i := 0) (v := ?_) rfl (by kernel_rfl) (by kernel_rfl) (by kernel_rfl) (fun _ _ _ h => h) (Or.inl ⟨by rfl, ?_⟩) (by assumption) ?_
  rotate_left
  · (intro w hSw; (try dsimp only at hSw); go_simp; try with_reducible rfl)
  (try simp only [Act.put, List.setIfInBounds_toArray, List.set_cons_zero, List.set_cons_succ])
  refine wpAnyH_take (i := 1) (v := ?_) rfl (by kernel_rfl) (by kernel_rfl) (by kernel_rfl) (fun _ _ _ h => h) (Or.inl ⟨by rfl, ?_⟩) (by assumption) ?_
  rotate_left
  · (intro w hSw; (try dsimp only at hSw); go_simp; try with_reducible rfl)
  (try simp only [Act.put, List.setIfInBounds_toArray, List.set_cons_zero, List.set_cons_succ])
  refine wpAnyH_take (i := 5) (v := ?_) rfl (by kernel_rfl) (by kernel_rfl) (by kernel_rfl) (fun _ _ _ h => h) (Or.inl ⟨by rfl, ?_⟩) (by assumption) ?_
  rotate_left
  · (intro w hSw; (try dsimp only at hSw); go_simp; try with_reducible rfl)
  (try simp only [Act.put, List.setIfInBounds_toArray, List.set_cons_zero, List.set_cons_succ])
  refine wpAnyH_take (i := 6) (v := ?_) rfl (by kernel_rfl) (by kernel_rfl) (by kernel_rfl) (fun _ _ _ h => h) (Or.inl ⟨by rfl, ?_⟩) (by assumption) ?_
  rotate_left
  · (intro w hSw; (try dsimp only at hSw); go_simp; try with_reducible rfl)
  (try simp only [Act.put, List.setIfInBounds_toArray, List.set_cons_zero, List.set_cons_succ])
  refine wpAnyH_take (i := 7) (v := ?_) rfl (by kernel_rfl) (by kernel_rfl) (by kernel_rfl) (fun _ _ _ h => h) (Or.inl ⟨by rfl, ?_⟩) (by assumption) ?_
  rotate_left
  · (intro w hSw; (try dsimp only at hSw); go_simp; try with_reducible rfl)
  (try simp only [Act.put, List.setIfInBounds_toArray, List.set_cons_zero, List.set_cons_succ])
  refine wpAnyH_take (i := 10) (v := ?_) rfl (by kernel_rfl) (by kernel_rfl) (by kernel_rfl) (fun _ _ _ h => h) (Or.inl ⟨by rfl, ?_⟩) (by assumption) ?_
  rotate_left
  · (intro w hSw; (try dsimp only at hSw); go_simp; try with_reducible rfl)
  (try simp only [Act.put, List.setIfInBounds_toArray, List.set_cons_zero, List.set_cons_succ])
  refine wpAnyH_take (i := 11) (v := ?_) rfl (by kernel_rfl) (by kernel_rfl) (by kernel_rfl) (fun _ _ _ h => h) (Or.inl ⟨by rfl, ?_⟩) (by assumption) ?_
  rotate_left
  · (intro w hSw; (try dsimp only at hSw); go_simp; try with_reducible rfl)
  (try simp only [Act.put, List.setIfInBounds_toArray, List.set_cons_zero, List.set_cons_succ])
  refine wpAnyH_take (i := 14) (v := ?_) rfl (by kernel_rfl) (by kernel_rfl) (by kernel_rfl) (fun _ _ _ h => h) (Or.inl ⟨by rfl, ?_⟩) (by assumption) ?_
  rotate_left
  · (intro w hSw; (try dsimp only at hSw); go_simp; try with_reducible rfl)
  (try simp only [Act.put, List.setIfInBounds_toArray, List.set_cons_zero, List.set_cons_succ])
  refine wpAnyH_take (i := 15) (v := ?_) rfl (by kernel_rfl) (by kernel_rfl) (by kernel_rfl) (fun _ _ _ h => h) (Or.inl ⟨by rfl, ?_⟩) (by assumption) ?_
  rotate_left
  · (intro w hSw; (try dsimp only at hSw); go_simp; try with_reducible rfl)
  (try simp only [Act.put, List.setIfInBounds_toArray, List.set_cons_zero, List.set_cons_succ])
  refine wpAnyH_take (i := 17) (v := ?_) rfl (by kernel_rfl) (by kernel_rfl) (by kernel_rfl) (fun _ _ _ h => h) (Or.inl ⟨by rfl, ?_⟩) (by assumption) ?_
  rotate_left
  · (intro w hSw; (try dsimp only at hSw); go_simp; try with_reducible rfl)
  (try simp only [Act.put, List.setIfInBounds_toArray, List.set_cons_zero, List.set_cons_succ])
  refine wpAnyH_take (i := 18) (v := ?_) rfl (by kernel_rfl) (by kernel_rfl) (by kernel_rfl) (fun _ _ _ h => h) (Or.inl ⟨by rfl, ?_⟩) (by assumption) ?_
  rotate_left
  · (intro w hSw; (try dsimp only at hSw); go_simp; try with_reducible rfl)
  (try simp only [Act.put, List.setIfInBounds_toArray, List.set_cons_zero, List.set_cons_succ])
  refine wpAnyH_take (i := 19) (v := ?_) rfl (by kernel_rfl) (by kernel_rfl) (by kernel_rfl) (fun _ _ _ h => h) (Or.inl ⟨by rfl, ?_⟩) (by assumption) ?_
  rotate_left
  · (intro w hSw; (try dsimp only at hSw); go_simp; try with_reducible rfl)
  (try simp only [Act.put, List.setIfInBounds_toArray, List.set_cons_zero, List.set_cons_succ])
  refine wpAnyH_take (i := 20) (v := ?_) rfl (by kernel_rfl) (by kernel_rfl) (by kernel_rfl) (fun _ _ _ h => h) (Or.inl ⟨by rfl, ?_⟩) (by assumption) ?_
  rotate_left
  · (intro w hSw; (try dsimp only at hSw); go_simp; try with_reducible rfl)
  (try simp only [Act.put, List.setIfInBounds_toArray, List.set_cons_zero, List.set_cons_succ])
  refine wpAnyH_ready (rs := [2, 21]) (by kernel_rfl) (by simp) ?_
  refine AllReadyH.cons rfl (fun K hK => ?_) ?_
  · go_simp
    (with_reducible refine (wide_any pk 1 _ _ (Below.refl _ _) c5 c3 (by decide) (by decide) a1 HA1.out).mono ?_)
    rintro e w21 ⟨rfl, hb20⟩
    replace hb3 := hb3.trans (hb20.mono hb3.size)
    clear hb20 hHeld
    refine hK.out _ _ (HS.out _ hb3) (fun hHeld => ?_)
    clear hK K
    (try simp only [Act.put, List.setIfInBounds_toArray, List.set_cons_zero, List.set_cons_succ])
    refine wpAnyH_ready (rs := [3, 21]) (by kernel_rfl) (by simp) ?_
    refine AllReadyH.cons rfl (fun K hK => ?_) ?_
    · go_simp
      (with_reducible refine (wide_any 0 1 _ _ (Below.refl _ _) (Int.le_refl _) (by decide) (by decide) (by decide) a2 HA2.out).mono ?_)
      rintro e w22 ⟨rfl, hb20⟩
      replace hb3 := hb3.trans (hb20.mono hb3.size)
      clear hb20 hHeld
      refine hK.out _ _ (HS.out _ hb3) (fun hHeld => ?_)
      clear hK K
      (try simp only [Act.put, List.setIfInBounds_toArray, List.set_cons_zero, List.set_cons_succ])
      refine wpAnyH_take (i := 4) (v := ?_) rfl (by kernel_rfl) (by kernel_rfl) (by kernel_rfl) (fun _ _ _ h => h) (Or.inl ⟨by rfl, ?_⟩) (by assumption) ?_
      rotate_left
      · (intro w hSw; (try dsimp only at hSw); go_simp; try with_reducible rfl)
      (try simp only [Act.put, List.setIfInBounds_toArray, List.set_cons_zero, List.set_cons_succ])
      refine wpAnyH_ready (rs := [8, 21]) (by kernel_rfl) (by simp) ?_
      refine AllReadyH.cons rfl (fun K hK => ?_) ?_
      · go_simp
        (with_reducible refine (wide_any (pb.size : Int) 2 _ _ (Below.refl _ _) c1 c2 (by decide) (by decide) a3 HA3.out).mono ?_)
        rintro e w23 ⟨rfl, hb20⟩
        replace hb3 := hb3.trans (hb20.mono hb3.size)
        clear hb20 hHeld
        refine hK.out _ _ (HS.out _ hb3) (fun hHeld => ?_)
        clear hK K
        (try simp only [Act.put, List.setIfInBounds_toArray, List.set_cons_zero, List.set_cons_succ])
        refine wpAnyH_take (i := 9) (v := ?_) rfl (by kernel_rfl) (by kernel_rfl) (by kernel_rfl) (fun _ _ _ h => h) (Or.inl ⟨by rfl, ?_⟩) (by assumption) ?_
        rotate_left
        · (intro w hSw; (try dsimp only at hSw); go_simp; try with_reducible rfl)
        (try simp only [Act.put, List.setIfInBounds_toArray, List.set_cons_zero, List.set_cons_succ])
        refine wpAnyH_ready (rs := [12, 21]) (by kernel_rfl) (by simp) ?_
        refine AllReadyH.cons rfl (fun K hK => ?_) ?_
        · go_simp
          (with_reducible refine (wide_any pn 4 _ _ (Below.refl _ _) n1 c4 (by decide) (by decide) a4 HA4.out).mono ?_)
          rintro e w24 ⟨rfl, hb20⟩
          replace hb3 := hb3.trans (hb20.mono hb3.size)
          clear hb20 hHeld
          refine hK.out _ _ (HS.out _ hb3) (fun hHeld => ?_)
          clear hK K
          (try simp only [Act.put, List.setIfInBounds_toArray, List.set_cons_zero, List.set_cons_succ])
          refine wpAnyH_take (i := 13) (v := ?_) rfl (by kernel_rfl) (by kernel_rfl) (by kernel_rfl) (fun _ _ _ h => h) (Or.inl ⟨by rfl, ?_⟩) (by assumption) ?_
          rotate_left
          · (intro w hSw; (try dsimp only at hSw); go_simp; try with_reducible rfl)
          (try simp only [Act.put, List.setIfInBounds_toArray, List.set_cons_zero, List.set_cons_succ])
          refine wpAnyH_take (i := 16) (v := ?_) rfl (by kernel_rfl) (by kernel_rfl) (by kernel_rfl) (fun _ _ _ h => h) (Or.inl ⟨by rfl, ?_⟩) (by assumption) ?_
          rotate_left
          · (intro w hSw; (try dsimp only at hSw); go_simp; try with_reducible rfl)
          (try simp only [Act.put, List.setIfInBounds_toArray, List.set_cons_zero, List.set_cons_succ])
          refine wpAnyH_ready (rs := [21]) (by kernel_rfl) (by simp) ?_
          refine AllReadyH.cons rfl (fun K hK => ?_) ?_
          · have hmk := HMK.out
            go_simp
            have HZ := Lib.hid (Zconv.new m w24)
            replace hb3 := hb3.alloc hb3.size (zrow m)
            clear hmk hHeld
            refine hK.out _ _ (HS.out _ hb3) (fun hHeld => ?_)
            clear hK K
            (try simp only [Act.put, List.setIfInBounds_toArray, List.set_cons_zero, List.set_cons_succ])
            generalize w24.heap.size = rb at HZ ⊢
            generalize w24.alloc (zrow m) = w9 at HZ hb3 hHeld ⊢
            refine wpAnyH_more (S' := fun W' => (W'.cell? ⟨eb, 0, none⟩ = some (.int .i64 pk) ∧ W'.cell? ⟨eb, 1, none⟩ = some (.int .i64 pn) ∧ W'.cell? ⟨eb, 2, none⟩ = some (.string pb)) ∧ Zconv m rb W') (fun _ h => h.1) _ _ _ _ ?_
            replace hHeld := And.intro hHeld HZ.out
            refine wpAnyH_take (i := 22) (v := ?_) rfl (by kernel_rfl) (by kernel_rfl) (by kernel_rfl) (fun _ _ _ h => h) (Or.inl ⟨by rfl, ?_⟩) (by assumption) ?_
            rotate_left
            · (intro w hSw; (try dsimp only at hSw); have hcv := Zconv.run hSw.2 a5 HA5.out; go_simp; try with_reducible rfl)
            (try simp only [Act.put, List.setIfInBounds_toArray, List.set_cons_zero, List.set_cons_succ])
            refine wpAnyH_take (i := 23) (v := ?_) rfl (by kernel_rfl) (by kernel_rfl) (by kernel_rfl) (fun _ _ _ h => h) (Or.inl ⟨by rfl, ?_⟩) (by assumption) ?_
            rotate_left
            · (intro w hSw; (try dsimp only at hSw); go_simp; try with_reducible rfl)
            (try simp only [Act.put, List.setIfInBounds_toArray, List.set_cons_zero, List.set_cons_succ])
            refine wpAnyH_take (i := 24) (v := ?_) rfl (by kernel_rfl) (by kernel_rfl) (by kernel_rfl) (fun _ _ _ h => h) (Or.inl ⟨by rfl, ?_⟩) (by assumption) ?_
            rotate_left
            · (intro w hSw; (try dsimp only at hSw); go_simp; try with_reducible rfl)
            (try simp only [Act.put, List.setIfInBounds_toArray, List.set_cons_zero, List.set_cons_succ])
            refine wpAnyH_done (by kernel_rfl) ?_ _
            clear HZ hHeld HS
            go_wp2_with (first
              | (go_at_call 26; with_reducible refine (refSum_any _ _ hall).mono ?_; rintro e w29 ⟨rfl, rfl⟩; rw [HS'.out])
              | (go_at_call 85; with_reducible refine (low_at _ _ _ hb3 c6 c7 T HT.out).mono ?_; rintro e w30 ⟨rfl, hb30⟩))
            go_ret2
            exact ⟨rfl, hbl.trans (hb30.mono hbl.size)⟩
          exact AllReadyH.nil
        refine AllReadyH.cons rfl (fun K hK => ?_) ?_
        · have hmk := HMK.out
          go_simp
          have HZ := Lib.hid (Zconv.new m w23)
          replace hb3 := hb3.alloc hb3.size (zrow m)
          clear hmk hHeld
          refine hK.out _ _ (HS.out _ hb3) (fun hHeld => ?_)
          clear hK K
          (try simp only [Act.put, List.setIfInBounds_toArray, List.set_cons_zero, List.set_cons_succ])
          generalize w23.heap.size = rb at HZ ⊢
          generalize w23.alloc (zrow m) = w9 at HZ hb3 hHeld ⊢
          refine wpAnyH_more (S' := fun W' => (W'.cell? ⟨eb, 0, none⟩ = some (.int .i64 pk) ∧ W'.cell? ⟨eb, 1, none⟩ = some (.int .i64 pn) ∧ W'.cell? ⟨eb, 2, none⟩ = some (.string pb)) ∧ Zconv m rb W') (fun _ h => h.1) _ _ _ _ ?_
          replace hHeld := And.intro hHeld HZ.out
          refine wpAnyH_take (i := 22) (v := ?_) rfl (by kernel_rfl) (by kernel_rfl) (by kernel_rfl) (fun _ _ _ h => h) (Or.inl ⟨by rfl, ?_⟩) (by assumption) ?_
          rotate_left
          · (intro w hSw; (try dsimp only at hSw); have hcv := Zconv.run hSw.2 a5 HA5.out; go_simp; try with_reducible rfl)
          (try simp only [Act.put, List.setIfInBounds_toArray, List.set_cons_zero, List.set_cons_succ])
          refine wpAnyH_ready (rs := [12]) (by kernel_rfl) (by simp) ?_
          refine AllReadyH.cons rfl (fun K hK => ?_) ?_
          · go_simp
            (with_reducible refine (wide_any pn 4 _ _ (Below.refl _ _) n1 c4 (by decide) (by decide) a4 HA4.out).mono ?_)
            rintro e w24 ⟨rfl, hb20⟩
            replace HZ := Lib.hid (HZ.out.below hb20)
            replace hb3 := hb3.trans (hb20.mono hb3.size)
            clear hb20 hHeld
            refine hK.out _ _ ⟨HS.out _ hb3, HZ.out⟩ (fun hHeld => ?_)
            clear hK K
            (try simp only [Act.put, List.setIfInBounds_toArray, List.set_cons_zero, List.set_cons_succ])
            refine wpAnyH_take (i := 13) (v := ?_) rfl (by kernel_rfl) (by kernel_rfl) (by kernel_rfl) (fun _ _ _ h => h) (Or.inl ⟨by rfl, ?_⟩) (by assumption) ?_
            rotate_left
            · (intro w hSw; (try dsimp only at hSw); go_simp; try with_reducible rfl)
            (try simp only [Act.put, List.setIfInBounds_toArray, List.set_cons_zero, List.set_cons_succ])
            refine wpAnyH_take (i := 16) (v := ?_) rfl (by kernel_rfl) (by kernel_rfl) (by kernel_rfl) (fun _ _ _ h => h) (Or.inl ⟨by rfl, ?_⟩) (by assumption) ?_
            rotate_left
            · (intro w hSw; (try dsimp only at hSw); go_simp; try with_reducible rfl)
            (try simp only [Act.put, List.setIfInBounds_toArray, List.set_cons_zero, List.set_cons_succ])
            refine wpAnyH_take (i := 23) (v := ?_) rfl (by kernel_rfl) (by kernel_rfl) (by kernel_rfl) (fun _ _ _ h => h) (Or.inl ⟨by rfl, ?_⟩) (by assumption) ?_
            rotate_left
            · (intro w hSw; (try dsimp only at hSw); go_simp; try with_reducible rfl)
            (try simp only [Act.put, List.setIfInBounds_toArray, List.set_cons_zero, List.set_cons_succ])
            refine wpAnyH_take (i := 24) (v := ?_) rfl (by kernel_rfl) (by kernel_rfl) (by kernel_rfl) (fun _ _ _ h => h) (Or.inl ⟨by rfl, ?_⟩) (by assumption) ?_
            rotate_left
            · (intro w hSw; (try dsimp only at hSw); go_simp; try with_reducible rfl)
            (try simp only [Act.put, List.setIfInBounds_toArray, List.set_cons_zero, List.set_cons_succ])
            refine wpAnyH_done (by kernel_rfl) ?_ _
            clear HZ hHeld HS
            go_wp2_with (first
              | (go_at_call 26; with_reducible refine (refSum_any _ _ hall).mono ?_; rintro e w29 ⟨rfl, rfl⟩; rw [HS'.out])
              | (go_at_call 85; with_reducible refine (low_at _ _ _ hb3 c6 c7 T HT.out).mono ?_; rintro e w30 ⟨rfl, hb30⟩))
            go_ret2
            exact ⟨rfl, hbl.trans (hb30.mono hbl.size)⟩
          exact AllReadyH.nil
        exact AllReadyH.nil
      refine AllReadyH.cons rfl (fun K hK => ?_) ?_
      · have hmk := HMK.out
        go_simp
        have HZ := Lib.hid (Zconv.new m w22)
        replace hb3 := hb3.alloc hb3.size (zrow m)
        clear hmk hHeld
        refine hK.out _ _ (HS.out _ hb3) (fun hHeld => ?_)
        clear hK K
        (try simp only [Act.put, List.setIfInBounds_toArray, List.set_cons_zero, List.set_cons_succ])
        generalize w22.heap.size = rb at HZ ⊢
        generalize w22.alloc (zrow m) = w9 at HZ hb3 hHeld ⊢
        refine wpAnyH_more (S' := fun W' => (W'.cell? ⟨eb, 0, none⟩ = some (.int .i64 pk) ∧ W'.cell? ⟨eb, 1, none⟩ = some (.int .i64 pn) ∧ W'.cell? ⟨eb, 2, none⟩ = some (.string pb)) ∧ Zconv m rb W') (fun _ h => h.1) _ _ _ _ ?_
        replace hHeld := And.intro hHeld HZ.out
        refine wpAnyH_take (i := 22) (v := ?_) rfl (by kernel_rfl) (by kernel_rfl) (by kernel_rfl) (fun _ _ _ h => h) (Or.inl ⟨by rfl, ?_⟩) (by assumption) ?_
        rotate_left
        · (intro w hSw; (try dsimp only at hSw); have hcv := Zconv.run hSw.2 a5 HA5.out; go_simp; try with_reducible rfl)
        (try simp only [Act.put, List.setIfInBounds_toArray, List.set_cons_zero, List.set_cons_succ])
        refine wpAnyH_ready (rs := [8]) (by kernel_rfl) (by simp) ?_
        refine AllReadyH.cons rfl (fun K hK => ?_) ?_
        · go_simp
          (with_reducible refine (wide_any (pb.size : Int) 2 _ _ (Below.refl _ _) c1 c2 (by decide) (by decide) a3 HA3.out).mono ?_)
          rintro e w23 ⟨rfl, hb20⟩
          replace HZ := Lib.hid (HZ.out.below hb20)
          replace hb3 := hb3.trans (hb20.mono hb3.size)
          clear hb20 hHeld
          refine hK.out _ _ ⟨HS.out _ hb3, HZ.out⟩ (fun hHeld => ?_)
          clear hK K
          (try simp only [Act.put, List.setIfInBounds_toArray, List.set_cons_zero, List.set_cons_succ])
          refine wpAnyH_take (i := 9) (v := ?_) rfl (by kernel_rfl) (by kernel_rfl) (by kernel_rfl) (fun _ _ _ h => h) (Or.inl ⟨by rfl, ?_⟩) (by assumption) ?_
          rotate_left
          · (intro w hSw; (try dsimp only at hSw); go_simp; try with_reducible rfl)
          (try simp only [Act.put, List.setIfInBounds_toArray, List.set_cons_zero, List.set_cons_succ])
          refine wpAnyH_ready (rs := [12]) (by kernel_rfl) (by simp) ?_
          refine AllReadyH.cons rfl (fun K hK => ?_) ?_
          · go_simp
            (with_reducible refine (wide_any pn 4 _ _ (Below.refl _ _) n1 c4 (by decide) (by decide) a4 HA4.out).mono ?_)
            rintro e w24 ⟨rfl, hb20⟩
            replace HZ := Lib.hid (HZ.out.below hb20)
            replace hb3 := hb3.trans (hb20.mono hb3.size)
            clear hb20 hHeld
            refine hK.out _ _ ⟨HS.out _ hb3, HZ.out⟩ (fun hHeld => ?_)
            clear hK K
            (try simp only [Act.put, List.setIfInBounds_toArray, List.set_cons_zero, List.set_cons_succ])
            refine wpAnyH_take (i := 13) (v := ?_) rfl (by kernel_rfl) (by kernel_rfl) (by kernel_rfl) (fun _ _ _ h => h) (Or.inl ⟨by rfl, ?_⟩) (by assumption) ?_
            rotate_left
            · (intro w hSw; (try dsimp only at hSw); go_simp; try with_reducible rfl)
            (try simp only [Act.put, List.setIfInBounds_toArray, List.set_cons_zero, List.set_cons_succ])
            refine wpAnyH_take (i := 16) (v := ?_) rfl (by kernel_rfl) (by kernel_rfl) (by kernel_rfl) (fun _ _ _ h => h) (Or.inl ⟨by rfl, ?_⟩) (by assumption) ?_
            rotate_left
            · (intro w hSw; (try dsimp only at hSw); go_simp; try with_reducible rfl)
            (try simp only [Act.put, List.setIfInBounds_toArray, List.set_cons_zero, List.set_cons_succ])
            refine wpAnyH_take (i := 23) (v := ?_) rfl (by kernel_rfl) (by kernel_rfl) (by kernel_rfl) (fun _ _ _ h => h) (Or.inl ⟨by rfl, ?_⟩) (by assumption) ?_
            rotate_left
            · (intro w hSw; (try dsimp only at hSw); go_simp; try with_reducible rfl)
            (try simp only [Act.put, List.setIfInBounds_toArray, List.set_cons_zero, List.set_cons_succ])
            refine wpAnyH_take (i := 24) (v := ?_) rfl (by kernel_rfl) (by kernel_rfl) (by kernel_rfl) (fun _ _ _ h => h) (Or.inl ⟨by rfl, ?_⟩) (by assumption) ?_
            rotate_left
            · (intro w hSw; (try dsimp only at hSw); go_simp; try with_reducible rfl)
            (try simp only [Act.put, List.setIfInBounds_toArray, List.set_cons_zero, List.set_cons_succ])
            refine wpAnyH_done (by kernel_rfl) ?_ _
            clear HZ hHeld HS
            go_wp2_with (first
              | (go_at_call 26; with_reducible refine (refSum_any _ _ hall).mono ?_; rintro e w29 ⟨rfl, rfl⟩; rw [HS'.out])
              | (go_at_call 85; with_reducible refine (low_at _ _ _ hb3 c6 c7 T HT.out).mono ?_; rintro e w30 ⟨rfl, hb30⟩))
            go_ret2
            exact ⟨rfl, hbl.trans (hb30.mono hbl.size)⟩
          exact AllReadyH.nil
        exact AllReadyH.nil
      exact AllReadyH.nil
    refine AllReadyH.cons rfl (fun K hK => ?_) ?_
    · have hmk := HMK.out
      go_simp
      have HZ := Lib.hid (Zconv.new m w21)
      replace hb3 := hb3.alloc hb3.size (zrow m)
      clear hmk hHeld
      refine hK.out _ _ (HS.out _ hb3) (fun hHeld => ?_)
      clear hK K
      (try simp only [Act.put, List.setIfInBounds_toArray, List.set_cons_zero, List.set_cons_succ])
      generalize w21.heap.size = rb at HZ ⊢
      generalize w21.alloc (zrow m) = w9 at HZ hb3 hHeld ⊢
      refine wpAnyH_more (S' := fun W' => (W'.cell? ⟨eb, 0, none⟩ = some (.int .i64 pk) ∧ W'.cell? ⟨eb, 1, none⟩ = some (.int .i64 pn) ∧ W'.cell? ⟨eb, 2, none⟩ = some (.string pb)) ∧ Zconv m rb W') (fun _ h => h.1) _ _ _ _ ?_
      replace hHeld := And.intro hHeld HZ.out
      refine wpAnyH_take (i := 22) (v := ?_) rfl (by kernel_rfl) (by kernel_rfl) (by kernel_rfl) (fun _ _ _ h => h) (Or.inl ⟨by rfl, ?_⟩) (by assumption) ?_
      rotate_left
      · (intro w hSw; (try dsimp only at hSw); have hcv := Zconv.run hSw.2 a5 HA5.out; go_simp; try with_reducible rfl)
      (try simp only [Act.put, List.setIfInBounds_toArray, List.set_cons_zero, List.set_cons_succ])
      refine wpAnyH_ready (rs := [3]) (by kernel_rfl) (by simp) ?_
      refine AllReadyH.cons rfl (fun K hK => ?_) ?_
      · go_simp
        (with_reducible refine (wide_any 0 1 _ _ (Below.refl _ _) (Int.le_refl _) (by decide) (by decide) (by decide) a2 HA2.out).mono ?_)
        rintro e w22 ⟨rfl, hb20⟩
        replace HZ := Lib.hid (HZ.out.below hb20)
        replace hb3 := hb3.trans (hb20.mono hb3.size)
        clear hb20 hHeld
        refine hK.out _ _ ⟨HS.out _ hb3, HZ.out⟩ (fun hHeld => ?_)
        clear hK K
        (try simp only [Act.put, List.setIfInBounds_toArray, List.set_cons_zero, List.set_cons_succ])
        refine wpAnyH_take (i := 4) (v := ?_) rfl (by kernel_rfl) (by kernel_rfl) (by kernel_rfl) (fun _ _ _ h => h) (Or.inl ⟨by rfl, ?_⟩) (by assumption) ?_
        rotate_left
        · (intro w hSw; (try dsimp only at hSw); go_simp; try with_reducible rfl)
        (try simp only [Act.put, List.setIfInBounds_toArray, List.set_cons_zero, List.set_cons_succ])
        refine wpAnyH_ready (rs := [8]) (by kernel_rfl) (by simp) ?_
        refine AllReadyH.cons rfl (fun K hK => ?_) ?_
        · go_simp
          (with_reducible refine (wide_any (pb.size : Int) 2 _ _ (Below.refl _ _) c1 c2 (by decide) (by decide) a3 HA3.out).mono ?_)
          rintro e w23 ⟨rfl, hb20⟩
          replace HZ := Lib.hid (HZ.out.below hb20)
          replace hb3 := hb3.trans (hb20.mono hb3.size)
          clear hb20 hHeld
          refine hK.out _ _ ⟨HS.out _ hb3, HZ.out⟩ (fun hHeld => ?_)
          clear hK K
          (try simp only [Act.put, List.setIfInBounds_toArray, List.set_cons_zero, List.set_cons_succ])
          refine wpAnyH_take (i := 9) (v := ?_) rfl (by kernel_rfl) (by kernel_rfl) (by kernel_rfl) (fun _ _ _ h => h) (Or.inl ⟨by rfl, ?_⟩) (by assumption) ?_
          rotate_left
          · (intro w hSw; (try dsimp only at hSw); go_simp; try with_reducible rfl)
          (try simp only [Act.put, List.setIfInBounds_toArray, List.set_cons_zero, List.set_cons_succ])
          refine wpAnyH_ready (rs := [12]) (by kernel_rfl) (by simp) ?_
          refine AllReadyH.cons rfl (fun K hK => ?_) ?_
          · go_simp
            (with_reducible refine (wide_any pn 4 _ _ (Below.refl _ _) n1 c4 (by decide) (by decide) a4 HA4.out).mono ?_)
            rintro e w24 ⟨rfl, hb20⟩
            replace HZ := Lib.hid (HZ.out.below hb20)
            replace hb3 := hb3.trans (hb20.mono hb3.size)
            clear hb20 hHeld
            refine hK.out _ _ ⟨HS.out _ hb3, HZ.out⟩ (fun hHeld => ?_)
            clear hK K
            (try simp only [Act.put, List.setIfInBounds_toArray, List.set_cons_zero, List.set_cons_succ])
            refine wpAnyH_take (i := 13) (v := ?_) rfl (by kernel_rfl) (by kernel_rfl) (by kernel_rfl) (fun _ _ _ h => h) (Or.inl ⟨by rfl, ?_⟩) (by assumption) ?_
            rotate_left
            · (intro w hSw; (try dsimp only at hSw); go_simp; try with_reducible rfl)
            (try simp only [Act.put, List.setIfInBounds_toArray, List.set_cons_zero, List.set_cons_succ])
            refine wpAnyH_take (i := 16) (v := ?_) rfl (by kernel_rfl) (by kernel_rfl) (by kernel_rfl) (fun _ _ _ h => h) (Or.inl ⟨by rfl, ?_⟩) (by assumption) ?_
            rotate_left
            · (intro w hSw; (try dsimp only at hSw); go_simp; try with_reducible rfl)
            (try simp only [Act.put, List.setIfInBounds_toArray, List.set_cons_zero, List.set_cons_succ])
            refine wpAnyH_take (i := 23) (v := ?_) rfl (by kernel_rfl) (by kernel_rfl) (by kernel_rfl) (fun _ _ _ h => h) (Or.inl ⟨by rfl, ?_⟩) (by assumption) ?_
            rotate_left
            · (intro w hSw; (try dsimp only at hSw); go_simp; try with_reducible rfl)
            (try simp only [Act.put, List.setIfInBounds_toArray, List.set_cons_zero, List.set_cons_succ])
            refine wpAnyH_take (i := 24) (v := ?_) rfl (by kernel_rfl) (by kernel_rfl) (by kernel_rfl) (fun _ _ _ h => h) (Or.inl ⟨by rfl, ?_⟩) (by assumption) ?_
            rotate_left
            · (intro w hSw; (try dsimp only at hSw); go_simp; try with_reducible rfl)
            (try simp only [Act.put, List.setIfInBounds_toArray, List.set_cons_zero, List.set_cons_succ])
            refine wpAnyH_done (by kernel_rfl) ?_ _
            clear HZ hHeld HS
            go_wp2_with (first
              | (go_at_call 26; with_reducible refine (refSum_any _ _ hall).mono ?_; rintro e w29 ⟨rfl, rfl⟩; rw [HS'.out])
              | (go_at_call 85; with_reducible refine (low_at _ _ _ hb3 c6 c7 T HT.out).mono ?_; rintro e w30 ⟨rfl, hb30⟩))
            go_ret2
            exact ⟨rfl, hbl.trans (hb30.mono hbl.size)⟩
          exact AllReadyH.nil
        exact AllReadyH.nil
      exact AllReadyH.nil
    exact AllReadyH.nil
  refine AllReadyH.cons rfl (fun K hK => ?_) ?_
  · have hmk := HMK.out
    go_simp
    have HZ := Lib.hid (Zconv.new m w20)
    replace hb3 := hb3.alloc hb3.size (zrow m)
    clear hmk hHeld
    refine hK.out _ _ (HS.out _ hb3) (fun hHeld => ?_)
    clear hK K
    (try simp only [Act.put, List.setIfInBounds_toArray, List.set_cons_zero, List.set_cons_succ])
    generalize w20.heap.size = rb at HZ ⊢
    generalize w20.alloc (zrow m) = w9 at HZ hb3 hHeld ⊢
    refine wpAnyH_more (S' := fun W' => (W'.cell? ⟨eb, 0, none⟩ = some (.int .i64 pk) ∧ W'.cell? ⟨eb, 1, none⟩ = some (.int .i64 pn) ∧ W'.cell? ⟨eb, 2, none⟩ = some (.string pb)) ∧ Zconv m rb W') (fun _ h => h.1) _ _ _ _ ?_
    replace hHeld := And.intro hHeld HZ.out
    refine wpAnyH_take (i := 22) (v := ?_) rfl (by kernel_rfl) (by kernel_rfl) (by kernel_rfl) (fun _ _ _ h => h) (Or.inl ⟨by rfl, ?_⟩) (by assumption) ?_
    rotate_left
    · (intro w hSw; (try dsimp only at hSw); have hcv := Zconv.run hSw.2 a5 HA5.out; go_simp; try with_reducible rfl)
    (try simp only [Act.put, List.setIfInBounds_toArray, List.set_cons_zero, List.set_cons_succ])
    refine wpAnyH_ready (rs := [2]) (by kernel_rfl) (by simp) ?_
    refine AllReadyH.cons rfl (fun K hK => ?_) ?_
    · go_simp
      (with_reducible refine (wide_any pk 1 _ _ (Below.refl _ _) c5 c3 (by decide) (by decide) a1 HA1.out).mono ?_)
      rintro e w21 ⟨rfl, hb20⟩
      replace HZ := Lib.hid (HZ.out.below hb20)
      replace hb3 := hb3.trans (hb20.mono hb3.size)
      clear hb20 hHeld
      refine hK.out _ _ ⟨HS.out _ hb3, HZ.out⟩ (fun hHeld => ?_)
      clear hK K
      (try simp only [Act.put, List.setIfInBounds_toArray, List.set_cons_zero, List.set_cons_succ])
      refine wpAnyH_ready (rs := [3]) (by kernel_rfl) (by simp) ?_
      refine AllReadyH.cons rfl (fun K hK => ?_) ?_
      · go_simp
        (with_reducible refine (wide_any 0 1 _ _ (Below.refl _ _) (Int.le_refl _) (by decide) (by decide) (by decide) a2 HA2.out).mono ?_)
        rintro e w22 ⟨rfl, hb20⟩
        replace HZ := Lib.hid (HZ.out.below hb20)
        replace hb3 := hb3.trans (hb20.mono hb3.size)
        clear hb20 hHeld
        refine hK.out _ _ ⟨HS.out _ hb3, HZ.out⟩ (fun hHeld => ?_)
        clear hK K
        (try simp only [Act.put, List.setIfInBounds_toArray, List.set_cons_zero, List.set_cons_succ])
        refine wpAnyH_take (i := 4) (v := ?_) rfl (by kernel_rfl) (by kernel_rfl) (by kernel_rfl) (fun _ _ _ h => h) (Or.inl ⟨by rfl, ?_⟩) (by assumption) ?_
        rotate_left
        · (intro w hSw; (try dsimp only at hSw); go_simp; try with_reducible rfl)
        (try simp only [Act.put, List.setIfInBounds_toArray, List.set_cons_zero, List.set_cons_succ])
        refine wpAnyH_ready (rs := [8]) (by kernel_rfl) (by simp) ?_
        refine AllReadyH.cons rfl (fun K hK => ?_) ?_
        · go_simp
          (with_reducible refine (wide_any (pb.size : Int) 2 _ _ (Below.refl _ _) c1 c2 (by decide) (by decide) a3 HA3.out).mono ?_)
          rintro e w23 ⟨rfl, hb20⟩
          replace HZ := Lib.hid (HZ.out.below hb20)
          replace hb3 := hb3.trans (hb20.mono hb3.size)
          clear hb20 hHeld
          refine hK.out _ _ ⟨HS.out _ hb3, HZ.out⟩ (fun hHeld => ?_)
          clear hK K
          (try simp only [Act.put, List.setIfInBounds_toArray, List.set_cons_zero, List.set_cons_succ])
          refine wpAnyH_take (i := 9) (v := ?_) rfl (by kernel_rfl) (by kernel_rfl) (by kernel_rfl) (fun _ _ _ h => h) (Or.inl ⟨by rfl, ?_⟩) (by assumption) ?_
          rotate_left
          · (intro w hSw; (try dsimp only at hSw); go_simp; try with_reducible rfl)
          (try simp only [Act.put, List.setIfInBounds_toArray, List.set_cons_zero, List.set_cons_succ])
          refine wpAnyH_ready (rs := [12]) (by kernel_rfl) (by simp) ?_
          refine AllReadyH.cons rfl (fun K hK => ?_) ?_
          · go_simp
            (with_reducible refine (wide_any pn 4 _ _ (Below.refl _ _) n1 c4 (by decide) (by decide) a4 HA4.out).mono ?_)
            rintro e w24 ⟨rfl, hb20⟩
            replace HZ := Lib.hid (HZ.out.below hb20)
            replace hb3 := hb3.trans (hb20.mono hb3.size)
            clear hb20 hHeld
            refine hK.out _ _ ⟨HS.out _ hb3, HZ.out⟩ (fun hHeld => ?_)
            clear hK K
            (try simp only [Act.put, List.setIfInBounds_toArray, List.set_cons_zero, List.set_cons_succ])
            refine wpAnyH_take (i := 13) (v := ?_) rfl (by kernel_rfl) (by kernel_rfl) (by kernel_rfl) (fun _ _ _ h => h) (Or.inl ⟨by rfl, ?_⟩) (by assumption) ?_
            rotate_left
            · (intro w hSw; (try dsimp only at hSw); go_simp; try with_reducible rfl)
            (try simp only [Act.put, List.setIfInBounds_toArray, List.set_cons_zero, List.set_cons_succ])
            refine wpAnyH_take (i := 16) (v := ?_) rfl (by kernel_rfl) (by kernel_rfl) (by kernel_rfl) (fun _ _ _ h => h) (Or.inl ⟨by rfl, ?_⟩) (by assumption) ?_
            rotate_left
            · (intro w hSw; (try dsimp only at hSw); go_simp; try with_reducible rfl)
            (try simp only [Act.put, List.setIfInBounds_toArray, List.set_cons_zero, List.set_cons_succ])
            refine wpAnyH_take (i := 23) (v := ?_) rfl (by kernel_rfl) (by kernel_rfl) (by kernel_rfl) (fun _ _ _ h => h) (Or.inl ⟨by rfl, ?_⟩) (by assumption) ?_
            rotate_left
            · (intro w hSw; (try dsimp only at hSw); go_simp; try with_reducible rfl)
            (try simp only [Act.put, List.setIfInBounds_toArray, List.set_cons_zero, List.set_cons_succ])
            refine wpAnyH_take (i := 24) (v := ?_) rfl (by kernel_rfl) (by kernel_rfl) (by kernel_rfl) (fun _ _ _ h => h) (Or.inl ⟨by rfl, ?_⟩) (by assumption) ?_
            rotate_left
            · (intro w hSw; (try dsimp only at hSw); go_simp; try with_reducible rfl)
            (try simp only [Act.put, List.setIfInBounds_toArray, List.set_cons_zero, List.set_cons_succ])
            refine wpAnyH_done (by kernel_rfl) ?_ _
            clear HZ hHeld HS
            go_wp2_with (first
              | (go_at_call 26; with_reducible refine (refSum_any _ _ hall).mono ?_; rintro e w29 ⟨rfl, rfl⟩; rw [HS'.out])
              | (go_at_call 85; with_reducible refine (low_at _ _ _ hb3 c6 c7 T HT.out).mono ?_; rintro e w30 ⟨rfl, hb30⟩))
            go_ret2
            exact ⟨rfl, hbl.trans (hb30.mono hbl.size)⟩
          exact AllReadyH.nil
        exact AllReadyH.nil
      exact AllReadyH.nil
    exact AllReadyH.nil
  exact AllReadyH.nil
theorem rseal_any (pk pn : Int) (pb : ByteArray) (w w0 : World) (hb : Below w0.heap.size w0 w) (S : ByteArray) (F : Int) (hS : S = sealS ⟨pk, pn, pb⟩) (hF : F = mayI ⟨pk, pn, pb⟩) :
    Calls Try.prog 63 #[.agg #[.int .i64 pk, .int .i64 pn, .string pb]] w fun r w' => r = .returned (.tuple #[.string S, .int .i64 F]) ∧ Below w0.heap.size w0 w' := by
  by_cases h : May ⟨pk, pn, pb⟩
  · rw [hS, hF, (may_yes h).1, (may_yes h).2]
    exact (rseal_ok pk pn pb w h).mono fun _ _ ⟨a, b⟩ => ⟨a, hb.trans (b.mono hb.size)⟩
  · rw [hS, hF, (may_no h).1, (may_no h).2]
    exact (rseal_not pk pn pb w h).mono fun _ _ ⟨a, b⟩ => ⟨a, hb.trans (b.mono hb.size)⟩
end Go.Proofs.Ytmibbklafogbkaa
