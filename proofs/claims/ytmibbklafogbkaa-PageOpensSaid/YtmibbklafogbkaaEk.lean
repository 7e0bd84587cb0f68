/- The entry layer: may an entry be, by the document (cadastreref06.Check, 55)? -/
import Derived.Test.YtmibbklafogbkaaEe
namespace Go.Proofs.Ytmibbklafogbkaa
open Go.RowKit
open Fld
set_option maxRecDepth 100000 in
set_option maxHeartbeats 4000000 in
theorem rcheck_bad (tx ix pk pn cnt sum : Int) (pb : ByteArray) (w : World) (kind : Int) (h : tx < 1 ∨ (1 ≤ tx ∧ 4294967295 < tx) ∨ (1 ≤ tx ∧ tx ≤ 4294967295 ∧ ix < 0) ∨ (1 ≤ tx ∧ tx ≤ 4294967295 ∧ 0 ≤ ix ∧ 999 < ix)) :
    Calls Try.prog 55 #[.agg #[.int .i64 kind, .int .i64 tx, .int .i64 ix, .int .i64 pk, .int .i64 pn, .string pb, .int .i64 cnt, .int .u32 sum]] w fun e w' => e = .returned (.int .i64 (chkI ⟨kind, tx, ix, pk, pn, pb, cnt, sum⟩)) ∧ Below w.heap.size w w' := by
  have h0 : Below w.heap.size w w := Below.refl _ _
  obtain ⟨R, HR⟩ : ∃ R, Hid (R = chkI ⟨kind, tx, ix, pk, pn, pb, cnt, sum⟩) := ⟨_, Lib.hid rfl⟩
  rw [← HR.out]
  rcases h with t1 | ⟨t1, t2⟩ | ⟨t1, t2, t3⟩ | ⟨t1, t2, t3, t4⟩
  all_goals
    go_enter Try.func55, Try.ntmps55
    go_upto_region 1 with (refine wpList_boxArr rfl 74 _ rfl _ rfl ?_; intro W1 hW1 hg1 hz1; obtain ⟨d0, d1, d2, d3, d4, d5, d6, d7⟩ := Row8.of hW1; have l1 : w.heap.size < W1.heap.size := (Array.getElem?_eq_some_iff.1 hW1).1; clear hW1 hz1)
    go_upto_region 3 with (fail)
    have hn := heap_alloc_new W1 (Obj.cells #[Value.int IntKind.i64 pk, Value.int IntKind.i64 pn, Value.string pb] 72)
    have hA : Below W1.heap.size W1 (W1.alloc (Obj.cells #[Value.int IntKind.i64 pk, Value.int IntKind.i64 pn, Value.string pb] 72)) := (Below.refl _ _).alloc (Nat.le_refl _) _
    have hb : Below w.heap.size w (W1.alloc (Obj.cells #[Value.int IntKind.i64 pk, Value.int IntKind.i64 pn, Value.string pb] 72)) := (h0.grown hg1 (Nat.le_refl _) (by simp)).alloc hg1.size _
    have R8 := (Row8.mk d0 d1 d2 d3 d4 d5 d6 d7).below hA l1
    clear hA d0 d1 d2 d3 d4 d5 d6 d7 l1 hg1
    generalize W1.heap.size = pbk at hn ⊢
    generalize W1.alloc (Obj.cells #[Value.int IntKind.i64 pk, Value.int IntKind.i64 pn, Value.string pb] 72) = W2 at hn hb R8 ⊢
    obtain ⟨d0, d1, d2, d3, d4, d5, d6, d7⟩ := R8
    have p0 := cell_of_row _ _ 0 _ _ _ hn
    have p1' := cell_of_row _ _ 1 _ _ _ hn
    have p2' := cell_of_row _ _ 2 _ _ _ hn
    simp at p0 p1' p2'
    clear hn
    go_wp2
    all_goals
      go_ret
      rw [HR.out]
      exact ⟨chk_no (by unfold Ent.Ok Staged; simp only; omega), hb⟩
set_option maxRecDepth 100000 in
set_option maxHeartbeats 4000000 in
theorem rcheck_1 (tx ix pk pn cnt sum : Int) (pb : ByteArray) (w : World) (t1 : 1 ≤ tx) (t2 : tx ≤ 4294967295) (t3 : 0 ≤ ix) (t4 : ix ≤ 999) :
    Calls Try.prog 55 #[.agg #[.int .i64 1, .int .i64 tx, .int .i64 ix, .int .i64 pk, .int .i64 pn, .string pb, .int .i64 cnt, .int .u32 sum]] w fun e w' => e = .returned (.int .i64 (chkI ⟨1, tx, ix, pk, pn, pb, cnt, sum⟩)) ∧ Below w.heap.size w w' := by
  have h0 : Below w.heap.size w w := Below.refl _ _
  obtain ⟨R, HR⟩ : ∃ R, Hid (R = chkI ⟨1, tx, ix, pk, pn, pb, cnt, sum⟩) := ⟨_, Lib.hid rfl⟩
  rw [← HR.out]
  go_enter Try.func55, Try.ntmps55
  go_upto_region 1 with (refine wpList_boxArr rfl 74 _ rfl _ rfl ?_; intro W1 hW1 hg1 hz1; obtain ⟨d0, d1, d2, d3, d4, d5, d6, d7⟩ := Row8.of hW1; have l1 : w.heap.size < W1.heap.size := (Array.getElem?_eq_some_iff.1 hW1).1; clear hW1 hz1)
  go_upto_region 3 with (fail)
  have hn := heap_alloc_new W1 (Obj.cells #[Value.int IntKind.i64 pk, Value.int IntKind.i64 pn, Value.string pb] 72)
  have hA : Below W1.heap.size W1 (W1.alloc (Obj.cells #[Value.int IntKind.i64 pk, Value.int IntKind.i64 pn, Value.string pb] 72)) := (Below.refl _ _).alloc (Nat.le_refl _) _
  have hb : Below w.heap.size w (W1.alloc (Obj.cells #[Value.int IntKind.i64 pk, Value.int IntKind.i64 pn, Value.string pb] 72)) := (h0.grown hg1 (Nat.le_refl _) (by simp)).alloc hg1.size _
  have R8 := (Row8.mk d0 d1 d2 d3 d4 d5 d6 d7).below hA l1
  clear hA d0 d1 d2 d3 d4 d5 d6 d7 l1 hg1
  generalize W1.heap.size = pbk at hn ⊢
  generalize W1.alloc (Obj.cells #[Value.int IntKind.i64 pk, Value.int IntKind.i64 pn, Value.string pb] 72) = W2 at hn hb R8 ⊢
  obtain ⟨d0, d1, d2, d3, d4, d5, d6, d7⟩ := R8
  have p0 := cell_of_row _ _ 0 _ _ _ hn
  have p1' := cell_of_row _ _ 1 _ _ _ hn
  have p2' := cell_of_row _ _ 2 _ _ _ hn
  simp at p0 p1' p2'
  clear hn
  go_upto_region 6 with (fail)
  rcases (show pk < 0 ∨ 0 ≤ pk by omega) with p1 | p1
  · go_wp2
    go_ret
    rw [HR.out]
    exact ⟨chk_no (by unfold Ent.Ok Staged; simp only; omega), hb⟩
  rcases (show 4 < pk ∨ pk ≤ 4 by omega) with p2 | p2
  · go_wp2
    go_ret
    rw [HR.out]
    exact ⟨chk_no (by unfold Ent.Ok Staged; simp only; omega), hb⟩
  rcases (show pn < 0 ∨ 0 ≤ pn by omega) with p3 | p3
  · go_wp2
    go_ret
    rw [HR.out]
    exact ⟨chk_no (by unfold Ent.Ok Staged; simp only; omega), hb⟩
  rcases (show 999 < pn ∨ pn ≤ 999 by omega) with p4 | p4
  · go_wp2
    go_ret
    rw [HR.out]
    exact ⟨chk_no (by unfold Ent.Ok Staged; simp only; omega), hb⟩
  rcases (show (230 : Int) < pb.size ∨ (pb.size : Int) ≤ 230 by omega) with p5 | p5
  · go_wp2
    go_ret
    rw [HR.out]
    exact ⟨chk_no (by unfold Ent.Ok Staged; simp only; omega), hb⟩
  by_cases q : 0 < pk
  · by_cases c1 : cnt = 0
    rotate_left
    · have b1 : (cnt == 0) = false := beq_eq_false_iff_ne.2 c1
      go_wp2
      go_ret
      rw [HR.out]
      exact ⟨chk_no (by unfold Ent.Ok Staged; simp only; omega), hb⟩
    by_cases c2 : sum = 0
    rotate_left
    · subst c1
      have b1 : (sum == 0) = false := beq_eq_false_iff_ne.2 c2
      go_wp2
      go_ret
      rw [HR.out]
      exact ⟨chk_no (by unfold Ent.Ok Staged; simp only; omega), hb⟩
    subst c1
    subst c2
    go_wp2
    go_ret
    rw [HR.out]
    exact ⟨chk_yes ⟨t1, t2, t3, t4, .inl ⟨rfl, ⟨p1, by simp only; omega, p3, by simp only; omega, by simp only; omega, by simp only; omega⟩, rfl, rfl⟩⟩, hb⟩
  have q0 : pk = 0 := by omega
  subst q0
  by_cases z : pb.size = 0
  · have z' := z
    rw [← empty_size] at z'
    subst z'
    by_cases c1 : cnt = 0
    rotate_left
    · have b1 : (cnt == 0) = false := beq_eq_false_iff_ne.2 c1
      go_wp2
      go_ret
      rw [HR.out]
      exact ⟨chk_no (by unfold Ent.Ok Staged; simp only; omega), hb⟩
    by_cases c2 : sum = 0
    rotate_left
    · subst c1
      have b1 : (sum == 0) = false := beq_eq_false_iff_ne.2 c2
      go_wp2
      go_ret
      rw [HR.out]
      exact ⟨chk_no (by unfold Ent.Ok Staged; simp only; omega), hb⟩
    subst c1
    subst c2
    go_wp2
    go_ret
    rw [HR.out]
    exact ⟨chk_yes ⟨t1, t2, t3, t4, .inl ⟨rfl, ⟨by simp, by simp, p3, by simp only; omega, by simp, by simp⟩, rfl, rfl⟩⟩, hb⟩
  · have z8 := no_size (show 0 < pb.size by omega)
    go_wp2
    go_ret
    rw [HR.out]
    exact ⟨chk_no (by unfold Ent.Ok Staged; simp only; omega), hb⟩
set_option maxRecDepth 100000 in
set_option maxHeartbeats 4000000 in
theorem rcheck_2 (tx ix pk pn cnt sum : Int) (pb : ByteArray) (w : World) (t1 : 1 ≤ tx) (t2 : tx ≤ 4294967295) (t3 : 0 ≤ ix) (t4 : ix ≤ 999) :
    Calls Try.prog 55 #[.agg #[.int .i64 2, .int .i64 tx, .int .i64 ix, .int .i64 pk, .int .i64 pn, .string pb, .int .i64 cnt, .int .u32 sum]] w fun e w' => e = .returned (.int .i64 (chkI ⟨2, tx, ix, pk, pn, pb, cnt, sum⟩)) ∧ Below w.heap.size w w' := by
  have h0 : Below w.heap.size w w := Below.refl _ _
  obtain ⟨R, HR⟩ : ∃ R, Hid (R = chkI ⟨2, tx, ix, pk, pn, pb, cnt, sum⟩) := ⟨_, Lib.hid rfl⟩
  rw [← HR.out]
  go_enter Try.func55, Try.ntmps55
  go_upto_region 1 with (refine wpList_boxArr rfl 74 _ rfl _ rfl ?_; intro W1 hW1 hg1 hz1; obtain ⟨d0, d1, d2, d3, d4, d5, d6, d7⟩ := Row8.of hW1; have l1 : w.heap.size < W1.heap.size := (Array.getElem?_eq_some_iff.1 hW1).1; clear hW1 hz1)
  go_upto_region 3 with (fail)
  have hn := heap_alloc_new W1 (Obj.cells #[Value.int IntKind.i64 pk, Value.int IntKind.i64 pn, Value.string pb] 72)
  have hA : Below W1.heap.size W1 (W1.alloc (Obj.cells #[Value.int IntKind.i64 pk, Value.int IntKind.i64 pn, Value.string pb] 72)) := (Below.refl _ _).alloc (Nat.le_refl _) _
  have hb : Below w.heap.size w (W1.alloc (Obj.cells #[Value.int IntKind.i64 pk, Value.int IntKind.i64 pn, Value.string pb] 72)) := (h0.grown hg1 (Nat.le_refl _) (by simp)).alloc hg1.size _
  have R8 := (Row8.mk d0 d1 d2 d3 d4 d5 d6 d7).below hA l1
  clear hA d0 d1 d2 d3 d4 d5 d6 d7 l1 hg1
  generalize W1.heap.size = pbk at hn ⊢
  generalize W1.alloc (Obj.cells #[Value.int IntKind.i64 pk, Value.int IntKind.i64 pn, Value.string pb] 72) = W2 at hn hb R8 ⊢
  obtain ⟨d0, d1, d2, d3, d4, d5, d6, d7⟩ := R8
  have p0 := cell_of_row _ _ 0 _ _ _ hn
  have p1' := cell_of_row _ _ 1 _ _ _ hn
  have p2' := cell_of_row _ _ 2 _ _ _ hn
  simp at p0 p1' p2'
  clear hn
  go_upto_region 8 with (fail)
  rcases (show cnt < 1 ∨ 1 ≤ cnt by omega) with p1 | p1
  · go_wp2
    go_ret
    rw [HR.out]
    exact ⟨chk_no (by unfold Ent.Ok Staged; simp only; omega), hb⟩
  rcases (show 999 < cnt ∨ cnt ≤ 999 by omega) with p2 | p2
  · go_wp2
    go_ret
    rw [HR.out]
    exact ⟨chk_no (by unfold Ent.Ok Staged; simp only; omega), hb⟩
  by_cases e : ix = cnt
  rotate_left
  · have b1 : (ix == cnt) = false := beq_eq_false_iff_ne.2 e
    go_wp2
    go_ret
    rw [HR.out]
    exact ⟨chk_no (by unfold Ent.Ok Staged; simp only; omega), hb⟩
  subst e
  by_cases c0 : pk = 0
  rotate_left
  · have b1 : (pk == 0) = false := beq_eq_false_iff_ne.2 c0
    go_wp2
    go_ret
    rw [HR.out]
    exact ⟨chk_no (by unfold Ent.Ok Staged; simp only; omega), hb⟩
  subst c0
  by_cases c1 : pn = 0
  rotate_left
  · have b1 : (pn == 0) = false := beq_eq_false_iff_ne.2 c1
    go_wp2
    go_ret
    rw [HR.out]
    exact ⟨chk_no (by unfold Ent.Ok Staged; simp only; omega), hb⟩
  subst c1
  by_cases c2 : pb.size = 0
  rotate_left
  · have b1 : pb.toList.isEmpty = false := no_size (show 0 < pb.size by omega)
    go_wp2
    go_ret
    rw [HR.out]
    exact ⟨chk_no (by unfold Ent.Ok Staged; simp only; omega), hb⟩
  rw [← empty_size] at c2; subst c2
  go_wp2
  go_ret
  rw [HR.out]
  exact ⟨chk_yes ⟨t1, t2, t3, t4, .inr (.inl ⟨rfl, rfl, rfl, rfl, rfl, by simp only; omega⟩)⟩, hb⟩
set_option maxRecDepth 100000 in
set_option maxHeartbeats 4000000 in
theorem rcheck_3 (tx ix pk pn cnt sum : Int) (pb : ByteArray) (w : World) (t1 : 1 ≤ tx) (t2 : tx ≤ 4294967295) (t3 : 0 ≤ ix) (t4 : ix ≤ 999) :
    Calls Try.prog 55 #[.agg #[.int .i64 3, .int .i64 tx, .int .i64 ix, .int .i64 pk, .int .i64 pn, .string pb, .int .i64 cnt, .int .u32 sum]] w fun e w' => e = .returned (.int .i64 (chkI ⟨3, tx, ix, pk, pn, pb, cnt, sum⟩)) ∧ Below w.heap.size w w' := by
  have h0 : Below w.heap.size w w := Below.refl _ _
  obtain ⟨R, HR⟩ : ∃ R, Hid (R = chkI ⟨3, tx, ix, pk, pn, pb, cnt, sum⟩) := ⟨_, Lib.hid rfl⟩
  rw [← HR.out]
  go_enter Try.func55, Try.ntmps55
  go_upto_region 1 with (refine wpList_boxArr rfl 74 _ rfl _ rfl ?_; intro W1 hW1 hg1 hz1; obtain ⟨d0, d1, d2, d3, d4, d5, d6, d7⟩ := Row8.of hW1; have l1 : w.heap.size < W1.heap.size := (Array.getElem?_eq_some_iff.1 hW1).1; clear hW1 hz1)
  go_upto_region 3 with (fail)
  have hn := heap_alloc_new W1 (Obj.cells #[Value.int IntKind.i64 pk, Value.int IntKind.i64 pn, Value.string pb] 72)
  have hA : Below W1.heap.size W1 (W1.alloc (Obj.cells #[Value.int IntKind.i64 pk, Value.int IntKind.i64 pn, Value.string pb] 72)) := (Below.refl _ _).alloc (Nat.le_refl _) _
  have hb : Below w.heap.size w (W1.alloc (Obj.cells #[Value.int IntKind.i64 pk, Value.int IntKind.i64 pn, Value.string pb] 72)) := (h0.grown hg1 (Nat.le_refl _) (by simp)).alloc hg1.size _
  have R8 := (Row8.mk d0 d1 d2 d3 d4 d5 d6 d7).below hA l1
  clear hA d0 d1 d2 d3 d4 d5 d6 d7 l1 hg1
  generalize W1.heap.size = pbk at hn ⊢
  generalize W1.alloc (Obj.cells #[Value.int IntKind.i64 pk, Value.int IntKind.i64 pn, Value.string pb] 72) = W2 at hn hb R8 ⊢
  obtain ⟨d0, d1, d2, d3, d4, d5, d6, d7⟩ := R8
  have p0 := cell_of_row _ _ 0 _ _ _ hn
  have p1' := cell_of_row _ _ 1 _ _ _ hn
  have p2' := cell_of_row _ _ 2 _ _ _ hn
  simp at p0 p1' p2'
  clear hn
  go_upto_region 10 with (fail)
  by_cases c0 : pk = 0
  rotate_left
  · have b1 : (pk == 0) = false := beq_eq_false_iff_ne.2 c0
    go_wp2
    go_ret
    rw [HR.out]
    exact ⟨chk_no (by unfold Ent.Ok Staged; simp only; omega), hb⟩
  subst c0
  by_cases c1 : pn = 0
  rotate_left
  · have b1 : (pn == 0) = false := beq_eq_false_iff_ne.2 c1
    go_wp2
    go_ret
    rw [HR.out]
    exact ⟨chk_no (by unfold Ent.Ok Staged; simp only; omega), hb⟩
  subst c1
  by_cases c2 : pb.size = 0
  rotate_left
  · have b1 : pb.toList.isEmpty = false := no_size (show 0 < pb.size by omega)
    go_wp2
    go_ret
    rw [HR.out]
    exact ⟨chk_no (by unfold Ent.Ok Staged; simp only; omega), hb⟩
  rw [← empty_size] at c2; subst c2
  by_cases c3 : cnt = 0
  rotate_left
  · have b1 : (cnt == 0) = false := beq_eq_false_iff_ne.2 c3
    go_wp2
    go_ret
    rw [HR.out]
    exact ⟨chk_no (by unfold Ent.Ok Staged; simp only; omega), hb⟩
  subst c3
  by_cases c4 : sum = 0
  rotate_left
  · have b1 : (sum == 0) = false := beq_eq_false_iff_ne.2 c4
    go_wp2
    go_ret
    rw [HR.out]
    exact ⟨chk_no (by unfold Ent.Ok Staged; simp only; omega), hb⟩
  subst c4
  go_wp2
  go_ret
  rw [HR.out]
  exact ⟨chk_yes ⟨t1, t2, t3, t4, .inr (.inr ⟨rfl, rfl, rfl, rfl, rfl, rfl⟩)⟩, hb⟩
set_option maxRecDepth 100000 in
set_option maxHeartbeats 4000000 in
theorem rcheck_0 (tx ix pk pn cnt sum : Int) (pb : ByteArray) (w : World) (kind : Int) (g1 : kind ≠ 1) (g2 : kind ≠ 2) (g3 : kind ≠ 3) (t1 : 1 ≤ tx) (t2 : tx ≤ 4294967295) (t3 : 0 ≤ ix) (t4 : ix ≤ 999) :
    Calls Try.prog 55 #[.agg #[.int .i64 kind, .int .i64 tx, .int .i64 ix, .int .i64 pk, .int .i64 pn, .string pb, .int .i64 cnt, .int .u32 sum]] w fun e w' => e = .returned (.int .i64 (chkI ⟨kind, tx, ix, pk, pn, pb, cnt, sum⟩)) ∧ Below w.heap.size w w' := by
  have h0 : Below w.heap.size w w := Below.refl _ _
  obtain ⟨R, HR⟩ : ∃ R, Hid (R = chkI ⟨kind, tx, ix, pk, pn, pb, cnt, sum⟩) := ⟨_, Lib.hid rfl⟩
  rw [← HR.out]
  have b1 : (kind == 1) = false := beq_eq_false_iff_ne.2 g1
  have b2 : (kind == 2) = false := beq_eq_false_iff_ne.2 g2
  have b3 : (kind == 3) = false := beq_eq_false_iff_ne.2 g3
  go_enter Try.func55, Try.ntmps55
  go_upto_region 1 with (refine wpList_boxArr rfl 74 _ rfl _ rfl ?_; intro W1 hW1 hg1 hz1; obtain ⟨d0, d1, d2, d3, d4, d5, d6, d7⟩ := Row8.of hW1; have l1 : w.heap.size < W1.heap.size := (Array.getElem?_eq_some_iff.1 hW1).1; clear hW1 hz1)
  go_upto_region 3 with (fail)
  have hn := heap_alloc_new W1 (Obj.cells #[Value.int IntKind.i64 pk, Value.int IntKind.i64 pn, Value.string pb] 72)
  have hA : Below W1.heap.size W1 (W1.alloc (Obj.cells #[Value.int IntKind.i64 pk, Value.int IntKind.i64 pn, Value.string pb] 72)) := (Below.refl _ _).alloc (Nat.le_refl _) _
  have hb : Below w.heap.size w (W1.alloc (Obj.cells #[Value.int IntKind.i64 pk, Value.int IntKind.i64 pn, Value.string pb] 72)) := (h0.grown hg1 (Nat.le_refl _) (by simp)).alloc hg1.size _
  have R8 := (Row8.mk d0 d1 d2 d3 d4 d5 d6 d7).below hA l1
  clear hA d0 d1 d2 d3 d4 d5 d6 d7 l1 hg1
  generalize W1.heap.size = pbk at hn ⊢
  generalize W1.alloc (Obj.cells #[Value.int IntKind.i64 pk, Value.int IntKind.i64 pn, Value.string pb] 72) = W2 at hn hb R8 ⊢
  obtain ⟨d0, d1, d2, d3, d4, d5, d6, d7⟩ := R8
  have p0 := cell_of_row _ _ 0 _ _ _ hn
  have p1' := cell_of_row _ _ 1 _ _ _ hn
  have p2' := cell_of_row _ _ 2 _ _ _ hn
  simp at p0 p1' p2'
  clear hn
  go_wp2
  go_ret
  rw [HR.out]
  exact ⟨chk_no (by unfold Ent.Ok Staged; simp only; omega), hb⟩
theorem rcheck_any (kind tx ix pk pn cnt sum : Int) (pb : ByteArray) (w : World) :
    Calls Try.prog 55 #[.agg #[.int .i64 kind, .int .i64 tx, .int .i64 ix, .int .i64 pk, .int .i64 pn, .string pb, .int .i64 cnt, .int .u32 sum]] w fun r w' => r = .returned (.int .i64 (chkI ⟨kind, tx, ix, pk, pn, pb, cnt, sum⟩)) ∧ Below w.heap.size w w' := by
  by_cases hr : 1 ≤ tx ∧ tx ≤ 4294967295 ∧ 0 ≤ ix ∧ ix ≤ 999
  · obtain ⟨t1, t2, t3, t4⟩ := hr
    by_cases k1 : kind = 1
    · subst k1; exact rcheck_1 tx ix pk pn cnt sum pb w t1 t2 t3 t4
    by_cases k2 : kind = 2
    · subst k2; exact rcheck_2 tx ix pk pn cnt sum pb w t1 t2 t3 t4
    by_cases k3 : kind = 3
    · subst k3; exact rcheck_3 tx ix pk pn cnt sum pb w t1 t2 t3 t4
    exact rcheck_0 tx ix pk pn cnt sum pb w kind k1 k2 k3 t1 t2 t3 t4
  · exact rcheck_bad tx ix pk pn cnt sum pb w kind (by omega)
end Go.Proofs.Ytmibbklafogbkaa
