/- The entry layer: may an entry be? (entry.Check, 54) -/
import Derived.Test.YtmibbklafogbkaaEa
import Derived.RegionTactic
import Derived.ChangeAlike
namespace Go.Proofs.Ytmibbklafogbkaa
open Go.RowKit
open Fld
theorem zero77 : ∀ w, (zeroValue 77).run Try.prog w = .ok (.agg #[.int .i64 0, .int .i64 0, .int .i64 0, .int .i64 0, .int .i64 0, .string ByteArray.empty, .int .i64 0, .int .u32 0]) w := (zero_of_info (n := 8) (by kernel_rfl)).1
theorem size77 : (Try.prog.info? 77).map (·.size) = some 8 := by kernel_rfl
theorem size72 : (Try.prog.info? 72).map (·.size) = some 3 := by kernel_rfl
theorem ent_one (z0 z1 z2 z3 z4 : Int) (z5 : ByteArray) (z6 z7 : Int) : (#[Value.int .i64 z0, Value.int .i64 z1, Value.int .i64 z2, Value.int .i64 z3, Value.int .i64 z4, Value.string z5, Value.int .i64 z6, Value.int .u32 z7]).all (·.oneCell') = true := by simp [Value.oneCell']
theorem page_one (z3 z4 : Int) (z5 : ByteArray) : (#[Value.int .i64 z3, Value.int .i64 z4, Value.string z5]).all (·.oneCell') = true := by simp [Value.oneCell']
theorem isStaged_yes {pk pn : Int} {pb : ByteArray} {w : World} (hp : pb.size ≤ 9223372036854775807) (h : Staged pk pn pb) :
    Calls Try.prog 79 #[.agg #[.int .i64 pk, .int .i64 pn, .string pb]] w fun e w' => e = .returned (.bool true) ∧ Below w.heap.size w w' := (isStaged_ok pk pn pb w hp).mono fun e w' ⟨a, b⟩ => ⟨by rw [a, decide_eq_true h], b⟩
theorem isStaged_no {pk pn : Int} {pb : ByteArray} {w : World} (hp : pb.size ≤ 9223372036854775807) (h : ¬ Staged pk pn pb) :
    Calls Try.prog 79 #[.agg #[.int .i64 pk, .int .i64 pn, .string pb]] w fun e w' => e = .returned (.bool false) ∧ Below w.heap.size w w' := (isStaged_ok pk pn pb w hp).mono fun e w' ⟨a, b⟩ => ⟨by rw [a, decide_eq_false h], b⟩
theorem two_stores {W : World} {b : Nat} {cs : Array Value} {t : TypeId} (h : W.heap[b]? = some (.cells cs t (0, 0))) (i j : Nat) (u v : Value) :
    ((W.setCell ⟨b, i, none⟩ u).setCell ⟨b, j, none⟩ v).drew.heap[b]? = some (.cells ((cs.setIfInBounds i u).setIfInBounds j v) t (0, 0)) ∧ W.grownBy ((W.setCell ⟨b, i, none⟩ u).setCell ⟨b, j, none⟩ v).drew (some b) := by
  have h1 : (W.setCell ⟨b, i, none⟩ u).heap[b]? = some (.cells (cs.setIfInBounds i u) t (0, 0)) := by
    rw [setCell_eq_setRow W b i cs t _ u h]; exact setRow_heap W b cs _ t _ h
  refine ⟨?_, ?_⟩
  · show ((W.setCell ⟨b, i, none⟩ u).setCell ⟨b, j, none⟩ v).heap[b]? = _
    rw [setCell_eq_setRow _ b j _ t _ v h1]; exact setRow_heap _ b _ _ t _ h1
  · have g1 := grown_setCells b [u] i W
    have g2 := grown_setCells b [v] j (W.setCell ⟨b, i, none⟩ u)
    exact ⟨g2.os.trans g1.os, g2.tape.trans g1.tape, g2.output.trans g1.output, Nat.le_trans g1.size g2.size, fun k hk hne => (g2.block k (Nat.lt_of_lt_of_le hk g1.size) hne).trans (g1.block k hk hne)⟩
theorem ok_stage {tx ix pk pn cnt sum : Int} {pb : ByteArray} (h : Ent.Ok ⟨1, tx, ix, pk, pn, pb, cnt, sum⟩) : Staged pk pn pb := by
  rcases h.2.2.2.2 with x | x | x
  · exact x.2.1
  · have y := x.1; simp at y
  · have y := x.1; simp at y
def chkI (e : Ent) : Int := if e.Ok then 0 else 1
theorem chk_yes {e : Ent} (h : e.Ok) : Ending.returned (.int .i64 0) = Ending.returned (.int .i64 (chkI e)) := by unfold chkI; rw [if_pos h]
theorem chk_no {e : Ent} (h : ¬ e.Ok) : Ending.returned (.int .i64 1) = Ending.returned (.int .i64 (chkI e)) := by unfold chkI; rw [if_neg h]
set_option maxRecDepth 100000 in
set_option maxHeartbeats 4000000 in
theorem check_1 (tx ix pk pn cnt sum : Int) (pb : ByteArray) (w : World) (hp : pb.size ≤ maxLen) :
    Calls Try.prog 54 #[.agg #[.int .i64 1, .int .i64 tx, .int .i64 ix, .int .i64 pk, .int .i64 pn, .string pb, .int .i64 cnt, .int .u32 sum]] w fun e w' => e = .returned (.int .i64 (chkI ⟨1, tx, ix, pk, pn, pb, cnt, sum⟩)) ∧ Below w.heap.size w w' := by
  unfold maxLen at hp
  have h0 : Below w.heap.size w w := Below.refl _ _
  obtain ⟨R, HR⟩ : ∃ R, Hid (R = chkI ⟨1, tx, ix, pk, pn, pb, cnt, sum⟩) := ⟨_, Lib.hid rfl⟩
  rw [← HR.out]
  obtain ⟨eb, heb⟩ : ∃ eb, eb = w.heap.size := ⟨_, rfl⟩
  have HEB := Lib.hid heb
  clear heb
  go_enter Try.func54, Try.ntmps54
  go_upto_region 1 with (refine wpList_boxArr rfl 77 _ rfl _ rfl ?_; intro W1 hW1 hg1 hz1; rw [← HEB.out] at hW1 ⊢; have d0 := cell_of_row _ _ 0 _ _ _ hW1; have d1 := cell_of_row _ _ 1 _ _ _ hW1; have d2 := cell_of_row _ _ 2 _ _ _ hW1; have d3 := cell_of_row _ _ 3 _ _ _ hW1; have d4 := cell_of_row _ _ 4 _ _ _ hW1; have d5 := cell_of_row _ _ 5 _ _ _ hW1; have d6 := cell_of_row _ _ 6 _ _ _ hW1; have d7 := cell_of_row _ _ 7 _ _ _ hW1; simp at d0 d1 d2 d3 d4 d5 d6 d7; have H1 := Lib.hid hW1; clear hW1)
  obtain ⟨bb, hbb⟩ : ∃ bb, bb = W1.heap.size := ⟨_, rfl⟩
  have HBB := Lib.hid hbb
  clear hbb
  go_upto_region 3 with (first
    | (refine wpList_allocArr rfl 77 rfl _ zero77 ?_; intro W2 hW2 hg2 hz2; rw [← HBB.out] at hW2 ⊢; have H2 := Lib.hid hW2; clear hW2)
    | (refine wpList_storeArr rfl 77 _ _ rfl bb #[.int .i64 1, .int .i64 tx, .int .i64 ix, .int .i64 0, .int .i64 0, .string ⟨#[]⟩, .int .i64 0, .int .u32 0] rfl rfl 77 _ H2.out size77 rfl (ent_one _ _ _ _ _ _ _ _) ?_; intro W3 hW3 hg3 hz3; have H3 := Lib.hid hW3; clear hW3))
  have hne : (some eb : Option Nat) ≠ some bb := by have := HEB.out; have := HBB.out; intro e; have := Option.some.inj e; omega
  have hne' : eb ≠ bb := fun e => hne (by rw [e])
  have hg13 : W1.grownBy W3 none := grown_new' hg2 hg3 (by rw [HBB.out]; exact Nat.le_refl _)
  replace d0 := World.grownBy.cell hg13 d0 (by simp)
  replace d1 := World.grownBy.cell hg13 d1 (by simp)
  replace d2 := World.grownBy.cell hg13 d2 (by simp)
  replace d3 := World.grownBy.cell hg13 d3 (by simp)
  replace d4 := World.grownBy.cell hg13 d4 (by simp)
  replace d5 := World.grownBy.cell hg13 d5 (by simp)
  replace d6 := World.grownBy.cell hg13 d6 (by simp)
  replace d7 := World.grownBy.cell hg13 d7 (by simp)
  have hb3 : Below w.heap.size w W3 := (h0.grown hg1 (Nat.le_refl _) (by simp)).grown hg13 hg1.size (by simp)
  have hlt : w.heap.size ≤ bb := by have := HBB.out; have := hz1; omega
  clear hg1 hg2 hg3 hz2 hz3 H1 H2 hg13
  go_upto_region 6 with (first
    | (refine wpList_storeMid rfl 72 _ _ rfl bb 3 #[.int .i64 pk, .int .i64 pn, .string pb] rfl rfl 77 _ H3.out size72 (Nat.le_of_ble_eq_true rfl) (page_one _ _ _) ?_; intro W4 hW4 hg4 hz4))
  have e0 := cell_of_row W4 bb 0 _ _ _ hW4
  have e1 := cell_of_row W4 bb 1 _ _ _ hW4
  have e2 := cell_of_row W4 bb 2 _ _ _ hW4
  have e3 := cell_of_row W4 bb 3 _ _ _ hW4
  have e4 := cell_of_row W4 bb 4 _ _ _ hW4
  have e5 := cell_of_row W4 bb 5 _ _ _ hW4
  have e6 := cell_of_row W4 bb 6 _ _ _ hW4
  have e7 := cell_of_row W4 bb 7 _ _ _ hW4
  simp [layIn] at e0 e1 e2 e3 e4 e5 e6 e7
  have l4 : eb < W4.heap.size := by have := (Array.getElem?_eq_some_iff.1 hW4).1; have := HEB.out; have := HBB.out; have := hz1; omega
  clear hW4
  replace d0 := World.grownBy.cell hg4 d0 hne
  replace d1 := World.grownBy.cell hg4 d1 hne
  replace d2 := World.grownBy.cell hg4 d2 hne
  replace d3 := World.grownBy.cell hg4 d3 hne
  replace d4 := World.grownBy.cell hg4 d4 hne
  replace d5 := World.grownBy.cell hg4 d5 hne
  replace d6 := World.grownBy.cell hg4 d6 hne
  replace d7 := World.grownBy.cell hg4 d7 hne
  have hb4 : Below w.heap.size w W4 := hb3.grown hg4 hb3.size (fun k hk => by have := Option.some.inj hk; omega)
  clear hb3 hg4 H3
  by_cases c1 : cnt = 0
  rotate_left
  · have b1 : (cnt == 0) = false := beq_eq_false_iff_ne.2 c1
    go_wp2
    go_ret
    rw [HR.out]
    exact ⟨chk_no (by unfold Ent.Ok Staged; simp only; omega), hb4⟩
  subst c1
  by_cases c2 : sum = 0
  rotate_left
  · have b1 : (sum == 0) = false := beq_eq_false_iff_ne.2 c2
    go_wp2
    go_ret
    rw [HR.out]
    exact ⟨chk_no (by unfold Ent.Ok Staged; simp only; omega), hb4⟩
  subst c2
  by_cases hs : Staged pk pn pb
  rotate_left
  · go_wp2_with (go_at_call 79; refine (isStaged_no hp hs).mono ?_; rintro e w8 ⟨rfl, hb8⟩)
    go_ret
    rw [HR.out]
    exact ⟨chk_no (fun x => hs (ok_stage x)), hb4.trans (hb8.mono hb4.size)⟩
  go_upto_region 12 with (go_at_call 79; refine (isStaged_yes hp hs).mono ?_; rintro e w8 ⟨rfl, hb8⟩)
  replace d1 := (hb8.cell (p := ⟨eb, 1, none⟩) l4).trans d1
  replace d2 := (hb8.cell (p := ⟨eb, 2, none⟩) l4).trans d2
  have hb9 : Below w.heap.size w w8 := hb4.trans (hb8.mono hb4.size)
  clear hb8 hb4 d0 d3 d4 d5 d6 d7 e0 e1 e2 e3 e4 e5 e6 e7 l4
  rcases (show tx < 1 ∨ 1 ≤ tx by omega) with t1 | t1
  · go_wp2
    go_ret
    rw [HR.out]
    exact ⟨chk_no (by unfold Ent.Ok Staged; simp only; omega), hb9⟩
  rcases (show 4294967295 < tx ∨ tx ≤ 4294967295 by omega) with t2 | t2
  · go_wp2
    go_ret
    rw [HR.out]
    exact ⟨chk_no (by unfold Ent.Ok Staged; simp only; omega), hb9⟩
  rcases (show ix < 0 ∨ 0 ≤ ix by omega) with t3 | t3
  · go_wp2
    go_ret
    rw [HR.out]
    exact ⟨chk_no (by unfold Ent.Ok Staged; simp only; omega), hb9⟩
  rcases (show 999 < ix ∨ ix ≤ 999 by omega) with t4 | t4
  · go_wp2
    go_ret
    rw [HR.out]
    exact ⟨chk_no (by unfold Ent.Ok Staged; simp only; omega), hb9⟩
  go_wp2
  go_ret
  rw [HR.out]
  exact ⟨chk_yes ⟨t1, t2, t3, t4, .inl ⟨rfl, hs, rfl, rfl⟩⟩, hb9⟩
set_option maxRecDepth 100000 in
set_option maxHeartbeats 4000000 in
theorem check_2 (tx ix pk pn cnt sum : Int) (pb : ByteArray) (w : World) (hp : pb.size ≤ maxLen) :
    Calls Try.prog 54 #[.agg #[.int .i64 2, .int .i64 tx, .int .i64 ix, .int .i64 pk, .int .i64 pn, .string pb, .int .i64 cnt, .int .u32 sum]] w fun e w' => e = .returned (.int .i64 (chkI ⟨2, tx, ix, pk, pn, pb, cnt, sum⟩)) ∧ Below w.heap.size w w' := by
  unfold maxLen at hp
  have h0 : Below w.heap.size w w := Below.refl _ _
  obtain ⟨R, HR⟩ : ∃ R, Hid (R = chkI ⟨2, tx, ix, pk, pn, pb, cnt, sum⟩) := ⟨_, Lib.hid rfl⟩
  rw [← HR.out]
  obtain ⟨eb, heb⟩ : ∃ eb, eb = w.heap.size := ⟨_, rfl⟩
  have HEB := Lib.hid heb
  clear heb
  go_enter Try.func54, Try.ntmps54
  go_upto_region 1 with (refine wpList_boxArr rfl 77 _ rfl _ rfl ?_; intro W1 hW1 hg1 hz1; rw [← HEB.out] at hW1 ⊢; have d0 := cell_of_row _ _ 0 _ _ _ hW1; have d1 := cell_of_row _ _ 1 _ _ _ hW1; have d2 := cell_of_row _ _ 2 _ _ _ hW1; have d3 := cell_of_row _ _ 3 _ _ _ hW1; have d4 := cell_of_row _ _ 4 _ _ _ hW1; have d5 := cell_of_row _ _ 5 _ _ _ hW1; have d6 := cell_of_row _ _ 6 _ _ _ hW1; have d7 := cell_of_row _ _ 7 _ _ _ hW1; simp at d0 d1 d2 d3 d4 d5 d6 d7; have H1 := Lib.hid hW1; clear hW1)
  obtain ⟨bb, hbb⟩ : ∃ bb, bb = W1.heap.size := ⟨_, rfl⟩
  have HBB := Lib.hid hbb
  clear hbb
  go_upto_region 3 with (first
    | (refine wpList_allocArr rfl 77 rfl _ zero77 ?_; intro W2 hW2 hg2 hz2; rw [← HBB.out] at hW2 ⊢; have H2 := Lib.hid hW2; clear hW2)
    | (refine wpList_storeArr rfl 77 _ _ rfl bb #[.int .i64 2, .int .i64 tx, .int .i64 ix, .int .i64 0, .int .i64 0, .string ⟨#[]⟩, .int .i64 0, .int .u32 0] rfl rfl 77 _ H2.out size77 rfl (ent_one _ _ _ _ _ _ _ _) ?_; intro W3 hW3 hg3 hz3; have H3 := Lib.hid hW3; clear hW3))
  have hne : (some eb : Option Nat) ≠ some bb := by have := HEB.out; have := HBB.out; intro e; have := Option.some.inj e; omega
  have hne' : eb ≠ bb := fun e => hne (by rw [e])
  have hg13 : W1.grownBy W3 none := grown_new' hg2 hg3 (by rw [HBB.out]; exact Nat.le_refl _)
  replace d0 := World.grownBy.cell hg13 d0 (by simp)
  replace d1 := World.grownBy.cell hg13 d1 (by simp)
  replace d2 := World.grownBy.cell hg13 d2 (by simp)
  replace d3 := World.grownBy.cell hg13 d3 (by simp)
  replace d4 := World.grownBy.cell hg13 d4 (by simp)
  replace d5 := World.grownBy.cell hg13 d5 (by simp)
  replace d6 := World.grownBy.cell hg13 d6 (by simp)
  replace d7 := World.grownBy.cell hg13 d7 (by simp)
  have hb3 : Below w.heap.size w W3 := (h0.grown hg1 (Nat.le_refl _) (by simp)).grown hg13 hg1.size (by simp)
  have hlt : w.heap.size ≤ bb := by have := HBB.out; have := hz1; omega
  clear hg1 hg2 hg3 hz2 hz3 H1 H2 hg13
  have e6 : W3.cell? ⟨bb, 6, none⟩ = some (.int .i64 0) := by rw [cell_of_row _ _ _ _ _ _ H3.out]; rfl
  have e7 : W3.cell? ⟨bb, 7, none⟩ = some (.int .u32 0) := by rw [cell_of_row _ _ _ _ _ _ H3.out]; rfl
  have f6 : W3.frozen? ⟨bb, 6, none⟩ = false := by simp [World.frozen?, H3.out]
  have f7 : W3.frozen? ⟨bb, 7, none⟩ = false := by simp [World.frozen?, H3.out]
  go_upto_region 8 with (fail)
  go_region
  obtain ⟨hW4, hg4⟩ := two_stores H3.out 6 7 (.int .i64 ix) (.int .u32 sum)
  clear e6 e7 f6 f7 H3
  generalize ((W3.setCell { block := bb, off := 6 } (Value.int IntKind.i64 ix)).setCell { block := bb, off := 7 } (Value.int IntKind.u32 sum)).drew = W4 at hW4 hg4 ⊢
  have e0 := cell_of_row W4 bb 0 _ _ _ hW4
  have e1 := cell_of_row W4 bb 1 _ _ _ hW4
  have e2 := cell_of_row W4 bb 2 _ _ _ hW4
  have e3 := cell_of_row W4 bb 3 _ _ _ hW4
  have e4 := cell_of_row W4 bb 4 _ _ _ hW4
  have e5 := cell_of_row W4 bb 5 _ _ _ hW4
  have e6 := cell_of_row W4 bb 6 _ _ _ hW4
  have e7 := cell_of_row W4 bb 7 _ _ _ hW4
  simp at e0 e1 e2 e3 e4 e5 e6 e7
  clear hW4
  replace d0 := World.grownBy.cell hg4 d0 hne
  replace d1 := World.grownBy.cell hg4 d1 hne
  replace d2 := World.grownBy.cell hg4 d2 hne
  replace d3 := World.grownBy.cell hg4 d3 hne
  replace d4 := World.grownBy.cell hg4 d4 hne
  replace d5 := World.grownBy.cell hg4 d5 hne
  replace d6 := World.grownBy.cell hg4 d6 hne
  replace d7 := World.grownBy.cell hg4 d7 hne
  have hb4 : Below w.heap.size w W4 := hb3.grown hg4 hb3.size (fun k hk => by have := Option.some.inj hk; omega)
  clear hb3 hg4
  by_cases c0 : pk = 0
  rotate_left
  · have b1 : (pk == 0) = false := beq_eq_false_iff_ne.2 c0
    go_wp2
    go_ret
    rw [HR.out]
    exact ⟨chk_no (by unfold Ent.Ok Staged; simp only; omega), hb4⟩
  subst c0
  by_cases c1 : pn = 0
  rotate_left
  · have b1 : (pn == 0) = false := beq_eq_false_iff_ne.2 c1
    go_wp2
    go_ret
    rw [HR.out]
    exact ⟨chk_no (by unfold Ent.Ok Staged; simp only; omega), hb4⟩
  subst c1
  by_cases c2 : pb.size = 0
  rotate_left
  · have b1 : pb.toList.isEmpty = false := no_size (show 0 < pb.size by omega)
    go_wp2
    go_ret
    rw [HR.out]
    exact ⟨chk_no (by unfold Ent.Ok Staged; simp only; omega), hb4⟩
  rw [← empty_size] at c2; subst c2
  by_cases c3 : cnt = ix
  rotate_left
  · have b1 : (cnt == ix) = false := beq_eq_false_iff_ne.2 c3
    go_wp2
    go_ret
    rw [HR.out]
    exact ⟨chk_no (by unfold Ent.Ok Staged; simp only; omega), hb4⟩
  subst c3
  rcases (show cnt ≤ 0 ∨ 0 < cnt by omega) with c9 | c9
  · go_wp2
    go_ret
    rw [HR.out]
    exact ⟨chk_no (by unfold Ent.Ok Staged; simp only; omega), hb4⟩
  go_upto_region 12 with (fail)
  rcases (show tx < 1 ∨ 1 ≤ tx by omega) with t1 | t1
  · go_wp2
    go_ret
    rw [HR.out]
    exact ⟨chk_no (by unfold Ent.Ok Staged; simp only; omega), hb4⟩
  rcases (show 4294967295 < tx ∨ tx ≤ 4294967295 by omega) with t2 | t2
  · go_wp2
    go_ret
    rw [HR.out]
    exact ⟨chk_no (by unfold Ent.Ok Staged; simp only; omega), hb4⟩
  have t3 : 0 ≤ cnt := by omega
  rcases (show 999 < cnt ∨ cnt ≤ 999 by omega) with t4 | t4
  · go_wp2
    go_ret
    rw [HR.out]
    exact ⟨chk_no (by unfold Ent.Ok Staged; simp only; omega), hb4⟩
  go_wp2
  go_ret
  rw [HR.out]
  exact ⟨chk_yes ⟨t1, t2, t3, t4, .inr (.inl ⟨rfl, rfl, rfl, rfl, rfl, c9⟩)⟩, hb4⟩
set_option maxRecDepth 100000 in
set_option maxHeartbeats 4000000 in
theorem check_3 (tx ix pk pn cnt sum : Int) (pb : ByteArray) (w : World) (hp : pb.size ≤ maxLen) :
    Calls Try.prog 54 #[.agg #[.int .i64 3, .int .i64 tx, .int .i64 ix, .int .i64 pk, .int .i64 pn, .string pb, .int .i64 cnt, .int .u32 sum]] w fun e w' => e = .returned (.int .i64 (chkI ⟨3, tx, ix, pk, pn, pb, cnt, sum⟩)) ∧ Below w.heap.size w w' := by
  unfold maxLen at hp
  have h0 : Below w.heap.size w w := Below.refl _ _
  obtain ⟨R, HR⟩ : ∃ R, Hid (R = chkI ⟨3, tx, ix, pk, pn, pb, cnt, sum⟩) := ⟨_, Lib.hid rfl⟩
  rw [← HR.out]
  obtain ⟨eb, heb⟩ : ∃ eb, eb = w.heap.size := ⟨_, rfl⟩
  have HEB := Lib.hid heb
  clear heb
  go_enter Try.func54, Try.ntmps54
  go_upto_region 1 with (refine wpList_boxArr rfl 77 _ rfl _ rfl ?_; intro W1 hW1 hg1 hz1; rw [← HEB.out] at hW1 ⊢; have d0 := cell_of_row _ _ 0 _ _ _ hW1; have d1 := cell_of_row _ _ 1 _ _ _ hW1; have d2 := cell_of_row _ _ 2 _ _ _ hW1; have d3 := cell_of_row _ _ 3 _ _ _ hW1; have d4 := cell_of_row _ _ 4 _ _ _ hW1; have d5 := cell_of_row _ _ 5 _ _ _ hW1; have d6 := cell_of_row _ _ 6 _ _ _ hW1; have d7 := cell_of_row _ _ 7 _ _ _ hW1; simp at d0 d1 d2 d3 d4 d5 d6 d7; have H1 := Lib.hid hW1; clear hW1)
  obtain ⟨bb, hbb⟩ : ∃ bb, bb = W1.heap.size := ⟨_, rfl⟩
  have HBB := Lib.hid hbb
  clear hbb
  go_upto_region 3 with (first
    | (refine wpList_allocArr rfl 77 rfl _ zero77 ?_; intro W2 hW2 hg2 hz2; rw [← HBB.out] at hW2 ⊢; have H2 := Lib.hid hW2; clear hW2)
    | (refine wpList_storeArr rfl 77 _ _ rfl bb #[.int .i64 3, .int .i64 tx, .int .i64 ix, .int .i64 0, .int .i64 0, .string ⟨#[]⟩, .int .i64 0, .int .u32 0] rfl rfl 77 _ H2.out size77 rfl (ent_one _ _ _ _ _ _ _ _) ?_; intro W3 hW3 hg3 hz3; have H3 := Lib.hid hW3; clear hW3))
  have hne : (some eb : Option Nat) ≠ some bb := by have := HEB.out; have := HBB.out; intro e; have := Option.some.inj e; omega
  have hne' : eb ≠ bb := fun e => hne (by rw [e])
  have hg13 : W1.grownBy W3 none := grown_new' hg2 hg3 (by rw [HBB.out]; exact Nat.le_refl _)
  replace d0 := World.grownBy.cell hg13 d0 (by simp)
  replace d1 := World.grownBy.cell hg13 d1 (by simp)
  replace d2 := World.grownBy.cell hg13 d2 (by simp)
  replace d3 := World.grownBy.cell hg13 d3 (by simp)
  replace d4 := World.grownBy.cell hg13 d4 (by simp)
  replace d5 := World.grownBy.cell hg13 d5 (by simp)
  replace d6 := World.grownBy.cell hg13 d6 (by simp)
  replace d7 := World.grownBy.cell hg13 d7 (by simp)
  have hb3 : Below w.heap.size w W3 := (h0.grown hg1 (Nat.le_refl _) (by simp)).grown hg13 hg1.size (by simp)
  have hlt : w.heap.size ≤ bb := by have := HBB.out; have := hz1; omega
  clear hg1 hg2 hg3 hz2 hz3 H1 H2 hg13
  have e0 := cell_of_row W3 bb 0 _ _ _ H3.out
  have e1 := cell_of_row W3 bb 1 _ _ _ H3.out
  have e2 := cell_of_row W3 bb 2 _ _ _ H3.out
  have e3 := cell_of_row W3 bb 3 _ _ _ H3.out
  have e4 := cell_of_row W3 bb 4 _ _ _ H3.out
  have e5 := cell_of_row W3 bb 5 _ _ _ H3.out
  have e6 := cell_of_row W3 bb 6 _ _ _ H3.out
  have e7 := cell_of_row W3 bb 7 _ _ _ H3.out
  simp at e0 e1 e2 e3 e4 e5 e6 e7
  clear H3
  go_upto_region 11 with (fail)
  by_cases c0 : pk = 0
  rotate_left
  · have b1 : (pk == 0) = false := beq_eq_false_iff_ne.2 c0
    go_wp2
    go_ret
    rw [HR.out]
    exact ⟨chk_no (by unfold Ent.Ok Staged; simp only; omega), hb3⟩
  subst c0
  by_cases c1 : pn = 0
  rotate_left
  · have b1 : (pn == 0) = false := beq_eq_false_iff_ne.2 c1
    go_wp2
    go_ret
    rw [HR.out]
    exact ⟨chk_no (by unfold Ent.Ok Staged; simp only; omega), hb3⟩
  subst c1
  by_cases c2 : pb.size = 0
  rotate_left
  · have b1 : pb.toList.isEmpty = false := no_size (show 0 < pb.size by omega)
    go_wp2
    go_ret
    rw [HR.out]
    exact ⟨chk_no (by unfold Ent.Ok Staged; simp only; omega), hb3⟩
  rw [← empty_size] at c2; subst c2
  by_cases c3 : cnt = 0
  rotate_left
  · have b1 : (cnt == 0) = false := beq_eq_false_iff_ne.2 c3
    go_wp2
    go_ret
    rw [HR.out]
    exact ⟨chk_no (by unfold Ent.Ok Staged; simp only; omega), hb3⟩
  subst c3
  by_cases c4 : sum = 0
  rotate_left
  · have b1 : (sum == 0) = false := beq_eq_false_iff_ne.2 c4
    go_wp2
    go_ret
    rw [HR.out]
    exact ⟨chk_no (by unfold Ent.Ok Staged; simp only; omega), hb3⟩
  subst c4
  go_upto_region 12 with (fail)
  rcases (show tx < 1 ∨ 1 ≤ tx by omega) with t1 | t1
  · go_wp2
    go_ret
    rw [HR.out]
    exact ⟨chk_no (by unfold Ent.Ok Staged; simp only; omega), hb3⟩
  rcases (show 4294967295 < tx ∨ tx ≤ 4294967295 by omega) with t2 | t2
  · go_wp2
    go_ret
    rw [HR.out]
    exact ⟨chk_no (by unfold Ent.Ok Staged; simp only; omega), hb3⟩
  rcases (show ix < 0 ∨ 0 ≤ ix by omega) with t3 | t3
  · go_wp2
    go_ret
    rw [HR.out]
    exact ⟨chk_no (by unfold Ent.Ok Staged; simp only; omega), hb3⟩
  rcases (show 999 < ix ∨ ix ≤ 999 by omega) with t4 | t4
  · go_wp2
    go_ret
    rw [HR.out]
    exact ⟨chk_no (by unfold Ent.Ok Staged; simp only; omega), hb3⟩
  go_wp2
  go_ret
  rw [HR.out]
  exact ⟨chk_yes ⟨t1, t2, t3, t4, .inr (.inr ⟨rfl, rfl, rfl, rfl, rfl, rfl⟩)⟩, hb3⟩
set_option maxRecDepth 100000 in
set_option maxHeartbeats 4000000 in
theorem check_0 (tx ix pk pn cnt sum : Int) (pb : ByteArray) (w : World) (_hp : pb.size ≤ maxLen) (kind : Int) (g1 : kind ≠ 1) (g2 : kind ≠ 2) (g3 : kind ≠ 3) :
    Calls Try.prog 54 #[.agg #[.int .i64 kind, .int .i64 tx, .int .i64 ix, .int .i64 pk, .int .i64 pn, .string pb, .int .i64 cnt, .int .u32 sum]] w fun e w' => e = .returned (.int .i64 (chkI ⟨kind, tx, ix, pk, pn, pb, cnt, sum⟩)) ∧ Below w.heap.size w w' := by
  have h0 : Below w.heap.size w w := Below.refl _ _
  obtain ⟨R, HR⟩ : ∃ R, Hid (R = chkI ⟨kind, tx, ix, pk, pn, pb, cnt, sum⟩) := ⟨_, Lib.hid rfl⟩
  rw [← HR.out]
  obtain ⟨eb, heb⟩ : ∃ eb, eb = w.heap.size := ⟨_, rfl⟩
  have HEB := Lib.hid heb
  clear heb
  have b1 : (kind == 1) = false := beq_eq_false_iff_ne.2 g1
  have b2 : (kind == 2) = false := beq_eq_false_iff_ne.2 g2
  have b3 : (kind == 3) = false := beq_eq_false_iff_ne.2 g3
  go_enter Try.func54, Try.ntmps54
  go_upto_region 1 with (refine wpList_boxArr rfl 77 _ rfl _ rfl ?_; intro W1 hW1 hg1 hz1; rw [← HEB.out] at hW1 ⊢; have d0 := cell_of_row _ _ 0 _ _ _ hW1; have d1 := cell_of_row _ _ 1 _ _ _ hW1; have d2 := cell_of_row _ _ 2 _ _ _ hW1; have d3 := cell_of_row _ _ 3 _ _ _ hW1; have d4 := cell_of_row _ _ 4 _ _ _ hW1; have d5 := cell_of_row _ _ 5 _ _ _ hW1; have d6 := cell_of_row _ _ 6 _ _ _ hW1; have d7 := cell_of_row _ _ 7 _ _ _ hW1; simp at d0 d1 d2 d3 d4 d5 d6 d7; have H1 := Lib.hid hW1; clear hW1)
  obtain ⟨bb, hbb⟩ : ∃ bb, bb = W1.heap.size := ⟨_, rfl⟩
  have HBB := Lib.hid hbb
  clear hbb
  go_upto_region 3 with (first
    | (refine wpList_allocArr rfl 77 rfl _ zero77 ?_; intro W2 hW2 hg2 hz2; rw [← HBB.out] at hW2 ⊢; have H2 := Lib.hid hW2; clear hW2)
    | (refine wpList_storeArr rfl 77 _ _ rfl bb #[.int .i64 kind, .int .i64 tx, .int .i64 ix, .int .i64 0, .int .i64 0, .string ⟨#[]⟩, .int .i64 0, .int .u32 0] rfl rfl 77 _ H2.out size77 rfl (ent_one _ _ _ _ _ _ _ _) ?_; intro W3 hW3 hg3 hz3; have H3 := Lib.hid hW3; clear hW3))
  have hne : (some eb : Option Nat) ≠ some bb := by have := HEB.out; have := HBB.out; intro e; have := Option.some.inj e; omega
  have hne' : eb ≠ bb := fun e => hne (by rw [e])
  have hg13 : W1.grownBy W3 none := grown_new' hg2 hg3 (by rw [HBB.out]; exact Nat.le_refl _)
  replace d0 := World.grownBy.cell hg13 d0 (by simp)
  replace d1 := World.grownBy.cell hg13 d1 (by simp)
  replace d2 := World.grownBy.cell hg13 d2 (by simp)
  replace d3 := World.grownBy.cell hg13 d3 (by simp)
  replace d4 := World.grownBy.cell hg13 d4 (by simp)
  replace d5 := World.grownBy.cell hg13 d5 (by simp)
  replace d6 := World.grownBy.cell hg13 d6 (by simp)
  replace d7 := World.grownBy.cell hg13 d7 (by simp)
  have hb3 : Below w.heap.size w W3 := (h0.grown hg1 (Nat.le_refl _) (by simp)).grown hg13 hg1.size (by simp)
  have hlt : w.heap.size ≤ bb := by have := HBB.out; have := hz1; omega
  clear hg1 hg2 hg3 hz2 hz3 H1 H2 hg13
  go_wp2
  go_ret
  rw [HR.out]
  exact ⟨chk_no (by unfold Ent.Ok Staged; simp only; omega), hb3⟩
theorem check_any (e : Ent) (w : World) (hp : e.pb.size ≤ maxLen) :
    Calls Try.prog 54 #[.agg #[.int .i64 e.kind, .int .i64 e.tx, .int .i64 e.ix, .int .i64 e.pk, .int .i64 e.pn, .string e.pb, .int .i64 e.cnt, .int .u32 e.sum]] w fun r w' => r = .returned (.int .i64 (chkI e)) ∧ Below w.heap.size w w' := by
  obtain ⟨kind, tx, ix, pk, pn, pb, cnt, sum⟩ := e
  by_cases k1 : kind = 1
  · subst k1; exact check_1 tx ix pk pn cnt sum pb w hp
  by_cases k2 : kind = 2
  · subst k2; exact check_2 tx ix pk pn cnt sum pb w hp
  by_cases k3 : kind = 3
  · subst k3; exact check_3 tx ix pk pn cnt sum pb w hp
  exact check_0 tx ix pk pn cnt sum pb w hp kind k1 k2 k3
end Go.Proofs.Ytmibbklafogbkaa
