/- The walk of the law EntrySums. -/
import Derived.Test.YtmibbklafogbkaaLEsa
import Derived.Deep.QuietTactic
import Derived.BigQuiet
namespace Go.Proofs.Ytmibbklafogbkaa
open Go.RowKit
open Fld
theorem check_big (kind tx ix pk pn cnt sum : Int) (pb : ByteArray) (w w0 : World) (h : Below w0.heap.size w0 w) (hp : pb.size ≤ 9223372036854775807) (R : Int) (hR : R = chkI ⟨kind, tx, ix, pk, pn, pb, cnt, sum⟩) :
    Calls Try.prog 54 #[.agg #[.int .i64 kind, .int .i64 tx, .int .i64 ix, .int .i64 pk, .int .i64 pn, .string pb, .int .i64 cnt, .int .u32 sum]] w fun r w' => r = .returned (.int .i64 R) ∧ Below w0.heap.size w0 w' :=
  (check_any ⟨kind, tx, ix, pk, pn, pb, cnt, sum⟩ w hp).mono fun _ _ ⟨a, b⟩ => ⟨by rw [a, hR], h.trans (b.mono h.size)⟩
theorem sumP_at (l : List Pg) (A : Option Addr) (cap n : Nat) (w : World) (hp : PgAt w A l) (hn : n = l.length) (h6 : n ≤ 60) (hb : ∀ p ∈ l, p.pb.size ≤ 230) (R : Int) (hR : R = sumTo l n) :
    Calls Try.prog 56 #[.slice A n cap] w fun e w' => e = .returned (.int .u32 R) ∧ Below w.heap.size w w' := by
  subst hn
  exact (sumP_any l A cap w hp (by omega) (fun p hp => by have := hb p hp; unfold maxLen; omega)).mono fun _ _ ⟨a, b⟩ => ⟨by rw [a, hR], b⟩
theorem bit_ne (x : UInt8) (t : Nat) (ht : t < 8) : bitTurned x t ≠ x := by
  intro e
  have h := congrArg UInt8.toNat e
  rw [bitTurned_toNat x t ht] at h
  have h2 := Crc.xor_inj x.toNat (2 ^ t) 0 (by rw [h, Nat.xor_zero])
  have := Nat.two_pow_pos t
  omega
set_option maxRecDepth 100000 in
set_option maxHeartbeats 8000000 in
theorem esums_walk (A : Option Addr) (cap : Nat) (l : List Pg) (q' p' t' : Int) (w : World) (_hl1 : l.length ≤ cap) (_hl2 : cap ≤ maxLen) (hpg : PgAt w A l) (hps : ∀ p ∈ l, p.pb.size ≤ maxLen)
    (wq : (Lit.int .i64 q').wf = true) (wp : (Lit.int .i64 p').wf = true) (wt : (Lit.int .i64 t').wf = true) :
    Calls Try.prog 17 #[.agg #[.slice A l.length cap, .int .i64 q', .int .i64 p', .int .i64 t']] w fun e w' => e = .returned (.bool true) ∧ Below w.heap.size w w' := by
  obtain ⟨q0, q1⟩ := bounds_i64 wq
  obtain ⟨p0, p1⟩ := bounds_i64 wp
  obtain ⟨t0, t1⟩ := bounds_i64 wt
  clear wq wp wt
  obtain ⟨n, hn⟩ : ∃ n, n = l.length := ⟨_, rfl⟩
  rw [← hn]
  have HN := Lib.hid hn
  have HPG0 := Lib.hid hpg
  have HPS := Lib.hid hps
  clear hn hpg hps
  go_enter Try.func17, Try.ntmps17
  go_upto_region 1 with (refine wpList_boxArr rfl 92 _ rfl _ rfl ?_; intro W1 hW1 hg1 hz1; have c0 := cell_of_row _ _ 0 _ _ _ hW1; have c1 := cell_of_row _ _ 1 _ _ _ hW1; have c2 := cell_of_row _ _ 2 _ _ _ hW1; have c3 := cell_of_row _ _ 3 _ _ _ hW1; simp at c0 c1 c2 c3; clear hW1 hz1)
  go_quiet (fail)
  have hbw : Below w.heap.size w (W1.drewN nq) := ((Below.refl _ _).grown hg1 (Nat.le_refl _) (by simp)).trans ⟨rfl, rfl, rfl, Nat.le_refl _, fun _ _ => rfl⟩
  have HPG : Hid (PgAt (W1.drewN nq) A l) := Lib.hid (HPG0.out.below hbw)
  clear HPG0 hg1 c0 c1 c2 c3
  generalize W1.drewN nq = W2 at hbw HPG ⊢
  rcases (show 60 < n ∨ n ≤ 60 by omega) with s1 | s1
  · go_wp2_with (go_at_call 50; with_reducible refine (live6 _ w hbw).mono ?_; rintro e w9 ⟨rfl, hb9⟩)
    go_ret
    exact ⟨rfl, hb9⟩
  rcases (show q' < 0 ∨ 0 ≤ q' by omega) with s2 | s2
  · go_wp2_with (go_at_call 50; with_reducible refine (live6 _ w hbw).mono ?_; rintro e w9 ⟨rfl, hb9⟩)
    go_ret
    exact ⟨rfl, hb9⟩
  obtain ⟨q, rfl⟩ := Int.eq_ofNat_of_zero_le s2
  rcases (show n ≤ q ∨ q < n by omega) with s3 | s3
  · go_wp2_with (go_at_call 50; with_reducible refine (live6 _ w hbw).mono ?_; rintro e w9 ⟨rfl, hb9⟩)
    go_ret
    exact ⟨rfl, hb9⟩
  rcases (show p' < 0 ∨ 0 ≤ p' by omega) with s4 | s4
  · go_wp2_with (go_at_call 50; with_reducible refine (live6 _ w hbw).mono ?_; rintro e w9 ⟨rfl, hb9⟩)
    go_ret
    exact ⟨rfl, hb9⟩
  obtain ⟨p, rfl⟩ := Int.eq_ofNat_of_zero_le s4
  have hql : q < l.length := by have := HN.out; omega
  obtain ⟨ad, e, g0, g1, g2⟩ := HPG.out q hql
  subst e
  obtain ⟨pb, hpb⟩ : ∃ pb, pb = l[q].pb := ⟨_, rfl⟩
  rw [← hpb] at g2
  have HPB := Lib.hid hpb
  have hpbs : pb.size ≤ 9223372036854775807 := by rw [hpb]; exact HPS.out l[q] (List.getElem_mem _)
  clear hpb g0 g1
  rcases (show pb.size ≤ p ∨ p < pb.size by omega) with s5 | s5
  · go_wp2_with (go_at_call 50; with_reducible refine (live6 _ w hbw).mono ?_; rintro e w9 ⟨rfl, hb9⟩)
    go_ret
    exact ⟨rfl, hb9⟩
  rcases (show t' < 0 ∨ 0 ≤ t' by omega) with s6 | s6
  · go_wp2_with (go_at_call 50; with_reducible refine (live6 _ w hbw).mono ?_; rintro e w9 ⟨rfl, hb9⟩)
    go_ret
    exact ⟨rfl, hb9⟩
  obtain ⟨t, rfl⟩ := Int.eq_ofNat_of_zero_le s6
  rcases (show 7 < t ∨ t ≤ 7 by omega) with s7 | s7
  · go_wp2_with (go_at_call 50; with_reducible refine (live6 _ w hbw).mono ?_; rintro e w9 ⟨rfl, hb9⟩)
    go_ret
    exact ⟨rfl, hb9⟩
  have b1 : decide ((60 : Int) < (n : Int)) = false := decide_eq_false (by omega)
  have b2 : decide ((q : Int) < 0) = false := decide_eq_false (by omega)
  have b3 : decide (n ≤ q) = false := decide_eq_false (by omega)
  have b4 : decide ((p : Int) < 0) = false := decide_eq_false (by omega)
  have b5 : decide (pb.size ≤ p) = false := decide_eq_false (by omega)
  have b6 : decide ((t : Int) < 0) = false := decide_eq_false (by omega)
  have b7 : decide ((7 : Int) < (t : Int)) = false := decide_eq_false (by omega)
  go_wp2
  clear b1 b2 b3 b4 b5 b6 b7
  go_loopw [7] (fun i wr => ∃ k : Nat, k ≤ n ∧ i = .int .i64 k ∧ Hid (∀ j, (h : j < l.length) → j < k → Staged l[j].pk l[j].pn l[j].pb) ∧ Below W2.heap.size W2 wr) (fun i _ => n - (intOf i).toNat)
  case atStart => exact ⟨0, Nat.zero_le _, rfl, Lib.hid fun j _ h => absurd h (Nat.not_lt_zero _), Below.refl _ _⟩
  case round =>
    obtain ⟨k, hk, rfl, HK, hb⟩ := hrel
    replace g2 := (hb.cell (World.block_lt_of_cell? W2 _ g2)).trans g2
    by_cases hlt : k < n
    · have hlt' : k < l.length := by have := HN.out; omega
      obtain ⟨ad', e, x0, x1, x2⟩ := HPG.out k hlt'
      obtain rfl := Option.some.inj e
      replace x0 := (hb.cell (World.block_lt_of_cell? W2 _ x0)).trans x0
      replace x1 := (hb.cell (World.block_lt_of_cell? W2 _ x1)).trans x1
      replace x2 := (hb.cell (World.block_lt_of_cell? W2 _ x2)).trans x2
      clear g2
      have hks : l[k].pb.size ≤ 9223372036854775807 := HPS.out l[k] (List.getElem_mem _)
      obtain ⟨R, hR⟩ : ∃ R, R = chkI ⟨1, 1, 0, l[k].pk, l[k].pn, l[k].pb, 0, 0⟩ := ⟨_, rfl⟩
      have r01 : R = 0 ∨ R = 1 := by rw [hR]; exact chk_01 _
      have HK2 : R = 0 → Hid (∀ j, (h : j < l.length) → j < k + 1 → Staged l[j].pk l[j].pn l[j].pb) := fun hr => Lib.hid fun j h hj => by
        rcases (show j < k ∨ j = k by omega) with z | z
        · exact HK.out j h z
        · subst z; exact ok_stage (ok_of_chk (hR.symm.trans hr))
      have HR := Lib.hid hR
      have HK2 := Lib.hid HK2
      clear hR
      generalize l[k].pk = pk at x0 HR
      generalize l[k].pn = pn at x1 HR
      generalize l[k].pb = pb2 at x2 HR hks
      clear hlt'
      rcases r01 with rfl | rfl
      · have HK3 := HK2.out rfl
        clear HK2
        go_wp2_with (go_at_call 54; with_reducible refine (check_big 1 1 0 pk pn 0 0 pb2 _ W2 hb hks 0 HR.out).mono ?_; rintro e w9 ⟨rfl, hb9⟩; clear hb)
        go_roundw
        case rel => exact ⟨k + 1, by omega, by go_num, HK3, hb9⟩
        case measure => simp [intOf]; omega
      · clear HK2
        go_wp2_with (first
          | (go_at_call 54; with_reducible refine (check_big 1 1 0 pk pn 0 0 pb2 _ W2 hb hks 1 HR.out).mono ?_; rintro e w9 ⟨rfl, hb9⟩; clear hb)
          | (go_at_call 50; with_reducible refine (live6 _ W2 hb9).mono ?_; rintro e w10 ⟨rfl, hb10⟩))
        go_ret
        exact ⟨rfl, hbw.trans (hb10.mono hbw.size)⟩
    · obtain rfl : n = k := by omega
      have HPW : Hid (PgAt wr (some ad) l) := Lib.hid (HPG.out.below hb)
      have HST : Hid (∀ j, (h : j < l.length) → Staged l[j].pk l[j].pn l[j].pb) := Lib.hid fun j h => HK.out j h (by have := HN.out; omega)
      have hbe : Below w.heap.size w wr := hbw.trans (hb.mono hbw.size)
      have h230 : pb.size ≤ 230 := by
        have h := HST.out q (by have := HN.out; omega)
        unfold Staged at h
        rw [HPB.out]; exact h.2.2.2.2.1
      clear HK HPG hb hbw
      obtain ⟨i0, hi0, hz0, hz1, hz2⟩ := info_parts info72
      have HI := Lib.hid hi0
      have HZ := Lib.hid hz0
      have HZ1 := Lib.hid hz1
      have HZ2 := Lib.hid hz2
      clear hi0 hz0 hz1 hz2
      have hn0 : 0 < n := by omega
      go_upto_region 11 with (first
        | (refine wpList_appendPages rfl _ _ rfl Try.underlying75 i0 HI.out HZ.out HZ1.out HZ2.out ad n cap l rfl rfl HN.out hn0 s1 HPW.out ?_; intro W5 g c5 cur hgb hrow hcur hgr hnc; replace g2 := World.grownBy.cell hgr g2 (by simp); have HROW := Lib.hid hrow; have HCUR := Lib.hid hcur; clear hrow hcur))
      have l5 : g < W5.heap.size := (Array.getElem?_eq_some_iff.1 HROW.out).1
      obtain ⟨bb, hbb⟩ : ∃ bb, bb = W5.heap.size := ⟨_, rfl⟩
      have HBB := Lib.hid hbb
      clear hbb
      go_upto_region 12 with (first
        | (refine wpList_bytes' (by first | rfl | go_simp) 9 30 5 _ rfl pb rfl Try.underlying9 Try.underlying30 Try.underlying5 ?_; intro W6 c6 hW6 hg6 hz6 hcs; rw [← HBB.out] at hW6 ⊢; have HW6 := Lib.hid hW6; clear hW6))
      have HB6 : Blk W6 bb 5 (bytesOf (pb.data.toList ++ List.replicate (c6 - pb.size) 0)) := by rw [← bytesRow_eq]; exact HW6.out
      have hrow6 : W6.heap[g]? = some (.cells cur 72 (0, 0)) := (hg6.block g l5 (by simp)).trans HROW.out
      have hbg : w.heap.size ≤ g := Nat.le_trans hbe.size hgb
      have hbb2 : w.heap.size ≤ bb := by rw [HBB.out]; exact Nat.le_trans hbe.size hgr.size
      have hgne : g ≠ bb := by have := HBB.out; omega
      have hbr6 : Below wr.heap.size wr W6 := ((Below.refl _ _).grown hgr (Nat.le_refl _) (by simp)).grown hg6 hgr.size (by simp)
      have hbb3 : wr.heap.size ≤ bb := by rw [HBB.out]; exact hgr.size
      have HROW6 := Lib.hid hrow6
      clear hrow6 HROW HW6 hg6 hgr g2 hz6 l5
      have hpl : p < pb.data.toList.length := by rw [toList_size]; exact s5
      obtain ⟨x, hx⟩ : ∃ x, x = pb.data.toList[p] := ⟨_, rfl⟩
      have hcell : W6.cell? ⟨bb, p, none⟩ = some (.int .u8 (x.toNat : Int)) := by
        have hg : (pb.data.toList ++ List.replicate (c6 - pb.size) 0)[p]? = some x := by
          rw [List.getElem?_append_left hpl, List.getElem?_eq_getElem hpl, hx]
        obtain ⟨h1, h2⟩ := List.getElem?_eq_some_iff.1 hg
        rw [HB6.cell, bytesOf_get _ _ h1, h2]
      have hfro : W6.frozen? ⟨bb, p, none⟩ = false := HB6.frozen (by rw [bytesOf_size, List.length_append]; omega)
      have hx8 := bits_bit x t (by omega)
      obtain ⟨y, hy⟩ : ∃ y, y = bitTurned x t := ⟨_, rfl⟩
      rw [← hy] at hx8
      have HX := Lib.hid hx
      have HY := Lib.hid hy
      clear hx hy
      go_upto_region 13 with (fail)
      have HB7 : Blk (W6.setCell ⟨bb, p, none⟩ (.int .u8 (y.toNat : Int))) bb 5 (bytesOf (pb.data.toList.set p y ++ List.replicate (c6 - pb.size) 0)) := by
        have h := HB6.store p (.int .u8 (y.toNat : Int))
        rw [bytesOf_set, List.set_append_left _ _ hpl] at h
        exact h
      have hg7 := grown_setCells bb [Value.int .u8 (y.toNat : Int)] p W6
      change W6.grownBy (W6.setCell ⟨bb, p, none⟩ (.int .u8 (y.toNat : Int))) (some bb) at hg7
      clear hcell hfro hx8 HB6
      generalize W6.setCell { block := bb, off := p } (Value.int IntKind.u8 ↑y.toNat) = W7 at HB7 hg7 ⊢
      have l6 : g < W6.heap.size := (Array.getElem?_eq_some_iff.1 HROW6.out).1
      have HROW7 : Hid (W7.heap[g]? = some (.cells cur 72 (0, 0))) := Lib.hid ((hg7.block g l6 (fun e => hgne (Option.some.inj e))).trans HROW6.out)
      have hbr7 : Below wr.heap.size wr W7 := hbr6.grown hg7 hbr6.size (fun k hk => by have := Option.some.inj hk; omega)
      clear hbr6
      obtain ⟨z, hz⟩ : ∃ z, z = txt (pb.data.toList.set p y) := ⟨_, rfl⟩
      have hzl : z.data.toList = pb.data.toList.set p y := by rw [hz]; rfl
      have HC : Hid (∀ i, (h : i < (pb.data.toList.set p y).length) → W7.cell? ⟨bb, 0 + i, none⟩ = some (.int .u8 ((pb.data.toList.set p y)[i].toNat : Int))) := Lib.hid fun i h => by
        rw [Nat.zero_add, HB7.cell, bytesOf_get _ _ (by rw [List.length_append]; omega)]
        congr 3
        rw [List.getElem_append_left h]
      have HZL := Lib.hid hzl
      have HLN : Hid ((pb.data.toList.set p y).length = pb.size) := Lib.hid (by rw [List.length_set, toList_size])
      clear hz hzl HB7
      have hc2 : W7.cell? ⟨g, q * 3 + 2, none⟩ = some (.string pb) := by
        rw [cell_of_row _ _ _ _ _ _ HROW7.out, HPB.out]
        exact (HCUR.out q hql).2.2
      have hf2 : W7.frozen? ⟨g, q * 3 + 2, none⟩ = false := by simp [World.frozen?, HROW7.out]
      go_upto_region 14 with (first
        | (refine wpList_string (by first | rfl | go_simp) 30 9 5 _ rfl bb 0 pb.size c6 rfl Try.underlying30 Try.underlying5 Try.underlying9 z _ HZL.out HLN.out HC.out ?_))
      have hrow8 : (W7.setCell ⟨g, q * 3 + 2, none⟩ (.string z)).heap[g]? = some (.cells (cur.setIfInBounds (q * 3 + 2) (.string z)) 72 (0, 0)) := by
        rw [setCell_eq_setRow W7 g (q * 3 + 2) cur 72 _ (.string z) HROW7.out]
        exact setRow_heap W7 g cur _ 72 _ HROW7.out
      have hbr8 : Below wr.heap.size wr (W7.setCell ⟨g, q * 3 + 2, none⟩ (.string z)) := hbr7.setCell hgb _
      have HM : Hid (PgAt (W7.setCell ⟨g, q * 3 + 2, none⟩ (.string z)) (some ⟨g, 0, none⟩) (l.set q ⟨l[q].pk, l[q].pn, z⟩)) := Lib.hid ((HCUR.out.store q hql z).at' hrow8)
      clear hc2 hf2 HC HLN hrow8 hbr7 HROW7 hg7
      generalize W7.setCell { block := g, off := q * 3 + 2 } (Value.string z) = W8 at hbr8 HM ⊢
      have hzs : z.size = pb.size := by rw [← toList_size, HZL.out, List.length_set, toList_size]
      have HB1 : Hid (∀ p ∈ l, p.pb.size ≤ 230) := Lib.hid fun u hu => by
        obtain ⟨j, hj, rfl⟩ := List.getElem_of_mem hu
        have h := HST.out j hj
        unfold Staged at h
        exact h.2.2.2.2.1
      have HB2 : Hid (∀ p ∈ l.set q ⟨l[q].pk, l[q].pn, z⟩, p.pb.size ≤ 230) := Lib.hid fun u hu => by
        rcases List.mem_or_eq_of_mem_set hu with h | h
        · exact HB1.out u h
        · rw [h]; simp only; omega
      obtain ⟨l2, hl2'⟩ : ∃ l2, l2 = l.set q ⟨l[q].pk, l[q].pn, z⟩ := ⟨_, rfl⟩
      have hn2 : n = l2.length := by rw [hl2', List.length_set]; exact HN.out
      have HN2 := Lib.hid hn2
      obtain ⟨RM, hRM⟩ : ∃ R, R = sumTo l2 n := ⟨_, rfl⟩
      obtain ⟨RL, hRL⟩ : ∃ R, R = sumTo l n := ⟨_, rfl⟩
      have hne : RM ≠ RL := by
        rw [hRM, hRL, hl2']
        have hpq : p < l[q].pb.data.toList.length := by rw [← HPB.out]; exact hpl
        refine sums_ne l q hql (by have := HN.out; omega) p hpq y ?_ z (by rw [HZL.out, HPB.out]) (HST.out q hql) n HN.out
        have e : l[q].pb.data.toList[p] = x := by rw [HX.out]; congr 2; rw [HPB.out]
        rw [e, HY.out]
        exact bit_ne x t (by omega)
      rw [← hl2'] at HM HB2
      have HRM := Lib.hid hRM
      have HRL := Lib.hid hRL
      clear hn2 hRM hRL hl2' hzs HST HZL HX HY hpl
      have d1 : (RM == RL) = false := beq_eq_false_iff_ne.2 hne
      have d2 : (RM != RL) = true := bne_iff_ne.2 hne
      have HNE := Lib.hid hne
      clear hne
      go_wp2_with (first
        | (go_at_call 56; with_reducible refine (sumP_at l2 (some ⟨g, 0, none⟩) c5 n _ HM.out HN2.out s1 HB2.out RM HRM.out).mono ?_; rintro e w20 ⟨rfl, hb20⟩; have hbr9 := hbr8.trans (hb20.mono hbr8.size))
        | (go_at_call 56; with_reducible refine (sumP_at l (some ad) cap n _ (HPW.out.below hbr9) HN.out s1 HB1.out RL HRL.out).mono ?_; rintro e w21 ⟨rfl, hb21⟩; have hbr10 := hbr9.trans (hb21.mono hbr9.size))
        | (go_at_call 50; with_reducible refine (live6 _ w (hbe.trans (hbr10.mono hbe.size))).mono ?_; rintro e w22 ⟨rfl, hb22⟩))
      go_ret
      exact ⟨rfl, hb22⟩
end Go.Proofs.Ytmibbklafogbkaa
