/- The walk of the law FieldScripts. -/
import Derived.Test.YtmibbklafogbkaaE
import Derived.Deep.QuietTactic
import Derived.BigQuiet
import Derived.Deep.RegionHeld3
import Derived.Deep.Cut
import Derived.Test.YtmibbklafogbkaaL1
namespace Go.Proofs.Ytmibbklafogbkaa
open Go.RowKit
open Fld
/-- an 'Op' at a place of memory -/
def OpAt (w : World) (b o : Nat) (z0 z1 z2 z3 : Int) (z4 : ByteArray) : Prop :=
  w.cell? ⟨b, o, none⟩ = some (.int .i64 z0) ∧ w.cell? ⟨b, o + 1, none⟩ = some (.int .i64 z1) ∧ w.cell? ⟨b, o + 2, none⟩ = some (.int .i64 z2) ∧ w.cell? ⟨b, o + 3, none⟩ = some (.int .u32 z3) ∧ w.cell? ⟨b, o + 4, none⟩ = some (.string z4)
def OpOk (z0 z1 z2 z3 : Int) (z4 : ByteArray) : Prop := (Lit.int .i64 z0).wf = true ∧ (Lit.int .i64 z1).wf = true ∧ (Lit.int .i64 z2).wf = true ∧ (Lit.int .u32 z3).wf = true ∧ z4.size ≤ maxLen
def Script (w : World) (so : Option Addr) (len : Nat) : Prop :=
  len = 0 ∨ ∃ sb sof, so = some ⟨sb, sof, none⟩ ∧ sb < w.heap.size ∧ ∀ i, i < len → ∃ z0 z1 z2 z3 z4, OpAt w sb (sof + i * 5) z0 z1 z2 z3 z4 ∧ OpOk z0 z1 z2 z3 z4
theorem zero58 : ∀ w, (zeroValue 58).run Try.prog w = .ok (.agg #[.int .i64 0, .int .i64 0, .int .i64 0, .int .u32 0, .string ByteArray.empty]) w := (zero_of_info (n := 5) (by kernel_rfl)).1
theorem grown_new {w W5 W6 : World} {b : Nat} (h5 : w.grownBy W5 none) (h6 : W5.grownBy W6 (some b)) (hb : w.heap.size ≤ b) : w.grownBy W6 none :=
  ⟨h6.os.trans h5.os, h6.tape.trans h5.tape, h6.output.trans h5.output, Nat.le_trans h5.size h6.size, fun k hk _ => (h6.block k (Nat.lt_of_lt_of_le hk h5.size) (fun e => by have := Option.some.inj e; omega)).trans (h5.block k hk (by simp))⟩
theorem op_one (z0 z1 z2 z3 : Int) (z4 : ByteArray) : (#[Value.int .i64 z0, Value.int .i64 z1, Value.int .i64 z2, Value.int .u32 z3, Value.string z4]).all (·.oneCell') = true := by simp [Value.oneCell']
set_option maxRecDepth 100000 in
theorem conv_area {w : World} {p B c : Nat} {l pad : List UInt8} (h : RefAt w p B c l pad) : (convert 30 9 (.slice (some ⟨B, 0, none⟩) l.length c)).run Try.prog w = .ok (.string (txt l)) w :=
  run_string_of 30 9 5 Try.underlying30 Try.underlying5 Try.underlying9 B 0 l.length c l rfl (by
    intro i hi
    have := row_cells (l := l) (pad := pad) h.row 0 l.length 0 (by omega) (fun _ => rfl) i (by rw [getL_length l 0 l.length (by omega)]; exact hi)
    simpa [getL] using this)
theorem size58 : (Try.prog.info? 58).map (·.size) = some 5 := by kernel_rfl
set_option maxRecDepth 100000 in
set_option maxHeartbeats 2000000 in
theorem scripts_ok (size : Int) (so : Option Addr) (len cap : Nat) (w : World) (h1 : 0 ≤ size) (h2 : size ≤ 4096) (hlen : len ≤ 9223372036854775807) (hscr : Script w so len) :
    Calls Try.prog 11 #[.int .i64 size, .slice so len cap] w fun e w' => e = .returned (.bool true) ∧ Below w.heap.size w w' := by
  have h0 : Below w.heap.size w w := Below.refl _ _
  obtain ⟨l0, hl0⟩ : ∃ l : List UInt8, l = List.replicate size.toNat 0 := ⟨_, rfl⟩
  have HL0 := Lib.hid hl0
  clear hl0
  have HSC := Lib.hid hscr
  clear hscr
  go_enter Try.func11, Try.ntmps11
  go_wp2_with (first
    | (go_at_call 34; with_reducible refine (newArea_any _ w size h0 h1 h2 l0 HL0.out).mono ?_; rintro e w1 ⟨p, B, c, pad, rfl, ho, hp1, hp2⟩)
    | (go_at_call 40; with_reducible refine (rnewArea_any _ w size ho.bel h1 h2 l0 HL0.out).mono ?_; rintro e w2 ⟨p', B', c', pad', rfl, hr, hg2, hq1, hq2⟩))
  have hP : Pair w w2 p B c p' B' c' l0 pad l0 pad' := ⟨⟨ho.area.keep (hg2.block _ ho.area.lt.1) (hg2.block _ ho.area.lt.2), hr.bel, ho.hp, ho.hB⟩, hr, by have := ho.area.lt.2; omega⟩
  clear ho hr hg2 hp1 hp2 hq1 hq2 HL0
  go_loopw [9] (fun i wr => ∃ (k : Nat) (l : List UInt8), k ≤ len ∧ i = .int .i64 k ∧ Pair w wr p B c p' B' c' l pad l pad') (fun i _ => len - (intOf i).toNat)
  case atStart => exact ⟨0, l0, by omega, rfl, hP⟩
  case round =>
    clear hP
    obtain ⟨k, l, hk, rfl, hP⟩ := hrel
    by_cases hlt : k < len ∧ k < 60
    · obtain ⟨hkl, hk60⟩ := hlt
      obtain ⟨sb, sof, rfl, hsb, hcells⟩ : ∃ sb sof, so = some ⟨sb, sof, none⟩ ∧ sb < w.heap.size ∧ ∀ i, i < len → ∃ z0 z1 z2 z3 z4, OpAt w sb (sof + i * 5) z0 z1 z2 z3 z4 ∧ OpOk z0 z1 z2 z3 z4 := by
        rcases HSC.out with h | h
        · omega
        · exact h
      obtain ⟨z0, z1, z2, z3, z4, ⟨c0, c1, c2, c3, c4⟩, ⟨w0, w1, w2, w3, w4⟩⟩ := hcells k hkl
      clear hcells
      have hb := hP.a.bel
      replace c0 := (hb.cell (p := ⟨_, _, none⟩) hsb).trans c0
      replace c1 := (hb.cell (p := ⟨_, _, none⟩) hsb).trans c1
      replace c2 := (hb.cell (p := ⟨_, _, none⟩) hsb).trans c2
      replace c3 := (hb.cell (p := ⟨_, _, none⟩) hsb).trans c3
      replace c4 := (hb.cell (p := ⟨_, _, none⟩) hsb).trans c4
      clear hb
      obtain ⟨ob, hob⟩ : ∃ ob, ob = wr.heap.size := ⟨_, rfl⟩
      have HOB := Lib.hid hob
      by_cases hz4 : 300 < z4.size
      · clear hob
        go_wp2_with (first
            | (refine wpList_allocArr rfl 58 rfl _ zero58 ?_; intro W5 hW5 hg5 hz5; rw [← HOB.out] at hW5 ⊢; have HW5 := Lib.hid hW5; have HZ5 := Lib.hid hz5; clear hW5 hz5)
            | (refine wpList_storeArr rfl 58 _ _ rfl ob #[.int .i64 z0, .int .i64 z1, .int .i64 z2, .int .u32 z3, .string z4] rfl rfl 58 _ HW5.out size58 rfl (op_one _ _ _ _ _) ?_; intro W6 hW6 hg6 hz6; have d0 := cell_of_row _ _ 0 _ _ _ hW6; have d1 := cell_of_row _ _ 1 _ _ _ hW6; have d2 := cell_of_row _ _ 2 _ _ _ hW6; have d3 := cell_of_row _ _ 3 _ _ _ hW6; have d4 := cell_of_row _ _ 4 _ _ _ hW6; simp at d0 d1 d2 d3 d4; clear hW6 hz6)
            | (go_at_call 35; with_reducible refine (live1_any _).mono ?_; rintro e w8 ⟨rfl, hb8⟩))
        have hQ : Pair w W6 p B c p' B' c' l pad l pad' := hP.grow (grown_new hg5 hg6 (by rw [HOB.out]; exact Nat.le_refl _))
        go_ret
        exact ⟨rfl, hQ.a.bel.trans (hb8.mono hQ.a.bel.size)⟩
      · clear hob
        go_upto_region 14 with (first
            | (refine wpList_allocArr rfl 58 rfl _ zero58 ?_; intro W5 hW5 hg5 hz5; rw [← HOB.out] at hW5 ⊢; have HW5 := Lib.hid hW5; have HZ5 := Lib.hid hz5; clear hW5 hz5)
            | (refine wpList_storeArr rfl 58 _ _ rfl ob #[.int .i64 z0, .int .i64 z1, .int .i64 z2, .int .u32 z3, .string z4] rfl rfl 58 _ HW5.out size58 rfl (op_one _ _ _ _ _) ?_; intro W6 hW6 hg6 hz6; have d0 := cell_of_row _ _ 0 _ _ _ hW6; have d1 := cell_of_row _ _ 1 _ _ _ hW6; have d2 := cell_of_row _ _ 2 _ _ _ hW6; have d3 := cell_of_row _ _ 3 _ _ _ hW6; have d4 := cell_of_row _ _ 4 _ _ _ hW6; simp at d0 d1 d2 d3 d4; clear hW6 hz6))
        have oB : ob ≠ B := by have := hP.a.area.lt; have := HOB.out; omega
        have oB' : ob ≠ B' := by have := hP.r.area.lt; have := HOB.out; omega
        have hQ : Pair w W6 p B c p' B' c' l pad l pad' := hP.grow (grown_new hg5 hg6 (by rw [HOB.out]; exact Nat.le_refl _))
        clear hP c0 c1 c2 c3 c4 hg5 hg6 HZ5 d0
        obtain ⟨b1l, b1h⟩ := bounds_i64 w1
        obtain ⟨b2l, b2h⟩ := bounds_i64 w2
        obtain ⟨b3l, b3h⟩ := bounds_u32 w3
        clear w0 w1 w2 w3
        rcases (show z0 = 0 ∨ z0 = 1 ∨ z0 = 2 ∨ z0 = 3 ∨ (z0 ≠ 0 ∧ z0 ≠ 1 ∧ z0 ≠ 2 ∧ z0 ≠ 3) by omega) with rfl | rfl | rfl | rfl | ⟨n0, n1, n2, n3⟩
        · generalize hl1 : putL l z1 z2 z3 = l1
          have HL1 := Lib.hid hl1
          have HS := Lib.hid (And.intro d1 (And.intro d2 d3))
          replace hQ := hQ.drew
          clear hl1 d1 d2 d3 d4
          go_upto_region 15 with (fail)
          go_region_held3 (fun W' => W'.cell? ⟨ob, 1, none⟩ = some (.int .i64 z1) ∧ W'.cell? ⟨ob, 2, none⟩ = some (.int .i64 z2) ∧ W'.cell? ⟨ob, 3, none⟩ = some (.int .u32 z3)) (first | exact HS.out)
            (first
              | (go_at_call 36; refine (fput_any hQ.a z1 z2 z3 b1l b1h b2l b2h b3l (by omega)).mono ?_; rintro e w7 ⟨rfl, ho7, hg7⟩; replace hQ := hQ.stepA ho7 hg7; rw [HL1.out] at hQ; clear ho7; replace HS := Lib.hid (And.intro (World.grownBy.cell (a := ⟨ob,1,none⟩) hg7 HS.out.1 (fun e => oB (Option.some.inj e))) (And.intro (World.grownBy.cell (a := ⟨ob,2,none⟩) hg7 HS.out.2.1 (fun e => oB (Option.some.inj e))) (World.grownBy.cell (a := ⟨ob,3,none⟩) hg7 HS.out.2.2 (fun e => oB (Option.some.inj e))))); clear hg7)
              | (go_at_call 41; refine (rput_any hQ.r z1 z2 z3 b1l b1h b2l b2h b3l (by omega)).mono ?_; rintro e w7 ⟨rfl, ho7, hg7⟩; replace hQ := hQ.stepR ho7 hg7; rw [HL1.out] at hQ; clear ho7; replace HS := Lib.hid (And.intro (World.grownBy.cell (a := ⟨ob,1,none⟩) hg7 HS.out.1 (fun e => oB' (Option.some.inj e))) (And.intro (World.grownBy.cell (a := ⟨ob,2,none⟩) hg7 HS.out.2.1 (fun e => oB' (Option.some.inj e))) (World.grownBy.cell (a := ⟨ob,3,none⟩) hg7 HS.out.2.2 (fun e => oB' (Option.some.inj e))))); clear hg7))
          all_goals (clear HL1 oB oB' HS b1l b1h b2l b2h b3l; (go_upto_region 26 with (fail); have rc := hQ.r.area.cell; have rs := fun n => conv_area (hQ.drewN n).r.area; go_quiet (first | (go_at_call 39; exact Calls.quiet_of_same ((bytes_any (hQ.drewN _).a).mono fun e w' h => ⟨h.1, h.2.symm⟩)) | (go_at_call 49; exact Calls.quiet_of_same ((size_any (hQ.drewN _).a).mono fun e w' h => ⟨h.1, h.2.symm⟩))); go_wp2; exact ⟨⟨k + 1, l1, by omega, by simp, hQ.drewN nq⟩, by simp [intOf]; omega⟩))
        · generalize hl1 : l = l1
          rw [hl1] at hQ
          clear hl1
          go_upto_region 26 with (first
            | (go_at_call 37; refine (fget_any hQ.a z1 z2 b1l b1h b2l b2h).mono ?_; rintro e w7 ⟨rfl, rfl⟩)
            | (go_at_call 42; refine (rget_any hQ.r z1 z2 b1l b1h b2l b2h).mono ?_; rintro e w7 ⟨rfl, rfl⟩))
          (go_upto_region 26 with (fail); have rc := hQ.r.area.cell; have rs := fun n => conv_area (hQ.drewN n).r.area; go_quiet (first | (go_at_call 39; exact Calls.quiet_of_same ((bytes_any (hQ.drewN _).a).mono fun e w' h => ⟨h.1, h.2.symm⟩)) | (go_at_call 49; exact Calls.quiet_of_same ((size_any (hQ.drewN _).a).mono fun e w' h => ⟨h.1, h.2.symm⟩))); go_wp2; exact ⟨⟨k + 1, l1, by omega, by simp, hQ.drewN nq⟩, by simp [intOf]; omega⟩)
        · generalize hl1 : putS l z1 z4 = l1
          have HL1 := Lib.hid hl1
          have HS := Lib.hid (And.intro d1 d4)
          replace hQ := hQ.drew
          clear hl1 d1 d2 d3 d4
          go_upto_region 21 with (fail)
          go_region_held3 (fun W' => W'.cell? ⟨ob, 1, none⟩ = some (.int .i64 z1) ∧ W'.cell? ⟨ob, 4, none⟩ = some (.string z4)) (first | exact HS.out)
            (first
              | (go_at_call 43; refine (fputText_any hQ.a z1 z4 b1l b1h w4).mono ?_; rintro e w7 ⟨rfl, ho7, hg7⟩; replace hQ := hQ.stepA ho7 hg7; rw [HL1.out] at hQ; clear ho7; replace HS := Lib.hid (And.intro (World.grownBy.cell (a := ⟨ob,1,none⟩) hg7 HS.out.1 (fun e => oB (Option.some.inj e))) (World.grownBy.cell (a := ⟨ob,4,none⟩) hg7 HS.out.2 (fun e => oB (Option.some.inj e)))); clear hg7)
              | (go_at_call 44; refine (rputText_any hQ.r z1 z4 b1l b1h w4).mono ?_; rintro e w7 ⟨rfl, ho7, hg7⟩; replace hQ := hQ.stepR ho7 hg7; rw [HL1.out] at hQ; clear ho7; replace HS := Lib.hid (And.intro (World.grownBy.cell (a := ⟨ob,1,none⟩) hg7 HS.out.1 (fun e => oB' (Option.some.inj e))) (World.grownBy.cell (a := ⟨ob,4,none⟩) hg7 HS.out.2 (fun e => oB' (Option.some.inj e)))); clear hg7))
          all_goals (clear HL1 oB oB' HS b1l b1h b2l b2h b3l; (go_upto_region 26 with (fail); have rc := hQ.r.area.cell; have rs := fun n => conv_area (hQ.drewN n).r.area; go_quiet (first | (go_at_call 39; exact Calls.quiet_of_same ((bytes_any (hQ.drewN _).a).mono fun e w' h => ⟨h.1, h.2.symm⟩)) | (go_at_call 49; exact Calls.quiet_of_same ((size_any (hQ.drewN _).a).mono fun e w' h => ⟨h.1, h.2.symm⟩))); go_wp2; exact ⟨⟨k + 1, l1, by omega, by simp, hQ.drewN nq⟩, by simp [intOf]; omega⟩))
        · generalize hl1 : l = l1
          rw [hl1] at hQ
          clear hl1
          go_upto_region 26 with (first
            | (go_at_call 45; refine (fgetText_any hQ.a z1 z2 b1l b1h b2l b2h).mono ?_; rintro e w7 ⟨rfl, rfl⟩)
            | (go_at_call 46; refine (rgetText_any hQ.r z1 z2 b1l b1h b2l b2h).mono ?_; rintro e w7 ⟨rfl, rfl⟩))
          (go_upto_region 26 with (fail); have rc := hQ.r.area.cell; have rs := fun n => conv_area (hQ.drewN n).r.area; go_quiet (first | (go_at_call 39; exact Calls.quiet_of_same ((bytes_any (hQ.drewN _).a).mono fun e w' h => ⟨h.1, h.2.symm⟩)) | (go_at_call 49; exact Calls.quiet_of_same ((size_any (hQ.drewN _).a).mono fun e w' h => ⟨h.1, h.2.symm⟩))); go_wp2; exact ⟨⟨k + 1, l1, by omega, by simp, hQ.drewN nq⟩, by simp [intOf]; omega⟩)
        · generalize hl1 : moveL l z1 (z3.tmod 5000) z2 = l1
          have HL1 := Lib.hid hl1
          have HS := Lib.hid (And.intro d1 (And.intro d2 d3))
          replace hQ := hQ.drew
          clear hl1 d1 d2 d3 d4
          go_upto_region 13 with (fail)
          have m0 : 0 ≤ z3.tmod 5000 := Int.tmod_nonneg _ b3l
          have m1 : z3.tmod 5000 < 5000 := by rw [Int.tmod_eq_emod_of_nonneg b3l]; omega
          have mw : IntKind.u32.wrap (z3.tmod 5000) = z3.tmod 5000 := wraps_u32 _ m0 (by omega)
          have mi : IntKind.i64.wrap (z3.tmod 5000) = z3.tmod 5000 := IntWalk.i64_in _ (by omega)
          go_region_held3 (fun W' => W'.cell? ⟨ob, 1, none⟩ = some (.int .i64 z1) ∧ W'.cell? ⟨ob, 2, none⟩ = some (.int .i64 z2) ∧ W'.cell? ⟨ob, 3, none⟩ = some (.int .u32 z3)) (first | exact HS.out)
            (first
              | (go_at_call 47; refine (fmove_any hQ.a z1 (z3.tmod 5000) z2 b1l b1h (by omega) (by omega) b2l b2h).mono ?_; rintro e w7 ⟨rfl, ho7, hg7⟩; replace hQ := hQ.stepA ho7 hg7; rw [HL1.out] at hQ; clear ho7; replace HS := Lib.hid (And.intro (World.grownBy.cell (a := ⟨ob,1,none⟩) hg7 HS.out.1 (fun e => oB (Option.some.inj e))) (And.intro (World.grownBy.cell (a := ⟨ob,2,none⟩) hg7 HS.out.2.1 (fun e => oB (Option.some.inj e))) (World.grownBy.cell (a := ⟨ob,3,none⟩) hg7 HS.out.2.2 (fun e => oB (Option.some.inj e))))); clear hg7)
              | (go_at_call 48; refine (rmove_any hQ.r z1 (z3.tmod 5000) z2 b1l b1h (by omega) (by omega) b2l b2h).mono ?_; rintro e w7 ⟨rfl, ho7, hg7⟩; replace hQ := hQ.stepR ho7 hg7; rw [HL1.out] at hQ; clear ho7; replace HS := Lib.hid (And.intro (World.grownBy.cell (a := ⟨ob,1,none⟩) hg7 HS.out.1 (fun e => oB' (Option.some.inj e))) (And.intro (World.grownBy.cell (a := ⟨ob,2,none⟩) hg7 HS.out.2.1 (fun e => oB' (Option.some.inj e))) (World.grownBy.cell (a := ⟨ob,3,none⟩) hg7 HS.out.2.2 (fun e => oB' (Option.some.inj e))))); clear hg7))
          all_goals (clear HL1 oB oB' HS b1l b1h b2l b2h b3l; (go_upto_region 26 with (fail); have rc := hQ.r.area.cell; have rs := fun n => conv_area (hQ.drewN n).r.area; go_quiet (first | (go_at_call 39; exact Calls.quiet_of_same ((bytes_any (hQ.drewN _).a).mono fun e w' h => ⟨h.1, h.2.symm⟩)) | (go_at_call 49; exact Calls.quiet_of_same ((size_any (hQ.drewN _).a).mono fun e w' h => ⟨h.1, h.2.symm⟩))); go_wp2; exact ⟨⟨k + 1, l1, by omega, by simp, hQ.drewN nq⟩, by simp [intOf]; omega⟩))
    · have hb := hP.a.bel
      by_cases hkl : k < len
      · have hk60 : ¬ k < 60 := fun h => hlt ⟨hkl, h⟩
        go_wp2_with (go_at_call 35; with_reducible refine (live1_any _).mono ?_; rintro e w8 ⟨rfl, hb8⟩)
        go_ret
        exact ⟨rfl, hb.trans (hb8.mono hb.size)⟩
      · go_wp2_with (go_at_call 35; with_reducible refine (live1_any _).mono ?_; rintro e w8 ⟨rfl, hb8⟩)
        go_ret
        exact ⟨rfl, hb.trans (hb8.mono hb.size)⟩
set_option maxRecDepth 100000 in
set_option maxHeartbeats 1000000 in
theorem scripts_bad (size : Int) (so : Option Addr) (len cap : Nat) (w : World) (h : size < 0 ∨ 4096 < size) :
    Calls Try.prog 11 #[.int .i64 size, .slice so len cap] w fun e w' => e = .returned (.bool true) ∧ Below w.heap.size w w' := by
  have arms : True := trivial
  by_cases hl : 0 < len
  all_goals
    go_enter Try.func11, Try.ntmps11
    go_wp2_with (first
      | (go_at_call 34; with_reducible refine (new_bad size _ h).mono ?_; rintro e w1 ⟨rfl, rfl⟩)
      | (go_at_call 40; with_reducible refine (rnew_bad size _ h).mono ?_; rintro e w2 ⟨rfl, rfl⟩))
    go_loopw [9] (fun i wr => i = .int .i64 0 ∧ wr = w) (fun _ _ => 0)
    case atStart => exact ⟨rfl, rfl⟩
    case round =>
      obtain ⟨rfl, rfl⟩ := hrel
      go_wp2_with (go_at_call 35; with_reducible refine (live1_any _).mono ?_; rintro e w8 ⟨rfl, hb8⟩)
      go_ret
      exact ⟨rfl, hb8⟩
theorem scripts_walk (size : Int) (so : Option Addr) (len cap : Nat) (w : World) (hlen : len ≤ 9223372036854775807) (hscr : Script w so len) :
    Calls Try.prog 11 #[.int .i64 size, .slice so len cap] w fun e w' => e = .returned (.bool true) ∧ Below w.heap.size w w' := by
  by_cases h : size < 0 ∨ 4096 < size
  · exact scripts_bad size so len cap w h
  · exact scripts_ok size so len cap w (by omega) (by omega) hlen hscr
end Go.Proofs.Ytmibbklafogbkaa
