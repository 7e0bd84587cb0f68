/- The page layer: torn bytes (64, 65), may a page be (84). -/
import Derived.Test.YtmibbklafogbkaaPa
namespace Go.Proofs.Ytmibbklafogbkaa
open Go.RowKit
open Fld
def Whole (s : ByteArray) (n : Int) : Prop := s.size = 256 ∧ 0 ≤ n ∧ n ≤ 256
theorem torn_yes {s : ByteArray} {n : Int} (h : Whole s n) : tornL s.data.toList n = s.data.toList.take n.toNat ++ List.replicate (256 - n.toNat) 238 ∧ tornI s.data.toList n = 0 := by
  unfold tornL tornI
  rw [toList_size]
  unfold Whole at h
  rw [if_pos h, if_pos h]
  exact ⟨rfl, rfl⟩
theorem torn_no {s : ByteArray} {n : Int} (h : ¬ Whole s n) : tornL s.data.toList n = [] ∧ tornI s.data.toList n = 1 := by
  unfold tornL tornI
  rw [toList_size]
  unfold Whole at h
  rw [if_neg h, if_neg h]
  exact ⟨rfl, rfl⟩
set_option maxRecDepth 100000 in
set_option maxHeartbeats 2000000 in
theorem torn_ok (s : ByteArray) (n : Int) (w : World) (h : Whole s n) : Calls Try.prog 64 #[.string s, .int .i64 n] w fun e w' => e = .returned (.tuple #[.string (txt (tornL s.data.toList n)), .int .i64 0]) ∧ Below w.heap.size w w' := by
  rw [(torn_yes h).1]
  obtain ⟨h1, h2, h3⟩ := h
  obtain ⟨m, rfl⟩ := Int.eq_ofNat_of_zero_le h2
  rw [Int.toNat_natCast]
  obtain ⟨R, hR⟩ : ∃ R, R = txt (List.replicate (256 - m) 238) := ⟨_, rfl⟩
  have hRs : R.size = 256 - m := by rw [hR, txt_size, List.length_replicate]
  have hx : s.extract 0 m ++ R = txt (s.data.toList.take m ++ List.replicate (256 - m) 238) := by
    rw [hR]
    apply ByteArray.ext
    apply Array.toList_inj.1
    simp [txt]
  rw [← hx]
  have HR := Lib.hid hR.symm
  have hm : (m : Int) ≤ (s.size : Int) := by omega
  have f1 : (9223372036854775807 < min m s.size + R.size) = False := eq_false (by omega)
  have f2 : (9223372036854775807 < (s.extract 0 m).size + R.size) = False := eq_false (by rw [ByteArray.size_extract]; omega)
  have f3 : (9223372036854775807 < min s.size m + R.size) = False := eq_false (by omega)
  have f4 : (9223372036854775807 < m + R.size) = False := eq_false (by omega)
  have b1 : ((s.size : Int) == 256) = true := by rw [beq_iff_eq]; omega
  have g1 : (256 : Int) ≤ (s.size : Int) := by omega
  have g2 : (s.size : Int) ≤ 256 := by omega
  clear hR hRs hx h1
  go_enter Try.func64, Try.ntmps64
  go_upto_region 3 with (fail)
  have hb : Below w.heap.size w w.drew := (Below.refl _ _).drew
  go_region_held3 (fun W' => True) (first | exact trivial)
    (first
      | (go_at_call 86; (with_reducible refine (rep_at 238 _ (256 - m) (by first | omega | (rw [IntWalk.i64_in _ (by omega)]; omega)) (by omega) _ w hb).mono ?_); rintro e w12 ⟨rfl, hb9⟩; replace hb := hb9; clear hb9; rw [HR.out]))
  all_goals
    go_wp2
    go_ret2
    exact ⟨rfl, hb⟩
set_option maxRecDepth 100000 in
set_option maxHeartbeats 2000000 in
theorem torn_not (s : ByteArray) (n : Int) (w : World) (h : ¬ Whole s n) : Calls Try.prog 64 #[.string s, .int .i64 n] w fun e w' => e = .returned (.tuple #[.string ⟨#[]⟩, .int .i64 1]) ∧ Below w.heap.size w w' := by
  have h' : s.size ≠ 256 ∨ (s.size = 256 ∧ n < 0) ∨ (s.size = 256 ∧ 0 ≤ n ∧ 256 < n) := by unfold Whole at h; omega
  clear h
  rcases h' with h1 | ⟨h1, h2⟩ | ⟨h1, h2, h3⟩
  · have b1 : ¬ ((s.size : Int) = 256) := by omega
    clear h1
    go_enter Try.func64, Try.ntmps64
    go_wp2
    go_ret2
    exact ⟨rfl, Below.refl _ _⟩
  · go_enter Try.func64, Try.ntmps64
    go_wp2
    go_ret2
    exact ⟨rfl, Below.refl _ _⟩
  · go_enter Try.func64, Try.ntmps64
    go_wp2
    go_ret2
    exact ⟨rfl, Below.refl _ _⟩
theorem torn_at (s : ByteArray) (n : Int) (w w0 : World) (hb : Below w0.heap.size w0 w) (S : ByteArray) (F : Int) (hS : S = txt (tornL s.data.toList n)) (hF : F = tornI s.data.toList n) :
    Calls Try.prog 64 #[.string s, .int .i64 n] w fun e w' => e = .returned (.tuple #[.string S, .int .i64 F]) ∧ Below w0.heap.size w0 w' := by
  rw [hS, hF]
  by_cases h : Whole s n
  · rw [(torn_yes h).2]
    exact (torn_ok s n w h).mono fun _ _ ⟨a, b⟩ => ⟨a, hb.trans (b.mono hb.size)⟩
  · rw [(torn_no h).1, (torn_no h).2]
    exact (torn_not s n w h).mono fun _ _ ⟨a, b⟩ => ⟨a, hb.trans (b.mono hb.size)⟩
set_option maxRecDepth 100000 in
set_option maxHeartbeats 2000000 in
theorem rtorn_not (s : ByteArray) (n : Int) (w : World) (h : ¬ Whole s n) : Calls Try.prog 65 #[.string s, .int .i64 n] w fun e w' => e = .returned (.tuple #[.string ⟨#[]⟩, .int .i64 1]) ∧ w = w' := by
  have h' : s.size ≠ 256 ∨ (s.size = 256 ∧ n < 0) ∨ (s.size = 256 ∧ 0 ≤ n ∧ 256 < n) := by unfold Whole at h; omega
  clear h
  rcases h' with h1 | ⟨h1, h2⟩ | ⟨h1, h2, h3⟩
  · have b1 : ¬ ((s.size : Int) = 256) := by omega
    clear h1
    go_enter Try.func65, Try.ntmps65
    go_wp2
    go_ret2
    exact ⟨rfl, rfl⟩
  · go_enter Try.func65, Try.ntmps65
    go_wp2
    go_ret2
    exact ⟨rfl, rfl⟩
  · go_enter Try.func65, Try.ntmps65
    go_wp2
    go_ret2
    exact ⟨rfl, rfl⟩
set_option maxRecDepth 100000 in
set_option maxHeartbeats 2000000 in
theorem rtorn_ok (s : ByteArray) (n : Int) (w : World) (h : Whole s n) : Calls Try.prog 65 #[.string s, .int .i64 n] w fun e w' => e = .returned (.tuple #[.string (txt (tornL s.data.toList n)), .int .i64 0]) ∧ w = w' := by
  rw [(torn_yes h).1]
  obtain ⟨h1, h2, h3⟩ := h
  obtain ⟨m, rfl⟩ := Int.eq_ofNat_of_zero_le h2
  rw [Int.toNat_natCast]
  obtain ⟨R, hR⟩ : ∃ R, R = txt (s.data.toList.take m ++ List.replicate (256 - m) 238) := ⟨_, rfl⟩
  rw [← hR]
  have HR := Lib.hid hR
  have g1 : (256 : Int) ≤ (s.size : Int) := by omega
  have g2 : (s.size : Int) ≤ 256 := by omega
  have b1 : ((s.size : Int) == 256) = true := by rw [beq_iff_eq]; omega
  have hx0 : (s.extract 0 m).size = m := by rw [ByteArray.size_extract]; omega
  have hx1 : (s.extract 0 m).data.toList = s.data.toList.take m := by simp
  have HX0 := Lib.hid hx0
  have HX1 := Lib.hid hx1
  clear hR h1 hx0 hx1
  have hm : (m : Int) ≤ (s.size : Int) := by omega
  go_enter Try.func65, Try.ntmps65
  go_wp2
  go_loop [6] (fun v => ∃ x : ByteArray, v = .string x ∧ Hid (x.data.toList = s.data.toList.take m ++ List.replicate (x.size - m) 238) ∧ m ≤ x.size ∧ x.size ≤ 256) (fun v => match v with | .string b => 256 - b.size | _ => 0)
  case atStart => exact ⟨_, rfl, Lib.hid (by rw [HX1.out, HX0.out]; simp), by rw [HX0.out]; exact Nat.le_refl _, by rw [HX0.out]; omega⟩
  case round =>
    obtain ⟨x, rfl, HX, l1, l2⟩ := hrel
    by_cases hlt : x.size < 256
    · have hsz : (x ++ (⟨#[238]⟩ : ByteArray)).size = x.size + 1 := by rw [ByteArray.size_append]; rfl
      have HN : Hid ((x ++ (⟨#[238]⟩ : ByteArray)).data.toList = s.data.toList.take m ++ List.replicate ((x ++ (⟨#[238]⟩ : ByteArray)).size - m) 238) := Lib.hid (by
        rw [hsz, ByteArray.data_append, Array.toList_append, HX.out, show x.size + 1 - m = x.size - m + 1 by omega, List.replicate_succ']
        simp)
      have HSZ := Lib.hid hsz
      clear hsz
      go_wp2
      go_round
      case rel => exact ⟨_, rfl, HN, by rw [HSZ.out]; omega, by rw [HSZ.out]; omega⟩
      case measure => show 256 - (x ++ (⟨#[238]⟩ : ByteArray)).size < 256 - x.size; rw [HSZ.out]; omega
    · have hv : x = R := by
        rw [HR.out]
        apply ByteArray.ext
        apply Array.toList_inj.1
        have e : x.size = 256 := by omega
        rw [HX.out, e]
        rfl
      have HV := Lib.hid hv
      clear hv
      have g3 : (256 : Int) ≤ (x.size : Int) := by omega
      go_wp2
      go_ret2
      exact ⟨by rw [← HV.out]; rfl, rfl⟩
theorem rtorn_at (s : ByteArray) (n : Int) (w w0 : World) (hb : Below w0.heap.size w0 w) (S : ByteArray) (F : Int) (hS : S = txt (tornL s.data.toList n)) (hF : F = tornI s.data.toList n) :
    Calls Try.prog 65 #[.string s, .int .i64 n] w fun e w' => e = .returned (.tuple #[.string S, .int .i64 F]) ∧ Below w0.heap.size w0 w' := by
  rw [hS, hF]
  by_cases h : Whole s n
  · rw [(torn_yes h).2]
    exact (rtorn_ok s n w h).mono fun _ _ ⟨a, b⟩ => ⟨a, by rw [← b]; exact hb⟩
  · rw [(torn_no h).1, (torn_no h).2]
    exact (rtorn_not s n w h).mono fun _ _ ⟨a, b⟩ => ⟨a, by rw [← b]; exact hb⟩
set_option maxRecDepth 100000 in
set_option maxHeartbeats 2000000 in
theorem may_any (pk pn : Int) (pb : ByteArray) (w : World) :
    Calls Try.prog 84 #[.agg #[.int .i64 pk, .int .i64 pn, .string pb]] w fun r w' => r = .returned (.bool (decide (May ⟨pk, pn, pb⟩))) ∧ Below w.heap.size w w' := by
  obtain ⟨D, hD⟩ : ∃ D, D = decide (May ⟨pk, pn, pb⟩) := ⟨_, rfl⟩
  rw [← hD]
  have HD := Lib.hid hD
  clear hD
  rcases (show pk < 1 ∨ (1 ≤ pk ∧ 5 < pk) ∨ (1 ≤ pk ∧ pk ≤ 5 ∧ pn < 0) ∨ (1 ≤ pk ∧ pk ≤ 5 ∧ 0 ≤ pn ∧ 1000 ≤ pn) ∨ (1 ≤ pk ∧ pk ≤ 5 ∧ 0 ≤ pn ∧ pn < 1000 ∧ (244 : Int) < pb.size) ∨ (1 ≤ pk ∧ pk ≤ 5 ∧ 0 ≤ pn ∧ pn < 1000 ∧ (pb.size : Int) ≤ 244) by omega) with t1 | ⟨t1, t2⟩ | ⟨t1, t2, t3⟩ | ⟨t1, t2, t3, t4⟩ | ⟨t1, t2, t3, t4, t5⟩ | ⟨t1, t2, t3, t4, t5⟩
  all_goals
    go_enter Try.func84, Try.ntmps84
    go_upto_region 1 with (refine wpList_boxArr rfl 72 _ rfl _ rfl ?_; intro W1 hW1 hg1 hz1; have d0 := cell_of_row _ _ 0 _ _ _ hW1; have d1 := cell_of_row _ _ 1 _ _ _ hW1; have d2 := cell_of_row _ _ 2 _ _ _ hW1; simp at d0 d1 d2; clear hW1 hz1)
    go_wp2
    go_ret
    refine ⟨?_, (Below.refl _ _).grown hg1 (Nat.le_refl _) (by simp)⟩
    rw [HD.out]
    first
      | exact congrArg (fun b => Ending.returned (.bool b)) (show decide ((pb.size : Int) ≤ 244) = decide (May ⟨pk, pn, pb⟩) from by rw [decide_eq_decide]; unfold May; simp only; omega)
      | (rw [decide_eq_false (show ¬ May ⟨pk, pn, pb⟩ by unfold May; simp only; omega)]; rfl)
      | (rw [decide_eq_true (show May ⟨pk, pn, pb⟩ by unfold May; simp only; omega)]; rfl)
end Go.Proofs.Ytmibbklafogbkaa
