/- The walk of the law PageTorn. -/
import Derived.Test.YtmibbklafogbkaaPl
namespace Go.Proofs.Ytmibbklafogbkaa
open Go.RowKit
open Fld
theorem torn_whole (s : ByteArray) (h : s.size = 256) : txt (tornL s.data.toList s.size) = s ∧ tornI s.data.toList s.size = 0 := by
  obtain ⟨a, b⟩ := torn_yes (s := s) (n := s.size) ⟨h, by omega, by omega⟩
  rw [a, b]
  have e : 256 - ((s.size : Nat) : Int).toNat = 0 := by omega
  have e2 : s.data.toList.take ((s.size : Nat) : Int).toNat = s.data.toList := List.take_of_length_le (by rw [toList_size]; omega)
  rw [e, e2]
  simp [txt_data]
theorem torn_again (s : ByteArray) (a t : Int) (h : Whole s a) (A : ByteArray) (hA : A = txt (tornL s.data.toList a)) (ht : a ≤ t) (hf : tornI A.data.toList t = 0) : txt (tornL A.data.toList t) = A := by
  have hAl : A.data.toList = s.data.toList.take a.toNat ++ List.replicate (256 - a.toNat) 238 := by rw [hA, (torn_yes h).1]; rfl
  have hW : Whole A t := by
    by_cases q : Whole A t
    · exact q
    · rw [(torn_no q).2] at hf; exact absurd hf (by decide)
  rw [(torn_yes hW).1]
  obtain ⟨h1, h2, h3⟩ := h
  obtain ⟨q1, q2, q3⟩ := hW
  have e : A.data.toList.take t.toNat ++ List.replicate (256 - t.toNat) 238 = A.data.toList := by
    rw [hAl, List.take_append, List.take_of_length_le (by rw [List.length_take]; omega), List.take_replicate, List.append_assoc, List.length_take, toList_size, show min a.toNat s.size = a.toNat by omega, List.replicate_append_replicate]
    congr 2
    omega
  rw [e, txt_data]
set_option maxRecDepth 100000 in
set_option maxHeartbeats 4000000 in
theorem ptorn_walk (s : ByteArray) (a t : Int) (w : World) (hs : s.size ≤ maxLen) (_h1 : (Lit.int .i64 a).wf = true) (_h2 : (Lit.int .i64 t).wf = true) :
    Calls Try.prog 23 #[.string s, .int .i64 a, .int .i64 t] w fun e w' => e = .returned (.bool true) ∧ Below w.heap.size w w' := by
  have hs' : s.size ≤ 9223372036854775807 := hs
  have hb : Below w.heap.size w w := Below.refl _ _
  clear hs
  rcases (show 300 < s.size ∨ s.size ≤ 300 by omega) with s1 | s1
  · go_enter Try.func23, Try.ntmps23
    go_wp2_with (go_at_call 61; with_reducible refine (live3 _ w hb).mono ?_; rintro e w9 ⟨rfl, hb9⟩)
    go_ret
    exact ⟨rfl, hb9⟩
  by_cases hz : s.size = 256
  · obtain ⟨b1, g1, g2, g3⟩ := whole_facts hz
    obtain ⟨t1, t2⟩ := torn_whole s hz
    have HW := Lib.hid t1
    have HWI := Lib.hid t2
    clear t1 t2
    by_cases hw : Whole s a
    · obtain ⟨A, hA⟩ : ∃ A, A = txt (tornL s.data.toList a) := ⟨_, rfl⟩
      obtain ⟨FB, hFB⟩ : ∃ F, F = tornI A.data.toList t := ⟨_, rfl⟩
      obtain ⟨B, hB⟩ : ∃ B, B = txt (tornL A.data.toList t) := ⟨_, rfl⟩
      have fb : FB = 0 ∨ FB = 1 := by rw [hFB]; unfold tornI; split <;> simp
      have HE : Hid (FB = 0 → a ≤ t → B = A) := Lib.hid fun f l => by rw [hB]; exact torn_again s a t hw A hA l (hFB.symm.trans f)
      have HAI : Hid ((0 : Int) = tornI s.data.toList a) := Lib.hid (torn_yes hw).2.symm
      have HA := Lib.hid hA
      have HB := Lib.hid hB
      have HFB := Lib.hid hFB
      obtain ⟨hq0, a0, a1⟩ := hw
      clear hq0
      clear hA hB hFB hz
      go_enter Try.func23, Try.ntmps23
      go_upto_region 12 with (first
        | (go_at_call 64; with_reducible refine (torn_at s a _ w hb A 0 HA.out HAI.out).mono ?_; rintro e w9 ⟨rfl, hb9⟩)
        | (go_at_call 64; with_reducible refine (torn_at s (s.size : Int) _ w hb9 s 0 HW.out.symm HWI.out.symm).mono ?_; rintro e w10 ⟨rfl, hb10⟩)
        | (go_at_call 64; with_reducible refine (torn_at A t _ w hb10 B FB HB.out HFB.out).mono ?_; rintro e w11 ⟨rfl, hb11⟩))
      rcases fb with rfl | rfl
      · rcases (show t < a ∨ a ≤ t by omega) with l | l
        · go_wp2_with (go_at_call 61; with_reducible refine (live3 _ w hb11).mono ?_; rintro e w12 ⟨rfl, hb12⟩)
          go_ret
          exact ⟨rfl, hb12⟩
        · obtain rfl := HE.out rfl l
          go_wp2_with (go_at_call 61; with_reducible refine (live3 _ w hb11).mono ?_; rintro e w12 ⟨rfl, hb12⟩)
          go_ret
          exact ⟨rfl, hb12⟩
      · go_wp2_with (go_at_call 61; with_reducible refine (live3 _ w hb11).mono ?_; rintro e w12 ⟨rfl, hb12⟩)
        go_ret
        exact ⟨rfl, hb12⟩
    · obtain ⟨t1, t2⟩ := torn_no hw
      have HA : Hid ((⟨#[]⟩ : ByteArray) = txt (tornL s.data.toList a)) := Lib.hid (by rw [t1]; rfl)
      have HAI := Lib.hid t2.symm
      rcases (show a < 0 ∨ (0 ≤ a ∧ 256 < a) by unfold Whole at hw; omega) with l | ⟨l, l2⟩
      all_goals
        clear hw t1 t2 hz
        go_enter Try.func23, Try.ntmps23
        go_wp2_with (first
          | (go_at_call 64; with_reducible refine (torn_at s a _ w hb ⟨#[]⟩ 1 HA.out HAI.out).mono ?_; rintro e w9 ⟨rfl, hb9⟩)
          | (go_at_call 64; with_reducible refine (torn_at s (s.size : Int) _ w hb9 s 0 HW.out.symm HWI.out.symm).mono ?_; rintro e w10 ⟨rfl, hb10⟩)
          | (go_at_call 61; with_reducible refine (live3 _ w hb10).mono ?_; rintro e w11 ⟨rfl, hb11⟩))
        go_ret
        exact ⟨rfl, hb11⟩
  · have hq : ∀ n, ¬ Whole s n := fun n h => hz h.1
    have HA : Hid ((⟨#[]⟩ : ByteArray) = txt (tornL s.data.toList a)) := Lib.hid (by rw [(torn_no (hq a)).1]; rfl)
    have HAI := Lib.hid (torn_no (hq a)).2.symm
    have HB : Hid ((⟨#[]⟩ : ByteArray) = txt (tornL s.data.toList (s.size : Int))) := Lib.hid (by rw [(torn_no (hq _)).1]; rfl)
    have HBI := Lib.hid (torn_no (hq (s.size : Int))).2.symm
    have b1 : ¬ ((s.size : Int) = 256) := by omega
    clear hz hq
    go_enter Try.func23, Try.ntmps23
    go_wp2_with (first
      | (go_at_call 64; with_reducible refine (torn_at s a _ w hb ⟨#[]⟩ 1 HA.out HAI.out).mono ?_; rintro e w9 ⟨rfl, hb9⟩)
      | (go_at_call 64; with_reducible refine (torn_at s (s.size : Int) _ w hb9 ⟨#[]⟩ 1 HB.out HBI.out).mono ?_; rintro e w10 ⟨rfl, hb10⟩)
      | (go_at_call 61; with_reducible refine (live3 _ w hb10).mono ?_; rintro e w11 ⟨rfl, hb11⟩))
    go_ret
    exact ⟨rfl, hb11⟩
end Go.Proofs.Ytmibbklafogbkaa
