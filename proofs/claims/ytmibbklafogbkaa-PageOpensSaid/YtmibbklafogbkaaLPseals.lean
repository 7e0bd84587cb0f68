/- The walks of the laws PageSeals and PageOpens. -/
import Derived.Test.YtmibbklafogbkaaPf
namespace Go.Proofs.Ytmibbklafogbkaa
open Go.RowKit
open Fld
set_option maxRecDepth 100000 in
set_option maxHeartbeats 4000000 in
theorem pseals_walk (ak an : Int) (ab s : ByteArray) (a : Int) (w : World) (ha : ab.size ≤ maxLen) (hs : s.size ≤ maxLen) (_h1 : (Lit.int .i64 a).wf = true) :
    Calls Try.prog 19 #[.agg #[.int .i64 ak, .int .i64 an, .string ab], .string s, .int .i64 a] w fun e w' => e = .returned (.bool true) ∧ Below w.heap.size w w' := by
  unfold maxLen at ha hs
  obtain ⟨SA, hSA⟩ : ∃ S, S = sealS ⟨ak, an, ab⟩ := ⟨_, rfl⟩
  obtain ⟨FA, hFA⟩ : ∃ F, F = mayI ⟨ak, an, ab⟩ := ⟨_, rfl⟩
  obtain ⟨TA, hTA⟩ : ∃ S, S = txt (tornL s.data.toList a) := ⟨_, rfl⟩
  obtain ⟨GA, hGA⟩ : ∃ F, F = tornI s.data.toList a := ⟨_, rfl⟩
  obtain ⟨z, hz⟩ : ∃ z, z = txt blankL := ⟨_, rfl⟩
  have HSA := Lib.hid hSA
  have HFA := Lib.hid hFA
  have HTA := Lib.hid hTA
  have HGA := Lib.hid hGA
  have HZ := Lib.hid hz
  clear hSA hFA hTA hGA hz
  obtain ⟨ea, hea⟩ : ∃ eb, eb = w.heap.size := ⟨_, rfl⟩
  have HEA := Lib.hid hea
  clear hea
  go_enter Try.func19, Try.ntmps19
  go_upto_region 1 with (refine wpList_boxArr rfl 72 _ rfl _ rfl ?_; intro W1 hW1 hg1 hz1; rw [← HEA.out] at hW1 ⊢; have RA := Row3.of hW1; have l1 : ea < W1.heap.size := (Array.getElem?_eq_some_iff.1 hW1).1; clear hW1 hz1)
  have hbw : Below w.heap.size w W1 := (Below.refl _ _).grown hg1 (Nat.le_refl _) (by simp)
  have HRA : Hid (∀ W' : World, Below W1.heap.size W1 W' → Row3 W' ea ak an ab) := Lib.hid fun W' h => RA.below h l1
  have hb : Below W1.heap.size W1 W1 := Below.refl _ _
  obtain ⟨x0, x1, x2⟩ := RA
  rcases (show 300 < ab.size ∨ ab.size ≤ 300 by omega) with s1 | s1
  · go_wp2_with (go_at_call 61; with_reducible refine (live3 _ w hbw).mono ?_; rintro e w9 ⟨rfl, hb9⟩)
    go_ret
    exact ⟨rfl, hb9⟩
  rcases (show 300 < s.size ∨ s.size ≤ 300 by omega) with s2 | s2
  · go_wp2_with (go_at_call 61; with_reducible refine (live3 _ w hbw).mono ?_; rintro e w9 ⟨rfl, hb9⟩)
    go_ret
    exact ⟨rfl, hb9⟩
  go_wp2_with (first
    | (go_at_call 62; with_reducible refine (seal_any ak an ab _ W1 hb SA FA HSA.out HFA.out).mono ?_; rintro e w10 ⟨rfl, hb9⟩; clear x0 x1 x2; obtain ⟨x0, x1, x2⟩ := HRA.out _ hb9)
    | (go_at_call 63; with_reducible refine (rseal_any ak an ab _ W1 hb9 SA FA HSA.out HFA.out).mono ?_; rintro e w11 ⟨rfl, hb10⟩; clear x0 x1 x2)
    | (go_at_call 64; with_reducible refine (torn_at s a _ W1 hb10 TA GA HTA.out HGA.out).mono ?_; rintro e w12 ⟨rfl, hb11⟩)
    | (go_at_call 65; with_reducible refine (rtorn_at s a _ W1 hb11 TA GA HTA.out HGA.out).mono ?_; rintro e w13 ⟨rfl, hb12⟩)
    | (go_at_call 66; with_reducible refine (blank_any _ W1 hb12).mono ?_; rintro e w14 ⟨rfl, hb13⟩; rw [← HZ.out])
    | (go_at_call 67; with_reducible refine (rblank_any _ W1 hb13).mono ?_; rintro e w15 ⟨rfl, hb14⟩; rw [← HZ.out])
    | (go_at_call 61; with_reducible refine (live3 _ w (hbw.trans (hb14.mono hbw.size))).mono ?_; rintro e w19 ⟨rfl, hb19⟩))
  go_ret
  exact ⟨rfl, hb19⟩
set_option maxRecDepth 100000 in
set_option maxHeartbeats 4000000 in
theorem popens_walk (s : ByteArray) (w : World) (hs : s.size ≤ maxLen) :
    Calls Try.prog 20 #[.string s] w fun e w' => e = .returned (.bool true) ∧ Below w.heap.size w w' := by
  unfold maxLen at hs
  have hb0 : Below w.heap.size w w := Below.refl _ _
  obtain ⟨yk, yn, yb, err, hd⟩ : ∃ k n b e, opn s.data.toList = (⟨k, n, b⟩, e) := ⟨_, _, _, _, rfl⟩
  have HD := Lib.hid hd
  clear hd
  rcases (show 300 < s.size ∨ s.size ≤ 300 by omega) with s1 | s1
  · go_enter Try.func20, Try.ntmps20
    go_wp2_with (go_at_call 61; with_reducible refine (live3 _ w hb0).mono ?_; rintro e w9 ⟨rfl, hb9⟩)
    go_ret
    exact ⟨rfl, hb9⟩
  have HSM : Hid (s.size ≤ maxLen) := Lib.hid (by unfold maxLen; omega)
  go_enter Try.func20, Try.ntmps20
  go_upto_region 4 with (go_at_call 68; with_reducible refine (open_as s _ w hb0 HSM.out _ _ _ _ HD.out).mono ?_; rintro e w11 ⟨rfl, hb9⟩)
  have RB := Row3.new w11 yk yn yb
  replace hb9 := hb9.alloc hb9.size (Obj.cells #[.int .i64 yk, .int .i64 yn, .string yb] 72)
  generalize w11.heap.size = eb at RB ⊢
  generalize w11.alloc (Obj.cells #[.int .i64 yk, .int .i64 yn, .string yb] 72) = W2 at RB hb9 ⊢
  have l2 := RB.lt
  have h2 : Below W2.heap.size W2 W2 := Below.refl _ _
  go_upto_region 5 with (go_at_call 69; with_reducible refine (ropen_as s _ W2 h2 HSM.out _ _ _ _ HD.out).mono ?_; rintro e w12 ⟨rfl, hb10⟩)
  have RC := Row3.new w12 yk yn yb
  replace hb10 := hb10.alloc hb10.size (Obj.cells #[.int .i64 yk, .int .i64 yn, .string yb] 72)
  generalize w12.heap.size = ec at RC ⊢
  generalize w12.alloc (Obj.cells #[.int .i64 yk, .int .i64 yn, .string yb] 72) = W3 at RC hb10 ⊢
  obtain ⟨x0, x1, x2⟩ := RB.below hb10 l2
  obtain ⟨y0, y1, y2⟩ := RC
  have hbe := hb9.trans (hb10.mono hb9.size)
  clear RB hb9 hb10 h2 hb0
  go_wp2_with (go_at_call 61; with_reducible refine (live3 _ w hbe).mono ?_; rintro e w19 ⟨rfl, hb19⟩)
  go_ret
  exact ⟨rfl, hb19⟩
end Go.Proofs.Ytmibbklafogbkaa
