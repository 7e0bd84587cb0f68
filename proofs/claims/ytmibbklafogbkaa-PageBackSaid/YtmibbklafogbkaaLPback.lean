/- The walk of the law PageBack. -/
import Derived.Test.YtmibbklafogbkaaLPapart
namespace Go.Proofs.Ytmibbklafogbkaa
open Go.RowKit
open Fld
/-- what stands in bytes: nothing, a blank page, or what was sealed -/
theorem opn_cases {l : List UInt8} {k n err : Int} {b : ByteArray} (h : opn l = (⟨k, n, b⟩, err)) : (err ≠ 0 ∧ k = 0 ∧ n = 0 ∧ b = ⟨#[]⟩) ∨ (err = 0 ∧ l = blankL ∧ k = 0 ∧ n = 0 ∧ b = ⟨#[]⟩) ∨ (err = 0 ∧ 1 ≤ k ∧ May ⟨k, n, b⟩ ∧ sealL ⟨k, n, b⟩ = l) := by
  by_cases he : err = 0
  · subst he
    have h2 := opn_ok (l := l) (by rw [h])
    rw [h] at h2
    rcases h2 with ⟨h3, h4⟩ | ⟨h3, h4⟩
    · simp only [Pg.zero, Pg.mk.injEq] at h4
      exact .inr (.inl ⟨rfl, h3, h4⟩)
    · exact .inr (.inr ⟨rfl, h3.1, h3, h4⟩)
  · have h2 := opn_bad (l := l) (by rw [h]; exact he)
    rw [h] at h2
    simp only [Pg.zero, Pg.mk.injEq] at h2
    exact .inl ⟨he, h2⟩
set_option maxRecDepth 100000 in
set_option maxHeartbeats 4000000 in
theorem pback_walk (ak an : Int) (ab s : ByteArray) (w : World) (ha : ab.size ≤ maxLen) (hs : s.size ≤ maxLen) :
    Calls Try.prog 21 #[.agg #[.int .i64 ak, .int .i64 an, .string ab], .string s] w fun e w' => e = .returned (.bool true) ∧ Below w.heap.size w w' := by
  unfold maxLen at ha hs
  obtain ⟨SA, hSA⟩ : ∃ S, S = sealS ⟨ak, an, ab⟩ := ⟨_, rfl⟩
  obtain ⟨FA, hFA⟩ : ∃ F, F = mayI ⟨ak, an, ab⟩ := ⟨_, rfl⟩
  obtain ⟨z, hz⟩ : ∃ z, z = txt blankL := ⟨_, rfl⟩
  obtain ⟨yk, yn, yb, err, hd⟩ : ∃ k n b e, opn s.data.toList = (⟨k, n, b⟩, e) := ⟨_, _, _, _, rfl⟩
  have fa : FA = 0 ∨ FA = 1 := by rw [hFA]; exact may_01 _
  have HFACT : Hid (FA = 0 → opn SA.data.toList = (⟨ak, an, ab⟩, 0) ∧ SA.size = 256) := Lib.hid fun f => by
    have hm := may_of0 (hFA.symm.trans f)
    rw [hSA, ← toList_size, seal_data (hFA.symm.trans f)]
    exact ⟨opn_seal hm, seal_length hm⟩
  have HCASE := Lib.hid (opn_cases hd)
  have HD := Lib.hid hd
  have HSA := Lib.hid hSA
  have HFA := Lib.hid hFA
  have HZ := Lib.hid hz
  clear hSA hFA hz hd
  obtain ⟨ea, hea⟩ : ∃ eb, eb = w.heap.size := ⟨_, rfl⟩
  have HEA := Lib.hid hea
  clear hea
  go_enter Try.func21, Try.ntmps21
  go_upto_region 1 with (refine wpList_boxArr rfl 72 _ rfl _ rfl ?_; intro W1 hW1 hg1 hz1; rw [← HEA.out] at hW1 ⊢; have RA := Row3.of hW1; have l1 : ea < W1.heap.size := (Array.getElem?_eq_some_iff.1 hW1).1; clear hW1 hz1)
  have hbw : Below w.heap.size w W1 := (Below.refl _ _).grown hg1 (Nat.le_refl _) (by simp)
  have HRA : Hid (∀ W' : World, Below W1.heap.size W1 W' → Row3 W' ea ak an ab) := Lib.hid fun W' h => RA.below h l1
  have hb : Below W1.heap.size W1 W1 := Below.refl _ _
  obtain ⟨x0, x1, x2⟩ := RA
  rcases (show 300 < ab.size ∨ ab.size ≤ 300 by omega) with s1 | s1
  · go_wp2_with (go_at_call 61; with_reducible refine (live3 _ w hbw).mono ?_; rintro e w9 ⟨rfl, hb9⟩)
    go_ret
    exact ⟨rfl, hb9⟩
  rcases (show 300 < s.size ∨ s.size ≤ 300 by omega) with s2 | s2
  · go_wp2_with (go_at_call 61; with_reducible refine (live3 _ w hbw).mono ?_; rintro e w9 ⟨rfl, hb9⟩)
    go_ret
    exact ⟨rfl, hb9⟩
  have HSM : Hid (s.size ≤ maxLen) := Lib.hid (by unfold maxLen; omega)
  go_upto_region 4 with (go_at_call 62; with_reducible refine (seal_any ak an ab _ W1 hb SA FA HSA.out HFA.out).mono ?_; rintro e w10 ⟨rfl, hb9⟩; replace hb := hb9; clear hb9; clear x0 x1 x2)
  rcases fa with rfl | rfl
  · obtain ⟨q1, q2⟩ := HFACT.out rfl
    have HQ := Lib.hid q1
    obtain ⟨c1, c2, c3, c4⟩ := whole_facts q2
    have HQM : Hid (SA.size ≤ maxLen) := Lib.hid (by unfold maxLen; omega)
    clear q1 q2 HFACT
    go_upto_region 6 with (go_at_call 68; with_reducible refine (open_as SA _ W1 hb HQM.out _ _ _ _ HQ.out).mono ?_; rintro e w11 ⟨rfl, hb9⟩; replace hb := hb9; clear hb9)
    have RB := Row3.new w11 ak an ab
    replace hb := hb.alloc hb.size (Obj.cells #[.int .i64 ak, .int .i64 an, .string ab] 72)
    generalize w11.heap.size = eb at RB ⊢
    generalize w11.alloc (Obj.cells #[.int .i64 ak, .int .i64 an, .string ab] 72) = W2 at RB hb ⊢
    obtain ⟨x0, x1, x2⟩ := HRA.out _ hb
    obtain ⟨y0, y1, y2⟩ := RB
    go_upto_region 8 with (fail)
    clear x0 x1 x2 y0 y1 y2
    have hbe := hbw.trans (hb.mono hbw.size)
    clear hb hbw HRA
    go_upto_region 9 with (go_at_call 68; with_reducible refine (open_as s _ w hbe HSM.out _ _ _ _ HD.out).mono ?_; rintro e w12 ⟨rfl, hb9⟩; replace hbe := hb9; clear hb9)
    have RC := Row3.new w12 yk yn yb
    replace hbe := hbe.alloc hbe.size (Obj.cells #[.int .i64 yk, .int .i64 yn, .string yb] 72)
    generalize w12.heap.size = qb at RC ⊢
    generalize w12.alloc (Obj.cells #[.int .i64 yk, .int .i64 yn, .string yb] 72) = W4 at RC hbe ⊢
    have l4 := RC.lt
    rcases HCASE.out with ⟨e1, rfl, rfl, rfl⟩ | ⟨rfl, e1, rfl, rfl, rfl⟩ | ⟨rfl, e1, e2, e3⟩
    · obtain ⟨r0, r1, r2⟩ := RC
      go_wp2_with (go_at_call 61; with_reducible refine (live3 _ w hbe).mono ?_; rintro e w19 ⟨rfl, hb19⟩)
      go_ret
      exact ⟨rfl, hb19⟩
    · have hsz : s = z := by rw [HZ.out, ← e1, txt_data]
      clear e1
      subst hsz
      have hr := RC
      obtain ⟨r0, r1, r2⟩ := RC
      go_wp2_with (first
        | (go_at_call 66; with_reducible refine (blank_any _ W4 (Below.refl _ _)).mono ?_; rintro e w13 ⟨rfl, hb13⟩; rw [← HZ.out]; clear r0 r1 r2; obtain ⟨r0, r1, r2⟩ := hr.below hb13 l4)
        | (go_at_call 61; with_reducible refine (live3 _ w (hbe.trans (hb13.mono hbe.size))).mono ?_; rintro e w19 ⟨rfl, hb19⟩))
      go_ret
      exact ⟨rfl, hb19⟩
    · have HS3 : Hid (s = sealS ⟨yk, yn, yb⟩) := Lib.hid (by rw [(may_yes e2).2, e3, txt_data])
      have HF3 : Hid ((0 : Int) = mayI ⟨yk, yn, yb⟩) := Lib.hid (may_yes e2).1.symm
      have b0 : ¬ (yk = 0) := by omega
      clear e2 e3
      obtain ⟨r0, r1, r2⟩ := RC
      go_wp2_with (first
        | (go_at_call 62; with_reducible refine (seal_any yk yn yb _ w hbe s 0 HS3.out HF3.out).mono ?_; rintro e w13 ⟨rfl, hb13⟩; clear r0 r1 r2)
        | (go_at_call 61; with_reducible refine (live3 _ w hb13).mono ?_; rintro e w19 ⟨rfl, hb19⟩))
      go_ret
      exact ⟨rfl, hb19⟩
  · clear HFACT
    go_upto_region 8 with (fail)
    have hbe := hbw.trans (hb.mono hbw.size)
    clear hb hbw HRA
    go_upto_region 9 with (go_at_call 68; with_reducible refine (open_as s _ w hbe HSM.out _ _ _ _ HD.out).mono ?_; rintro e w12 ⟨rfl, hb9⟩; replace hbe := hb9; clear hb9)
    have RC := Row3.new w12 yk yn yb
    replace hbe := hbe.alloc hbe.size (Obj.cells #[.int .i64 yk, .int .i64 yn, .string yb] 72)
    generalize w12.heap.size = qb at RC ⊢
    generalize w12.alloc (Obj.cells #[.int .i64 yk, .int .i64 yn, .string yb] 72) = W4 at RC hbe ⊢
    have l4 := RC.lt
    rcases HCASE.out with ⟨e1, rfl, rfl, rfl⟩ | ⟨rfl, e1, rfl, rfl, rfl⟩ | ⟨rfl, e1, e2, e3⟩
    · obtain ⟨r0, r1, r2⟩ := RC
      go_wp2_with (go_at_call 61; with_reducible refine (live3 _ w hbe).mono ?_; rintro e w19 ⟨rfl, hb19⟩)
      go_ret
      exact ⟨rfl, hb19⟩
    · have hsz : s = z := by rw [HZ.out, ← e1, txt_data]
      clear e1
      subst hsz
      have hr := RC
      obtain ⟨r0, r1, r2⟩ := RC
      go_wp2_with (first
        | (go_at_call 66; with_reducible refine (blank_any _ W4 (Below.refl _ _)).mono ?_; rintro e w13 ⟨rfl, hb13⟩; rw [← HZ.out]; clear r0 r1 r2; obtain ⟨r0, r1, r2⟩ := hr.below hb13 l4)
        | (go_at_call 61; with_reducible refine (live3 _ w (hbe.trans (hb13.mono hbe.size))).mono ?_; rintro e w19 ⟨rfl, hb19⟩))
      go_ret
      exact ⟨rfl, hb19⟩
    · have HS3 : Hid (s = sealS ⟨yk, yn, yb⟩) := Lib.hid (by rw [(may_yes e2).2, e3, txt_data])
      have HF3 : Hid ((0 : Int) = mayI ⟨yk, yn, yb⟩) := Lib.hid (may_yes e2).1.symm
      have b0 : ¬ (yk = 0) := by omega
      clear e2 e3
      obtain ⟨r0, r1, r2⟩ := RC
      go_wp2_with (first
        | (go_at_call 62; with_reducible refine (seal_any yk yn yb _ w hbe s 0 HS3.out HF3.out).mono ?_; rintro e w13 ⟨rfl, hb13⟩; clear r0 r1 r2)
        | (go_at_call 61; with_reducible refine (live3 _ w hb13).mono ?_; rintro e w19 ⟨rfl, hb19⟩))
      go_ret
      exact ⟨rfl, hb19⟩
end Go.Proofs.Ytmibbklafogbkaa
