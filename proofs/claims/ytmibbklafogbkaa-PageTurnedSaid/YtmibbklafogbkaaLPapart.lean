/- The walk of the law PageApart. -/
import Derived.Test.YtmibbklafogbkaaPl
import Derived.Test.YtmibbklafogbkaaLEapart
namespace Go.Proofs.Ytmibbklafogbkaa
open Go.RowKit
open Fld
theorem may_01 (p : Pg) : mayI p = 0 ∨ mayI p = 1 := by unfold mayI; split <;> simp
theorem may_of0 {p : Pg} (h : mayI p = 0) : May p := by
  by_cases a : May p
  · exact a
  · rw [(may_no a).1] at h; exact absurd h (by decide)
theorem seal_data {p : Pg} (h : mayI p = 0) : (sealS p).data.toList = sealL p := by rw [(may_yes (may_of0 h)).2]; rfl
theorem papart_key (a b : Pg) (ha : mayI a = 0) (hb : mayI b = 0) : (sealS a).toList = (sealS b).toList ↔ (a.pk = b.pk ∧ a.pn = b.pn ∧ a.pb.toList = b.pb.toList) := by
  rw [toList_inj, toList_inj]
  constructor
  · intro e
    have e2 : sealL a = sealL b := by rw [← seal_data ha, ← seal_data hb, e]
    rw [seal_inj (may_of0 ha) (may_of0 hb) e2]
    exact ⟨rfl, rfl, rfl⟩
  · rintro ⟨h1, h2, h3⟩
    have : a = b := by cases a; cases b; simp_all
    rw [this]
theorem seal_not_blank {p : Pg} (h : mayI p = 0) : ((sealS p).toList == (txt blankL).toList) = false := str_ne fun e => seal_blank (may_of0 h) (by rw [← seal_data h, e]; rfl)
set_option maxRecDepth 100000 in
set_option maxHeartbeats 4000000 in
theorem papart_walk (ak an bk bn : Int) (ab bb : ByteArray) (w : World) (ha : ab.size ≤ maxLen) (hb : bb.size ≤ maxLen) :
    Calls Try.prog 24 #[.agg #[.int .i64 ak, .int .i64 an, .string ab], .agg #[.int .i64 bk, .int .i64 bn, .string bb]] w
      fun e w' => e = .returned (.bool true) ∧ Below w.heap.size w w' := by
  unfold maxLen at ha hb
  obtain ⟨SA, hSA⟩ : ∃ S, S = sealS ⟨ak, an, ab⟩ := ⟨_, rfl⟩
  obtain ⟨SB, hSB⟩ : ∃ S, S = sealS ⟨bk, bn, bb⟩ := ⟨_, rfl⟩
  obtain ⟨FA, hFA⟩ : ∃ F, F = mayI ⟨ak, an, ab⟩ := ⟨_, rfl⟩
  obtain ⟨FB, hFB⟩ : ∃ F, F = mayI ⟨bk, bn, bb⟩ := ⟨_, rfl⟩
  obtain ⟨z, hz⟩ : ∃ z, z = txt blankL := ⟨_, rfl⟩
  have fa : FA = 0 ∨ FA = 1 := by rw [hFA]; exact may_01 _
  have fb : FB = 0 ∨ FB = 1 := by rw [hFB]; exact may_01 _
  have HKEY : Hid (FA = 0 → FB = 0 → (SA.toList = SB.toList ↔ (ak = bk ∧ an = bn ∧ ab.toList = bb.toList))) := Lib.hid fun h1 h2 => by
    rw [hSA, hSB]
    exact papart_key ⟨ak, an, ab⟩ ⟨bk, bn, bb⟩ (hFA.symm.trans h1) (hFB.symm.trans h2)
  have HNB : Hid (FA = 0 → (SA.toList == z.toList) = false) := Lib.hid fun h1 => by rw [hSA, hz]; exact seal_not_blank (hFA.symm.trans h1)
  have HZ := Lib.hid hz
  have HSA := Lib.hid hSA
  have HSB := Lib.hid hSB
  have HFA := Lib.hid hFA
  have HFB := Lib.hid hFB
  clear hSA hSB hFA hFB hz
  obtain ⟨ea, hea⟩ : ∃ eb, eb = w.heap.size := ⟨_, rfl⟩
  have HEA := Lib.hid hea
  clear hea
  go_enter Try.func24, Try.ntmps24
  go_upto_region 1 with (first
    | (refine wpList_boxArr rfl 72 _ rfl #[.int .i64 ak, .int .i64 an, .string ab] rfl ?_; intro W1 hW1 hg1 hz1; rw [← HEA.out] at hW1 ⊢; have RA := Row3.of hW1; have l1 : ea < W1.heap.size := (Array.getElem?_eq_some_iff.1 hW1).1; clear hW1 hz1)
    | (refine wpList_boxArr rfl 72 _ rfl #[.int .i64 bk, .int .i64 bn, .string bb] rfl ?_; intro W2 hW2 hg2 hz2; have RB := Row3.of hW2; have l2 : W1.heap.size < W2.heap.size := (Array.getElem?_eq_some_iff.1 hW2).1; clear hW2 hz2))
  have RA2 := RA.below (grown_below hg2) l1
  have hbw : Below w.heap.size w W2 := ((Below.refl _ _).grown hg1 (Nat.le_refl _) (by simp)).grown hg2 hg1.size (by simp)
  have l3 : ea < W2.heap.size := Nat.lt_of_lt_of_le l1 hg2.size
  clear RA l1 hg1 hg2
  generalize W1.heap.size = eb at RB l2 ⊢
  have HRA : Hid (∀ W' : World, Below W2.heap.size W2 W' → Row3 W' ea ak an ab) := Lib.hid fun W' h => RA2.below h l3
  have HRB : Hid (∀ W' : World, Below W2.heap.size W2 W' → Row3 W' eb bk bn bb) := Lib.hid fun W' h => RB.below h l2
  clear RA2 RB l2 l3
  have hb0 : Below W2.heap.size W2 W2 := Below.refl _ _
  obtain ⟨x0, x1, x2⟩ := HRA.out _ hb0
  obtain ⟨y0, y1, y2⟩ := HRB.out _ hb0
  rcases (show 300 < ab.size ∨ ab.size ≤ 300 by omega) with s1 | s1
  · go_wp2_with (go_at_call 61; with_reducible refine (live3 _ w hbw).mono ?_; rintro e w9 ⟨rfl, hb9⟩)
    go_ret
    exact ⟨rfl, hb9⟩
  rcases (show 300 < bb.size ∨ bb.size ≤ 300 by omega) with s2 | s2
  · go_wp2_with (go_at_call 61; with_reducible refine (live3 _ w hbw).mono ?_; rintro e w9 ⟨rfl, hb9⟩)
    go_ret
    exact ⟨rfl, hb9⟩
  have hb := hb0
  clear hb0
  go_upto_region 5 with (first
    | (go_at_call 62; with_reducible refine (seal_any ak an ab _ W2 hb SA FA HSA.out HFA.out).mono ?_; rintro e w10 ⟨rfl, hb9⟩; replace hb := hb9; clear hb9; clear x0 x1 x2 y0 y1 y2; obtain ⟨x0, x1, x2⟩ := HRA.out _ hb; obtain ⟨y0, y1, y2⟩ := HRB.out _ hb)
    | (go_at_call 62; with_reducible refine (seal_any bk bn bb _ W2 hb SB FB HSB.out HFB.out).mono ?_; rintro e w11 ⟨rfl, hb9⟩; replace hb := hb9; clear hb9; clear x0 x1 x2 y0 y1 y2; obtain ⟨x0, x1, x2⟩ := HRA.out _ hb; obtain ⟨y0, y1, y2⟩ := HRB.out _ hb))
  have hbe : Below w.heap.size w _ := hbw.trans (hb.mono hbw.size)
  rcases fa with rfl | rfl
  · rcases fb with rfl | rfl
    · have HK := Lib.hid (HKEY.out rfl rfl)
      have q1 := HNB.out rfl
      clear HKEY HNB
      by_cases hpq : ak = bk ∧ an = bn ∧ ab.toList = bb.toList
      · have hs := HK.out.2 hpq
        rw [toList_inj] at hs
        obtain ⟨rfl, rfl, h3⟩ := hpq
        rw [toList_inj] at h3
        subst h3 hs
        go_wp2_with (first
          | (go_at_call 66; with_reducible refine (blank_any _ w hbe).mono ?_; rintro e w9 ⟨rfl, hb9⟩; rw [← HZ.out])
          | (go_at_call 61; with_reducible refine (live3 _ w hb9).mono ?_; rintro e w9 ⟨rfl, hb10⟩))
        go_ret
        exact ⟨rfl, hb10⟩
      · have hs : (SA.toList == SB.toList) = false := beq_eq_false_iff_ne.2 fun e => hpq (HK.out.1 e)
        rcases (show ak ≠ bk ∨ (ak = bk ∧ an ≠ bn) ∨ (ak = bk ∧ an = bn ∧ ab.toList ≠ bb.toList) by
          by_cases c1 : ak = bk
          · by_cases c2 : an = bn
            · exact .inr (.inr ⟨c1, c2, fun c3 => hpq ⟨c1, c2, c3⟩⟩)
            · exact .inr (.inl ⟨c1, c2⟩)
          · exact .inl c1) with c | ⟨rfl, c⟩ | ⟨rfl, rfl, c⟩
        all_goals
          have c' := beq_eq_false_iff_ne.2 c
          clear hpq
          go_wp2_with (first
            | (go_at_call 66; with_reducible refine (blank_any _ w hbe).mono ?_; rintro e w9 ⟨rfl, hb9⟩; rw [← HZ.out])
            | (go_at_call 61; with_reducible refine (live3 _ w hb9).mono ?_; rintro e w9 ⟨rfl, hb10⟩))
          go_ret
          exact ⟨rfl, hb10⟩
    · go_wp2_with (go_at_call 61; with_reducible refine (live3 _ w hbe).mono ?_; rintro e w9 ⟨rfl, hb9⟩)
      go_ret
      exact ⟨rfl, hb9⟩
  · go_wp2_with (go_at_call 61; with_reducible refine (live3 _ w hbe).mono ?_; rintro e w9 ⟨rfl, hb9⟩)
    go_ret
    exact ⟨rfl, hb9⟩
end Go.Proofs.Ytmibbklafogbkaa
