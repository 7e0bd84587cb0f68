/- The walk of the law EntryApart. -/
import Derived.Test.YtmibbklafogbkaaEl
import Derived.Test.YtmibbklafogbkaaEn
namespace Go.Proofs.Ytmibbklafogbkaa
open Go.RowKit
open Fld
theorem ref57_is : Ref57 := fun l A c w h hc hn hp => ref57_of ref53 l A c w h hc hn hp
theorem live6 (w w0 : World) (h : Below w0.heap.size w0 w) : Calls Try.prog 50 #[] w fun e w' => e = .returned (.bool true) ∧ Below w0.heap.size w0 w' :=
  (live6_any ref57_is w).mono fun _ _ ⟨a, b⟩ => ⟨a, h.trans (b.mono h.size)⟩
theorem own_at (kind tx ix pk pn cnt sum : Int) (pb : ByteArray) (w w0 : World) (h : Below w0.heap.size w0 w) :
    Calls Try.prog 52 #[.agg #[.int .i64 kind, .int .i64 tx, .int .i64 ix, .int .i64 pk, .int .i64 pn, .string pb, .int .i64 cnt, .int .u32 sum]] w fun r w' =>
      r = .returned (.agg #[.int .i64 kind, .int .i64 tx, .int .i64 ix, .int .i64 pk, .int .i64 pn, .string pb, .int .i64 cnt, .int .u32 sum]) ∧ Below w0.heap.size w0 w' :=
  (own_any kind tx ix pk pn cnt sum pb w).mono fun _ _ ⟨a, b⟩ => ⟨a, h.trans (b.mono h.size)⟩
/-- an entry's bytes and error, whatever it is -/
theorem encode_at (kind tx ix pk pn cnt sum : Int) (pb : ByteArray) (w w0 : World) (h : Below w0.heap.size w0 w) (hp : pb.size ≤ 300) (s0 : 0 ≤ sum) (s1 : sum < 4294967296) (S : ByteArray) (F : Int) (hS : S = encS ⟨kind, tx, ix, pk, pn, pb, cnt, sum⟩) (hF : F = chkI ⟨kind, tx, ix, pk, pn, pb, cnt, sum⟩) :
    Calls Try.prog 51 #[.agg #[.int .i64 kind, .int .i64 tx, .int .i64 ix, .int .i64 pk, .int .i64 pn, .string pb, .int .i64 cnt, .int .u32 sum]] w fun r w' =>
      r = .returned (.tuple #[.string S, .int .i64 F]) ∧ Below w0.heap.size w0 w' :=
  (encode_any kind tx ix pk pn cnt sum pb w (by unfold maxLen; omega) s0 s1).mono fun _ _ ⟨a, b⟩ => ⟨by rw [a, hS, hF], h.trans (b.mono h.size)⟩
theorem chk_01 (e : Ent) : chkI e = 0 ∨ chkI e = 1 := by unfold chkI; split <;> simp
theorem ret_bool {b : Bool} (h : b = true) : Ending.returned (.bool b) = .returned (.bool true) := by rw [h]
theorem ok_of_chk {e : Ent} (h : chkI e = 0) : e.Ok := by
  by_cases a : e.Ok
  · exact a
  · rw [chk_not a] at h; exact absurd h (by decide)
theorem toList_inj {a b : ByteArray} : a.toList = b.toList ↔ a = b := by
  constructor
  · intro e
    rw [ByteArray.toList_eq, ByteArray.toList_eq] at e
    exact ByteArray.ext (Array.toList_inj.1 e)
  · rintro rfl; rfl
theorem apart_key (a b : Ent) (ha : chkI a = 0) (hb : chkI b = 0) (sa : 0 ≤ a.sum ∧ a.sum < 4294967296) (sb : 0 ≤ b.sum ∧ b.sum < 4294967296) :
    (encS a).toList = (encS b).toList ↔ (a.kind = b.kind ∧ a.tx = b.tx ∧ a.ix = b.ix ∧ a.pk = b.pk ∧ a.pn = b.pn ∧ a.pb.toList = b.pb.toList ∧ a.cnt = b.cnt ∧ a.sum = b.sum) := by
  have oa := ok_of_chk ha
  have ob := ok_of_chk hb
  rw [toList_inj, toList_inj, enc_yes oa, enc_yes ob]
  constructor
  · intro e
    have e2 : a.enc = b.enc := by
      have := congrArg (fun x => x.data.toList) e
      exact this
    rw [enc_inj oa ob sa sb e2]
    exact ⟨rfl, rfl, rfl, rfl, rfl, rfl, rfl, rfl⟩
  · rintro ⟨h1, h2, h3, h4, h5, h6, h7, h8⟩
    have : a = b := by cases a; cases b; simp_all
    rw [this]
set_option maxRecDepth 100000 in
set_option maxHeartbeats 4000000 in
theorem eapart_walk (ak at' ai apk apn ac au bk bt bi bpk bpn bc bu : Int) (ab bb : ByteArray) (w : World) (ha : ab.size ≤ maxLen) (hb : bb.size ≤ maxLen) (a0 : 0 ≤ au) (a1 : au < 4294967296) (b0 : 0 ≤ bu) (b1 : bu < 4294967296) :
    Calls Try.prog 18 #[.agg #[.int .i64 ak, .int .i64 at', .int .i64 ai, .int .i64 apk, .int .i64 apn, .string ab, .int .i64 ac, .int .u32 au], .agg #[.int .i64 bk, .int .i64 bt, .int .i64 bi, .int .i64 bpk, .int .i64 bpn, .string bb, .int .i64 bc, .int .u32 bu]] w
      fun e w' => e = .returned (.bool true) ∧ Below w.heap.size w w' := by
  unfold maxLen at ha hb
  obtain ⟨SA, hSA⟩ : ∃ S, S = encS ⟨ak, at', ai, apk, apn, ab, ac, au⟩ := ⟨_, rfl⟩
  obtain ⟨SB, hSB⟩ : ∃ S, S = encS ⟨bk, bt, bi, bpk, bpn, bb, bc, bu⟩ := ⟨_, rfl⟩
  obtain ⟨FA, hFA⟩ : ∃ F, F = chkI ⟨ak, at', ai, apk, apn, ab, ac, au⟩ := ⟨_, rfl⟩
  obtain ⟨FB, hFB⟩ : ∃ F, F = chkI ⟨bk, bt, bi, bpk, bpn, bb, bc, bu⟩ := ⟨_, rfl⟩
  have fa : FA = 0 ∨ FA = 1 := by rw [hFA]; exact chk_01 _
  have fb : FB = 0 ∨ FB = 1 := by rw [hFB]; exact chk_01 _
  have hkey : FA = 0 → FB = 0 → (SA.toList = SB.toList ↔ (ak = bk ∧ at' = bt ∧ ai = bi ∧ apk = bpk ∧ apn = bpn ∧ ab.toList = bb.toList ∧ ac = bc ∧ au = bu)) := fun h1 h2 => by
    rw [hSA, hSB]
    exact apart_key ⟨ak, at', ai, apk, apn, ab, ac, au⟩ ⟨bk, bt, bi, bpk, bpn, bb, bc, bu⟩ (hFA.symm.trans h1) (hFB.symm.trans h2) ⟨a0, a1⟩ ⟨b0, b1⟩
  have HKEY := Lib.hid hkey
  clear hkey
  have HSA := Lib.hid hSA
  have HSB := Lib.hid hSB
  have HFA := Lib.hid hFA
  have HFB := Lib.hid hFB
  clear hSA hSB hFA hFB
  obtain ⟨ea, hea⟩ : ∃ eb, eb = w.heap.size := ⟨_, rfl⟩
  have HEA := Lib.hid hea
  clear hea
  go_enter Try.func18, Try.ntmps18
  go_upto_region 1 with (first
    | (refine wpList_boxArr rfl 74 _ rfl #[.int .i64 ak, .int .i64 at', .int .i64 ai, .int .i64 apk, .int .i64 apn, .string ab, .int .i64 ac, .int .u32 au] rfl ?_; intro W1 hW1 hg1 hz1; rw [← HEA.out] at hW1 ⊢; have RA := Row8.of hW1; have l1 : ea < W1.heap.size := (Array.getElem?_eq_some_iff.1 hW1).1; clear hW1 hz1)
    | (refine wpList_boxArr rfl 74 _ rfl #[.int .i64 bk, .int .i64 bt, .int .i64 bi, .int .i64 bpk, .int .i64 bpn, .string bb, .int .i64 bc, .int .u32 bu] rfl ?_; intro W2 hW2 hg2 hz2; have RB := Row8.of hW2; have l2 : W1.heap.size < W2.heap.size := (Array.getElem?_eq_some_iff.1 hW2).1; clear hW2 hz2))
  have RA2 := RA.grown hg2 (by simp)
  have hbw : Below w.heap.size w W2 := ((Below.refl _ _).grown hg1 (Nat.le_refl _) (by simp)).grown hg2 hg1.size (by simp)
  have l3 : ea < W2.heap.size := Nat.lt_of_lt_of_le l1 hg2.size
  clear RA l1 hg1 hg2
  generalize W1.heap.size = eb at RB l2 ⊢
  have HRA : Hid (∀ W' : World, Below W2.heap.size W2 W' → Row8 W' ea ak at' ai apk apn ac au ab) := Lib.hid fun W' h => RA2.below h l3
  have HRB : Hid (∀ W' : World, Below W2.heap.size W2 W' → Row8 W' eb bk bt bi bpk bpn bc bu bb) := Lib.hid fun W' h => RB.below h l2
  clear RA2 RB l2 l3
  have hb0 : Below W2.heap.size W2 W2 := Below.refl _ _
  obtain ⟨x0, x1, x2, x3, x4, x5, x6, x7⟩ := HRA.out _ hb0
  obtain ⟨y0, y1, y2, y3, y4, y5, y6, y7⟩ := HRB.out _ hb0
  rcases (show 300 < ab.size ∨ ab.size ≤ 300 by omega) with s1 | s1
  · go_wp2_with (go_at_call 50; with_reducible refine (live6 _ w hbw).mono ?_; rintro e w9 ⟨rfl, hb9⟩)
    go_ret
    exact ⟨rfl, hb9⟩
  rcases (show 300 < bb.size ∨ bb.size ≤ 300 by omega) with s2 | s2
  · go_wp2_with (go_at_call 50; with_reducible refine (live6 _ w hbw).mono ?_; rintro e w9 ⟨rfl, hb9⟩)
    go_ret
    exact ⟨rfl, hb9⟩
  have hb := hb0
  clear hb0
  go_upto_region 5 with (first
    | (go_at_call 52; with_reducible refine (own_at _ _ _ _ _ _ _ _ _ W2 hb).mono ?_; rintro e w9 ⟨rfl, hb9⟩; replace hb := hb9; clear hb9)
    | (go_at_call 51; with_reducible refine (encode_at ak at' ai apk apn ac au ab _ W2 hb s1 a0 a1 SA FA HSA.out HFA.out).mono ?_; rintro e w10 ⟨rfl, hb9⟩; replace hb := hb9; clear hb9; clear x0 x1 x2 x3 x4 x5 x6 x7 y0 y1 y2 y3 y4 y5 y6 y7; obtain ⟨x0, x1, x2, x3, x4, x5, x6, x7⟩ := HRA.out _ hb; obtain ⟨y0, y1, y2, y3, y4, y5, y6, y7⟩ := HRB.out _ hb)
    | (go_at_call 51; with_reducible refine (encode_at bk bt bi bpk bpn bc bu bb _ W2 hb s2 b0 b1 SB FB HSB.out HFB.out).mono ?_; rintro e w11 ⟨rfl, hb9⟩; replace hb := hb9; clear hb9; clear x0 x1 x2 x3 x4 x5 x6 x7 y0 y1 y2 y3 y4 y5 y6 y7; obtain ⟨x0, x1, x2, x3, x4, x5, x6, x7⟩ := HRA.out _ hb; obtain ⟨y0, y1, y2, y3, y4, y5, y6, y7⟩ := HRB.out _ hb))
  have hbe : Below w.heap.size w _ := hbw.trans (hb.mono hbw.size)
  rcases fa with rfl | rfl
  · rcases fb with rfl | rfl
    · have HK := Lib.hid (HKEY.out rfl rfl)
      clear HKEY
      go_wp2_with (go_at_call 50; with_reducible refine (live6 _ w hbe).mono ?_; rintro e w9 ⟨rfl, hb9⟩)
      all_goals (try (go_ret; exact ⟨rfl, hb9⟩))
      all_goals (try (exfalso; have hk := HK.out; clear HK HSA HSB HFA HFB HRA HRB x0 x1 x2 x3 x4 x5 x6 x7 y0 y1 y2 y3 y4 y5 y6 y7 hbe hb; simp [*] at hk; done))
      · go_ret
        have hne : ¬ SA.toList = SB.toList := by assumption
        have hv := ret_bool (b := !SA.toList == SB.toList) (by simp [hne])
        refine ⟨?_, hb9⟩
        exact hv
      all_goals first
        | (go_ret; exact ⟨rfl, hb9⟩)
        | (go_ret; have hne : ¬ SA.toList = SB.toList := by assumption; exact ⟨ret_bool (b := !SA.toList == SB.toList) (by simp [hne]), hb9⟩)
        | (go_ret; have hne : ¬ SA.toList = SB.toList := by assumption
           have hv := ret_bool (b := !SA.toList == SB.toList) (by simp [hne])
           refine ⟨?_, hb9⟩
           exact hv)
        | (exfalso; have hk := HK.out; clear HK HSA HSB HFA HFB HRA HRB x0 x1 x2 x3 x4 x5 x6 x7 y0 y1 y2 y3 y4 y5 y6 y7 hbe hb; simp [*] at hk)
    · go_wp2_with (go_at_call 50; with_reducible refine (live6 _ w hbe).mono ?_; rintro e w9 ⟨rfl, hb9⟩)
      go_ret
      exact ⟨rfl, hb9⟩
  · go_wp2_with (go_at_call 50; with_reducible refine (live6 _ w hbe).mono ?_; rintro e w9 ⟨rfl, hb9⟩)
    go_ret
    exact ⟨rfl, hb9⟩
end Go.Proofs.Ytmibbklafogbkaa
