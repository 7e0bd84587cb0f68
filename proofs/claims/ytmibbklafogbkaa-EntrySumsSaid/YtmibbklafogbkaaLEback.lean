/- The walk of the law EntryBack. -/
import Derived.Test.YtmibbklafogbkaaLEapart
namespace Go.Proofs.Ytmibbklafogbkaa
open Go.RowKit
open Fld
theorem dec_sum (l : List UInt8) : 0 ≤ (dec l).1.sum ∧ (dec l).1.sum < 4294967296 := by
  have h4 : ((num (getL l 9 4) : Nat) : Int) < 4294967296 := by
    have h1 := num_lt (getL l 9 4)
    have h2 : (getL l 9 4).length ≤ 4 := by unfold getL; exact List.length_take_le _ _
    have h3 : (256 : Nat) ^ (getL l 9 4).length ≤ 256 ^ 4 := Nat.pow_le_pow_right (by omega) h2
    have h5 : (256 : Nat) ^ 4 = 4294967296 := rfl
    omega
  have hp : 0 ≤ (parse l).sum ∧ (parse l).sum < 4294967296 := by
    unfold parse
    simp only
    split
    · simp
    · split
      · simp only; omega
      · simp
  have hz : 0 ≤ Ent.zero.sum ∧ Ent.zero.sum < 4294967296 := by unfold Ent.zero; simp
  unfold dec
  split
  · exact hz
  · split
    · exact hz
    · split
      · exact hz
      · split
        · exact hp
        · exact hz
theorem ok_pb {e : Ent} (h : e.Ok) : e.pb.size ≤ 230 := by
  unfold Ent.Ok Staged at h
  omega
theorem decode_at (s : ByteArray) (w w0 : World) (h : Below w0.heap.size w0 w) (hs : s.size ≤ 300) (kind tx ix pk pn cnt sum err : Int) (pb : ByteArray) (hd : dec s.data.toList = (⟨kind, tx, ix, pk, pn, pb, cnt, sum⟩, err)) :
    Calls Try.prog 58 #[.string s] w fun e w' => e = .returned (.tuple #[.agg #[.int .i64 kind, .int .i64 tx, .int .i64 ix, .int .i64 pk, .int .i64 pn, .string pb, .int .i64 cnt, .int .u32 sum], .int .i64 err]) ∧ Below w0.heap.size w0 w' :=
  (decode_as s w (by unfold maxLen; omega) kind tx ix pk pn cnt sum err pb hd).mono fun _ _ ⟨a, b⟩ => ⟨a, h.trans (b.mono h.size)⟩
theorem check_at (kind tx ix pk pn cnt sum : Int) (pb : ByteArray) (w w0 : World) (h : Below w0.heap.size w0 w) (hp : pb.size ≤ 300) (R : Int) (hR : R = chkI ⟨kind, tx, ix, pk, pn, pb, cnt, sum⟩) :
    Calls Try.prog 54 #[.agg #[.int .i64 kind, .int .i64 tx, .int .i64 ix, .int .i64 pk, .int .i64 pn, .string pb, .int .i64 cnt, .int .u32 sum]] w fun r w' => r = .returned (.int .i64 R) ∧ Below w0.heap.size w0 w' :=
  (check_any ⟨kind, tx, ix, pk, pn, pb, cnt, sum⟩ w (by unfold maxLen; simp only; omega)).mono fun _ _ ⟨a, b⟩ => ⟨by rw [a, hR], h.trans (b.mono h.size)⟩
set_option maxRecDepth 100000 in
set_option maxHeartbeats 8000000 in
theorem eback_walk (ak at' ai apk apn ac au : Int) (ab s : ByteArray) (w : World) (ha : ab.size ≤ maxLen) (hs : s.size ≤ maxLen) (a0 : 0 ≤ au) (a1 : au < 4294967296) :
    Calls Try.prog 16 #[.agg #[.int .i64 ak, .int .i64 at', .int .i64 ai, .int .i64 apk, .int .i64 apn, .string ab, .int .i64 ac, .int .u32 au], .string s] w fun e w' => e = .returned (.bool true) ∧ Below w.heap.size w w' := by
  unfold maxLen at ha hs
  obtain ⟨SA, hSA⟩ : ∃ S, S = encS ⟨ak, at', ai, apk, apn, ab, ac, au⟩ := ⟨_, rfl⟩
  obtain ⟨FA, hFA⟩ : ∃ F, F = chkI ⟨ak, at', ai, apk, apn, ab, ac, au⟩ := ⟨_, rfl⟩
  have fa : FA = 0 ∨ FA = 1 := by rw [hFA]; exact chk_01 _
  have hda : FA = 0 → dec SA.data.toList = (⟨ak, at', ai, apk, apn, ab, ac, au⟩, 0) ∧ 7 ≤ SA.size ∧ SA.size ≤ 240 := fun h => by
    have ok := ok_of_chk (hFA.symm.trans h)
    have hb := Ent.enc_bounds ok
    rw [hSA, enc_yes ok]
    exact ⟨dec_enc ok ⟨a0, a1⟩, by rw [txt_size]; exact hb.1, by rw [txt_size]; exact hb.2⟩
  obtain ⟨⟨yk, yt, yi, ypk, ypn, yb, yc, yu⟩, err, hd⟩ : ∃ (e : Ent) (err : Int), dec s.data.toList = (e, err) := ⟨_, _, rfl⟩
  have hyu := dec_sum s.data.toList
  rw [hd] at hyu
  obtain ⟨yu0, yu1⟩ := hyu
  simp only at yu0 yu1
  have hok : err = 0 → chkI ⟨yk, yt, yi, ypk, ypn, yb, yc, yu⟩ = 0 ∧ encS ⟨yk, yt, yi, ypk, ypn, yb, yc, yu⟩ = s ∧ yb.size ≤ 300 := fun h => by
    have h2 := dec_ok (l := s.data.toList) (by rw [hd]; exact h)
    rw [hd] at h2
    have h3 := ok_pb h2.1
    obtain ⟨p, q⟩ := (chk_iff _ s).2 h2
    exact ⟨p, q, by simp only at h3; omega⟩
  have hno : err ≠ 0 → ⟨yk, yt, yi, ypk, ypn, yb, yc, yu⟩ = Ent.zero := fun h => by
    have h2 := dec_bad (l := s.data.toList) (by rw [hd]; exact h)
    rw [hd] at h2
    exact h2
  have HSA := Lib.hid hSA
  have HFA := Lib.hid hFA
  have HDA := Lib.hid hda
  have HD := Lib.hid hd
  have HOK := Lib.hid hok
  have HNO := Lib.hid hno
  clear hSA hFA hda hd hok hno
  obtain ⟨ea, hea⟩ : ∃ eb, eb = w.heap.size := ⟨_, rfl⟩
  have HEA := Lib.hid hea
  clear hea
  go_enter Try.func16, Try.ntmps16
  go_upto_region 1 with (refine wpList_boxArr rfl 74 _ rfl _ rfl ?_; intro W1 hW1 hg1 hz1; rw [← HEA.out] at hW1 ⊢; have RA := Row8.of hW1; have l1 : ea < W1.heap.size := (Array.getElem?_eq_some_iff.1 hW1).1; clear hW1 hz1)
  have hbw : Below w.heap.size w W1 := (Below.refl _ _).grown hg1 (Nat.le_refl _) (by simp)
  have HRA : Hid (∀ W' : World, Below W1.heap.size W1 W' → Row8 W' ea ak at' ai apk apn ac au ab) := Lib.hid fun W' h => RA.below h l1
  have hb : Below W1.heap.size W1 W1 := Below.refl _ _
  obtain ⟨x0, x1, x2, x3, x4, x5, x6, x7⟩ := RA
  rcases (show 300 < ab.size ∨ ab.size ≤ 300 by omega) with s1 | s1
  · go_wp2_with (go_at_call 50; with_reducible refine (live6 _ w hbw).mono ?_; rintro e w9 ⟨rfl, hb9⟩)
    go_ret
    exact ⟨rfl, hb9⟩
  rcases (show 300 < s.size ∨ s.size ≤ 300 by omega) with s2 | s2
  · go_wp2_with (go_at_call 50; with_reducible refine (live6 _ w hbw).mono ?_; rintro e w9 ⟨rfl, hb9⟩)
    go_ret
    exact ⟨rfl, hb9⟩
  go_upto_region 4 with (first
    | (go_at_call 52; with_reducible refine (own_at _ _ _ _ _ _ _ _ _ W1 hb).mono ?_; rintro e w9 ⟨rfl, hb9⟩; replace hb := hb9; clear hb9)
    | (go_at_call 51; with_reducible refine (encode_at ak at' ai apk apn ac au ab _ W1 hb s1 a0 a1 SA FA HSA.out HFA.out).mono ?_; rintro e w10 ⟨rfl, hb9⟩; replace hb := hb9; clear hb9; clear x0 x1 x2 x3 x4 x5 x6 x7))
  rcases fa with f | f
  · obtain ⟨hda, z1, z2⟩ := HDA.out f
    subst f
    have HDA2 := Lib.hid hda
    have s3 : SA.size ≤ 300 := by omega
    clear hda HDA
    go_upto_region 6 with (first
      | (go_at_call 58; with_reducible refine (decode_at SA _ W1 hb s3 _ _ _ _ _ _ _ _ _ HDA2.out).mono ?_; rintro e w11 ⟨rfl, hb9⟩; replace hb := hb9; clear hb9))
    have hn := heap_alloc_new w11 (Obj.cells #[Value.int IntKind.i64 ak, Value.int IntKind.i64 at', Value.int IntKind.i64 ai, Value.int IntKind.i64 apk, Value.int IntKind.i64 apn, Value.string ab, Value.int IntKind.i64 ac, Value.int IntKind.u32 au] 77)
    have hbx := hb.alloc hb.size (Obj.cells #[Value.int IntKind.i64 ak, Value.int IntKind.i64 at', Value.int IntKind.i64 ai, Value.int IntKind.i64 apk, Value.int IntKind.i64 apn, Value.string ab, Value.int IntKind.i64 ac, Value.int IntKind.u32 au] 77)
    generalize w11.heap.size = eb at hn ⊢
    generalize w11.alloc (Obj.cells #[Value.int IntKind.i64 ak, Value.int IntKind.i64 at', Value.int IntKind.i64 ai, Value.int IntKind.i64 apk, Value.int IntKind.i64 apn, Value.string ab, Value.int IntKind.i64 ac, Value.int IntKind.u32 au] 77) = W2 at hn hbx ⊢
    have l2 : eb < W2.heap.size := (Array.getElem?_eq_some_iff.1 hn).1
    have RB := Row8.of hn
    have RA := HRA.out _ hbx
    have l3 : ea < W2.heap.size := Nat.lt_of_lt_of_le l1 hbx.size
    have hbW : Below w.heap.size w W2 := hbw.trans (hbx.mono hbw.size)
    clear hb hn hbx
    have hb : Below W2.heap.size W2 W2.drew := (Below.refl _ _).drew
    have HS : Hid (∀ W' : World, Below W2.heap.size W2 W' → W'.cell? ⟨ea, 0, none⟩ = some (.int .i64 ak) ∧ W'.cell? ⟨ea, 1, none⟩ = some (.int .i64 at') ∧ W'.cell? ⟨ea, 2, none⟩ = some (.int .i64 ai) ∧ W'.cell? ⟨ea, 3, none⟩ = some (.int .i64 apk) ∧ W'.cell? ⟨ea, 4, none⟩ = some (.int .i64 apn) ∧ W'.cell? ⟨ea, 5, none⟩ = some (.string ab) ∧ W'.cell? ⟨ea, 6, none⟩ = some (.int .i64 ac) ∧ W'.cell? ⟨ea, 7, none⟩ = some (.int .u32 au) ∧ W'.cell? ⟨eb, 0, none⟩ = some (.int .i64 ak) ∧ W'.cell? ⟨eb, 1, none⟩ = some (.int .i64 at') ∧ W'.cell? ⟨eb, 2, none⟩ = some (.int .i64 ai) ∧ W'.cell? ⟨eb, 3, none⟩ = some (.int .i64 apk) ∧ W'.cell? ⟨eb, 4, none⟩ = some (.int .i64 apn) ∧ W'.cell? ⟨eb, 5, none⟩ = some (.string ab) ∧ W'.cell? ⟨eb, 6, none⟩ = some (.int .i64 ac) ∧ W'.cell? ⟨eb, 7, none⟩ = some (.int .u32 au)) := Lib.hid fun W' h => by
      obtain ⟨x0, x1, x2, x3, x4, x5, x6, x7⟩ := RA.below h l3
      obtain ⟨y0, y1, y2, y3, y4, y5, y6, y7⟩ := RB.below h l2
      exact ⟨x0, x1, x2, x3, x4, x5, x6, x7, y0, y1, y2, y3, y4, y5, y6, y7⟩
    have z3 : decide ((244 : Int) < (SA.size : Int)) = false := decide_eq_false (by omega)
    have z4 : decide ((SA.size : Int) < (7 : Int)) = false := decide_eq_false (by omega)
    clear RA RB l2 l3
    go_region_held3 (fun W' => W'.cell? ⟨ea, 0, none⟩ = some (.int .i64 ak) ∧ W'.cell? ⟨ea, 1, none⟩ = some (.int .i64 at') ∧ W'.cell? ⟨ea, 2, none⟩ = some (.int .i64 ai) ∧ W'.cell? ⟨ea, 3, none⟩ = some (.int .i64 apk) ∧ W'.cell? ⟨ea, 4, none⟩ = some (.int .i64 apn) ∧ W'.cell? ⟨ea, 5, none⟩ = some (.string ab) ∧ W'.cell? ⟨ea, 6, none⟩ = some (.int .i64 ac) ∧ W'.cell? ⟨ea, 7, none⟩ = some (.int .u32 au) ∧ W'.cell? ⟨eb, 0, none⟩ = some (.int .i64 ak) ∧ W'.cell? ⟨eb, 1, none⟩ = some (.int .i64 at') ∧ W'.cell? ⟨eb, 2, none⟩ = some (.int .i64 ai) ∧ W'.cell? ⟨eb, 3, none⟩ = some (.int .i64 apk) ∧ W'.cell? ⟨eb, 4, none⟩ = some (.int .i64 apn) ∧ W'.cell? ⟨eb, 5, none⟩ = some (.string ab) ∧ W'.cell? ⟨eb, 6, none⟩ = some (.int .i64 ac) ∧ W'.cell? ⟨eb, 7, none⟩ = some (.int .u32 au))
      (first | exact HS.out _ hb)
      (first
        | (go_at_call 52; (with_reducible refine (own_at _ _ _ _ _ _ _ _ _ W2 hb).mono ?_); rintro e w12 ⟨rfl, hb9⟩; replace hb := hb9; clear hb9))
    all_goals
      have hbe : Below w.heap.size w _ := hbW.trans (hb.mono hbW.size)
      clear HS hb hbW z3 z4
      go_upto_region 9 with (first
        | (go_at_call 58; with_reducible refine (decode_at s _ w hbe s2 _ _ _ _ _ _ _ _ _ HD.out).mono ?_; rintro e w13 ⟨rfl, hb9⟩; replace hbe := hb9; clear hb9))
      by_cases he : err = 0
      · obtain ⟨q1, q2, q3⟩ := HOK.out he
        have Q1 := Lib.hid q1.symm
        have Q2 := Lib.hid q2.symm
        clear q1 q2 HOK HNO
        subst he
        have hn := heap_alloc_new w13 (Obj.cells #[Value.int IntKind.i64 yk, Value.int IntKind.i64 yt, Value.int IntKind.i64 yi, Value.int IntKind.i64 ypk, Value.int IntKind.i64 ypn, Value.string yb, Value.int IntKind.i64 yc, Value.int IntKind.u32 yu] 77)
        have hbx := hbe.alloc hbe.size (Obj.cells #[Value.int IntKind.i64 yk, Value.int IntKind.i64 yt, Value.int IntKind.i64 yi, Value.int IntKind.i64 ypk, Value.int IntKind.i64 ypn, Value.string yb, Value.int IntKind.i64 yc, Value.int IntKind.u32 yu] 77)
        generalize w13.heap.size = eb3 at hn ⊢
        generalize w13.alloc (Obj.cells #[Value.int IntKind.i64 yk, Value.int IntKind.i64 yt, Value.int IntKind.i64 yi, Value.int IntKind.i64 ypk, Value.int IntKind.i64 ypn, Value.string yb, Value.int IntKind.i64 yc, Value.int IntKind.u32 yu] 77) = W3 at hn hbx ⊢
        have l4 : eb3 < W3.heap.size := (Array.getElem?_eq_some_iff.1 hn).1
        have RY := Row8.of hn
        obtain ⟨y0, y1, y2, y3, y4, y5, y6, y7⟩ := id RY
        have hb3 : Below W3.heap.size W3 W3 := Below.refl _ _
        go_wp2_with (first
          | (go_at_call 51; with_reducible refine (encode_at yk yt yi ypk ypn yc yu yb _ W3 hb3 q3 yu0 yu1 s 0 Q2.out Q1.out).mono ?_; rintro e w14 ⟨rfl, hb9⟩; replace hb3 := hb9; clear hb9 y0 y1 y2 y3 y4 y5 y6 y7; obtain ⟨y0, y1, y2, y3, y4, y5, y6, y7⟩ := RY.below hb3 l4)
          | (go_at_call 54; with_reducible refine (check_at yk yt yi ypk ypn yc yu yb _ W3 hb3 q3 0 Q1.out).mono ?_; rintro e w15 ⟨rfl, hb9⟩; replace hb3 := hb9; clear hb9)
          | (go_at_call 50; with_reducible refine (live6 _ w (hbx.trans (hb3.mono hbx.size))).mono ?_; rintro e w16 ⟨rfl, hb16⟩))
        go_ret
        exact ⟨rfl, hb16⟩
      · have hz := HNO.out he
        simp only [Ent.zero, Ent.mk.injEq] at hz
        obtain ⟨rfl, rfl, rfl, rfl, rfl, rfl, rfl, rfl⟩ := hz
        have b1 : (err == 0) = false := beq_eq_false_iff_ne.2 he
        clear he HOK HNO HD
        have hn := heap_alloc_new w13 (Obj.cells #[Value.int IntKind.i64 0, Value.int IntKind.i64 0, Value.int IntKind.i64 0, Value.int IntKind.i64 0, Value.int IntKind.i64 0, Value.string ⟨#[]⟩, Value.int IntKind.i64 0, Value.int IntKind.u32 0] 77)
        have hbx := hbe.alloc hbe.size (Obj.cells #[Value.int IntKind.i64 0, Value.int IntKind.i64 0, Value.int IntKind.i64 0, Value.int IntKind.i64 0, Value.int IntKind.i64 0, Value.string ⟨#[]⟩, Value.int IntKind.i64 0, Value.int IntKind.u32 0] 77)
        generalize w13.heap.size = eb3 at hn ⊢
        generalize w13.alloc (Obj.cells #[Value.int IntKind.i64 0, Value.int IntKind.i64 0, Value.int IntKind.i64 0, Value.int IntKind.i64 0, Value.int IntKind.i64 0, Value.string ⟨#[]⟩, Value.int IntKind.i64 0, Value.int IntKind.u32 0] 77) = W3 at hn hbx ⊢
        obtain ⟨y0, y1, y2, y3, y4, y5, y6, y7⟩ := Row8.of hn
        clear hn hbe
        go_wp2_with (first
          | (go_at_call 50; with_reducible refine (live6 _ w hbx).mono ?_; rintro e w16 ⟨rfl, hb16⟩))
        go_ret
        exact ⟨rfl, hb16⟩
  · subst f
    have hbe : Below w.heap.size w _ := hbw.trans (hb.mono hbw.size)
    clear hb hbw
    go_upto_region 9 with (first
      | (go_at_call 58; with_reducible refine (decode_at s _ w hbe s2 _ _ _ _ _ _ _ _ _ HD.out).mono ?_; rintro e w13 ⟨rfl, hb9⟩; replace hbe := hb9; clear hb9))
    by_cases he : err = 0
    · obtain ⟨q1, q2, q3⟩ := HOK.out he
      have Q1 := Lib.hid q1.symm
      have Q2 := Lib.hid q2.symm
      clear q1 q2 HOK HNO
      subst he
      have hn := heap_alloc_new w13 (Obj.cells #[Value.int IntKind.i64 yk, Value.int IntKind.i64 yt, Value.int IntKind.i64 yi, Value.int IntKind.i64 ypk, Value.int IntKind.i64 ypn, Value.string yb, Value.int IntKind.i64 yc, Value.int IntKind.u32 yu] 77)
      have hbx := hbe.alloc hbe.size (Obj.cells #[Value.int IntKind.i64 yk, Value.int IntKind.i64 yt, Value.int IntKind.i64 yi, Value.int IntKind.i64 ypk, Value.int IntKind.i64 ypn, Value.string yb, Value.int IntKind.i64 yc, Value.int IntKind.u32 yu] 77)
      generalize w13.heap.size = eb3 at hn ⊢
      generalize w13.alloc (Obj.cells #[Value.int IntKind.i64 yk, Value.int IntKind.i64 yt, Value.int IntKind.i64 yi, Value.int IntKind.i64 ypk, Value.int IntKind.i64 ypn, Value.string yb, Value.int IntKind.i64 yc, Value.int IntKind.u32 yu] 77) = W3 at hn hbx ⊢
      have l4 : eb3 < W3.heap.size := (Array.getElem?_eq_some_iff.1 hn).1
      have RY := Row8.of hn
      obtain ⟨y0, y1, y2, y3, y4, y5, y6, y7⟩ := id RY
      have hb3 : Below W3.heap.size W3 W3 := Below.refl _ _
      go_wp2_with (first
        | (go_at_call 51; with_reducible refine (encode_at yk yt yi ypk ypn yc yu yb _ W3 hb3 q3 yu0 yu1 s 0 Q2.out Q1.out).mono ?_; rintro e w14 ⟨rfl, hb9⟩; replace hb3 := hb9; clear hb9 y0 y1 y2 y3 y4 y5 y6 y7; obtain ⟨y0, y1, y2, y3, y4, y5, y6, y7⟩ := RY.below hb3 l4)
        | (go_at_call 54; with_reducible refine (check_at yk yt yi ypk ypn yc yu yb _ W3 hb3 q3 0 Q1.out).mono ?_; rintro e w15 ⟨rfl, hb9⟩; replace hb3 := hb9; clear hb9)
        | (go_at_call 50; with_reducible refine (live6 _ w (hbx.trans (hb3.mono hbx.size))).mono ?_; rintro e w16 ⟨rfl, hb16⟩))
      go_ret
      exact ⟨rfl, hb16⟩
    · have hz := HNO.out he
      simp only [Ent.zero, Ent.mk.injEq] at hz
      obtain ⟨rfl, rfl, rfl, rfl, rfl, rfl, rfl, rfl⟩ := hz
      have b1 : (err == 0) = false := beq_eq_false_iff_ne.2 he
      clear he HOK HNO HD
      have hn := heap_alloc_new w13 (Obj.cells #[Value.int IntKind.i64 0, Value.int IntKind.i64 0, Value.int IntKind.i64 0, Value.int IntKind.i64 0, Value.int IntKind.i64 0, Value.string ⟨#[]⟩, Value.int IntKind.i64 0, Value.int IntKind.u32 0] 77)
      have hbx := hbe.alloc hbe.size (Obj.cells #[Value.int IntKind.i64 0, Value.int IntKind.i64 0, Value.int IntKind.i64 0, Value.int IntKind.i64 0, Value.int IntKind.i64 0, Value.string ⟨#[]⟩, Value.int IntKind.i64 0, Value.int IntKind.u32 0] 77)
      generalize w13.heap.size = eb3 at hn ⊢
      generalize w13.alloc (Obj.cells #[Value.int IntKind.i64 0, Value.int IntKind.i64 0, Value.int IntKind.i64 0, Value.int IntKind.i64 0, Value.int IntKind.i64 0, Value.string ⟨#[]⟩, Value.int IntKind.i64 0, Value.int IntKind.u32 0] 77) = W3 at hn hbx ⊢
      obtain ⟨y0, y1, y2, y3, y4, y5, y6, y7⟩ := Row8.of hn
      clear hn hbe
      go_wp2_with (first
        | (go_at_call 50; with_reducible refine (live6 _ w hbx).mono ?_; rintro e w16 ⟨rfl, hb16⟩))
      go_ret
      exact ⟨rfl, hb16⟩
end Go.Proofs.Ytmibbklafogbkaa
