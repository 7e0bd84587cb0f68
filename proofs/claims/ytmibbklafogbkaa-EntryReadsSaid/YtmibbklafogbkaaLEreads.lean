/- The walk of the law EntryReads. -/
import Derived.Test.YtmibbklafogbkaaLEback
import Derived.Test.YtmibbklafogbkaaEj
namespace Go.Proofs.Ytmibbklafogbkaa
open Go.RowKit
open Fld
theorem rdecode_at (s : ByteArray) (w w0 : World) (h : Below w0.heap.size w0 w) (hs : s.size ≤ 300) (kind tx ix pk pn cnt sum err : Int) (pb : ByteArray) (hd : dec s.data.toList = (⟨kind, tx, ix, pk, pn, pb, cnt, sum⟩, err)) :
    Calls Try.prog 59 #[.string s] w fun e w' => e = .returned (.tuple #[.agg #[.int .i64 kind, .int .i64 tx, .int .i64 ix, .int .i64 pk, .int .i64 pn, .string pb, .int .i64 cnt, .int .u32 sum], .int .i64 err]) ∧ Below w0.heap.size w0 w' :=
  (rdecode_as s w hs kind tx ix pk pn cnt sum err pb hd).mono fun _ _ ⟨a, b⟩ => ⟨a, h.trans (b.mono h.size)⟩
theorem told_at (kind tx ix pk pn cnt sum : Int) (pb : ByteArray) (w w0 : World) (h : Below w0.heap.size w0 w) :
    Calls Try.prog 60 #[.agg #[.int .i64 kind, .int .i64 tx, .int .i64 ix, .int .i64 pk, .int .i64 pn, .string pb, .int .i64 cnt, .int .u32 sum]] w fun r w' =>
      r = .returned (.agg #[.int .i64 kind, .int .i64 tx, .int .i64 ix, .int .i64 pk, .int .i64 pn, .string pb, .int .i64 cnt, .int .u32 sum]) ∧ Below w0.heap.size w0 w' :=
  (told_any kind tx ix pk pn cnt sum pb w).mono fun _ _ ⟨a, b⟩ => ⟨a, h.trans (b.mono h.size)⟩
set_option maxRecDepth 100000 in
set_option maxHeartbeats 8000000 in
theorem ereads_walk (s : ByteArray) (w : World) (hs : s.size ≤ maxLen) :
    Calls Try.prog 15 #[.string s] w fun e w' => e = .returned (.bool true) ∧ Below w.heap.size w w' := by
  unfold maxLen at hs
  obtain ⟨⟨yk, yt, yi, ypk, ypn, yb, yc, yu⟩, err, hd⟩ : ∃ (e : Ent) (err : Int), dec s.data.toList = (e, err) := ⟨_, _, rfl⟩
  have HD := Lib.hid hd
  clear hd
  have h0 : Below w.heap.size w w := Below.refl _ _
  rcases (show 300 < s.size ∨ s.size ≤ 300 by omega) with s1 | s1
  · go_enter Try.func15, Try.ntmps15
    go_wp2_with (go_at_call 50; with_reducible refine (live6 _ w h0).mono ?_; rintro e w9 ⟨rfl, hb9⟩)
    go_ret
    exact ⟨rfl, hb9⟩
  go_enter Try.func15, Try.ntmps15
  go_upto_region 4 with (go_at_call 58; with_reducible refine (decode_at s _ w h0 s1 _ _ _ _ _ _ _ _ _ HD.out).mono ?_; rintro e w11 ⟨rfl, hb⟩)
  have hn := heap_alloc_new w11 (Obj.cells #[Value.int IntKind.i64 yk, Value.int IntKind.i64 yt, Value.int IntKind.i64 yi, Value.int IntKind.i64 ypk, Value.int IntKind.i64 ypn, Value.string yb, Value.int IntKind.i64 yc, Value.int IntKind.u32 yu] 77)
  have hbx := hb.alloc hb.size (Obj.cells #[Value.int IntKind.i64 yk, Value.int IntKind.i64 yt, Value.int IntKind.i64 yi, Value.int IntKind.i64 ypk, Value.int IntKind.i64 ypn, Value.string yb, Value.int IntKind.i64 yc, Value.int IntKind.u32 yu] 77)
  generalize w11.heap.size = ea at hn ⊢
  generalize w11.alloc (Obj.cells #[Value.int IntKind.i64 yk, Value.int IntKind.i64 yt, Value.int IntKind.i64 yi, Value.int IntKind.i64 ypk, Value.int IntKind.i64 ypn, Value.string yb, Value.int IntKind.i64 yc, Value.int IntKind.u32 yu] 77) = W1 at hn hbx ⊢
  have l1 : ea < W1.heap.size := (Array.getElem?_eq_some_iff.1 hn).1
  have RA0 := Row8.of hn
  clear hn hb
  have hb0 : Below W1.heap.size W1 W1 := Below.refl _ _
  go_upto_region 5 with (go_at_call 59; with_reducible refine (rdecode_at s _ W1 hb0 s1 _ _ _ _ _ _ _ _ _ HD.out).mono ?_; rintro e w12 ⟨rfl, hb⟩)
  have hn := heap_alloc_new w12 (Obj.cells #[Value.int IntKind.i64 yk, Value.int IntKind.i64 yt, Value.int IntKind.i64 yi, Value.int IntKind.i64 ypk, Value.int IntKind.i64 ypn, Value.string yb, Value.int IntKind.i64 yc, Value.int IntKind.u32 yu] 74)
  have hby := hb.alloc hb.size (Obj.cells #[Value.int IntKind.i64 yk, Value.int IntKind.i64 yt, Value.int IntKind.i64 yi, Value.int IntKind.i64 ypk, Value.int IntKind.i64 ypn, Value.string yb, Value.int IntKind.i64 yc, Value.int IntKind.u32 yu] 74)
  generalize w12.heap.size = eb at hn ⊢
  generalize w12.alloc (Obj.cells #[Value.int IntKind.i64 yk, Value.int IntKind.i64 yt, Value.int IntKind.i64 yi, Value.int IntKind.i64 ypk, Value.int IntKind.i64 ypn, Value.string yb, Value.int IntKind.i64 yc, Value.int IntKind.u32 yu] 74) = W2 at hn hby ⊢
  have l2 : eb < W2.heap.size := (Array.getElem?_eq_some_iff.1 hn).1
  have RB := Row8.of hn
  have RA := RA0.below hby l1
  have l3 : ea < W2.heap.size := Nat.lt_of_lt_of_le l1 hby.size
  have hbW : Below w.heap.size w W2 := hbx.trans (hby.mono hbx.size)
  clear hb hb0 hn hbx hby RA0
  have hb : Below W2.heap.size W2 W2.drew := (Below.refl _ _).drew
  have HS : Hid (∀ W' : World, Below W2.heap.size W2 W' → W'.cell? ⟨ea, 0, none⟩ = some (.int .i64 yk) ∧ W'.cell? ⟨ea, 1, none⟩ = some (.int .i64 yt) ∧ W'.cell? ⟨ea, 2, none⟩ = some (.int .i64 yi) ∧ W'.cell? ⟨ea, 3, none⟩ = some (.int .i64 ypk) ∧ W'.cell? ⟨ea, 4, none⟩ = some (.int .i64 ypn) ∧ W'.cell? ⟨ea, 5, none⟩ = some (.string yb) ∧ W'.cell? ⟨ea, 6, none⟩ = some (.int .i64 yc) ∧ W'.cell? ⟨ea, 7, none⟩ = some (.int .u32 yu) ∧ W'.cell? ⟨eb, 0, none⟩ = some (.int .i64 yk) ∧ W'.cell? ⟨eb, 1, none⟩ = some (.int .i64 yt) ∧ W'.cell? ⟨eb, 2, none⟩ = some (.int .i64 yi) ∧ W'.cell? ⟨eb, 3, none⟩ = some (.int .i64 ypk) ∧ W'.cell? ⟨eb, 4, none⟩ = some (.int .i64 ypn) ∧ W'.cell? ⟨eb, 5, none⟩ = some (.string yb) ∧ W'.cell? ⟨eb, 6, none⟩ = some (.int .i64 yc) ∧ W'.cell? ⟨eb, 7, none⟩ = some (.int .u32 yu)) := Lib.hid fun W' h => by
    obtain ⟨x0, x1, x2, x3, x4, x5, x6, x7⟩ := RA.below h l3
    obtain ⟨y0, y1, y2, y3, y4, y5, y6, y7⟩ := RB.below h l2
    exact ⟨x0, x1, x2, x3, x4, x5, x6, x7, y0, y1, y2, y3, y4, y5, y6, y7⟩
  clear RA RB l1 l2 l3
  go_region_held3 (fun W' => W'.cell? ⟨ea, 0, none⟩ = some (.int .i64 yk) ∧ W'.cell? ⟨ea, 1, none⟩ = some (.int .i64 yt) ∧ W'.cell? ⟨ea, 2, none⟩ = some (.int .i64 yi) ∧ W'.cell? ⟨ea, 3, none⟩ = some (.int .i64 ypk) ∧ W'.cell? ⟨ea, 4, none⟩ = some (.int .i64 ypn) ∧ W'.cell? ⟨ea, 5, none⟩ = some (.string yb) ∧ W'.cell? ⟨ea, 6, none⟩ = some (.int .i64 yc) ∧ W'.cell? ⟨ea, 7, none⟩ = some (.int .u32 yu) ∧ W'.cell? ⟨eb, 0, none⟩ = some (.int .i64 yk) ∧ W'.cell? ⟨eb, 1, none⟩ = some (.int .i64 yt) ∧ W'.cell? ⟨eb, 2, none⟩ = some (.int .i64 yi) ∧ W'.cell? ⟨eb, 3, none⟩ = some (.int .i64 ypk) ∧ W'.cell? ⟨eb, 4, none⟩ = some (.int .i64 ypn) ∧ W'.cell? ⟨eb, 5, none⟩ = some (.string yb) ∧ W'.cell? ⟨eb, 6, none⟩ = some (.int .i64 yc) ∧ W'.cell? ⟨eb, 7, none⟩ = some (.int .u32 yu))
    (first | exact HS.out _ hb)
    (first
      | (go_at_call 60; (with_reducible refine (told_at _ _ _ _ _ _ _ _ _ W2 hb).mono ?_); rintro e w13 ⟨rfl, hb9⟩; replace hb := hb9; clear hb9)
      | (go_at_call 50; (with_reducible refine (live6 _ W2 hb).mono ?_); rintro e w13 ⟨rfl, hb9⟩; replace hb := hb9; clear hb9))
  all_goals
    go_wp2
    go_ret
    exact ⟨rfl, hbW.trans (hb.mono hbW.size)⟩
end Go.Proofs.Ytmibbklafogbkaa
