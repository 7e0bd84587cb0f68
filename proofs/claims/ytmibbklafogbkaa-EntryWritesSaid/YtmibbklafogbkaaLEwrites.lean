/- The walk of the law EntryWrites. -/
import Derived.Test.YtmibbklafogbkaaLEback
namespace Go.Proofs.Ytmibbklafogbkaa
open Go.RowKit
open Fld
theorem rencode_at (kind tx ix pk pn cnt sum : Int) (pb : ByteArray) (w w0 : World) (h : Below w0.heap.size w0 w) (hp : pb.size ≤ 300) (s0 : 0 ≤ sum) (s1 : sum < 4294967296) (S : ByteArray) (F : Int) (hS : S = encS ⟨kind, tx, ix, pk, pn, pb, cnt, sum⟩) (hF : F = chkI ⟨kind, tx, ix, pk, pn, pb, cnt, sum⟩) :
    Calls Try.prog 53 #[.agg #[.int .i64 kind, .int .i64 tx, .int .i64 ix, .int .i64 pk, .int .i64 pn, .string pb, .int .i64 cnt, .int .u32 sum]] w fun r w' =>
      r = .returned (.tuple #[.string S, .int .i64 F]) ∧ Below w0.heap.size w0 w' :=
  (rencode_any kind tx ix pk pn cnt sum pb w hp s0 s1).mono fun _ _ ⟨a, b⟩ => ⟨by rw [a, hS, hF], h.trans (b.mono h.size)⟩
theorem rcheck_at (kind tx ix pk pn cnt sum : Int) (pb : ByteArray) (w w0 : World) (h : Below w0.heap.size w0 w) (R : Int) (hR : R = chkI ⟨kind, tx, ix, pk, pn, pb, cnt, sum⟩) :
    Calls Try.prog 55 #[.agg #[.int .i64 kind, .int .i64 tx, .int .i64 ix, .int .i64 pk, .int .i64 pn, .string pb, .int .i64 cnt, .int .u32 sum]] w fun r w' => r = .returned (.int .i64 R) ∧ Below w0.heap.size w0 w' :=
  (rcheck_any kind tx ix pk pn cnt sum pb w).mono fun _ _ ⟨a, b⟩ => ⟨by rw [a, hR], h.trans (b.mono h.size)⟩
/-- pages that lie in memory since a world, none of them large -/
def Pgs (w0 : World) (A : Option Addr) (cap n : Nat) (l : List Pg) : Prop := PgAt w0 A l ∧ n = l.length ∧ n ≤ cap ∧ n ≤ 60 ∧ ∀ p ∈ l, p.pb.size ≤ 300
theorem sum_at (l : List Pg) (A : Option Addr) (cap n : Nat) (w w0 : World) (h : Below w0.heap.size w0 w) (hp : Pgs w0 A cap n l) (R : Int) (hR : R = sumTo l n) :
    Calls Try.prog 56 #[.slice A n cap] w fun e w' => e = .returned (.int .u32 R) ∧ Below w0.heap.size w0 w' := by
  obtain ⟨h1, rfl, h2, h3, h4⟩ := hp
  exact (sumP_any l A cap w (h1.below h) (by omega) (fun p hp => by have := h4 p hp; unfold maxLen; omega)).mono fun _ _ ⟨a, b⟩ => ⟨by rw [a, hR], h.trans (b.mono h.size)⟩
theorem rsum_at (l : List Pg) (A : Option Addr) (cap n : Nat) (w w0 : World) (h : Below w0.heap.size w0 w) (hp : Pgs w0 A cap n l) (R : Int) (hR : R = sumTo l n) :
    Calls Try.prog 57 #[.slice A n cap] w fun e w' => e = .returned (.int .u32 R) ∧ Below w0.heap.size w0 w' := by
  obtain ⟨h1, rfl, h2, h3, h4⟩ := hp
  exact (ref57_of ref53 l A cap w (h1.below h) h2 h3 h4).mono fun _ _ ⟨a, b⟩ => ⟨by rw [a, hR], h.trans (b.mono h.size)⟩
set_option maxRecDepth 100000 in
set_option maxHeartbeats 8000000 in
theorem ewrites_walk (ak at' ai apk apn ac au : Int) (ab : ByteArray) (A : Option Addr) (cap : Nat) (l : List Pg) (w : World) (ha : ab.size ≤ maxLen) (a0 : 0 ≤ au) (a1 : au < 4294967296) (hl1 : l.length ≤ cap) (_hl2 : cap ≤ maxLen) (hpg : PgAt w A l) (_hps : ∀ p ∈ l, p.pb.size ≤ maxLen) :
    Calls Try.prog 14 #[.agg #[.int .i64 ak, .int .i64 at', .int .i64 ai, .int .i64 apk, .int .i64 apn, .string ab, .int .i64 ac, .int .u32 au], .slice A l.length cap] w fun e w' => e = .returned (.bool true) ∧ Below w.heap.size w w' := by
  unfold maxLen at ha
  obtain ⟨SA, hSA⟩ : ∃ S, S = encS ⟨ak, at', ai, apk, apn, ab, ac, au⟩ := ⟨_, rfl⟩
  obtain ⟨FA, hFA⟩ : ∃ F, F = chkI ⟨ak, at', ai, apk, apn, ab, ac, au⟩ := ⟨_, rfl⟩
  obtain ⟨n, hn⟩ : ∃ n, n = l.length := ⟨_, rfl⟩
  obtain ⟨R, hR⟩ : ∃ R, R = sumTo l n := ⟨_, rfl⟩
  rw [← hn] at hl1 ⊢
  have HSA := Lib.hid hSA
  have HFA := Lib.hid hFA
  have HR := Lib.hid hR
  have HN := Lib.hid hn
  clear hSA hFA hR hn
  obtain ⟨ea, hea⟩ : ∃ eb, eb = w.heap.size := ⟨_, rfl⟩
  have HEA := Lib.hid hea
  clear hea
  have HPG0 := Lib.hid hpg
  clear hpg
  go_enter Try.func14, Try.ntmps14
  go_upto_region 1 with (refine wpList_boxArr rfl 74 _ rfl _ rfl ?_; intro W1 hW1 hg1 hz1; rw [← HEA.out] at hW1 ⊢; have RA := Row8.of hW1; have l1 : ea < W1.heap.size := (Array.getElem?_eq_some_iff.1 hW1).1; clear hW1 hz1)
  have hbw : Below w.heap.size w W1 := (Below.refl _ _).grown hg1 (Nat.le_refl _) (by simp)
  have HRA : Hid (∀ W' : World, Below W1.heap.size W1 W' → Row8 W' ea ak at' ai apk apn ac au ab) := Lib.hid fun W' h => RA.below h l1
  have HPG : Hid (PgAt W1 A l) := Lib.hid (HPG0.out.below hbw)
  clear HPG0
  obtain ⟨x0, x1, x2, x3, x4, x5, x6, x7⟩ := RA
  rcases (show 300 < ab.size ∨ ab.size ≤ 300 by omega) with s1 | s1
  · go_wp2_with (go_at_call 50; with_reducible refine (live6 _ w hbw).mono ?_; rintro e w9 ⟨rfl, hb9⟩)
    go_ret
    exact ⟨rfl, hb9⟩
  rcases (show 60 < n ∨ n ≤ 60 by omega) with s2 | s2
  · go_wp2_with (go_at_call 50; with_reducible refine (live6 _ w hbw).mono ?_; rintro e w9 ⟨rfl, hb9⟩)
    go_ret
    exact ⟨rfl, hb9⟩
  go_wp2
  go_loop [5] (fun i => ∃ k : Nat, k ≤ n ∧ i = .int .i64 k ∧ Hid (∀ j, (h : j < l.length) → j < k → l[j].pb.size ≤ 300)) (fun i => n - (intOf i).toNat)
  case atStart => exact ⟨0, Nat.zero_le _, rfl, Lib.hid fun j _ h => absurd h (Nat.not_lt_zero _)⟩
  case round =>
    obtain ⟨k, hk, rfl, HK⟩ := hrel
    by_cases hlt : k < n
    · have hlt' : k < l.length := by have := HN.out; omega
      obtain ⟨ad, e, c0, c1, c2⟩ := HPG.out k hlt'
      subst e
      by_cases hs : 300 < l[k].pb.size
      · generalize l[k].pb = pb at c2 hs
        clear c0 c1 hlt'
        go_wp2_with (go_at_call 50; with_reducible refine (live6 _ w hbw).mono ?_; rintro e w9 ⟨rfl, hb9⟩)
        go_ret
        exact ⟨rfl, hb9⟩
      · have HK2 : Hid (∀ j, (h : j < l.length) → j < k + 1 → l[j].pb.size ≤ 300) := Lib.hid fun j h hj => by
          rcases (show j < k ∨ j = k by omega) with q | q
          · exact HK.out j h q
          · subst q; omega
        have hs' : l[k].pb.size ≤ 300 := by omega
        generalize l[k].pb = pb at c2 hs hs'
        clear c0 c1 hlt'
        go_wp2
        go_round
        case rel => exact ⟨k + 1, by omega, by go_num, HK2⟩
        case measure => simp [intOf]; omega
    · obtain rfl : n = k := by omega
      have HPS : Hid (Pgs W1 A cap n l) := Lib.hid ⟨HPG.out, HN.out, hl1, s2, fun p hp => by
        obtain ⟨j, hj, rfl⟩ := List.getElem_of_mem hp
        exact HK.out j hj (by have := HN.out; omega)⟩
      have hb : Below W1.heap.size W1 W1 := Below.refl _ _
      go_upto_region 10 with (first
        | (go_at_call 52; with_reducible refine (own_at _ _ _ _ _ _ _ _ _ W1 hb).mono ?_; rintro e w9 ⟨rfl, hb9⟩; replace hb := hb9; clear hb9)
        | (go_at_call 51; with_reducible refine (encode_at ak at' ai apk apn ac au ab _ W1 hb s1 a0 a1 SA FA HSA.out HFA.out).mono ?_; rintro e w10 ⟨rfl, hb9⟩; replace hb := hb9; clear hb9; clear x0 x1 x2 x3 x4 x5 x6 x7; obtain ⟨x0, x1, x2, x3, x4, x5, x6, x7⟩ := HRA.out _ hb)
        | (go_at_call 53; with_reducible refine (rencode_at ak at' ai apk apn ac au ab _ W1 hb s1 a0 a1 SA FA HSA.out HFA.out).mono ?_; rintro e w11 ⟨rfl, hb9⟩; replace hb := hb9; clear hb9; clear x0 x1 x2 x3 x4 x5 x6 x7))
      replace hb := hb.drew
      have HS : Hid (∀ W' : World, Below W1.heap.size W1 W' → W'.cell? ⟨ea, 0, none⟩ = some (.int .i64 ak) ∧ W'.cell? ⟨ea, 1, none⟩ = some (.int .i64 at') ∧ W'.cell? ⟨ea, 2, none⟩ = some (.int .i64 ai) ∧ W'.cell? ⟨ea, 3, none⟩ = some (.int .i64 apk) ∧ W'.cell? ⟨ea, 4, none⟩ = some (.int .i64 apn) ∧ W'.cell? ⟨ea, 5, none⟩ = some (.string ab) ∧ W'.cell? ⟨ea, 6, none⟩ = some (.int .i64 ac) ∧ W'.cell? ⟨ea, 7, none⟩ = some (.int .u32 au)) := Lib.hid fun W' h => by
        obtain ⟨x0, x1, x2, x3, x4, x5, x6, x7⟩ := HRA.out W' h
        exact ⟨x0, x1, x2, x3, x4, x5, x6, x7⟩
      go_region_held3 (fun W' => W'.cell? ⟨ea, 0, none⟩ = some (.int .i64 ak) ∧ W'.cell? ⟨ea, 1, none⟩ = some (.int .i64 at') ∧ W'.cell? ⟨ea, 2, none⟩ = some (.int .i64 ai) ∧ W'.cell? ⟨ea, 3, none⟩ = some (.int .i64 apk) ∧ W'.cell? ⟨ea, 4, none⟩ = some (.int .i64 apn) ∧ W'.cell? ⟨ea, 5, none⟩ = some (.string ab) ∧ W'.cell? ⟨ea, 6, none⟩ = some (.int .i64 ac) ∧ W'.cell? ⟨ea, 7, none⟩ = some (.int .u32 au))
        (first | exact HS.out _ hb)
        (first
          | (go_at_call 52; (with_reducible refine (own_at _ _ _ _ _ _ _ _ _ W1 hb).mono ?_); rintro e w12 ⟨rfl, hb9⟩; replace hb := hb9; clear hb9)
          | (go_at_call 54; (with_reducible refine (check_at ak at' ai apk apn ac au ab _ W1 hb s1 FA HFA.out).mono ?_); rintro e w12 ⟨rfl, hb9⟩; replace hb := hb9; clear hb9)
          | (go_at_call 55; (with_reducible refine (rcheck_at ak at' ai apk apn ac au ab _ W1 hb FA HFA.out).mono ?_); rintro e w12 ⟨rfl, hb9⟩; replace hb := hb9; clear hb9)
          | (go_at_call 56; (with_reducible refine (sum_at l A cap n _ W1 hb HPS.out R HR.out).mono ?_); rintro e w12 ⟨rfl, hb9⟩; replace hb := hb9; clear hb9)
          | (go_at_call 57; (with_reducible refine (rsum_at l A cap n _ W1 hb HPS.out R HR.out).mono ?_); rintro e w12 ⟨rfl, hb9⟩; replace hb := hb9; clear hb9)
          | (go_at_call 50; (with_reducible refine (live6 _ W1 hb).mono ?_); rintro e w12 ⟨rfl, hb9⟩; replace hb := hb9; clear hb9))
      all_goals
        go_wp2
        go_ret
        exact ⟨rfl, hbw.trans (hb.mono hbw.size)⟩
end Go.Proofs.Ytmibbklafogbkaa
