/- The entry layer: the document's sum of pages (57) out of its bytes (53); entries handed over (52, 60). -/
import Derived.Test.YtmibbklafogbkaaEu
import Derived.Test.YtmibbklafogbkaaEd
namespace Go.Proofs.Ytmibbklafogbkaa
open Go.RowKit
open Fld
open Crc
def I64 (n : Int) : Prop := -9223372036854775808 ≤ n ∧ n ≤ 9223372036854775807
/-- the document's bytes of an entry: proved beside each law, out of the printed texts -/
def Ref53 : Prop := ∀ (kind tx ix pk pn cnt sum : Int) (pb : ByteArray) (w : World), pb.size ≤ 300 → 0 ≤ sum → sum < 4294967296 →
  Calls Try.prog 53 #[.agg #[.int .i64 kind, .int .i64 tx, .int .i64 ix, .int .i64 pk, .int .i64 pn, .string pb, .int .i64 cnt, .int .u32 sum]] w fun r w' =>
      r = .returned (.tuple #[.string (encS ⟨kind, tx, ix, pk, pn, pb, cnt, sum⟩), .int .i64 (chkI ⟨kind, tx, ix, pk, pn, pb, cnt, sum⟩)]) ∧ Below w.heap.size w w'
/-- may an entry be, by the document: proved likewise -/
def Ref55 : Prop := ∀ (kind tx ix pk pn cnt sum : Int) (pb : ByteArray) (w : World),
  Calls Try.prog 55 #[.agg #[.int .i64 kind, .int .i64 tx, .int .i64 ix, .int .i64 pk, .int .i64 pn, .string pb, .int .i64 cnt, .int .u32 sum]] w fun r w' =>
      r = .returned (.int .i64 (chkI ⟨kind, tx, ix, pk, pn, pb, cnt, sum⟩)) ∧ Below w.heap.size w w'
theorem r53 (R : Ref53) (kind tx ix pk pn cnt sum : Int) (pb : ByteArray) (w : World) (h : pb.size ≤ 300) (h0 : 0 ≤ sum) (h1 : sum < 4294967296) :
    Calls Try.prog 53 #[.agg #[.int .i64 kind, .int .i64 tx, .int .i64 ix, .int .i64 pk, .int .i64 pn, .string pb, .int .i64 cnt, .int .u32 sum]] w fun r w' =>
      r = .returned (.tuple #[.string (encS ⟨kind, tx, ix, pk, pn, pb, cnt, sum⟩), .int .i64 (chkI ⟨kind, tx, ix, pk, pn, pb, cnt, sum⟩)]) ∧ Below w.heap.size w w' := R kind tx ix pk pn cnt sum pb w h h0 h1
theorem r55 (R : Ref55) (kind tx ix pk pn cnt sum : Int) (pb : ByteArray) (w : World) :
    Calls Try.prog 55 #[.agg #[.int .i64 kind, .int .i64 tx, .int .i64 ix, .int .i64 pk, .int .i64 pn, .string pb, .int .i64 cnt, .int .u32 sum]] w fun r w' =>
      r = .returned (.int .i64 (chkI ⟨kind, tx, ix, pk, pn, pb, cnt, sum⟩)) ∧ Below w.heap.size w w' := R kind tx ix pk pn cnt sum pb w
set_option maxRecDepth 100000 in
set_option maxHeartbeats 2000000 in
theorem ref57_of (R : Ref53) (l : List Pg) (A : Option Addr) (c : Nat) (w : World) (h : PgAt w A l) (_hc : l.length ≤ c) (hn : l.length ≤ 60) (hp : ∀ p ∈ l, p.pb.size ≤ 300) :
    Calls Try.prog 57 #[.slice A l.length c] w fun e w' => e = .returned (.int .u32 (sumTo l l.length)) ∧ Below w.heap.size w w' := by
  obtain ⟨n, hnn⟩ : ∃ n, n = l.length := ⟨_, rfl⟩
  rw [← hnn] at hn ⊢
  have HNN := Lib.hid hnn
  have H := Lib.hid h
  have HP := Lib.hid hp
  have HR := Lib.hid R
  clear hnn h hp R
  go_enter Try.func57, Try.ntmps57
  go_wp2
  go_loopw [3, 4] (fun v i wr => ∃ (k : Nat) (s : ByteArray), k ≤ n ∧ i = .int .i64 k ∧ v = .string s ∧ Hid (s.data.toList = cat 0 (l.take k)) ∧ s.size ≤ 240 * k ∧ Below w.heap.size w wr) (fun _ i _ => n - (intOf i).toNat)
  case atStart => exact ⟨0, ⟨#[]⟩, Nat.zero_le _, rfl, rfl, Lib.hid rfl, Nat.le_refl _, Below.refl _ _⟩
  case round =>
    obtain ⟨k, s, hk, rfl, rfl, HS, hs, hb⟩ := hrel
    by_cases hlt : k < n
    · have hlt' : k < l.length := by have := HNN.out; omega
      obtain ⟨ad, e, c0, c1, c2⟩ := H.out k hlt'
      subst e
      replace c0 := (hb.cell (World.block_lt_of_cell? w _ c0)).trans c0
      replace c1 := (hb.cell (World.block_lt_of_cell? w _ c1)).trans c1
      replace c2 := (hb.cell (World.block_lt_of_cell? w _ c2)).trans c2
      have hpk := HP.out l[k] (List.getElem_mem _)
      obtain ⟨T, hT⟩ : ∃ T, T = encS ⟨1, 1, k, l[k].pk, l[k].pn, l[k].pb, 0, 0⟩ := ⟨_, rfl⟩
      have hts : T.size ≤ 240 := by rw [hT]; exact encS_size _
      have HX : Hid ((s ++ T).data.toList = cat 0 (l.take (k + 1))) := Lib.hid (by
        rw [List.take_succ_eq_append_getElem hlt', cat_snoc, ← HS.out, List.length_take, Nat.min_eq_left (by omega), ← encS_list, hT]
        simp [Pg.at', Ent.stage])
      have hsz : (s ++ T).size ≤ 240 * (k + 1) := by rw [ByteArray.size_append]; omega
      have HT := Lib.hid hT
      clear hT
      generalize l[k].pk = pk at c0 HT
      generalize l[k].pn = pn at c1 HT
      generalize l[k].pb = pb at c2 HT hpk
      clear hlt'
      go_wp2_with (first
        | (go_at_call 53; with_reducible refine (frm (r53 HR.out 1 1 k pk pn 0 0 pb _ hpk (by omega) (by omega)) hb).mono ?_; rintro e w8 ⟨rfl, hb8⟩; rw [← HT.out]))
      go_roundw
      case rel => exact ⟨k + 1, s ++ T, by omega, by go_num, rfl, HX, hsz, hb8⟩
      case measure => simp [intOf]; omega
    · obtain rfl : n = k := by omega
      have hs2 : s.size ≤ 140737488351232 := by omega
      have hv : sumI s = sumTo l n := by unfold sumI sumTo; rw [HS.out]
      have HV := Lib.hid hv
      clear hv
      go_wp2_with (go_at_call 26; with_reducible refine (refSum_any s _ hs2).mono ?_; rintro e w9 ⟨rfl, rfl⟩; rw [HV.out])
      go_ret
      exact ⟨rfl, hb⟩
theorem ref57 (R : Ref53) (l : List Pg) (A : Option Addr) (c : Nat) (w : World) (h : PgAt w A l) (hc : l.length ≤ c) (hn : l.length ≤ 60) (hp : ∀ p ∈ l, p.pb.size ≤ 300) :
    Calls Try.prog 57 #[.slice A l.length c] w fun e w' => e = .returned (.int .u32 (sumTo l l.length)) ∧ Below w.heap.size w w' := ref57_of R l A c w h hc hn hp
set_option maxRecDepth 100000 in
set_option maxHeartbeats 1000000 in
theorem own_any (kind tx ix pk pn cnt sum : Int) (pb : ByteArray) (w : World) :
    Calls Try.prog 52 #[.agg #[.int .i64 kind, .int .i64 tx, .int .i64 ix, .int .i64 pk, .int .i64 pn, .string pb, .int .i64 cnt, .int .u32 sum]] w fun r w' =>
      r = .returned (.agg #[.int .i64 kind, .int .i64 tx, .int .i64 ix, .int .i64 pk, .int .i64 pn, .string pb, .int .i64 cnt, .int .u32 sum]) ∧ Below w.heap.size w w' := by
  go_enter Try.func52, Try.ntmps52
  go_wp2_with (first
    | (refine wpList_boxArr rfl 74 _ rfl _ rfl ?_; intro W1 hW1 hg1 hz1; obtain ⟨d0, d1, d2, d3, d4, d5, d6, d7⟩ := Row8.of hW1; have HZ := Lib.hid hz1; clear hz1 hW1)
    | (refine wpList_allocArr rfl 77 rfl _ zero77 ?_; intro W2 hW2 hg2 hz2; replace d0 := World.grownBy.cell hg2 d0 (by simp); replace d1 := World.grownBy.cell hg2 d1 (by simp); replace d2 := World.grownBy.cell hg2 d2 (by simp); replace d3 := World.grownBy.cell hg2 d3 (by simp); replace d4 := World.grownBy.cell hg2 d4 (by simp); replace d5 := World.grownBy.cell hg2 d5 (by simp); replace d6 := World.grownBy.cell hg2 d6 (by simp); replace d7 := World.grownBy.cell hg2 d7 (by simp); have H2 := Lib.hid hW2; clear hz2 hW2)
    | (refine wpList_storeArr rfl 77 _ _ rfl W1.heap.size #[.int .i64 kind, .int .i64 tx, .int .i64 ix, .int .i64 pk, .int .i64 pn, .string pb, .int .i64 cnt, .int .u32 sum] rfl rfl 77 _ H2.out size77 rfl (ent_one _ _ _ _ _ _ _ _) ?_; intro W3 hW3 hg3 hz3; clear d0 d1 d2 d3 d4 d5 d6 d7; obtain ⟨d0, d1, d2, d3, d4, d5, d6, d7⟩ := Row8.of hW3; clear hz3 hW3))
  exact bodyPost_ret (v := .agg #[.int .i64 kind, .int .i64 tx, .int .i64 ix, .int .i64 pk, .int .i64 pn, .string pb, .int .i64 cnt, .int .u32 sum]) (by simp [results, Try.results52, go_sem, d0, d1, d2, d3, d4, d5, d6, d7]) rfl
    ⟨rfl, (((Below.refl _ _).grown hg1 (Nat.le_refl _) (by simp)).grown hg2 hg1.size (by simp)).grown hg3 (Nat.le_trans hg1.size hg2.size) (fun k hk => by have := Option.some.inj hk; have := HZ.out; omega)⟩
theorem zero74 : ∀ w, (zeroValue 74).run Try.prog w = .ok (.agg #[.int .i64 0, .int .i64 0, .int .i64 0, .int .i64 0, .int .i64 0, .string ByteArray.empty, .int .i64 0, .int .u32 0]) w := (zero_of_info (n := 8) (by kernel_rfl)).1
theorem size74 : (Try.prog.info? 74).map (·.size) = some 8 := by kernel_rfl
set_option maxRecDepth 100000 in
set_option maxHeartbeats 1000000 in
theorem told_any (kind tx ix pk pn cnt sum : Int) (pb : ByteArray) (w : World) :
    Calls Try.prog 60 #[.agg #[.int .i64 kind, .int .i64 tx, .int .i64 ix, .int .i64 pk, .int .i64 pn, .string pb, .int .i64 cnt, .int .u32 sum]] w fun r w' =>
      r = .returned (.agg #[.int .i64 kind, .int .i64 tx, .int .i64 ix, .int .i64 pk, .int .i64 pn, .string pb, .int .i64 cnt, .int .u32 sum]) ∧ Below w.heap.size w w' := by
  go_enter Try.func60, Try.ntmps60
  go_wp2_with (first
    | (refine wpList_boxArr rfl 77 _ rfl _ rfl ?_; intro W1 hW1 hg1 hz1; obtain ⟨d0, d1, d2, d3, d4, d5, d6, d7⟩ := Row8.of hW1; have HZ := Lib.hid hz1; clear hz1 hW1)
    | (refine wpList_allocArr rfl 74 rfl _ zero74 ?_; intro W2 hW2 hg2 hz2; replace d0 := World.grownBy.cell hg2 d0 (by simp); replace d1 := World.grownBy.cell hg2 d1 (by simp); replace d2 := World.grownBy.cell hg2 d2 (by simp); replace d3 := World.grownBy.cell hg2 d3 (by simp); replace d4 := World.grownBy.cell hg2 d4 (by simp); replace d5 := World.grownBy.cell hg2 d5 (by simp); replace d6 := World.grownBy.cell hg2 d6 (by simp); replace d7 := World.grownBy.cell hg2 d7 (by simp); have H2 := Lib.hid hW2; clear hz2 hW2)
    | (refine wpList_storeArr rfl 74 _ _ rfl W1.heap.size #[.int .i64 kind, .int .i64 tx, .int .i64 ix, .int .i64 pk, .int .i64 pn, .string pb, .int .i64 cnt, .int .u32 sum] rfl rfl 74 _ H2.out size74 rfl (ent_one _ _ _ _ _ _ _ _) ?_; intro W3 hW3 hg3 hz3; clear d0 d1 d2 d3 d4 d5 d6 d7; obtain ⟨d0, d1, d2, d3, d4, d5, d6, d7⟩ := Row8.of hW3; clear hz3 hW3))
  exact bodyPost_ret (v := .agg #[.int .i64 kind, .int .i64 tx, .int .i64 ix, .int .i64 pk, .int .i64 pn, .string pb, .int .i64 cnt, .int .u32 sum]) (by simp [results, Try.results60, go_sem, d0, d1, d2, d3, d4, d5, d6, d7]) rfl
    ⟨rfl, (((Below.refl _ _).grown hg1 (Nat.le_refl _) (by simp)).grown hg2 hg1.size (by simp)).grown hg3 (Nat.le_trans hg1.size hg2.size) (fun k hk => by have := Option.some.inj hk; have := HZ.out; omega)⟩
end Go.Proofs.Ytmibbklafogbkaa
