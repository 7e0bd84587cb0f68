/- The entry layer: what stands in bytes (entry.Decode, 58). -/
import Derived.Test.YtmibbklafogbkaaEe
import Derived.StillTailTactics
namespace Go.Proofs.Ytmibbklafogbkaa
open Go.RowKit
open Fld
set_option maxRecDepth 100000 in
set_option maxHeartbeats 1000000 in
theorem get1_ok (p B c ab : Nat) (l pad : List UInt8) (at' width : Int) (w : World) (h : AreaAt w p B c l pad) (hc : w.cell? ⟨ab, 0, none⟩ = some (.pointer (some ⟨p, 0, none⟩))) (hw : Wid width) (hr : Rng l.length at' width) (N : Int) (hN : N = (num (getL l at'.toNat width.toNat) : Nat)) :
    Calls Try.prog 81 #[.int .i64 at', .int .i64 width, .pointer (some ⟨ab, 0, none⟩)] w fun e w' => e = .returned (.int .i64 N) ∧ w' = w := by
  have hb : (num (getL l at'.toNat width.toNat)) < 256 ^ width.toNat := by
    have h1 := num_lt (getL l at'.toNat width.toNat)
    unfold Rng at hr
    rwa [getL_length _ _ _ (by omega)] at h1
  have hb2 : (256 : Nat) ^ width.toNat ≤ 4294967296 := by rcases hw with rfl | rfl | rfl <;> decide
  have n0 : 0 ≤ N := by omega
  have n1 : N < 4294967296 := by omega
  have HN := Lib.hid hN
  clear hN hb hb2
  go_enter Try.func81, Try.ntmps81
  go_wp2_with (go_at_call 37; with_reducible refine (get_ok p B c l pad _ _ _ h hw hr).mono ?_; rintro e w' ⟨rfl, rfl⟩; rw [← HN.out])
  go_ret
  exact ⟨rfl, rfl⟩
theorem get1_w (p B c ab : Nat) (l pad : List UInt8) (at' width : Int) (w : World) (h : AreaAt w p B c l pad) (hc : w.cell? ⟨ab, 0, none⟩ = some (.pointer (some ⟨p, 0, none⟩))) (hw : Wid width) (hr : Rng l.length at' width) (N : Int) (hN : N = (num (getL l at'.toNat width.toNat) : Nat)) :
    Calls Try.prog 81 #[.int .i64 at', .int .i64 width, .pointer (some ⟨ab, 0, none⟩)] w fun e w' => e = .returned (.int .i64 N) ∧ w = w' := (get1_ok p B c ab l pad at' width w h hc hw hr N hN).mono fun _ _ ⟨a, b⟩ => ⟨a, b.symm⟩
theorem num_bound (l : List UInt8) (a d : Nat) (h : a + d ≤ l.length) : num (getL l a d) < 256 ^ d := by
  have h1 := num_lt (getL l a d)
  rwa [getL_length _ _ _ h] at h1
/-- what Decode holds: the result's row, the area of the text, the variable that points to it -/
structure Dst (w0 w : World) (rb p B c ab : Nat) (l pad : List UInt8) : Prop where
  bel : Below w0.heap.size w0 w
  res : w.heap[rb]? = some (.cells #[.int .i64 0, .int .i64 0, .int .i64 0, .int .i64 0, .int .i64 0, .string ByteArray.empty, .int .i64 0, .int .u32 0] 77 (0, 0))
  area : AreaAt w p B c l pad
  ptr : w.cell? ⟨ab, 0, none⟩ = some (.pointer (some ⟨p, 0, none⟩))
  hrb : w0.heap.size ≤ rb
theorem Dst.lts {w0 w : World} {rb p B c ab : Nat} {l pad : List UInt8} (h : Dst w0 w rb p B c ab l pad) : rb < w.heap.size ∧ p < w.heap.size ∧ B < w.heap.size ∧ ab < w.heap.size :=
  ⟨(Array.getElem?_eq_some_iff.1 h.res).1, (Array.getElem?_eq_some_iff.1 h.area.head).1, h.area.row.lt, World.block_lt_of_cell? _ _ h.ptr⟩
theorem Dst.keep {w0 w w' : World} {rb p B c ab : Nat} {l pad : List UInt8} (h : Dst w0 w rb p B c ab l pad) (hb : Below w.heap.size w w') : Dst w0 w' rb p B c ab l pad := by
  obtain ⟨l1, l2, l3, l4⟩ := h.lts
  exact ⟨h.bel.trans (hb.mono h.bel.size), (hb.block rb l1).trans h.res, ⟨(hb.block p l2).trans h.area.head, h.area.row.below hb l3, h.area.cap, h.area.small⟩, (hb.cell (p := ⟨ab, 0, none⟩) l4).trans h.ptr, h.hrb⟩
theorem Dst.at' {w0 w w' : World} {rb p B c ab b : Nat} {l pad : List UInt8} (h : Dst w0 w rb p B c ab l pad) (hg : w.grownBy w' (some b)) (hb : w0.heap.size ≤ b) (h1 : rb ≠ b) (h2 : p ≠ b) (h3 : B ≠ b) (h4 : ab ≠ b) : Dst w0 w' rb p B c ab l pad := by
  obtain ⟨l1, l2, l3, l4⟩ := h.lts
  have hk : ∀ k, k < w.heap.size → k ≠ b → w'.heap[k]? = w.heap[k]? := fun k hk hne => hg.block k hk (fun e => hne (Option.some.inj e))
  exact ⟨h.bel.grown hg h.bel.size (fun k hk => by have := Option.some.inj hk; omega), (hk rb l1 h1).trans h.res, ⟨(hk p l2 h2).trans h.area.head, h.area.row.keep (hk B l3 h3), h.area.cap, h.area.small⟩, hg.cell h.ptr (fun e => h4 (Option.some.inj e)), h.hrb⟩
theorem grown_below {w w' : World} (hg : w.grownBy w' none) : Below w.heap.size w w' := (Below.refl _ _).grown hg (Nat.le_refl _) (by simp)
/-- the area's variable is made -/
theorem Dst.start {w0 W1 w9 : World} {rb p B c : Nat} {l pad : List UInt8} (ho : Own W1 w9 p B c l pad) (hb : Below w0.heap.size w0 W1) (hr : W1.heap[rb]? = some (.cells #[.int .i64 0, .int .i64 0, .int .i64 0, .int .i64 0, .int .i64 0, .string ByteArray.empty, .int .i64 0, .int .u32 0] 77 (0, 0))) (h : w0.heap.size ≤ rb) :
    Dst w0 (w9.alloc (.cells #[.pointer (some ⟨p, 0, none⟩)] 40)) rb p B c w9.heap.size l pad := by
  have l1 : rb < W1.heap.size := (Array.getElem?_eq_some_iff.1 hr).1
  have hg : Below w9.heap.size w9 (w9.alloc (.cells #[.pointer (some ⟨p, 0, none⟩)] 40)) := (Below.refl _ _).alloc (Nat.le_refl _) _
  refine ⟨(hb.trans (ho.bel.mono hb.size)).trans (hg.mono (Nat.le_trans hb.size ho.bel.size)), (hg.block rb (Nat.lt_of_lt_of_le l1 ho.bel.size)).trans ((ho.bel.block rb l1).trans hr), ⟨?_, ho.area.row.alloc _, ho.area.cap, ho.area.small⟩, ?_, h⟩
  · exact (hg.block p (Array.getElem?_eq_some_iff.1 ho.area.head).1).trans ho.area.head
  · rw [cell_of_row _ _ _ _ _ _ (heap_alloc_new w9 _)]; rfl
theorem str_ne {a b : ByteArray} (h : a ≠ b) : (a.toList == b.toList) = false := by
  rw [beq_eq_false_iff_ne]
  intro e
  rw [ByteArray.toList_eq, ByteArray.toList_eq] at e
  exact h (ByteArray.ext (Array.toList_inj.1 e))
theorem num_b1 (l : List UInt8) (a : Nat) (h : a + Int.toNat 1 ≤ l.length) : ((num (getL l a (Int.toNat 1)) : Nat) : Int) < 256 := by have := num_bound l a (Int.toNat 1) h; have e : 256 ^ Int.toNat 1 = 256 := rfl; omega
theorem num_b2 (l : List UInt8) (a : Nat) (h : a + Int.toNat 2 ≤ l.length) : ((num (getL l a (Int.toNat 2)) : Nat) : Int) < 65536 := by have := num_bound l a (Int.toNat 2) h; have e : 256 ^ Int.toNat 2 = 65536 := rfl; omega
theorem num_b4 (l : List UInt8) (a : Nat) (h : a + Int.toNat 4 ≤ l.length) : ((num (getL l a (Int.toNat 4)) : Nat) : Int) < 4294967296 := by have := num_bound l a (Int.toNat 4) h; have e : 256 ^ Int.toNat 4 = 4294967296 := rfl; omega
theorem two_stores' {W : World} {b : Nat} {cs : Array Value} {t : TypeId} (h : W.heap[b]? = some (.cells cs t (0, 0))) (i j : Nat) (u v : Value) :
    ((W.setCell ⟨b, i, none⟩ u).setCell ⟨b, j, none⟩ v).heap[b]? = some (.cells ((cs.setIfInBounds i u).setIfInBounds j v) t (0, 0)) ∧ W.grownBy ((W.setCell ⟨b, i, none⟩ u).setCell ⟨b, j, none⟩ v) (some b) := by
  obtain ⟨a, g⟩ := two_stores h i j u v
  exact ⟨a, ⟨g.os, g.tape, g.output, g.size, g.block⟩⟩
theorem zero_one : (#[Value.int .i64 0, Value.int .i64 0, Value.int .i64 0, Value.int .i64 0, Value.int .i64 0, Value.string ByteArray.empty, Value.int .i64 0, Value.int .u32 0]).all (·.oneCell') = true := ent_one _ _ _ _ _ _ _ _
set_option maxRecDepth 100000 in
set_option maxHeartbeats 2000000 in
theorem decode_none  (w : World) :
    Calls Try.prog 58 #[.string ⟨#[]⟩] w fun e w' => e = .returned (.tuple #[.agg #[.int .i64 0, .int .i64 0, .int .i64 0, .int .i64 0, .int .i64 0, .string ByteArray.empty, .int .i64 0, .int .u32 0], .int .i64 9]) ∧ Below w.heap.size w w' := by
  obtain ⟨rb, hrb⟩ : ∃ rb, rb = w.heap.size := ⟨_, rfl⟩
  have HRB := Lib.hid hrb
  clear hrb
  go_enter Try.func58, Try.ntmps58
  go_wp2_with (first
    | (refine wpList_allocArr rfl 77 rfl _ zero77 ?_; intro W1 hW1 hg1 hz1; rw [← HRB.out] at hW1 ⊢; have H1 := Lib.hid hW1; clear hW1)
    | (refine wpList_storeArr rfl 77 _ _ rfl rb #[.int .i64 0, .int .i64 0, .int .i64 0, .int .i64 0, .int .i64 0, .string ByteArray.empty, .int .i64 0, .int .u32 0] rfl rfl 77 _ H1.out size77 rfl zero_one ?_; intro W7 hW7 hg7 hz7; obtain ⟨d0, d1, d2, d3, d4, d5, d6, d7⟩ := Row8.of hW7))
  exact bodyPost_ret (v := .tuple #[.agg #[.int .i64 0, .int .i64 0, .int .i64 0, .int .i64 0, .int .i64 0, .string ByteArray.empty, .int .i64 0, .int .u32 0], .int .i64 9]) (by simp [results, Try.results58, go_sem, d0, d1, d2, d3, d4, d5, d6, d7]) rfl ⟨rfl, ((Below.refl _ _).grown hg1 (Nat.le_refl _) (by simp)).grown hg7 hg1.size (fun k hk => by have := Option.some.inj hk; have := HRB.out; omega)⟩
set_option maxRecDepth 100000 in
set_option maxHeartbeats 2000000 in
theorem decode_form (s : ByteArray) (h0 : 0 < s.size) (_h1 : s.size ≤ 9223372036854775807) (h2 : leastI (s[0].toNat : Int) = 0) (w : World) :
    Calls Try.prog 58 #[.string s] w fun e w' => e = .returned (.tuple #[.agg #[.int .i64 0, .int .i64 0, .int .i64 0, .int .i64 0, .int .i64 0, .string ByteArray.empty, .int .i64 0, .int .u32 0], .int .i64 6]) ∧ Below w.heap.size w w' := by
  have he := no_size h0
  have k0 : (0 : Int) ≤ (s[0].toNat : Int) := by omega
  have k1 : (s[0].toNat : Int) < 256 := by have := s[0].toNat_lt; omega
  have H2 := Lib.hid h2
  clear h2
  obtain ⟨rb, hrb⟩ : ∃ rb, rb = w.heap.size := ⟨_, rfl⟩
  have HRB := Lib.hid hrb
  clear hrb
  go_enter Try.func58, Try.ntmps58
  go_upto_region 4 with (first
    | (refine wpList_allocArr rfl 77 rfl _ zero77 ?_; intro W1 hW1 hg1 hz1; rw [← HRB.out] at hW1 ⊢; have H1 := Lib.hid hW1; clear hW1))
  generalize ((s[0].toNat : Nat) : Int) = K at k0 k1 H2 ⊢
  go_wp2_with (first
    | (go_at_call 80; with_reducible refine (least_any _ _ k0 k1).mono ?_; rintro e w9 ⟨rfl, rfl⟩; rw [H2.out])
    | (refine wpList_storeArr rfl 77 _ _ rfl rb #[.int .i64 0, .int .i64 0, .int .i64 0, .int .i64 0, .int .i64 0, .string ByteArray.empty, .int .i64 0, .int .u32 0] rfl rfl 77 _ H1.out size77 rfl zero_one ?_; intro W7 hW7 hg7 hz7; obtain ⟨d0, d1, d2, d3, d4, d5, d6, d7⟩ := Row8.of hW7))
  exact bodyPost_ret (v := .tuple #[.agg #[.int .i64 0, .int .i64 0, .int .i64 0, .int .i64 0, .int .i64 0, .string ByteArray.empty, .int .i64 0, .int .u32 0], .int .i64 6]) (by simp [results, Try.results58, go_sem, d0, d1, d2, d3, d4, d5, d6, d7]) rfl ⟨rfl, ((Below.refl _ _).grown hg1 (Nat.le_refl _) (by simp)).grown hg7 hg1.size (fun k hk => by have := Option.some.inj hk; have := HRB.out; omega)⟩
set_option maxRecDepth 100000 in
set_option maxHeartbeats 2000000 in
theorem decode_long (s : ByteArray) (n : Int) (h0 : 0 < s.size) (h1 : s.size ≤ 9223372036854775807) (h2 : leastI (s[0].toNat : Int) = n) (n0 : 0 < n) (h3 : 256 < s.size) (w : World) :
    Calls Try.prog 58 #[.string s] w fun e w' => e = .returned (.tuple #[.agg #[.int .i64 0, .int .i64 0, .int .i64 0, .int .i64 0, .int .i64 0, .string ByteArray.empty, .int .i64 0, .int .u32 0], .int .i64 6]) ∧ Below w.heap.size w w' := by
  have he := no_size h0
  have k0 : (0 : Int) ≤ (s[0].toNat : Int) := by omega
  have k1 : (s[0].toNat : Int) < 256 := by have := s[0].toNat_lt; omega
  have H2 := Lib.hid h2
  clear h2
  have n1 : (n == 0) = false := beq_eq_false_iff_ne.2 (by omega)
  obtain ⟨rb, hrb⟩ : ∃ rb, rb = w.heap.size := ⟨_, rfl⟩
  have HRB := Lib.hid hrb
  clear hrb
  go_enter Try.func58, Try.ntmps58
  go_upto_region 4 with (first
    | (refine wpList_allocArr rfl 77 rfl _ zero77 ?_; intro W1 hW1 hg1 hz1; rw [← HRB.out] at hW1 ⊢; have H1 := Lib.hid hW1; clear hW1))
  generalize ((s[0].toNat : Nat) : Int) = K at k0 k1 H2 ⊢
  go_wp2_with (first
    | (go_at_call 80; with_reducible refine (least_any _ _ k0 k1).mono ?_; rintro e w9 ⟨rfl, rfl⟩; rw [H2.out])
    | (refine wpList_storeArr rfl 77 _ _ rfl rb #[.int .i64 0, .int .i64 0, .int .i64 0, .int .i64 0, .int .i64 0, .string ByteArray.empty, .int .i64 0, .int .u32 0] rfl rfl 77 _ H1.out size77 rfl zero_one ?_; intro W7 hW7 hg7 hz7; obtain ⟨d0, d1, d2, d3, d4, d5, d6, d7⟩ := Row8.of hW7))
  exact bodyPost_ret (v := .tuple #[.agg #[.int .i64 0, .int .i64 0, .int .i64 0, .int .i64 0, .int .i64 0, .string ByteArray.empty, .int .i64 0, .int .u32 0], .int .i64 6]) (by simp [results, Try.results58, go_sem, d0, d1, d2, d3, d4, d5, d6, d7]) rfl ⟨rfl, ((Below.refl _ _).grown hg1 (Nat.le_refl _) (by simp)).grown hg7 hg1.size (fun k hk => by have := Option.some.inj hk; have := HRB.out; omega)⟩
set_option maxRecDepth 100000 in
set_option maxHeartbeats 2000000 in
theorem decode_cut (s : ByteArray) (n : Int) (h0 : 0 < s.size) (h1 : s.size ≤ 9223372036854775807) (h2 : leastI (s[0].toNat : Int) = n) (n0 : 0 < n) (h3 : s.size ≤ 256) (h4 : (s.size : Int) < n) (w : World) :
    Calls Try.prog 58 #[.string s] w fun e w' => e = .returned (.tuple #[.agg #[.int .i64 0, .int .i64 0, .int .i64 0, .int .i64 0, .int .i64 0, .string ByteArray.empty, .int .i64 0, .int .u32 0], .int .i64 9]) ∧ Below w.heap.size w w' := by
  have he := no_size h0
  have k0 : (0 : Int) ≤ (s[0].toNat : Int) := by omega
  have k1 : (s[0].toNat : Int) < 256 := by have := s[0].toNat_lt; omega
  have H2 := Lib.hid h2
  clear h2
  have n1 : (n == 0) = false := beq_eq_false_iff_ne.2 (by omega)
  obtain ⟨rb, hrb⟩ : ∃ rb, rb = w.heap.size := ⟨_, rfl⟩
  have HRB := Lib.hid hrb
  clear hrb
  go_enter Try.func58, Try.ntmps58
  go_upto_region 4 with (first
    | (refine wpList_allocArr rfl 77 rfl _ zero77 ?_; intro W1 hW1 hg1 hz1; rw [← HRB.out] at hW1 ⊢; have H1 := Lib.hid hW1; clear hW1))
  generalize ((s[0].toNat : Nat) : Int) = K at k0 k1 H2 ⊢
  go_wp2_with (first
    | (go_at_call 80; with_reducible refine (least_any _ _ k0 k1).mono ?_; rintro e w9 ⟨rfl, rfl⟩; rw [H2.out])
    | (refine wpList_storeArr rfl 77 _ _ rfl rb #[.int .i64 0, .int .i64 0, .int .i64 0, .int .i64 0, .int .i64 0, .string ByteArray.empty, .int .i64 0, .int .u32 0] rfl rfl 77 _ H1.out size77 rfl zero_one ?_; intro W7 hW7 hg7 hz7; obtain ⟨d0, d1, d2, d3, d4, d5, d6, d7⟩ := Row8.of hW7))
  exact bodyPost_ret (v := .tuple #[.agg #[.int .i64 0, .int .i64 0, .int .i64 0, .int .i64 0, .int .i64 0, .string ByteArray.empty, .int .i64 0, .int .u32 0], .int .i64 9]) (by simp [results, Try.results58, go_sem, d0, d1, d2, d3, d4, d5, d6, d7]) rfl ⟨rfl, ((Below.refl _ _).grown hg1 (Nat.le_refl _) (by simp)).grown hg7 hg1.size (fun k hk => by have := Option.some.inj hk; have := HRB.out; omega)⟩
set_option maxRecDepth 100000 in
set_option maxHeartbeats 8000000 in
theorem decode_1 (s : ByteArray) (w : World) (h1 : s.size ≤ 256) (h2 : 10 ≤ s.size) (h0 : 0 < s.size) (hK : ((s[0].toNat : Nat) : Int) = 1) (l : List UInt8) (hl : l = s.data.toList) (tx ix pk pn : Int) (pb : ByteArray) (hpb : pb = s.extract 10 s.size) (htx : tx = (num (getL l (Int.toNat 1) (Int.toNat 4)) : Nat)) (hix : ix = (num (getL l (Int.toNat 5) (Int.toNat 2)) : Nat)) (hpk : pk = (num (getL l (Int.toNat 7) (Int.toNat 1)) : Nat)) (hpn : pn = (num (getL l (Int.toNat 8) (Int.toNat 2)) : Nat)) :
    Calls Try.prog 58 #[.string s] w fun e w' => (e = if chkI ⟨1, tx, ix, pk, pn, pb, 0, 0⟩ = 0 ∧ encS ⟨1, tx, ix, pk, pn, pb, 0, 0⟩ = s then .returned (.tuple #[.agg #[.int .i64 1, .int .i64 tx, .int .i64 ix, .int .i64 pk, .int .i64 pn, .string pb, .int .i64 0, .int .u32 0], .int .i64 0]) else .returned (.tuple #[.agg #[.int .i64 0, .int .i64 0, .int .i64 0, .int .i64 0, .int .i64 0, .string ByteArray.empty, .int .i64 0, .int .u32 0], .int .i64 6])) ∧ Below w.heap.size w w' := by
  have he := no_size h0
  have hll : l.length = s.size := by rw [hl]; exact toList_size s
  have k0 : (0 : Int) ≤ (s[0].toNat : Int) := by omega
  have k1 : (s[0].toNat : Int) < 256 := by have := s[0].toNat_lt; omega
  have Rtx : Hid (Rng l.length 1 4) := Lib.hid ⟨by omega, by omega, by omega, by omega⟩
  have btx : tx < 4294967296 := by rw [htx]; exact num_b4 l (Int.toNat 1) (by omega)
  have ctx : 0 ≤ tx := by omega
  have Xtx := Lib.hid htx
  clear htx
  have Rix : Hid (Rng l.length 5 2) := Lib.hid ⟨by omega, by omega, by omega, by omega⟩
  have bix : ix < 65536 := by rw [hix]; exact num_b2 l (Int.toNat 5) (by omega)
  have cix : 0 ≤ ix := by omega
  have Xix := Lib.hid hix
  clear hix
  have Rpk : Hid (Rng l.length 7 1) := Lib.hid ⟨by omega, by omega, by omega, by omega⟩
  have bpk : pk < 256 := by rw [hpk]; exact num_b1 l (Int.toNat 7) (by omega)
  have cpk : 0 ≤ pk := by omega
  have Xpk := Lib.hid hpk
  clear hpk
  have Rpn : Hid (Rng l.length 8 2) := Lib.hid ⟨by omega, by omega, by omega, by omega⟩
  have bpn : pn < 65536 := by rw [hpn]; exact num_b2 l (Int.toNat 8) (by omega)
  have cpn : 0 ≤ pn := by omega
  have Xpn := Lib.hid hpn
  clear hpn
  have hps : pb.size ≤ maxLen := by unfold maxLen; rw [hpb, ByteArray.size_extract]; omega
  have HPB := Lib.hid hpb
  clear hpb
  have HL := Lib.hid hl
  have HK := Lib.hid hK
  clear hl hK hll
  have hlt : leastI 1 = 10 := rfl
  have HLT := Lib.hid hlt
  clear hlt
  obtain ⟨rb, hrb⟩ : ∃ rb, rb = w.heap.size := ⟨_, rfl⟩
  have HRB := Lib.hid hrb
  clear hrb
  obtain ⟨T, hT⟩ : ∃ T, T = encS ⟨1, tx, ix, pk, pn, pb, 0, 0⟩ := ⟨_, rfl⟩
  obtain ⟨F, hF⟩ : ∃ F, F = chkI ⟨1, tx, ix, pk, pn, pb, 0, 0⟩ := ⟨_, rfl⟩
  have f01 : F = 0 ∨ F = 1 := by rw [hF]; unfold chkI; split <;> simp
  rw [← hT, ← hF]
  have HT := Lib.hid hT
  have HF := Lib.hid hF
  clear hT hF
  obtain ⟨Z, hZ⟩ : ∃ Z, Z = (if F = 0 ∧ T = s then Ending.returned (.tuple #[.agg #[.int .i64 1, .int .i64 tx, .int .i64 ix, .int .i64 pk, .int .i64 pn, .string pb, .int .i64 0, .int .u32 0], .int .i64 0]) else Ending.returned (.tuple #[.agg #[.int .i64 0, .int .i64 0, .int .i64 0, .int .i64 0, .int .i64 0, .string ByteArray.empty, .int .i64 0, .int .u32 0], .int .i64 6])) := ⟨_, rfl⟩
  rw [← hZ]
  have HZ := Lib.hid hZ
  clear hZ
  go_enter Try.func58, Try.ntmps58
  go_upto_region 4 with (first
    | (refine wpList_allocArr rfl 77 rfl _ zero77 ?_; intro W1 hW1 hg1 hz1; rw [← HRB.out] at hW1 ⊢; have H1 := Lib.hid hW1; clear hW1))
  rw [HK.out]
  clear k0 k1
  go_upto_region 10 with (first
    | (go_at_call 80; with_reducible refine (least_any _ _ (by omega) (by omega)).mono ?_; rintro e w9 ⟨rfl, rfl⟩; rw [HLT.out])
    | (go_at_call 38; with_reducible refine (ofArea_any _ _ s (Below.refl _ _) (by omega) l HL.out).mono ?_; rintro e w9 ⟨p, B, c, pad, rfl, ho, hp1, hp2⟩))
  have hD := Dst.start (w0 := w) ho ((grown_below hg1)) H1.out (by rw [HRB.out]; exact Nat.le_refl _)
  generalize w9.heap.size = ab at hD ⊢
  generalize w9.alloc (Obj.cells #[Value.pointer (some { block := p, off := 0 })] 40) = W10 at hD ⊢
  clear ho hp1 hp2 hg1 hz1 H1
  obtain ⟨eb, heb⟩ : ∃ eb, eb = W10.heap.size := ⟨_, rfl⟩
  obtain ⟨y1, y2, y3, y4⟩ := hD.lts
  rw [← heb] at y1 y2 y3 y4
  have hle := hD.bel.size
  rw [← heb] at hle
  have HEB := Lib.hid heb
  clear heb
  go_upto_region 12 with (first
    | (go_at_call 81; with_reducible refine (get1_w p B c ab l pad 1 4 _ hD.area hD.ptr wid4 Rtx.out tx Xtx.out).mono ?_; rintro e w9 ⟨rfl, rfl⟩)
    | (go_at_call 81; with_reducible refine (get1_w p B c ab l pad 5 2 _ hD.area hD.ptr wid2 Rix.out ix Xix.out).mono ?_; rintro e w9 ⟨rfl, rfl⟩)
    | (refine wpList_allocArr rfl 77 rfl _ zero77 ?_; intro W2 hW2 hg2 hz2; rw [← HEB.out] at hW2 ⊢; have H2 := Lib.hid hW2; clear hW2)
    | (refine wpList_storeArr rfl 77 _ _ rfl eb #[.int .i64 1, .int .i64 tx, .int .i64 ix, .int .i64 0, .int .i64 0, .string ⟨#[]⟩, .int .i64 0, .int .u32 0] rfl rfl 77 _ H2.out size77 rfl (ent_one _ _ _ _ _ _ _ _) ?_; intro W3 hW3 hg3 hz3; have H3 := Lib.hid hW3; clear hW3))
  have hD2 := hD.keep (grown_below hg2)
  have hD3 := hD2.at' hg3 hle (by omega) (by omega) (by omega) (by omega)
  clear hD hD2 hg2 hg3 hz2 hz3
  go_upto_region 14 with (fail)
  refine wp_region_still_tail 8 (by kernel_rfl) (by kernel_rfl) ?_
  simp only [List.take_succ_cons, List.take_zero, List.drop_succ_cons, List.drop_zero]
  have hD3' : Dst w W3.drew rb p B c ab l pad := ⟨hD3.bel.drew, hD3.res, ⟨hD3.area.head, hD3.area.row.drew, hD3.area.cap, hD3.area.small⟩, hD3.ptr, hD3.hrb⟩
  have H3' : Hid (W3.drew.heap[eb]? = _) := Lib.hid H3.out
  change wpStill _ _ W3.drew _ _ _
  still_step
  still_call (get1_ok p B c ab l pad 7 1 _ hD3'.area hD3'.ptr wid1 Rpk.out pk Xpk.out)
  still_step
  still_call (get1_ok p B c ab l pad 8 2 _ hD3'.area hD3'.ptr wid2 Rpn.out pn Xpn.out)
  still_step
  still_step
  rw [← HPB.out]
  still_step
  still_step
  refine wpStill_nil ?_
  change wpList _ _ _ _ _ W3.drew
  generalize W3.drew = W4 at hD3' H3' ⊢
  go_upto_region 17 with (refine wpList_storeMid rfl 72 _ _ rfl eb 3 #[.int .i64 pk, .int .i64 pn, .string pb] rfl rfl 77 _ H3'.out size72 (Nat.le_of_ble_eq_true rfl) (page_one _ _ _) ?_; intro W5 hW5 hg5 hz5)
  have hR : W5.heap[eb]? = some (.cells #[.int .i64 1, .int .i64 tx, .int .i64 ix, .int .i64 pk, .int .i64 pn, .string pb, .int .i64 0, .int .u32 0] 77 (0, 0)) := hW5
  have hD5 := hD3'.at' hg5 hle (by omega) (by omega) (by omega) (by omega)
  clear hW5 hg5 hz5 hD3 hD3' H3 H3'
  obtain ⟨d0, d1, d2, d3, d4, d5, d6, d7⟩ := Row8.of hR
  go_upto_region 18 with (go_at_call 51; with_reducible refine (encode_any 1 tx ix pk pn 0 0 pb _ hps (by omega) (by omega)).mono ?_; rintro e w12 ⟨rfl, hb12⟩; rw [← HT.out, ← HF.out])
  clear d0 d1 d2 d3 d4 d5 d6 d7
  obtain ⟨d0, d1, d2, d3, d4, d5, d6, d7⟩ := (Row8.of hR).below hb12 ((Array.getElem?_eq_some_iff.1 hR).1)
  have hD6 := hD5.keep hb12
  have hres := Lib.hid hD6.res
  have hbl := hD6.bel
  have hrb2 : w.heap.size ≤ rb := hD6.hrb
  clear hD5 hD6 hR hb12
  rcases f01 with f | f
  · subst f
    by_cases hT : T = s
    · subst hT
      go_wp2_with (refine wpList_storeArr rfl 77 _ _ rfl rb #[.int .i64 1, .int .i64 tx, .int .i64 ix, .int .i64 pk, .int .i64 pn, .string pb, .int .i64 0, .int .u32 0] rfl rfl 77 _ hres.out size77 rfl (ent_one _ _ _ _ _ _ _ _) ?_; intro W7 hW7 hg7 hz7; clear d0 d1 d2 d3 d4 d5 d6 d7; obtain ⟨d0, d1, d2, d3, d4, d5, d6, d7⟩ := Row8.of hW7)
      exact bodyPost_ret (v := .tuple #[.agg #[.int .i64 1, .int .i64 tx, .int .i64 ix, .int .i64 pk, .int .i64 pn, .string pb, .int .i64 0, .int .u32 0], .int .i64 0]) (by simp [results, Try.results58, go_sem, d0, d1, d2, d3, d4, d5, d6, d7]) rfl ⟨by rw [HZ.out]; simp, hbl.grown hg7 hbl.size (fun k hk => by have := Option.some.inj hk; omega)⟩
    · have b1 := str_ne hT
      have HN := Lib.hid hT
      clear hT
      go_wp2_with (refine wpList_storeArr rfl 77 _ _ rfl rb #[.int .i64 0, .int .i64 0, .int .i64 0, .int .i64 0, .int .i64 0, .string ByteArray.empty, .int .i64 0, .int .u32 0] rfl rfl 77 _ hres.out size77 rfl zero_one ?_; intro W7 hW7 hg7 hz7; clear d0 d1 d2 d3 d4 d5 d6 d7; obtain ⟨d0, d1, d2, d3, d4, d5, d6, d7⟩ := Row8.of hW7)
      exact bodyPost_ret (v := .tuple #[.agg #[.int .i64 0, .int .i64 0, .int .i64 0, .int .i64 0, .int .i64 0, .string ByteArray.empty, .int .i64 0, .int .u32 0], .int .i64 6]) (by simp [results, Try.results58, go_sem, d0, d1, d2, d3, d4, d5, d6, d7]) rfl ⟨by rw [HZ.out]; simp [HN.out], hbl.grown hg7 hbl.size (fun k hk => by have := Option.some.inj hk; omega)⟩
  · subst f
    go_wp2_with (refine wpList_storeArr rfl 77 _ _ rfl rb #[.int .i64 0, .int .i64 0, .int .i64 0, .int .i64 0, .int .i64 0, .string ByteArray.empty, .int .i64 0, .int .u32 0] rfl rfl 77 _ hres.out size77 rfl zero_one ?_; intro W7 hW7 hg7 hz7; clear d0 d1 d2 d3 d4 d5 d6 d7; obtain ⟨d0, d1, d2, d3, d4, d5, d6, d7⟩ := Row8.of hW7)
    exact bodyPost_ret (v := .tuple #[.agg #[.int .i64 0, .int .i64 0, .int .i64 0, .int .i64 0, .int .i64 0, .string ByteArray.empty, .int .i64 0, .int .u32 0], .int .i64 6]) (by simp [results, Try.results58, go_sem, d0, d1, d2, d3, d4, d5, d6, d7]) rfl ⟨by rw [HZ.out]; simp, hbl.grown hg7 hbl.size (fun k hk => by have := Option.some.inj hk; omega)⟩
set_option maxRecDepth 100000 in
set_option maxHeartbeats 8000000 in
theorem decode_2 (s : ByteArray) (w : World) (h1 : s.size ≤ 256) (h2 : 13 ≤ s.size) (h0 : 0 < s.size) (hK : ((s[0].toNat : Nat) : Int) = 2) (l : List UInt8) (hl : l = s.data.toList) (tx ix cnt sum : Int) (htx : tx = (num (getL l (Int.toNat 1) (Int.toNat 4)) : Nat)) (hix : ix = (num (getL l (Int.toNat 5) (Int.toNat 2)) : Nat)) (hcnt : cnt = (num (getL l (Int.toNat 7) (Int.toNat 2)) : Nat)) (hsum : sum = (num (getL l (Int.toNat 9) (Int.toNat 4)) : Nat)) :
    Calls Try.prog 58 #[.string s] w fun e w' => (e = if chkI ⟨2, tx, ix, 0, 0, ByteArray.empty, cnt, sum⟩ = 0 ∧ encS ⟨2, tx, ix, 0, 0, ByteArray.empty, cnt, sum⟩ = s then .returned (.tuple #[.agg #[.int .i64 2, .int .i64 tx, .int .i64 ix, .int .i64 0, .int .i64 0, .string ByteArray.empty, .int .i64 cnt, .int .u32 sum], .int .i64 0]) else .returned (.tuple #[.agg #[.int .i64 0, .int .i64 0, .int .i64 0, .int .i64 0, .int .i64 0, .string ByteArray.empty, .int .i64 0, .int .u32 0], .int .i64 6])) ∧ Below w.heap.size w w' := by
  have he := no_size h0
  have hll : l.length = s.size := by rw [hl]; exact toList_size s
  have k0 : (0 : Int) ≤ (s[0].toNat : Int) := by omega
  have k1 : (s[0].toNat : Int) < 256 := by have := s[0].toNat_lt; omega
  have Rtx : Hid (Rng l.length 1 4) := Lib.hid ⟨by omega, by omega, by omega, by omega⟩
  have btx : tx < 4294967296 := by rw [htx]; exact num_b4 l (Int.toNat 1) (by omega)
  have ctx : 0 ≤ tx := by omega
  have Xtx := Lib.hid htx
  clear htx
  have Rix : Hid (Rng l.length 5 2) := Lib.hid ⟨by omega, by omega, by omega, by omega⟩
  have bix : ix < 65536 := by rw [hix]; exact num_b2 l (Int.toNat 5) (by omega)
  have cix : 0 ≤ ix := by omega
  have Xix := Lib.hid hix
  clear hix
  have Rcnt : Hid (Rng l.length 7 2) := Lib.hid ⟨by omega, by omega, by omega, by omega⟩
  have bcnt : cnt < 65536 := by rw [hcnt]; exact num_b2 l (Int.toNat 7) (by omega)
  have ccnt : 0 ≤ cnt := by omega
  have Xcnt := Lib.hid hcnt
  clear hcnt
  have Rsum : Hid (Rng l.length 9 4) := Lib.hid ⟨by omega, by omega, by omega, by omega⟩
  have bsum : sum < 4294967296 := by rw [hsum]; exact num_b4 l (Int.toNat 9) (by omega)
  have csum : 0 ≤ sum := by omega
  have Xsum := Lib.hid hsum
  clear hsum
  have HL := Lib.hid hl
  have HK := Lib.hid hK
  clear hl hK hll
  have hlt : leastI 2 = 13 := rfl
  have HLT := Lib.hid hlt
  clear hlt
  obtain ⟨rb, hrb⟩ : ∃ rb, rb = w.heap.size := ⟨_, rfl⟩
  have HRB := Lib.hid hrb
  clear hrb
  obtain ⟨T, hT⟩ : ∃ T, T = encS ⟨2, tx, ix, 0, 0, ByteArray.empty, cnt, sum⟩ := ⟨_, rfl⟩
  obtain ⟨F, hF⟩ : ∃ F, F = chkI ⟨2, tx, ix, 0, 0, ByteArray.empty, cnt, sum⟩ := ⟨_, rfl⟩
  have f01 : F = 0 ∨ F = 1 := by rw [hF]; unfold chkI; split <;> simp
  rw [← hT, ← hF]
  have HT := Lib.hid hT
  have HF := Lib.hid hF
  clear hT hF
  obtain ⟨Z, hZ⟩ : ∃ Z, Z = (if F = 0 ∧ T = s then Ending.returned (.tuple #[.agg #[.int .i64 2, .int .i64 tx, .int .i64 ix, .int .i64 0, .int .i64 0, .string ByteArray.empty, .int .i64 cnt, .int .u32 sum], .int .i64 0]) else Ending.returned (.tuple #[.agg #[.int .i64 0, .int .i64 0, .int .i64 0, .int .i64 0, .int .i64 0, .string ByteArray.empty, .int .i64 0, .int .u32 0], .int .i64 6])) := ⟨_, rfl⟩
  rw [← hZ]
  have HZ := Lib.hid hZ
  clear hZ
  go_enter Try.func58, Try.ntmps58
  go_upto_region 4 with (first
    | (refine wpList_allocArr rfl 77 rfl _ zero77 ?_; intro W1 hW1 hg1 hz1; rw [← HRB.out] at hW1 ⊢; have H1 := Lib.hid hW1; clear hW1))
  rw [HK.out]
  clear k0 k1
  go_upto_region 10 with (first
    | (go_at_call 80; with_reducible refine (least_any _ _ (by omega) (by omega)).mono ?_; rintro e w9 ⟨rfl, rfl⟩; rw [HLT.out])
    | (go_at_call 38; with_reducible refine (ofArea_any _ _ s (Below.refl _ _) (by omega) l HL.out).mono ?_; rintro e w9 ⟨p, B, c, pad, rfl, ho, hp1, hp2⟩))
  have hD := Dst.start (w0 := w) ho ((grown_below hg1)) H1.out (by rw [HRB.out]; exact Nat.le_refl _)
  generalize w9.heap.size = ab at hD ⊢
  generalize w9.alloc (Obj.cells #[Value.pointer (some { block := p, off := 0 })] 40) = W10 at hD ⊢
  clear ho hp1 hp2 hg1 hz1 H1
  obtain ⟨eb, heb⟩ : ∃ eb, eb = W10.heap.size := ⟨_, rfl⟩
  obtain ⟨y1, y2, y3, y4⟩ := hD.lts
  rw [← heb] at y1 y2 y3 y4
  have hle := hD.bel.size
  rw [← heb] at hle
  have HEB := Lib.hid heb
  clear heb
  go_upto_region 12 with (first
    | (go_at_call 81; with_reducible refine (get1_w p B c ab l pad 1 4 _ hD.area hD.ptr wid4 Rtx.out tx Xtx.out).mono ?_; rintro e w9 ⟨rfl, rfl⟩)
    | (go_at_call 81; with_reducible refine (get1_w p B c ab l pad 5 2 _ hD.area hD.ptr wid2 Rix.out ix Xix.out).mono ?_; rintro e w9 ⟨rfl, rfl⟩)
    | (refine wpList_allocArr rfl 77 rfl _ zero77 ?_; intro W2 hW2 hg2 hz2; rw [← HEB.out] at hW2 ⊢; have H2 := Lib.hid hW2; clear hW2)
    | (refine wpList_storeArr rfl 77 _ _ rfl eb #[.int .i64 2, .int .i64 tx, .int .i64 ix, .int .i64 0, .int .i64 0, .string ⟨#[]⟩, .int .i64 0, .int .u32 0] rfl rfl 77 _ H2.out size77 rfl (ent_one _ _ _ _ _ _ _ _) ?_; intro W3 hW3 hg3 hz3; have H3 := Lib.hid hW3; clear hW3))
  have hD2 := hD.keep (grown_below hg2)
  have hD3 := hD2.at' hg3 hle (by omega) (by omega) (by omega) (by omega)
  clear hD hD2 hg2 hg3 hz2 hz3
  have e6 : W3.cell? ⟨eb, 6, none⟩ = some (.int .i64 0) := by rw [cell_of_row _ _ _ _ _ _ H3.out]; rfl
  have e7 : W3.cell? ⟨eb, 7, none⟩ = some (.int .u32 0) := by rw [cell_of_row _ _ _ _ _ _ H3.out]; rfl
  have f6 : W3.frozen? ⟨eb, 6, none⟩ = false := by simp [World.frozen?, H3.out]
  have f7 : W3.frozen? ⟨eb, 7, none⟩ = false := by simp [World.frozen?, H3.out]
  go_upto_region 17 with (first
    | (go_at_call 81; with_reducible refine (get1_w p B c ab l pad 7 2 _ hD3.area hD3.ptr wid2 Rcnt.out cnt Xcnt.out).mono ?_; rintro e w9 ⟨rfl, rfl⟩)
    | (go_at_call 81; with_reducible refine (get1_w p B c ab l pad 9 4 _ hD3.area hD3.ptr wid4 Rsum.out sum Xsum.out).mono ?_; rintro e w9 ⟨rfl, rfl⟩))
  obtain ⟨hW5, hg5⟩ := two_stores' H3.out 6 7 (.int .i64 cnt) (.int .u32 sum)
  clear e6 e7 f6 f7
  generalize (World.setCell _ { block := eb, off := 6 } (Value.int IntKind.i64 cnt)).setCell { block := eb, off := 7 } (Value.int IntKind.u32 sum) = W5 at hW5 hg5 ⊢
  have hR : W5.heap[eb]? = some (.cells #[.int .i64 2, .int .i64 tx, .int .i64 ix, .int .i64 0, .int .i64 0, .string ByteArray.empty, .int .i64 cnt, .int .u32 sum] 77 (0, 0)) := hW5
  have hD5 := hD3.at' hg5 hle (by omega) (by omega) (by omega) (by omega)
  clear hW5 hg5 hD3 H3
  obtain ⟨d0, d1, d2, d3, d4, d5, d6, d7⟩ := Row8.of hR
  go_upto_region 18 with (go_at_call 51; with_reducible refine (encode_any 2 tx ix 0 0 cnt sum ByteArray.empty _ (by unfold maxLen; decide) csum bsum).mono ?_; rintro e w12 ⟨rfl, hb12⟩; rw [← HT.out, ← HF.out])
  clear d0 d1 d2 d3 d4 d5 d6 d7
  obtain ⟨d0, d1, d2, d3, d4, d5, d6, d7⟩ := (Row8.of hR).below hb12 ((Array.getElem?_eq_some_iff.1 hR).1)
  have hD6 := hD5.keep hb12
  have hres := Lib.hid hD6.res
  have hbl := hD6.bel
  have hrb2 : w.heap.size ≤ rb := hD6.hrb
  clear hD5 hD6 hR hb12
  rcases f01 with f | f
  · subst f
    by_cases hT : T = s
    · subst hT
      go_wp2_with (refine wpList_storeArr rfl 77 _ _ rfl rb #[.int .i64 2, .int .i64 tx, .int .i64 ix, .int .i64 0, .int .i64 0, .string ByteArray.empty, .int .i64 cnt, .int .u32 sum] rfl rfl 77 _ hres.out size77 rfl (ent_one _ _ _ _ _ _ _ _) ?_; intro W7 hW7 hg7 hz7; clear d0 d1 d2 d3 d4 d5 d6 d7; obtain ⟨d0, d1, d2, d3, d4, d5, d6, d7⟩ := Row8.of hW7)
      exact bodyPost_ret (v := .tuple #[.agg #[.int .i64 2, .int .i64 tx, .int .i64 ix, .int .i64 0, .int .i64 0, .string ByteArray.empty, .int .i64 cnt, .int .u32 sum], .int .i64 0]) (by simp [results, Try.results58, go_sem, d0, d1, d2, d3, d4, d5, d6, d7]) rfl ⟨by rw [HZ.out]; simp, hbl.grown hg7 hbl.size (fun k hk => by have := Option.some.inj hk; omega)⟩
    · have b1 := str_ne hT
      have HN := Lib.hid hT
      clear hT
      go_wp2_with (refine wpList_storeArr rfl 77 _ _ rfl rb #[.int .i64 0, .int .i64 0, .int .i64 0, .int .i64 0, .int .i64 0, .string ByteArray.empty, .int .i64 0, .int .u32 0] rfl rfl 77 _ hres.out size77 rfl zero_one ?_; intro W7 hW7 hg7 hz7; clear d0 d1 d2 d3 d4 d5 d6 d7; obtain ⟨d0, d1, d2, d3, d4, d5, d6, d7⟩ := Row8.of hW7)
      exact bodyPost_ret (v := .tuple #[.agg #[.int .i64 0, .int .i64 0, .int .i64 0, .int .i64 0, .int .i64 0, .string ByteArray.empty, .int .i64 0, .int .u32 0], .int .i64 6]) (by simp [results, Try.results58, go_sem, d0, d1, d2, d3, d4, d5, d6, d7]) rfl ⟨by rw [HZ.out]; simp [HN.out], hbl.grown hg7 hbl.size (fun k hk => by have := Option.some.inj hk; omega)⟩
  · subst f
    go_wp2_with (refine wpList_storeArr rfl 77 _ _ rfl rb #[.int .i64 0, .int .i64 0, .int .i64 0, .int .i64 0, .int .i64 0, .string ByteArray.empty, .int .i64 0, .int .u32 0] rfl rfl 77 _ hres.out size77 rfl zero_one ?_; intro W7 hW7 hg7 hz7; clear d0 d1 d2 d3 d4 d5 d6 d7; obtain ⟨d0, d1, d2, d3, d4, d5, d6, d7⟩ := Row8.of hW7)
    exact bodyPost_ret (v := .tuple #[.agg #[.int .i64 0, .int .i64 0, .int .i64 0, .int .i64 0, .int .i64 0, .string ByteArray.empty, .int .i64 0, .int .u32 0], .int .i64 6]) (by simp [results, Try.results58, go_sem, d0, d1, d2, d3, d4, d5, d6, d7]) rfl ⟨by rw [HZ.out]; simp, hbl.grown hg7 hbl.size (fun k hk => by have := Option.some.inj hk; omega)⟩
set_option maxRecDepth 100000 in
set_option maxHeartbeats 8000000 in
theorem decode_3 (s : ByteArray) (w : World) (h1 : s.size ≤ 256) (h2 : 7 ≤ s.size) (h0 : 0 < s.size) (hK : ((s[0].toNat : Nat) : Int) = 3) (l : List UInt8) (hl : l = s.data.toList) (tx ix : Int) (htx : tx = (num (getL l (Int.toNat 1) (Int.toNat 4)) : Nat)) (hix : ix = (num (getL l (Int.toNat 5) (Int.toNat 2)) : Nat)) :
    Calls Try.prog 58 #[.string s] w fun e w' => (e = if chkI ⟨3, tx, ix, 0, 0, ByteArray.empty, 0, 0⟩ = 0 ∧ encS ⟨3, tx, ix, 0, 0, ByteArray.empty, 0, 0⟩ = s then .returned (.tuple #[.agg #[.int .i64 3, .int .i64 tx, .int .i64 ix, .int .i64 0, .int .i64 0, .string ByteArray.empty, .int .i64 0, .int .u32 0], .int .i64 0]) else .returned (.tuple #[.agg #[.int .i64 0, .int .i64 0, .int .i64 0, .int .i64 0, .int .i64 0, .string ByteArray.empty, .int .i64 0, .int .u32 0], .int .i64 6])) ∧ Below w.heap.size w w' := by
  have he := no_size h0
  have hll : l.length = s.size := by rw [hl]; exact toList_size s
  have k0 : (0 : Int) ≤ (s[0].toNat : Int) := by omega
  have k1 : (s[0].toNat : Int) < 256 := by have := s[0].toNat_lt; omega
  have Rtx : Hid (Rng l.length 1 4) := Lib.hid ⟨by omega, by omega, by omega, by omega⟩
  have btx : tx < 4294967296 := by rw [htx]; exact num_b4 l (Int.toNat 1) (by omega)
  have ctx : 0 ≤ tx := by omega
  have Xtx := Lib.hid htx
  clear htx
  have Rix : Hid (Rng l.length 5 2) := Lib.hid ⟨by omega, by omega, by omega, by omega⟩
  have bix : ix < 65536 := by rw [hix]; exact num_b2 l (Int.toNat 5) (by omega)
  have cix : 0 ≤ ix := by omega
  have Xix := Lib.hid hix
  clear hix
  have HL := Lib.hid hl
  have HK := Lib.hid hK
  clear hl hK hll
  have hlt : leastI 3 = 7 := rfl
  have HLT := Lib.hid hlt
  clear hlt
  obtain ⟨rb, hrb⟩ : ∃ rb, rb = w.heap.size := ⟨_, rfl⟩
  have HRB := Lib.hid hrb
  clear hrb
  obtain ⟨T, hT⟩ : ∃ T, T = encS ⟨3, tx, ix, 0, 0, ByteArray.empty, 0, 0⟩ := ⟨_, rfl⟩
  obtain ⟨F, hF⟩ : ∃ F, F = chkI ⟨3, tx, ix, 0, 0, ByteArray.empty, 0, 0⟩ := ⟨_, rfl⟩
  have f01 : F = 0 ∨ F = 1 := by rw [hF]; unfold chkI; split <;> simp
  rw [← hT, ← hF]
  have HT := Lib.hid hT
  have HF := Lib.hid hF
  clear hT hF
  obtain ⟨Z, hZ⟩ : ∃ Z, Z = (if F = 0 ∧ T = s then Ending.returned (.tuple #[.agg #[.int .i64 3, .int .i64 tx, .int .i64 ix, .int .i64 0, .int .i64 0, .string ByteArray.empty, .int .i64 0, .int .u32 0], .int .i64 0]) else Ending.returned (.tuple #[.agg #[.int .i64 0, .int .i64 0, .int .i64 0, .int .i64 0, .int .i64 0, .string ByteArray.empty, .int .i64 0, .int .u32 0], .int .i64 6])) := ⟨_, rfl⟩
  rw [← hZ]
  have HZ := Lib.hid hZ
  clear hZ
  go_enter Try.func58, Try.ntmps58
  go_upto_region 4 with (first
    | (refine wpList_allocArr rfl 77 rfl _ zero77 ?_; intro W1 hW1 hg1 hz1; rw [← HRB.out] at hW1 ⊢; have H1 := Lib.hid hW1; clear hW1))
  rw [HK.out]
  clear k0 k1
  go_upto_region 10 with (first
    | (go_at_call 80; with_reducible refine (least_any _ _ (by omega) (by omega)).mono ?_; rintro e w9 ⟨rfl, rfl⟩; rw [HLT.out])
    | (go_at_call 38; with_reducible refine (ofArea_any _ _ s (Below.refl _ _) (by omega) l HL.out).mono ?_; rintro e w9 ⟨p, B, c, pad, rfl, ho, hp1, hp2⟩))
  have hD := Dst.start (w0 := w) ho ((grown_below hg1)) H1.out (by rw [HRB.out]; exact Nat.le_refl _)
  generalize w9.heap.size = ab at hD ⊢
  generalize w9.alloc (Obj.cells #[Value.pointer (some { block := p, off := 0 })] 40) = W10 at hD ⊢
  clear ho hp1 hp2 hg1 hz1 H1
  obtain ⟨eb, heb⟩ : ∃ eb, eb = W10.heap.size := ⟨_, rfl⟩
  obtain ⟨y1, y2, y3, y4⟩ := hD.lts
  rw [← heb] at y1 y2 y3 y4
  have hle := hD.bel.size
  rw [← heb] at hle
  have HEB := Lib.hid heb
  clear heb
  go_upto_region 12 with (first
    | (go_at_call 81; with_reducible refine (get1_w p B c ab l pad 1 4 _ hD.area hD.ptr wid4 Rtx.out tx Xtx.out).mono ?_; rintro e w9 ⟨rfl, rfl⟩)
    | (go_at_call 81; with_reducible refine (get1_w p B c ab l pad 5 2 _ hD.area hD.ptr wid2 Rix.out ix Xix.out).mono ?_; rintro e w9 ⟨rfl, rfl⟩)
    | (refine wpList_allocArr rfl 77 rfl _ zero77 ?_; intro W2 hW2 hg2 hz2; rw [← HEB.out] at hW2 ⊢; have H2 := Lib.hid hW2; clear hW2)
    | (refine wpList_storeArr rfl 77 _ _ rfl eb #[.int .i64 3, .int .i64 tx, .int .i64 ix, .int .i64 0, .int .i64 0, .string ⟨#[]⟩, .int .i64 0, .int .u32 0] rfl rfl 77 _ H2.out size77 rfl (ent_one _ _ _ _ _ _ _ _) ?_; intro W3 hW3 hg3 hz3; have H3 := Lib.hid hW3; clear hW3))
  have hD2 := hD.keep (grown_below hg2)
  have hD3 := hD2.at' hg3 hle (by omega) (by omega) (by omega) (by omega)
  clear hD hD2 hg2 hg3 hz2 hz3
  go_upto_region 17 with (fail)
  have hR : W3.heap[eb]? = some (.cells #[.int .i64 3, .int .i64 tx, .int .i64 ix, .int .i64 0, .int .i64 0, .string ByteArray.empty, .int .i64 0, .int .u32 0] 77 (0, 0)) := H3.out
  have hD5 := hD3
  clear hD3 H3
  obtain ⟨d0, d1, d2, d3, d4, d5, d6, d7⟩ := Row8.of hR
  go_upto_region 18 with (go_at_call 51; with_reducible refine (encode_any 3 tx ix 0 0 0 0 ByteArray.empty _ (by unfold maxLen; decide) (by omega) (by omega)).mono ?_; rintro e w12 ⟨rfl, hb12⟩; rw [← HT.out, ← HF.out])
  clear d0 d1 d2 d3 d4 d5 d6 d7
  obtain ⟨d0, d1, d2, d3, d4, d5, d6, d7⟩ := (Row8.of hR).below hb12 ((Array.getElem?_eq_some_iff.1 hR).1)
  have hD6 := hD5.keep hb12
  have hres := Lib.hid hD6.res
  have hbl := hD6.bel
  have hrb2 : w.heap.size ≤ rb := hD6.hrb
  clear hD5 hD6 hR hb12
  rcases f01 with f | f
  · subst f
    by_cases hT : T = s
    · subst hT
      go_wp2_with (refine wpList_storeArr rfl 77 _ _ rfl rb #[.int .i64 3, .int .i64 tx, .int .i64 ix, .int .i64 0, .int .i64 0, .string ByteArray.empty, .int .i64 0, .int .u32 0] rfl rfl 77 _ hres.out size77 rfl (ent_one _ _ _ _ _ _ _ _) ?_; intro W7 hW7 hg7 hz7; clear d0 d1 d2 d3 d4 d5 d6 d7; obtain ⟨d0, d1, d2, d3, d4, d5, d6, d7⟩ := Row8.of hW7)
      exact bodyPost_ret (v := .tuple #[.agg #[.int .i64 3, .int .i64 tx, .int .i64 ix, .int .i64 0, .int .i64 0, .string ByteArray.empty, .int .i64 0, .int .u32 0], .int .i64 0]) (by simp [results, Try.results58, go_sem, d0, d1, d2, d3, d4, d5, d6, d7]) rfl ⟨by rw [HZ.out]; simp, hbl.grown hg7 hbl.size (fun k hk => by have := Option.some.inj hk; omega)⟩
    · have b1 := str_ne hT
      have HN := Lib.hid hT
      clear hT
      go_wp2_with (refine wpList_storeArr rfl 77 _ _ rfl rb #[.int .i64 0, .int .i64 0, .int .i64 0, .int .i64 0, .int .i64 0, .string ByteArray.empty, .int .i64 0, .int .u32 0] rfl rfl 77 _ hres.out size77 rfl zero_one ?_; intro W7 hW7 hg7 hz7; clear d0 d1 d2 d3 d4 d5 d6 d7; obtain ⟨d0, d1, d2, d3, d4, d5, d6, d7⟩ := Row8.of hW7)
      exact bodyPost_ret (v := .tuple #[.agg #[.int .i64 0, .int .i64 0, .int .i64 0, .int .i64 0, .int .i64 0, .string ByteArray.empty, .int .i64 0, .int .u32 0], .int .i64 6]) (by simp [results, Try.results58, go_sem, d0, d1, d2, d3, d4, d5, d6, d7]) rfl ⟨by rw [HZ.out]; simp [HN.out], hbl.grown hg7 hbl.size (fun k hk => by have := Option.some.inj hk; omega)⟩
  · subst f
    go_wp2_with (refine wpList_storeArr rfl 77 _ _ rfl rb #[.int .i64 0, .int .i64 0, .int .i64 0, .int .i64 0, .int .i64 0, .string ByteArray.empty, .int .i64 0, .int .u32 0] rfl rfl 77 _ hres.out size77 rfl zero_one ?_; intro W7 hW7 hg7 hz7; clear d0 d1 d2 d3 d4 d5 d6 d7; obtain ⟨d0, d1, d2, d3, d4, d5, d6, d7⟩ := Row8.of hW7)
    exact bodyPost_ret (v := .tuple #[.agg #[.int .i64 0, .int .i64 0, .int .i64 0, .int .i64 0, .int .i64 0, .string ByteArray.empty, .int .i64 0, .int .u32 0], .int .i64 6]) (by simp [results, Try.results58, go_sem, d0, d1, d2, d3, d4, d5, d6, d7]) rfl ⟨by rw [HZ.out]; simp, hbl.grown hg7 hbl.size (fun k hk => by have := Option.some.inj hk; omega)⟩
theorem leastI_nonneg (k : Int) : 0 ≤ leastI k := by
  unfold leastI
  by_cases a : k = 1
  · rw [if_pos a]; decide
  by_cases b : k = 2
  · rw [if_neg a, if_pos b]; decide
  by_cases c : k = 3
  · rw [if_neg a, if_neg b, if_pos c]; decide
  · rw [if_neg a, if_neg b, if_neg c]; decide
theorem first_num (s : ByteArray) (h0 : 0 < s.size) : num (getL s.data.toList 0 1) = s[0].toNat := by
  obtain ⟨⟨d⟩⟩ := s
  cases d with
  | nil => exact absurd h0 (by decide)
  | cons x r => simp [getL, num]; rfl
theorem chk_iff (e : Ent) (s : ByteArray) : (chkI e = 0 ∧ encS e = s) ↔ (e.Ok ∧ e.enc = s.data.toList) := by
  constructor
  · rintro ⟨a, b⟩
    have ho : e.Ok := by
      by_cases h : e.Ok
      · exact h
      · rw [chk_not h] at a; exact absurd a (by decide)
    rw [enc_yes ho] at b
    exact ⟨ho, by rw [← b]; rfl⟩
  · rintro ⟨a, b⟩
    exact ⟨chk_ok a, by rw [enc_yes a, b, txt_data]⟩
/-- the entry of bytes, whatever they are -/
theorem decode_as (s : ByteArray) (w : World) (hs : s.size ≤ maxLen) (kind tx ix pk pn cnt sum err : Int) (pb : ByteArray) (hd : dec s.data.toList = (⟨kind, tx, ix, pk, pn, pb, cnt, sum⟩, err)) :
    Calls Try.prog 58 #[.string s] w fun e w' => e = .returned (.tuple #[.agg #[.int .i64 kind, .int .i64 tx, .int .i64 ix, .int .i64 pk, .int .i64 pn, .string pb, .int .i64 cnt, .int .u32 sum], .int .i64 err]) ∧ Below w.heap.size w w' := by
  have hs' : s.size ≤ 9223372036854775807 := hs
  have hll : s.data.toList.length = s.size := toList_size s
  by_cases h0 : s.size = 0
  · have e := data_empty h0
    subst e
    simp [dec, Ent.zero] at hd
    obtain ⟨⟨rfl, rfl, rfl, rfl, rfl, rfl, rfl, rfl⟩, rfl⟩ := hd
    exact decode_none w
  have h0 : 0 < s.size := by omega
  have hf := first_num s h0
  have hne : ¬ s.data.toList = [] := by intro x; rw [x] at hll; simp at hll; omega
  unfold dec at hd
  rw [if_neg hne, hf] at hd
  by_cases h1 : leastI (s[0].toNat : Int) = 0
  · rw [if_pos (.inl h1)] at hd
    simp only [Ent.zero, Prod.mk.injEq, Ent.mk.injEq] at hd
    obtain ⟨⟨rfl, rfl, rfl, rfl, rfl, rfl, rfl, rfl⟩, rfl⟩ := hd
    exact decode_form s h0 hs' h1 w
  have h1' : 0 < leastI (s[0].toNat : Int) := by
    have := leastI_nonneg (s[0].toNat : Int)
    omega
  by_cases h2 : 256 < s.size
  · rw [if_pos (.inr (by omega))] at hd
    simp only [Ent.zero, Prod.mk.injEq, Ent.mk.injEq] at hd
    obtain ⟨⟨rfl, rfl, rfl, rfl, rfl, rfl, rfl, rfl⟩, rfl⟩ := hd
    exact decode_long s _ h0 hs' rfl h1' h2 w
  rw [if_neg (by rw [hll]; omega)] at hd
  by_cases h3 : (s.size : Int) < leastI (s[0].toNat : Int)
  · rw [if_pos (by rw [hll]; exact h3)] at hd
    simp only [Ent.zero, Prod.mk.injEq, Ent.mk.injEq] at hd
    obtain ⟨⟨rfl, rfl, rfl, rfl, rfl, rfl, rfl, rfl⟩, rfl⟩ := hd
    exact decode_cut s _ h0 hs' rfl h1' (by omega) h3 w
  rw [if_neg (by rw [hll]; exact h3)] at hd
  have hk : (s[0].toNat : Int) = 1 ∨ (s[0].toNat : Int) = 2 ∨ (s[0].toNat : Int) = 3 := by
    unfold leastI at h1
    by_cases a : (s[0].toNat : Int) = 1
    · exact .inl a
    · by_cases b : (s[0].toNat : Int) = 2
      · exact .inr (.inl b)
      · by_cases c : (s[0].toNat : Int) = 3
        · exact .inr (.inr c)
        · rw [if_neg a, if_neg b, if_neg c] at h1; exact absurd rfl h1
  have hcut : s.extract 10 s.size = ⟨(s.data.toList.drop 10).toArray⟩ := by
    apply ByteArray.ext
    apply Array.toList_inj.1
    simp
    rw [List.take_of_length_le (by rw [List.length_drop, hll]; omega)]
  rcases hk with k | k | k
  · have hp : parse s.data.toList = ⟨1, (num (getL s.data.toList (Int.toNat 1) (Int.toNat 4)) : Nat), (num (getL s.data.toList (Int.toNat 5) (Int.toNat 2)) : Nat), (num (getL s.data.toList (Int.toNat 7) (Int.toNat 1)) : Nat), (num (getL s.data.toList (Int.toNat 8) (Int.toNat 2)) : Nat), s.extract 10 s.size, 0, 0⟩ := by
      unfold parse; rw [hf, k, if_pos rfl, hcut]; rfl
    have h4 : 10 ≤ s.size := by rw [k] at h3; unfold leastI at h3; simp at h3; omega
    refine (decode_1 s w (by omega) h4 h0 k _ rfl _ _ _ _ _ rfl rfl rfl rfl rfl).mono fun e w' h => ⟨?_, h.2⟩
    rw [h.1]
    rw [hp] at hd
    simp only [chk_iff]
    by_cases g : Ent.Ok ⟨1, (num (getL s.data.toList (Int.toNat 1) (Int.toNat 4)) : Nat), (num (getL s.data.toList (Int.toNat 5) (Int.toNat 2)) : Nat), (num (getL s.data.toList (Int.toNat 7) (Int.toNat 1)) : Nat), (num (getL s.data.toList (Int.toNat 8) (Int.toNat 2)) : Nat), s.extract 10 s.size, 0, 0⟩ ∧ Ent.enc ⟨1, (num (getL s.data.toList (Int.toNat 1) (Int.toNat 4)) : Nat), (num (getL s.data.toList (Int.toNat 5) (Int.toNat 2)) : Nat), (num (getL s.data.toList (Int.toNat 7) (Int.toNat 1)) : Nat), (num (getL s.data.toList (Int.toNat 8) (Int.toNat 2)) : Nat), s.extract 10 s.size, 0, 0⟩ = s.data.toList
    · rw [if_pos g] at hd ⊢
      simp only [Prod.mk.injEq, Ent.mk.injEq] at hd
      obtain ⟨⟨rfl, rfl, rfl, rfl, rfl, rfl, rfl, rfl⟩, rfl⟩ := hd
      rfl
    · rw [if_neg g] at hd ⊢
      simp only [Ent.zero, Prod.mk.injEq, Ent.mk.injEq] at hd
      obtain ⟨⟨rfl, rfl, rfl, rfl, rfl, rfl, rfl, rfl⟩, rfl⟩ := hd
      rfl
  · have hp : parse s.data.toList = ⟨2, (num (getL s.data.toList (Int.toNat 1) (Int.toNat 4)) : Nat), (num (getL s.data.toList (Int.toNat 5) (Int.toNat 2)) : Nat), 0, 0, ByteArray.empty, (num (getL s.data.toList (Int.toNat 7) (Int.toNat 2)) : Nat), (num (getL s.data.toList (Int.toNat 9) (Int.toNat 4)) : Nat)⟩ := by
      unfold parse; rw [hf, k, if_neg (by decide), if_pos rfl]; rfl
    have h4 : 13 ≤ s.size := by rw [k] at h3; unfold leastI at h3; simp at h3; omega
    refine (decode_2 s w (by omega) h4 h0 k _ rfl _ _ _ _ rfl rfl rfl rfl).mono fun e w' h => ⟨?_, h.2⟩
    rw [h.1]
    rw [hp] at hd
    simp only [chk_iff]
    by_cases g : Ent.Ok ⟨2, (num (getL s.data.toList (Int.toNat 1) (Int.toNat 4)) : Nat), (num (getL s.data.toList (Int.toNat 5) (Int.toNat 2)) : Nat), 0, 0, ByteArray.empty, (num (getL s.data.toList (Int.toNat 7) (Int.toNat 2)) : Nat), (num (getL s.data.toList (Int.toNat 9) (Int.toNat 4)) : Nat)⟩ ∧ Ent.enc ⟨2, (num (getL s.data.toList (Int.toNat 1) (Int.toNat 4)) : Nat), (num (getL s.data.toList (Int.toNat 5) (Int.toNat 2)) : Nat), 0, 0, ByteArray.empty, (num (getL s.data.toList (Int.toNat 7) (Int.toNat 2)) : Nat), (num (getL s.data.toList (Int.toNat 9) (Int.toNat 4)) : Nat)⟩ = s.data.toList
    · rw [if_pos g] at hd ⊢
      simp only [Prod.mk.injEq, Ent.mk.injEq] at hd
      obtain ⟨⟨rfl, rfl, rfl, rfl, rfl, rfl, rfl, rfl⟩, rfl⟩ := hd
      rfl
    · rw [if_neg g] at hd ⊢
      simp only [Ent.zero, Prod.mk.injEq, Ent.mk.injEq] at hd
      obtain ⟨⟨rfl, rfl, rfl, rfl, rfl, rfl, rfl, rfl⟩, rfl⟩ := hd
      rfl
  · have hp : parse s.data.toList = ⟨3, (num (getL s.data.toList (Int.toNat 1) (Int.toNat 4)) : Nat), (num (getL s.data.toList (Int.toNat 5) (Int.toNat 2)) : Nat), 0, 0, ByteArray.empty, 0, 0⟩ := by
      unfold parse; rw [hf, k, if_neg (by decide), if_neg (by decide)]; rfl
    have h4 : 7 ≤ s.size := by rw [k] at h3; unfold leastI at h3; simp at h3; omega
    refine (decode_3 s w (by omega) h4 h0 k _ rfl _ _ rfl rfl).mono fun e w' h => ⟨?_, h.2⟩
    rw [h.1]
    rw [hp] at hd
    simp only [chk_iff]
    by_cases g : Ent.Ok ⟨3, (num (getL s.data.toList (Int.toNat 1) (Int.toNat 4)) : Nat), (num (getL s.data.toList (Int.toNat 5) (Int.toNat 2)) : Nat), 0, 0, ByteArray.empty, 0, 0⟩ ∧ Ent.enc ⟨3, (num (getL s.data.toList (Int.toNat 1) (Int.toNat 4)) : Nat), (num (getL s.data.toList (Int.toNat 5) (Int.toNat 2)) : Nat), 0, 0, ByteArray.empty, 0, 0⟩ = s.data.toList
    · rw [if_pos g] at hd ⊢
      simp only [Prod.mk.injEq, Ent.mk.injEq] at hd
      obtain ⟨⟨rfl, rfl, rfl, rfl, rfl, rfl, rfl, rfl⟩, rfl⟩ := hd
      rfl
    · rw [if_neg g] at hd ⊢
      simp only [Ent.zero, Prod.mk.injEq, Ent.mk.injEq] at hd
      obtain ⟨⟨rfl, rfl, rfl, rfl, rfl, rfl, rfl, rfl⟩, rfl⟩ := hd
      rfl
end Go.Proofs.Ytmibbklafogbkaa
