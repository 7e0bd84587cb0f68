/- The page layer: what stands in bytes (page.Open, 68). -/
import Derived.Test.YtmibbklafogbkaaPb
import Derived.Test.YtmibbklafogbkaaEd
import Derived.BigQuiet
namespace Go.Proofs.Ytmibbklafogbkaa
open Go.RowKit
open Fld
open Crc
set_option maxRecDepth 100000 in
set_option maxHeartbeats 1000000 in
theorem pget1_ok (p B c ab : Nat) (l pad : List UInt8) (at' width : Int) (w : World) (h : AreaAt w p B c l pad) (hc : w.cell? ⟨ab, 0, none⟩ = some (.pointer (some ⟨p, 0, none⟩))) (hw : Wid width) (hr : Rng l.length at' width) (N : Int) (hN : N = (num (getL l at'.toNat width.toNat) : Nat)) :
    Calls Try.prog 87 #[.int .i64 at', .int .i64 width, .pointer (some ⟨ab, 0, none⟩)] w fun e w' => e = .returned (.int .i64 N) ∧ w = w' := by
  have hb : (num (getL l at'.toNat width.toNat)) < 256 ^ width.toNat := by
    have h1 := num_lt (getL l at'.toNat width.toNat)
    unfold Rng at hr
    rwa [getL_length _ _ _ (by omega)] at h1
  have hb2 : (256 : Nat) ^ width.toNat ≤ 4294967296 := by rcases hw with rfl | rfl | rfl <;> decide
  have n0 : 0 ≤ N := by omega
  have n1 : N < 4294967296 := by omega
  have HN := Lib.hid hN
  clear hN hb hb2
  go_enter Try.func87, Try.ntmps87
  go_wp2_with (go_at_call 37; with_reducible refine (get_ok p B c l pad _ _ _ h hw hr).mono ?_; rintro e w' ⟨rfl, rfl⟩; rw [← HN.out])
  go_ret
  exact ⟨rfl, rfl⟩
theorem zero72 : ∀ w, (zeroValue 72).run Try.prog w = .ok (.agg #[.int .i64 0, .int .i64 0, .string ByteArray.empty]) w := (zero_of_info (n := 3) (by kernel_rfl)).1
/-- what Open holds: the result's row, the area of the text, the variable that points to it -/
structure Pst (w0 w : World) (rb p B c ab : Nat) (l pad : List UInt8) : Prop where
  bel : Below w0.heap.size w0 w
  res : w.heap[rb]? = some (.cells #[.int .i64 0, .int .i64 0, .string ByteArray.empty] 72 (0, 0))
  area : AreaAt w p B c l pad
  ptr : w.cell? ⟨ab, 0, none⟩ = some (.pointer (some ⟨p, 0, none⟩))
  hrb : w0.heap.size ≤ rb
theorem Pst.lts {w0 w : World} {rb p B c ab : Nat} {l pad : List UInt8} (h : Pst w0 w rb p B c ab l pad) : rb < w.heap.size ∧ p < w.heap.size ∧ B < w.heap.size ∧ ab < w.heap.size :=
  ⟨(Array.getElem?_eq_some_iff.1 h.res).1, (Array.getElem?_eq_some_iff.1 h.area.head).1, h.area.row.lt, World.block_lt_of_cell? _ _ h.ptr⟩
theorem Pst.keep {w0 w w' : World} {rb p B c ab : Nat} {l pad : List UInt8} (h : Pst w0 w rb p B c ab l pad) (hb : Below w.heap.size w w') : Pst w0 w' rb p B c ab l pad := by
  obtain ⟨l1, l2, l3, l4⟩ := h.lts
  exact ⟨h.bel.trans (hb.mono h.bel.size), (hb.block rb l1).trans h.res, ⟨(hb.block p l2).trans h.area.head, h.area.row.below hb l3, h.area.cap, h.area.small⟩, (hb.cell (p := ⟨ab, 0, none⟩) l4).trans h.ptr, h.hrb⟩
theorem Pst.start {w0 W1 w9 : World} {rb p B c : Nat} {l pad : List UInt8} (ho : Own W1 w9 p B c l pad) (hb : Below w0.heap.size w0 W1) (hr : W1.heap[rb]? = some (.cells #[.int .i64 0, .int .i64 0, .string ByteArray.empty] 72 (0, 0))) (h : w0.heap.size ≤ rb) :
    Pst w0 (w9.alloc (.cells #[.pointer (some ⟨p, 0, none⟩)] 40)) rb p B c w9.heap.size l pad := by
  have l1 : rb < W1.heap.size := (Array.getElem?_eq_some_iff.1 hr).1
  have hg : Below w9.heap.size w9 (w9.alloc (.cells #[.pointer (some ⟨p, 0, none⟩)] 40)) := (Below.refl _ _).alloc (Nat.le_refl _) _
  refine ⟨(hb.trans (ho.bel.mono hb.size)).trans (hg.mono (Nat.le_trans hb.size ho.bel.size)), (hg.block rb (Nat.lt_of_lt_of_le l1 ho.bel.size)).trans ((ho.bel.block rb l1).trans hr), ⟨?_, ho.area.row.alloc _, ho.area.cap, ho.area.small⟩, ?_, h⟩
  · exact (hg.block p (Array.getElem?_eq_some_iff.1 ho.area.head).1).trans ho.area.head
  · rw [cell_of_row _ _ _ _ _ _ (heap_alloc_new w9 _)]; rfl
theorem Pst.drew {w0 w : World} {rb p B c ab : Nat} {l pad : List UInt8} (h : Pst w0 w rb p B c ab l pad) : Pst w0 w.drew rb p B c ab l pad := ⟨h.bel.drew, h.res, ⟨h.area.head, h.area.row.drew, h.area.cap, h.area.small⟩, h.ptr, h.hrb⟩
set_option maxRecDepth 100000 in
set_option maxHeartbeats 2000000 in
theorem open_cut (s : ByteArray) (hs : s.size ≠ 256) (h9 : s.size ≤ maxLen) (w : World) :
    Calls Try.prog 68 #[.string s] w fun e w' => e = .returned (.tuple #[.agg #[.int .i64 0, .int .i64 0, .string ByteArray.empty], .int .i64 9]) ∧ Below w.heap.size w w' := by
  have h9' : s.size ≤ 9223372036854775807 := h9
  have b1 : ¬ ((s.size : Int) = 256) := by omega
  clear hs h9
  obtain ⟨rb, hrb⟩ : ∃ rb, rb = w.heap.size := ⟨_, rfl⟩
  have HRB := Lib.hid hrb
  clear hrb
  go_enter Try.func68, Try.ntmps68
  go_wp2_with (first
    | (refine wpList_allocArr rfl 72 rfl _ zero72 ?_; intro W1 hW1 hg1 hz1; rw [← HRB.out] at hW1 ⊢; have H1 := Lib.hid hW1; clear hW1)
    | (refine wpList_storeArr rfl 72 _ _ rfl rb #[.int .i64 0, .int .i64 0, .string ByteArray.empty] rfl rfl 72 _ H1.out size72 rfl (page_one _ _ _) ?_; intro W7 hW7 hg7 hz7; obtain ⟨d0, d1, d2⟩ := Row3.of hW7))
  exact bodyPost_ret (v := .tuple #[.agg #[.int .i64 0, .int .i64 0, .string ByteArray.empty], .int .i64 9]) (by simp [results, Try.results68, go_sem, d0, d1, d2]) rfl ⟨rfl, ((Below.refl _ _).grown hg1 (Nat.le_refl _) (by simp)).grown hg7 hg1.size (fun k hk => by have := Option.some.inj hk; have := HRB.out; omega)⟩
set_option maxRecDepth 100000 in
set_option maxHeartbeats 2000000 in
theorem open_blank (s : ByteArray) (hs : s = txt blankL) (w : World) :
    Calls Try.prog 68 #[.string s] w fun e w' => e = .returned (.tuple #[.agg #[.int .i64 0, .int .i64 0, .string ByteArray.empty], .int .i64 0]) ∧ Below w.heap.size w w' := by
  have hsz : s.size = 256 := by rw [hs, txt_size]; unfold blankL; simp
  have b1 : ((s.size : Int) == 256) = true := by rw [beq_iff_eq]; omega
  have g1 : (256 : Int) ≤ (s.size : Int) := by omega
  have g2 : (s.size : Int) ≤ 256 := by omega
  have HS := Lib.hid hs.symm
  clear hs hsz
  obtain ⟨rb, hrb⟩ : ∃ rb, rb = w.heap.size := ⟨_, rfl⟩
  have HRB := Lib.hid hrb
  clear hrb
  go_enter Try.func68, Try.ntmps68
  go_wp2_with (first
    | (refine wpList_allocArr rfl 72 rfl _ zero72 ?_; intro W1 hW1 hg1 hz1; rw [← HRB.out] at hW1 ⊢; have H1 := Lib.hid hW1; clear hW1)
    | (go_at_call 66; with_reducible refine (blank_any _ W1 (Below.refl _ _)).mono ?_; rintro e w9 ⟨rfl, hb9⟩; rw [HS.out])
    | (refine wpList_storeArr rfl 72 _ _ rfl rb #[.int .i64 0, .int .i64 0, .string ByteArray.empty] rfl rfl 72 _ ((hb9.block rb (Array.getElem?_eq_some_iff.1 H1.out).1).trans H1.out) size72 rfl (page_one _ _ _) ?_; intro W7 hW7 hg7 hz7; obtain ⟨d0, d1, d2⟩ := Row3.of hW7))
  exact bodyPost_ret (v := .tuple #[.agg #[.int .i64 0, .int .i64 0, .string ByteArray.empty], .int .i64 0]) (by simp [results, Try.results68, go_sem, d0, d1, d2]) rfl ⟨rfl, (((Below.refl _ _).grown hg1 (Nat.le_refl _) (by simp)).trans (hb9.mono hg1.size)).grown hg7 (Nat.le_trans hg1.size hb9.size) (fun k hk => by have := Option.some.inj hk; have := HRB.out; omega)⟩
theorem whole_facts {s : ByteArray} (h : s.size = 256) : ((s.size : Int) == 256) = true ∧ (256 : Int) ≤ (s.size : Int) ∧ (s.size : Int) ≤ 256 ∧ (252 : Int) ≤ (s.size : Int) := ⟨by rw [beq_iff_eq]; omega, by omega, by omega, by omega⟩
set_option maxRecDepth 100000 in
set_option maxHeartbeats 4000000 in
theorem open_sum (s : ByteArray) (hs : s.size = 256) (hz : s ≠ txt blankL) (ht : s.data.toList.drop 252 ≠ low (crc (s.data.toList.take 252))) (w : World) :
    Calls Try.prog 68 #[.string s] w fun e w' => e = .returned (.tuple #[.agg #[.int .i64 0, .int .i64 0, .string ByteArray.empty], .int .i64 7]) ∧ Below w.heap.size w w' := by
  obtain ⟨b1, g1, g2, g3⟩ := whole_facts hs
  obtain ⟨z, hz2⟩ : ∃ z, z = txt blankL := ⟨_, rfl⟩
  have HZ := Lib.hid hz2.symm
  rw [← hz2] at hz
  have q1 := str_ne hz
  obtain ⟨T, hT⟩ : ∃ T, T = txt (low (crc (s.data.toList.take 252))) := ⟨_, rfl⟩
  obtain ⟨U, hU⟩ : ∃ U, U = s.extract 252 s.size := ⟨_, rfl⟩
  have hUT : U ≠ T := by
    intro e
    apply ht
    have e2 : U.data.toList = T.data.toList := by rw [e]
    have e3 : U.data.toList = s.data.toList.drop 252 := by
      rw [hU]
      have := toList_size s
      simp
      rw [List.take_of_length_le (by rw [List.length_drop]; omega)]
    have e4 : T.data.toList = low (crc (s.data.toList.take 252)) := by rw [hT]; rfl
    rw [← e3, e2, e4]
  have q2 := str_ne hUT
  have n1 : 252 ≤ s.size := by omega
  have n2 : s.size ≤ 300 := by omega
  have n3 : s.size ≤ 4096 := by omega
  have HT := Lib.hid hT
  have HU := Lib.hid hU
  clear hz hz2 ht hT hU hUT hs
  obtain ⟨rb, hrb⟩ : ∃ rb, rb = w.heap.size := ⟨_, rfl⟩
  have HRB := Lib.hid hrb
  clear hrb
  go_enter Try.func68, Try.ntmps68
  go_upto_region 7 with (first
    | (refine wpList_allocArr rfl 72 rfl _ zero72 ?_; intro W1 hW1 hg1 hz1; rw [← HRB.out] at hW1 ⊢; have H1 := Lib.hid hW1; clear hW1)
    | (go_at_call 66; with_reducible refine (blank_any _ W1 (Below.refl _ _)).mono ?_; rintro e w9 ⟨rfl, hb9⟩; rw [HZ.out])
    | (go_at_call 38; with_reducible refine (ofArea_any _ _ s hb9 n3 _ rfl).mono ?_; rintro e w8 ⟨p, B, c, pad, rfl, ho, hp1, hp2⟩))
  have hP := (Pst.start (w0 := w) ho ((grown_below hg1)) H1.out (by rw [HRB.out]; exact Nat.le_refl _)).drew
  generalize w8.heap.size = ab at hP ⊢
  generalize w8.alloc (Obj.cells #[Value.pointer (some { block := p, off := 0 })] 40) = W10 at hP ⊢
  clear ho hp1 hp2 hg1 hz1 H1
  go_region_held3 (fun W' => True) (first | exact trivial)
    (first
      | (go_at_call 83; (with_reducible refine (tail_at s _ _ (Below.refl _ _) n1 n2 T HT.out).mono ?_); rintro e w12 ⟨rfl, hb9⟩; replace hP := hP.keep hb9; clear hb9))
  all_goals
    rw [← HU.out]
    go_upto_region 8 with (fail)
    all_goals first
      | (exfalso; have hx : (!U.toList == T.toList) = false := (by assumption); rw [q2] at hx; exact absurd hx (by decide))
      | skip
    have hres := Lib.hid hP.res
    have hbl := hP.bel
    have hrb2 : w.heap.size ≤ rb := hP.hrb
    go_wp2_with (refine wpList_storeArr rfl 72 _ _ rfl rb #[.int .i64 0, .int .i64 0, .string ByteArray.empty] rfl rfl 72 _ hres.out size72 rfl (page_one _ _ _) ?_; intro W7 hW7 hg7 hz7; obtain ⟨d0, d1, d2⟩ := Row3.of hW7)
    exact bodyPost_ret (v := .tuple #[.agg #[.int .i64 0, .int .i64 0, .string ByteArray.empty], .int .i64 7]) (by simp [results, Try.results68, go_sem, d0, d1, d2]) rfl ⟨rfl, hbl.grown hg7 hbl.size (fun k hk => by have := Option.some.inj hk; omega)⟩
theorem Pst.drewN {w0 w : World} {rb p B c ab : Nat} {l pad : List UInt8} (h : Pst w0 w rb p B c ab l pad) (n : Nat) : Pst w0 (w.drewN n) rb p B c ab l pad := h.keep ⟨rfl, rfl, rfl, Nat.le_refl _, fun _ _ => rfl⟩
theorem Pst.at' {w0 w w' : World} {rb p B c ab b : Nat} {l pad : List UInt8} (h : Pst w0 w rb p B c ab l pad) (hg : w.grownBy w' (some b)) (hb : w0.heap.size ≤ b) (h1 : rb ≠ b) (h2 : p ≠ b) (h3 : B ≠ b) (h4 : ab ≠ b) : Pst w0 w' rb p B c ab l pad := by
  obtain ⟨l1, l2, l3, l4⟩ := h.lts
  have hk : ∀ k, k < w.heap.size → k ≠ b → w'.heap[k]? = w.heap[k]? := fun k hk hne => hg.block k hk (fun e => hne (Option.some.inj e))
  exact ⟨h.bel.grown hg h.bel.size (fun k hk => by have := Option.some.inj hk; omega), (hk rb l1 h1).trans h.res, ⟨(hk p l2 h2).trans h.area.head, h.area.row.keep (hk B l3 h3), h.area.cap, h.area.small⟩, hg.cell h.ptr (fun e => h4 (Option.some.inj e)), h.hrb⟩
theorem cut_tail (s : ByteArray) (h : s.size = 256) : (s.extract 252 s.size).data.toList = s.data.toList.drop 252 := by
  have := toList_size s
  simp
  rw [List.take_of_length_le (by rw [List.length_drop]; omega)]
theorem getText_is (p B c : Nat) (l pad : List UInt8) (at' size : Int) (w : World) (h : AreaAt w p B c l pad) (hr : Rng l.length at' size) (S : ByteArray) (hS : S = txt (getL l at'.toNat size.toNat)) :
    Calls Try.prog 45 #[.pointer (some ⟨p, 0, none⟩), .int .i64 at', .int .i64 size] w fun e w' => e = .returned (.tuple #[.string S, .int .i64 0]) ∧ w = w' := by
  rw [hS]; exact getText_ok p B c l pad at' size w h hr
set_option maxRecDepth 100000 in
set_option maxHeartbeats 8000000 in
theorem open_form (s : ByteArray) (hs : s.size = 256) (hz : s ≠ txt blankL) (ht : s.data.toList.drop 252 = low (crc (s.data.toList.take 252))) (l : List UInt8) (hl : l = s.data.toList) (n : Int) (hn : n = (num (getL l (Int.toNat 2) (Int.toNat 2)) : Nat)) (hb : 248 < n) (w : World) :
    Calls Try.prog 68 #[.string s] w fun e w' => e = .returned (.tuple #[.agg #[.int .i64 0, .int .i64 0, .string ByteArray.empty], .int .i64 6]) ∧ Below w.heap.size w w' := by
  obtain ⟨b1, g1, g2, g3⟩ := whole_facts hs
  obtain ⟨z, hz2⟩ : ∃ z, z = txt blankL := ⟨_, rfl⟩
  have HZ := Lib.hid hz2.symm
  rw [← hz2] at hz
  have q1 := str_ne hz
  have hll : l.length = 256 := by rw [hl, toList_size, hs]
  obtain ⟨T, hT⟩ : ∃ T, T = txt (low (crc (s.data.toList.take 252))) := ⟨_, rfl⟩
  have hU : s.extract 252 s.size = T := by
    apply ByteArray.ext
    apply Array.toList_inj.1
    rw [cut_tail s hs, ht, hT]
    rfl
  have R2 : Hid (Rng l.length 2 2) := Lib.hid ⟨by omega, by omega, by omega, by omega⟩
  have n0 : 0 ≤ n := by omega
  have nb : n < 65536 := by rw [hn]; exact num_b2 l (Int.toNat 2) (by omega)
  have X2 := Lib.hid hn
  have n1 : 252 ≤ s.size := by omega
  have n2 : s.size ≤ 300 := by omega
  have n3 : s.size ≤ 4096 := by omega
  have HT := Lib.hid hT
  have HU := Lib.hid hU
  have HL := Lib.hid hl
  clear hz hz2 ht hT hU hs hn hl
  have RB : Hid (¬ Rng l.length 8 n) := Lib.hid (by unfold Rng; omega)
  clear hll
  obtain ⟨rb, hrb⟩ : ∃ rb, rb = w.heap.size := ⟨_, rfl⟩
  have HRB := Lib.hid hrb
  clear hrb
  go_enter Try.func68, Try.ntmps68
  go_upto_region 7 with (first
    | (refine wpList_allocArr rfl 72 rfl _ zero72 ?_; intro W1 hW1 hg1 hz1; rw [← HRB.out] at hW1 ⊢; have H1 := Lib.hid hW1; clear hW1)
    | (go_at_call 66; with_reducible refine (blank_any _ W1 (Below.refl _ _)).mono ?_; rintro e w9 ⟨rfl, hb9⟩; rw [HZ.out])
    | (go_at_call 38; with_reducible refine (ofArea_any _ _ s hb9 n3 l HL.out).mono ?_; rintro e w8 ⟨p, B, c, pad, rfl, ho, hp1, hp2⟩))
  have hP := (Pst.start (w0 := w) ho ((grown_below hg1)) H1.out (by rw [HRB.out]; exact Nat.le_refl _)).drew
  generalize w8.heap.size = ab at hP ⊢
  generalize w8.alloc (Obj.cells #[Value.pointer (some { block := p, off := 0 })] 40) = W10 at hP ⊢
  clear ho hp1 hp2 hg1 hz1 H1 hb9
  go_region_held3 (fun W' => True) (first | exact trivial)
    (first
      | (go_at_call 83; (with_reducible refine (tail_at s _ _ (Below.refl _ _) n1 n2 T HT.out).mono ?_); rintro e w12 ⟨rfl, hb9⟩; replace hP := hP.keep hb9; clear hb9))
  all_goals
    rw [HU.out]
    go_upto_region 9 with (fail)
    all_goals first
      | (exfalso; have hx : (!T.toList == T.toList) = true := (by assumption); simp at hx; done)
      | skip
    have rc := hP.ptr
    go_quiet (first
      | (go_at_call 87; exact Calls.quiet_of_same ((pget1_ok p B c ab l pad 2 2 _ (hP.drewN _).area (hP.drewN _).ptr wid2 R2.out n X2.out).mono fun e w' h => ⟨h.1, h.2.symm⟩))
      | (go_at_call 45; exact Calls.quiet_of_same ((getText_bad p B c l pad 8 n _ (hP.drewN _).area (by omega) (by omega) (by omega) (by omega) RB.out).mono fun e w' h => ⟨h.1, h.2.symm⟩)))
    replace hP := hP.drewN nq
    have hres := Lib.hid hP.res
    have hbl := hP.bel
    have hrb2 : w.heap.size ≤ rb := hP.hrb
    go_wp2_with (refine wpList_storeArr rfl 72 _ _ rfl rb #[.int .i64 0, .int .i64 0, .string ByteArray.empty] rfl rfl 72 _ hres.out size72 rfl (page_one _ _ _) ?_; intro W7 hW7 hg7 hz7; obtain ⟨d0, d1, d2⟩ := Row3.of hW7)
    exact bodyPost_ret (v := .tuple #[.agg #[.int .i64 0, .int .i64 0, .string ByteArray.empty], .int .i64 6]) (by simp [results, Try.results68, go_sem, d0, d1, d2]) rfl ⟨rfl, hbl.grown hg7 hbl.size (fun k hk => by have := Option.some.inj hk; omega)⟩
set_option maxRecDepth 100000 in
set_option maxHeartbeats 8000000 in
theorem open_main (s : ByteArray) (hs : s.size = 256) (hz : s ≠ txt blankL) (ht : s.data.toList.drop 252 = low (crc (s.data.toList.take 252))) (l : List UInt8) (hl : l = s.data.toList) (n : Int) (hn : n = (num (getL l (Int.toNat 2) (Int.toNat 2)) : Nat)) (hb : n ≤ 248) (pk pn : Int) (hpk : pk = (num (getL l (Int.toNat 0) (Int.toNat 1)) : Nat)) (hpn : pn = (num (getL l (Int.toNat 4) (Int.toNat 4)) : Nat)) (pb : ByteArray) (hpb : pb = txt (getL l (Int.toNat 8) n.toNat)) (S : ByteArray) (F : Int) (hS : S = sealS ⟨pk, pn, pb⟩) (hF : F = mayI ⟨pk, pn, pb⟩) (w : World) :
    Calls Try.prog 68 #[.string s] w fun e w' => (e = if F = 0 ∧ S = s then .returned (.tuple #[.agg #[.int .i64 pk, .int .i64 pn, .string pb], .int .i64 0]) else .returned (.tuple #[.agg #[.int .i64 0, .int .i64 0, .string ByteArray.empty], .int .i64 6])) ∧ Below w.heap.size w w' := by
  obtain ⟨b1, g1, g2, g3⟩ := whole_facts hs
  obtain ⟨z, hz2⟩ : ∃ z, z = txt blankL := ⟨_, rfl⟩
  have HZ := Lib.hid hz2.symm
  rw [← hz2] at hz
  have q1 := str_ne hz
  have hll : l.length = 256 := by rw [hl, toList_size, hs]
  obtain ⟨T, hT⟩ : ∃ T, T = txt (low (crc (s.data.toList.take 252))) := ⟨_, rfl⟩
  have hU : s.extract 252 s.size = T := by
    apply ByteArray.ext
    apply Array.toList_inj.1
    rw [cut_tail s hs, ht, hT]
    rfl
  have R2 : Hid (Rng l.length 2 2) := Lib.hid ⟨by omega, by omega, by omega, by omega⟩
  have n0 : 0 ≤ n := by omega
  have nb : n < 65536 := by rw [hn]; exact num_b2 l (Int.toNat 2) (by omega)
  have X2 := Lib.hid hn
  have n1 : 252 ≤ s.size := by omega
  have n2 : s.size ≤ 300 := by omega
  have n3 : s.size ≤ 4096 := by omega
  have HT := Lib.hid hT
  have HU := Lib.hid hU
  have HL := Lib.hid hl
  clear hz hz2 ht hT hU hs hn hl
  have RB : Hid (Rng l.length 8 n) := Lib.hid ⟨by omega, by omega, by omega, by omega⟩
  have R0 : Hid (Rng l.length 0 1) := Lib.hid ⟨by omega, by omega, by omega, by omega⟩
  have R4 : Hid (Rng l.length 4 4) := Lib.hid ⟨by omega, by omega, by omega, by omega⟩
  have XK := Lib.hid hpk
  have XN := Lib.hid hpn
  have XB := Lib.hid hpb
  have hkb : pk < 256 := by rw [hpk]; exact num_b1 l (Int.toNat 0) (by omega)
  have hk0 : 0 ≤ pk := by omega
  have hnb : pn < 4294967296 := by rw [hpn]; exact num_b4 l (Int.toNat 4) (by omega)
  have hn0 : 0 ≤ pn := by omega
  have f01 : F = 0 ∨ F = 1 := by rw [hF]; unfold mayI; split <;> simp
  have HS := Lib.hid hS
  have HF := Lib.hid hF
  clear hll hpk hpn hpb hS hF
  obtain ⟨Z, hZ⟩ : ∃ Z, Z = (if F = 0 ∧ S = s then Ending.returned (.tuple #[.agg #[.int .i64 pk, .int .i64 pn, .string pb], .int .i64 0]) else Ending.returned (.tuple #[.agg #[.int .i64 0, .int .i64 0, .string ByteArray.empty], .int .i64 6])) := ⟨_, rfl⟩
  rw [← hZ]
  have HZZ := Lib.hid hZ
  clear hZ
  obtain ⟨rb, hrb⟩ : ∃ rb, rb = w.heap.size := ⟨_, rfl⟩
  have HRB := Lib.hid hrb
  clear hrb
  go_enter Try.func68, Try.ntmps68
  go_upto_region 7 with (first
    | (refine wpList_allocArr rfl 72 rfl _ zero72 ?_; intro W1 hW1 hg1 hz1; rw [← HRB.out] at hW1 ⊢; have H1 := Lib.hid hW1; clear hW1)
    | (go_at_call 66; with_reducible refine (blank_any _ W1 (Below.refl _ _)).mono ?_; rintro e w9 ⟨rfl, hb9⟩; rw [HZ.out])
    | (go_at_call 38; with_reducible refine (ofArea_any _ _ s hb9 n3 l HL.out).mono ?_; rintro e w8 ⟨p, B, c, pad, rfl, ho, hp1, hp2⟩))
  have hP := (Pst.start (w0 := w) ho ((grown_below hg1)) H1.out (by rw [HRB.out]; exact Nat.le_refl _)).drew
  generalize w8.heap.size = ab at hP ⊢
  generalize w8.alloc (Obj.cells #[Value.pointer (some { block := p, off := 0 })] 40) = W10 at hP ⊢
  clear ho hp1 hp2 hg1 hz1 H1 hb9
  go_region_held3 (fun W' => True) (first | exact trivial)
    (first
      | (go_at_call 83; (with_reducible refine (tail_at s _ _ (Below.refl _ _) n1 n2 T HT.out).mono ?_); rintro e w12 ⟨rfl, hb9⟩; replace hP := hP.keep hb9; clear hb9))
  all_goals
    rw [HU.out]
    go_upto_region 9 with (fail)
    all_goals first
      | (exfalso; have hx : (!T.toList == T.toList) = true := (by assumption); simp at hx; done)
      | skip
    have rc := hP.ptr
    go_quiet (first
      | (go_at_call 87; exact Calls.quiet_of_same ((pget1_ok p B c ab l pad 2 2 _ (hP.drewN _).area (hP.drewN _).ptr wid2 R2.out n X2.out).mono fun e w' h => ⟨h.1, h.2.symm⟩))
      | (go_at_call 45; exact Calls.quiet_of_same ((getText_is p B c l pad 8 n _ (hP.drewN _).area RB.out pb XB.out).mono fun e w' h => ⟨h.1, h.2.symm⟩)))
    replace hP := hP.drewN nq
    clear rc
    generalize w12.drewN nq = W13 at hP ⊢
    obtain ⟨eb, heb⟩ : ∃ eb, eb = W13.heap.size := ⟨_, rfl⟩
    obtain ⟨y1, y2, y3, y4⟩ := hP.lts
    rw [← heb] at y1 y2 y3 y4
    have hle := hP.bel.size
    rw [← heb] at hle
    have HEB := Lib.hid heb
    clear heb
    go_upto_region 13 with (first
      | (go_at_call 87; with_reducible refine (pget1_ok p B c ab l pad 0 1 _ hP.area hP.ptr wid1 R0.out pk XK.out).mono ?_; rintro e w9 ⟨rfl, rfl⟩)
      | (go_at_call 87; with_reducible refine (pget1_ok p B c ab l pad 4 4 _ hP.area hP.ptr wid4 R4.out pn XN.out).mono ?_; rintro e w9 ⟨rfl, rfl⟩)
      | (refine wpList_allocArr rfl 72 rfl _ zero72 ?_; intro W2 hW2 hg2 hz2; rw [← HEB.out] at hW2 ⊢; have H2 := Lib.hid hW2; clear hW2)
      | (refine wpList_storeArr rfl 72 _ _ rfl eb #[.int .i64 pk, .int .i64 pn, .string pb] rfl rfl 72 _ H2.out size72 rfl (page_one _ _ _) ?_; intro W3 hW3 hg3 hz3; have H3 := Lib.hid hW3; clear hW3))
    replace hP := hP.keep (grown_below hg2)
    replace hP := hP.at' hg3 hle (by omega) (by omega) (by omega) (by omega)
    clear hg2 hg3 hz2 hz3
    obtain ⟨d0, d1, d2⟩ := Row3.of H3.out
    go_upto_region 14 with (go_at_call 62; with_reducible refine (seal_any pk pn pb _ _ (Below.refl _ _) S F HS.out HF.out).mono ?_; rintro e w14 ⟨rfl, hb14⟩)
    clear d0 d1 d2
    obtain ⟨d0, d1, d2⟩ := (Row3.of H3.out).below hb14 ((Array.getElem?_eq_some_iff.1 H3.out).1)
    replace hP := hP.keep hb14
    have hres := Lib.hid hP.res
    have hbl := hP.bel
    have hrb2 : w.heap.size ≤ rb := hP.hrb
    rcases f01 with f | f
    · subst f
      by_cases hT : S = s
      · subst hT
        go_wp2_with (refine wpList_storeArr rfl 72 _ _ rfl rb #[.int .i64 pk, .int .i64 pn, .string pb] rfl rfl 72 _ hres.out size72 rfl (page_one _ _ _) ?_; intro W7 hW7 hg7 hz7; clear d0 d1 d2; obtain ⟨d0, d1, d2⟩ := Row3.of hW7)
        exact bodyPost_ret (v := .tuple #[.agg #[.int .i64 pk, .int .i64 pn, .string pb], .int .i64 0]) (by simp [results, Try.results68, go_sem, d0, d1, d2]) rfl ⟨by rw [HZZ.out]; simp, hbl.grown hg7 hbl.size (fun k hk => by have := Option.some.inj hk; omega)⟩
      · have b9 := str_ne hT
        have HN := Lib.hid hT
        clear hT
        go_wp2_with (refine wpList_storeArr rfl 72 _ _ rfl rb #[.int .i64 0, .int .i64 0, .string ByteArray.empty] rfl rfl 72 _ hres.out size72 rfl (page_one _ _ _) ?_; intro W7 hW7 hg7 hz7; clear d0 d1 d2; obtain ⟨d0, d1, d2⟩ := Row3.of hW7)
        exact bodyPost_ret (v := .tuple #[.agg #[.int .i64 0, .int .i64 0, .string ByteArray.empty], .int .i64 6]) (by simp [results, Try.results68, go_sem, d0, d1, d2]) rfl ⟨by rw [HZZ.out]; simp [HN.out], hbl.grown hg7 hbl.size (fun k hk => by have := Option.some.inj hk; omega)⟩
    · subst f
      go_wp2_with (refine wpList_storeArr rfl 72 _ _ rfl rb #[.int .i64 0, .int .i64 0, .string ByteArray.empty] rfl rfl 72 _ hres.out size72 rfl (page_one _ _ _) ?_; intro W7 hW7 hg7 hz7; clear d0 d1 d2; obtain ⟨d0, d1, d2⟩ := Row3.of hW7)
      exact bodyPost_ret (v := .tuple #[.agg #[.int .i64 0, .int .i64 0, .string ByteArray.empty], .int .i64 6]) (by simp [results, Try.results68, go_sem, d0, d1, d2]) rfl ⟨by rw [HZZ.out]; simp, hbl.grown hg7 hbl.size (fun k hk => by have := Option.some.inj hk; omega)⟩
theorem page_iff (p : Pg) (s : ByteArray) : (mayI p = 0 ∧ sealS p = s) ↔ (May p ∧ sealL p = s.data.toList) := by
  constructor
  · rintro ⟨a, b⟩
    have ho : May p := by
      by_cases h : May p
      · exact h
      · rw [(may_no h).1] at a; exact absurd a (by decide)
    rw [(may_yes ho).2] at b
    exact ⟨ho, by rw [← b]; rfl⟩
  · rintro ⟨a, b⟩
    exact ⟨(may_yes a).1, by rw [(may_yes a).2, b, txt_data]⟩
/-- the page of bytes, whatever they are -/
theorem open_as (s : ByteArray) (w w0 : World) (hb : Below w0.heap.size w0 w) (hs : s.size ≤ maxLen) (pk pn err : Int) (pb : ByteArray) (hd : opn s.data.toList = (⟨pk, pn, pb⟩, err)) :
    Calls Try.prog 68 #[.string s] w fun e w' => e = .returned (.tuple #[.agg #[.int .i64 pk, .int .i64 pn, .string pb], .int .i64 err]) ∧ Below w0.heap.size w0 w' := by
  suffices hh : Calls Try.prog 68 #[.string s] w fun e w' => e = .returned (.tuple #[.agg #[.int .i64 pk, .int .i64 pn, .string pb], .int .i64 err]) ∧ Below w.heap.size w w' from hh.mono fun _ _ ⟨x, y⟩ => ⟨x, hb.trans (y.mono hb.size)⟩
  have hll : s.data.toList.length = s.size := toList_size s
  unfold opn at hd
  by_cases h1 : s.size = 256
  case neg =>
    rw [if_pos (by rw [hll]; exact h1)] at hd
    simp only [Pg.zero, Prod.mk.injEq, Pg.mk.injEq] at hd
    obtain ⟨⟨rfl, rfl, rfl⟩, rfl⟩ := hd
    exact open_cut s h1 hs w
  rw [if_neg (by rw [hll]; omega)] at hd
  by_cases h2 : s.data.toList = blankL
  · rw [if_pos h2] at hd
    simp only [Pg.zero, Prod.mk.injEq, Pg.mk.injEq] at hd
    obtain ⟨⟨rfl, rfl, rfl⟩, rfl⟩ := hd
    exact open_blank s (by rw [← h2, txt_data]) w
  rw [if_neg h2] at hd
  have h2' : s ≠ txt blankL := by
    intro e
    apply h2
    rw [e]
    rfl
  by_cases h3 : s.data.toList.drop 252 = low (crc (s.data.toList.take 252))
  case neg =>
    rw [if_pos h3] at hd
    simp only [Pg.zero, Prod.mk.injEq, Pg.mk.injEq] at hd
    obtain ⟨⟨rfl, rfl, rfl⟩, rfl⟩ := hd
    exact open_sum s h1 h2' h3 w
  rw [if_neg (by simp [h3])] at hd
  by_cases h4 : 248 < num (getL s.data.toList 2 2)
  · rw [if_pos (by omega)] at hd
    simp only [Pg.zero, Prod.mk.injEq, Pg.mk.injEq] at hd
    obtain ⟨⟨rfl, rfl, rfl⟩, rfl⟩ := hd
    exact open_form s h1 h2' h3 _ rfl _ rfl (by have e : num (getL s.data.toList (Int.toNat 2) (Int.toNat 2)) = num (getL s.data.toList 2 2) := rfl; omega) w
  refine (open_main s h1 h2' h3 _ rfl _ rfl (by have e : num (getL s.data.toList (Int.toNat 2) (Int.toNat 2)) = num (getL s.data.toList 2 2) := rfl; omega) _ _ rfl rfl _ rfl _ _ rfl rfl w).mono fun e w' h => ⟨?_, h.2⟩
  rw [h.1]
  have hp : (⟨(num (getL s.data.toList (Int.toNat 0) (Int.toNat 1)) : Nat), (num (getL s.data.toList (Int.toNat 4) (Int.toNat 4)) : Nat), txt (getL s.data.toList (Int.toNat 8) (Int.toNat ((num (getL s.data.toList (Int.toNat 2) (Int.toNat 2)) : Nat) : Int)))⟩ : Pg) = pageOf s.data.toList := rfl
  rw [hp]
  simp only [page_iff]
  have hsz : (pageOf s.data.toList).pb.size = num (getL s.data.toList 2 2) := by
    have e : (pageOf s.data.toList).pb = txt (getL s.data.toList 8 (num (getL s.data.toList 2 2))) := rfl
    rw [e, txt_size, getL_length _ _ _ (by omega)]
  by_cases g : May (pageOf s.data.toList) ∧ sealL (pageOf s.data.toList) = s.data.toList
  · have g5 : (pageOf s.data.toList).pb.size ≤ 244 := g.1.2.2.2.2
    rw [if_neg (by omega), if_pos g] at hd
    rw [if_pos g]
    have e : pageOf s.data.toList = ⟨pk, pn, pb⟩ := congrArg Prod.fst hd
    have e2 : (0 : Int) = err := congrArg Prod.snd hd
    have e3 : ((num (getL s.data.toList (Int.toNat 0) (Int.toNat 1)) : Nat) : Int) = pk := congrArg Pg.pk e
    have e4 : ((num (getL s.data.toList (Int.toNat 4) (Int.toNat 4)) : Nat) : Int) = pn := congrArg Pg.pn e
    have e5 : txt (getL s.data.toList (Int.toNat 8) (Int.toNat ((num (getL s.data.toList (Int.toNat 2) (Int.toNat 2)) : Nat) : Int))) = pb := congrArg Pg.pb e
    rw [e3, e4, e5, e2]
  · have hd' : (Pg.zero, (6 : Int)) = (⟨pk, pn, pb⟩, err) := by
      by_cases q : 244 < num (getL s.data.toList 2 2)
      · rwa [if_pos q] at hd
      · rwa [if_neg q, if_neg g] at hd
    rw [if_neg g]
    simp only [Pg.zero, Prod.mk.injEq, Pg.mk.injEq] at hd'
    obtain ⟨⟨rfl, rfl, rfl⟩, rfl⟩ := hd'
    rfl
end Go.Proofs.Ytmibbklafogbkaa
