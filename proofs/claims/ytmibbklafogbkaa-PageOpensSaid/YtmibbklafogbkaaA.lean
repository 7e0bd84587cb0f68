/- The walks of package field: areas made, their ranges. -/
import Derived.Test.YtmibbklafogbkaaW3
namespace Go.Proofs.Ytmibbklafogbkaa
open Go.RowKit
open Fld
/-- An area: a pointer's block that holds the slice, and the row of its bytes (behind them what the row has to spare). -/
structure AreaAt (w : World) (p B c : Nat) (l pad : List UInt8) : Prop where
  head : w.heap[p]? = some (.cells #[.slice (some ⟨B, 0, none⟩) l.length c] 107 (0, 0))
  row : Blk w B 5 (bytesOf (l ++ pad))
  cap : l.length + pad.length = c
  small : l.length ≤ 4096
def Rng (n : Nat) (at' size : Int) : Prop := 0 ≤ at' ∧ 0 ≤ size ∧ at' ≤ n ∧ size ≤ n - at'
theorem AreaAt.cell {w : World} {p B c : Nat} {l pad : List UInt8} (h : AreaAt w p B c l pad) : w.cell? ⟨p, 0, none⟩ = some (.slice (some ⟨B, 0, none⟩) l.length c) := by
  rw [cell_of_row _ _ _ _ _ _ h.head]; rfl
set_option maxRecDepth 100000 in
set_option maxHeartbeats 1000000 in
theorem part_ok (p B c : Nat) (l pad : List UInt8) (at' size : Int) (w : World) (h : AreaAt w p B c l pad) (h0 : 0 ≤ at') (h1 : 0 ≤ size) (h2 : at' ≤ l.length) (h3 : size ≤ l.length - at') :
    Calls Try.prog 77 #[.pointer (some ⟨p, 0, none⟩), .int .i64 at', .int .i64 size] w fun e w' => ∃ o, e = .returned (.slice (some ⟨B, o, none⟩) size.toNat size.toNat) ∧ (0 < size.toNat → o = at'.toNat) ∧ w = w' := by
  obtain ⟨q, rfl⟩ := Int.eq_ofNat_of_zero_le h0
  obtain ⟨n, rfl⟩ := Int.eq_ofNat_of_zero_le h1
  have hc := h.cell
  have hs := h.small
  have hcap := h.cap
  have hle : l.length ≤ c := by omega
  clear hcap
  go_enter Try.func77, Try.ntmps77
  go_wp2
  all_goals go_ret
  · obtain rfl : n = 0 := by omega
    exact ⟨_, rfl, fun h => absurd h (by simp), rfl⟩
  · exact ⟨_, rfl, fun _ => rfl, rfl⟩
set_option maxRecDepth 100000 in
set_option maxHeartbeats 1000000 in
theorem part_bad (p B c : Nat) (l pad : List UInt8) (at' size : Int) (w : World) (h : AreaAt w p B c l pad) (ha : -9223372036854775808 ≤ at') (ha' : at' ≤ 9223372036854775807) (hs : -9223372036854775808 ≤ size) (hs' : size ≤ 9223372036854775807)
    (hr : ¬ Rng l.length at' size) :
    Calls Try.prog 77 #[.pointer (some ⟨p, 0, none⟩), .int .i64 at', .int .i64 size] w fun e w' => e = .returned (.slice none 0 0) ∧ w = w' := by
  have hc := h.cell
  have hs := h.small
  clear h
  unfold Rng at hr
  rcases (show at' < 0 ∨ (0 ≤ at' ∧ size < 0) ∨ (0 ≤ at' ∧ 0 ≤ size ∧ (l.length : Int) < at') ∨ (0 ≤ at' ∧ 0 ≤ size ∧ at' ≤ l.length ∧ (l.length : Int) - at' < size) by omega) with h | ⟨h1, h2⟩ | ⟨h1, h2, h3⟩ | ⟨h1, h2, h3, h4⟩
  all_goals
    clear hr
    go_enter Try.func77, Try.ntmps77
    go_wp2
    go_ret
    exact ⟨rfl, rfl⟩
set_option maxRecDepth 100000 in
set_option maxHeartbeats 1000000 in
theorem part_nil (at' size : Int) (w : World) :
    Calls Try.prog 77 #[.pointer none, .int .i64 at', .int .i64 size] w fun e w' => e = .returned (.slice none 0 0) ∧ w = w' := by
  go_enter Try.func77, Try.ntmps77
  go_wp2
  all_goals
    go_ret
    exact ⟨rfl, rfl⟩
/-- the widths of numbers -/
def Wid (w : Int) : Prop := w = 1 ∨ w = 2 ∨ w = 4
set_option maxRecDepth 100000 in
set_option maxHeartbeats 1000000 in
theorem number_ok (p B c : Nat) (l pad : List UInt8) (at' size : Int) (w : World) (h : AreaAt w p B c l pad) (hw : Wid size) (hr : Rng l.length at' size) :
    Calls Try.prog 74 #[.pointer (some ⟨p, 0, none⟩), .int .i64 at', .int .i64 size] w fun e w' => ∃ o, e = .returned (.slice (some ⟨B, o, none⟩) size.toNat size.toNat) ∧ (0 < size.toNat → o = at'.toNat) ∧ w = w' := by
  obtain ⟨r0, r1, r2, r3⟩ := hr
  rcases hw with rfl | rfl | rfl
  all_goals
    go_enter Try.func74, Try.ntmps74
    go_wp2_with (go_at_call 77; refine (part_ok p B c l pad _ _ _ h r0 r1 r2 r3).mono ?_; rintro e w' ⟨ad, rfl, had, rfl⟩; have Had := Lib.hid had; clear had)
    go_ret
    exact ⟨ad, rfl, Had.out, rfl⟩
set_option maxRecDepth 100000 in
set_option maxHeartbeats 1000000 in
theorem number_bad (p B c : Nat) (l pad : List UInt8) (at' size : Int) (w : World) (h : AreaAt w p B c l pad) (ha : -9223372036854775808 ≤ at') (ha' : at' ≤ 9223372036854775807) (hs : -9223372036854775808 ≤ size) (hs' : size ≤ 9223372036854775807)
    (hr : ¬ (Wid size ∧ Rng l.length at' size)) :
    Calls Try.prog 74 #[.pointer (some ⟨p, 0, none⟩), .int .i64 at', .int .i64 size] w fun e w' => e = .returned (.slice none 0 0) ∧ w = w' := by
  by_cases hw : Wid size
  · have hr' : ¬ Rng l.length at' size := fun h => hr ⟨hw, h⟩
    clear hr
    rcases hw with rfl | rfl | rfl
    all_goals
      go_enter Try.func74, Try.ntmps74
      go_wp2_with (go_at_call 77; refine (part_bad p B c l pad _ _ _ h ha ha' hs hs' hr').mono ?_; rintro e w' ⟨rfl, rfl⟩)
      go_ret
      exact ⟨rfl, rfl⟩
  · clear hr
    have b1 : (size != 1) = true := by rw [bne_iff_ne]; intro e; exact hw (.inl e)
    have b2 : (size != 2) = true := by rw [bne_iff_ne]; intro e; exact hw (.inr (.inl e))
    have b4 : (size != 4) = true := by rw [bne_iff_ne]; intro e; exact hw (.inr (.inr e))
    clear hw
    go_enter Try.func74, Try.ntmps74
    go_wp2_with fail
    go_ret
    exact ⟨rfl, rfl⟩
set_option maxRecDepth 100000 in
set_option maxHeartbeats 1000000 in
theorem number_nil (at' size : Int) (w : World) :
    Calls Try.prog 74 #[.pointer none, .int .i64 at', .int .i64 size] w fun e w' => e = .returned (.slice none 0 0) ∧ w = w' := by
  go_enter Try.func74, Try.ntmps74
  go_wp2_with (go_at_call 77; refine (part_nil _ _ _).mono ?_; rintro e w' ⟨rfl, rfl⟩)
  all_goals
    go_ret
    exact ⟨rfl, rfl⟩
def NewPost (w : World) (l : List UInt8) (e : Ending) (w' : World) : Prop :=
  ∃ p B c pad, e = .returned (.tuple #[.pointer (some ⟨p, 0, none⟩), .int .i64 0]) ∧ AreaAt w' p B c l pad ∧ Below w.heap.size w w' ∧ w.heap.size ≤ p ∧ w.heap.size ≤ B ∧ p ≠ B
theorem info5 : (Try.prog.info? 5).map (fun i => (i.zero, i.size, i.bytes)) = some (some (.int .u8 0), 1, 1) := by kernel_rfl
set_option maxRecDepth 100000 in
set_option maxHeartbeats 1000000 in
theorem new_ok (size : Int) (w : World) (h0 : 0 ≤ size) (h1 : size ≤ 4096) :
    Calls Try.prog 34 #[.int .i64 size] w (NewPost w (List.replicate size.toNat 0)) := by
  obtain ⟨n, rfl⟩ := Int.eq_ofNat_of_zero_le h0
  obtain ⟨i0, hi0, hz0, hz1, hz2⟩ := info_parts info5
  go_enter Try.func34, Try.ntmps34
  go_wp2_with (refine wpList_makeBytes (by first | rfl | go_simp) 30 5 _ _ rfl n rfl rfl Try.underlying30 i0 hi0 hz0 hz1 hz2 (by omega) ?_; intro W5 hW5 hg5 hz5; have HW5 := Lib.hid hW5; have HZ5 := Lib.hid hz5; clear hW5 hz5)
  go_ret2
  refine ⟨_, _, n, [], rfl, ⟨?_, ?_, by simp, by simp; omega⟩, ?_, ?_, Nat.le_refl _, ?_⟩
  · rw [heap_alloc_new]; simp
  · rw [List.append_nil]; exact (Blk.of HW5.out).alloc _
  · exact ((Below.refl _ _).grown hg5 (Nat.le_refl _) (by simp)).alloc hg5.size _
  · exact hg5.size
  · have := HZ5.out; omega
set_option maxRecDepth 100000 in
set_option maxHeartbeats 1000000 in
theorem new_bad (size : Int) (w : World) (h : size < 0 ∨ 4096 < size) :
    Calls Try.prog 34 #[.int .i64 size] w fun e w' => e = .returned (.tuple #[.pointer none, .int .i64 1]) ∧ w = w' := by
  rcases (show size < 0 ∨ (0 ≤ size ∧ 4096 < size) by omega) with h | ⟨h1, h2⟩
  all_goals
    go_enter Try.func34, Try.ntmps34
    go_wp2
    go_ret2
    exact ⟨rfl, rfl⟩
set_option maxRecDepth 100000 in
set_option maxHeartbeats 1000000 in
theorem of_ok (s : ByteArray) (w : World) (h1 : s.size ≤ 4096) :
    Calls Try.prog 38 #[.string s] w (NewPost w s.data.toList) := by
  have hl : s.data.toList.length = s.size := Array.length_toList ..
  have HL := Lib.hid hl
  clear hl
  go_enter Try.func38, Try.ntmps38
  go_wp2_with (refine wpList_bytes' (by first | rfl | go_simp) 9 30 5 _ rfl s rfl Try.underlying9 Try.underlying30 Try.underlying5 ?_; intro W5 c hW5 hg5 hz5 hcs)
  go_ret2
  refine ⟨_, _, c, List.replicate (c - s.size) 0, rfl, ⟨?_, ?_, ?_, ?_⟩, ?_, ?_, Nat.le_refl _, ?_⟩
  · rw [heap_alloc_new, HL.out]
  · rw [← bytesRow_eq]; exact hW5.alloc _
  · rw [HL.out, List.length_replicate]; omega
  · rw [HL.out]; exact h1
  · exact ((Below.refl _ _).grown hg5 (Nat.le_refl _) (by simp)).alloc hg5.size _
  · exact hg5.size
  · omega
set_option maxRecDepth 100000 in
set_option maxHeartbeats 1000000 in
theorem of_bad (s : ByteArray) (w : World) (h1 : 4096 < s.size) (h2 : s.size ≤ 9223372036854775807) :
    Calls Try.prog 38 #[.string s] w fun e w' => e = .returned (.tuple #[.pointer none, .int .i64 1]) ∧ w = w' := by
  go_enter Try.func38, Try.ntmps38
  go_wp2
  go_ret2
  exact ⟨rfl, rfl⟩
end Go.Proofs.Ytmibbklafogbkaa
