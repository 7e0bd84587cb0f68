/- The walks of package field: texts put and got, bytes moved, an area whole. -/
import Derived.Test.YtmibbklafogbkaaB
namespace Go.Proofs.Ytmibbklafogbkaa
open Go.RowKit
open Fld
set_option maxRecDepth 100000 in
set_option maxHeartbeats 1000000 in
theorem putText_bad (p B c : Nat) (l pad : List UInt8) (at' : Int) (s : ByteArray) (w : World) (h : AreaAt w p B c l pad) (ha : -9223372036854775808 ≤ at') (ha' : at' ≤ 9223372036854775807) (hs : s.size ≤ 9223372036854775807) (hr : ¬ Rng l.length at' s.size) :
    Calls Try.prog 43 #[.pointer (some ⟨p, 0, none⟩), .int .i64 at', .string s] w fun e w' => e = .returned (.int .i64 1) ∧ w = w' := by
  have heq := fun w a n c => run_eql_slice_nil (P := Try.prog) w 30 5 a n c Try.underlying30
  go_enter Try.func43, Try.ntmps43
  go_wp2_with (go_at_call 77; refine (part_bad p B c l pad _ _ _ h ha ha' (by omega) (by omega) hr).mono ?_; rintro e w' ⟨rfl, rfl⟩)
  go_ret
  exact ⟨rfl, rfl⟩
set_option maxRecDepth 100000 in
set_option maxHeartbeats 1000000 in
theorem putText_nil (at' : Int) (s : ByteArray) (w : World) :
    Calls Try.prog 43 #[.pointer none, .int .i64 at', .string s] w fun e w' => e = .returned (.int .i64 1) ∧ w = w' := by
  have heq := fun w a n c => run_eql_slice_nil (P := Try.prog) w 30 5 a n c Try.underlying30
  go_enter Try.func43, Try.ntmps43
  go_wp2_with (go_at_call 77; refine (part_nil _ _ _).mono ?_; rintro e w' ⟨rfl, rfl⟩)
  go_ret
  exact ⟨rfl, rfl⟩
/-- a text of these bytes -/
def txt (l : List UInt8) : ByteArray := ⟨l.toArray⟩
theorem txt_toList (l : List UInt8) : (txt l).data.toList = l := rfl
theorem txt_size (l : List UInt8) : (txt l).size = l.length := by show l.toArray.size = _; simp
theorem row_cells {w : World} {B : Nat} {l pad : List UInt8} (h : Blk w B 5 (bytesOf (l ++ pad))) (q n o : Nat) (hq : q + n ≤ l.length) (ho : 0 < n → o = q) :
    ∀ i, (hi : i < (getL l q n).length) → w.cell? ⟨B, o + i, none⟩ = some (.int .u8 ((getL l q n)[i].toNat : Int)) := by
  intro i hi
  have hn := getL_length l q n hq
  have e := ho (by omega)
  subst e
  have h1 : (l ++ pad)[o + i]? = some (getL l o n)[i] := by
    rw [List.getElem?_append_left (by omega), ← getL_get l o n i (by omega), List.getElem?_eq_getElem hi]
  obtain ⟨h2, h3⟩ := List.getElem?_eq_some_iff.1 h1
  rw [h.cell, bytesOf_get _ _ h2, h3]
set_option maxRecDepth 100000 in
set_option maxHeartbeats 1000000 in
theorem getText_ok (p B c : Nat) (l pad : List UInt8) (at' size : Int) (w : World) (h : AreaAt w p B c l pad) (hr : Rng l.length at' size) :
    Calls Try.prog 45 #[.pointer (some ⟨p, 0, none⟩), .int .i64 at', .int .i64 size] w fun e w' => e = .returned (.tuple #[.string (txt (getL l at'.toNat size.toNat)), .int .i64 0]) ∧ w = w' := by
  obtain ⟨r0, r1, r2, r3⟩ := hr
  have heq := fun w a n c => run_eql_slice_nil (P := Try.prog) w 30 5 a n c Try.underlying30
  have hq : at'.toNat + size.toNat ≤ l.length := by omega
  have hgl := getL_length l at'.toNat size.toNat hq
  have HR := h.row
  have HGL := Lib.hid hgl
  clear hgl
  obtain ⟨n, hn⟩ : ∃ n, n = size.toNat := ⟨_, rfl⟩
  rw [← hn] at HGL hq ⊢
  have HN := Lib.hid hn
  clear hn
  obtain ⟨z, hz⟩ : ∃ z, z = txt (getL l at'.toNat n) := ⟨_, rfl⟩
  rw [← hz]
  have HZ := Lib.hid hz
  clear hz
  go_enter Try.func45, Try.ntmps45
  go_wp2_with (first
    | (go_at_call 77; refine (part_ok p B c l pad _ _ _ h r0 r1 r2 r3).mono ?_; rintro e w' ⟨o, rfl, had, rfl⟩; rw [← HN.out] at had ⊢; have HAD := Lib.hid had; clear had)
    | (refine wpList_string (by first | rfl | go_simp) 30 9 5 _ rfl B o n n rfl Try.underlying30 Try.underlying5 Try.underlying9 z _ (by rw [HZ.out]; rfl) HGL.out (row_cells HR at'.toNat n o hq HAD.out) ?_))
  go_ret2
  exact ⟨rfl, rfl⟩
set_option maxRecDepth 100000 in
set_option maxHeartbeats 1000000 in
theorem getText_bad (p B c : Nat) (l pad : List UInt8) (at' size : Int) (w : World) (h : AreaAt w p B c l pad) (ha : -9223372036854775808 ≤ at') (ha' : at' ≤ 9223372036854775807) (hs : -9223372036854775808 ≤ size) (hs' : size ≤ 9223372036854775807) (hr : ¬ Rng l.length at' size) :
    Calls Try.prog 45 #[.pointer (some ⟨p, 0, none⟩), .int .i64 at', .int .i64 size] w fun e w' => e = .returned (.tuple #[.string (txt []), .int .i64 1]) ∧ w = w' := by
  have heq := fun w a n c => run_eql_slice_nil (P := Try.prog) w 30 5 a n c Try.underlying30
  go_enter Try.func45, Try.ntmps45
  go_wp2_with (go_at_call 77; refine (part_bad p B c l pad _ _ _ h ha ha' hs hs' hr).mono ?_; rintro e w' ⟨rfl, rfl⟩)
  go_ret2
  exact ⟨rfl, rfl⟩
set_option maxRecDepth 100000 in
set_option maxHeartbeats 1000000 in
theorem getText_nil (at' size : Int) (w : World) :
    Calls Try.prog 45 #[.pointer none, .int .i64 at', .int .i64 size] w fun e w' => e = .returned (.tuple #[.string (txt []), .int .i64 1]) ∧ w = w' := by
  have heq := fun w a n c => run_eql_slice_nil (P := Try.prog) w 30 5 a n c Try.underlying30
  go_enter Try.func45, Try.ntmps45
  go_wp2_with (go_at_call 77; refine (part_nil _ _ _).mono ?_; rintro e w' ⟨rfl, rfl⟩)
  go_ret2
  exact ⟨rfl, rfl⟩
set_option maxRecDepth 100000 in
set_option maxHeartbeats 1000000 in
theorem move_ok (p B c : Nat) (l pad : List UInt8) (to from' size : Int) (w : World) (h : AreaAt w p B c l pad) (h1 : Rng l.length to size) (h2 : Rng l.length from' size) :
    Calls Try.prog 47 #[.pointer (some ⟨p, 0, none⟩), .int .i64 to, .int .i64 from', .int .i64 size] w fun e w' => e = .returned (.int .i64 0) ∧ AreaAt w' p B c (setL l to.toNat (getL l from'.toNat size.toNat)) pad ∧ w.grownBy w' (some B) := by
  obtain ⟨r0, r1, r2, r3⟩ := h1
  obtain ⟨s0, s1, s2, s3⟩ := h2
  have heq := fun w a n c => run_eql_slice_nil (P := Try.prog) w 30 5 a n c Try.underlying30
  have hq : to.toNat + size.toNat ≤ l.length := by omega
  have hp : from'.toNat + size.toNat ≤ l.length := by omega
  have hgl := getL_length l from'.toNat size.toNat hp
  have HR := h.row
  have HGL := Lib.hid hgl
  clear hgl
  obtain ⟨n, hn⟩ : ∃ n, n = size.toNat := ⟨_, rfl⟩
  rw [← hn] at HGL hq hp ⊢
  have HN := Lib.hid hn
  clear hn
  go_enter Try.func47, Try.ntmps47
  go_wp2_with (first
    | (go_at_call 77; with_reducible refine (part_ok p B c l pad to size _ h r0 r1 r2 r3).mono ?_; rintro e w' ⟨o, rfl, had, rfl⟩; rw [← HN.out] at had ⊢; have HAD := Lib.hid had; clear had)
    | (go_at_call 77; with_reducible refine (part_ok p B c l pad from' size _ h s0 s1 s2 s3).mono ?_; rintro e w' ⟨u, rfl, had2, rfl⟩; rw [← HN.out] at had2 ⊢; have HAD2 := Lib.hid had2; clear had2)
    | (refine wpList_copyB (o := ⟨some 27, _, _, _, _, _⟩) (by first | rfl | go_simp) (.tmp 25) (.tmp 26) 30 30 rfl 5 Try.underlying30 size5' B to.toNat n n n _ _ rfl (fun hp => by rw [HAD.out hp]) rfl (getL l from'.toNat n) HGL.out (fun hpos i hi => by rw [Addr.add_lit]; exact row_cells HR from'.toNat n u hp HAD2.out i hi) 5 (l ++ pad) HR (by rw [List.length_append]; omega) ?_; intro W4 hW4 hg4))
  go_ret
  exact ⟨rfl, h.put (by rw [← setL_pad _ _ _ _ (by rw [HGL.out]; exact hq)]; exact hW4) hg4 (by rw [HGL.out]; exact hq), hg4⟩
set_option maxRecDepth 100000 in
set_option maxHeartbeats 1000000 in
theorem move_bad (p B c : Nat) (l pad : List UInt8) (to from' size : Int) (w : World) (h : AreaAt w p B c l pad) (ha : -9223372036854775808 ≤ to) (ha' : to ≤ 9223372036854775807) (hb : -9223372036854775808 ≤ from') (hb' : from' ≤ 9223372036854775807) (hs : -9223372036854775808 ≤ size) (hs' : size ≤ 9223372036854775807)
    (hr : ¬ (Rng l.length to size ∧ Rng l.length from' size)) :
    Calls Try.prog 47 #[.pointer (some ⟨p, 0, none⟩), .int .i64 to, .int .i64 from', .int .i64 size] w fun e w' => e = .returned (.int .i64 1) ∧ w = w' := by
  have heq := fun w a n c => run_eql_slice_nil (P := Try.prog) w 30 5 a n c Try.underlying30
  by_cases h1 : Rng l.length to size
  · have h2 : ¬ Rng l.length from' size := fun x => hr ⟨h1, x⟩
    clear hr
    obtain ⟨r0, r1, r2, r3⟩ := h1
    go_enter Try.func47, Try.ntmps47
    go_wp2_with (first
      | (go_at_call 77; with_reducible refine (part_ok p B c l pad to size _ h r0 r1 r2 r3).mono ?_; rintro e w' ⟨o, rfl, had, rfl⟩; clear had)
      | (go_at_call 77; with_reducible refine (part_bad p B c l pad from' size _ h hb hb' hs hs' h2).mono ?_; rintro e w' ⟨rfl, rfl⟩))
    all_goals go_ret
    all_goals exact ⟨rfl, rfl⟩
  · clear hr
    by_cases h2 : Rng l.length from' size
    · obtain ⟨s0, s1, s2, s3⟩ := h2
      go_enter Try.func47, Try.ntmps47
      go_wp2_with (first
        | (go_at_call 77; with_reducible refine (part_bad p B c l pad to size _ h ha ha' hs hs' h1).mono ?_; rintro e w' ⟨rfl, rfl⟩)
        | (go_at_call 77; with_reducible refine (part_ok p B c l pad from' size _ h s0 s1 s2 s3).mono ?_; rintro e w' ⟨o, rfl, had, rfl⟩; clear had))
      all_goals go_ret
      all_goals exact ⟨rfl, rfl⟩

    · skip
      go_enter Try.func47, Try.ntmps47
      go_wp2_with (first
        | (go_at_call 77; with_reducible refine (part_bad p B c l pad to size _ h ha ha' hs hs' h1).mono ?_; rintro e w' ⟨rfl, rfl⟩)
        | (go_at_call 77; with_reducible refine (part_bad p B c l pad from' size _ h hb hb' hs hs' h2).mono ?_; rintro e w' ⟨rfl, rfl⟩))
      all_goals go_ret
      all_goals exact ⟨rfl, rfl⟩

set_option maxRecDepth 100000 in
set_option maxHeartbeats 1000000 in
theorem move_nil (to from' size : Int) (w : World) :
    Calls Try.prog 47 #[.pointer none, .int .i64 to, .int .i64 from', .int .i64 size] w fun e w' => e = .returned (.int .i64 1) ∧ w = w' := by
  have heq := fun w a n c => run_eql_slice_nil (P := Try.prog) w 30 5 a n c Try.underlying30
  go_enter Try.func47, Try.ntmps47
  go_wp2_with (go_at_call 77; refine (part_nil _ _ _).mono ?_; rintro e w' ⟨rfl, rfl⟩)
  go_ret
  exact ⟨rfl, rfl⟩
theorem whole_cells {w : World} {B : Nat} {l pad : List UInt8} (h : Blk w B 5 (bytesOf (l ++ pad))) : ∀ i, (hi : i < l.length) → w.cell? ⟨B, 0 + i, none⟩ = some (.int .u8 (l[i].toNat : Int)) := by
  intro i hi
  have h1 : (l ++ pad)[i]? = some l[i] := by rw [List.getElem?_append_left hi, List.getElem?_eq_getElem hi]
  obtain ⟨h2, h3⟩ := List.getElem?_eq_some_iff.1 h1
  rw [Nat.zero_add, h.cell, bytesOf_get _ _ h2, h3]
set_option maxRecDepth 100000 in
set_option maxHeartbeats 1000000 in
theorem bytes_ok (p B c : Nat) (l pad : List UInt8) (w : World) (h : AreaAt w p B c l pad) :
    Calls Try.prog 39 #[.pointer (some ⟨p, 0, none⟩)] w fun e w' => e = .returned (.string (txt l)) ∧ w = w' := by
  have hc := h.cell
  have HR := h.row
  obtain ⟨z, hz⟩ : ∃ z, z = txt l := ⟨_, rfl⟩
  rw [← hz]
  have HZ := Lib.hid hz
  clear hz
  go_enter Try.func39, Try.ntmps39
  go_wp2_with (refine wpList_string (by first | rfl | go_simp) 30 9 5 _ rfl B 0 l.length c rfl Try.underlying30 Try.underlying5 Try.underlying9 z l (by rw [HZ.out]; rfl) rfl (whole_cells HR) ?_)
  go_ret
  exact ⟨rfl, rfl⟩
set_option maxRecDepth 100000 in
theorem bytes_nil (w : World) : Calls Try.prog 39 #[.pointer none] w fun e w' => e = .returned (.string (txt [])) ∧ w = w' := by
  go_enter Try.func39, Try.ntmps39
  go_wp2
  go_ret
  exact ⟨rfl, rfl⟩
set_option maxRecDepth 100000 in
theorem size_ok (p B c : Nat) (l pad : List UInt8) (w : World) (h : AreaAt w p B c l pad) :
    Calls Try.prog 49 #[.pointer (some ⟨p, 0, none⟩)] w fun e w' => e = .returned (.int .i64 (l.length : Int)) ∧ w = w' := by
  have hc := h.cell
  go_enter Try.func49, Try.ntmps49
  go_wp2
  go_ret
  exact ⟨rfl, rfl⟩
set_option maxRecDepth 100000 in
theorem size_nil (w : World) : Calls Try.prog 49 #[.pointer none] w fun e w' => e = .returned (.int .i64 0) ∧ w = w' := by
  go_enter Try.func49, Try.ntmps49
  go_wp2
  go_ret
  exact ⟨rfl, rfl⟩
end Go.Proofs.Ytmibbklafogbkaa
