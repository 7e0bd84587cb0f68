/- The entry layer: the answers of the document that the laws look at (cadastrelaw06.live, 50), given the document's sum of pages. -/
import Derived.Test.YtmibbklafogbkaaEd
import Derived.Test.YtmibbklafogbkaaEu
import Derived.Deep.RegionHeld3
namespace Go.Proofs.Ytmibbklafogbkaa
open Go.RowKit
open Fld
theorem w_a : encS ⟨1, 1, 0, 2, 258, ⟨#[97, 98]⟩, 0, 0⟩ = ⟨#[1, 0, 0, 0, 1, 0, 0, 2, 1, 2, 97, 98]⟩ := by kernel_rfl
theorem w_b : chkI ⟨1, 1, 0, 2, 258, ⟨#[97, 98]⟩, 0, 0⟩ = 0 := by kernel_rfl
theorem w_c : dec (⟨#[1, 0, 0, 0, 1, 0, 0, 2, 1, 2, 97, 98]⟩ : ByteArray).data.toList = (⟨1, 1, 0, 2, 258, ⟨#[97, 98]⟩, 0, 0⟩, 0) := by kernel_rfl
theorem w_d : encS ⟨2, 5, 1, 0, 0, ⟨#[]⟩, 1, 258⟩ = ⟨#[2, 0, 0, 0, 5, 0, 1, 0, 1, 0, 0, 1, 2]⟩ := by kernel_rfl
theorem w_e : chkI ⟨2, 5, 1, 0, 0, ⟨#[]⟩, 1, 258⟩ = 0 := by kernel_rfl
theorem w_f : dec (⟨#[2, 0, 0, 0, 5, 0, 1, 0]⟩ : ByteArray).data.toList = (⟨0, 0, 0, 0, 0, ⟨#[]⟩, 0, 0⟩, 9) := by kernel_rfl
theorem w_g : dec (⟨#[4]⟩ : ByteArray).data.toList = (⟨0, 0, 0, 0, 0, ⟨#[]⟩, 0, 0⟩, 6) := by kernel_rfl
theorem w_h : chkI ⟨0, 0, 0, 0, 0, ⟨#[]⟩, 0, 0⟩ = 1 := by kernel_rfl
theorem live_a (w w0 : World) (h : Below w0.heap.size w0 w) : Calls Try.prog 51 #[.agg #[.int .i64 1, .int .i64 1, .int .i64 0, .int .i64 2, .int .i64 258, .string ⟨#[97, 98]⟩, .int .i64 0, .int .u32 0]] w fun r w' => r = .returned (.tuple #[.string ⟨#[1, 0, 0, 0, 1, 0, 0, 2, 1, 2, 97, 98]⟩, .int .i64 0]) ∧ Below w0.heap.size w0 w' :=
  (encode_any 1 1 0 2 258 0 0 ⟨#[97, 98]⟩ w (by unfold maxLen; decide) (by omega) (by omega)).mono fun _ _ ⟨a, b⟩ => ⟨by rw [a, w_a, w_b], h.trans (b.mono h.size)⟩
theorem live_b (w w0 : World) (h : Below w0.heap.size w0 w) : Calls Try.prog 58 #[.string ⟨#[1, 0, 0, 0, 1, 0, 0, 2, 1, 2, 97, 98]⟩] w fun r w' => r = .returned (.tuple #[.agg #[.int .i64 1, .int .i64 1, .int .i64 0, .int .i64 2, .int .i64 258, .string ⟨#[97, 98]⟩, .int .i64 0, .int .u32 0], .int .i64 0]) ∧ Below w0.heap.size w0 w' :=
  (decode_as _ w (by unfold maxLen; decide) _ _ _ _ _ _ _ _ _ w_c).mono fun _ _ ⟨a, b⟩ => ⟨a, h.trans (b.mono h.size)⟩
theorem live_c (w w0 : World) (h : Below w0.heap.size w0 w) : Calls Try.prog 51 #[.agg #[.int .i64 2, .int .i64 5, .int .i64 1, .int .i64 0, .int .i64 0, .string ⟨#[]⟩, .int .i64 1, .int .u32 258]] w fun r w' => r = .returned (.tuple #[.string ⟨#[2, 0, 0, 0, 5, 0, 1, 0, 1, 0, 0, 1, 2]⟩, .int .i64 0]) ∧ Below w0.heap.size w0 w' :=
  (encode_any 2 5 1 0 0 1 258 ⟨#[]⟩ w (by unfold maxLen; decide) (by omega) (by omega)).mono fun _ _ ⟨a, b⟩ => ⟨by rw [a, w_d, w_e], h.trans (b.mono h.size)⟩
theorem cut_d : (⟨#[2, 0, 0, 0, 5, 0, 1, 0, 1, 0, 0, 1, 2]⟩ : ByteArray).extract 0 8 = ⟨#[2, 0, 0, 0, 5, 0, 1, 0]⟩ := by kernel_rfl
theorem live_d (w w0 : World) (h : Below w0.heap.size w0 w) : Calls Try.prog 58 #[.string ((⟨#[2, 0, 0, 0, 5, 0, 1, 0, 1, 0, 0, 1, 2]⟩ : ByteArray).extract 0 8)] w fun r w' => r = .returned (.tuple #[.agg #[.int .i64 0, .int .i64 0, .int .i64 0, .int .i64 0, .int .i64 0, .string ⟨#[]⟩, .int .i64 0, .int .u32 0], .int .i64 9]) ∧ Below w0.heap.size w0 w' :=
  (decode_as _ w (by rw [cut_d]; unfold maxLen; decide) _ _ _ _ _ _ _ _ _ (by rw [cut_d]; exact w_f)).mono fun _ _ ⟨a, b⟩ => ⟨a, h.trans (b.mono h.size)⟩
theorem live_e (w w0 : World) (h : Below w0.heap.size w0 w) : Calls Try.prog 58 #[.string ⟨#[4]⟩] w fun r w' => r = .returned (.tuple #[.agg #[.int .i64 0, .int .i64 0, .int .i64 0, .int .i64 0, .int .i64 0, .string ⟨#[]⟩, .int .i64 0, .int .u32 0], .int .i64 6]) ∧ Below w0.heap.size w0 w' :=
  (decode_as _ w (by unfold maxLen; decide) _ _ _ _ _ _ _ _ _ w_g).mono fun _ _ ⟨a, b⟩ => ⟨a, h.trans (b.mono h.size)⟩
theorem live_f (w w0 : World) (h : Below w0.heap.size w0 w) : Calls Try.prog 54 #[.agg #[.int .i64 0, .int .i64 0, .int .i64 0, .int .i64 0, .int .i64 0, .string ⟨#[]⟩, .int .i64 0, .int .u32 0]] w fun r w' => r = .returned (.int .i64 1) ∧ Below w0.heap.size w0 w' :=
  (check_any ⟨0, 0, 0, 0, 0, ⟨#[]⟩, 0, 0⟩ w (by unfold maxLen; decide)).mono fun _ _ ⟨a, b⟩ => ⟨by rw [a, w_h], h.trans (b.mono h.size)⟩
/-- what the document's sum of pages is asked for: proved beside each law, out of the printed texts -/
def Ref57 : Prop := ∀ (l : List Pg) (A : Option Addr) (c : Nat) (w : World), PgAt w A l → l.length ≤ c → l.length ≤ 60 → (∀ p ∈ l, p.pb.size ≤ 300) →
  Calls Try.prog 57 #[.slice A l.length c] w fun e w' => e = .returned (.int .u32 (sumTo l l.length)) ∧ Below w.heap.size w w'
theorem grown1 (w : World) (o : Obj) : Below w.heap.size w (w.alloc o) := (Below.refl _ _).alloc (Nat.le_refl _) _
def onePg : List Pg := [⟨2, 258, ⟨#[97, 98]⟩⟩]
theorem pg_one {w : World} {b : Nat} (h0 : w.cell? ⟨b, 0, none⟩ = some (.int .i64 2)) (h1 : w.cell? ⟨b, 1, none⟩ = some (.int .i64 258)) (h2 : w.cell? ⟨b, 2, none⟩ = some (.string ⟨#[97, 98]⟩)) : PgAt w (some ⟨b, 0, none⟩) onePg := by
  intro k hk
  have hk' : k < 1 := hk
  obtain rfl : k = 0 := by omega
  exact ⟨⟨b, 0, none⟩, rfl, h0, h1, h2⟩
def pgObj : Obj := Obj.cells #[Value.int IntKind.i64 2, Value.int IntKind.i64 258, Value.string { data := #[97, 98] }] 72
structure PgB (w : World) (b : Nat) : Prop where
  c0 : w.cell? ⟨b, 0, none⟩ = some (.int .i64 2)
  c1 : w.cell? ⟨b, 1, none⟩ = some (.int .i64 258)
  c2 : w.cell? ⟨b, 2, none⟩ = some (.string ⟨#[97, 98]⟩)
theorem PgB.new (w : World) : PgB (w.alloc pgObj) w.heap.size := by
  have h : (w.alloc pgObj).heap[w.heap.size]? = some (.cells #[Value.int IntKind.i64 2, Value.int IntKind.i64 258, Value.string { data := #[97, 98] }] 72 (0, 0)) := heap_alloc_new w _
  refine ⟨?_, ?_, ?_⟩ <;> rw [cell_of_row _ _ _ _ _ _ h] <;> rfl
theorem PgB.below {w w' : World} {b B : Nat} (h : PgB w b) (hb : Below B w w') (l : b < B) : PgB w' b :=
  ⟨(hb.cell (p := ⟨b, 0, none⟩) l).trans h.c0, (hb.cell (p := ⟨b, 1, none⟩) l).trans h.c1, (hb.cell (p := ⟨b, 2, none⟩) l).trans h.c2⟩
theorem live_sum {w : World} {b : Nat} (h : PgB w b) : Calls Try.prog 56 #[.slice (some ⟨b, 0, none⟩) 1 1] w fun e w' => e = .returned (.int .u32 (sumTo onePg 1)) ∧ Below w.heap.size w w' :=
  sumP_any onePg _ 1 w (pg_one h.c0 h.c1 h.c2) (by decide) (fun p hp => by unfold onePg at hp; simp at hp; subst hp; unfold maxLen; decide)
theorem live_sum1 (w w0 : World) (h : Below w0.heap.size w0 w) :
    Calls Try.prog 56 #[.slice (some ⟨w.heap.size, 0, none⟩) 1 1] (w.alloc (Obj.cells #[Value.int IntKind.i64 2, Value.int IntKind.i64 258, Value.string { data := #[97, 98] }] 72)) fun e w' => e = .returned (.int .u32 (sumTo onePg 1)) ∧ Below w0.heap.size w0 w' :=
  (live_sum (PgB.new w)).mono fun _ _ ⟨a, b⟩ => ⟨a, (h.trans ((grown1 w _).mono h.size)).trans (b.mono (Nat.le_trans h.size (grown1 w _).size))⟩
theorem live_sum2 (w w0 : World) (b : Nat) (h : Below w0.heap.size w0 w) (hb : b = w.heap.size ∨ b = w.heap.size + 1) :
    Calls Try.prog 56 #[.slice (some ⟨b, 0, none⟩) 1 1] ((w.alloc (Obj.cells #[Value.int IntKind.i64 2, Value.int IntKind.i64 258, Value.string { data := #[97, 98] }] 72)).alloc (Obj.cells #[Value.int IntKind.i64 2, Value.int IntKind.i64 258, Value.string { data := #[97, 98] }] 72)) fun e w' =>
      e = .returned (.int .u32 (sumTo onePg 1)) ∧ Below w0.heap.size w0 w' ∧ PgB w' w.heap.size ∧ PgB w' (w.heap.size + 1) := by
  have z1 : (w.alloc pgObj).heap.size = w.heap.size + 1 := by simp
  have z2 : ((w.alloc pgObj).alloc pgObj).heap.size = w.heap.size + 2 := by simp
  have p2 := PgB.new (w.alloc pgObj)
  rw [z1] at p2
  have p1 : PgB ((w.alloc pgObj).alloc pgObj) w.heap.size := (PgB.new w).below (grown1 _ _) (by omega)
  have g := (grown1 w pgObj).trans ((grown1 (w.alloc pgObj) pgObj).mono (by omega))
  have p : PgB ((w.alloc pgObj).alloc pgObj) b := by rcases hb with rfl | rfl <;> assumption
  exact (live_sum p).mono fun _ _ ⟨a, c⟩ => ⟨a, (h.trans (g.mono h.size)).trans (c.mono (Nat.le_trans h.size g.size)), p1.below c (by omega), p2.below c (by omega)⟩
theorem live_ref (R : Ref57) {w w0 : World} {b : Nat} (h : Below w0.heap.size w0 w) (p : PgB w b) :
    Calls Try.prog 57 #[.slice (some ⟨b, 0, none⟩) 1 1] w fun e w' => e = .returned (.int .u32 (sumTo onePg 1)) ∧ Below w0.heap.size w0 w' :=
  (R onePg _ 1 w (pg_one p.c0 p.c1 p.c2) (by decide) (by decide) (fun p hp => by unfold onePg at hp; simp at hp; subst hp; decide)).mono fun _ _ ⟨a, b⟩ => ⟨a, h.trans (b.mono h.size)⟩
theorem live_ref1 (R : Ref57) (w w0 : World) (h : Below w0.heap.size w0 w) :
    Calls Try.prog 57 #[.slice (some ⟨w.heap.size, 0, none⟩) 1 1] (w.alloc (Obj.cells #[Value.int IntKind.i64 2, Value.int IntKind.i64 258, Value.string { data := #[97, 98] }] 72)) fun e w' => e = .returned (.int .u32 (sumTo onePg 1)) ∧ Below w0.heap.size w0 w' :=
  live_ref R (h.trans ((grown1 w _).mono h.size)) (PgB.new w)
theorem live_none (w w0 : World) (h : Below w0.heap.size w0 w) : Calls Try.prog 56 #[.slice none 0 0] w fun e w' => e = .returned (.int .u32 0) ∧ Below w0.heap.size w0 w' :=
  (sumP_any [] none 0 w (fun k hk => by simp at hk) (by decide) (fun p hp => by simp at hp)).mono fun _ _ ⟨a, b⟩ => ⟨by rw [a]; rfl, h.trans (b.mono h.size)⟩
set_option maxRecDepth 100000 in
set_option maxHeartbeats 4000000 in
theorem live6_any (R : Ref57) (w : World) : Calls Try.prog 50 #[] w fun e w' => e = .returned (.bool true) ∧ Below w.heap.size w w' := by
  have h0 : Below w.heap.size w w := Below.refl _ _
  have HR := Lib.hid R
  clear R
  go_enter Try.func50, Try.ntmps50
  go_upto_region 2 with (fail)
  obtain ⟨pb, hpb⟩ : ∃ pb, pb = w.heap.size := ⟨_, rfl⟩
  have hrow := heap_alloc_new w (Obj.cells #[Value.int IntKind.i64 2, Value.int IntKind.i64 258, Value.string { data := #[97, 98] }] 72)
  have hb1 := h0.alloc (Nat.le_refl _) (Obj.cells #[Value.int IntKind.i64 2, Value.int IntKind.i64 258, Value.string { data := #[97, 98] }] 72)
  rw [← hpb] at hrow ⊢
  have HPB := Lib.hid hpb
  clear hpb
  generalize w.alloc (Obj.cells #[Value.int IntKind.i64 2, Value.int IntKind.i64 258, Value.string { data := #[97, 98] }] 72) = W1 at hrow hb1 ⊢
  have p0 := cell_of_row _ _ 0 _ _ _ hrow
  have p1 := cell_of_row _ _ 1 _ _ _ hrow
  have p2 := cell_of_row _ _ 2 _ _ _ hrow
  simp at p0 p1 p2
  have l1 : pb < W1.heap.size := (Array.getElem?_eq_some_iff.1 hrow).1
  clear hrow h0
  go_upto_region 4 with (first
    | (go_at_call 51; with_reducible refine (live_a _ W1 (Below.refl _ _)).mono ?_; rintro e w8 ⟨rfl, hb8⟩)
    | (go_at_call 58; with_reducible refine (live_b _ W1 hb8).mono ?_; rintro e w9 ⟨rfl, hb9⟩))
  have hrow := heap_alloc_new w9 (Obj.cells #[Value.int IntKind.i64 1, Value.int IntKind.i64 1, Value.int IntKind.i64 0, Value.int IntKind.i64 2, Value.int IntKind.i64 258, Value.string { data := #[97, 98] }, Value.int IntKind.i64 0, Value.int IntKind.u32 0] 77)
  have hb2 := hb9.alloc hb9.size (Obj.cells #[Value.int IntKind.i64 1, Value.int IntKind.i64 1, Value.int IntKind.i64 0, Value.int IntKind.i64 2, Value.int IntKind.i64 258, Value.string { data := #[97, 98] }, Value.int IntKind.i64 0, Value.int IntKind.u32 0] 77)
  obtain ⟨eb, heb⟩ : ∃ eb, eb = w9.heap.size := ⟨_, rfl⟩
  rw [← heb] at hrow ⊢
  clear heb
  generalize w9.alloc (Obj.cells #[Value.int IntKind.i64 1, Value.int IntKind.i64 1, Value.int IntKind.i64 0, Value.int IntKind.i64 2, Value.int IntKind.i64 258, Value.string { data := #[97, 98] }, Value.int IntKind.i64 0, Value.int IntKind.u32 0] 77) = W2 at hrow hb2 ⊢
  obtain ⟨d0, d1, d2, d3, d4, d5, d6, d7⟩ := Row8.of hrow
  replace p0 := (hb2.cell (p := ⟨pb, 0, none⟩) l1).trans p0
  replace p1 := (hb2.cell (p := ⟨pb, 1, none⟩) l1).trans p1
  replace p2 := (hb2.cell (p := ⟨pb, 2, none⟩) l1).trans p2
  have l2 : pb < W2.heap.size := Nat.lt_of_lt_of_le l1 hb2.size
  have l3 : eb < W2.heap.size := (Array.getElem?_eq_some_iff.1 hrow).1
  have hbw : Below w.heap.size w W2 := hb1.trans (hb2.mono hb1.size)
  have HP : Hid (∀ W' : World, Below W2.heap.size W2 W' → W'.cell? ⟨pb, 0, none⟩ = some (.int .i64 2) ∧ W'.cell? ⟨pb, 1, none⟩ = some (.int .i64 258) ∧ W'.cell? ⟨pb, 2, none⟩ = some (.string ⟨#[97, 98]⟩)) :=
    Lib.hid fun W' h => ⟨(h.cell (p := ⟨pb, 0, none⟩) l2).trans p0, (h.cell (p := ⟨pb, 1, none⟩) l2).trans p1, (h.cell (p := ⟨pb, 2, none⟩) l2).trans p2⟩
  have HE : Hid (∀ W' : World, Below W2.heap.size W2 W' → Row8 W' eb 1 1 0 2 258 0 0 ⟨#[97, 98]⟩) := Lib.hid fun W' h => (Row8.of hrow).below h l3
  clear hb8 hb9 hrow hb1 hb2 p0 p1 p2 d0 d1 d2 d3 d4 d5 d6 d7
  have hb0 : Below W2.heap.size W2 W2 := Below.refl _ _
  go_upto_region 7 with (first
    | (go_at_call 51; with_reducible refine (live_c _ W2 hb0).mono ?_; rintro e w10 ⟨rfl, hb10⟩)
    | (go_at_call 58; with_reducible refine (live_d _ W2 hb10).mono ?_; rintro e w11 ⟨rfl, hb11⟩)
    | (go_at_call 58; with_reducible refine (live_e _ W2 (hb11.alloc hb11.size _)).mono ?_; rintro e w12 ⟨rfl, hb12⟩))
  have hb3 := hb12.alloc hb12.size (Obj.cells #[Value.int IntKind.i64 0, Value.int IntKind.i64 0, Value.int IntKind.i64 0, Value.int IntKind.i64 0, Value.int IntKind.i64 0, Value.string { data := #[] }, Value.int IntKind.i64 0, Value.int IntKind.u32 0] 77)
  generalize w12.alloc (Obj.cells #[Value.int IntKind.i64 0, Value.int IntKind.i64 0, Value.int IntKind.i64 0, Value.int IntKind.i64 0, Value.int IntKind.i64 0, Value.string { data := #[] }, Value.int IntKind.i64 0, Value.int IntKind.u32 0] 77) = W3 at hb3 ⊢
  clear hb10 hb11 hb12 hb0
  replace hb3 := hb3.drew
  have HS : Hid (∀ W' : World, Below W2.heap.size W2 W' → W'.cell? ⟨pb, 0, none⟩ = some (.int .i64 2) ∧ W'.cell? ⟨pb, 1, none⟩ = some (.int .i64 258) ∧ W'.cell? ⟨pb, 2, none⟩ = some (.string ⟨#[97, 98]⟩) ∧
    W'.cell? ⟨eb, 0, none⟩ = some (.int .i64 1) ∧ W'.cell? ⟨eb, 1, none⟩ = some (.int .i64 1) ∧ W'.cell? ⟨eb, 2, none⟩ = some (.int .i64 0) ∧ W'.cell? ⟨eb, 3, none⟩ = some (.int .i64 2) ∧
    W'.cell? ⟨eb, 4, none⟩ = some (.int .i64 258) ∧ W'.cell? ⟨eb, 5, none⟩ = some (.string ⟨#[97, 98]⟩) ∧ W'.cell? ⟨eb, 6, none⟩ = some (.int .i64 0) ∧ W'.cell? ⟨eb, 7, none⟩ = some (.int .u32 0)) :=
    Lib.hid fun W' h => by
      obtain ⟨q0, q1, q2⟩ := HP.out W' h
      obtain ⟨r0, r1, r2, r3, r4, r5, r6, r7⟩ := HE.out W' h
      exact ⟨q0, q1, q2, r0, r1, r2, r3, r4, r5, r6, r7⟩
  go_region_held3 (fun W' => W'.cell? ⟨pb, 0, none⟩ = some (.int .i64 2) ∧ W'.cell? ⟨pb, 1, none⟩ = some (.int .i64 258) ∧ W'.cell? ⟨pb, 2, none⟩ = some (.string ⟨#[97, 98]⟩) ∧
    W'.cell? ⟨eb, 0, none⟩ = some (.int .i64 1) ∧ W'.cell? ⟨eb, 1, none⟩ = some (.int .i64 1) ∧ W'.cell? ⟨eb, 2, none⟩ = some (.int .i64 0) ∧ W'.cell? ⟨eb, 3, none⟩ = some (.int .i64 2) ∧
    W'.cell? ⟨eb, 4, none⟩ = some (.int .i64 258) ∧ W'.cell? ⟨eb, 5, none⟩ = some (.string ⟨#[97, 98]⟩) ∧ W'.cell? ⟨eb, 6, none⟩ = some (.int .i64 0) ∧ W'.cell? ⟨eb, 7, none⟩ = some (.int .u32 0))
    (first | exact HS.out _ hb3 | exact HS.out _ (hb3.alloc hb3.size _) | exact HS.out _ ((hb3.alloc hb3.size _).alloc (Nat.le_trans hb3.size (by simp)) _))
    (first
      | (go_at_call 54; (with_reducible refine (live_f _ W2 hb3).mono ?_); rintro e w20 ⟨rfl, hb20⟩; replace hb3 := hb20; clear hb20)
      | (go_at_call 56; (with_reducible refine (live_none _ W2 hb3).mono ?_); rintro e w20 ⟨rfl, hb20⟩; replace hb3 := hb20; clear hb20)
      | (go_at_call 56; (with_reducible refine (live_sum1 _ W2 hb3).mono ?_); rintro e w21 ⟨rfl, hb21⟩; replace hb3 := hb21; clear hb21)
      | (go_at_call 56; (with_reducible refine (live_sum2 _ W2 _ hb3 (Or.inl rfl)).mono ?_); rintro e w21 ⟨rfl, hb21, q1, q2⟩; replace hb3 := hb21; clear hb21)
      | (go_at_call 56; (with_reducible refine (live_sum2 _ W2 _ hb3 (Or.inr rfl)).mono ?_); rintro e w21 ⟨rfl, hb21, q1, q2⟩; replace hb3 := hb21; clear hb21)
      | (go_at_call 57; (with_reducible refine (live_ref1 HR.out _ W2 hb3).mono ?_); rintro e w22 ⟨rfl, hb22⟩; replace hb3 := hb22; clear hb22)
      | (go_at_call 57; (with_reducible refine (live_ref HR.out hb3 q1).mono ?_); rintro e w22 ⟨rfl, hb22⟩; replace hb3 := hb22; clear hb22)
      | (go_at_call 57; (with_reducible refine (live_ref HR.out hb3 q2).mono ?_); rintro e w22 ⟨rfl, hb22⟩; replace hb3 := hb22; clear hb22))
  all_goals
    go_wp2
    go_ret
    exact ⟨rfl, hbw.trans (hb3.mono hbw.size)⟩
end Go.Proofs.Ytmibbklafogbkaa
