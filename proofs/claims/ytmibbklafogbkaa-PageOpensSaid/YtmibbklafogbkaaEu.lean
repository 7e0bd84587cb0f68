/- The entry layer: the sum of staged pages (entry.Sum, 56). -/
import Derived.Test.YtmibbklafogbkaaEe
import Derived.Test.YtmibbklafogbkaaEs
import Derived.Test.YtmibbklafogbkaaL2
namespace Go.Proofs.Ytmibbklafogbkaa
open Go.RowKit
open Fld
open Crc
/-- pages one behind the other in memory -/
def PgAt (w : World) (A : Option Addr) (l : List Pg) : Prop :=
  ∀ k, (h : k < l.length) → ∃ ad, A = some ad ∧ w.cell? (ad.add (k * 3)) = some (.int .i64 l[k].pk) ∧ w.cell? ⟨(ad.add (k * 3)).block, (ad.add (k * 3)).off + 1, none⟩ = some (.int .i64 l[k].pn) ∧
    w.cell? ⟨(ad.add (k * 3)).block, (ad.add (k * 3)).off + 2, none⟩ = some (.string l[k].pb)
theorem PgAt.below {w w' : World} {A : Option Addr} {l : List Pg} (h : PgAt w A l) (hb : Below w.heap.size w w') : PgAt w' A l := fun k hk => by
  obtain ⟨ad, e, h0, h1, h2⟩ := h k hk
  exact ⟨ad, e, (hb.cell (World.block_lt_of_cell? w _ h0)).trans h0, (hb.cell (World.block_lt_of_cell? w _ h1)).trans h1, (hb.cell (World.block_lt_of_cell? w _ h2)).trans h2⟩
def sumTo (l : List Pg) (k : Nat) : Int := (crc (cat 0 (l.take k)) : Nat)
theorem sumTo_bd (l : List Pg) (k : Nat) : 0 ≤ sumTo l k ∧ sumTo l k < 4294967296 := by
  unfold sumTo; have := crc_lt (cat 0 (l.take k)); omega
theorem encS_list (e : Ent) : (encS e).data.toList = encP e := by
  unfold encS encP
  split <;> rfl
theorem encS_size (e : Ent) : (encS e).size ≤ 240 := by
  have := encP_length e
  rw [← encS_list, toList_size] at this
  exact this
theorem sumTo_next (l : List Pg) (k : Nat) (h : k < l.length) (T : ByteArray) (hT : T = encS ((l[k]).at' k)) : joinI (sumTo l k) (sumI T) T.size = sumTo l (k + 1) := by
  unfold joinI sumTo sumI
  rw [List.take_succ_eq_append_getElem h, cat_snoc, crc_join, List.length_take, Nat.min_eq_left (by omega), ← encS_list, ← hT, toList_size]
  rfl
set_option maxRecDepth 100000 in
set_option maxHeartbeats 2000000 in
theorem sumP_any (l : List Pg) (A : Option Addr) (c : Nat) (w : World) (h : PgAt w A l) (hn : l.length ≤ 1000000) (hp : ∀ p ∈ l, p.pb.size ≤ maxLen) :
    Calls Try.prog 56 #[.slice A l.length c] w fun e w' => e = .returned (.int .u32 (sumTo l l.length)) ∧ Below w.heap.size w w' := by
  obtain ⟨n, hnn⟩ : ∃ n, n = l.length := ⟨_, rfl⟩
  rw [← hnn] at hn ⊢
  have HNN := Lib.hid hnn
  have H := Lib.hid h
  have HP := Lib.hid hp
  clear hnn h hp
  have s0 : sumTo l 0 = 0 := by unfold sumTo; rw [List.take_zero]; kernel_rfl
  have S0 := Lib.hid s0
  clear s0
  go_enter Try.func56, Try.ntmps56
  go_wp2
  go_loopw [3, 10] (fun v i wr => ∃ k : Nat, k ≤ n ∧ i = .int .i64 k ∧ v = .int .u32 (sumTo l k) ∧ Below w.heap.size w wr) (fun _ i _ => n - (intOf i).toNat)
  case atStart => exact ⟨0, Nat.zero_le _, rfl, by rw [S0.out], Below.refl _ _⟩
  case round =>
    obtain ⟨k, hk, rfl, rfl, hb⟩ := hrel
    by_cases hlt : k < n
    · have hlt' : k < l.length := by have := HNN.out; omega
      obtain ⟨ad, e, c0, c1, c2⟩ := H.out k hlt'
      subst e
      replace c0 := (hb.cell (World.block_lt_of_cell? w _ c0)).trans c0
      replace c1 := (hb.cell (World.block_lt_of_cell? w _ c1)).trans c1
      replace c2 := (hb.cell (World.block_lt_of_cell? w _ c2)).trans c2
      have hpk := HP.out l[k] (List.getElem_mem _)
      obtain ⟨T, hT⟩ : ∃ T, T = encS ⟨1, 1, k, l[k].pk, l[k].pn, l[k].pb, 0, 0⟩ := ⟨_, rfl⟩
      have hts : T.size ≤ 240 := by rw [hT]; exact encS_size _
      have HX := Lib.hid (sumTo_next l k hlt' T hT)
      have HT := Lib.hid hT
      clear hT
      generalize l[k].pk = pk at c0 HT
      generalize l[k].pn = pn at c1 HT
      generalize l[k].pb = pb at c2 HT hpk
      obtain ⟨b0, b1⟩ := sumTo_bd l k
      obtain ⟨q0, q1⟩ := sumI_bd T
      have hw := Lib.hid hb
      clear hlt'
      go_wp2_with (first
        | (go_at_call 51; with_reducible refine (frm (encode_any 1 1 k pk pn 0 0 pb _ hpk (by omega) (by omega)) (hb.alloc hb.size _)).mono ?_; rintro e w8 ⟨rfl, hb8⟩; rw [← HT.out])
        | (go_at_call 27; with_reducible refine (frm (sum_any T _ (by omega)) hb8).mono ?_; rintro e w9 ⟨rfl, hb9⟩)
        | (go_at_call 30; with_reducible refine (frm (join_any _ _ _ _ b0 b1 q0 q1 (by omega) (by omega)) hb9).mono ?_; rintro e w10 ⟨rfl, hb10⟩; rw [HX.out]))
      go_roundw
      case rel => exact ⟨k + 1, by omega, by go_num, rfl, hb10⟩
      case measure => simp [intOf]; omega
    · obtain rfl : n = k := by omega
      go_wp2
      go_ret
      exact ⟨rfl, hb⟩
end Go.Proofs.Ytmibbklafogbkaa
