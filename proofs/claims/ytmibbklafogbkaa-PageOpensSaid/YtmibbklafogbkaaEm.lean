/- Entries as plain data: which may be, their bytes, and what is read out of bytes; no program in sight. -/
import Derived.Test.YtmibbklafogbkaaFn
namespace Go.Proofs.Ytmibbklafogbkaa
namespace Fld
/-- may a page be staged? -/
def Staged (pk pn : Int) (pb : ByteArray) : Prop := 0 ≤ pk ∧ pk < 5 ∧ 0 ≤ pn ∧ pn < 1000 ∧ pb.size ≤ 230 ∧ (pk ≠ 0 ∨ pb.size = 0)
instance (pk pn : Int) (pb : ByteArray) : Decidable (Staged pk pn pb) := by unfold Staged; infer_instance
/-- an entry's eight parts -/
structure Ent where
  kind : Int
  tx : Int
  ix : Int
  pk : Int
  pn : Int
  pb : ByteArray
  cnt : Int
  sum : Int
/-- may an entry be? -/
def Ent.Ok (e : Ent) : Prop := 1 ≤ e.tx ∧ e.tx ≤ 4294967295 ∧ 0 ≤ e.ix ∧ e.ix ≤ 999 ∧
  ((e.kind = 1 ∧ Staged e.pk e.pn e.pb ∧ e.cnt = 0 ∧ e.sum = 0) ∨
   (e.kind = 2 ∧ e.pk = 0 ∧ e.pn = 0 ∧ e.pb.size = 0 ∧ e.cnt = e.ix ∧ 0 < e.cnt) ∨
   (e.kind = 3 ∧ e.pk = 0 ∧ e.pn = 0 ∧ e.pb.size = 0 ∧ e.cnt = 0 ∧ e.sum = 0))
instance (e : Ent) : Decidable e.Ok := by unfold Ent.Ok; infer_instance
/-- an entry's bytes -/
def Ent.enc (e : Ent) : List UInt8 :=
  be 1 e.kind.toNat ++ be 4 e.tx.toNat ++ be 2 e.ix.toNat ++
    (if e.kind = 1 then be 1 e.pk.toNat ++ be 2 e.pn.toNat ++ e.pb.data.toList else if e.kind = 2 then be 2 e.cnt.toNat ++ be 4 e.sum.toNat else [])
def Ent.zero : Ent := ⟨0, 0, 0, 0, 0, ⟨#[]⟩, 0, 0⟩
def Ent.stage (i pk pn : Int) (pb : ByteArray) : Ent := ⟨1, 1, i, pk, pn, pb, 0, 0⟩
/-- what stands in bytes -/
def parse (l : List UInt8) : Ent :=
  let k : Int := (num (getL l 0 1) : Nat)
  let t : Int := (num (getL l 1 4) : Nat)
  let i : Int := (num (getL l 5 2) : Nat)
  if k = 1 then ⟨k, t, i, (num (getL l 7 1) : Nat), (num (getL l 8 2) : Nat), ⟨(l.drop 10).toArray⟩, 0, 0⟩
  else if k = 2 then ⟨k, t, i, 0, 0, ⟨#[]⟩, (num (getL l 7 2) : Nat), (num (getL l 9 4) : Nat)⟩
  else ⟨k, t, i, 0, 0, ⟨#[]⟩, 0, 0⟩
def leastI (k : Int) : Int := if k = 1 then 10 else if k = 2 then 13 else if k = 3 then 7 else 0
/-- the entry of bytes, and the error's number -/
def dec (l : List UInt8) : Ent × Int :=
  if l = [] then (Ent.zero, 9)
  else if leastI (num (getL l 0 1) : Nat) = 0 ∨ 256 < l.length then (Ent.zero, 6)
  else if (l.length : Int) < leastI (num (getL l 0 1) : Nat) then (Ent.zero, 9)
  else if (parse l).Ok ∧ (parse l).enc = l then (parse l, 0) else (Ent.zero, 6)

theorem Ent.ok_kind {e : Ent} (h : e.Ok) : e.kind = 1 ∨ e.kind = 2 ∨ e.kind = 3 := by
  unfold Ent.Ok at h; omega
theorem sum_ok {e : Ent} : 0 ≤ e.sum → e.sum < 4294967296 → (0 ≤ e.sum ∧ e.sum < 4294967296) := fun a b => ⟨a, b⟩
theorem data_empty {b : ByteArray} (h : b.size = 0) : b = ⟨#[]⟩ := by
  obtain ⟨⟨d⟩⟩ := b
  have h2 : d.length = 0 := h
  rw [List.length_eq_zero_iff] at h2
  subst h2
  rfl
theorem getL_app (a b : List UInt8) (o n : Nat) (h : o + n ≤ a.length) : getL (a ++ b) o n = getL a o n := by
  unfold getL
  rw [List.drop_append_of_le_length (by omega), List.take_append_of_le_length (by rw [List.length_drop]; omega)]
theorem getL_skip (a b : List UInt8) (o n : Nat) (h : a.length ≤ o) : getL (a ++ b) o n = getL b (o - a.length) n := by
  unfold getL
  rw [List.drop_append, List.drop_eq_nil_of_le h, List.nil_append]
theorem getL_be (w n : Nat) : getL (be w n) 0 w = be w n := by
  have := getL_all (be w n)
  rwa [be_length] at this
theorem toList_size (b : ByteArray) : b.data.toList.length = b.size := Array.length_toList ..
theorem Ent.enc_length {e : Ent} (h : e.Ok) : (e.enc.length : Int) = if e.kind = 1 then 10 + (e.pb.size : Int) else if e.kind = 2 then 13 else 7 := by
  unfold Ent.enc
  rcases Ent.ok_kind h with k | k | k <;> rw [k] <;> simp [be_length] <;> omega
theorem Ent.enc_bounds {e : Ent} (h : e.Ok) : 7 ≤ e.enc.length ∧ e.enc.length ≤ 240 := by
  have h1 := Ent.enc_length h
  have hk := Ent.ok_kind h
  unfold Ent.Ok Staged at h
  rcases hk with k | k | k <;> rw [k] at h1 <;> simp at h1 <;> omega
/-- what is written is read -/
theorem parse_enc {e : Ent} (h : e.Ok) (hs : 0 ≤ e.sum ∧ e.sum < 4294967296) : parse e.enc = e := by
  obtain ⟨kind, tx, ix, pk, pn, pb, cnt, sum⟩ := e
  have hk := Ent.ok_kind h
  unfold Ent.Ok Staged at h
  simp only at h hs hk
  obtain ⟨t1, t2, i1, i2, h⟩ := h
  have et : ((num (be 4 tx.toNat) : Nat) : Int) = tx := by rw [num_be _ _ (by omega)]; omega
  have ei : ((num (be 2 ix.toNat) : Nat) : Int) = ix := by rw [num_be _ _ (by omega)]; omega
  have ek : ((num (be 1 kind.toNat) : Nat) : Int) = kind := by rw [num_be _ _ (by omega)]; omega
  have g0 : ∀ z, getL (be 1 kind.toNat ++ be 4 tx.toNat ++ be 2 ix.toNat ++ z) 0 1 = be 1 kind.toNat := fun z => by
    rw [List.append_assoc, List.append_assoc, getL_app _ _ _ _ (by simp [be_length]), getL_be]
  have g1 : ∀ z, getL (be 1 kind.toNat ++ be 4 tx.toNat ++ be 2 ix.toNat ++ z) 1 4 = be 4 tx.toNat := fun z => by
    rw [List.append_assoc, List.append_assoc, getL_skip _ _ _ _ (by simp [be_length]), be_length, getL_app _ _ _ _ (by simp [be_length]), Nat.sub_self, getL_be]
  have g5 : ∀ z, getL (be 1 kind.toNat ++ be 4 tx.toNat ++ be 2 ix.toNat ++ z) 5 2 = be 2 ix.toNat := fun z => by
    rw [List.append_assoc, getL_skip _ _ _ _ (by simp [be_length]), List.length_append, be_length, be_length, getL_app _ _ _ _ (by simp [be_length]), getL_be]
  have g7 : ∀ z (o n : Nat), getL (be 1 kind.toNat ++ be 4 tx.toNat ++ be 2 ix.toNat ++ z) (7 + o) n = getL z o n := fun z o n => by
    rw [getL_skip _ _ _ _ (by simp [be_length])]
    congr 1
    simp [be_length]
  unfold parse Ent.enc
  simp only [g0, g1, g5, et, ei, ek]
  rcases hk with rfl | rfl | rfl
  · rcases h with ⟨_, h3, h4, h5⟩ | ⟨h6, _⟩ | ⟨h6, _⟩
    · have epk : ((num (be 1 pk.toNat) : Nat) : Int) = pk := by rw [num_be _ _ (by omega)]; omega
      have epn : ((num (be 2 pn.toNat) : Nat) : Int) = pn := by rw [num_be _ _ (by omega)]; omega
      rw [if_pos rfl, if_pos rfl, show (7 : Nat) = 7 + 0 from rfl, g7, show (8 : Nat) = 7 + 1 from rfl, g7]
      rw [List.append_assoc (be 1 pk.toNat), getL_app _ _ _ _ (by simp [be_length]), getL_be, getL_skip _ _ _ _ (by simp [be_length]), be_length, Nat.sub_self, getL_app _ _ _ _ (by simp [be_length]), getL_be, epk, epn]
      have hd : (be 1 (1 : Int).toNat ++ be 4 tx.toNat ++ be 2 ix.toNat ++ (be 1 pk.toNat ++ (be 2 pn.toNat ++ pb.data.toList))).drop 10 = pb.data.toList := by
        have hh : (be 1 (1 : Int).toNat ++ be 4 tx.toNat ++ be 2 ix.toNat ++ (be 1 pk.toNat ++ be 2 pn.toNat)).length = 10 := by simp [be_length]
        rw [← List.append_assoc (be 1 pk.toNat), ← List.append_assoc, List.drop_append, List.drop_eq_nil_of_le (by omega), hh]
        rfl
      rw [hd, h4, h5]
    · omega
    · omega
  · rcases h with ⟨h6, _⟩ | ⟨_, h1, h2, h3, h4, h5⟩ | ⟨h6, _⟩
    · omega
    · rw [if_neg (by omega), if_pos rfl, if_neg (by omega), if_pos rfl, show (7 : Nat) = 7 + 0 from rfl, g7, show (9 : Nat) = 7 + 2 from rfl, g7]
      have ec : ((num (be 2 cnt.toNat) : Nat) : Int) = cnt := by rw [num_be _ _ (by omega)]; omega
      have es : ((num (be 4 sum.toNat) : Nat) : Int) = sum := by rw [num_be _ _ (by omega)]; omega
      rw [getL_app _ _ _ _ (by simp [be_length]), getL_be, getL_skip _ _ _ _ (by simp [be_length]), be_length, Nat.sub_self, getL_be, ec, es, h1, h2, data_empty h3]
    · omega
  · rcases h with ⟨h6, _⟩ | ⟨h6, _⟩ | ⟨_, h1, h2, h3, h4, h5⟩
    · omega
    · omega
    · rw [if_neg (by omega), if_neg (by omega), h1, h2, data_empty h3, h4, h5]
theorem enc_first {e : Ent} (h : e.Ok) : ((num (getL e.enc 0 1) : Nat) : Int) = e.kind := by
  have hk := Ent.ok_kind h
  unfold Ent.enc
  rw [List.append_assoc, List.append_assoc, getL_app _ _ _ _ (by simp [be_length]), getL_be, num_be _ _ (by omega)]
  omega
theorem dec_enc {e : Ent} (h : e.Ok) (hs : 0 ≤ e.sum ∧ e.sum < 4294967296) : dec e.enc = (e, 0) := by
  have hb := Ent.enc_bounds h
  have hl := Ent.enc_length h
  have hk := Ent.ok_kind h
  have hf := enc_first h
  unfold dec
  rw [if_neg (by intro x; rw [x] at hb; simp at hb), hf, if_neg, if_neg, parse_enc h hs, if_pos ⟨h, rfl⟩]
  · unfold leastI
    rcases hk with k | k | k <;> rw [k] at hl ⊢ <;> simp at hl ⊢ <;> omega
  · unfold leastI
    rcases hk with k | k | k <;> rw [k] at hl ⊢ <;> simp at hl ⊢ <;> omega
theorem dec_ok {l : List UInt8} (h : (dec l).2 = 0) : (dec l).1.Ok ∧ (dec l).1.enc = l := by
  unfold dec at h ⊢
  split at h
  · simp at h
  · split at h
    · simp at h
    · split at h
      · simp at h
      · next h1 h2 h3 =>
        split at h
        · next h4 => rw [if_neg h1, if_neg h2, if_neg h3, if_pos h4]; exact h4
        · simp at h
theorem dec_bad {l : List UInt8} (h : (dec l).2 ≠ 0) : (dec l).1 = Ent.zero := by
  unfold dec at h ⊢
  split
  · rfl
  · next h1 =>
    rw [if_neg h1] at h
    split
    · rfl
    · next h2 =>
      rw [if_neg h2] at h
      split
      · rfl
      · next h3 =>
        rw [if_neg h3] at h
        split
        · next h4 => rw [if_pos h4] at h; simp at h
        · rfl
/-- entries that are not the same have unlike bytes -/
theorem enc_inj {a b : Ent} (ha : a.Ok) (hb : b.Ok) (sa : 0 ≤ a.sum ∧ a.sum < 4294967296) (sb : 0 ≤ b.sum ∧ b.sum < 4294967296) (h : a.enc = b.enc) : a = b := by
  rw [← parse_enc ha sa, h, parse_enc hb sb]
end Fld
end Go.Proofs.Ytmibbklafogbkaa
