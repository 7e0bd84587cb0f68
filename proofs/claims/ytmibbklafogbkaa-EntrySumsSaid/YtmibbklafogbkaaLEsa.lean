/- Words for the law EntrySums: pages laid in a new row, one of them changed there. -/
import Derived.Test.YtmibbklafogbkaaLEback
import Derived.Test.YtmibbklafogbkaaLSeen
namespace Go.Proofs.Ytmibbklafogbkaa
open Go.RowKit
open Fld
open Crc
def pgv (p : Pg) : List Value := [.int .i64 p.pk, .int .i64 p.pn, .string p.pb]
def pgCells (l : List Pg) : List Value := l.flatMap pgv
theorem pgCells_length (l : List Pg) : (pgCells l).length = l.length * 3 := by
  induction l with
  | nil => rfl
  | cons p r ih => simp only [pgCells, List.flatMap_cons, List.length_append, List.length_cons] at ih ⊢; rw [ih]; simp [pgv]; omega
theorem pgCells_get (l : List Pg) : ∀ (k j : Nat) (h : k < l.length), j < 3 → (pgCells l)[k * 3 + j]? = (pgv l[k])[j]? := by
  induction l with
  | nil => intro k j h; exact absurd h (Nat.not_lt_zero _)
  | cons p r ih =>
    intro k j h hj
    have e : pgCells (p :: r) = pgv p ++ pgCells r := rfl
    rw [e]
    cases k with
    | zero => rw [List.getElem?_append_left (by simp [pgv]; omega)]; simp
    | succ k =>
      rw [List.getElem?_append_right (by simp [pgv]; omega)]
      have : (k + 1) * 3 + j - (pgv p).length = k * 3 + j := by simp [pgv]; omega
      rw [this, ih k j (by simpa using h) hj]
      simp
theorem pgCells_one (l : List Pg) : ∀ u ∈ pgCells l, u.oneCell' = true := by
  intro u hu
  obtain ⟨p, _, hp⟩ := List.mem_flatMap.1 hu
  simp [pgv] at hp
  rcases hp with rfl | rfl | rfl <;> rfl
theorem add_at (ad : Addr) (k j : Nat) (hj : 0 < j) : ad.add (k * 3 + j) = ⟨(ad.add (k * 3)).block, (ad.add (k * 3)).off + j, none⟩ := by
  unfold Addr.add
  by_cases h : k * 3 = 0
  · rw [if_pos h, if_neg (by omega)]
    simp <;> omega
  · rw [if_neg h, if_neg (by omega)]
    simp <;> omega
theorem PgAt.news {w : World} {ad : Addr} {l : List Pg} (h : PgAt w (some ad) l) : ∀ j u, (pgCells l)[j]? = some u → w.cell? (ad.add j) = some u := by
  intro j u hu
  have hj : j < l.length * 3 := by
    rw [← pgCells_length]
    exact (List.getElem?_eq_some_iff.1 hu).1
  obtain ⟨k, r, hr, rfl⟩ : ∃ k r, r < 3 ∧ j = k * 3 + r := ⟨j / 3, j % 3, Nat.mod_lt _ (by omega), by omega⟩
  have hk : k < l.length := by omega
  rw [pgCells_get l k r hk hr] at hu
  obtain ⟨ad', e, c0, c1, c2⟩ := h k hk
  obtain rfl := Option.some.inj e
  rcases (show r = 0 ∨ r = 1 ∨ r = 2 by omega) with rfl | rfl | rfl
  · have hu' : Value.int .i64 l[k].pk = u := Option.some.inj hu
    rw [← hu']; exact c0
  · have hu' : Value.int .i64 l[k].pn = u := Option.some.inj hu
    rw [add_at _ _ _ (by omega), ← hu']; exact c1
  · have hu' : Value.string l[k].pb = u := Option.some.inj hu
    rw [add_at _ _ _ (by omega), ← hu']; exact c2
/-- a row of cells that begins with pages -/
def PgCur (cur : Array Value) (l : List Pg) : Prop := ∀ k, (h : k < l.length) → cur[k * 3]? = some (.int .i64 l[k].pk) ∧ cur[k * 3 + 1]? = some (.int .i64 l[k].pn) ∧ cur[k * 3 + 2]? = some (.string l[k].pb)
theorem PgCur.of {cur : Array Value} {l : List Pg} (h : cur.toList.take (l.length * 3) = pgCells l) : PgCur cur l := by
  intro k hk
  have key : ∀ j, j < 3 → cur[k * 3 + j]? = (pgv l[k])[j]? := by
    intro j hj
    rw [← pgCells_get l k j hk hj, ← h, List.getElem?_take, if_pos (by omega), Array.getElem?_toList]
  exact ⟨key 0 (by omega), key 1 (by omega), key 2 (by omega)⟩
theorem PgCur.at' {w : World} {g : Nat} {cur : Array Value} {l : List Pg} {t : TypeId} {fr : Nat × Nat} (h : PgCur cur l) (hg : w.heap[g]? = some (.cells cur t fr)) : PgAt w (some ⟨g, 0, none⟩) l := by
  intro k hk
  obtain ⟨c0, c1, c2⟩ := h k hk
  have e : (⟨g, 0, none⟩ : Addr).add (k * 3) = ⟨g, k * 3, none⟩ := by
    unfold Addr.add
    by_cases h : k * 3 = 0
    · rw [if_pos h, h]
    · rw [if_neg h]; simp
  refine ⟨⟨g, 0, none⟩, rfl, ?_, ?_, ?_⟩ <;> rw [e, cell_of_row _ _ _ _ _ _ hg] <;> assumption
theorem PgCur.store {cur : Array Value} {l : List Pg} (h : PgCur cur l) (q : Nat) (hq : q < l.length) (z : ByteArray) : PgCur (cur.setIfInBounds (q * 3 + 2) (.string z)) (l.set q ⟨l[q].pk, l[q].pn, z⟩) := by
  intro k hk
  rw [List.length_set] at hk
  obtain ⟨c0, c1, c2⟩ := h k hk
  rw [Array.getElem?_setIfInBounds, Array.getElem?_setIfInBounds, Array.getElem?_setIfInBounds, if_neg (by omega), if_neg (by omega), List.getElem_set]
  by_cases e : q = k
  · subst e
    rw [if_pos rfl, if_pos rfl]
    have hlt : q * 3 + 2 < cur.size := (Array.getElem?_eq_some_iff.1 c2).1
    rw [if_pos hlt]
    exact ⟨c0, c1, rfl⟩
  · rw [if_neg e, if_neg (by omega)]
    exact ⟨c0, c1, c2⟩
theorem info72 : (Try.prog.info? 72).map (fun i => (i.zero, i.size, i.bytes)) = some (some (.agg #[.int .i64 0, .int .i64 0, .string ByteArray.empty]), 3, 32) := by kernel_rfl
section
variable {P : Program} {ops : Array Oper} {rest : List Oper} {o : Oper} {a : Act} {w : World} {Q : Exit → Act → World → Prop}
/-- 'append(nil, l...)' of pages, the world behind it a variable. -/
theorem wpList_appendPages (hgd : o.guard = none) (s x : Operand) (ho : o.op = .call { callee := .builtin .append, args := #[s, x], argTypes := #[75, 75] }) (ht : P.underlying 75 = some (.slice 72))
    (i : TypeInfo) (hi : P.info? 72 = some i) (hz : i.zero = some (.agg #[.int .i64 0, .int .i64 0, .string ByteArray.empty])) (h3 : i.size = 3) (hb : i.bytes = 32)
    (ad : Addr) (n c : Nat) (l : List Pg) (hs : a.eval s = .slice none 0 0) (hx : a.eval x = .slice (some ad) n c) (hl : n = l.length) (h0 : 0 < n) (hn : n ≤ 60) (hp : PgAt w (some ad) l)
    (h : ∀ (W : World) (g c' : Nat) (cur : Array Value), w.heap.size ≤ g → W.heap[g]? = some (.cells cur 72 (0, 0)) → PgCur cur l → w.grownBy W none → n ≤ c' → wpList P ops Q rest (a.put o.dst (.slice (some ⟨g, 0, none⟩) n c')) W) :
    wpList P ops Q (o :: rest) a w := by
  subst hl
  refine wpList_append_own w hgd s x 75 ho w.heap.size 72 i _ 3 32 ht hi hz h3 hb rfl (by decide) _ 0 [] hs (World.ownsRow_nil w _ _ _) ad l.length c (pgCells l) hx (pgCells_length l) hp.news (pgCells_one l) (by unfold maxLen; omega) (by omega) (Nat.le_refl _) ?_
  intro v' w' hown hg _
  rcases hown.2 with ⟨_, hz⟩ | ⟨g, cap, cur, rfl, hbg, hrow, hle, _, _, htk⟩
  · omega
  · rw [Nat.zero_add] at htk hle ⊢
    rw [List.nil_append] at htk
    exact h w' g cap cur hbg hrow (PgCur.of htk) hg hle
end
/-- a list of pages of which one has another byte in its body has another sum -/
theorem sums_ne (l : List Pg) (q : Nat) (hq : q < l.length) (hl : l.length ≤ 60) (p : Nat) (hp : p < l[q].pb.data.toList.length) (d : UInt8) (hd : d ≠ l[q].pb.data.toList[p]) (z : ByteArray) (hz : z.data.toList = l[q].pb.data.toList.set p d)
    (hst : Staged l[q].pk l[q].pn l[q].pb) (n : Nat) (hn : n = l.length) : sumTo (l.set q ⟨l[q].pk, l[q].pn, z⟩) n ≠ sumTo l n := by
  unfold sumTo
  rw [List.take_of_length_le (by rw [List.length_set]; omega), List.take_of_length_le (by omega)]
  intro e
  have e' : crc (cat 0 (l.set q ⟨l[q].pk, l[q].pn, z⟩)) = crc (cat 0 l) := by exact_mod_cast e
  have hs1 : l.set q ⟨l[q].pk, l[q].pn, z⟩ = l.take q ++ ⟨l[q].pk, l[q].pn, z⟩ :: l.drop (q + 1) := by rw [List.set_eq_take_append_cons_drop, if_pos hq]
  have hs2 : l = l.take q ++ l[q] :: l.drop (q + 1) := by rw [← List.drop_eq_getElem_cons hq, List.take_append_drop]
  have hb1 : l[q].pb.data.toList = l[q].pb.data.toList.take p ++ l[q].pb.data.toList[p] :: l[q].pb.data.toList.drop (p + 1) := by rw [← List.drop_eq_getElem_cons hp, List.take_append_drop]
  have hb2 : z.data.toList = l[q].pb.data.toList.take p ++ d :: l[q].pb.data.toList.drop (p + 1) := by rw [hz, List.set_eq_take_append_cons_drop, if_pos hp]
  have hsz : z.size = l[q].pb.size := by rw [← toList_size, ← toList_size, hz, List.length_set]
  have key := cat_byte (l.take q) (l.drop (q + 1)) ⟨l[q].pk, l[q].pn, z⟩ l[q] _ _ d _ rfl rfl hb2 hb1 (by unfold Staged at hst ⊢; simp only; rw [hsz]; exact hst) hst (by rw [List.length_take]; omega) hd
  rw [← hs1, ← hs2] at key
  exact key e'
end Go.Proofs.Ytmibbklafogbkaa
