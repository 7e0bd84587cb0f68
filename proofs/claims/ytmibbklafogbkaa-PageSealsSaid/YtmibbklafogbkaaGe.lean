/- Entries, pages and lists of pages that come in, opened to their cells. -/
import Derived.Test.YtmibbklafogbkaaG
import Derived.Test.YtmibbklafogbkaaEu
namespace Go.Proofs.Ytmibbklafogbkaa
open Go.ChangeShapes Go.WideShapes Go.Deep
open Fld Go.RowKit
section
variable {H : Type} {enc : TypeId × Value → H} {w : World} {base : Nat} {spare : Nat → Bool} {held : Bool}
/-- the cells of a page -/
theorem cells_page {fuel : Nat} {cs : List Value} {x : DataW H × List MemPlace} (h : DataW.trod enc Try.prog w base spare held fuel 72 cs = some x) :
    ∃ (z0 z1 : Int) (z2 : ByteArray), cs = [.int .i64 z0, .int .i64 z1, .string z2] ∧ (Lit.int .i64 z0).wf = true ∧ (Lit.int .i64 z1).wf = true ∧ z2.size ≤ maxLen := by
  obtain ⟨hcl, m, hcf⟩ := fields_of Try.underlying72 h
  rw [cells72] at hcl
  obtain ⟨c0, c1, c2, rfl⟩ := list3 cs hcl
  obtain ⟨y0, g0⟩ := field_at hcf 0 3 0 1 rfl one3
  obtain ⟨y1, g1⟩ := field_at hcf 1 3 1 1 rfl one3
  obtain ⟨y2, g2⟩ := field_at hcf 2 9 2 1 rfl one9
  obtain ⟨z0, e0, _, wz0⟩ := DataW.trod_int Try.underlying3 g0
  obtain ⟨z1, e1, _, wz1⟩ := DataW.trod_int Try.underlying3 g1
  obtain ⟨z2, e2, _, wz2⟩ := DataW.trod_string Try.underlying9 g2
  simp only [List.drop_succ_cons, List.drop_zero, List.take_succ_cons, List.take_zero, List.cons.injEq, and_true] at e0 e1 e2
  subst e0 e1 e2
  exact ⟨z0, z1, z2, rfl, wz0, wz1, wz2⟩
set_option maxRecDepth 100000 in
theorem open_page {r : Reach} {b0 : Nat} {v : Value} {d : DataW H} {p : List MemPlace} (hv : Value.okWide Try.prog w r b0 72 v) (h : DataW.Trod enc Try.prog w base spare held 72 v d p) :
    ∃ (z0 z1 : Int) (z2 : ByteArray), v = .agg #[.int .i64 z0, .int .i64 z1, .string z2] ∧ (Lit.int .i64 z0).wf = true ∧ (Lit.int .i64 z1).wf = true ∧ z2.size ≤ maxLen := by
  obtain ⟨ca, rfl, _⟩ := okWide_struct Try.underlying72 hv
  obtain ⟨fuel, hf⟩ := h
  obtain ⟨l⟩ := ca
  obtain ⟨z0, z1, z2, e, hw⟩ := cells_page hf
  have e' : l = [.int .i64 z0, .int .i64 z1, .string z2] := e
  exact ⟨z0, z1, z2, by rw [e'], hw⟩
/-- the cells of an entry -/
theorem cells_ent {fuel : Nat} {cs : List Value} {x : DataW H × List MemPlace} (h : DataW.trod enc Try.prog w base spare held fuel 74 cs = some x) :
    ∃ (z0 z1 z2 z3 z4 : Int) (z5 : ByteArray) (z6 z7 : Int), cs = [.int .i64 z0, .int .i64 z1, .int .i64 z2, .int .i64 z3, .int .i64 z4, .string z5, .int .i64 z6, .int .u32 z7] ∧ z5.size ≤ maxLen ∧ (Lit.int .u32 z7).wf = true := by
  obtain ⟨hcl, m, hcf⟩ := fields_of Try.underlying74 h
  rw [cells74] at hcl
  obtain ⟨c0, c1, c2, c3, c4, c5, c6, c7, rfl⟩ := list8 cs hcl
  obtain ⟨y0, g0⟩ := field_at hcf 0 3 0 1 rfl one3
  obtain ⟨y1, g1⟩ := field_at hcf 1 3 1 1 rfl one3
  obtain ⟨y2, g2⟩ := field_at hcf 2 3 2 1 rfl one3
  obtain ⟨y3, g3⟩ := field_at hcf 3 72 3 3 rfl cells72
  obtain ⟨y6, g6⟩ := field_at hcf 4 3 6 1 rfl one3
  obtain ⟨y7, g7⟩ := field_at hcf 5 22 7 1 rfl one22
  obtain ⟨z0, e0, _, wz0⟩ := DataW.trod_int Try.underlying3 g0
  obtain ⟨z1, e1, _, wz1⟩ := DataW.trod_int Try.underlying3 g1
  obtain ⟨z2, e2, _, wz2⟩ := DataW.trod_int Try.underlying3 g2
  obtain ⟨z3, z4, z5, e3, _, _, wz5⟩ := cells_page g3
  obtain ⟨z6, e6, _, wz6⟩ := DataW.trod_int Try.underlying3 g6
  obtain ⟨z7, e7, _, wz7⟩ := DataW.trod_int Try.underlying22 g7
  simp only [List.drop_succ_cons, List.drop_zero, List.take_succ_cons, List.take_zero, List.cons.injEq, and_true] at e0 e1 e2 e3 e6 e7
  obtain ⟨e3, e4, e5⟩ := e3
  subst e0 e1 e2 e3 e4 e5 e6 e7
  exact ⟨z0, z1, z2, z3, z4, z5, z6, z7, rfl, wz5, wz7⟩
set_option maxRecDepth 100000 in
theorem open_ent {r : Reach} {b0 : Nat} {v : Value} {d : DataW H} {p : List MemPlace} (hv : Value.okWide Try.prog w r b0 74 v) (h : DataW.Trod enc Try.prog w base spare held 74 v d p) :
    ∃ (z0 z1 z2 z3 z4 : Int) (z5 : ByteArray) (z6 z7 : Int), v = .agg #[.int .i64 z0, .int .i64 z1, .int .i64 z2, .int .i64 z3, .int .i64 z4, .string z5, .int .i64 z6, .int .u32 z7] ∧ z5.size ≤ maxLen ∧ 0 ≤ z7 ∧ z7 < 4294967296 := by
  obtain ⟨ca, rfl, _⟩ := okWide_struct Try.underlying74 hv
  obtain ⟨fuel, hf⟩ := h
  obtain ⟨l⟩ := ca
  obtain ⟨z0, z1, z2, z3, z4, z5, z6, z7, e, h5, h7⟩ := cells_ent hf
  have e' : l = [.int .i64 z0, .int .i64 z1, .int .i64 z2, .int .i64 z3, .int .i64 z4, .string z5, .int .i64 z6, .int .u32 z7] := e
  have hb := bounds_u32 h7
  exact ⟨z0, z1, z2, z3, z4, z5, z6, z7, by rw [e'], h5, hb.1, by omega⟩
theorem pages_slice {fuel : Nat} {cs : List Value} {x : DataW H × List MemPlace} (hf : DataW.trod enc Try.prog w base spare held fuel 75 cs = some x) :
    ∃ (A : Option Addr) (cap : Nat) (l : List Pg), cs = [.slice A l.length cap] ∧ l.length ≤ cap ∧ cap ≤ maxLen ∧ PgAt w A l ∧ ∀ p ∈ l, p.pb.size ≤ maxLen := by
  rcases open_slice Try.underlying75 hf with ⟨hc, _⟩ | ⟨a, len, cap, m, n, D, Pl, hc, hb, hl, hm, hmm, _, hx⟩
  · exact ⟨none, 0, [], hc, Nat.le_refl _, Nat.zero_le _, fun k hk => absurd hk (by simp), fun p hp => absurd hp (by simp)⟩
  · have hlm : len ≤ m := by rw [hmm]; split <;> omega
    rw [cells72] at hx
    obtain ⟨ab, ao, asp⟩ := a
    have hsp : 0 < len → asp = none := by
      intro h0
      obtain ⟨cs', h1, h2⟩ := hx 0 (by omega)
      obtain ⟨_, hcl, hce⟩ := World.cells?_some h1
      obtain ⟨z0, z1, z2, rfl, _⟩ := cells_page h2
      have := hce 0 (by omega)
      exact World.cell?_spot (a := ⟨ab, ao, asp⟩) (by simpa [Addr.add] using this)
    have key : ∀ i, i < len → asp = none ∧ ∃ q : Pg, w.cell? ⟨ab, ao + i * 3, none⟩ = some (.int .i64 q.pk) ∧ w.cell? ⟨ab, ao + i * 3 + 1, none⟩ = some (.int .i64 q.pn) ∧ w.cell? ⟨ab, ao + i * 3 + 2, none⟩ = some (.string q.pb) ∧ q.pb.size ≤ maxLen := by
      intro i hi
      obtain ⟨cs', h1, h2⟩ := hx i (by omega)
      obtain ⟨_, hcl, hce⟩ := World.cells?_some h1
      obtain ⟨z0, z1, z2, rfl, _, _, hz⟩ := cells_page h2
      have hsp := hsp (by omega)
      subst hsp
      have ha : ∀ j, ((⟨ab, ao, none⟩ : Addr).add (i * 3)).add j = ⟨ab, ao + i * 3 + j, none⟩ := by
        intro j; unfold Addr.add; split <;> split <;> simp_all
      refine ⟨rfl, ⟨z0, z1, z2⟩, ?_, ?_, ?_, hz⟩
      · have := hce 0 (by omega); rw [ha] at this; simpa using this
      · have := hce 1 (by omega); rw [ha] at this; simpa using this
      · have := hce 2 (by omega); rw [ha] at this; simpa using this
    have hch : ∃ f : Nat → Pg, ∀ i, i < len → asp = none ∧ w.cell? ⟨ab, ao + i * 3, none⟩ = some (.int .i64 (f i).pk) ∧ w.cell? ⟨ab, ao + i * 3 + 1, none⟩ = some (.int .i64 (f i).pn) ∧ w.cell? ⟨ab, ao + i * 3 + 2, none⟩ = some (.string (f i).pb) ∧ (f i).pb.size ≤ maxLen :=
      ⟨fun i => if h : i < len then Classical.choose (key i h).2 else ⟨0, 0, ⟨#[]⟩⟩, fun i h => by
        have hc2 := Classical.choose_spec (key i h).2
        refine ⟨(key i h).1, ?_⟩
        simp only [dif_pos h]
        exact hc2⟩
    obtain ⟨f, hF⟩ := hch
    refine ⟨some ⟨ab, ao, asp⟩, cap, (List.range len).map f, by rw [hc]; simp, by simpa using hl, hm, ?_, ?_⟩
    · intro k hk
      have hk' : k < len := by simpa using hk
      obtain ⟨hs, h0, h1, h2, _⟩ := hF k hk'
      subst hs
      have ha : (⟨ab, ao, none⟩ : Addr).add (k * 3) = ⟨ab, ao + k * 3, none⟩ := by
        unfold Addr.add; split <;> simp_all
      refine ⟨⟨ab, ao, none⟩, rfl, ?_, ?_, ?_⟩ <;> rw [ha] <;> simpa using by assumption
    · intro q hq
      obtain ⟨i, hi, rfl⟩ := List.mem_map.1 hq
      exact (hF i (by simpa using hi)).2.2.2.2
set_option maxRecDepth 100000 in
theorem open_pages {r : Reach} {b0 : Nat} {v : Value} {d : DataW H} {p : List MemPlace} (hv : Value.okWide Try.prog w r b0 75 v) (h : DataW.Trod enc Try.prog w base spare held 75 v d p) :
    ∃ (A : Option Addr) (cap : Nat) (l : List Pg), v = .slice A l.length cap ∧ l.length ≤ cap ∧ cap ≤ maxLen ∧ PgAt w A l ∧ ∀ p ∈ l, p.pb.size ≤ maxLen := by
  obtain ⟨so, len, cap, rfl⟩ := okWide_slice Try.underlying75 hv
  obtain ⟨fuel, hf⟩ := h
  obtain ⟨A, cap', l, hc, h1, h2, h3, h4⟩ := pages_slice hf
  simp [Value.cells] at hc
  obtain ⟨rfl, rfl, rfl⟩ := hc
  exact ⟨so, cap, l, rfl, h1, h2, h3, h4⟩
end
end Go.Proofs.Ytmibbklafogbkaa
