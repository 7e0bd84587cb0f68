/- A slice of Ops that comes in, opened to its cells. -/
import Derived.Test.YtmibbklafogbkaaLFscripts
import Derived.Test.YtmibbklafogbkaaG
namespace Go.Proofs.Ytmibbklafogbkaa
open Go.ChangeShapes Go.WideShapes Go.Deep
section
variable {H : Type} {enc : TypeId × Value → H} {w : World} {base : Nat} {spare : Nat → Bool} {held : Bool}
set_option maxRecDepth 100000 in
theorem open_script {r : Reach} {b0 : Nat} {v : Value} {d : DataW H} {p : List MemPlace} (hv : Value.okWide Try.prog w r b0 53 v) (h : DataW.Trod enc Try.prog w base spare held 53 v d p) :
    ∃ so len cap, v = .slice so len cap ∧ len ≤ 9223372036854775807 ∧ Script w so len := by
  obtain ⟨so, len, cap, rfl⟩ := okWide_slice Try.underlying53 hv
  obtain ⟨fuel, hf⟩ := h
  rcases open_slice Try.underlying53 hf with ⟨hc, _⟩ | ⟨a, len', cap', m, n, D, Pl, hc, hb, hl, hm, hmm, _, hx⟩
  · simp [Value.cells] at hc
    obtain ⟨rfl, rfl, rfl⟩ := hc
    exact ⟨none, 0, 0, rfl, by omega, Or.inl rfl⟩
  · simp [Value.cells] at hc
    obtain ⟨rfl, rfl, rfl⟩ := hc
    have hmax : maxLen = 9223372036854775807 := rfl
    refine ⟨some a, len, cap, rfl, by omega, ?_⟩
    by_cases h0 : len = 0
    · exact Or.inl h0
    have hlm : len ≤ m := by rw [hmm]; split <;> omega
    rw [cells58] at hx
    obtain ⟨ab, ao, asp⟩ := a
    have hsp : asp = none := by
      obtain ⟨cs', h1, h2⟩ := hx 0 (by omega)
      obtain ⟨_, hcl, hce⟩ := World.cells?_some h1
      obtain ⟨z0, z1, z2, z3, z4, rfl, _⟩ := cells_op h2
      have := hce 0 (by omega)
      exact World.cell?_spot (a := ⟨ab, ao, asp⟩) (by simpa [Addr.add] using this)
    subst hsp
    have key : ∀ i, i < len → ∃ z0 z1 z2 z3 z4, OpAt w ab (ao + i * 5) z0 z1 z2 z3 z4 ∧ OpOk z0 z1 z2 z3 z4 := by
      intro i hi
      obtain ⟨cs', h1, h2⟩ := hx i (by omega)
      obtain ⟨_, hcl, hce⟩ := World.cells?_some h1
      obtain ⟨z0, z1, z2, z3, z4, rfl, hw⟩ := cells_op h2
      have ha : ∀ j, ((⟨ab, ao, none⟩ : Addr).add (i * 5)).add j = ⟨ab, ao + i * 5 + j, none⟩ := by
        intro j; unfold Addr.add; split <;> split <;> simp_all
      refine ⟨z0, z1, z2, z3, z4, ⟨?_, ?_, ?_, ?_, ?_⟩, hw⟩
      · have := hce 0 (by omega); rw [ha] at this; simpa using this
      · have := hce 1 (by omega); rw [ha] at this; simpa using this
      · have := hce 2 (by omega); rw [ha] at this; simpa using this
      · have := hce 3 (by omega); rw [ha] at this; simpa using this
      · have := hce 4 (by omega); rw [ha] at this; simpa using this
    obtain ⟨z0, z1, z2, z3, z4, hop, _⟩ := key 0 (by omega)
    exact Or.inr ⟨ab, ao, rfl, World.block_lt_of_cell? w ⟨ab, ao + 0 * 5, none⟩ hop.1, key⟩
end
end Go.Proofs.Ytmibbklafogbkaa
