/- A slice of whole numbers that came in, opened as the walks read it: for a law's row. -/
import Derived.ProofKit
import Derived.Test.YtiiebkfeodmefaaDoorWWords
namespace Go.Proofs.YtiiebkfeodmefaaDoor.IntsOpen
open Go.ChangeShapes Go.WideShapes Go.RowKit Go.Proofs.YtiiebkfeodmefaaDoorW.PrintWords
set_option linter.unusedVariables false
theorem open_list {H : Type} {enc : TypeId × Value → H} {P : Program} {w : World} {base : Nat} {held : Bool} {t e : TypeId} {k : IntKind} {A : Option Addr} {len cap : Nat} {d : DataW H} {ps : List MemPlace}
    (ht : P.underlying t = some (.slice e)) (he : P.underlying e = some (.int k)) (ce : P.cellsOf e = 1)
    (h : DataW.Trod enc P w base (fun _ => true) held t (.slice A len cap) d ps) :
    ∃ l : List Int, ReadsInt w k A len l ∧ len ≤ cap ∧ len ≤ maxLen ∧ ∀ x ∈ l, (Lit.int k x).wf = true := by
  obtain ⟨fuel, hf⟩ := h
  rcases open_ints ht he ce hf with ⟨hcs, _⟩ | ⟨a, l, c, zs, hcs, _, hl, hm, hz, _, hcell, hwz⟩
  · simp [Value.cells] at hcs
    obtain ⟨rfl, rfl, rfl⟩ := hcs
    exact ⟨[], ⟨rfl, by decide, fun h => absurd h (by decide)⟩, Nat.le_refl _, Nat.zero_le _, fun x h => by cases h⟩
  · simp [Value.cells] at hcs
    obtain ⟨rfl, rfl, rfl⟩ := hcs
    have hz : zs.length = cap := by simpa using hz
    have hmm := Nat.le_trans hl hm
    refine ⟨zs.take len, ⟨by rw [List.length_take]; omega, by unfold maxLen at hmm; omega, fun _ => ⟨a, rfl, fun j hj => ?_⟩⟩, hl, hmm, fun x hx => hwz x (List.mem_of_mem_take hx)⟩
    rw [hcell j (by omega), List.getD_eq_getElem?_getD, List.getD_eq_getElem?_getD, List.getElem?_take, if_pos hj]
end Go.Proofs.YtiiebkfeodmefaaDoor.IntsOpen
