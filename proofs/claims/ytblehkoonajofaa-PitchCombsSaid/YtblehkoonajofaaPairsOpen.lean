/- A slice of structs of two whole numbers that came in, opened at every element: for a law's row. -/
import Derived.Deep.Slices
import Derived.ProofKit
import Derived.Test.YtblehkoonajofaaWWords
namespace Go.Proofs.Ytblehkoonajofaa.PairsOpen
open Go.Deep Go.ChangeShapes Go.WideShapes Go.RowKit
set_option linter.unusedVariables false
theorem at_field (a : Addr) (j d : Nat) : (a.add j).add (d + 1) = ⟨(a.add j).block, (a.add j).off + (d + 1), none⟩ := by
  show (if d + 1 = 0 then a.add j else { a.add j with off := (a.add j).off + (d + 1), spot := none }) = _
  rw [if_neg (by omega)]
theorem open_pairs {H : Type} {enc : TypeId × Value → H} {P : Program} {w : World} {base : Nat} {held : Bool} {t e ti : TypeId} {ki : IntKind} {n0 n1 g0 g1 k0 k1 : String} {b0 b1 : Nat} {A : Option Addr} {len cap : Nat} {d : DataW H} {ps : List MemPlace}
    (ht : P.underlying t = some (.slice e)) (he : P.underlying e = some (.struct #[⟨n0, ti, 0, false, g0, k0, b0⟩, ⟨n1, ti, 1, false, g1, k1, b1⟩])) (hi : P.underlying ti = some (.int ki))
    (ce : P.cellsOf e = 2) (ci : P.cellsOf ti = 1)
    (h : DataW.Trod enc P w base (fun _ => true) held t (.slice A len cap) d ps) :
    ∀ i : Nat, i < len → ∃ ad x y, A = some ad ∧ w.cell? (ad.add (i * 2)) = some (.int ki x) ∧ w.cell? ⟨(ad.add (i * 2)).block, (ad.add (i * 2)).off + 1, none⟩ = some (.int ki y) := by
  obtain ⟨fuel, hf⟩ := h
  rcases open_slice ht hf with ⟨hcs, _⟩ | ⟨a, l, c, m, n, D, Pl, hcs, _, hl, hm, hmm, _, hx⟩
  · simp [Value.cells] at hcs
    obtain ⟨rfl, rfl, rfl⟩ := hcs
    intro i hi; omega
  · simp [Value.cells] at hcs
    obtain ⟨rfl, rfl, rfl⟩ := hcs
    intro i hil
    obtain ⟨cells, h1, h2⟩ := hx i (by simp at hmm; omega)
    rw [ce] at h1
    obtain ⟨_, hlen, hcell⟩ := World.cells?_some h1
    obtain ⟨y0, y1, n', _, _, f0, f1⟩ := trod_struct2 he h2
    match cells, hlen with
    | [v0, v1], _ =>
      simp only [ci] at f0 f1
      obtain ⟨z0, e0, _, _⟩ := DataW.trod_int hi f0
      obtain ⟨z1, e1, _, _⟩ := DataW.trod_int hi f1
      simp at e0 e1
      subst e0; subst e1
      have c0 := hcell 0 (by omega)
      have c1 := hcell 1 (by omega)
      rw [at_field] at c1
      exact ⟨a, z0, z1, rfl, by simpa [Addr.add] using c0, by simpa using c1⟩
end Go.Proofs.Ytblehkoonajofaa.PairsOpen
