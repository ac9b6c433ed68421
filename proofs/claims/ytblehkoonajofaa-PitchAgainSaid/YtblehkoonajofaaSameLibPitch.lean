/- Two lists that are one are the same to the reference's comparison (psalteryref04.Same), for the key Pitch. -/
import Derived.Test.YtblehkoonajofaaPPitchx0
import Derived.Test.YtblehkoonajofaaPPitchx1
import Derived.Test.YtblehkoonajofaaPPitchx2
import Derived.Test.YtblehkoonajofaaPPitchx3
import Derived.Test.YtblehkoonajofaaPPitchx4
import Derived.Test.YtblehkoonajofaaNum
namespace Go.Proofs.Ytblehkoonajofaa.SameLibPitch
open Go.RowKit Go.Proofs.Ytblehkoonajofaa.PPitch Go.Proofs.Ytblehkoonajofaa.Num Go.Proofs.YtblehkoonajofaaW.PrintWords Go.Proofs.YtblehkoonajofaaW.PrintLast Go.Proofs.YtblehkoonajofaaW.PrintMore
theorem Same_l0 {a : List Int} (hl : a.length ≤ 1000000) (d : Nat) : ∀ (k : Nat) (i : Int), 0 ≤ i → i ≤ a.length → (a.length : Int) - i = d → d < k → psalteryref04_Same.l0 k a a i = some true := by
  induction d with
  | zero =>
    intro k i i0 i1 hd hk
    obtain ⟨k, rfl⟩ : ∃ m, k = m + 1 := ⟨k - 1, by omega⟩
    simp only [psalteryref04_Same.l0]
    rw [if_neg (by omega)]
  | succ d ih =>
    intro k i i0 i1 hd hk
    obtain ⟨k, rfl⟩ : ∃ m, k = m + 1 := ⟨k - 1, by omega⟩
    simp only [psalteryref04_Same.l0]
    rw [if_pos (by omega), if_pos i0, if_pos (by omega), if_true, w64 (by omega) (by omega)]
    exact ih k (i + 1) (by omega) (by omega) (by omega) (by omega)
theorem Same_eq {a : List Int} (hl : a.length ≤ 1000000) {k : Nat} (hk : a.length < k) : psalteryref04_Same.f k a a = some true := by
  unfold psalteryref04_Same.f
  rw [if_pos rfl]
  exact Same_l0 hl a.length k 0 (by decide) (by omega) (by omega) hk
end Go.Proofs.Ytblehkoonajofaa.SameLibPitch
