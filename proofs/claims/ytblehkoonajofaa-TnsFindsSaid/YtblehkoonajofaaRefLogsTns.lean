/- The reference's bits, roots, logs and powers, as far as the key Tns has them. -/
import Derived.Test.YtblehkoonajofaaPTnsx0
import Derived.Test.YtblehkoonajofaaPTnsx1
import Derived.Test.YtblehkoonajofaaPTnsx2
import Derived.Test.YtblehkoonajofaaPTnsx3
import Derived.Test.YtblehkoonajofaaLogsBaseTns
namespace Go.Proofs.Ytblehkoonajofaa.RefLogsTns
open Go.RowKit Go.Proofs.Ytblehkoonajofaa.PTns Go.Proofs.Ytblehkoonajofaa.Num Go.Proofs.Ytblehkoonajofaa.FixBaseTns Go.Proofs.Ytblehkoonajofaa.LogsBaseTns Go.Proofs.YtblehkoonajofaaW.PrintWords Go.Proofs.YtblehkoonajofaaW.PrintLast Go.Proofs.YtblehkoonajofaaW.PrintMore
set_option linter.unusedSimpArgs false
set_option linter.unusedVariables false

/-! bits -/
theorem nbits_half {n : Int} (h : 0 < n) : nbits (n / 2) + 1 = nbits n := by
  by_cases h1 : n = 1
  · subst h1; decide +kernel
  · have u := (HasBits.up 1 (x := n) (by omega) (nbits_has (n := n / 2 ^ 1) (by omega))).unique (by omega) (nbits_has (n := n) (by omega))
    rw [show (2 : Int) ^ 1 = 2 from rfl] at u
    omega
theorem nbits_64 {n : Int} (h0 : 0 ≤ n) (h1 : n ≤ 18446744073709551615) : nbits n ≤ 64 :=
  nbits_le (m := 64) h0 (by rw [show (2 : Int) ^ 64 = 18446744073709551616 by decide +kernel]; omega)
theorem rBits_l0 (d : Nat) : ∀ (k : Nat) (n i : Int), 0 ≤ n → n ≤ 18446744073709551615 → nbits n ≤ d → d < k → 0 ≤ i → i + d ≤ 1000 → psalteryref02_Bits.l0 k n i = some (i + nbits n) := by
  induction d with
  | zero =>
    intro k n i h0 h1 hd hk i0 i1
    obtain ⟨k, rfl⟩ : ∃ m, k = m + 1 := ⟨k - 1, by omega⟩
    have : ¬ n > 0 := fun h => by have := nbits_pos h; omega
    obtain rfl : n = 0 := by omega
    simp only [psalteryref02_Bits.l0]
    rw [if_neg (by decide), nbits_zero, Int.add_zero]
  | succ d ih =>
    intro k n i h0 h1 hd hk i0 i1
    obtain ⟨k, rfl⟩ : ∃ m, k = m + 1 := ⟨k - 1, by omega⟩
    simp only [psalteryref02_Bits.l0]
    by_cases h : n > 0
    · have hb := nbits_half h
      rw [if_pos h, Int.tdiv_eq_ediv_of_nonneg h0, wu64 (by omega) (by omega), w64 (by omega) (by omega), ih k (n / 2) (i + 1) (by omega) (by omega) (by omega) (by omega) (by omega) (by omega)]
      exact congrArg some (by omega)
    · obtain rfl : n = 0 := by omega
      rw [if_neg h, nbits_zero, Int.add_zero]
theorem rBits_eq {n : Int} (h0 : 0 ≤ n) (h1 : n ≤ 18446744073709551615) {k : Nat} (hk : 65 ≤ k) : psalteryref02_Bits.f k n = some (nbits n) := by
  unfold psalteryref02_Bits.f
  rw [rBits_l0 64 k n 0 h0 h1 (nbits_64 h0 h1) (by omega) (by decide) (by decide), Int.zero_add]

end Go.Proofs.Ytblehkoonajofaa.RefLogsTns
