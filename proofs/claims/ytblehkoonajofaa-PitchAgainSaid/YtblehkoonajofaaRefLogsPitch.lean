/- The reference's bits, roots, logs and powers, as far as the key Pitch has them. -/
import Derived.Test.YtblehkoonajofaaPPitchx0
import Derived.Test.YtblehkoonajofaaPPitchx1
import Derived.Test.YtblehkoonajofaaPPitchx2
import Derived.Test.YtblehkoonajofaaPPitchx3
import Derived.Test.YtblehkoonajofaaPPitchx4
import Derived.Test.YtblehkoonajofaaLogsBasePitch
namespace Go.Proofs.Ytblehkoonajofaa.RefLogsPitch
open Go.RowKit Go.Proofs.Ytblehkoonajofaa.PPitch Go.Proofs.Ytblehkoonajofaa.Num Go.Proofs.Ytblehkoonajofaa.FixBasePitch Go.Proofs.Ytblehkoonajofaa.LogsBasePitch Go.Proofs.YtblehkoonajofaaW.PrintWords Go.Proofs.YtblehkoonajofaaW.PrintLast Go.Proofs.YtblehkoonajofaaW.PrintMore
set_option linter.unusedSimpArgs false
set_option linter.unusedVariables false

/-! bits -/
theorem nbits_half {n : Int} (h : 0 < n) : nbits (n / 2) + 1 = nbits n := by
  by_cases h1 : n = 1
  · subst h1; decide +kernel
  · have u := (HasBits.up 1 (x := n) (by omega) (nbits_has (n := n / 2 ^ 1) (by omega))).unique (by omega) (nbits_has (n := n) (by omega))
    rw [show (2 : Int) ^ 1 = 2 from rfl] at u
    omega
theorem nbits_64 {n : Int} (h0 : 0 ≤ n) (h1 : n ≤ 18446744073709551615) : nbits n ≤ 64 :=
  nbits_le (m := 64) h0 (by rw [show (2 : Int) ^ 64 = 18446744073709551616 by decide +kernel]; omega)
/-! roots -/
theorem rRoot_l0 {n : Int} (h1 : n ≤ 18446744073709551615) (d : Nat) : ∀ (k : Nat) (lo hi : Int), 0 ≤ lo → lo < hi → hi ≤ 4294967296 → hi - lo ≤ 2 ^ d → d < k → lo * lo ≤ n → n < hi * hi →
    ∃ q, psalteryref02_Root.l0 k n lo hi = some q ∧ IsRoot n q := by
  induction d with
  | zero =>
    intro k lo hi l0 lh h2 hd hk hl hh
    obtain ⟨k, rfl⟩ : ∃ m, k = m + 1 := ⟨k - 1, by omega⟩
    rw [Int.pow_zero] at hd
    simp only [psalteryref02_Root.l0]
    rw [wu64 (by omega) (by omega), if_neg (by omega)]
    obtain rfl : hi = lo + 1 := by omega
    exact ⟨lo, congrArg some (by omega), l0, hl, hh⟩
  | succ d ih =>
    intro k lo hi l0 lh h2 hd hk hl hh
    obtain ⟨k, rfl⟩ : ∃ m, k = m + 1 := ⟨k - 1, by omega⟩
    rw [pow_succ'] at hd
    simp only [psalteryref02_Root.l0]
    rw [wu64 (a := hi - lo) (by omega) (by omega)]
    by_cases g : hi - lo > 1
    · have n0 : 0 ≤ n := Int.le_trans (Int.mul_nonneg l0 l0) hl
      rw [if_pos g, wu64 (a := lo + hi) (by omega) (by omega), Int.tdiv_eq_ediv_of_nonneg (by omega), wu64 (a := (lo + hi) / 2) (by omega) (by omega), if_neg (by omega), Int.tdiv_eq_ediv_of_nonneg n0]
      have nd : n / ((lo + hi) / 2) ≤ n := Int.ediv_le_self _ n0
      have nd0 : 0 ≤ n / ((lo + hi) / 2) := Int.ediv_nonneg n0 (by omega)
      rw [wu64 (a := n / _) (by omega) (by omega)]
      by_cases c : (lo + hi) / 2 ≤ n / ((lo + hi) / 2)
      · rw [if_pos c]
        rw [Int.le_ediv_iff_mul_le (by omega)] at c
        exact ih k _ hi (by omega) (by omega) h2 (by omega) (by omega) c hh
      · rw [if_neg c]
        rw [Int.le_ediv_iff_mul_le (by omega)] at c
        exact ih k lo _ l0 (by omega) (by omega) (by omega) (by omega) hl (by omega)
    · rw [if_neg g]
      obtain rfl : hi = lo + 1 := by omega
      exact ⟨lo, congrArg some (by omega), l0, hl, hh⟩
theorem rRoot_eq {n : Int} (h0 : 0 ≤ n) (h1 : n ≤ 18446744073709551615) {k : Nat} (hk : 40 ≤ k) : ∃ q, psalteryref02_Root.f k n = some q ∧ IsRoot n q := by
  unfold psalteryref02_Root.f
  exact rRoot_l0 h1 32 k 0 4294967296 (by decide) (by decide) (by decide) (by decide +kernel) (by omega) (by omega) (by omega)

end Go.Proofs.Ytblehkoonajofaa.RefLogsPitch
