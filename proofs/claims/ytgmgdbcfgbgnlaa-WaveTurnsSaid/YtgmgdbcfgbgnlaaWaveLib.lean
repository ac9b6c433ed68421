/- What the laws of layer 3 share: the chapter's examples, the reference's sine and cosine. -/
import Derived.Test.YtgmgdbcfgbgnlaaWaveBaseWave
namespace Go.Proofs.Ytgmgdbcfgbgnlaa.WaveLib
open Go.RowKit Go.Proofs.Ytgmgdbcfgbgnlaa.PWave Go.Proofs.Ytgmgdbcfgbgnlaa.Num Go.Proofs.Ytgmgdbcfgbgnlaa.FixBaseWave Go.Proofs.Ytgmgdbcfgbgnlaa.WaveBaseWave Go.Proofs.YtgmgdbcfgbgnlaaW.PrintWords Go.Proofs.YtgmgdbcfgbgnlaaW.PrintLast Go.Proofs.YtgmgdbcfgbgnlaaW.PrintMore

theorem a18 : ang 1 8 = 23170 := by decide +kernel
theorem a14 : ang 1 4 = 32767 := by decide +kernel
theorem a34 : ang 3 4 = -32767 := by decide +kernel
theorem a112 : ang 1 12 = 16384 := by decide +kernel
theorem alive_eq {k : Nat} (hk : 5 ≤ k) : psalterylaw03_alive.f k = some true := by
  unfold psalterylaw03_alive.f
  rw [Sine_eq hk, Sine_eq hk, Sine_eq hk, Sine_eq hk, a18, a14, a34, a112]
  simp only [Option.bind_some]
  decide +kernel
theorem rSine_eq {n d : Int} {k : Nat} (hk : 5 ≤ k) : psalteryref03_Sine.f k n d = some (if 1 ≤ d ∧ d ≤ 1048576 then (ang n d, 0) else (0, 1)) := by
  unfold psalteryref03_Sine.f
  by_cases h1 : d < 1
  · rw [if_pos h1, if_neg (by omega)]
  · rw [if_neg h1]
    by_cases h2 : d > 1048576
    · rw [if_pos h2, if_neg (by omega)]
    · rw [if_neg h2, if_pos (by omega), Of_eq (by omega) (by omega) (by omega)]; rfl
theorem rCosine_eq {n d : Int} {k : Nat} (hk : 6 ≤ k) : psalteryref03_Cosine.f k n d = some (if 1 ≤ d ∧ d ≤ 1048576 then (ang (4 * (n % d) + d) (4 * d), 0) else (0, 1)) := by
  unfold psalteryref03_Cosine.f
  by_cases h1 : d < 1
  · rw [if_pos h1, if_neg (by omega)]
  · rw [if_neg h1]
    by_cases h2 : d > 1048576
    · rw [if_pos h2, if_neg (by omega)]
    · have m1 := Int.emod_nonneg n (show d ≠ 0 by omega)
      have m2 := Int.emod_lt_of_pos n (show 0 < d by omega)
      rw [if_neg h2, if_pos (show 1 ≤ d ∧ d ≤ 1048576 by omega), if_neg (by omega)]
      have e : ang (4 * Int.tmod n d + d) (4 * d) = ang (4 * (n % d) + d) (4 * d) := by
        rcases tmod_cases (n := n) (show 1 ≤ d by omega) with ⟨a, b⟩ | ⟨a, b⟩
        · rw [b, ← ang_turn (4 * (n % d - d) + d) (4 * d) 1]; congr 1; omega
        · rw [b]
      have r : -4194304 ≤ 4 * Int.tmod n d ∧ 4 * Int.tmod n d ≤ 4194304 := by
        rcases tmod_cases (n := n) (show 1 ≤ d by omega) with ⟨a, b⟩ | ⟨a, b⟩ <;> omega
      rw [w64 (a := 4 * Int.tmod n d) (by omega) (by omega), w64 (a := 4 * Int.tmod n d + d) (by omega) (by omega), w64 (a := 4 * d) (by omega) (by omega), Of_eq (by omega) (by omega) (by omega), e]; rfl
end Go.Proofs.Ytgmgdbcfgbgnlaa.WaveLib
