/- The plain statement of the law WaveTables: the sines of a whole turn are those of the reference. No condition. -/
import Derived.Test.YtgmgdbcfgbgnlaaWaveLib
namespace Go.Proofs.Ytgmgdbcfgbgnlaa.Pure
open Go.RowKit Go.Proofs.Ytgmgdbcfgbgnlaa.PWave Go.Proofs.Ytgmgdbcfgbgnlaa.Num Go.Proofs.Ytgmgdbcfgbgnlaa.FixBaseWave Go.Proofs.Ytgmgdbcfgbgnlaa.WaveBaseWave Go.Proofs.Ytgmgdbcfgbgnlaa.WaveLib Go.Proofs.YtgmgdbcfgbgnlaaW.PrintWords Go.Proofs.YtgmgdbcfgbgnlaaW.PrintLast Go.Proofs.YtgmgdbcfgbgnlaaW.PrintMore
set_option linter.unusedVariables false

theorem Sines_l0 {n : Int} (h1 : 1 ≤ n) (h2 : n ≤ 65536) (d : Nat) : ∀ (k : Nat) (l : List Int) (i : Int), 0 ≤ i → i ≤ n → n - i = d → d + 10 < k → (l.length : Int) = n → (∀ j : Int, 0 ≤ j → j < i → rd l j = ang j n) →
    ∃ r, wave_Sines.l0 k n l (l.length : Int) i = some (r, 0) ∧ (r.length : Int) = n ∧ ∀ j : Int, 0 ≤ j → j < n → rd r j = ang j n := by
  induction d with
  | zero =>
    intro k l i i0 i1 hd hk hl hj
    obtain ⟨k, rfl⟩ : ∃ m, k = m + 1 := ⟨k - 1, by omega⟩
    simp only [wave_Sines.l0]
    rw [if_neg (by omega)]
    exact ⟨l, rfl, hl, fun j a b => hj j a (by omega)⟩
  | succ d ih =>
    intro k l i i0 i1 hd hk hl hj
    obtain ⟨k, rfl⟩ : ∃ m, k = m + 1 := ⟨k - 1, by omega⟩
    simp only [wave_Sines.l0]
    rw [if_pos (by omega), sine_eq h1 (by omega) (by omega)]
    simp only [Option.bind_some]
    rw [if_pos i0, if_pos (by omega), w64 (by omega) (by omega)]
    have hs : (l.set i.toNat (ang i n)).length = l.length := List.length_set ..
    have := ih k (l.set i.toNat (ang i n)) (i + 1) (by omega) (by omega) (by omega) (by omega) (by omega) fun j a b => by
      rw [rd_set i0 (by omega) a]
      split
      · rename_i e; rw [e]
      · exact hj j a (by omega)
    rw [hs] at this; exact this
theorem Tables_l0 {n : Int} (h1 : 1 ≤ n) (h2 : n ≤ 65536) {l : List Int} (hl : (l.length : Int) = n) (hj : ∀ j : Int, 0 ≤ j → j < n → rd l j = ang j n) (d : Nat) : ∀ (k : Nat) (i : Int), 0 ≤ i → i ≤ n → n - i = d → d + 10 < k → psalterylaw03_WaveTables.l0 k n l i = some true := by
  induction d with
  | zero =>
    intro k i i0 i1 hd hk
    obtain ⟨k, rfl⟩ : ∃ m, k = m + 1 := ⟨k - 1, by omega⟩
    simp only [psalterylaw03_WaveTables.l0]
    rw [if_neg (by omega)]
  | succ d ih =>
    intro k i i0 i1 hd hk
    obtain ⟨k, rfl⟩ : ∃ m, k = m + 1 := ⟨k - 1, by omega⟩
    simp only [psalterylaw03_WaveTables.l0]
    rw [if_pos (by omega), if_pos i0, if_pos (by omega), Of_eq h1 (by omega) (by omega)]
    simp only [Option.bind_some]
    rw [if_pos (hj i i0 (by omega)), w64 (by omega) (by omega)]
    exact ih k (i + 1) (by omega) (by omega) (by omega) (by omega)
/-- What the law does with the table. -/
theorem Tables_j0 {n : Int} {k : Nat} (hk : 5020 ≤ k) (h : n ≤ 5000 ∨ n > 65536) : psalterylaw03_WaveTables.j0 k n false = some true := by
  obtain ⟨k, rfl⟩ : ∃ m, k = m + 1 := ⟨k - 1, by omega⟩
  simp only [psalterylaw03_WaveTables.j0, Bool.false_eq_true, if_false]
  unfold wave_Sines.f
  obtain ⟨k, rfl⟩ : ∃ m, k = m + 1 := ⟨k - 1, by omega⟩
  by_cases h1 : n < 1
  · rw [if_pos h1]; simp only [wave_Sines.j0, if_true, Option.bind_some]
    rw [if_pos h1]; simp only [psalterylaw03_WaveTables.j1, if_true]; rfl
  · rw [if_neg h1]
    by_cases h2 : n > 65536
    · rw [decide_eq_true h2]; simp only [wave_Sines.j0, if_true, Option.bind_some]
      rw [if_neg h1]; simp only [psalterylaw03_WaveTables.j1, if_true]; rfl
    · rw [decide_eq_false h2]; simp only [wave_Sines.j0, Bool.false_eq_true, if_false]
      rw [if_pos (show 0 ≤ n by omega), if_pos (by omega)]; simp only [Option.bind_some]
      obtain ⟨r, g1, g2, g3⟩ := Sines_l0 (n := n) (by omega) (by omega) n.toNat k (List.replicate n.toNat 0) 0 (by omega) (by omega) (by omega) (by omega) (by rw [List.length_replicate]; omega) (fun j a b => by omega)
      rw [g1]; simp only [Option.bind_some]
      rw [if_neg h1]; simp only [psalterylaw03_WaveTables.j1, Bool.false_eq_true, if_false, if_true]
      have hne : ((r.length : Int) != n) = false := by rw [g2, bne_self_eq_false]
      rw [hne]
      obtain ⟨k, rfl⟩ : ∃ m, k = m + 1 := ⟨k - 1, by omega⟩
      simp only [psalterylaw03_WaveTables.j2, Bool.false_eq_true, if_false]
      exact Tables_l0 (by omega) (by omega) g2 g3 n.toNat k 0 (by omega) (by omega) (by omega) (by omega)
theorem WaveTables : psalterylaw03_WaveTables.Pure := by
  intro n _
  refine ⟨5030, ?_⟩
  unfold psalterylaw03_WaveTables.f
  rw [alive_eq (by omega)]; simp only [Option.bind_some, if_true]
  by_cases h : n > 5000
  · rw [if_pos h]
    by_cases h2 : n ≤ 65536
    · rw [decide_eq_true h2]
      generalize hk : 5030 = k
      obtain ⟨k, rfl⟩ : ∃ m, k = m + 1 := ⟨k - 1, by omega⟩
      simp only [psalterylaw03_WaveTables.j0, if_true]
    · rw [decide_eq_false h2]; exact Tables_j0 (by omega) (by omega)
  · rw [if_neg h]; exact Tables_j0 (by omega) (by omega)

end Go.Proofs.Ytgmgdbcfgbgnlaa.Pure
