/- The plain statement of the law BandLittle: what the width takes off has at most a 4096th of the energy, and no lesser width would do. No condition. -/
import Derived.Test.YtgmgdbcfgbgnlaaBandLib
namespace Go.Proofs.Ytgmgdbcfgbgnlaa.Pure
open Go.RowKit Go.Proofs.Ytgmgdbcfgbgnlaa.PBand Go.Proofs.Ytgmgdbcfgbgnlaa.Num Go.Proofs.Ytgmgdbcfgbgnlaa.BandLib Go.Proofs.YtgmgdbcfgbgnlaaW.PrintWords Go.Proofs.YtgmgdbcfgbgnlaaW.PrintLast Go.Proofs.YtgmgdbcfgbgnlaaW.PrintMore
set_option linter.unusedVariables false
theorem sum_narrow {l : List Int} (h : Lines l) (he : edgesV (l.length : Int) ≠ []) {w : Int} (w0 : 0 ≤ w) (w1 : w ≤ 3) {k : Nat} (hk : 200 < k) : psalterylaw15_sum.f k (narrow l (kept l.length w)) = some (enS l l.length - beyond l w) ∧ 0 ≤ beyond l w ∧ beyond l w ≤ enS l l.length := by
  obtain ⟨_, _, _, _, n1, _⟩ := edges_ok _ he
  obtain ⟨k0, k1⟩ := kept_facts he w0 w1
  have nl := narrow_len k0 k1
  have e : edgesV ((narrow l (kept l.length w)).length : Int) ≠ [] := by rw [nl]; exact he
  have m := enS_mono h (show (kept l.length w).toNat ≤ l.length by omega) (by omega)
  have g := enS_range h (kept l.length w).toNat (by omega)
  rw [sum_eq (h.narrow _) e (by omega) (by omega), enS_narrow k0 k1, nl, show min l.length (kept l.length w).toNat = (kept l.length w).toNat by omega]
  unfold beyond kept at *
  exact ⟨by congr 1; omega, by omega, by omega⟩
theorem BandLittle : psalterylaw15_BandLittle.Pure := by
  intro l _ _ hl
  have h := Lines.of hl
  refine ⟨1000, ?_⟩
  unfold psalterylaw15_BandLittle.f
  rw [alive_eq (by decide)]; simp only [Option.bind_some, if_true]
  by_cases he : edgesV (l.length : Int) = []
  · rw [Width_eq h (by decide) (.inr he), if_pos he]; rfl
  · obtain ⟨_, _, _, _, n1, _⟩ := edges_ok _ he
    obtain ⟨p, s, sb, s0⟩ := dE_facts h he
    obtain ⟨b2, b1, b0, b3⟩ := beyond_eq h he
    have wr := widthV_range l
    obtain ⟨k0, k1⟩ := kept_facts he wr.1 wr.2
    have nl := narrow_len k0 k1
    obtain ⟨q1, q2, q3⟩ := sum_narrow (k := 1000) h he wr.1 wr.2 (by decide)
    rw [Width_eq h (by decide) (.inl (by omega)), if_neg he]; simp only [Option.bind_some]
    rw [if_pos trivial, sum_eq h he (by decide) (by omega)]; simp only [Option.bind_some]
    rw [Narrow_eq, if_neg (by rintro (x | x | x); exact he x; omega; omega)]; simp only [Option.bind_some]
    rw [if_pos (by omega), q1]; simp only [Option.bind_some]
    have little : beyond l (widthV l) ≤ enS l l.length / 4096 := by
      unfold widthV
      split
      · rw [b3]; omega
      · split
        · omega
        · split <;> omega
    rw [wu64 (a := enS l l.length - (enS l l.length - beyond l (widthV l))) (by omega) (by omega), Int.tdiv_eq_ediv_of_nonneg s0, wu64 (a := enS l l.length / 4096) (by omega) (by omega), decide_eq_false (by omega)]
    simp only [psalterylaw15_BandLittle.j0]
    rw [if_neg Bool.false_ne_true]
    by_cases c : widthV l = 0
    · rw [if_pos c]
    · rw [if_neg c, w64 (by omega) (by omega), Narrow_eq, if_neg (by rintro (x | x | x); exact he x; omega; omega)]; simp only [Option.bind_some]
      obtain ⟨q1, q2, q3⟩ := sum_narrow (k := 999) (w := widthV l - 1) h he (by omega) (by omega) (by decide)
      rw [q1]; simp only [Option.bind_some]
      have much : beyond l (widthV l - 1) > enS l l.length / 4096 := by
        unfold widthV at c ⊢
        split
        · assumption
        · rw [if_neg ‹_›] at c
          split
          · assumption
          · rw [if_neg ‹_›] at c
            split
            · assumption
            · rw [if_neg ‹_›] at c; exact absurd rfl c
      rw [wu64 (by omega) (by omega), Int.tdiv_eq_ediv_of_nonneg s0, wu64 (by omega) (by omega), decide_eq_true (by omega)]
end Go.Proofs.Ytgmgdbcfgbgnlaa.Pure
