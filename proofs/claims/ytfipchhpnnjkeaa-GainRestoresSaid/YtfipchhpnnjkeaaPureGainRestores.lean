/- The plain statement of the law GainRestores: what is restored of any steps is what the reference restores. No condition. -/
import Derived.Test.YtfipchhpnnjkeaaGainRest
namespace Go.Proofs.Ytfipchhpnnjkeaa.Pure
open Go.RowKit Go.Proofs.Ytfipchhpnnjkeaa.PGain Go.Proofs.Ytfipchhpnnjkeaa.Num Go.Proofs.Ytfipchhpnnjkeaa.FixBaseGain Go.Proofs.Ytfipchhpnnjkeaa.LogsBaseGain Go.Proofs.Ytfipchhpnnjkeaa.RefLogsGain Go.Proofs.Ytfipchhpnnjkeaa.GainLib Go.Proofs.Ytfipchhpnnjkeaa.GainRest Go.Proofs.YtfipchhpnnjkeaaW.PrintWords Go.Proofs.YtfipchhpnnjkeaaW.PrintLast Go.Proofs.YtfipchhpnnjkeaaW.PrintMore
set_option linter.unusedVariables false

theorem Same32_l0 {a : List Int} (hl : a.length ≤ 1000) (d : Nat) : ∀ (k : Nat) (i : Int), 0 ≤ i → i ≤ a.length → (a.length : Int) - i = d → d < k → psalteryref08_Same32.l0 k a a i = some true := by
  induction d with
  | zero =>
    intro k i i0 i1 hd hk
    obtain ⟨k, rfl⟩ : ∃ m, k = m + 1 := ⟨k - 1, by omega⟩
    simp only [psalteryref08_Same32.l0]
    rw [if_neg (by omega)]
  | succ d ih =>
    intro k i i0 i1 hd hk
    obtain ⟨k, rfl⟩ : ∃ m, k = m + 1 := ⟨k - 1, by omega⟩
    simp only [psalteryref08_Same32.l0]
    rw [if_pos (by omega), if_pos i0, if_pos (by omega), if_true, w64 (by omega) (by omega)]
    exact ih k (i + 1) (by omega) (by omega) (by omega) (by omega)
theorem Same32_eq {a : List Int} (hl : a.length ≤ 1000) {k : Nat} (hk : a.length < k) : psalteryref08_Same32.f k a a = some true := by
  unfold psalteryref08_Same32.f
  rw [if_pos rfl]
  exact Same32_l0 hl a.length k 0 (by decide) (by omega) (by omega) hk
theorem GainRestores : psalterylaw19_GainRestores.Pure := by
  intro q g rests noise lines _ _ _ _ _ _ _ _ _
  refine ⟨1001, ?_⟩
  have out : psalterylaw19_GainRestores.j0 1001 q g rests noise lines true = some true := by simp only [psalterylaw19_GainRestores.j0, if_true]
  unfold psalterylaw19_GainRestores.f
  rw [alive_eq (by decide)]; simp only [Option.bind_some, if_true]
  unfold psalterylaw19_far.f
  rw [if_neg (by decide)]; simp only [Option.bind_some]
  by_cases c1 : (q.length : Int) > 300
  · rw [decide_eq_true c1, if_pos rfl]; exact out
  · rw [decide_eq_false c1, if_neg Bool.false_ne_true]
    by_cases c2 : (rests.length : Int) > 300
    · rw [decide_eq_true c2]; exact out
    · rw [decide_eq_false c2]
      simp only [psalterylaw19_GainRestores.j0, Bool.false_eq_true, if_false]
      obtain ⟨r, e, h1, h2, h3, _⟩ := restore_eq (q := q) (rests := rests) (by omega) g noise lines
      rw [h1, h2]; simp only [Option.bind_some, if_true]
      rw [Same32_eq (by omega) (by omega)]; rfl

end Go.Proofs.Ytfipchhpnnjkeaa.Pure
