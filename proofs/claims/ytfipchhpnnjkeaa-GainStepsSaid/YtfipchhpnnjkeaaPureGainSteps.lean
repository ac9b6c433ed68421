/- The plain statement of the law GainSteps: the step of any gain, and any lines in its steps, are those of the reference. No condition. -/
import Derived.Test.YtfipchhpnnjkeaaGainLib
namespace Go.Proofs.Ytfipchhpnnjkeaa.Pure
open Go.RowKit Go.Proofs.Ytfipchhpnnjkeaa.PGain Go.Proofs.Ytfipchhpnnjkeaa.Num Go.Proofs.Ytfipchhpnnjkeaa.FixBaseGain Go.Proofs.Ytfipchhpnnjkeaa.LogsBaseGain Go.Proofs.Ytfipchhpnnjkeaa.RefLogsGain Go.Proofs.Ytfipchhpnnjkeaa.GainLib Go.Proofs.YtfipchhpnnjkeaaW.PrintWords Go.Proofs.YtfipchhpnnjkeaaW.PrintLast Go.Proofs.YtfipchhpnnjkeaaW.PrintMore
set_option linter.unusedVariables false

theorem GainSteps : psalterylaw19_GainSteps.Pure := by
  intro x g _ _ hx hg
  have hx : Lines x := fun y hy => i32_of (hx y hy)
  refine ⟨401, ?_⟩
  unfold psalterylaw19_GainSteps.f
  rw [alive_eq (by decide)]; simp only [Option.bind_some, if_true]
  rw [far_nil]; simp only [Option.bind_some]
  by_cases hf : x.length > 300
  · rw [decide_eq_true hf, if_pos rfl]
  · rw [decide_eq_false hf, if_neg Bool.false_ne_true, Step_eq g (by decide), rStep_eq g (by decide)]
    simp only [Option.bind_some]
    unfold stepV
    by_cases hg2 : 0 ≤ g ∧ g ≤ 240
    · have r := step_range hg2.1 hg2.2
      rw [if_pos hg2, if_pos hg2, w64 (by omega) (by omega)]
      simp only [if_true]
      have e : (((0 : Int) == 0) != decide (expV (32 * g) > 0)) = false := by rw [decide_eq_true (show expV (32 * g) > 0 by omega)]; rfl
      rcases Quantise_eq hx g (k := 401) (by decide) with ⟨a, b⟩ | ⟨_, a, _⟩ | ⟨a, _, q, hq, hm⟩
      · rw [b]; simp only [Option.bind_some, e, Bool.false_eq_true, if_false]
        rw [if_neg (by omega)]; simp only [psalterylaw19_GainSteps.j0, Bool.false_eq_true, if_false]
        rw [if_pos (by omega)]; rfl
      · exact absurd hg2 a
      · rw [hq]; simp only [Option.bind_some, e, Bool.false_eq_true, if_false]
        rw [if_neg (by omega)]; simp only [psalterylaw19_GainSteps.j0, Bool.false_eq_true, if_false, if_true]
        obtain ⟨p, hp, hn⟩ := rQuantise_eq hx a hg2.1 hg2.2 (k := 400) (by decide)
        obtain rfl := hm.unique hn
        have hl := hm.1
        rw [if_neg (by omega), if_neg (by omega), hp]; simp only [Option.bind_some]
        rw [Same_eq (by omega) (by omega)]; rfl
    · rw [if_neg hg2, if_neg hg2]
      rcases Quantise_eq hx g (k := 401) (by decide) with ⟨a, b⟩ | ⟨a, _, b⟩ | ⟨_, a, _⟩
      · rw [b]; simp only [Option.bind_some]
        rw [if_pos (by decide +kernel), if_neg (by decide), if_pos trivial]; simp only [psalterylaw19_GainSteps.j0]
        rw [show ((1 : Int) != 1) = false from rfl, if_neg Bool.false_ne_true, if_pos (by omega)]; rfl
      · rw [b]; simp only [Option.bind_some]
        rw [if_pos (by decide +kernel), if_neg (by decide), if_pos trivial]; simp only [psalterylaw19_GainSteps.j0]
        rw [show ((1 : Int) != 1) = false from rfl, if_neg Bool.false_ne_true, if_neg (by omega)]; rfl
      · exact absurd a hg2

end Go.Proofs.Ytfipchhpnnjkeaa.Pure
