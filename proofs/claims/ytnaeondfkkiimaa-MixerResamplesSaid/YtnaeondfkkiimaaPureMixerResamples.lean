/- The plain statement of the law MixerResamples: any list at any other rate is the reference's. No condition. -/
import Derived.Test.YtnaeondfkkiimaaMixLib
namespace Go.Proofs.Ytnaeondfkkiimaa.Pure
open Go.RowKit Go.Proofs.Ytnaeondfkkiimaa.PMixer Go.Proofs.Ytnaeondfkkiimaa.Num Go.Proofs.Ytnaeondfkkiimaa.MixLib Go.Proofs.Ytnaeondfkkiimaa.SameLibMixer Go.Proofs.YtnaeondfkkiimaaW.PrintWords Go.Proofs.YtnaeondfkkiimaaW.PrintLast Go.Proofs.YtnaeondfkkiimaaW.PrintMore
theorem MixerResamples : psalterylaw33_MixerResamples.Pure := by
  intro l up down _ _ hl _ _
  have s := Sams.of hl
  refine ⟨17301600, ?_⟩
  unfold psalterylaw33_MixerResamples.f
  rw [alive_eq (by decide)]; simp only [Option.bind_some, if_true]
  have main : psalterylaw33_MixerResamples.j0 17301600 l up down false = some true := by
    simp only [psalterylaw33_MixerResamples.j0]
    rw [if_neg Bool.false_ne_true]
    obtain ⟨r, e, hr, ho⟩ := Resample_eq (up := up) (down := down) (k := 17301599) s (by decide) (fun a b c d => by have := (resL_le a b c d).2.1; omega)
    obtain ⟨r2, e2, hr2, ho2⟩ := rResample_eq (up := up) (down := down) (k := 17301599) s (by decide) (fun a b c d => by have := (resL_le a b c d).2.1; omega)
    obtain ⟨rfl, rfl⟩ := ho.unique ho2
    rw [hr, hr2]; simp only [Option.bind_some]
    have hlen : r.length ≤ 262144 := by
      unfold ResOk at ho
      split at ho
      · rw [ho.1]; simp
      · split at ho
        · rw [ho.1]; simp
        · have := (resL_le (l := l) (up := up) (down := down) (by omega) (by omega) (by omega) (by omega)).2.1
          rw [ho.2.1]; exact this
    rw [if_pos trivial, Same_eq (by omega) (by omega)]; simp only [Option.bind_some]
  by_cases c : (l.length : Int) > 500
  · rw [if_pos c]
    by_cases c2 : (l.length : Int) ≤ 4096
    · rw [decide_eq_true c2]; simp only [psalterylaw33_MixerResamples.j0]; rw [if_pos trivial]
    · rw [decide_eq_false c2]; exact main
  · rw [if_neg c]; exact main
end Go.Proofs.Ytnaeondfkkiimaa.Pure
