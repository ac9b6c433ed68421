/- The plain statement of the law TunerParts: how much of a wave is in samples, and which wave is strongest, are those of the reference. No condition. -/
import Derived.Test.YtiiebkfeodmefaaDoorTunerSum
namespace Go.Proofs.YtiiebkfeodmefaaDoor.Pure
open Go.RowKit Go.Proofs.YtiiebkfeodmefaaDoor.PTuner Go.Proofs.YtiiebkfeodmefaaDoor.Num Go.Proofs.YtiiebkfeodmefaaDoor.TunerLib Go.Proofs.YtiiebkfeodmefaaDoor.TunerSum Go.Proofs.YtiiebkfeodmefaaDoorW.PrintWords Go.Proofs.YtiiebkfeodmefaaDoorW.PrintLast Go.Proofs.YtiiebkfeodmefaaDoorW.PrintMore
theorem may_no {x : List Int} {num den : Int} (h : ¬ ((x.length : Int) ≤ 4096 ∧ 1 ≤ den ∧ den ≤ 4096 ∧ 0 ≤ num ∧ num ≤ den)) : ∃ e, tuner_may.f x num den = some e ∧ e ≠ 0 := by
  unfold tuner_may.f
  by_cases c1 : (x.length : Int) > 4096
  · exact ⟨2, by rw [if_pos c1], by decide⟩
  · rw [if_neg c1]
    by_cases c2 : den < 1
    · exact ⟨1, by rw [if_pos c2], by decide⟩
    · rw [if_neg c2]
      by_cases c3 : den > 4096
      · exact ⟨1, by rw [if_pos c3], by decide⟩
      · rw [if_neg c3]
        by_cases c4 : num < 0
        · exact ⟨1, by rw [if_pos c4], by decide⟩
        · rw [if_neg c4]
          by_cases c5 : num > den
          · exact ⟨1, by rw [if_pos c5], by decide⟩
          · exact absurd ⟨by omega, by omega, by omega, by omega, by omega⟩ h
theorem Parts_j2 {x : List Int} (hx : ∀ a ∈ x, -32768 ≤ a ∧ a ≤ 32767) (den : Int) (k : Nat) (hk : 10000 ≤ k) : psalterylaw37_TunerParts.j2 (k + 1) x den = some true := by
  simp only [psalterylaw37_TunerParts.j2]
  by_cases c : (x.length : Int) ≤ 4096 ∧ 1 ≤ den ∧ den ≤ 4096 ∧ (0 : Int) ≤ 0 ∧ 0 ≤ den
  · obtain ⟨c1, c2, c3, _, _⟩ := c
    obtain ⟨r, h1, h2⟩ := Strongest_eq hx (by omega) c2 c3 hk
    rw [h1, ← may_eq, may_ok (by omega) (by decide) (by omega) c2 c3, h2]
    simp
  · obtain ⟨e, he, hne⟩ := may_no c
    unfold tuner_Strongest.f
    rw [← may_eq, he]
    simp only [Option.bind_some]
    rw [if_neg hne]
    simp [hne]
theorem Parts_j0 {x : List Int} (hx : ∀ a ∈ x, -32768 ≤ a ∧ a ≤ 32767) (num den : Int) (k : Nat) (hk : 10001 ≤ k) : psalterylaw37_TunerParts.j0 (k + 1 + 1) x num den false = some true := by
  obtain ⟨k, rfl⟩ : ∃ n, k = n + 1 := ⟨k - 1, by omega⟩
  have h2 := Parts_j2 hx den k (by omega)
  simp only [psalterylaw37_TunerParts.j0]
  rw [if_neg (by decide)]
  by_cases c : (x.length : Int) ≤ 4096 ∧ 1 ≤ den ∧ den ≤ 4096 ∧ 0 ≤ num ∧ num ≤ den
  · obtain ⟨c1, c2, c3, c4, c5⟩ := c
    rw [Parts_eq hx (by omega) c4 c5 c2 c3 (by omega), Power_eq hx (by omega) c4 c5 c2 c3 (by omega), ← may_eq, may_ok (by omega) c4 c5 c2 c3]
    simp only [Option.bind_some]
    rw [if_pos trivial]
    simp only [psalterylaw37_TunerParts.j1]
    rw [if_neg (by decide), if_pos trivial, rParts_eq hx (by omega) c4 c5 c2 c3 (by omega), rPower_eq hx (by omega) c4 c5 c2 c3 (by omega)]
    simp only [Option.bind_some]
    rw [if_pos trivial, if_pos trivial, if_pos trivial]
    exact h2
  · obtain ⟨e, he, hne⟩ := may_no c
    unfold tuner_Power.f tuner_Parts.f
    rw [← may_eq, he]
    simp only [Option.bind_some]
    rw [if_neg hne]
    simp only [Option.bind_some]
    rw [if_pos trivial]
    simp only [psalterylaw37_TunerParts.j1]
    rw [if_neg (by simp), if_neg hne, if_pos trivial, if_pos trivial, if_pos (by decide +kernel)]
    exact h2
theorem TunerParts_all (x : List Int) (num den : Int) (hx0 : ∀ a ∈ x, (Lit.int .i16 a).wf = true) : ∃ k, psalterylaw37_TunerParts.f k x num den = some true := by
  have hx : ∀ a ∈ x, -32768 ≤ a ∧ a ≤ 32767 := fun a h => i16_of (hx0 a h)
  refine ⟨20000 + 1 + 1, ?_⟩
  have hf := Parts_j0 hx num den 20000 (by decide)
  have ht : psalterylaw37_TunerParts.j0 (20000 + 1 + 1) x num den true = some true := by
    simp only [psalterylaw37_TunerParts.j0]; rw [if_pos trivial]
  have hb : ∀ b, psalterylaw37_TunerParts.j0 (20000 + 1 + 1) x num den b = some true := fun b => by cases b; exact hf; exact ht
  unfold psalterylaw37_TunerParts.f
  rw [alive_eq, Option.bind_some, if_pos rfl]
  repeat' split
  all_goals exact hb _
end Go.Proofs.YtiiebkfeodmefaaDoor.Pure
