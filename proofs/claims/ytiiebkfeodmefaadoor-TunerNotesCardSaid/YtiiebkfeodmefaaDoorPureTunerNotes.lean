/- The plain statement of the law TunerNotes: notes, pitches and names are those of the reference. No condition. -/
import Derived.Test.YtiiebkfeodmefaaDoorTunerLib
namespace Go.Proofs.YtiiebkfeodmefaaDoor.Pure
open Go.RowKit Go.Proofs.YtiiebkfeodmefaaDoor.PTuner Go.Proofs.YtiiebkfeodmefaaDoor.Num Go.Proofs.YtiiebkfeodmefaaDoor.TunerLib Go.Proofs.YtiiebkfeodmefaaDoor.LogsBaseTuner Go.Proofs.YtiiebkfeodmefaaDoor.RefLogsTuner Go.Proofs.YtiiebkfeodmefaaDoorW.PrintWords Go.Proofs.YtiiebkfeodmefaaDoorW.PrintLast Go.Proofs.YtiiebkfeodmefaaDoorW.PrintMore
theorem Notes_j1 {t : Int} (h0 : 0 ≤ t) (h1 : t ≤ 18446744073709551615) (k : Nat) (hk : 200 ≤ k) : psalterylaw37_TunerNotes.j1 (k + 1) t = some true := by
  simp only [psalterylaw37_TunerNotes.j1]
  rw [Note_eq h0 h1]
  unfold psalteryref37_Log.f
  rw [rLog_eq h0 h1 (by omega)]
  simp only [Option.bind_some]
  by_cases c : t = 0
  · rw [if_pos c, if_pos c]
    simp
  · rw [if_neg c, if_neg c]
    have hr := logV_range (show 0 < t by omega) h1
    show (if (0 : Int) = 0 then _ else _) = _
    rw [if_pos rfl]
    show (if (0 : Int) = 0 then _ else _) = _
    rw [if_pos rfl, rNote_eq hr.1 hr.2 (by omega)]
    simp
theorem TunerNotes : psalterylaw37_TunerNotes.Pure := by
  intro n t hn ht
  have h64 := u64_of ht
  refine ⟨300 + 1, ?_⟩
  unfold psalterylaw37_TunerNotes.f
  rw [alive_eq, Option.bind_some, if_pos rfl, Pitch_eq]
  unfold tuner_Name.f
  by_cases c : 0 ≤ n ∧ n ≤ 127
  · rw [if_pos c, if_pos c]
    simp only [Option.bind_some]
    rw [if_neg (by omega)]
    simp only [psalterylaw37_TunerNotes.j0]
    rw [if_neg (by simp; omega), if_pos trivial, if_pos trivial]
    have hp := refPitch_of n.toNat (by omega)
    rw [show ((n.toNat : Nat) : Int) = n from by omega] at hp
    rw [hp]
    simp only [Option.bind_some]
    rw [if_pos trivial]
    unfold psalteryref37_Name.f
    rw [if_pos c]
    simp only [Option.bind_some]
    rw [if_pos trivial]
    exact Notes_j1 h64.1 h64.2 299 (by decide)
  · rw [if_neg c, if_neg c]
    simp only [Option.bind_some]
    have hj : psalterylaw37_TunerNotes.j0 (300 + 1) n t 0 1 (⟨#[]⟩ : ByteArray) 1 true = some true := by
      simp only [psalterylaw37_TunerNotes.j0]
      rw [if_pos trivial, if_pos trivial, if_pos (by decide +kernel), if_pos trivial, if_pos trivial]
      exact Notes_j1 h64.1 h64.2 299 (by decide)
    by_cases c2 : n < 0
    · rw [if_pos c2]; exact hj
    · rw [if_neg c2, show decide (n > 127) = true from by simp; omega]; exact hj
end Go.Proofs.YtiiebkfeodmefaaDoor.Pure
