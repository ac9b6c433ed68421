/- The plain statement of the law WaveSines: sines and cosines of any angle are those of the reference. No condition. -/
import Derived.Test.YtgmgdbcfgbgnlaaWaveLib
namespace Go.Proofs.Ytgmgdbcfgbgnlaa.Pure
open Go.RowKit Go.Proofs.Ytgmgdbcfgbgnlaa.PWave Go.Proofs.Ytgmgdbcfgbgnlaa.Num Go.Proofs.Ytgmgdbcfgbgnlaa.FixBaseWave Go.Proofs.Ytgmgdbcfgbgnlaa.WaveBaseWave Go.Proofs.Ytgmgdbcfgbgnlaa.WaveLib Go.Proofs.YtgmgdbcfgbgnlaaW.PrintWords Go.Proofs.YtgmgdbcfgbgnlaaW.PrintLast Go.Proofs.YtgmgdbcfgbgnlaaW.PrintMore

theorem WaveSines : psalterylaw03_WaveSines.Pure := by
  intro n d _ _
  refine ⟨10, ?_⟩
  unfold psalterylaw03_WaveSines.f
  rw [alive_eq (by decide), Sine_eq (by decide), rSine_eq (by decide), Cosine_eq (by decide), rCosine_eq (by decide)]
  simp only [Option.bind_some, if_true, beq_self_eq_true]

end Go.Proofs.Ytgmgdbcfgbgnlaa.Pure
