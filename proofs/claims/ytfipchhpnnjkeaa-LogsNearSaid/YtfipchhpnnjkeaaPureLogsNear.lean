/- The plain statement of the law LogsNear: the log of a power is at most two parts off, where the power has sixteen bits or more. No condition. -/
import Derived.Test.YtfipchhpnnjkeaaLogsLib
import Derived.Test.YtfipchhpnnjkeaaLogsCertLogs
namespace Go.Proofs.Ytfipchhpnnjkeaa.Pure
open Go.RowKit Go.Proofs.Ytfipchhpnnjkeaa.PLogs Go.Proofs.Ytfipchhpnnjkeaa.Num Go.Proofs.Ytfipchhpnnjkeaa.FixBaseLogs Go.Proofs.Ytfipchhpnnjkeaa.LogsBaseLogs Go.Proofs.Ytfipchhpnnjkeaa.LogsLib Go.Proofs.YtfipchhpnnjkeaaW.PrintWords Go.Proofs.YtfipchhpnnjkeaaW.PrintLast Go.Proofs.YtfipchhpnnjkeaaW.PrintMore
set_option linter.unusedVariables false

open Go.Proofs.Ytfipchhpnnjkeaa.LogsCertLogs
theorem LogsNear : psalterylaw02_LogsNear.Pure := by
  intro q _
  refine ⟨100, ?_⟩
  unfold psalterylaw02_LogsNear.f
  rw [alive_eq (by decide), Exp_eq q (by decide)]
  simp only [Option.bind_some, if_true]
  by_cases h : -4096 ≤ q ∧ q ≤ 7680
  · rw [if_pos h]
    have r := expV_range h.1 h.2
    simp only [if_true]
    by_cases g : expV q < 65536
    · rw [if_pos g]
    · have n := exp_near h.1 h.2 (by omega)
      have v := logV_range (n := expV q) (by omega) (by omega)
      rw [if_neg g, Log_eq r.1 (by omega) (by decide), if_neg (by omega)]
      simp only [Option.bind_some, if_true]
      rw [w32 (a := logV (expV q) - 4096) (by omega) (by omega), w32 (by omega) (by omega), if_pos (by omega), decide_eq_true n.1]
  · rw [if_neg h, if_neg (by decide)]

end Go.Proofs.Ytfipchhpnnjkeaa.Pure
