/- The plain statement of the law LogsPower: powers of two in 256th parts are those of the reference. No condition. -/
import Derived.Test.YtfipchhpnnjkeaaLogsLib
namespace Go.Proofs.Ytfipchhpnnjkeaa.Pure
open Go.RowKit Go.Proofs.Ytfipchhpnnjkeaa.PLogs Go.Proofs.Ytfipchhpnnjkeaa.Num Go.Proofs.Ytfipchhpnnjkeaa.FixBaseLogs Go.Proofs.Ytfipchhpnnjkeaa.LogsBaseLogs Go.Proofs.Ytfipchhpnnjkeaa.LogsLib Go.Proofs.YtfipchhpnnjkeaaW.PrintWords Go.Proofs.YtfipchhpnnjkeaaW.PrintLast Go.Proofs.YtfipchhpnnjkeaaW.PrintMore
set_option linter.unusedVariables false

theorem LogsPower : psalterylaw02_LogsPower.Pure := by
  intro q _
  refine ⟨100, ?_⟩
  unfold psalterylaw02_LogsPower.f
  rw [alive_eq (by decide), Exp_eq q (by decide), rExp_eq q (by decide)]
  simp only [Option.bind_some, if_true, beq_self_eq_true]

end Go.Proofs.Ytfipchhpnnjkeaa.Pure
