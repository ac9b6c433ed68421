/- The plain statement of the law LogsReckon: roots, bits and logs of any number are those of the reference. No condition. -/
import Derived.Test.YtfipchhpnnjkeaaLogsLib
namespace Go.Proofs.Ytfipchhpnnjkeaa.Pure
open Go.RowKit Go.Proofs.Ytfipchhpnnjkeaa.PLogs Go.Proofs.Ytfipchhpnnjkeaa.Num Go.Proofs.Ytfipchhpnnjkeaa.FixBaseLogs Go.Proofs.Ytfipchhpnnjkeaa.LogsBaseLogs Go.Proofs.Ytfipchhpnnjkeaa.LogsLib Go.Proofs.YtfipchhpnnjkeaaW.PrintWords Go.Proofs.YtfipchhpnnjkeaaW.PrintLast Go.Proofs.YtfipchhpnnjkeaaW.PrintMore
set_option linter.unusedVariables false

theorem LogsReckon : psalterylaw02_LogsReckon.Pure := by
  intro n hn
  have hn := u64_of hn
  refine ⟨100, ?_⟩
  unfold psalterylaw02_LogsReckon.f
  obtain ⟨q, hq, hr, _⟩ := Root_eq (k := 100) hn.1 hn.2 (by decide)
  obtain ⟨p, hp, hs⟩ := rRoot_eq (k := 100) hn.1 hn.2 (by decide)
  have e : q = p := hr.unique hs
  subst e
  rw [alive_eq (by decide), Log_eq hn.1 hn.2 (by decide), rLog_eq hn.1 hn.2 (by decide), hq, hp, Bits_eq hn.1 hn.2 (by decide), rBits_eq hn.1 hn.2 (by decide)]
  simp only [Option.bind_some, if_true, beq_self_eq_true]

end Go.Proofs.Ytfipchhpnnjkeaa.Pure
