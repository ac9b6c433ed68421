/- The plain statement of the law QuantLevels: scales, numbers in a few bits and what these are: as the reference tells them. No condition. -/
import Derived.Test.YtnaeondfkkiimaaQuantLib
namespace Go.Proofs.Ytnaeondfkkiimaa.Pure
open Go.RowKit Go.Proofs.Ytnaeondfkkiimaa.PQuant Go.Proofs.Ytnaeondfkkiimaa.Num Go.Proofs.Ytnaeondfkkiimaa.QuantLib Go.Proofs.YtnaeondfkkiimaaW.PrintWords Go.Proofs.YtnaeondfkkiimaaW.PrintLast Go.Proofs.YtnaeondfkkiimaaW.PrintMore

theorem QuantLevels : psalterylaw13_QuantLevels.Pure := by
  intro m x q s b _ hx hq _ _
  have hx := i32_of hx
  have hq := i64_of hq
  refine ⟨50, ?_⟩
  unfold psalterylaw13_QuantLevels.f
  obtain ⟨r, h1, h2, _⟩ := Scale_eq m (k := 50) (by decide)
  rw [alive_eq (by decide), Quant_eq hx.1 hx.2, rQuant_eq hx.1 hx.2 (by decide), Level_eq hq.1 hq.2 (by decide), rLevel_eq hq.1 hq.2 (by decide), h1, h2]
  simp only [Option.bind_some, if_true, beq_self_eq_true]

end Go.Proofs.Ytnaeondfkkiimaa.Pure
