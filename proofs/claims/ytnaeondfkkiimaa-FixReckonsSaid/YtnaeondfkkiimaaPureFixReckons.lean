/- The plain statement of the law FixReckons: sums, differences, products and doublings are those of the reference. No condition. -/
import Derived.Test.YtnaeondfkkiimaaFixLib
namespace Go.Proofs.Ytnaeondfkkiimaa.Pure
open Go.RowKit Go.Proofs.Ytnaeondfkkiimaa.PFix Go.Proofs.Ytnaeondfkkiimaa.Num Go.Proofs.Ytnaeondfkkiimaa.FixLib Go.Proofs.YtnaeondfkkiimaaW.PrintWords Go.Proofs.YtnaeondfkkiimaaW.PrintLast Go.Proofs.YtnaeondfkkiimaaW.PrintMore
set_option linter.unusedVariables false

theorem FixReckons : psalterylaw01_FixReckons.Pure := by
  intro a b c ha hb hc
  have ha := i32_of ha
  have hb := i32_of hb
  have hc := i16_of hc
  refine ⟨40, ?_⟩
  unfold psalterylaw01_FixReckons.f
  have s1 := sat32_range (a + b)
  have s2 := sat32_range (a - b)
  obtain ⟨r, hr, hs⟩ := Spare_eq (a := a) (by omega) (by omega)
  obtain ⟨q, hq, ht⟩ := rSpare_eq (a := a) (by omega) (by omega) (k := 40) (by decide)
  obtain rfl := hs.unique ht
  rw [alive_eq]; simp only [Option.bind_some, if_true]
  rw [w64 (a := a) (by omega) (by omega), w64 (a := b) (by omega) (by omega), w64 (a := c) (by omega) (by omega), w64 (a := a + b) (by omega) (by omega), w64 (a := a - b) (by omega) (by omega)]
  rw [Add_eq (by omega) (by omega) (by omega) (by omega), rSat32_eq]; simp only [Option.bind_some]
  rw [w64 (by omega) (by omega), if_pos rfl]
  rw [Sub_eq (by omega) (by omega) (by omega) (by omega), rSat32_eq]; simp only [Option.bind_some]
  rw [w64 (by omega) (by omega), if_pos rfl]
  rw [Mul15_eq (by omega) (by omega) (by omega) (by omega), rMul_eq 15 (by omega) (by omega) (by omega) (by omega)]; simp only [Option.bind_some]
  simp only [if_true]
  rw [Mul31_eq (by omega) (by omega) (by omega) (by omega), rMul_eq 31 (by omega) (by omega) (by omega) (by omega)]; simp only [Option.bind_some, if_true]
  rw [hr, hq]
  simp

end Go.Proofs.Ytnaeondfkkiimaa.Pure
