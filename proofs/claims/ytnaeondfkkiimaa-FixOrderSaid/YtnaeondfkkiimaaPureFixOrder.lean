/- The plain statement of the law FixOrder: of a greater number no less is rounded, saturated or clipped; what lies within its ends stays. No condition. -/
import Derived.Test.YtnaeondfkkiimaaFixLib
namespace Go.Proofs.Ytnaeondfkkiimaa.Pure
open Go.RowKit Go.Proofs.Ytnaeondfkkiimaa.PFix Go.Proofs.Ytnaeondfkkiimaa.Num Go.Proofs.Ytnaeondfkkiimaa.FixLib Go.Proofs.YtnaeondfkkiimaaW.PrintWords Go.Proofs.YtnaeondfkkiimaaW.PrintLast Go.Proofs.YtnaeondfkkiimaaW.PrintMore
set_option linter.unusedVariables false

theorem Order_tail {a : Int} : (if a < (-32768) then (some true) else (if a > 32767 then (some true) else ((fix_Sat16.f a).bind fun t => (some ((wrap64 (t)) == a))))) = some true := by
  by_cases g1 : a < -32768
  · rw [if_pos g1]
  · rw [if_neg g1]
    by_cases g2 : a > 32767
    · rw [if_pos g2]
    · rw [if_neg g2, Sat16_eq, sat16_self (by omega) (by omega)]; simp only [Option.bind_some]
      rw [w64 (by omega) (by omega)]; simp
theorem Order_j1 (k : Nat) {a b lo hi : Int} (h : a ≤ b) : psalterylaw01_FixOrder.j1 (k + 1) a b lo hi false = some true := by
  simp only [psalterylaw01_FixOrder.j1]
  rw [if_neg (by decide), Clip_eq, Clip_eq]; simp only [Option.bind_some, Order_tail]
  by_cases g : lo ≤ hi
  · have r := clip_range (n := a) g
    have m := clip_mono h g
    have s := @clip_self a lo hi
    rw [if_pos g, if_neg (by omega), if_neg (by omega), if_neg (by omega)]
    split
    · rfl
    · split
      · rfl
      · rw [if_pos (s (by omega) (by omega))]
  · rw [if_neg g]
    split
    · rfl
    · split
      · rfl
      · rw [if_pos (by unfold clip; rw [if_neg (by omega), if_neg (by omega)])]
theorem Order_j0 (k : Nat) {a b s lo hi : Int} (h : a ≤ b) (h1 : -9223372036854775808 ≤ a) (h2 : b ≤ 9223372036854775807) : psalterylaw01_FixOrder.j0 (k + 2) a b s lo hi = some true := by
  simp only [psalterylaw01_FixOrder.j0]
  have m1 := rnd_mono (s := s) h
  have m2 := sat16_mono h
  have m3 := sat32_mono h
  rw [Round_eq s (by omega) (by omega), Round_eq s (by omega) (by omega)]; simp only [Option.bind_some]
  rw [if_neg (by omega), Sat16_eq, Sat16_eq]; simp only [Option.bind_some]
  rw [if_neg (by omega), Sat32_eq, Sat32_eq]; simp only [Option.bind_some]
  rw [decide_eq_false (by omega)]
  exact Order_j1 k h
theorem FixOrder : psalterylaw01_FixOrder.Pure := by
  intro a b s lo hi ha hb hs hlo hhi
  have ha := i64_of ha
  have hb := i64_of hb
  refine ⟨2, ?_⟩
  unfold psalterylaw01_FixOrder.f
  rw [alive_eq]; simp only [Option.bind_some, if_true]
  by_cases g : a > b
  · rw [if_pos g]; exact Order_j0 0 (by omega) hb.1 ha.2
  · rw [if_neg g]; exact Order_j0 0 (by omega) ha.1 hb.2

end Go.Proofs.Ytnaeondfkkiimaa.Pure
