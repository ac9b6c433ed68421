/- The plain statement of the law MeterDelays: how late any list is behind another one is what the reference tells. No condition. -/
import Derived.Test.YtfipchhpnnjkeaaMeterStill
namespace Go.Proofs.Ytfipchhpnnjkeaa.Pure
open Go.RowKit Go.Proofs.Ytfipchhpnnjkeaa.PMeter Go.Proofs.Ytfipchhpnnjkeaa.Num Go.Proofs.Ytfipchhpnnjkeaa.MeterLib Go.Proofs.Ytfipchhpnnjkeaa.MeterStill Go.Proofs.YtfipchhpnnjkeaaW.PrintWords Go.Proofs.YtfipchhpnnjkeaaW.PrintLast Go.Proofs.YtfipchhpnnjkeaaW.PrintMore
set_option linter.unusedVariables false

theorem Delays_j0 {a b : List Int} (ha : Sams a) (hb : Sams b) {most : Int} (h : a.length > 4096 ∨ b.length > 4096 ∨ (a.length ≤ 200 ∧ b.length ≤ 200 ∧ (most ≤ 200 ∨ most > 4096))) {k : Nat} (hk : 10000 ≤ k) :
    psalterylaw31_MeterDelays.j0 k a b most false = some true := by
  obtain ⟨k, rfl⟩ : ∃ m, k = m + 1 := ⟨k - 1, by omega⟩
  simp only [psalterylaw31_MeterDelays.j0, Bool.false_eq_true, if_false]
  rw [Delay_eq ha hb (.inl (by omega)) (fun _ _ => by omega), rDelay_eq ha hb (by omega) (fun _ _ => by omega)]
  simp only [Option.bind_some, if_true, beq_self_eq_true]
theorem MeterDelays : psalterylaw31_MeterDelays.Pure := by
  intro a b most _ _ ha _ _ hb _
  have ha : Sams a := fun x hx => i16_of (ha x hx)
  have hb : Sams b := fun x hx => i16_of (hb x hx)
  refine ⟨10001, ?_⟩
  have out : psalterylaw31_MeterDelays.j0 10001 a b most true = some true := by
    generalize hk : 10001 = k
    obtain ⟨k, rfl⟩ : ∃ m, k = m + 1 := ⟨k - 1, by omega⟩
    simp only [psalterylaw31_MeterDelays.j0, if_true]
  unfold psalterylaw31_MeterDelays.f
  rw [alive_eq (by omega)]; simp only [Option.bind_some, if_true]
  by_cases c1 : (a.length : Int) ≤ 4096
  · rw [if_pos c1]
    by_cases c2 : (b.length : Int) ≤ 4096
    · rw [if_pos c2]
      by_cases c3 : (a.length : Int) > 200
      · rw [if_pos c3]; exact out
      · rw [if_neg c3]
        by_cases c4 : (b.length : Int) > 200
        · rw [if_pos c4]; exact out
        · rw [if_neg c4]
          by_cases c5 : most > 200
          · rw [if_pos c5]
            by_cases c6 : most ≤ 4096
            · rw [decide_eq_true c6]; exact out
            · rw [decide_eq_false c6]; exact Delays_j0 ha hb (by omega) (by omega)
          · rw [if_neg c5]; exact Delays_j0 ha hb (by omega) (by omega)
    · rw [if_neg c2]; exact Delays_j0 ha hb (by omega) (by omega)
  · rw [if_neg c1]; exact Delays_j0 ha hb (by omega) (by omega)

end Go.Proofs.Ytfipchhpnnjkeaa.Pure
