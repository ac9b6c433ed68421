/- The plain statement of the law MeterTells: how loud, how near, what is cut, where it is still: as the reference tells it. No condition. -/
import Derived.Test.YtfipchhpnnjkeaaMeterStill
namespace Go.Proofs.Ytfipchhpnnjkeaa.Pure
open Go.RowKit Go.Proofs.Ytfipchhpnnjkeaa.PMeter Go.Proofs.Ytfipchhpnnjkeaa.Num Go.Proofs.Ytfipchhpnnjkeaa.MeterLib Go.Proofs.Ytfipchhpnnjkeaa.MeterStill Go.Proofs.YtfipchhpnnjkeaaW.PrintWords Go.Proofs.YtfipchhpnnjkeaaW.PrintLast Go.Proofs.YtfipchhpnnjkeaaW.PrintMore
set_option linter.unusedVariables false

theorem Tells_l0 {a b : List Int} (ha : Sams a) (hb : Sams b) (hl : a.length ≤ 1000) (d : Nat) : ∀ (k : Nat) (i : Nat), i ≤ a.length → a.length - i = d → d + 2200 < k → psalterylaw31_MeterTells.l0 k a b (cutN a i) (i : Int) = some true := by
  induction d with
  | zero =>
    intro k i i1 hd hk
    obtain ⟨k, rfl⟩ : ∃ m, k = m + 1 := ⟨k - 1, by omega⟩
    obtain rfl : i = a.length := by omega
    obtain ⟨p, n, h1, h2⟩ := Still_eq (l := a) (by omega) (k := k) (by omega)
    obtain ⟨q, m, h3, h4⟩ := rStill_eq (l := a) (by omega) (k := k) (by omega)
    obtain ⟨rfl, rfl⟩ := h2.unique h4
    obtain ⟨r, h5, h6⟩ := Error_eq ha hb (.inl (by omega)) (k := k) (.inl (by omega))
    obtain ⟨s, h7, h8⟩ := rError_eq ha hb (.inl (by omega)) (k := k) (.inl (by omega))
    obtain rfl := h6.unique h8
    obtain ⟨t, h9, h10⟩ := Ratio_eq ha hb (.inl (by omega)) (k := k) (by omega) (.inl (by omega))
    obtain ⟨u, h11, h12⟩ := rRatio_eq ha hb (.inl (by omega)) (k := k) (by omega) (.inl (by omega))
    obtain rfl := h10.unique h12
    have hr := h6.1
    simp only [psalterylaw31_MeterTells.l0]
    rw [if_neg (by omega), h1, h3, Level_eq ha (by omega) (by omega) (by omega), rLevel_eq ha (by omega) (by omega) (by omega)]
    simp only [Option.bind_some, if_true]
    rw [h5, h7]; simp only [Option.bind_some]
    rw [Same_eq (by omega) (by omega)]; simp only [Option.bind_some, if_true]
    rw [h9, h11]; simp only [Option.bind_some, if_true]
    rw [Clipped_eq (by omega) (by omega)]; simp only [Option.bind_some, if_true, beq_self_eq_true]
  | succ d ih =>
    intro k i i1 hd hk
    obtain ⟨k, rfl⟩ : ∃ m, k = m + 1 := ⟨k - 1, by omega⟩
    have next := ih k (i + 1) (by omega) (by omega) (by omega)
    have c := cutN_range a i
    simp only [cutN] at next
    simp only [psalterylaw31_MeterTells.l0]
    rw [if_pos (by omega), if_pos (by omega), w64 (a := (i : Int) + 1) (by omega) (by omega), w64 (a := cutN a i + 1) (by omega) (by omega)]
    rw [show (((i + 1 : Nat)) : Int) = (i : Int) + 1 by omega] at next
    by_cases g1 : rd a i = 32767
    · rw [if_pos g1]; rw [if_pos (.inl g1)] at next; exact next
    · rw [if_neg g1]
      by_cases g2 : rd a i = -32768
      · rw [if_pos g2]; rw [if_pos (.inr g2)] at next; exact next
      · rw [if_neg g2]; rw [if_neg (by omega)] at next; exact next
theorem MeterTells : psalterylaw31_MeterTells.Pure := by
  intro a b _ _ ha _ _ hb
  have ha : Sams a := fun x hx => i16_of (ha x hx)
  have hb : Sams b := fun x hx => i16_of (hb x hx)
  refine ⟨4001, ?_⟩
  generalize hk : 4001 = k
  unfold psalterylaw31_MeterTells.f
  rw [alive_eq (by omega)]; simp only [Option.bind_some, if_true]
  obtain ⟨k, rfl⟩ : ∃ m, k = m + 1 := ⟨k - 1, by omega⟩
  simp only [psalterylaw31_MeterTells.j0, if_true]
  by_cases c1 : (a.length : Int) > 1000
  · rw [if_pos c1]
  · rw [if_neg c1]
    by_cases c2 : (b.length : Int) > 1000
    · rw [decide_eq_true c2, if_pos rfl]
    · rw [decide_eq_false c2, if_neg Bool.false_ne_true]
      exact Tells_l0 ha hb (by omega) a.length k 0 (by omega) (by omega) (by omega)

end Go.Proofs.Ytfipchhpnnjkeaa.Pure
