/- The plain statement of the law QuantNear: a number in a few bits lies within its levels, comes back at most a step away, and is then the same again. No condition. -/
import Derived.Test.YtnaeondfkkiimaaQuantLib
namespace Go.Proofs.Ytnaeondfkkiimaa.Pure
open Go.RowKit Go.Proofs.Ytnaeondfkkiimaa.PQuant Go.Proofs.Ytnaeondfkkiimaa.Num Go.Proofs.Ytnaeondfkkiimaa.QuantLib Go.Proofs.YtnaeondfkkiimaaW.PrintWords Go.Proofs.YtnaeondfkkiimaaW.PrintLast Go.Proofs.YtnaeondfkkiimaaW.PrintMore
set_option linter.unusedVariables false

/-- What a number in a few bits is: c of reach R in L levels gives q; q gives y. -/
theorem near_math {c R L m q e y : Int} (hR : 2 ≤ R) (hL : 3 ≤ L) (c0 : 1 - R ≤ c) (c1 : c ≤ R - 1) (hm : m = c * L / R) (hq : q = (m + L) / 2) (he : e = (2 * q + 1) * R / L) (hy : y = e - R) :
    0 ≤ q ∧ q < L ∧ y - c ≤ 2 * R / L + 1 ∧ -(2 * R / L + 1) ≤ y - c ∧ (L < R → 1 - R ≤ y ∧ y ≤ R - 1 ∧ (y * L / R + L) / 2 = q) := by
  have m1 : m * R ≤ c * L := by rw [hm]; exact Int.ediv_mul_le _ (by omega)
  have m2 : c * L < m * R + R := by
    have := Int.lt_ediv_add_one_mul_self (c * L) (show 0 < R by omega)
    rw [Int.add_mul, Int.one_mul, ← hm] at this; exact this
  have e1 : e * L ≤ (2 * q + 1) * R := by rw [he]; exact Int.ediv_mul_le _ (by omega)
  have e2 : (2 * q + 1) * R < e * L + L := by
    have := Int.lt_ediv_add_one_mul_self ((2 * q + 1) * R) (show 0 < L by omega)
    rw [← he, Int.add_mul e, Int.one_mul L] at this; exact this
  have hc0 : (1 - R) * L ≤ c * L := Int.mul_le_mul_of_nonneg_right c0 (by omega)
  have hc1 : c * L ≤ (R - 1) * L := Int.mul_le_mul_of_nonneg_right c1 (by omega)
  rw [Int.sub_mul, Int.one_mul] at hc0 hc1
  have cm : R * L = L * R := Int.mul_comm _ _
  -- m lies from -L to L - 1
  have ma : -L ≤ m := by
    apply Classical.byContradiction; intro h
    have := Int.mul_le_mul_of_nonneg_right (show m ≤ -L - 1 by omega) (show 0 ≤ R by omega)
    rw [Int.sub_mul, Int.neg_mul, Int.one_mul] at this; omega
  have mb : m ≤ L - 1 := by
    apply Classical.byContradiction; intro h
    have := Int.mul_le_mul_of_nonneg_right (show L ≤ m by omega) (show 0 ≤ R by omega)
    omega
  have q0 : 0 ≤ q := by omega
  have q1 : q < L := by omega
  have hqR : (2 * q + 1) * R = 2 * (q * R) + R := by rw [Int.add_mul, Int.one_mul, Int.mul_assoc]
  have qm : 2 * q ≤ m + L ∧ m + L ≤ 2 * q + 1 := by omega
  have qa : 2 * q * R ≤ (m + L) * R := Int.mul_le_mul_of_nonneg_right qm.1 (by omega)
  have qb : (m + L) * R ≤ (2 * q + 1) * R := Int.mul_le_mul_of_nonneg_right qm.2 (by omega)
  rw [Int.add_mul] at qa qb
  rw [Int.mul_assoc] at qa
  -- the step
  have s1 : 2 * R / L * L ≤ 2 * R := Int.ediv_mul_le _ (by omega)
  have s2 : 2 * R < 2 * R / L * L + L := by
    have := Int.lt_ediv_add_one_mul_self (2 * R) (show 0 < L by omega)
    rw [Int.add_mul, Int.one_mul] at this; exact this
  have yL : y * L = e * L - R * L := by rw [hy, Int.sub_mul]
  have s0 : 0 ≤ 2 * R / L := Int.ediv_nonneg (by omega) (by omega)
  refine ⟨q0, q1, ?_, ?_, ?_⟩
  · apply Classical.byContradiction; intro h
    have := Int.mul_le_mul_of_nonneg_right (show c + (2 * R / L) + 2 ≤ y by omega) (show 0 ≤ L by omega)
    rw [Int.add_mul, Int.add_mul] at this; omega
  · apply Classical.byContradiction; intro h
    have := Int.mul_le_mul_of_nonneg_right (show y ≤ c - (2 * R / L) - 2 by omega) (show 0 ≤ L by omega)
    rw [Int.sub_mul, Int.sub_mul] at this; omega
  · intro hLR
    have y0 : 1 ≤ e := by
      apply Classical.byContradiction; intro h
      have := Int.mul_le_mul_of_nonneg_right (show e ≤ 0 by omega) (show 0 ≤ L by omega)
      have := Int.mul_nonneg q0 (show 0 ≤ R by omega)
      omega
    have y1 : e ≤ 2 * R - 1 := by
      apply Classical.byContradiction; intro h
      have a := Int.mul_le_mul_of_nonneg_right (show 2 * R ≤ e by omega) (show 0 ≤ L by omega)
      have b := Int.mul_le_mul_of_nonneg_right (show q ≤ L - 1 by omega) (show 0 ≤ R by omega)
      rw [Int.sub_mul, Int.one_mul] at b
      rw [Int.mul_assoc] at a
      omega
    refine ⟨by omega, by omega, ?_⟩
    -- y L / R + L = 2 q or 2 q + 1
    have d1 : y * L / R * R ≤ y * L := Int.ediv_mul_le _ (by omega)
    have d2 : y * L < y * L / R * R + R := by
      have := Int.lt_ediv_add_one_mul_self (y * L) (show 0 < R by omega)
      rw [Int.add_mul, Int.one_mul] at this; exact this
    generalize hd : y * L / R = d at *
    have u : d + L ≤ 2 * q + 1 := by
      apply Classical.byContradiction; intro h
      have := Int.mul_le_mul_of_nonneg_right (show 2 * q + 2 ≤ d + L by omega) (show 0 ≤ R by omega)
      rw [Int.add_mul, Int.add_mul, Int.mul_assoc] at this; omega
    have v : 2 * q ≤ d + L := by
      apply Classical.byContradiction; intro h
      have := Int.mul_le_mul_of_nonneg_right (show d + L ≤ 2 * q - 1 by omega) (show 0 ≤ R by omega)
      rw [Int.add_mul, Int.sub_mul, Int.mul_assoc] at this; omega
    omega

theorem QuantNear : psalterylaw13_QuantNear.Pure := by
  intro x s b hx hs hb
  have hx := i32_of hx
  have hs := i64_of hs
  have hb := i64_of hb
  refine ⟨50, ?_⟩
  unfold psalterylaw13_QuantNear.f
  rw [alive_eq (by decide), Quant_eq hx.1 hx.2]
  simp only [Option.bind_some, if_true]
  unfold quant
  by_cases hm : may s b
  · rw [if_pos hm]
    by_cases hb0 : b = 0
    · rw [if_pos hb0]; subst hb0; rfl
    · rw [if_neg hb0]
      obtain ⟨s0, s1, hbb⟩ := hm
      have hb2 : 2 ≤ b ∧ b ≤ 16 := by omega
      have hR := reach_range s0 s1
      have hL := levels_range hb2.1 hb2.2
      have hbf : (b == 0) = false := beq_eq_false_iff_ne.2 hb0
      have hc := clip_range (n := x) (show 1 - reach s ≤ reach s - 1 by omega)
      simp only [if_true, hbf]
      have emn : mn (mx x (1 - reach s)) (reach s - 1) = clip x (1 - reach s) (reach s - 1) := by
        unfold mn mx clip; (repeat' split) <;> omega
      generalize hcc : clip x (1 - reach s) (reach s - 1) = c at *
      obtain ⟨q, hq⟩ : ∃ q, q = (c * levels b / reach s + levels b) / 2 := ⟨_, rfl⟩
      rw [← hq]
      obtain ⟨e, he⟩ : ∃ e, e = (2 * q + 1) * reach s / levels b := ⟨_, rfl⟩
      obtain ⟨n0, n1, n2, n3, n4⟩ := near_math hR.1 hL.1 hc.1 hc.2 rfl hq he rfl
      have hmy : may s b := ⟨s0, s1, .inr hb2⟩
      simp only [psalterylaw13_QuantNear.j0]
      rw [if_neg Bool.false_ne_true, wu64 (a := b) (by omega) (by omega), wu64 (a := s) (by omega) (by omega), if_pos (by omega), if_pos s0, Level_eq (by omega) (by omega) (by decide)]
      have lv : level q s b = (e - reach s, 0) := by
        unfold level; rw [if_pos ⟨hmy, n0, fun h => absurd h hb0, fun _ => n1⟩, if_neg hb0, ← he]
      have lm := level_math s0 s1 hb2.1 hb2.2 n0 n1
      rw [← he] at lm
      rw [lv]; simp only [Option.bind_some]
      rw [Quant_eq (by omega) (by omega), shl1 hb2.1 hb2.2, shl2 s0 s1]; simp only [Option.bind_some]
      rw [w64 (a := levels b + 1 - 1) (by omega) (by omega), show levels b + 1 - 1 = levels b by omega, if_neg (by omega), if_pos n0, if_pos n1, if_true]
      rw [w64 (a := x) (by omega) (by omega), w64 (a := 1 - reach s) (by omega) (by omega), w64 (a := reach s - 1) (by omega) (by omega), emn, w64 (a := e - reach s) (by omega) (by omega), w64 (a := 2 * reach s) (by omega) (by omega), Int.tdiv_eq_ediv_of_nonneg (by omega)]
      have st := ediv_range (n := 2 * reach s) (p := levels b) (lo := 0) (hi := 131072) (by omega) (by decide) (by decide) (by omega) (by omega)
      rw [w64 (a := 2 * reach s / levels b) (by omega) (by omega), w64 (a := 2 * reach s / levels b + 1) (by omega) (by omega), w64 (a := e - reach s - c) (by omega) (by omega), w64 (a := -(2 * reach s / levels b + 1)) (by omega) (by omega)]
      have hq2 : (quant (e - reach s) s b).2 = 0 := by unfold quant; rw [if_pos hmy, if_neg hb0]
      rw [if_pos hq2, if_pos n2, if_pos n3]
      by_cases g : levels b ≥ reach s
      · rw [if_pos g]
      · rw [if_neg g]
        obtain ⟨a1, a2, a3⟩ := n4 (by omega)
        have : (quant (e - reach s) s b).1 = q := by
          unfold quant; rw [if_pos hmy, if_neg hb0, clip_self a1 a2]; exact a3
        rw [this, beq_self_eq_true]
  · rw [if_neg hm]; rfl

end Go.Proofs.Ytnaeondfkkiimaa.Pure
