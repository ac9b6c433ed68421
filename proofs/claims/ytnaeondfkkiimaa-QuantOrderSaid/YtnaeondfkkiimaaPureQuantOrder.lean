/- The plain statement of the law QuantOrder: of a greater number no less is told, and planes come back from middle and side but for one. No condition but that numbers are within their kinds. -/
import Derived.Test.YtnaeondfkkiimaaPairsLib
import Derived.Test.YtnaeondfkkiimaaPPairsx3
namespace Go.Proofs.Ytnaeondfkkiimaa.PureQuantOrder
open Go.RowKit Go.Proofs.Ytnaeondfkkiimaa.PPairs Go.Proofs.Ytnaeondfkkiimaa.PairsLib Go.Proofs.Ytnaeondfkkiimaa.Num Go.Proofs.YtnaeondfkkiimaaW.PrintWords Go.Proofs.YtnaeondfkkiimaaW.PrintLast Go.Proofs.YtnaeondfkkiimaaW.PrintMore
set_option linter.unusedSimpArgs false
set_option linter.unusedVariables false

/-- What comes back of a pair: each at most one less. -/
theorem back_one {a b : Int} (h1 : -2147483648 ≤ a) (h2 : a ≤ 2147483647) (h3 : -2147483648 ≤ b) (h4 : b ≤ 2147483647) :
    0 ≤ a - gS (gM a b) (hM a b) ∧ a - gS (gM a b) (hM a b) ≤ 1 ∧ 0 ≤ b - hS (gM a b) (hM a b) ∧ b - hS (gM a b) (hM a b) ≤ 1 := by
  have m := gM_range a b
  have s := hM_range a b
  rw [(S_eq m.1 m.2 s.1 s.2).1, (S_eq m.1 m.2 s.1 s.2).2, gM_eq h1 h2 h3 h4, hM_eq h1 h2 h3 h4]
  unfold sat32 clip
  (repeat' split) <;> omega
theorem loops {l r : List (List Int)} {n : Int} (hp : Plane l) (hq : Plane r) (h : Fits l r n) (d : Nat) : ∀ (k i : Nat), i + d = l.length → d * 20 + 2 < k →
    psalterylaw13_QuantOrder.l0 k l r (mapP gS (mapP gM l r) (mapP hM l r)) (mapP hS (mapP gM l r) (mapP hM l r)) (i : Int) = some true := by
  obtain ⟨n1, n8, l0, l4, lr, e1, e2⟩ := h
  induction d with
  | zero =>
    intro k i hi hk
    obtain ⟨k, rfl⟩ : ∃ m, k = m + 1 := ⟨k - 1, by omega⟩
    simp only [psalterylaw13_QuantOrder.l0]
    rw [if_neg (by omega)]
  | succ d ih =>
    intro k i hi hk
    obtain ⟨k, rfl⟩ : ∃ m, k = m + 1 := ⟨k - 1, by omega⟩
    simp only [psalterylaw13_QuantOrder.l0]
    rw [if_pos (by omega)]
    have hil : i < l.length := by omega
    have r1 := e1.row hil
    have r2 := e2.row (i := i) (by omega)
    have inner : ∀ (c k j : Nat), j + c = (l.getD i []).length → c + d * 20 + 3 < k →
        psalterylaw13_QuantOrder.l1 k l r (mapP gS (mapP gM l r) (mapP hM l r)) (mapP hS (mapP gM l r) (mapP hM l r)) (i : Int) (j : Int) = some true := by
      intro c
      induction c with
      | zero =>
        intro k j hj hk
        obtain ⟨k, rfl⟩ : ∃ m, k = m + 1 := ⟨k - 1, by omega⟩
        simp only [psalterylaw13_QuantOrder.l1, rdL_nat]
        rw [if_pos (by omega), if_pos (by omega), if_neg (by omega), w64 (by omega) (by omega)]
        exact ih k (i + 1) (by omega) (by omega)
      | succ c ihc =>
        intro k j hj hk
        obtain ⟨k, rfl⟩ : ∃ m, k = m + 1 := ⟨k - 1, by omega⟩
        have hjl : j < (l.getD i []).length := by omega
        have q1 : ((mapP gS (mapP gM l r) (mapP hM l r)).getD i []).length = (l.getD i []).length := by
          rw [mapP_row _ _ _ (by rw [mapP_length]; exact hil), mapR_length, mapP_row _ _ _ hil, mapR_length]
        have q2 : ((mapP hS (mapP gM l r) (mapP hM l r)).getD i []).length = (l.getD i []).length := by
          rw [mapP_row _ _ _ (by rw [mapP_length]; exact hil), mapR_length, mapP_row _ _ _ hil, mapR_length]
        have q3 : (mapP gS (mapP gM l r) (mapP hM l r)).length = l.length := by rw [mapP_length, mapP_length]
        have q4 : (mapP hS (mapP gM l r) (mapP hM l r)).length = l.length := by rw [mapP_length, mapP_length]
        have hmi : i < (mapP gM l r).length := by rw [mapP_length]; exact hil
        have hmj : j < ((mapP gM l r).getD i []).length := by rw [mapP_row _ _ _ hil, mapR_length]; exact hjl
        have v1 := hp.num (i := i) (k := j) hil
        have v2 := hq.num (i := i) (k := j) (by omega)
        have bk := back_one v1.1 v1.2 v2.1 v2.2
        simp only [psalterylaw13_QuantOrder.l1, rdL_nat, rd_nat]
        rw [q1, q2, q3, q4, mapP_at gS _ _ hmi hmj, mapP_at hS _ _ hmi hmj, mapP_at gM _ _ hil hjl, mapP_at hM _ _ hil hjl]
        have g1 := gM_range ((l.getD i []).getD j 0) ((r.getD i []).getD j 0)
        have g2 := hM_range ((l.getD i []).getD j 0) ((r.getD i []).getD j 0)
        have se := S_eq g1.1 g1.2 g2.1 g2.2
        have s1 := sat32_range (gM ((l.getD i []).getD j 0) ((r.getD i []).getD j 0) + hM ((l.getD i []).getD j 0) ((r.getD i []).getD j 0))
        have s2 := sat32_range (gM ((l.getD i []).getD j 0) ((r.getD i []).getD j 0) - hM ((l.getD i []).getD j 0) ((r.getD i []).getD j 0))
        rw [← se.1] at s1
        rw [← se.2] at s2
        generalize gS (gM ((l.getD i []).getD j 0) ((r.getD i []).getD j 0)) (hM ((l.getD i []).getD j 0) ((r.getD i []).getD j 0)) = a2 at *
        generalize hS (gM ((l.getD i []).getD j 0) ((r.getD i []).getD j 0)) (hM ((l.getD i []).getD j 0) ((r.getD i []).getD j 0)) = b2 at *
        generalize (l.getD i []).getD j 0 = a at *
        generalize (r.getD i []).getD j 0 = b at *
        rw [w64 (a := a) (by omega) (by omega), w64 (a := b) (by omega) (by omega), w64 (a := a2) (by omega) (by omega), w64 (a := b2) (by omega) (by omega), w64 (a := a - a2) (by omega) (by omega), w64 (a := b - b2) (by omega) (by omega), w64 (a := (j : Int) + 1) (by omega) (by omega)]
        rw [if_pos (by omega), if_pos (by omega), if_pos (by omega), if_pos (by omega), if_pos (by omega), if_pos (by omega), if_pos (by omega), if_pos (by omega), if_pos (by omega), if_pos (by omega), if_neg (by omega), if_neg (by omega), if_neg (by omega), if_neg (by omega)]
        exact ihc k (j + 1) (by omega) (by omega)
    exact inner (l.getD i []).length k 0 (by omega) (by omega)
/-- A greater number: no less is told, and no less comes back. -/
theorem order {x y s b : Int} (hxy : x ≤ y) (hx : -2147483648 ≤ x) (hy : y ≤ 2147483647) :
    (quant x s b).2 = (quant y s b).2 ∧ (quant x s b).1 ≤ (quant y s b).1 ∧ (level (quant x s b).1 s b).1 ≤ (level (quant y s b).1 s b).1 ∧ -1000000 ≤ (quant x s b).1 ∧ (quant y s b).1 ≤ 1000000 := by
  unfold quant
  by_cases hm : may s b
  · rw [if_pos hm, if_pos hm]
    by_cases hb0 : b = 0
    · rw [if_pos hb0, if_pos hb0]; exact ⟨rfl, Int.le_refl _, Int.le_refl _, by decide, by decide⟩
    · rw [if_neg hb0, if_neg hb0]
      have hm' := hm
      obtain ⟨s0, s1, hbb⟩ := hm'
      have hb2 : 2 ≤ b ∧ b ≤ 16 := by omega
      have hR := reach_range s0 s1
      have hL := levels_range hb2.1 hb2.2
      have c1 := clip_range (n := x) (show 1 - reach s ≤ reach s - 1 by omega)
      have c2 := clip_range (n := y) (show 1 - reach s ≤ reach s - 1 by omega)
      have cm := clip_mono hxy (show 1 - reach s ≤ reach s - 1 by omega)
      generalize clip x (1 - reach s) (reach s - 1) = c at *
      generalize clip y (1 - reach s) (reach s - 1) = e at *
      obtain ⟨p, hp⟩ : ∃ p, p = (c * levels b / reach s + levels b) / 2 := ⟨_, rfl⟩
      obtain ⟨q, hq⟩ : ∃ q, q = (e * levels b / reach s + levels b) / 2 := ⟨_, rfl⟩
      obtain ⟨p0, p1, _⟩ := near_math hR.1 hL.1 c1.1 c1.2 rfl hp rfl rfl
      obtain ⟨q0, q1, _⟩ := near_math hR.1 hL.1 c2.1 c2.2 rfl hq rfl rfl
      have h1 : c * levels b ≤ e * levels b := Int.mul_le_mul_of_nonneg_right cm (by omega)
      have h2 := Int.ediv_le_ediv (show 0 < reach s by omega) h1
      have hpq : p ≤ q := by omega
      rw [← hp, ← hq]
      have lp : level p s b = ((2 * p + 1) * reach s / levels b - reach s, 0) := by unfold level; rw [if_pos ⟨hm, p0, fun h => absurd h hb0, fun _ => p1⟩, if_neg hb0]
      have lq : level q s b = ((2 * q + 1) * reach s / levels b - reach s, 0) := by unfold level; rw [if_pos ⟨hm, q0, fun h => absurd h hb0, fun _ => q1⟩, if_neg hb0]
      have h3 : (2 * p + 1) * reach s ≤ (2 * q + 1) * reach s := Int.mul_le_mul_of_nonneg_right (by omega) (by omega)
      have h4 := Int.ediv_le_ediv (show 0 < levels b by omega) h3
      refine ⟨rfl, hpq, ?_, by dsimp only; omega, by dsimp only; omega⟩
      show (level p s b).1 ≤ (level q s b).1
      rw [lp, lq]
      dsimp only; omega
  · rw [if_neg hm, if_neg hm]; exact ⟨rfl, Int.le_refl _, Int.le_refl _, by decide, by decide⟩
theorem rest {x y s b : Int} {l r : List (List Int)} (hxy : x ≤ y) (hx : -2147483648 ≤ x) (hy : y ≤ 2147483647) (hp : Plane l) (hq : Plane r) : psalterylaw13_QuantOrder.j0 2000 x y s b l r = some true := by
  obtain ⟨o1, o2, o3, o4, o5⟩ := order (s := s) (b := b) hxy hx hy
  rw [show (2000 : Nat) = 1999 + 1 from rfl]
  simp only [psalterylaw13_QuantOrder.j0]
  rw [Quant_eq hx (by omega), Quant_eq (by omega) hy]
  simp only [Option.bind_some]
  rw [if_pos o1, decide_eq_false (by omega), show (1999 : Nat) = 1998 + 1 from rfl]
  simp only [psalterylaw13_QuantOrder.j1]
  rw [if_neg Bool.false_ne_true, Level_eq (by omega) (by omega) (by decide), Level_eq (by omega) (by omega) (by decide)]
  simp only [Option.bind_some]
  rw [if_neg (by omega), show (1998 : Nat) = 1997 + 1 from rfl]
  have le : decide ((level (quant x s b).1 s b).1 ≤ (level (quant y s b).1 s b).1) = true := decide_eq_true o3
  have yes : psalterylaw13_QuantOrder.j2 (1997 + 1) l r (level (quant x s b).1 s b).1 (level (quant y s b).1 s b).1 true = some true := by
    simp only [psalterylaw13_QuantOrder.j2, if_true]; rw [le]
  rcases Far_eq l (k := 1997 + 1) (by decide) with hf | ⟨hf, hl⟩
  · rw [hf]; simp only [Option.bind_some, if_true]; exact yes
  · rw [hf]; simp only [Option.bind_some]; rw [if_neg Bool.false_ne_true]
    rcases Far_eq r (k := 1997 + 1) (by decide) with hg | ⟨hg, hr⟩
    · rw [hg]; simp only [Option.bind_some]; exact yes
    · rw [hg]; simp only [Option.bind_some, psalterylaw13_QuantOrder.j2]
      rw [if_neg Bool.false_ne_true]
      rcases pair_cases hl hr with ⟨n, hft, hb⟩ | ⟨n, m, hb, n0, hbad⟩
      · have hb := hb 1000 (by decide)
        rw [Middle_fit hft ⟨hb.1, hb.2.1⟩]
        simp only [Option.bind_some, if_true]
        rw [Sides_of_middle hft]
        simp only [Option.bind_some, if_true]
        exact loops hp hq hft l.length _ 0 (by omega) (by omega)
      · have hb := hb 1000 (by decide)
        rw [(Middle_bad ⟨hb.1, hb.2.1⟩ hbad).1]
        simp only [Option.bind_some]
        rw [if_neg (by decide)]; rfl
theorem QuantOrder (x y s b : Int) (l r : List (List Int)) (hx1 : -2147483648 ≤ x) (hx2 : x ≤ 2147483647) (hy1 : -2147483648 ≤ y) (hy2 : y ≤ 2147483647) (hp : Plane l) (hq : Plane r) : psalterylaw13_QuantOrder.f 2000 x y s b l r = some true := by
  unfold psalterylaw13_QuantOrder.f
  rw [alive_eq (by decide)]; simp only [Option.bind_some, if_true]
  by_cases h : x > y
  · rw [if_pos h]; exact rest (by omega) hy1 hx2 hp hq
  · rw [if_neg h]; exact rest (by omega) hx1 hy2 hp hq
end Go.Proofs.Ytnaeondfkkiimaa.PureQuantOrder
