/- The plain statement of the law GainOrder: by a greater gain no line has more steps, and signs stay. No condition. -/
import Derived.Test.YtfipchhpnnjkeaaGainLib
namespace Go.Proofs.Ytfipchhpnnjkeaa.Pure
open Go.RowKit Go.Proofs.Ytfipchhpnnjkeaa.PGain Go.Proofs.Ytfipchhpnnjkeaa.Num Go.Proofs.Ytfipchhpnnjkeaa.FixBaseGain Go.Proofs.Ytfipchhpnnjkeaa.LogsBaseGain Go.Proofs.Ytfipchhpnnjkeaa.RefLogsGain Go.Proofs.Ytfipchhpnnjkeaa.GainLib Go.Proofs.YtfipchhpnnjkeaaW.PrintWords Go.Proofs.YtfipchhpnnjkeaaW.PrintLast Go.Proofs.YtfipchhpnnjkeaaW.PrintMore
set_option linter.unusedVariables false

theorem step_next : ∀ g : Fin 240, expV (32 * (g.val : Int)) ≤ expV (32 * (g.val : Int) + 32) := by decide +kernel
theorem step_mono {g : Int} (h0 : 0 ≤ g) (d : Nat) : g + d ≤ 240 → expV (32 * g) ≤ expV (32 * (g + d)) := by
  induction d with
  | zero => intro _; simp
  | succ d ih =>
    intro h
    have a := ih (by omega)
    have b := step_next ⟨(g + d).toNat, by omega⟩
    simp only [Int.toNat_of_nonneg (show 0 ≤ g + (d : Int) by omega)] at b
    rw [show 32 * (g + ((d + 1 : Nat) : Int)) = 32 * (g + d) + 32 by omega]; omega
/-- A greater step: no more of them. -/
theorem fewer {A s t : Int} (hA : 0 ≤ A) (hs : 1 ≤ s) (h : s ≤ t) : (A + 3 * t / 8) / t ≤ (A + 3 * s / 8) / s := by
  have n0 : 0 ≤ (A + 3 * s / 8) / s := Int.ediv_nonneg (by omega) (by omega)
  have m := Int.ediv_mul_le (A + 3 * t / 8) (show t ≠ 0 by omega)
  generalize (A + 3 * t / 8) / t = n at *
  by_cases hn : n ≤ 0
  · omega
  · rw [Int.le_ediv_iff_mul_le (by omega)]
    have d := Int.mul_le_mul_of_nonneg_right (show 1 ≤ n by omega) (show 0 ≤ t - s by omega)
    have e := Int.mul_sub n t s
    omega
theorem inSteps_size {s v : Int} (hs : 4 ≤ s) : mx (inSteps s v) (-(inSteps s v)) = min ((max v (-v) * 65536 + 3 * s / 8) / s) 32767 := by
  have n0 : 0 ≤ (max v (-v) * 65536 + 3 * s / 8) / s := Int.ediv_nonneg (by omega) (by omega)
  unfold inSteps mx
  split <;> split <;> omega
theorem inSteps_zero {s : Int} (hs : 4 ≤ s) : inSteps s 0 = 0 := by
  unfold inSteps
  have : (max 0 (-0) * 65536 + 3 * s / 8) / s = 0 := Int.ediv_eq_zero_of_lt (by omega) (by omega)
  rw [if_neg (by decide), this]; rfl
theorem inSteps_sign {s v : Int} (hs : 4 ≤ s) : (0 < v → 0 ≤ inSteps s v) ∧ (v < 0 → inSteps s v ≤ 0) := by
  have n0 : 0 ≤ (max v (-v) * 65536 + 3 * s / 8) / s := Int.ediv_nonneg (by omega) (by omega)
  unfold inSteps
  split <;> omega
theorem Order_l0 {x p q : List Int} (hx : Lines x) (hl : x.length ≤ 120) {s t : Int} (hs : 4 ≤ s) (h : s ≤ t) (ht : t ≤ 140737488355327) (hp : Maps (inSteps s) x p) (hq : Maps (inSteps t) x q) (d : Nat) : ∀ (k : Nat) (i : Int), 0 ≤ i → i ≤ x.length → (x.length : Int) - i = d → d < k → psalterylaw19_GainOrder.l0 k x p q i = some true := by
  have lp := hp.1
  have lq := hq.1
  induction d with
  | zero =>
    intro k i i0 i1 hd hk
    obtain ⟨k, rfl⟩ : ∃ m, k = m + 1 := ⟨k - 1, by omega⟩
    simp only [psalterylaw19_GainOrder.l0]
    rw [if_neg (by omega), if_pos (by omega), lq, beq_self_eq_true]
  | succ d ih =>
    intro k i i0 i1 hd hk
    obtain ⟨k, rfl⟩ : ∃ m, k = m + 1 := ⟨k - 1, by omega⟩
    have next := ih k (i + 1) (by omega) (by omega) (by omega) (by omega)
    have v := rd_all hx i0 (show i < x.length by omega)
    simp only [psalterylaw19_GainOrder.l0]
    rw [if_pos (by omega), if_pos i0, if_pos (by omega), if_pos (by omega), hp.2 i i0 (by omega), hq.2 i i0 (by omega), w64 (a := i + 1) (by omega) (by omega), next]
    have r1 := inSteps_range hs (by omega) v.1 v.2
    have r2 := inSteps_range (s := t) (by omega) ht v.1 v.2
    rw [w64 (a := -(inSteps t _)) (by omega) (by omega), w64 (a := -(inSteps s _)) (by omega) (by omega), inSteps_size (by omega), inSteps_size hs]
    have f := fewer (A := max (rd x i) (-(rd x i)) * 65536) (by omega) (show 1 ≤ s by omega) h
    have sg := inSteps_sign (v := rd x i) hs
    have z : rd x i = 0 → inSteps s (rd x i) = 0 := fun e => by rw [e]; exact inSteps_zero hs
    rw [if_neg (by omega)]
    generalize rd x i = y at *
    generalize inSteps s y = w at *
    by_cases c1 : y > 0
    · rw [if_pos c1, if_neg (by omega), if_neg (by omega), if_neg (by omega)]
    · rw [if_neg c1]
      by_cases c2 : y < 0
      · rw [if_pos c2, if_neg (by omega), if_neg (by omega)]
      · rw [if_neg c2, if_pos (by omega), if_pos (z (by omega))]
theorem GainOrder : psalterylaw19_GainOrder.Pure := by
  intro x g more _ _ hx hg hm
  have hx : Lines x := fun y hy => i32_of (hx y hy)
  refine ⟨402, ?_⟩
  unfold psalterylaw19_GainOrder.f
  rw [alive_eq (by decide)]; simp only [Option.bind_some, if_true]
  rw [far_nil]; simp only [Option.bind_some]
  have out : psalterylaw19_GainOrder.j0 402 x g more true = some true := by simp only [psalterylaw19_GainOrder.j0, if_true]
  by_cases hf : x.length > 300
  · rw [decide_eq_true hf, if_pos rfl]; exact out
  · rw [decide_eq_false hf, if_neg Bool.false_ne_true]
    by_cases c1 : more < 0
    · rw [if_pos c1]; exact out
    · rw [if_neg c1]
      by_cases c2 : more > 300
      · rw [if_pos c2]; exact out
      · rw [if_neg c2]
        by_cases c3 : g < 0
        · rw [if_pos c3]; exact out
        · rw [if_neg c3]
          by_cases c4 : g > 240
          · rw [decide_eq_true c4]; exact out
          · rw [decide_eq_false c4]
            simp only [psalterylaw19_GainOrder.j0, Bool.false_eq_true, if_false]
            rw [w64 (a := g + more) (by omega) (by omega)]
            have r := step_range (g := g) (by omega) (by omega)
            rcases Quantise_eq hx g (k := 401) (by decide) with ⟨a, b⟩ | ⟨_, a, _⟩ | ⟨a, _, p, hp, hmp⟩
            · rcases Quantise_eq hx (g + more) (k := 401) (by decide) with ⟨a', b'⟩ | ⟨a', _, b'⟩ | ⟨a', _⟩
              · rw [b, b']; simp only [Option.bind_some]
                rw [if_neg (by decide)]; simp only [psalterylaw19_GainOrder.j1, if_true]
                rw [if_pos (by omega)]; rfl
              · omega
              · omega
            · exact absurd (show 0 ≤ g ∧ g ≤ 240 by omega) a
            · rcases Quantise_eq hx (g + more) (k := 401) (by decide) with ⟨a', b'⟩ | ⟨_, a', b'⟩ | ⟨_, a', q, hq, hmq⟩
              · omega
              · rw [hp, b']; simp only [Option.bind_some, if_true]
                rw [show ((1 : Int) != 0) = true from rfl]; simp only [psalterylaw19_GainOrder.j1, if_true]
                rw [if_neg (by omega), w64 (by omega) (by omega), if_pos (by omega)]; rfl
              · rw [hp, hq]; simp only [Option.bind_some, if_true]
                rw [show ((0 : Int) != 0) = false from rfl]; simp only [psalterylaw19_GainOrder.j1, Bool.false_eq_true, if_false]
                have r' := step_range (g := g + more) a'.1 a'.2
                have mo := step_mono (g := g) (by omega) more.toNat (by omega)
                rw [show g + (more.toNat : Int) = g + more by omega] at mo
                exact Order_l0 hx a r.1 mo r'.2 hmp hmq x.length 400 0 (by decide) (by omega) (by omega) (by omega)

end Go.Proofs.Ytfipchhpnnjkeaa.Pure
