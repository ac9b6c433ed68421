/- Numbers in a few bits and back, scales: the functions of quant and psalteryref13 as plain functions on whole numbers. -/
import Derived.Test.YtnaeondfkkiimaaPQuantx4
import Derived.Test.YtnaeondfkkiimaaNum
namespace Go.Proofs.Ytnaeondfkkiimaa.QuantLib
open Go.RowKit Go.Proofs.Ytnaeondfkkiimaa.PQuant Go.Proofs.Ytnaeondfkkiimaa.Num Go.Proofs.YtnaeondfkkiimaaW.PrintWords Go.Proofs.YtnaeondfkkiimaaW.PrintLast Go.Proofs.YtnaeondfkkiimaaW.PrintMore
set_option linter.unusedSimpArgs false
set_option linter.unusedVariables false

theorem Clip_eq (n lo hi : Int) : fix_Clip.f n lo hi = some (clip n lo hi) := by
  unfold fix_Clip.f fix_within_int64.f clip; split
  · rfl
  · split <;> rfl

/-- May a scale and bits be? -/
def may (s b : Int) : Prop := 0 ≤ s ∧ s ≤ 15 ∧ (b = 0 ∨ (2 ≤ b ∧ b ≤ 16))
instance (s b : Int) : Decidable (may s b) := by unfold may; exact inferInstance
theorem may_eq (s b : Int) : quant_may.f s b = some (decide (may s b)) := by
  unfold quant_may.f may
  (repeat' split) <;> (congr 1; first | exact (decide_eq_true (by omega)).symm | exact (decide_eq_false (by omega)).symm | exact decide_eq_decide.2 (by omega))
theorem rmay_eq (s b : Int) : psalteryref13_may.f s b = some (decide (may s b)) := by
  unfold psalteryref13_may.f may
  have e : (b != 1) = decide (b ≠ 1) := by
    by_cases h : b = 1
    · subst h; rfl
    · rw [decide_eq_true h, bne_iff_ne]; exact h
  rw [e]
  (repeat' split) <;> (congr 1; first | exact (decide_eq_true (by omega)).symm | exact (decide_eq_false (by omega)).symm | exact decide_eq_decide.2 (by omega))

/-- The reach of a scale, the levels of bits. -/
def reach (s : Int) : Int := 2 ^ (s + 1).toNat
def levels (b : Int) : Int := 2 ^ b.toNat - 1
theorem reach_range {s : Int} (h0 : 0 ≤ s) (h1 : s ≤ 15) : 2 ≤ reach s ∧ reach s ≤ 65536 := by
  unfold reach
  have a := pow_le' (show 1 ≤ (s + 1).toNat by omega)
  have b := pow_le' (show (s + 1).toNat ≤ 16 by omega)
  exact ⟨a, b⟩
theorem levels_range {b : Int} (h0 : 2 ≤ b) (h1 : b ≤ 16) : 3 ≤ levels b ∧ levels b ≤ 65535 := by
  unfold levels
  have a := pow_le' (show 2 ≤ b.toNat by omega)
  have c := pow_le' (show b.toNat ≤ 16 by omega)
  have e1 : (2 : Int) ^ 2 = 4 := by decide
  have e2 : (2 : Int) ^ 16 = 65536 := by decide
  omega
theorem shl2 {s : Int} (h0 : 0 ≤ s) (h1 : s ≤ 15) : shl .i64 2 s = reach s := by
  have r := reach_range h0 h1
  unfold shl
  rw [show min s.toNat IntKind.i64.bits = s.toNat by show min s.toNat 64 = _; omega, ← pow_succ', show s.toNat + 1 = (s + 1).toNat by omega, i64_w]
  exact w64 (by unfold reach at r; omega) (by unfold reach at r; omega)
theorem shl1 {b : Int} (h0 : 2 ≤ b) (h1 : b ≤ 16) : shl .i64 1 b = levels b + 1 := by
  have r := levels_range h0 h1
  unfold shl
  unfold levels at r ⊢
  rw [show min b.toNat IntKind.i64.bits = b.toNat by show min b.toNat 64 = _; omega, Int.one_mul, i64_w]
  rw [w64 (by omega) (by omega)]; omega
theorem shr_reach {n s : Int} (h0 : 0 ≤ s) (h1 : s ≤ 15) : shr .i64 n (s + 1) = n / reach s := by
  unfold shr reach
  rw [show min (s + 1).toNat IntKind.i64.bits = (s + 1).toNat by show min (s + 1).toNat 64 = _; omega]

/-- A number in a few bits. -/
def quant (x s b : Int) : Int × Int :=
  if may s b then (if b = 0 then (0, 0) else ((clip x (1 - reach s) (reach s - 1) * levels b / reach s + levels b) / 2, 0)) else (0, 1)
theorem Quant_eq {x s b : Int} (h1 : -2147483648 ≤ x) (h2 : x ≤ 2147483647) : quant_Quant.f x s b = some (quant x s b) := by
  unfold quant_Quant.f quant
  rw [may_eq]; simp only [Option.bind_some]
  by_cases hm : may s b
  · rw [decide_eq_true hm, if_pos rfl, if_pos hm]
    by_cases hb : b = 0
    · rw [if_pos hb, if_pos hb]
    · rw [if_neg hb, if_neg hb]
      obtain ⟨s0, s1, hbb⟩ := hm
      have hb2 : 2 ≤ b ∧ b ≤ 16 := by omega
      have hR := reach_range s0 s1
      have hL := levels_range hb2.1 hb2.2
      rw [if_pos s0, if_pos (by omega), shl2 s0 s1, shl1 hb2.1 hb2.2, w64 (a := x) (by omega) (by omega), w64 (a := 1 - reach s) (by omega) (by omega), w64 (a := reach s - 1) (by omega) (by omega), Clip_eq]
      simp only [Option.bind_some]
      have hc := clip_range (n := x) (show 1 - reach s ≤ reach s - 1 by omega)
      generalize clip x (1 - reach s) (reach s - 1) = c at *
      rw [w64 (a := s + 1) (by omega) (by omega), if_pos (by omega), w64 (a := levels b + 1 - 1) (by omega) (by omega), show levels b + 1 - 1 = levels b by omega]
      have hp := mul_abs (a := c) (b := levels b) (A := 65536) (B := 65536) (by omega) (by omega) (by omega) (by omega)
      rw [w64 (a := c * levels b) (by omega) (by omega), shr_reach s0 s1]
      have hd := ediv_range (n := c * levels b) (p := reach s) (lo := -4294967296) (hi := 4294967296) (by omega) (by decide) (by decide) (by omega) (by omega)
      rw [w64 (by omega) (by omega)]
  · rw [decide_eq_false hm, if_neg Bool.false_ne_true, if_neg hm]

/-! the reference -/
theorem power_l0 (n : Int) (hn : n ≤ 62) (d : Nat) : ∀ (k : Nat) (i : Int), 0 ≤ i → i ≤ n → n - i = d → d < k → psalteryref13_power.l0 k n (2 ^ i.toNat) i = some (2 ^ n.toNat) := by
  induction d with
  | zero =>
    intro k i i0 i1 hd hk
    obtain ⟨k, rfl⟩ : ∃ m, k = m + 1 := ⟨k - 1, by omega⟩
    simp only [psalteryref13_power.l0]
    rw [if_neg (by omega)]
    obtain rfl : i = n := by omega
    rfl
  | succ d ih =>
    intro k i i0 i1 hd hk
    obtain ⟨k, rfl⟩ : ∃ m, k = m + 1 := ⟨k - 1, by omega⟩
    simp only [psalteryref13_power.l0]
    have e : (2 : Int) ^ i.toNat * 2 = 2 ^ (i + 1).toNat := by rw [show (i + 1).toNat = i.toNat + 1 by omega, Int.pow_succ]
    have hp := pow_pos' (i + 1).toNat
    have hq := pow_le' (show (i + 1).toNat ≤ 62 by omega)
    have e62 : (2 : Int) ^ 62 = 4611686018427387904 := by decide +kernel
    rw [if_pos (by omega), e, w64 (by omega) (by omega), w64 (by omega) (by omega)]
    exact ih k (i + 1) (by omega) (by omega) (by omega) (by omega)
theorem power_eq {n : Int} (h0 : 0 ≤ n) (h1 : n ≤ 62) {k : Nat} (hk : n.toNat < k) : psalteryref13_power.f k n = some (2 ^ n.toNat) := by
  have := power_l0 n h1 n.toNat k 0 (by omega) h0 (by omega) hk
  rw [show ((0 : Int).toNat) = 0 from rfl, Int.pow_zero] at this
  exact this
theorem tdiv_cases {n d : Int} (hd : 1 ≤ d) : (Int.tdiv n d * d > n ∧ Int.tdiv n d = n / d + 1) ∨ (¬ Int.tdiv n d * d > n ∧ Int.tdiv n d = n / d) := by
  have h1 := Int.emod_nonneg n (show d ≠ 0 by omega)
  have h3 := Int.emod_add_mul_ediv n d
  have h2 := Int.emod_lt_of_pos n (show 0 < d by omega)
  rw [Int.tdiv_eq_ediv]
  by_cases h : 0 ≤ n ∨ d ∣ n
  · rw [if_pos h, Int.add_zero, Int.mul_comm]; right; omega
  · rw [if_neg h, Int.sign_eq_one_of_pos (by omega), Int.add_mul, Int.mul_comm (n / d)]; left; omega
theorem rdown_eq {n d : Int} (hd : 1 ≤ d) (hd2 : d ≤ 4294967296) (h1 : -4611686018427387904 ≤ n) (h2 : n ≤ 4611686018427387904) : psalteryref13_down.f n d = some (n / d) := by
  unfold psalteryref13_down.f
  rw [if_neg (by omega)]
  have r := ediv_range hd (by decide) (by decide) h1 h2
  have h1' := Int.emod_nonneg n (show d ≠ 0 by omega)
  have h3 := Int.emod_add_mul_ediv n d
  have h2' := Int.emod_lt_of_pos n (show 0 < d by omega)
  rw [Int.mul_comm] at h3
  rcases tdiv_cases (n := n) hd with ⟨a, b⟩ | ⟨a, b⟩
  · rw [b] at a ⊢
    rw [Int.add_mul, Int.one_mul] at a
    rw [w64 (a := n / d + 1) (by omega) (by omega), Int.add_mul, Int.one_mul, w64 (by omega) (by omega), if_pos a, w64 (by omega) (by omega)]; congr 1; omega
  · rw [b] at a ⊢
    rw [w64 (a := n / d) (by omega) (by omega), w64 (by omega) (by omega), if_neg a]
theorem rQuant_eq {x s b : Int} (h1 : -2147483648 ≤ x) (h2 : x ≤ 2147483647) {k : Nat} (hk : 20 < k) : psalteryref13_Quant.f k x s b = some (quant x s b) := by
  unfold psalteryref13_Quant.f quant
  rw [rmay_eq]; simp only [Option.bind_some]
  by_cases hm : may s b
  · rw [decide_eq_true hm, if_pos rfl, if_pos hm]
    by_cases hb : b = 0
    · rw [if_pos hb, if_pos hb]
    · rw [if_neg hb, if_neg hb]
      obtain ⟨s0, s1, hbb⟩ := hm
      have hb2 : 2 ≤ b ∧ b ≤ 16 := by omega
      have hR := reach_range s0 s1
      have hL := levels_range hb2.1 hb2.2
      have eL : (2 : Int) ^ b.toNat - 1 = levels b := rfl
      rw [w64 (a := s + 1) (by omega) (by omega), power_eq (by omega) (by omega) (by omega)]
      simp only [Option.bind_some]
      rw [show (2 : Int) ^ (s + 1).toNat = reach s from rfl, w64 (a := x) (by omega) (by omega), w64 (a := reach s - 1) (by omega) (by omega)]
      obtain ⟨k, rfl⟩ : ∃ m, k = m + 1 := ⟨k - 1, by omega⟩
      -- what the reference does from a number within the reach on
      have key : ∀ c : Int, 1 - reach s ≤ c → c ≤ reach s - 1 → (psalteryref13_down.f (wrap64 (c * (wrap64 (levels b)))) (reach s)).bind (fun t116 => (psalteryref13_down.f (wrap64 (t116 + (wrap64 (levels b)))) 2).bind fun t117 => (some (t117, (0 : Int)))) = some ((c * levels b / reach s + levels b) / 2, 0) := by
        intro c c0 c1
        have hp := mul_abs (a := c) (b := levels b) (A := 65536) (B := 65536) (by omega) (by omega) (by omega) (by omega)
        have hd := ediv_range (n := c * levels b) (p := reach s) (lo := -4294967296) (hi := 4294967296) (by omega) (by decide) (by decide) (by omega) (by omega)
        rw [w64 (a := levels b) (by omega) (by omega), w64 (a := c * levels b) (by omega) (by omega), rdown_eq (by omega) (by omega) (by omega) (by omega)]
        simp only [Option.bind_some]
        rw [w64 (by omega) (by omega), rdown_eq (by decide) (by decide) (by omega) (by omega)]; rfl
      by_cases g1 : x ≥ reach s
      · rw [if_pos g1]; simp only [psalteryref13_Quant.j0]
        rw [w64 (a := -reach s) (by omega) (by omega), if_neg (by omega), power_eq (by omega) (by omega) (by omega)]; simp only [Option.bind_some]
        rw [eL, key _ (by omega) (by omega)]
        have : clip x (1 - reach s) (reach s - 1) = reach s - 1 := by unfold clip; rw [if_neg (by omega), if_pos (by omega)]
        rw [this]
      · rw [if_neg g1]; simp only [psalteryref13_Quant.j0]
        by_cases g2 : x ≤ -reach s
        · rw [w64 (a := -reach s) (by omega) (by omega), if_pos g2, power_eq (by omega) (by omega) (by omega)]; simp only [Option.bind_some]
          rw [w64 (a := 1 - reach s) (by omega) (by omega), eL, key _ (by omega) (by omega)]
          have : clip x (1 - reach s) (reach s - 1) = 1 - reach s := by unfold clip; rw [if_pos (by omega)]
          rw [this]
        · rw [w64 (a := -reach s) (by omega) (by omega), if_neg g2, power_eq (by omega) (by omega) (by omega)]; simp only [Option.bind_some]
          rw [eL, key _ (by omega) (by omega)]
          have : clip x (1 - reach s) (reach s - 1) = x := clip_self (by omega) (by omega)
          rw [this]
  · rw [decide_eq_false hm, if_neg Bool.false_ne_true, if_neg hm]

/-- The number of a few bits. -/
def level (q s b : Int) : Int × Int :=
  if may s b ∧ 0 ≤ q ∧ (b = 0 → q = 0) ∧ (b ≠ 0 → q < levels b) then (if b = 0 then (0, 0) else ((2 * q + 1) * reach s / levels b - reach s, 0)) else (0, 1)
theorem level_math {q s b : Int} (hs0 : 0 ≤ s) (hs1 : s ≤ 15) (hb0 : 2 ≤ b) (hb1 : b ≤ 16) (q0 : 0 ≤ q) (q1 : q < levels b) :
    0 ≤ (2 * q + 1) * reach s ∧ (2 * q + 1) * reach s ≤ 8589934592 ∧ 0 ≤ (2 * q + 1) * reach s / levels b ∧ (2 * q + 1) * reach s / levels b ≤ 131072 := by
  have hR := reach_range hs0 hs1
  have hL := levels_range hb0 hb1
  have a := Int.mul_nonneg (show 0 ≤ 2 * q + 1 by omega) (show 0 ≤ reach s by omega)
  have b' := Int.mul_le_mul_of_nonneg_right (show 2 * q + 1 ≤ 2 * levels b by omega) (show 0 ≤ reach s by omega)
  have c := Int.mul_le_mul_of_nonneg_left (show reach s ≤ 65536 by omega) (show 0 ≤ 2 * levels b by omega)
  refine ⟨a, by omega, Int.ediv_nonneg a (by omega), ?_⟩
  have : (2 * q + 1) * reach s / levels b < 131073 := by
    rw [Int.ediv_lt_iff_lt_mul (by omega)]; omega
  omega
theorem Level_eq {q s b : Int} (h1 : -9223372036854775808 ≤ q) (h2 : q ≤ 9223372036854775807) {k : Nat} (hk : 0 < k) : quant_Level.f k q s b = some (level q s b) := by
  obtain ⟨k, rfl⟩ : ∃ m, k = m + 1 := ⟨k - 1, by omega⟩
  unfold quant_Level.f level
  rw [may_eq]; simp only [Option.bind_some]
  by_cases hm : may s b
  · rw [decide_eq_true hm, if_pos rfl]
    have hm' := hm
    obtain ⟨s0, s1, hbb⟩ := hm'
    by_cases hq : q < 0
    · rw [if_pos hq, decide_eq_true hq, if_neg (by omega)]; simp only [quant_Level.j0, if_true]
    · rw [if_neg hq]
      by_cases hb : b = 0
      · subst hb
        rw [if_pos rfl]
        by_cases hq0 : q = 0
        · subst hq0
          rw [if_pos rfl, if_neg (by decide)]; simp only [quant_Level.j0]
          simp only [if_true]; rw [if_neg Bool.false_ne_true, if_pos ⟨hm, Int.le_refl _, fun _ => trivial, fun h => absurd rfl h⟩]
        · rw [if_neg hq0, if_neg (by omega), bne_iff_ne.2 hq0]; simp only [quant_Level.j0, if_true]
      · have hb2 : 2 ≤ b ∧ b ≤ 16 := by omega
        have hR := reach_range s0 s1
        have hL := levels_range hb2.1 hb2.2
        rw [if_neg hb, if_pos (by omega), if_pos (by omega), shl1 hb2.1 hb2.2, w64 (by omega) (by omega), show levels b + 1 - 1 = levels b by omega]
        by_cases hq1 : q ≥ levels b
        · rw [decide_eq_true hq1, if_neg (by omega)]; simp only [quant_Level.j0, if_true]
        · rw [decide_eq_false hq1, if_pos ⟨hm, by omega, by omega, by omega⟩, if_neg hb]; simp only [quant_Level.j0]
          have m := level_math s0 s1 hb2.1 hb2.2 (show 0 ≤ q by omega) (by omega)
          rw [if_neg Bool.false_ne_true, if_neg hb, if_pos s0, if_pos (by omega), shl1 hb2.1 hb2.2, w64 (a := levels b + 1 - 1) (by omega) (by omega), show levels b + 1 - 1 = levels b by omega, if_neg (by omega), shl2 s0 s1]
          rw [w64 (a := 2 * q) (by omega) (by omega), w64 (a := 2 * q + 1) (by omega) (by omega), w64 (a := (2 * q + 1) * reach s) (by omega) (by omega), Int.tdiv_eq_ediv_of_nonneg m.1, w64 (a := _ / _) (by omega) (by omega), w64 (by omega) (by omega), w32 (by omega) (by omega)]
  · rw [decide_eq_false hm, if_neg Bool.false_ne_true, if_neg (fun h => hm h.1)]; simp only [quant_Level.j0, Bool.not_false, if_true]
theorem rLevel_eq {q s b : Int} (h1 : -9223372036854775808 ≤ q) (h2 : q ≤ 9223372036854775807) {k : Nat} (hk : 20 < k) : psalteryref13_Level.f k q s b = some (level q s b) := by
  obtain ⟨k, rfl⟩ : ∃ m, k = m + 1 := ⟨k - 1, by omega⟩
  unfold psalteryref13_Level.f level
  rw [rmay_eq]; simp only [Option.bind_some]
  by_cases hm : may s b
  · rw [decide_eq_true hm, if_pos rfl]
    have hm' := hm
    obtain ⟨s0, s1, hbb⟩ := hm'
    simp only [psalteryref13_Level.j0]
    by_cases hq : q < 0
    · rw [decide_eq_true hq, if_pos rfl, if_neg (by omega)]
    · rw [decide_eq_false hq, if_neg Bool.false_ne_true]
      by_cases hb : b = 0
      · subst hb
        rw [if_pos rfl]
        by_cases hq0 : q = 0
        · subst hq0
          rw [if_pos rfl, if_pos ⟨hm, Int.le_refl _, fun _ => rfl, fun h => absurd rfl h⟩, if_pos rfl]
        · rw [if_neg hq0, if_neg (by omega)]
      · have hb2 : 2 ≤ b ∧ b ≤ 16 := by omega
        have hR := reach_range s0 s1
        have hL := levels_range hb2.1 hb2.2
        rw [if_neg hb, power_eq (by omega) (by omega) (by omega)]; simp only [Option.bind_some]
        rw [show (2 : Int) ^ b.toNat - 1 = levels b from rfl, w64 (a := levels b) (by omega) (by omega)]
        by_cases hq1 : q ≥ levels b
        · rw [if_pos hq1, if_neg (by omega)]
        · rw [if_neg hq1, if_pos ⟨hm, by omega, by omega, by omega⟩, if_neg hb]
          have m := level_math s0 s1 hb2.1 hb2.2 (show 0 ≤ q by omega) (by omega)
          rw [w64 (a := s + 1) (by omega) (by omega), power_eq (by omega) (by omega) (by omega)]; simp only [Option.bind_some]
          rw [show (2 : Int) ^ (s + 1).toNat = reach s from rfl, w64 (a := 2 * q) (by omega) (by omega), w64 (a := 2 * q + 1) (by omega) (by omega), w64 (a := (2 * q + 1) * reach s) (by omega) (by omega), rdown_eq (by omega) (by omega) (by omega) (by omega)]
          simp only [Option.bind_some]
          rw [w64 (by omega) (by omega), w32 (by omega) (by omega)]
  · rw [decide_eq_false hm, if_neg Bool.false_ne_true, if_neg (fun h => hm h.1)]; simp only [psalteryref13_Level.j0, if_true]

/-! scales -/
theorem Scale_l0 (m : Int) (d : Nat) : ∀ (k : Nat) (i : Int), 0 ≤ i → i ≤ 15 → 15 - i = d → d + 17 < k → ∃ r, quant_Scale.l0 k m i = some r ∧ psalteryref13_Scale.l0 k m i = some r ∧ 0 ≤ r ∧ r ≤ 15 := by
  induction d with
  | zero =>
    intro k i i0 i1 hd hk
    obtain ⟨k, rfl⟩ : ∃ m, k = m + 1 := ⟨k - 1, by omega⟩
    simp only [quant_Scale.l0, psalteryref13_Scale.l0]
    rw [if_neg (by omega), if_neg (by omega)]
    exact ⟨15, by congr 1; omega, rfl, by decide, by decide⟩
  | succ d ih =>
    intro k i i0 i1 hd hk
    obtain ⟨k, rfl⟩ : ∃ m, k = m + 1 := ⟨k - 1, by omega⟩
    simp only [quant_Scale.l0, psalteryref13_Scale.l0]
    rw [if_pos (show i < 15 by omega), if_pos i0, if_pos (show i < 15 by omega), shl2 i0 i1, w64 (a := i + 1) (by omega) (by omega), power_eq (by omega) (by omega) (by omega)]
    simp only [Option.bind_some]
    rw [show (2 : Int) ^ (i + 1).toNat = reach i from rfl]
    by_cases g : m ≥ reach i
    · rw [if_pos g, if_neg (by omega)]
      exact ih k (i + 1) (by omega) (by omega) (by omega) (by omega)
    · rw [if_neg g, if_pos (by omega)]; exact ⟨i, rfl, rfl, i0, i1⟩
theorem Scale_eq (m : Int) {k : Nat} (hk : 40 < k) : ∃ r, quant_Scale.f k m = some r ∧ psalteryref13_Scale.f k m = some r ∧ 0 ≤ r ∧ r ≤ 15 :=
  Scale_l0 m 15 k 0 (by decide) (by decide) (by decide) (by omega)
theorem alive_eq {k : Nat} (hk : 40 < k) : psalterylaw13_alive.f k = some true := by
  unfold psalterylaw13_alive.f
  have e1 : quant_Scale.f k 1 = some 0 := by
    obtain ⟨k, rfl⟩ : ∃ m, k = m + 1 := ⟨k - 1, by omega⟩
    unfold quant_Scale.f; simp only [quant_Scale.l0]
    rw [if_pos (by decide), if_pos (by decide), if_neg (by decide +kernel)]
  have e2 : quant_Scale.f k 2 = some 1 := by
    obtain ⟨k, rfl⟩ : ∃ m, k = m + 2 := ⟨k - 2, by omega⟩
    unfold quant_Scale.f; simp only [quant_Scale.l0]
    rw [if_pos (by decide), if_pos (by decide), if_pos (by decide +kernel), show wrap64 (0 + 1) = 1 by decide +kernel, if_pos (by decide), if_pos (by decide), if_neg (by decide +kernel)]
  rw [Quant_eq (by decide) (by decide), Level_eq (by decide) (by decide) (by omega), Level_eq (by decide) (by decide) (by omega), e1, e2]
  simp only [Option.bind_some]
  decide +kernel
end Go.Proofs.Ytnaeondfkkiimaa.QuantLib
