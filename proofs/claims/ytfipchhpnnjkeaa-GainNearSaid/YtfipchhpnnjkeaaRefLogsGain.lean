/- The reference's bits, roots, logs and powers, as far as the key Gain has them. -/
import Derived.Test.YtfipchhpnnjkeaaPGainx0
import Derived.Test.YtfipchhpnnjkeaaPGainx1
import Derived.Test.YtfipchhpnnjkeaaPGainx2
import Derived.Test.YtfipchhpnnjkeaaPGainx3
import Derived.Test.YtfipchhpnnjkeaaPGainx4
import Derived.Test.YtfipchhpnnjkeaaPGainx5
import Derived.Test.YtfipchhpnnjkeaaPGainx6
import Derived.Test.YtfipchhpnnjkeaaPGainx7
import Derived.Test.YtfipchhpnnjkeaaPGainx8
import Derived.Test.YtfipchhpnnjkeaaPGainx9
import Derived.Test.YtfipchhpnnjkeaaPGainx10
import Derived.Test.YtfipchhpnnjkeaaLogsBaseGain
namespace Go.Proofs.Ytfipchhpnnjkeaa.RefLogsGain
open Go.RowKit Go.Proofs.Ytfipchhpnnjkeaa.PGain Go.Proofs.Ytfipchhpnnjkeaa.Num Go.Proofs.Ytfipchhpnnjkeaa.FixBaseGain Go.Proofs.Ytfipchhpnnjkeaa.LogsBaseGain Go.Proofs.YtfipchhpnnjkeaaW.PrintWords Go.Proofs.YtfipchhpnnjkeaaW.PrintLast Go.Proofs.YtfipchhpnnjkeaaW.PrintMore
set_option linter.unusedSimpArgs false
set_option linter.unusedVariables false

/-! bits -/
theorem nbits_half {n : Int} (h : 0 < n) : nbits (n / 2) + 1 = nbits n := by
  by_cases h1 : n = 1
  · subst h1; decide +kernel
  · have u := (HasBits.up 1 (x := n) (by omega) (nbits_has (n := n / 2 ^ 1) (by omega))).unique (by omega) (nbits_has (n := n) (by omega))
    rw [show (2 : Int) ^ 1 = 2 from rfl] at u
    omega
theorem nbits_64 {n : Int} (h0 : 0 ≤ n) (h1 : n ≤ 18446744073709551615) : nbits n ≤ 64 :=
  nbits_le (m := 64) h0 (by rw [show (2 : Int) ^ 64 = 18446744073709551616 by decide +kernel]; omega)
/-! powers -/
theorem rExp_l1 (y : Int) (h0 : 0 ≤ y) (h1 : y ≤ 2147483647) (e : Int) (d : Nat) : ∀ (k : Nat) (i : Nat), i + d ≤ 16 → e - 14 - i = d → d < k → psalteryref02_Exp.l1 k (e - i) (y * 2 ^ i) = some (y * 2 ^ (i + d), 0) := by
  induction d with
  | zero =>
    intro k i hi hd hk
    obtain ⟨k, rfl⟩ : ∃ m, k = m + 1 := ⟨k - 1, by omega⟩
    have a := pow_pos' i
    have b := pow_le' (show i ≤ 16 by omega)
    rw [show (2 : Int) ^ 16 = 65536 by decide +kernel] at b
    have c := Int.mul_le_mul h1 b (by omega) (by decide)
    have d' := Int.mul_nonneg h0 (show 0 ≤ (2 : Int) ^ i by omega)
    simp only [psalteryref02_Exp.l1]
    rw [if_neg (by omega), w64 (a := y * 2 ^ i) (by omega) (by omega), w64 (a := 14 - (e - i)) (by omega) (by omega), rRound_eq _ (by omega) (by omega)]; simp only [Option.bind_some]
    have e0 : rnd (y * 2 ^ i) (14 - (e - i)) = y * 2 ^ i := by unfold rnd; rw [if_pos (by omega)]
    rw [e0, wu64 d' (by omega), Nat.add_zero]
  | succ d ih =>
    intro k i hi hd hk
    obtain ⟨k, rfl⟩ : ∃ m, k = m + 1 := ⟨k - 1, by omega⟩
    have a := pow_pos' i
    have b := pow_le' (show i ≤ 16 by omega)
    rw [show (2 : Int) ^ 16 = 65536 by decide +kernel] at b
    have c := Int.mul_le_mul h1 b (by omega) (by decide)
    have d' := Int.mul_nonneg h0 (show 0 ≤ (2 : Int) ^ i by omega)
    simp only [psalteryref02_Exp.l1]
    rw [if_pos (by omega), w64 (a := e - i - 1) (by omega) (by omega), wu64 (by omega) (by omega), Int.mul_assoc, ← Int.pow_succ, show e - i - 1 = e - ((i + 1 : Nat) : Int) by omega, ih k (i + 1) (by omega) (by omega) (by omega), show i + 1 + d = i + (d + 1) by omega]
theorem rExp_end {q y : Int} (q0 : -4096 ≤ q) (q1 : q ≤ 7680) (h0 : 0 ≤ y) (h1 : y ≤ 2147483647) {k : Nat} (hk : 20 ≤ k) :
    psalteryref02_Exp.l1 k (q / 256) y = some (if q / 256 - 14 ≥ 0 then y * 2 ^ (q / 256 - 14).toNat else rnd y (14 - q / 256), 0) := by
  by_cases g : q / 256 - 14 ≥ 0
  · rw [if_pos g]
    have := rExp_l1 y h0 h1 (q / 256) (q / 256 - 14).toNat k 0 (by omega) (by omega) (by omega)
    rw [Int.pow_zero, Int.mul_one, Nat.zero_add, show q / 256 - ((0 : Nat) : Int) = q / 256 by omega] at this
    exact this
  · obtain ⟨k, rfl⟩ : ∃ m, k = m + 1 := ⟨k - 1, by omega⟩
    have r := rnd_range (n := y) (s := 14 - q / 256) (lo := 0) (hi := 2147483647) (by decide) (by decide) h0 h1
    rw [if_neg g]
    simp only [psalteryref02_Exp.l1]
    rw [if_neg (by omega), w64 (a := y) (by omega) (by omega), w64 (a := 14 - q / 256) (by omega) (by omega), rRound_eq _ (by omega) (by omega)]; simp only [Option.bind_some]
    rw [wu64 r.1 (by omega)]
abbrev rootsL : List Int := [1518500249, 1276901416, 1170923761, 1121280435, 1097253708, 1085434105, 1079572135, 1076653033]
/-- One round: f is what is left of q below 2 w. -/
theorem rExp_step {q y c w i : Int} (e : Int) (hi : rd rootsL i = c) (i0 : 0 ≤ i) (i1 : i ≤ 7) (hw : w = 128 ∨ w = 64 ∨ w = 32 ∨ w = 16 ∨ w = 8 ∨ w = 4 ∨ w = 2 ∨ w = 1) (hy0 : 0 ≤ y) (hy1 : y ≤ 2147483647) (hc0 : 0 ≤ c) (hc1 : c ≤ 2147483647) (k : Nat) :
    psalteryref02_Exp.l0 (k + 1) (q % (2 * w)) e y rootsL w i = psalteryref02_Exp.l0 k (q % w) e (step1 c w q y) rootsL (w / 2) (i + 1) := by
  simp only [psalteryref02_Exp.l0]
  have p := Int.mul_nonneg hy0 hc0
  have p2 := Int.mul_le_mul hy1 hc1 hc0 (by decide)
  have hl : ((rootsL).length : Int) = 8 := rfl
  have hi8 : i < 8 := by omega
  simp only [hl, if_pos hi8, if_pos i0]
  rw [hi, wu64 (a := y * c) p (by omega), Int.tdiv_eq_ediv_of_nonneg p, wu64 (by omega) (by omega), w64 (a := i + 1) (by omega) (by omega)]
  have hw2 : Int.tdiv w 2 = w / 2 := Int.tdiv_eq_ediv_of_nonneg (by omega)
  rw [hw2, w64 (a := w / 2) (by omega) (by omega)]
  unfold step1
  by_cases g : q % (2 * w) ≥ w
  · have b : q / w % 2 = 1 ∧ q % (2 * w) - w = q % w := by
      rcases hw with rfl | rfl | rfl | rfl | rfl | rfl | rfl | rfl <;> omega
    rw [if_pos g, if_pos b.1, w64 (by omega) (by rcases hw with rfl | rfl | rfl | rfl | rfl | rfl | rfl | rfl <;> omega), b.2]
  · have b : ¬ q / w % 2 = 1 ∧ q % (2 * w) = q % w := by
      rcases hw with rfl | rfl | rfl | rfl | rfl | rfl | rfl | rfl <;> omega
    rw [if_neg g, if_neg b.1, b.2]
theorem rExp_l0 {q : Int} (q0 : -4096 ≤ q) (q1 : q ≤ 7680) {k : Nat} (hk : 40 ≤ k) : psalteryref02_Exp.l0 k (q % 256) (q / 256) 1073741824 rootsL 128 0 = some (expV q, 0) := by
  have rr := root8_range q
  unfold expV
  unfold root8 at rr ⊢
  have a1 := step1_range (c := 1518500249) (w := 128) (f := q) (y := 1073741824) (hi := 1073741824) (hi2 := 1518500249) (by decide) (by decide) (by decide) (by decide) (by decide) (by decide)
  obtain ⟨k, rfl⟩ : ∃ m, k = m + 1 := ⟨k - 1, by omega⟩
  rw [show (256 : Int) = 2 * 128 from rfl, rExp_step (c := 1518500249) (w := 128) _ (by decide +kernel) (by decide) (by decide) (by decide) (by decide) (by decide) (by decide) (by decide)]
  generalize step1 1518500249 128 q 1073741824 = y1 at *
  have a2 := step1_range (c := 1276901416) (w := 64) (f := q) (hi := 1518500249) (hi2 := 1805811299) a1.1 a1.2 (by decide) (by decide) (by decide) (by decide)
  obtain ⟨k, rfl⟩ : ∃ m, k = m + 1 := ⟨k - 1, by omega⟩
  rw [show q % 128 = q % (2 * 64) from rfl, show (128 : Int) / 2 = 64 from rfl, show (0 : Int) + 1 = 1 from rfl, rExp_step (c := 1276901416) (w := 64) _ (by decide +kernel) (by decide) (by decide) (by decide) (by omega) (by omega) (by decide) (by decide)]
  generalize step1 1276901416 64 q y1 = y2 at *
  have a3 := step1_range (c := 1170923761) (w := 32) (f := q) (hi := 1805811299) (hi2 := 1969251183) a2.1 a2.2 (by decide) (by decide) (by decide) (by decide)
  obtain ⟨k, rfl⟩ : ∃ m, k = m + 1 := ⟨k - 1, by omega⟩
  rw [show q % 64 = q % (2 * 32) from rfl, show (64 : Int) / 2 = 32 from rfl, show (1 : Int) + 1 = 2 from rfl, rExp_step (c := 1170923761) (w := 32) _ (by decide +kernel) (by decide) (by decide) (by decide) (by omega) (by omega) (by decide) (by decide)]
  generalize step1 1170923761 32 q y2 = y3 at *
  have a4 := step1_range (c := 1121280435) (w := 16) (f := q) (hi := 1969251183) (hi2 := 2056437379) a3.1 a3.2 (by decide) (by decide) (by decide) (by decide)
  obtain ⟨k, rfl⟩ : ∃ m, k = m + 1 := ⟨k - 1, by omega⟩
  rw [show q % 32 = q % (2 * 16) from rfl, show (32 : Int) / 2 = 16 from rfl, show (2 : Int) + 1 = 3 from rfl, rExp_step (c := 1121280435) (w := 16) _ (by decide +kernel) (by decide) (by decide) (by decide) (by omega) (by omega) (by decide) (by decide)]
  generalize step1 1121280435 16 q y3 = y4 at *
  have a5 := step1_range (c := 1097253708) (w := 8) (f := q) (hi := 2056437379) (hi2 := 2101467493) a4.1 a4.2 (by decide) (by decide) (by decide) (by decide)
  obtain ⟨k, rfl⟩ : ∃ m, k = m + 1 := ⟨k - 1, by omega⟩
  rw [show q % 16 = q % (2 * 8) from rfl, show (16 : Int) / 2 = 8 from rfl, show (3 : Int) + 1 = 4 from rfl, rExp_step (c := 1097253708) (w := 8) _ (by decide +kernel) (by decide) (by decide) (by decide) (by omega) (by omega) (by decide) (by decide)]
  generalize step1 1097253708 8 q y4 = y5 at *
  have a6 := step1_range (c := 1085434105) (w := 4) (f := q) (hi := 2101467493) (hi2 := 2124350971) a5.1 a5.2 (by decide) (by decide) (by decide) (by decide)
  obtain ⟨k, rfl⟩ : ∃ m, k = m + 1 := ⟨k - 1, by omega⟩
  rw [show q % 8 = q % (2 * 4) from rfl, show (8 : Int) / 2 = 4 from rfl, show (4 : Int) + 1 = 5 from rfl, rExp_step (c := 1085434105) (w := 4) _ (by decide +kernel) (by decide) (by decide) (by decide) (by omega) (by omega) (by decide) (by decide)]
  generalize step1 1085434105 4 q y5 = y6 at *
  have a7 := step1_range (c := 1079572135) (w := 2) (f := q) (hi := 2124350971) (hi2 := 2135885984) a6.1 a6.2 (by decide) (by decide) (by decide) (by decide)
  obtain ⟨k, rfl⟩ : ∃ m, k = m + 1 := ⟨k - 1, by omega⟩
  rw [show q % 4 = q % (2 * 2) from rfl, show (4 : Int) / 2 = 2 from rfl, show (5 : Int) + 1 = 6 from rfl, rExp_step (c := 1079572135) (w := 2) _ (by decide +kernel) (by decide) (by decide) (by decide) (by omega) (by omega) (by decide) (by decide)]
  generalize step1 1079572135 2 q y6 = y7 at *
  obtain ⟨k, rfl⟩ : ∃ m, k = m + 1 := ⟨k - 1, by omega⟩
  rw [show q % 2 = q % (2 * 1) from rfl, show (2 : Int) / 2 = 1 from rfl, show (6 : Int) + 1 = 7 from rfl, rExp_step (c := 1076653033) (w := 1) _ (by decide +kernel) (by decide) (by decide) (by decide) (by omega) (by omega) (by decide) (by decide)]
  generalize step1 1076653033 1 q y7 = y8 at *
  obtain ⟨k, rfl⟩ : ∃ m, k = m + 1 := ⟨k - 1, by omega⟩
  simp only [psalteryref02_Exp.l0]
  rw [if_neg (by decide)]
  exact rExp_end q0 q1 (by omega) (by omega) (by omega)
theorem rExp_eq (q : Int) {k : Nat} (hk : 50 ≤ k) : psalteryref02_Exp.f k q = some (if -4096 ≤ q ∧ q ≤ 7680 then (expV q, 0) else (0, 1)) := by
  obtain ⟨k, rfl⟩ : ∃ m, k = m + 1 := ⟨k - 1, by omega⟩
  unfold psalteryref02_Exp.f
  by_cases h1 : q < -4096
  · rw [if_pos h1, if_neg (by omega)]; simp only [psalteryref02_Exp.j0, if_true]
  · rw [if_neg h1]; simp only [psalteryref02_Exp.j0]
    by_cases h2 : q > 7680
    · rw [decide_eq_true h2, if_pos rfl, if_neg (by omega)]
    · rw [decide_eq_false h2, if_neg Bool.false_ne_true, if_pos (by omega)]
      unfold psalteryref02_roots.f
      simp only [Option.bind_some]
      rw [w64 (a := q) (by omega) (by omega), w64 (a := q + 4096) (by omega) (by omega), Int.tmod_eq_emod_of_nonneg (by omega), Int.tdiv_eq_ediv_of_nonneg (by omega), w64 (a := (q + 4096) / 256) (by omega) (by omega), w64 (a := _ - 16) (by omega) (by omega),
        show (q + 4096) % 256 = q % 256 by omega, show (q + 4096) / 256 - 16 = q / 256 by omega]
      exact rExp_l0 (by omega) (by omega) (by omega)
end Go.Proofs.Ytfipchhpnnjkeaa.RefLogsGain
