/- The reference's bits, roots, logs and powers, as far as the key Shape has them. -/
import Derived.Test.YtblehkoonajofaaPShapex0
import Derived.Test.YtblehkoonajofaaPShapex1
import Derived.Test.YtblehkoonajofaaPShapex2
import Derived.Test.YtblehkoonajofaaPShapex3
import Derived.Test.YtblehkoonajofaaLogsBaseShape
namespace Go.Proofs.Ytblehkoonajofaa.RefLogsShape
open Go.RowKit Go.Proofs.Ytblehkoonajofaa.PShape Go.Proofs.Ytblehkoonajofaa.Num Go.Proofs.Ytblehkoonajofaa.FixBaseShape Go.Proofs.Ytblehkoonajofaa.LogsBaseShape Go.Proofs.YtblehkoonajofaaW.PrintWords Go.Proofs.YtblehkoonajofaaW.PrintLast Go.Proofs.YtblehkoonajofaaW.PrintMore
set_option linter.unusedSimpArgs false
set_option linter.unusedVariables false

/-! bits -/
theorem nbits_half {n : Int} (h : 0 < n) : nbits (n / 2) + 1 = nbits n := by
  by_cases h1 : n = 1
  · subst h1; decide +kernel
  · have u := (HasBits.up 1 (x := n) (by omega) (nbits_has (n := n / 2 ^ 1) (by omega))).unique (by omega) (nbits_has (n := n) (by omega))
    rw [show (2 : Int) ^ 1 = 2 from rfl] at u
    omega
theorem nbits_64 {n : Int} (h0 : 0 ≤ n) (h1 : n ≤ 18446744073709551615) : nbits n ≤ 64 :=
  nbits_le (m := 64) h0 (by rw [show (2 : Int) ^ 64 = 18446744073709551616 by decide +kernel]; omega)
theorem rBits_l0 (d : Nat) : ∀ (k : Nat) (n i : Int), 0 ≤ n → n ≤ 18446744073709551615 → nbits n ≤ d → d < k → 0 ≤ i → i + d ≤ 1000 → psalteryref02_Bits.l0 k n i = some (i + nbits n) := by
  induction d with
  | zero =>
    intro k n i h0 h1 hd hk i0 i1
    obtain ⟨k, rfl⟩ : ∃ m, k = m + 1 := ⟨k - 1, by omega⟩
    have : ¬ n > 0 := fun h => by have := nbits_pos h; omega
    obtain rfl : n = 0 := by omega
    simp only [psalteryref02_Bits.l0]
    rw [if_neg (by decide), nbits_zero, Int.add_zero]
  | succ d ih =>
    intro k n i h0 h1 hd hk i0 i1
    obtain ⟨k, rfl⟩ : ∃ m, k = m + 1 := ⟨k - 1, by omega⟩
    simp only [psalteryref02_Bits.l0]
    by_cases h : n > 0
    · have hb := nbits_half h
      rw [if_pos h, Int.tdiv_eq_ediv_of_nonneg h0, wu64 (by omega) (by omega), w64 (by omega) (by omega), ih k (n / 2) (i + 1) (by omega) (by omega) (by omega) (by omega) (by omega) (by omega)]
      exact congrArg some (by omega)
    · obtain rfl : n = 0 := by omega
      rw [if_neg h, nbits_zero, Int.add_zero]
theorem rBits_eq {n : Int} (h0 : 0 ≤ n) (h1 : n ≤ 18446744073709551615) {k : Nat} (hk : 65 ≤ k) : psalteryref02_Bits.f k n = some (nbits n) := by
  unfold psalteryref02_Bits.f
  rw [rBits_l0 64 k n 0 h0 h1 (nbits_64 h0 h1) (by omega) (by decide) (by decide), Int.zero_add]

/-! logs -/
theorem logRun_add (i : Nat) : ∀ (x q : Int), logRun i x q = 2 ^ i * q + logRun i x 0 := by
  induction i with
  | zero => intro x q; simp [logRun]
  | succ i ih =>
    intro x q
    have e : (2 : Int) ^ (i + 1) = 2 ^ i * 2 := Int.pow_succ _ _
    simp only [logRun]
    split
    · rw [ih _ (2 * q + 1), ih _ (2 * 0 + 1), e, Int.mul_add, Int.mul_add, Int.mul_assoc]; omega
    · rw [ih _ (2 * q), ih _ (2 * 0), e, Int.mul_assoc]; omega
theorem rLog_l2 {e : Int} (e0 : 0 ≤ e) (e1 : e ≤ 63) (i : Nat) : ∀ (k : Nat) (x q j : Int), i < k → j = 8 - i → 0 ≤ j → 1073741824 ≤ x → x < 2147483648 → 0 ≤ q → q * 2 ^ i + 2 ^ i ≤ 256 → psalteryref02_Log.l2 k e x q j = some (256 * e + logRun i x q, 0) := by
  induction i with
  | zero =>
    intro k x q j hk hj hj0 _ _ q0 q1
    obtain ⟨k, rfl⟩ : ∃ m, k = m + 1 := ⟨k - 1, by omega⟩
    rw [Int.pow_zero] at q1
    simp only [psalteryref02_Log.l2, logRun]
    rw [if_neg (by omega), w64 (a := 256 * e) (by omega) (by omega), w64 (by omega) (by omega), w32 (by omega) (by omega)]
  | succ i ih =>
    intro k x q j hk hj hj0 h0 h1 q0 q1
    obtain ⟨k, rfl⟩ : ∃ m, k = m + 1 := ⟨k - 1, by omega⟩
    have s := square30 h0 h1
    have hp := pow_pos' i
    rw [pow_succ'] at q1
    have q2 : q ≤ 256 := by have := Int.mul_le_mul_of_nonneg_left (show 1 ≤ 2 * 2 ^ i by omega) q0; omega
    have q3 : q * (2 * 2 ^ i) = 2 * (q * 2 ^ i) := by rw [Int.mul_left_comm]
    simp only [psalteryref02_Log.l2, logRun]
    rw [if_pos (by omega), wu64 (a := x * x) (by omega) (by omega), Int.tdiv_eq_ediv_of_nonneg (by omega), wu64 (a := x * x / 1073741824) (by omega) (by omega)]
    generalize x * x / 1073741824 = u at *
    rw [w64 (a := q * 2) (by omega) (by omega), w64 (a := j + 1) (by omega) (by omega), Int.mul_comm q 2]
    by_cases hu : u ≥ 2147483648
    · rw [if_pos hu, if_pos hu, Int.tdiv_eq_ediv_of_nonneg (by omega), wu64 (by omega) (by omega), w64 (by omega) (by omega)]
      exact ih k _ _ _ (by omega) (by omega) (by omega) (by omega) (by omega) (by omega) (by rw [Int.add_mul, Int.mul_assoc]; omega)
    · rw [if_neg hu, if_neg hu]
      exact ih k _ _ _ (by omega) (by omega) (by omega) (by omega) (by omega) (by omega) (by rw [Int.mul_assoc]; omega)
theorem rLog_l1 {n : Int} (h : 0 < n) (h1 : n ≤ 18446744073709551615) (hb : 31 ≤ nbits n) (d : Nat) : ∀ (k : Nat) (i : Nat), nbits n - 31 - i = d → d + 10 < k → psalteryref02_Log.l1 k (nbits n - 1) (n / 2 ^ i) = some (logV n, 0) := by
  have p := nbits_pow h
  have m := mant_range h
  have b64 := nbits_64 (n := n) (by omega) h1
  have key : ∀ i : Nat, i ≤ (nbits n - 31).toNat → 1073741824 * 2 ^ ((nbits n - 31).toNat - i) ≤ n / 2 ^ i ∧ n / 2 ^ i ≤ n := by
    intro i hi
    have q := pow_pos' i
    refine ⟨?_, Int.ediv_le_self _ (by omega)⟩
    rw [Int.le_ediv_iff_mul_le (by omega), Int.mul_assoc, ← Int.pow_add, show (nbits n - 31).toNat - i + i = (nbits n - 31).toNat by omega, show (1073741824 : Int) = 2 ^ 30 by decide +kernel, ← Int.pow_add, show 30 + (nbits n - 31).toNat = (nbits n - 1).toNat by omega]
    exact p.1
  induction d with
  | zero =>
    intro k i hd hk
    obtain ⟨k, rfl⟩ : ∃ m, k = m + 1 := ⟨k - 1, by omega⟩
    have hi : i = (nbits n - 31).toNat := by omega
    have e : n / 2 ^ i = mant n := by
      unfold mant
      by_cases h31 : nbits n ≤ 31
      · rw [if_pos h31, hi, show (nbits n - 31).toNat = 0 by omega, show (31 - nbits n).toNat = 0 by omega, Int.pow_zero, Int.ediv_one, Int.mul_one]
      · rw [if_neg h31, hi]
    rw [e]
    simp only [psalteryref02_Log.l1]
    rw [if_neg (by omega), rLog_l2 (by omega) (by omega) 8 k _ 0 0 (by omega) rfl (by decide) m.1 m.2 (by decide) (by decide)]
    unfold logV
    rw [logRun_add 8 (mant n) (nbits n - 1)]; rfl
  | succ d ih =>
    intro k i hd hk
    obtain ⟨k, rfl⟩ : ∃ m, k = m + 1 := ⟨k - 1, by omega⟩
    have a := key i (by omega)
    have t : (2 : Int) ≤ 2 ^ ((nbits n - 31).toNat - i) := pow_le' (m := 1) (by omega)
    simp only [psalteryref02_Log.l1]
    rw [if_pos (by omega), Int.tdiv_eq_ediv_of_nonneg (by omega), wu64 (by omega) (by omega), ediv_ediv' _ (by have := pow_pos' i; omega), ← Int.pow_succ]
    exact ih k (i + 1) (by omega) (by omega)
theorem rLog_l0 {n : Int} (h : 0 < n) (h1 : n ≤ 18446744073709551615) (hb : nbits n ≤ 31) (d : Nat) : ∀ (k : Nat) (i : Nat), 31 - nbits n - i = d → d + 12 < k → psalteryref02_Log.l0 k (nbits n - 1) (n * 2 ^ i) = some (logV n, 0) := by
  have p := nbits_pow h
  have m := mant_range h
  have em : mant n = n * 2 ^ (31 - nbits n).toNat := by unfold mant; rw [if_pos hb]
  have b1 := nbits_pos h
  induction d with
  | zero =>
    intro k i hd hk
    obtain ⟨k, rfl⟩ : ∃ m, k = m + 1 := ⟨k - 1, by omega⟩
    have e : n * 2 ^ i = mant n := by rw [em]; congr 2; omega
    rw [e]
    simp only [psalteryref02_Log.l0]
    rw [if_neg (by omega)]
    obtain ⟨k, rfl⟩ : ∃ m, k = m + 1 := ⟨k - 1, by omega⟩
    simp only [psalteryref02_Log.l1]
    rw [if_neg (by omega), rLog_l2 (by omega) (by omega) 8 k _ 0 0 (by omega) rfl (by decide) m.1 m.2 (by decide) (by decide)]
    unfold logV
    rw [logRun_add 8 (mant n) (nbits n - 1)]; rfl
  | succ d ih =>
    intro k i hd hk
    obtain ⟨k, rfl⟩ : ∃ m, k = m + 1 := ⟨k - 1, by omega⟩
    have hlt : n * 2 ^ i < 1073741824 := by
      have a := Int.mul_lt_mul_of_pos_right p.2 (show (0 : Int) < 2 ^ i by have := pow_pos' i; omega)
      have b : (2 : Int) * 2 ^ (nbits n - 1).toNat * 2 ^ i ≤ 1073741824 := by
        rw [← pow_succ', ← Int.pow_add, show (1073741824 : Int) = 2 ^ 30 by decide +kernel]
        exact pow_le' (by omega)
      omega
    have h0 : 0 ≤ n * 2 ^ i := Int.mul_nonneg (by omega) (by have := pow_pos' i; omega)
    simp only [psalteryref02_Log.l0]
    rw [if_pos hlt, wu64 (by omega) (by omega), Int.mul_assoc, ← Int.pow_succ]
    exact ih k (i + 1) (by omega) (by omega)
theorem rLog_eq {n : Int} (h0 : 0 ≤ n) (h1 : n ≤ 18446744073709551615) {k : Nat} (hk : 80 ≤ k) : psalteryref02_Log.f k n = some (if n = 0 then (0, 1) else (logV n, 0)) := by
  unfold psalteryref02_Log.f
  by_cases hn : n = 0
  · rw [if_pos hn, if_pos hn]
  · rw [if_neg hn, if_neg hn, rBits_eq h0 h1 (by omega)]; simp only [Option.bind_some]
    have b := nbits_64 h0 h1
    have b1 := nbits_pos (n := n) (by omega)
    rw [w64 (by omega) (by omega)]
    by_cases hb : nbits n ≤ 31
    · have := rLog_l0 (n := n) (by omega) h1 hb (31 - nbits n).toNat k 0 (by omega) (by omega)
      rw [Int.pow_zero, Int.mul_one] at this; exact this
    · obtain ⟨k, rfl⟩ : ∃ m, k = m + 1 := ⟨k - 1, by omega⟩
      have p := nbits_pow (n := n) (by omega)
      have q := pow_le' (show 30 ≤ (nbits n - 1).toNat by omega)
      rw [show (2 : Int) ^ 30 = 1073741824 by decide +kernel] at q
      simp only [psalteryref02_Log.l0]
      rw [if_neg (by omega)]
      have := rLog_l1 (n := n) (by omega) h1 (by omega) (nbits n - 31).toNat k 0 (by omega) (by omega)
      rw [Int.pow_zero, Int.ediv_one] at this; exact this

/-! powers -/
theorem rExp_l1 (y : Int) (h0 : 0 ≤ y) (h1 : y ≤ 2147483647) (e : Int) (d : Nat) : ∀ (k : Nat) (i : Nat), i + d ≤ 16 → e - 14 - i = d → d < k → psalteryref02_Exp.l1 k (e - i) (y * 2 ^ i) = some (y * 2 ^ (i + d), 0) := by
  induction d with
  | zero =>
    intro k i hi hd hk
    obtain ⟨k, rfl⟩ : ∃ m, k = m + 1 := ⟨k - 1, by omega⟩
    have a := pow_pos' i
    have b := pow_le' (show i ≤ 16 by omega)
    rw [show (2 : Int) ^ 16 = 65536 by decide +kernel] at b
    have c := Int.mul_le_mul h1 b (by omega) (by decide)
    have d' := Int.mul_nonneg h0 (show 0 ≤ (2 : Int) ^ i by omega)
    simp only [psalteryref02_Exp.l1]
    rw [if_neg (by omega), w64 (a := y * 2 ^ i) (by omega) (by omega), w64 (a := 14 - (e - i)) (by omega) (by omega), rRound_eq _ (by omega) (by omega)]; simp only [Option.bind_some]
    have e0 : rnd (y * 2 ^ i) (14 - (e - i)) = y * 2 ^ i := by unfold rnd; rw [if_pos (by omega)]
    rw [e0, wu64 d' (by omega), Nat.add_zero]
  | succ d ih =>
    intro k i hi hd hk
    obtain ⟨k, rfl⟩ : ∃ m, k = m + 1 := ⟨k - 1, by omega⟩
    have a := pow_pos' i
    have b := pow_le' (show i ≤ 16 by omega)
    rw [show (2 : Int) ^ 16 = 65536 by decide +kernel] at b
    have c := Int.mul_le_mul h1 b (by omega) (by decide)
    have d' := Int.mul_nonneg h0 (show 0 ≤ (2 : Int) ^ i by omega)
    simp only [psalteryref02_Exp.l1]
    rw [if_pos (by omega), w64 (a := e - i - 1) (by omega) (by omega), wu64 (by omega) (by omega), Int.mul_assoc, ← Int.pow_succ, show e - i - 1 = e - ((i + 1 : Nat) : Int) by omega, ih k (i + 1) (by omega) (by omega) (by omega), show i + 1 + d = i + (d + 1) by omega]
theorem rExp_end {q y : Int} (q0 : -4096 ≤ q) (q1 : q ≤ 7680) (h0 : 0 ≤ y) (h1 : y ≤ 2147483647) {k : Nat} (hk : 20 ≤ k) :
    psalteryref02_Exp.l1 k (q / 256) y = some (if q / 256 - 14 ≥ 0 then y * 2 ^ (q / 256 - 14).toNat else rnd y (14 - q / 256), 0) := by
  by_cases g : q / 256 - 14 ≥ 0
  · rw [if_pos g]
    have := rExp_l1 y h0 h1 (q / 256) (q / 256 - 14).toNat k 0 (by omega) (by omega) (by omega)
    rw [Int.pow_zero, Int.mul_one, Nat.zero_add, show q / 256 - ((0 : Nat) : Int) = q / 256 by omega] at this
    exact this
  · obtain ⟨k, rfl⟩ : ∃ m, k = m + 1 := ⟨k - 1, by omega⟩
    have r := rnd_range (n := y) (s := 14 - q / 256) (lo := 0) (hi := 2147483647) (by decide) (by decide) h0 h1
    rw [if_neg g]
    simp only [psalteryref02_Exp.l1]
    rw [if_neg (by omega), w64 (a := y) (by omega) (by omega), w64 (a := 14 - q / 256) (by omega) (by omega), rRound_eq _ (by omega) (by omega)]; simp only [Option.bind_some]
    rw [wu64 r.1 (by omega)]
abbrev rootsL : List Int := [1518500249, 1276901416, 1170923761, 1121280435, 1097253708, 1085434105, 1079572135, 1076653033]
/-- One round: f is what is left of q below 2 w. -/
theorem rExp_step {q y c w i : Int} (e : Int) (hi : rd rootsL i = c) (i0 : 0 ≤ i) (i1 : i ≤ 7) (hw : w = 128 ∨ w = 64 ∨ w = 32 ∨ w = 16 ∨ w = 8 ∨ w = 4 ∨ w = 2 ∨ w = 1) (hy0 : 0 ≤ y) (hy1 : y ≤ 2147483647) (hc0 : 0 ≤ c) (hc1 : c ≤ 2147483647) (k : Nat) :
    psalteryref02_Exp.l0 (k + 1) (q % (2 * w)) e y rootsL w i = psalteryref02_Exp.l0 k (q % w) e (step1 c w q y) rootsL (w / 2) (i + 1) := by
  simp only [psalteryref02_Exp.l0]
  have p := Int.mul_nonneg hy0 hc0
  have p2 := Int.mul_le_mul hy1 hc1 hc0 (by decide)
  have hl : ((rootsL).length : Int) = 8 := rfl
  have hi8 : i < 8 := by omega
  simp only [hl, if_pos hi8, if_pos i0]
  rw [hi, wu64 (a := y * c) p (by omega), Int.tdiv_eq_ediv_of_nonneg p, wu64 (by omega) (by omega), w64 (a := i + 1) (by omega) (by omega)]
  have hw2 : Int.tdiv w 2 = w / 2 := Int.tdiv_eq_ediv_of_nonneg (by omega)
  rw [hw2, w64 (a := w / 2) (by omega) (by omega)]
  unfold step1
  by_cases g : q % (2 * w) ≥ w
  · have b : q / w % 2 = 1 ∧ q % (2 * w) - w = q % w := by
      rcases hw with rfl | rfl | rfl | rfl | rfl | rfl | rfl | rfl <;> omega
    rw [if_pos g, if_pos b.1, w64 (by omega) (by rcases hw with rfl | rfl | rfl | rfl | rfl | rfl | rfl | rfl <;> omega), b.2]
  · have b : ¬ q / w % 2 = 1 ∧ q % (2 * w) = q % w := by
      rcases hw with rfl | rfl | rfl | rfl | rfl | rfl | rfl | rfl <;> omega
    rw [if_neg g, if_neg b.1, b.2]
theorem rExp_l0 {q : Int} (q0 : -4096 ≤ q) (q1 : q ≤ 7680) {k : Nat} (hk : 40 ≤ k) : psalteryref02_Exp.l0 k (q % 256) (q / 256) 1073741824 rootsL 128 0 = some (expV q, 0) := by
  have rr := root8_range q
  unfold expV
  unfold root8 at rr ⊢
  have a1 := step1_range (c := 1518500249) (w := 128) (f := q) (y := 1073741824) (hi := 1073741824) (hi2 := 1518500249) (by decide) (by decide) (by decide) (by decide) (by decide) (by decide)
  obtain ⟨k, rfl⟩ : ∃ m, k = m + 1 := ⟨k - 1, by omega⟩
  rw [show (256 : Int) = 2 * 128 from rfl, rExp_step (c := 1518500249) (w := 128) _ (by decide +kernel) (by decide) (by decide) (by decide) (by decide) (by decide) (by decide) (by decide)]
  generalize step1 1518500249 128 q 1073741824 = y1 at *
  have a2 := step1_range (c := 1276901416) (w := 64) (f := q) (hi := 1518500249) (hi2 := 1805811299) a1.1 a1.2 (by decide) (by decide) (by decide) (by decide)
  obtain ⟨k, rfl⟩ : ∃ m, k = m + 1 := ⟨k - 1, by omega⟩
  rw [show q % 128 = q % (2 * 64) from rfl, show (128 : Int) / 2 = 64 from rfl, show (0 : Int) + 1 = 1 from rfl, rExp_step (c := 1276901416) (w := 64) _ (by decide +kernel) (by decide) (by decide) (by decide) (by omega) (by omega) (by decide) (by decide)]
  generalize step1 1276901416 64 q y1 = y2 at *
  have a3 := step1_range (c := 1170923761) (w := 32) (f := q) (hi := 1805811299) (hi2 := 1969251183) a2.1 a2.2 (by decide) (by decide) (by decide) (by decide)
  obtain ⟨k, rfl⟩ : ∃ m, k = m + 1 := ⟨k - 1, by omega⟩
  rw [show q % 64 = q % (2 * 32) from rfl, show (64 : Int) / 2 = 32 from rfl, show (1 : Int) + 1 = 2 from rfl, rExp_step (c := 1170923761) (w := 32) _ (by decide +kernel) (by decide) (by decide) (by decide) (by omega) (by omega) (by decide) (by decide)]
  generalize step1 1170923761 32 q y2 = y3 at *
  have a4 := step1_range (c := 1121280435) (w := 16) (f := q) (hi := 1969251183) (hi2 := 2056437379) a3.1 a3.2 (by decide) (by decide) (by decide) (by decide)
  obtain ⟨k, rfl⟩ : ∃ m, k = m + 1 := ⟨k - 1, by omega⟩
  rw [show q % 32 = q % (2 * 16) from rfl, show (32 : Int) / 2 = 16 from rfl, show (2 : Int) + 1 = 3 from rfl, rExp_step (c := 1121280435) (w := 16) _ (by decide +kernel) (by decide) (by decide) (by decide) (by omega) (by omega) (by decide) (by decide)]
  generalize step1 1121280435 16 q y3 = y4 at *
  have a5 := step1_range (c := 1097253708) (w := 8) (f := q) (hi := 2056437379) (hi2 := 2101467493) a4.1 a4.2 (by decide) (by decide) (by decide) (by decide)
  obtain ⟨k, rfl⟩ : ∃ m, k = m + 1 := ⟨k - 1, by omega⟩
  rw [show q % 16 = q % (2 * 8) from rfl, show (16 : Int) / 2 = 8 from rfl, show (3 : Int) + 1 = 4 from rfl, rExp_step (c := 1097253708) (w := 8) _ (by decide +kernel) (by decide) (by decide) (by decide) (by omega) (by omega) (by decide) (by decide)]
  generalize step1 1097253708 8 q y4 = y5 at *
  have a6 := step1_range (c := 1085434105) (w := 4) (f := q) (hi := 2101467493) (hi2 := 2124350971) a5.1 a5.2 (by decide) (by decide) (by decide) (by decide)
  obtain ⟨k, rfl⟩ : ∃ m, k = m + 1 := ⟨k - 1, by omega⟩
  rw [show q % 8 = q % (2 * 4) from rfl, show (8 : Int) / 2 = 4 from rfl, show (4 : Int) + 1 = 5 from rfl, rExp_step (c := 1085434105) (w := 4) _ (by decide +kernel) (by decide) (by decide) (by decide) (by omega) (by omega) (by decide) (by decide)]
  generalize step1 1085434105 4 q y5 = y6 at *
  have a7 := step1_range (c := 1079572135) (w := 2) (f := q) (hi := 2124350971) (hi2 := 2135885984) a6.1 a6.2 (by decide) (by decide) (by decide) (by decide)
  obtain ⟨k, rfl⟩ : ∃ m, k = m + 1 := ⟨k - 1, by omega⟩
  rw [show q % 4 = q % (2 * 2) from rfl, show (4 : Int) / 2 = 2 from rfl, show (5 : Int) + 1 = 6 from rfl, rExp_step (c := 1079572135) (w := 2) _ (by decide +kernel) (by decide) (by decide) (by decide) (by omega) (by omega) (by decide) (by decide)]
  generalize step1 1079572135 2 q y6 = y7 at *
  obtain ⟨k, rfl⟩ : ∃ m, k = m + 1 := ⟨k - 1, by omega⟩
  rw [show q % 2 = q % (2 * 1) from rfl, show (2 : Int) / 2 = 1 from rfl, show (6 : Int) + 1 = 7 from rfl, rExp_step (c := 1076653033) (w := 1) _ (by decide +kernel) (by decide) (by decide) (by decide) (by omega) (by omega) (by decide) (by decide)]
  generalize step1 1076653033 1 q y7 = y8 at *
  obtain ⟨k, rfl⟩ : ∃ m, k = m + 1 := ⟨k - 1, by omega⟩
  simp only [psalteryref02_Exp.l0]
  rw [if_neg (by decide)]
  exact rExp_end q0 q1 (by omega) (by omega) (by omega)
theorem rExp_eq (q : Int) {k : Nat} (hk : 50 ≤ k) : psalteryref02_Exp.f k q = some (if -4096 ≤ q ∧ q ≤ 7680 then (expV q, 0) else (0, 1)) := by
  obtain ⟨k, rfl⟩ : ∃ m, k = m + 1 := ⟨k - 1, by omega⟩
  unfold psalteryref02_Exp.f
  by_cases h1 : q < -4096
  · rw [if_pos h1, if_neg (by omega)]; simp only [psalteryref02_Exp.j0, if_true]
  · rw [if_neg h1]; simp only [psalteryref02_Exp.j0]
    by_cases h2 : q > 7680
    · rw [decide_eq_true h2, if_pos rfl, if_neg (by omega)]
    · rw [decide_eq_false h2, if_neg Bool.false_ne_true, if_pos (by omega)]
      unfold psalteryref02_roots.f
      simp only [Option.bind_some]
      rw [w64 (a := q) (by omega) (by omega), w64 (a := q + 4096) (by omega) (by omega), Int.tmod_eq_emod_of_nonneg (by omega), Int.tdiv_eq_ediv_of_nonneg (by omega), w64 (a := (q + 4096) / 256) (by omega) (by omega), w64 (a := _ - 16) (by omega) (by omega),
        show (q + 4096) % 256 = q % 256 by omega, show (q + 4096) / 256 - 16 = q / 256 by omega]
      exact rExp_l0 (by omega) (by omega) (by omega)
end Go.Proofs.Ytblehkoonajofaa.RefLogsShape
