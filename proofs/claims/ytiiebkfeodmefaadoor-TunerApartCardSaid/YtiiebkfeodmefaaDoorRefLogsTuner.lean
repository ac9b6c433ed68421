/- The reference's bits, roots, logs and powers, as far as the key Tuner has them. -/
import Derived.Test.YtiiebkfeodmefaaDoorPTunerx0
import Derived.Test.YtiiebkfeodmefaaDoorPTunerx1
import Derived.Test.YtiiebkfeodmefaaDoorPTunerx2
import Derived.Test.YtiiebkfeodmefaaDoorPTunerx3
import Derived.Test.YtiiebkfeodmefaaDoorPTunerx4
import Derived.Test.YtiiebkfeodmefaaDoorPTunerx5
import Derived.Test.YtiiebkfeodmefaaDoorPTunerx6
import Derived.Test.YtiiebkfeodmefaaDoorLogsBaseTuner
namespace Go.Proofs.YtiiebkfeodmefaaDoor.RefLogsTuner
open Go.RowKit Go.Proofs.YtiiebkfeodmefaaDoor.PTuner Go.Proofs.YtiiebkfeodmefaaDoor.Num Go.Proofs.YtiiebkfeodmefaaDoor.FixBaseTuner Go.Proofs.YtiiebkfeodmefaaDoor.LogsBaseTuner Go.Proofs.YtiiebkfeodmefaaDoorW.PrintWords Go.Proofs.YtiiebkfeodmefaaDoorW.PrintLast Go.Proofs.YtiiebkfeodmefaaDoorW.PrintMore
set_option linter.unusedSimpArgs false
set_option linter.unusedVariables false

/-! bits -/
theorem nbits_half {n : Int} (h : 0 < n) : nbits (n / 2) + 1 = nbits n := by
  by_cases h1 : n = 1
  · subst h1; decide +kernel
  · have u := (HasBits.up 1 (x := n) (by omega) (nbits_has (n := n / 2 ^ 1) (by omega))).unique (by omega) (nbits_has (n := n) (by omega))
    rw [show (2 : Int) ^ 1 = 2 from rfl] at u
    omega
theorem nbits_64 {n : Int} (h0 : 0 ≤ n) (h1 : n ≤ 18446744073709551615) : nbits n ≤ 64 :=
  nbits_le (m := 64) h0 (by rw [show (2 : Int) ^ 64 = 18446744073709551616 by decide +kernel]; omega)
theorem rBits_l0 (d : Nat) : ∀ (k : Nat) (n i : Int), 0 ≤ n → n ≤ 18446744073709551615 → nbits n ≤ d → d < k → 0 ≤ i → i + d ≤ 1000 → psalteryref02_Bits.l0 k n i = some (i + nbits n) := by
  induction d with
  | zero =>
    intro k n i h0 h1 hd hk i0 i1
    obtain ⟨k, rfl⟩ : ∃ m, k = m + 1 := ⟨k - 1, by omega⟩
    have : ¬ n > 0 := fun h => by have := nbits_pos h; omega
    obtain rfl : n = 0 := by omega
    simp only [psalteryref02_Bits.l0]
    rw [if_neg (by decide), nbits_zero, Int.add_zero]
  | succ d ih =>
    intro k n i h0 h1 hd hk i0 i1
    obtain ⟨k, rfl⟩ : ∃ m, k = m + 1 := ⟨k - 1, by omega⟩
    simp only [psalteryref02_Bits.l0]
    by_cases h : n > 0
    · have hb := nbits_half h
      rw [if_pos h, Int.tdiv_eq_ediv_of_nonneg h0, wu64 (by omega) (by omega), w64 (by omega) (by omega), ih k (n / 2) (i + 1) (by omega) (by omega) (by omega) (by omega) (by omega) (by omega)]
      exact congrArg some (by omega)
    · obtain rfl : n = 0 := by omega
      rw [if_neg h, nbits_zero, Int.add_zero]
theorem rBits_eq {n : Int} (h0 : 0 ≤ n) (h1 : n ≤ 18446744073709551615) {k : Nat} (hk : 65 ≤ k) : psalteryref02_Bits.f k n = some (nbits n) := by
  unfold psalteryref02_Bits.f
  rw [rBits_l0 64 k n 0 h0 h1 (nbits_64 h0 h1) (by omega) (by decide) (by decide), Int.zero_add]

/-! logs -/
theorem logRun_add (i : Nat) : ∀ (x q : Int), logRun i x q = 2 ^ i * q + logRun i x 0 := by
  induction i with
  | zero => intro x q; simp [logRun]
  | succ i ih =>
    intro x q
    have e : (2 : Int) ^ (i + 1) = 2 ^ i * 2 := Int.pow_succ _ _
    simp only [logRun]
    split
    · rw [ih _ (2 * q + 1), ih _ (2 * 0 + 1), e, Int.mul_add, Int.mul_add, Int.mul_assoc]; omega
    · rw [ih _ (2 * q), ih _ (2 * 0), e, Int.mul_assoc]; omega
theorem rLog_l2 {e : Int} (e0 : 0 ≤ e) (e1 : e ≤ 63) (i : Nat) : ∀ (k : Nat) (x q j : Int), i < k → j = 8 - i → 0 ≤ j → 1073741824 ≤ x → x < 2147483648 → 0 ≤ q → q * 2 ^ i + 2 ^ i ≤ 256 → psalteryref02_Log.l2 k e x q j = some (256 * e + logRun i x q, 0) := by
  induction i with
  | zero =>
    intro k x q j hk hj hj0 _ _ q0 q1
    obtain ⟨k, rfl⟩ : ∃ m, k = m + 1 := ⟨k - 1, by omega⟩
    rw [Int.pow_zero] at q1
    simp only [psalteryref02_Log.l2, logRun]
    rw [if_neg (by omega), w64 (a := 256 * e) (by omega) (by omega), w64 (by omega) (by omega), w32 (by omega) (by omega)]
  | succ i ih =>
    intro k x q j hk hj hj0 h0 h1 q0 q1
    obtain ⟨k, rfl⟩ : ∃ m, k = m + 1 := ⟨k - 1, by omega⟩
    have s := square30 h0 h1
    have hp := pow_pos' i
    rw [pow_succ'] at q1
    have q2 : q ≤ 256 := by have := Int.mul_le_mul_of_nonneg_left (show 1 ≤ 2 * 2 ^ i by omega) q0; omega
    have q3 : q * (2 * 2 ^ i) = 2 * (q * 2 ^ i) := by rw [Int.mul_left_comm]
    simp only [psalteryref02_Log.l2, logRun]
    rw [if_pos (by omega), wu64 (a := x * x) (by omega) (by omega), Int.tdiv_eq_ediv_of_nonneg (by omega), wu64 (a := x * x / 1073741824) (by omega) (by omega)]
    generalize x * x / 1073741824 = u at *
    rw [w64 (a := q * 2) (by omega) (by omega), w64 (a := j + 1) (by omega) (by omega), Int.mul_comm q 2]
    by_cases hu : u ≥ 2147483648
    · rw [if_pos hu, if_pos hu, Int.tdiv_eq_ediv_of_nonneg (by omega), wu64 (by omega) (by omega), w64 (by omega) (by omega)]
      exact ih k _ _ _ (by omega) (by omega) (by omega) (by omega) (by omega) (by omega) (by rw [Int.add_mul, Int.mul_assoc]; omega)
    · rw [if_neg hu, if_neg hu]
      exact ih k _ _ _ (by omega) (by omega) (by omega) (by omega) (by omega) (by omega) (by rw [Int.mul_assoc]; omega)
theorem rLog_l1 {n : Int} (h : 0 < n) (h1 : n ≤ 18446744073709551615) (hb : 31 ≤ nbits n) (d : Nat) : ∀ (k : Nat) (i : Nat), nbits n - 31 - i = d → d + 10 < k → psalteryref02_Log.l1 k (nbits n - 1) (n / 2 ^ i) = some (logV n, 0) := by
  have p := nbits_pow h
  have m := mant_range h
  have b64 := nbits_64 (n := n) (by omega) h1
  have key : ∀ i : Nat, i ≤ (nbits n - 31).toNat → 1073741824 * 2 ^ ((nbits n - 31).toNat - i) ≤ n / 2 ^ i ∧ n / 2 ^ i ≤ n := by
    intro i hi
    have q := pow_pos' i
    refine ⟨?_, Int.ediv_le_self _ (by omega)⟩
    rw [Int.le_ediv_iff_mul_le (by omega), Int.mul_assoc, ← Int.pow_add, show (nbits n - 31).toNat - i + i = (nbits n - 31).toNat by omega, show (1073741824 : Int) = 2 ^ 30 by decide +kernel, ← Int.pow_add, show 30 + (nbits n - 31).toNat = (nbits n - 1).toNat by omega]
    exact p.1
  induction d with
  | zero =>
    intro k i hd hk
    obtain ⟨k, rfl⟩ : ∃ m, k = m + 1 := ⟨k - 1, by omega⟩
    have hi : i = (nbits n - 31).toNat := by omega
    have e : n / 2 ^ i = mant n := by
      unfold mant
      by_cases h31 : nbits n ≤ 31
      · rw [if_pos h31, hi, show (nbits n - 31).toNat = 0 by omega, show (31 - nbits n).toNat = 0 by omega, Int.pow_zero, Int.ediv_one, Int.mul_one]
      · rw [if_neg h31, hi]
    rw [e]
    simp only [psalteryref02_Log.l1]
    rw [if_neg (by omega), rLog_l2 (by omega) (by omega) 8 k _ 0 0 (by omega) rfl (by decide) m.1 m.2 (by decide) (by decide)]
    unfold logV
    rw [logRun_add 8 (mant n) (nbits n - 1)]; rfl
  | succ d ih =>
    intro k i hd hk
    obtain ⟨k, rfl⟩ : ∃ m, k = m + 1 := ⟨k - 1, by omega⟩
    have a := key i (by omega)
    have t : (2 : Int) ≤ 2 ^ ((nbits n - 31).toNat - i) := pow_le' (m := 1) (by omega)
    simp only [psalteryref02_Log.l1]
    rw [if_pos (by omega), Int.tdiv_eq_ediv_of_nonneg (by omega), wu64 (by omega) (by omega), ediv_ediv' _ (by have := pow_pos' i; omega), ← Int.pow_succ]
    exact ih k (i + 1) (by omega) (by omega)
theorem rLog_l0 {n : Int} (h : 0 < n) (h1 : n ≤ 18446744073709551615) (hb : nbits n ≤ 31) (d : Nat) : ∀ (k : Nat) (i : Nat), 31 - nbits n - i = d → d + 12 < k → psalteryref02_Log.l0 k (nbits n - 1) (n * 2 ^ i) = some (logV n, 0) := by
  have p := nbits_pow h
  have m := mant_range h
  have em : mant n = n * 2 ^ (31 - nbits n).toNat := by unfold mant; rw [if_pos hb]
  have b1 := nbits_pos h
  induction d with
  | zero =>
    intro k i hd hk
    obtain ⟨k, rfl⟩ : ∃ m, k = m + 1 := ⟨k - 1, by omega⟩
    have e : n * 2 ^ i = mant n := by rw [em]; congr 2; omega
    rw [e]
    simp only [psalteryref02_Log.l0]
    rw [if_neg (by omega)]
    obtain ⟨k, rfl⟩ : ∃ m, k = m + 1 := ⟨k - 1, by omega⟩
    simp only [psalteryref02_Log.l1]
    rw [if_neg (by omega), rLog_l2 (by omega) (by omega) 8 k _ 0 0 (by omega) rfl (by decide) m.1 m.2 (by decide) (by decide)]
    unfold logV
    rw [logRun_add 8 (mant n) (nbits n - 1)]; rfl
  | succ d ih =>
    intro k i hd hk
    obtain ⟨k, rfl⟩ : ∃ m, k = m + 1 := ⟨k - 1, by omega⟩
    have hlt : n * 2 ^ i < 1073741824 := by
      have a := Int.mul_lt_mul_of_pos_right p.2 (show (0 : Int) < 2 ^ i by have := pow_pos' i; omega)
      have b : (2 : Int) * 2 ^ (nbits n - 1).toNat * 2 ^ i ≤ 1073741824 := by
        rw [← pow_succ', ← Int.pow_add, show (1073741824 : Int) = 2 ^ 30 by decide +kernel]
        exact pow_le' (by omega)
      omega
    have h0 : 0 ≤ n * 2 ^ i := Int.mul_nonneg (by omega) (by have := pow_pos' i; omega)
    simp only [psalteryref02_Log.l0]
    rw [if_pos hlt, wu64 (by omega) (by omega), Int.mul_assoc, ← Int.pow_succ]
    exact ih k (i + 1) (by omega) (by omega)
theorem rLog_eq {n : Int} (h0 : 0 ≤ n) (h1 : n ≤ 18446744073709551615) {k : Nat} (hk : 80 ≤ k) : psalteryref02_Log.f k n = some (if n = 0 then (0, 1) else (logV n, 0)) := by
  unfold psalteryref02_Log.f
  by_cases hn : n = 0
  · rw [if_pos hn, if_pos hn]
  · rw [if_neg hn, if_neg hn, rBits_eq h0 h1 (by omega)]; simp only [Option.bind_some]
    have b := nbits_64 h0 h1
    have b1 := nbits_pos (n := n) (by omega)
    rw [w64 (by omega) (by omega)]
    by_cases hb : nbits n ≤ 31
    · have := rLog_l0 (n := n) (by omega) h1 hb (31 - nbits n).toNat k 0 (by omega) (by omega)
      rw [Int.pow_zero, Int.mul_one] at this; exact this
    · obtain ⟨k, rfl⟩ : ∃ m, k = m + 1 := ⟨k - 1, by omega⟩
      have p := nbits_pow (n := n) (by omega)
      have q := pow_le' (show 30 ≤ (nbits n - 1).toNat by omega)
      rw [show (2 : Int) ^ 30 = 1073741824 by decide +kernel] at q
      simp only [psalteryref02_Log.l0]
      rw [if_neg (by omega)]
      have := rLog_l1 (n := n) (by omega) h1 (by omega) (nbits n - 31).toNat k 0 (by omega) (by omega)
      rw [Int.pow_zero, Int.ediv_one] at this; exact this

end Go.Proofs.YtiiebkfeodmefaaDoor.RefLogsTuner
