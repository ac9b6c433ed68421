/- Bits, roots, logs and powers of two: the functions of logs, as far as the key Tuner has them, as plain functions. -/
import Derived.Test.YtiiebkfeodmefaaDoorPTunerx0
import Derived.Test.YtiiebkfeodmefaaDoorPTunerx1
import Derived.Test.YtiiebkfeodmefaaDoorPTunerx2
import Derived.Test.YtiiebkfeodmefaaDoorPTunerx3
import Derived.Test.YtiiebkfeodmefaaDoorPTunerx4
import Derived.Test.YtiiebkfeodmefaaDoorPTunerx5
import Derived.Test.YtiiebkfeodmefaaDoorPTunerx6
import Derived.Test.YtiiebkfeodmefaaDoorNum
import Derived.Test.YtiiebkfeodmefaaDoorFixBaseTuner
namespace Go.Proofs.YtiiebkfeodmefaaDoor.LogsBaseTuner
open Go.RowKit Go.Proofs.YtiiebkfeodmefaaDoor.PTuner Go.Proofs.YtiiebkfeodmefaaDoor.Num Go.Proofs.YtiiebkfeodmefaaDoor.FixBaseTuner Go.Proofs.YtiiebkfeodmefaaDoorW.PrintWords Go.Proofs.YtiiebkfeodmefaaDoorW.PrintLast Go.Proofs.YtiiebkfeodmefaaDoorW.PrintMore
set_option linter.unusedSimpArgs false
set_option linter.unusedVariables false

/-- How many bits a number has. -/
def nbits (n : Int) : Int := if n ≤ 0 then 0 else (Nat.log2 n.toNat : Int) + 1
theorem nbits_has {n : Int} (h : 0 ≤ n) : HasBits n (nbits n) := by
  unfold nbits
  by_cases h0 : n ≤ 0
  · rw [if_pos h0]; exact ⟨Int.le_refl 0, by rw [show ((0 : Int).toNat) = 0 from rfl, Int.pow_zero]; omega, .inl rfl⟩
  · rw [if_neg h0]
    have a := Nat.log2_self_le (n := n.toNat) (by omega)
    have b := Nat.lt_log2_self (n := n.toNat)
    have e : ((Nat.log2 n.toNat : Int) + 1).toNat = Nat.log2 n.toNat + 1 := by omega
    refine ⟨by omega, ?_, .inr ?_⟩
    · rw [e]
      have : ((n.toNat : Nat) : Int) < ((2 ^ (Nat.log2 n.toNat + 1) : Nat) : Int) := by exact_mod_cast b
      rw [Int.toNat_of_nonneg h] at this
      exact_mod_cast this
    · rw [e, Nat.add_sub_cancel]
      have : ((2 ^ (Nat.log2 n.toNat) : Nat) : Int) ≤ ((n.toNat : Nat) : Int) := by exact_mod_cast a
      rw [Int.toNat_of_nonneg h] at this
      exact_mod_cast this
theorem nbits_le {n : Int} {m : Nat} (h : 0 ≤ n) (hm : n < 2 ^ m) : nbits n ≤ m := (nbits_has h).le hm
theorem nbits_nonneg (n : Int) : 0 ≤ nbits n := by unfold nbits; split <;> omega
theorem nbits_pos {n : Int} (h : 0 < n) : 1 ≤ nbits n := by unfold nbits; rw [if_neg (by omega)]; omega
theorem nbits_zero : nbits 0 = 0 := by unfold nbits; rw [if_pos (by decide)]
/-- 2^e ≤ n < 2^(e + 1), e = nbits n - 1. -/
theorem nbits_pow {n : Int} (h : 0 < n) : 2 ^ (nbits n - 1).toNat ≤ n ∧ n < 2 * 2 ^ (nbits n - 1).toNat := by
  obtain ⟨h0, h1, h2⟩ := nbits_has (n := n) (by omega)
  have h3 := nbits_pos h
  rw [show (nbits n).toNat = (nbits n - 1).toNat + 1 by omega] at h1 h2
  rw [Nat.add_sub_cancel] at h2
  rw [← pow_succ']
  exact ⟨by omega, h1⟩
theorem nbits_mono {a b : Int} (h0 : 0 ≤ a) (h : a ≤ b) : nbits a ≤ nbits b := by
  have hb := nbits_has (n := b) (by omega)
  have := nbits_le (m := (nbits b).toNat) h0 (by have := hb.2.1; omega)
  have := nbits_nonneg b
  omega
theorem Len64_j0_unf (k : Nat) (x0 x2 : Int) : bits_Len64.j0 (k + 1) x0 x2 = if x0 ≥ 65536 then (if (x0 / 65536) ≥ 256 then (if 0 ≤ (((x0 / 65536) / 256) % 256) then (if (((x0 / 65536) / 256) % 256) < 256 then (some (wrap64 ((wrap64 ((wrap64 (x2 + 16)) + 8)) + (wrap64 (bt tab (((x0 / 65536) / 256) % 256)))))) else (none)) else (none)) else (if 0 ≤ ((x0 / 65536) % 256) then (if ((x0 / 65536) % 256) < 256 then (some (wrap64 ((wrap64 (x2 + 16)) + (wrap64 (bt tab ((x0 / 65536) % 256)))))) else (none)) else (none))) else (if x0 ≥ 256 then (if 0 ≤ ((x0 / 256) % 256) then (if ((x0 / 256) % 256) < 256 then (some (wrap64 ((wrap64 (x2 + 8)) + (wrap64 (bt tab ((x0 / 256) % 256)))))) else (none)) else (none)) else (if 0 ≤ ((x0) % 256) then (if ((x0) % 256) < 256 then (some (wrap64 (x2 + (wrap64 (bt tab ((x0) % 256)))))) else (none)) else (none))) := rfl
theorem Len64_j0 {x s : Int} (h0 : 0 ≤ x) (h1 : x ≤ 4294967295) (hs0 : 0 ≤ s) (hs1 : s ≤ 64) (k : Nat) : bits_Len64.j0 (k + 1) x s = some (s + nbits x) := by
  have hu : ∀ L, HasBits x L → L = nbits x := fun L hL => hL.unique h0 (nbits_has h0)
  rw [Len64_j0_unf]
  by_cases a : x ≥ 65536
  · rw [if_pos a]
    by_cases b : x / 65536 ≥ 256
    · rw [if_pos b]
      have e : x / 65536 / 256 % 256 = x / 65536 / 256 := by omega
      have t := tab_bits (i := x / 65536 / 256) (by omega) (by omega)
      have tl := tab_le (x / 65536 / 256)
      have u := hu _ (HasBits.up 16 (x := x) (by omega) (HasBits.up 8 (x := x / 2 ^ 16) (by omega) t))
      rw [e, if_pos (by omega), if_pos (by omega), w64 (a := bt _ _) (by omega) (by omega), w64 (a := s + 16) (by omega) (by omega), w64 (a := s + 16 + 8) (by omega) (by omega), w64 (by omega) (by omega)]
      exact congrArg some (by omega)
    · rw [if_neg b]
      have e : x / 65536 % 256 = x / 65536 := by omega
      have t := tab_bits (i := x / 65536) (by omega) (by omega)
      have tl := tab_le (x / 65536)
      have u := hu _ (HasBits.up 16 (x := x) (by omega) t)
      rw [e, if_pos (by omega), if_pos (by omega), w64 (a := bt _ _) (by omega) (by omega), w64 (a := s + 16) (by omega) (by omega), w64 (by omega) (by omega)]
      exact congrArg some (by omega)
  · rw [if_neg a]
    by_cases b : x ≥ 256
    · rw [if_pos b]
      have e : x / 256 % 256 = x / 256 := by omega
      have t := tab_bits (i := x / 256) (by omega) (by omega)
      have tl := tab_le (x / 256)
      have u := hu _ (HasBits.up 8 (x := x) (by omega) t)
      rw [e, if_pos (by omega), if_pos (by omega), w64 (a := bt _ _) (by omega) (by omega), w64 (a := s + 8) (by omega) (by omega), w64 (by omega) (by omega)]
      exact congrArg some (by omega)
    · rw [if_neg b]
      have e : x % 256 = x := by omega
      have t := tab_bits (i := x) (by omega) (by omega)
      have tl := tab_le x
      have u := hu _ t
      rw [e, if_pos (by omega), if_pos (by omega), w64 (a := bt _ _) (by omega) (by omega), w64 (by omega) (by omega)]
      exact congrArg some (by omega)
theorem Len64_eq {x : Int} (h0 : 0 ≤ x) (h1 : x ≤ 18446744073709551615) {k : Nat} (hk : 1 ≤ k) : bits_Len64.f k x = some (nbits x) := by
  obtain ⟨k, rfl⟩ : ∃ m, k = m + 1 := ⟨k - 1, by omega⟩
  unfold bits_Len64.f
  by_cases h : x ≥ 4294967296
  · rw [if_pos h, Len64_j0 (by omega) (by omega) (by decide) (by decide)]
    have u := (HasBits.up 32 (x := x) (by omega) (nbits_has (n := x / 2 ^ 32) (by omega))).unique h0 (nbits_has h0)
    rw [← u]; rfl
  · rw [if_neg h, Len64_j0 (by omega) (by omega) (by decide) (by decide), Int.zero_add]
theorem Bits_eq {x : Int} (h0 : 0 ≤ x) (h1 : x ≤ 18446744073709551615) {k : Nat} (hk : 1 ≤ k) : logs_Bits.f k x = some (nbits x) := by
  unfold logs_Bits.f; rw [Len64_eq h0 h1 hk]; rfl

/-! roots -/
def IsRoot (n r : Int) : Prop := 0 ≤ r ∧ r * r ≤ n ∧ n < (r + 1) * (r + 1)
theorem IsRoot.unique {n r s : Int} (h : IsRoot n r) (g : IsRoot n s) : r = s := by
  obtain ⟨h0, h1, h2⟩ := h
  obtain ⟨g0, g1, g2⟩ := g
  rcases Int.lt_trichotomy r s with hlt | rfl | hlt
  · exfalso; have := Int.mul_le_mul (show r + 1 ≤ s by omega) (show r + 1 ≤ s by omega) (by omega) (by omega); omega
  · rfl
  · exfalso; have := Int.mul_le_mul (show s + 1 ≤ r by omega) (show s + 1 ≤ r by omega) (by omega) (by omega); omega
theorem lor_bit {r : Int} {j : Nat} (h0 : 0 ≤ r) (hm : r % 2 ^ (j + 1) = 0) (h1 : r + 2 ^ (j + 1) ≤ 4294967296) : Go.bits .or .u64 r (2 ^ j) = r + 2 ^ j := by
  obtain ⟨r, rfl⟩ := Int.eq_ofNat_of_zero_le h0
  have hp : (2 : Int) ^ j = ((2 ^ j : Nat) : Int) := by exact_mod_cast rfl
  have hp1 : (2 : Int) ^ (j + 1) = ((2 ^ (j + 1) : Nat) : Int) := by exact_mod_cast rfl
  rw [hp1] at hm h1
  have hj : 2 ^ (j + 1) = 2 * 2 ^ j := by rw [Nat.pow_succ]; omega
  have hjp := Nat.two_pow_pos j
  rw [hp, u64_or_nat r (2 ^ j) (by omega) (by omega), nat_join (j + 1) r (2 ^ j) (by exact_mod_cast hm) (by omega)]
  exact Int.natCast_add _ _

/-! logs -/
/-- Eight bits of the log, one a round, of a number between 2^30 and 2^31. -/
def logRun : Nat → Int → Int → Int
  | 0, _, q => q
  | i + 1, x, q => if x * x / 1073741824 ≥ 2147483648 then logRun i (x * x / 1073741824 / 2) (2 * q + 1) else logRun i (x * x / 1073741824) (2 * q)
/-- The number, its first bit at the thirtieth. -/
def mant (n : Int) : Int := if nbits n ≤ 31 then n * 2 ^ (31 - nbits n).toNat else n / 2 ^ (nbits n - 31).toNat
/-- The log in 256th parts, of a number that isn't 0. -/
def logV (n : Int) : Int := logRun 8 (mant n) (nbits n - 1)
theorem mant_range {n : Int} (h : 0 < n) : 1073741824 ≤ mant n ∧ mant n < 2147483648 := by
  have p := nbits_pow h
  have b := nbits_pos h
  unfold mant
  by_cases hb : nbits n ≤ 31
  · rw [if_pos hb]
    have e : (2 : Int) ^ (nbits n - 1).toNat * 2 ^ (31 - nbits n).toNat = 1073741824 := by
      rw [← Int.pow_add, show (nbits n - 1).toNat + (31 - nbits n).toNat = 30 by omega]; decide +kernel
    have q := pow_pos' (31 - nbits n).toNat
    have l := Int.mul_le_mul_of_nonneg_right p.1 (show 0 ≤ (2 : Int) ^ (31 - nbits n).toNat by omega)
    have r := Int.mul_lt_mul_of_pos_right p.2 (show 0 < (2 : Int) ^ (31 - nbits n).toNat by omega)
    rw [Int.mul_assoc, e] at r
    omega
  · rw [if_neg hb]
    have e : (2 : Int) ^ (nbits n - 1).toNat = 1073741824 * 2 ^ (nbits n - 31).toNat := by
      rw [show (1073741824 : Int) = 2 ^ 30 by decide +kernel, ← Int.pow_add, show (nbits n - 1).toNat = 30 + (nbits n - 31).toNat by omega]
    have q := pow_pos' (nbits n - 31).toNat
    rw [e] at p
    constructor
    · rw [Int.le_ediv_iff_mul_le (by omega)]; exact p.1
    · rw [Int.ediv_lt_iff_lt_mul (by omega)]; omega
theorem square30 {x : Int} (h0 : 1073741824 ≤ x) (h1 : x < 2147483648) : 1152921504606846976 ≤ x * x ∧ x * x ≤ 4611686014132420609 ∧ 1073741824 ≤ x * x / 1073741824 ∧ x * x / 1073741824 < 4294967296 := by
  have a := Int.mul_le_mul h0 h0 (by decide) (by omega)
  have b := Int.mul_le_mul (show x ≤ 2147483647 by omega) (show x ≤ 2147483647 by omega) (by omega) (by decide)
  omega
theorem logRun_range (i : Nat) : ∀ (x q : Int), 1073741824 ≤ x → x < 2147483648 → logRun i x q / 2 ^ i = q := by
  induction i with
  | zero => intro x q _ _; simp [logRun]
  | succ i ih =>
    intro x q h0 h1
    have s := square30 h0 h1
    have e : (2 : Int) ^ (i + 1) = 2 ^ i * 2 := Int.pow_succ _ _
    simp only [logRun]
    rw [e, ← ediv_ediv' _ (by have := pow_pos' i; omega)]
    split
    · rw [ih _ _ (by omega) (by omega)]; omega
    · rw [ih _ _ (by omega) (by omega)]; omega
theorem logRun_mono (i : Nat) : ∀ (x y q : Int), 1073741824 ≤ x → x ≤ y → y < 2147483648 → logRun i x q ≤ logRun i y q := by
  induction i with
  | zero => intro x y q _ _ _; exact Int.le_refl _
  | succ i ih =>
    intro x y q h0 h1 h2
    have s := square30 h0 (by omega)
    have t := square30 (x := y) (by omega) h2
    have m := Int.ediv_le_ediv (show (0 : Int) < 1073741824 by decide) (Int.mul_le_mul h1 h1 (by omega) (by omega))
    simp only [logRun]
    generalize x * x / 1073741824 = u at *
    generalize y * y / 1073741824 = v at *
    by_cases hu : u ≥ 2147483648
    · rw [if_pos hu, if_pos (by omega)]; exact ih _ _ _ (by omega) (by omega) (by omega)
    · rw [if_neg hu]
      by_cases hv : v ≥ 2147483648
      · rw [if_pos hv]
        have a := logRun_range i u (2 * q) (by omega) (by omega)
        have b := logRun_range i (v / 2) (2 * q + 1) (by omega) (by omega)
        have p := pow_pos' i
        have a1 := Int.lt_ediv_add_one_mul_self (logRun i u (2 * q)) (show (0 : Int) < 2 ^ i by omega)
        have b1 := Int.ediv_mul_le (logRun i (v / 2) (2 * q + 1)) (show (2 : Int) ^ i ≠ 0 by omega)
        rw [a] at a1
        rw [b] at b1
        omega
      · rw [if_neg hv]; exact ih _ _ _ (by omega) (by omega) (by omega)
theorem logV_div {n : Int} (h : 0 < n) : logV n / 256 = nbits n - 1 := by
  have m := mant_range h
  have := logRun_range 8 (mant n) (nbits n - 1) m.1 m.2
  rw [show (2 : Int) ^ 8 = 256 by decide] at this
  exact this
theorem logV_range {n : Int} (h : 0 < n) (h1 : n ≤ 18446744073709551615) : 0 ≤ logV n ∧ logV n ≤ 16383 := by
  have a := logV_div h
  have b := nbits_pos h
  have c := nbits_le (n := n) (m := 64) (by omega) (by rw [show (2 : Int) ^ 64 = 18446744073709551616 by decide +kernel]; omega)
  omega
theorem mant_mono {a b : Int} (h : 0 < a) (hab : a ≤ b) (he : nbits a = nbits b) : mant a ≤ mant b := by
  unfold mant
  rw [he]
  split
  · exact Int.mul_le_mul_of_nonneg_right hab (by have := pow_pos' (31 - nbits b).toNat; omega)
  · exact Int.ediv_le_ediv (by have := pow_pos' (nbits b - 31).toNat; omega) hab
theorem logV_mono {a b : Int} (h : 0 < a) (hab : a ≤ b) : logV a ≤ logV b := by
  have hm := nbits_mono (by omega) hab
  by_cases he : nbits a = nbits b
  · unfold logV
    rw [he]
    exact logRun_mono 8 _ _ _ (mant_range h).1 (mant_mono h hab he) (mant_range (by omega)).2
  · have d1 := logV_div h
    have d2 := logV_div (n := b) (by omega)
    omega
theorem lor_one {q b : Int} (h0 : 0 ≤ q) (h1 : q ≤ 1000000) (hb : b = 0 ∨ b = 1) : Go.bits .or .i32 (2 * q) b = 2 * q + b := by
  obtain ⟨q, rfl⟩ := Int.eq_ofNat_of_zero_le h0
  have hk : ∀ n : Int, 0 ≤ n → n < 2 ^ 31 → IntKind.i32.wrap n = n := wraps_i32
  have e2 : (2 : Int) * (q : Int) = ((2 * q : Nat) : Int) := (Int.natCast_mul 2 q).symm
  rcases hb with rfl | rfl
  · have := (bits_nat .i32 31 (by decide) hk (2 * q) 0 (by omega) (by decide)).2
    rw [e2]
    rw [show ((0 : Int)) = ((0 : Nat) : Int) from rfl, this, Nat.or_zero]; omega
  · have := (bits_nat .i32 31 (by decide) hk (2 * q) 1 (by omega) (by decide)).2
    rw [e2]
    rw [show ((1 : Int)) = ((1 : Nat) : Int) from rfl, this, nat_join 1 (2 * q) 1 (by omega) (by decide)]; omega
theorem Log_l0 (i : Nat) : ∀ (k : Nat) (x q j : Int), i < k → j = 8 - i → 0 ≤ j → 1073741824 ≤ x → x < 2147483648 → 0 ≤ q → q * 2 ^ i ≤ 16383 → logs_Log.l0 k x q j = some (logRun i x q, 0) := by
  induction i with
  | zero =>
    intro k x q j hk hj hj0 _ _ _ _
    obtain ⟨k, rfl⟩ : ∃ m, k = m + 1 := ⟨k - 1, by omega⟩
    simp only [logs_Log.l0]
    rw [if_neg (by omega)]; rfl
  | succ i ih =>
    intro k x q j hk hj hj0 h0 h1 q0 q1
    obtain ⟨k, rfl⟩ : ∃ m, k = m + 1 := ⟨k - 1, by omega⟩
    have s := square30 h0 h1
    have hp := pow_pos' i
    have e : (2 : Int) ^ (i + 1) = 2 * 2 ^ i := pow_succ' _
    rw [e] at q1
    have q2 : q ≤ 16383 := by
      have := Int.mul_le_mul_of_nonneg_left (show 1 ≤ 2 * 2 ^ i by omega) q0; omega
    have q3 : 2 * q * 2 ^ i ≤ 16383 := by rw [Int.mul_comm 2 q, Int.mul_assoc]; exact q1
    simp only [logs_Log.l0, logRun]
    rw [if_pos (by omega), wu64 (a := x * x) (by omega) (by omega)]
    generalize x * x / 1073741824 = u at *
    rw [w32 (a := q * 2) (by omega) (by omega), w64 (a := j + 1) (by omega) (by omega), Int.mul_comm q 2]
    by_cases hu : u ≥ 2147483648
    · have hb : u / 2147483648 = 1 := by omega
      have hs : shr .u64 u 1 = u / 2 := by unfold shr; rfl
      rw [if_pos hu, hb, if_pos (by decide), hs, w32 (by decide) (by decide), lor_one q0 (by omega) (.inr rfl)]
      refine ih k _ _ _ (by omega) (by omega) (by omega) (by omega) (by omega) (by omega) ?_
      -- the last bit: 2 q 2^i + 2^i stays below
      have hq : (2 * q + 1) * 2 ^ i = 2 * q * 2 ^ i + 2 ^ i := by rw [Int.add_mul, Int.one_mul]
      rw [hq]
      have hdiv : (2 ^ i : Int) ∣ 16384 := by
        have hi8 : i ≤ 7 := by omega
        exact ⟨2 ^ (14 - i), by rw [← Int.pow_add, show i + (14 - i) = 14 by omega]; decide +kernel⟩
      obtain ⟨c, hc⟩ := hdiv
      have : 2 * q < c := by
        apply Classical.byContradiction; intro hn
        have := Int.mul_le_mul_of_nonneg_right (show c ≤ 2 * q by omega) (show 0 ≤ (2 : Int) ^ i by omega)
        rw [Int.mul_comm c] at this; omega
      have := Int.mul_le_mul_of_nonneg_right (show 2 * q + 1 ≤ c by omega) (show 0 ≤ (2 : Int) ^ i by omega)
      rw [Int.mul_comm c, hq] at this
      -- c is even where a bit more is to come: 2 q + 1 < c
      by_cases hce : 2 * q + 1 = c
      · exfalso
        have hce2 : c % 2 = 0 := by
          have hi8 : i ≤ 7 := by omega
          have : c = 2 ^ (14 - i) := by
            have h2 : (2 : Int) ^ i * 2 ^ (14 - i) = 2 ^ i * c := by rw [← hc, ← Int.pow_add, show i + (14 - i) = 14 by omega]; decide +kernel
            exact (Int.eq_of_mul_eq_mul_left (by omega) h2).symm
          rw [this, show 14 - i = (13 - i) + 1 by omega, Int.pow_succ]; omega
        omega
      · have := Int.mul_le_mul_of_nonneg_right (show 2 * q + 2 ≤ c by omega) (show 0 ≤ (2 : Int) ^ i by omega)
        rw [Int.mul_comm c, Int.add_mul] at this; omega
    · have hb : u / 2147483648 = 0 := by omega
      have hs : shr .u64 u 0 = u := by unfold shr; rw [show min (0 : Int).toNat IntKind.u64.bits = 0 from rfl, Int.pow_zero, Int.ediv_one]
      rw [if_neg hu, hb, if_pos (by decide), hs, w32 (by decide) (by decide), lor_one q0 (by omega) (.inl rfl), Int.add_zero]
      exact ih k _ _ _ (by omega) (by omega) (by omega) (by omega) (by omega) (by omega) q3
theorem Log_eq {n : Int} (h0 : 0 ≤ n) (h1 : n ≤ 18446744073709551615) {k : Nat} (hk : 10 ≤ k) : logs_Log.f k n = some (if n = 0 then (0, 1) else (logV n, 0)) := by
  unfold logs_Log.f
  rw [Bits_eq h0 h1 (by omega)]; simp only [Option.bind_some]
  have c := nbits_le (n := n) (m := 64) h0 (by rw [show (2 : Int) ^ 64 = 18446744073709551616 by decide +kernel]; omega)
  have b0 := nbits_nonneg n
  rw [w64 (a := nbits n - 1) (by omega) (by omega)]
  by_cases hn : n = 0
  · subst hn; rw [nbits_zero, if_pos (by decide), if_pos rfl]
  · have b := nbits_pos (n := n) (by omega)
    have p := nbits_pow (n := n) (by omega)
    have m := mant_range (n := n) (by omega)
    rw [if_neg (by omega), if_neg hn, w64 (a := 30 - (nbits n - 1)) (by omega) (by omega), w64 (a := nbits n - 1 - 30) (by omega) (by omega), w32 (by omega) (by omega)]
    have e : shr .u64 (shl .u64 n (mx (30 - (nbits n - 1)) 0)) (mx (nbits n - 1 - 30) 0) = mant n := by
      unfold mant at m ⊢
      by_cases hb : nbits n ≤ 31
      · rw [if_pos hb] at m ⊢
        have e1 : mx (30 - (nbits n - 1)) 0 = 31 - nbits n := by unfold mx; split <;> omega
        have e2 : mx (nbits n - 1 - 30) 0 = 0 := by unfold mx; split <;> omega
        rw [e1, e2]
        unfold shr shl
        rw [show min (31 - nbits n).toNat IntKind.u64.bits = (31 - nbits n).toNat by show min _ 64 = _; omega, show min (0 : Int).toNat IntKind.u64.bits = 0 from rfl, Int.pow_zero, Int.ediv_one]
        exact wu64 (by omega) (by omega)
      · rw [if_neg hb] at m ⊢
        have e1 : mx (30 - (nbits n - 1)) 0 = 0 := by unfold mx; split <;> omega
        have e2 : mx (nbits n - 1 - 30) 0 = nbits n - 31 := by unfold mx; split <;> omega
        rw [e1, e2]
        unfold shr shl
        rw [show min (nbits n - 31).toNat IntKind.u64.bits = (nbits n - 31).toNat by show min _ 64 = _; omega, show min (0 : Int).toNat IntKind.u64.bits = 0 from rfl, Int.pow_zero, Int.mul_one, wu64 h0 h1]
    rw [e, Log_l0 8 k _ _ 0 (by omega) rfl (by decide) m.1 m.2 (by omega) (by rw [show (2 : Int) ^ 8 = 256 by decide]; omega)]; rfl

/-! powers -/
def step1 (c w f y : Int) : Int := if f / w % 2 = 1 then y * c / 1073741824 else y
/-- The power's number between 2^30 and 2^31, of 256th parts. -/
def root8 (f : Int) : Int :=
  step1 1076653033 1 f (step1 1079572135 2 f (step1 1085434105 4 f (step1 1097253708 8 f (step1 1121280435 16 f (step1 1170923761 32 f (step1 1276901416 64 f (step1 1518500249 128 f 1073741824)))))))
theorem step1_range {c w f y hi hi2 : Int} (h0 : 1073741824 ≤ y) (h1 : y ≤ hi) (hc : 1073741824 ≤ c) (hc2 : c ≤ 1518500249) (hh : hi * c / 1073741824 ≤ hi2) (hle : hi ≤ hi2) : 1073741824 ≤ step1 c w f y ∧ step1 c w f y ≤ hi2 := by
  unfold step1
  split
  · have a := Int.mul_le_mul h0 hc (by decide) (by omega)
    have b := Int.ediv_le_ediv (show (0 : Int) < 1073741824 by decide) (Int.mul_le_mul_of_nonneg_right h1 (show 0 ≤ c by omega))
    omega
  · omega
/-- Two to the power of q / 256, as many bits behind the point as the document says. -/
def expV (q : Int) : Int := if q / 256 - 14 ≥ 0 then root8 q * 2 ^ (q / 256 - 14).toNat else rnd (root8 q) (14 - q / 256)
theorem root8_mod (q : Int) : root8 (q % 256) = root8 q := by
  unfold root8 step1
  rw [show q % 256 / 128 % 2 = q / 128 % 2 by omega, show q % 256 / 64 % 2 = q / 64 % 2 by omega, show q % 256 / 32 % 2 = q / 32 % 2 by omega, show q % 256 / 16 % 2 = q / 16 % 2 by omega,
    show q % 256 / 8 % 2 = q / 8 % 2 by omega, show q % 256 / 4 % 2 = q / 4 % 2 by omega, show q % 256 / 2 % 2 = q / 2 % 2 by omega, show q % 256 / 1 % 2 = q / 1 % 2 by omega]
theorem root8_range (f : Int) : 1073741824 ≤ root8 f ∧ root8 f ≤ 2147483647 := by
  unfold root8
  have a1 := step1_range (c := 1518500249) (w := 128) (f := f) (y := 1073741824) (hi := 1073741824) (hi2 := 1518500249) (by decide) (by decide) (by decide) (by decide) (by decide) (by decide)
  generalize step1 1518500249 128 f 1073741824 = y1 at *
  have a2 := step1_range (c := 1276901416) (w := 64) (f := f) (hi := 1518500249) (hi2 := 1805811299) a1.1 a1.2 (by decide) (by decide) (by decide) (by decide)
  generalize step1 1276901416 64 f y1 = y2 at *
  have a3 := step1_range (c := 1170923761) (w := 32) (f := f) (hi := 1805811299) (hi2 := 1969251183) a2.1 a2.2 (by decide) (by decide) (by decide) (by decide)
  generalize step1 1170923761 32 f y2 = y3 at *
  have a4 := step1_range (c := 1121280435) (w := 16) (f := f) (hi := 1969251183) (hi2 := 2056437379) a3.1 a3.2 (by decide) (by decide) (by decide) (by decide)
  generalize step1 1121280435 16 f y3 = y4 at *
  have a5 := step1_range (c := 1097253708) (w := 8) (f := f) (hi := 2056437379) (hi2 := 2101467493) a4.1 a4.2 (by decide) (by decide) (by decide) (by decide)
  generalize step1 1097253708 8 f y4 = y5 at *
  have a6 := step1_range (c := 1085434105) (w := 4) (f := f) (hi := 2101467493) (hi2 := 2124350971) a5.1 a5.2 (by decide) (by decide) (by decide) (by decide)
  generalize step1 1085434105 4 f y5 = y6 at *
  have a7 := step1_range (c := 1079572135) (w := 2) (f := f) (hi := 2124350971) (hi2 := 2135885984) a6.1 a6.2 (by decide) (by decide) (by decide) (by decide)
  generalize step1 1079572135 2 f y6 = y7 at *
  have a8 := step1_range (c := 1076653033) (w := 1) (f := f) (hi := 2135885984) (hi2 := 2147483647) a7.1 a7.2 (by decide) (by decide) (by decide) (by decide)
  exact a8
theorem expV_range {q : Int} (h0 : -4096 ≤ q) (h1 : q ≤ 7680) : 0 ≤ expV q ∧ expV q ≤ 140737488355327 := by
  have r := root8_range q
  unfold expV
  split
  · have a := pow_pos' (q / 256 - 14).toNat
    have b := pow_le' (show (q / 256 - 14).toNat ≤ 16 by omega)
    rw [show (2 : Int) ^ 16 = 65536 by decide +kernel] at b
    have c := Int.mul_le_mul r.2 b (by omega) (by decide)
    have d := Int.mul_nonneg (show 0 ≤ root8 q by omega) (show 0 ≤ (2 : Int) ^ (q / 256 - 14).toNat by omega)
    omega
  · have := rnd_range (n := root8 q) (s := 14 - q / 256) (lo := 0) (hi := 2147483647) (by decide) (by decide) (by omega) (by omega)
    omega
end Go.Proofs.YtiiebkfeodmefaaDoor.LogsBaseTuner
