/- Plain lemmas on whole numbers, wraps, shifts and bits; no program in sight. -/
import Derived.RowKit
import Derived.Laws.BitsLemmas
import Derived.Laws.Bits64
import Derived.Laws.BitsAllLaws
import Derived.Test.YtnaeondfkkiimaaWWords
import Derived.Test.YtnaeondfkkiimaaWMore
namespace Go.Proofs.Ytnaeondfkkiimaa.Num
open Go.RowKit Go.Proofs.YtnaeondfkkiimaaW.PrintWords Go.Proofs.YtnaeondfkkiimaaW.PrintLast Go.Proofs.YtnaeondfkkiimaaW.PrintMore

set_option linter.unusedSimpArgs false
set_option linter.unusedVariables false
theorem i64_of {a : Int} (h : (Lit.int .i64 a).wf = true) : -9223372036854775808 ≤ a ∧ a ≤ 9223372036854775807 := by
  simp only [Lit.wf, IntKind.min, IntKind.max, IntKind.signed, IntKind.bits, Bool.and_eq_true, decide_eq_true_eq, if_true] at h; omega
theorem i32_of {a : Int} (h : (Lit.int .i32 a).wf = true) : -2147483648 ≤ a ∧ a ≤ 2147483647 := by
  simp only [Lit.wf, IntKind.min, IntKind.max, IntKind.signed, IntKind.bits, Bool.and_eq_true, decide_eq_true_eq, if_true] at h; omega
theorem i16_of {a : Int} (h : (Lit.int .i16 a).wf = true) : -32768 ≤ a ∧ a ≤ 32767 := by
  simp only [Lit.wf, IntKind.min, IntKind.max, IntKind.signed, IntKind.bits, Bool.and_eq_true, decide_eq_true_eq, if_true] at h; omega
theorem u64_of {a : Int} (h : (Lit.int .u64 a).wf = true) : 0 ≤ a ∧ a ≤ 18446744073709551615 := by
  simp [Lit.wf, IntKind.min, IntKind.max, IntKind.signed, IntKind.bits] at h; omega
theorem u32_of {a : Int} (h : (Lit.int .u32 a).wf = true) : 0 ≤ a ∧ a ≤ 4294967295 := by
  simp [Lit.wf, IntKind.min, IntKind.max, IntKind.signed, IntKind.bits] at h; omega
theorem u16_of {a : Int} (h : (Lit.int .u16 a).wf = true) : 0 ≤ a ∧ a ≤ 65535 := by
  simp [Lit.wf, IntKind.min, IntKind.max, IntKind.signed, IntKind.bits] at h; omega
theorem u8_of {a : Int} (h : (Lit.int .u8 a).wf = true) : 0 ≤ a ∧ a ≤ 255 := by
  simp [Lit.wf, IntKind.min, IntKind.max, IntKind.signed, IntKind.bits] at h; omega

theorem w64 {a : Int} (h : -9223372036854775808 ≤ a) (h' : a ≤ 9223372036854775807) : wrap64 a = a := by unfold wrap64; omega
theorem w32 {a : Int} (h : -2147483648 ≤ a) (h' : a ≤ 2147483647) : wrap32 a = a := by unfold wrap32; omega
theorem wi16 {a : Int} (h : -32768 ≤ a) (h' : a ≤ 32767) : IntKind.i16.wrap a = a := by
  have e : IntKind.i16.wrap a = (a + 32768) % 65536 - 32768 := by
    simp only [IntKind.wrap, IntKind.bits, IntKind.signed, Bool.true_and, Nat.reduceSub, Int.reducePow, decide_eq_true_eq, ge_iff_le]
    split <;> omega
  rw [e]; omega
theorem wu64 {a : Int} (h : 0 ≤ a) (h' : a ≤ 18446744073709551615) : IntKind.u64.wrap a = a := by rw [IntKind.wrap_u64]; omega
theorem wrap64_range (a : Int) : -9223372036854775808 ≤ wrap64 a ∧ wrap64 a ≤ 9223372036854775807 := by unfold wrap64; omega

/-- A quotient by a positive number lies within ends around 0. -/
theorem ediv_range {n p lo hi : Int} (hp : 1 ≤ p) (hlo : lo ≤ 0) (hhi : 0 ≤ hi) (h1 : lo ≤ n) (h2 : n ≤ hi) : lo ≤ n / p ∧ n / p ≤ hi := by
  constructor
  · rw [Int.le_ediv_iff_mul_le (by omega)]
    have : lo * p ≤ lo * 1 := Int.mul_le_mul_of_nonpos_left hlo hp
    omega
  · have : n / p < hi + 1 := by
      rw [Int.ediv_lt_iff_lt_mul (by omega)]
      have : (hi + 1) * 1 ≤ (hi + 1) * p := Int.mul_le_mul_of_nonneg_left hp (by omega)
      omega
    omega
theorem mul_abs {a b A B : Int} (h1 : -A ≤ a) (h2 : a ≤ A) (h3 : -B ≤ b) (h4 : b ≤ B) : -(A * B) ≤ a * b ∧ a * b ≤ A * B := by
  have h : (a * b).natAbs ≤ A.natAbs * B.natAbs := by rw [Int.natAbs_mul]; exact Nat.mul_le_mul (by omega) (by omega)
  have e : A * B = ((A.natAbs * B.natAbs : Nat) : Int) := by rw [Int.natCast_mul, Int.natAbs_of_nonneg (by omega), Int.natAbs_of_nonneg (by omega)]
  omega
theorem pow_pos' (n : Nat) : (1 : Int) ≤ 2 ^ n := by
  have h := Nat.two_pow_pos n
  exact_mod_cast h
theorem pow_succ' (n : Nat) : (2 : Int) ^ (n + 1) = 2 * 2 ^ n := by rw [Int.pow_succ]; omega
theorem pow_le' {m n : Nat} (h : m ≤ n) : (2 : Int) ^ m ≤ 2 ^ n := by
  have := Nat.pow_le_pow_right (show 0 < 2 by decide) h
  exact_mod_cast this
theorem ediv_ediv' (a : Int) {b c : Int} (hb : 0 ≤ b) : a / b / c = a / (b * c) := Int.ediv_ediv_of_nonneg hb

theorem land1 (m : Int) : Go.bits .and .i64 m 1 = m % 2 := by
  change IntKind.i64.wrap (((BitVec.ofInt 64 m &&& BitVec.ofInt 64 1).toNat : Nat) : Int) = _
  have e : (1 % ((2 ^ 64 : Nat) : Int)).toNat = 1 := by decide
  rw [BitVec.toNat_and, BitVec.toNat_ofInt, BitVec.toNat_ofInt, e, Nat.and_one_is_mod, IntKind.wrap_i64]
  omega
theorem land1_i32 (m : Int) : Go.bits .and .i32 m 1 = m % 2 := by
  change IntKind.i32.wrap (((BitVec.ofInt 32 m &&& BitVec.ofInt 32 1).toNat : Nat) : Int) = _
  have e : (1 % ((2 ^ 32 : Nat) : Int)).toNat = 1 := by decide
  rw [BitVec.toNat_and, BitVec.toNat_ofInt, BitVec.toNat_ofInt, e, Nat.and_one_is_mod, IntKind.wrap_i32]
  omega
theorem land1_u64 (m : Int) : Go.bits .and .u64 m 1 = m % 2 := by
  change IntKind.u64.wrap (((BitVec.ofInt 64 m &&& BitVec.ofInt 64 1).toNat : Nat) : Int) = _
  have e : (1 % ((2 ^ 64 : Nat) : Int)).toNat = 1 := by decide
  rw [BitVec.toNat_and, BitVec.toNat_ofInt, BitVec.toNat_ofInt, e, Nat.and_one_is_mod, IntKind.wrap_u64]
  omega
/-- A number of 32 bits, its sign taken off by 'xor'. -/
theorem xor_sign {a : Int} (h : -2147483648 ≤ a) (h' : a ≤ 2147483647) : Go.bits .xor .i32 a (a / 2147483648) % 4294967296 = if 0 ≤ a then a else -a - 1 := by
  by_cases h0 : 0 ≤ a
  · rw [if_pos h0]
    have e : a / 2147483648 = 0 := by omega
    rw [e]
    change IntKind.i32.wrap (((BitVec.ofInt 32 a ^^^ BitVec.ofInt 32 0).toNat : Nat) : Int) % _ = _
    have e : (0 % ((2 ^ 32 : Nat) : Int)).toNat = 0 := by decide
    rw [BitVec.toNat_xor, BitVec.toNat_ofInt, BitVec.toNat_ofInt, e, Nat.xor_zero, IntKind.wrap_i32]
    omega
  · rw [if_neg h0]
    have e : a / 2147483648 = -1 := by omega
    rw [e]
    have e1 : BitVec.ofInt 32 (-1) = BitVec.allOnes 32 := by decide
    change IntKind.i32.wrap (((BitVec.ofInt 32 a ^^^ BitVec.ofInt 32 (-1)).toNat : Nat) : Int) % _ = _
    rw [e1, BitVec.xor_allOnes, BitVec.toNat_not, BitVec.toNat_ofInt, IntKind.wrap_i32]
    omega

/-- The rounded shift: half is added, then down. -/
def rnd (n s : Int) : Int := if s ≤ 0 then n else (n / 2 ^ ((min s 62).toNat - 1) + 1) / 2
theorem rnd_range {n s lo hi : Int} (hlo : lo ≤ 0) (hhi : 0 ≤ hi) (h1 : lo ≤ n) (h2 : n ≤ hi) : lo ≤ rnd n s ∧ rnd n s ≤ hi := by
  unfold rnd
  split
  · exact ⟨h1, h2⟩
  · have := ediv_range (pow_pos' ((min s 62).toNat - 1)) hlo hhi h1 h2
    omega
theorem rnd_mono {n m s : Int} (h : n ≤ m) : rnd n s ≤ rnd m s := by
  unfold rnd
  split
  · exact h
  · have := Int.ediv_le_ediv (show (0 : Int) < 2 ^ ((min s 62).toNat - 1) by have := pow_pos' ((min s 62).toNat - 1); omega) h
    omega
/-- The way the code takes: down, and the last bit that goes. -/
theorem rnd_bit {n s : Int} (h0 : 1 ≤ s) (h1 : s ≤ 62) : n / 2 ^ s.toNat + n / 2 ^ (s.toNat - 1) % 2 = rnd n s := by
  unfold rnd
  rw [if_neg (by omega), Int.min_eq_left h1]
  have e : (2 : Int) ^ s.toNat = 2 ^ (s.toNat - 1) * 2 := by
    conv => lhs; rw [show s.toNat = (s.toNat - 1) + 1 by omega]
    exact Int.pow_succ ..
  rw [e, ← ediv_ediv' n (by have := pow_pos' (s.toNat - 1); omega)]
  omega
/-- Rounded by s bits: half is added, then down. -/
theorem rnd_half {n s : Int} (h0 : 1 ≤ s) (h1 : s ≤ 62) : rnd n s = (n + 2 ^ (s.toNat - 1)) / (2 * 2 ^ (s.toNat - 1)) := by
  unfold rnd
  rw [if_neg (by omega), Int.min_eq_left h1]
  have hp := pow_pos' (s.toNat - 1)
  rw [Int.mul_comm 2, ← ediv_ediv' _ (by omega)]
  have : (n + 2 ^ (s.toNat - 1)) / 2 ^ (s.toNat - 1) = n / 2 ^ (s.toNat - 1) + 1 := by
    rw [Int.add_ediv_of_dvd_right (Int.dvd_refl _), Int.ediv_self (by omega)]
  rw [this]

/-- Within numbers. -/
def clip (n lo hi : Int) : Int := if n < lo then lo else if n > hi then hi else n
theorem clip_range {n lo hi : Int} (h : lo ≤ hi) : lo ≤ clip n lo hi ∧ clip n lo hi ≤ hi := by unfold clip; (repeat' split) <;> omega
theorem clip_mono {n m lo hi : Int} (h : n ≤ m) (hh : lo ≤ hi) : clip n lo hi ≤ clip m lo hi := by unfold clip; (repeat' split) <;> omega
theorem clip_self {n lo hi : Int} (h : lo ≤ n) (h' : n ≤ hi) : clip n lo hi = n := by unfold clip; rw [if_neg (by omega), if_neg (by omega)]
def sat32 (n : Int) : Int := clip n (-2147483648) 2147483647
def sat16 (n : Int) : Int := clip n (-32768) 32767
theorem sat32_range (n : Int) : -2147483648 ≤ sat32 n ∧ sat32 n ≤ 2147483647 := clip_range (by decide)
theorem sat16_range (n : Int) : -32768 ≤ sat16 n ∧ sat16 n ≤ 32767 := clip_range (by decide)
theorem sat32_mono {n m : Int} (h : n ≤ m) : sat32 n ≤ sat32 m := clip_mono h (by decide)
theorem sat16_mono {n m : Int} (h : n ≤ m) : sat16 n ≤ sat16 m := clip_mono h (by decide)
theorem sat32_self {n : Int} (h : -2147483648 ≤ n) (h' : n ≤ 2147483647) : sat32 n = n := clip_self h h'
theorem sat16_self {n : Int} (h : -32768 ≤ n) (h' : n ≤ 32767) : sat16 n = n := clip_self h h'

/-! lists, read at an index -/
theorem rd_set {xs : List Int} {i j v : Int} (hi : 0 ≤ i) (h : i < xs.length) (hj : 0 ≤ j) : rd (xs.set i.toNat v) j = if j = i then v else rd xs j := by
  unfold rd
  rw [List.getD_eq_getElem?_getD, List.getD_eq_getElem?_getD]
  by_cases e : j = i
  · subst e; rw [if_pos rfl, List.getElem?_set_self (by omega)]; rfl
  · rw [if_neg e, List.getElem?_set_ne (by omega)]
theorem rd_snoc {xs : List Int} {j v : Int} (hj : 0 ≤ j) (h : j ≤ xs.length) : rd (xs ++ [v]) j = if j = xs.length then v else rd xs j := by
  unfold rd
  rw [List.getD_eq_getElem?_getD, List.getD_eq_getElem?_getD]
  by_cases e : j = xs.length
  · rw [if_pos e, e, Int.toNat_natCast, List.getElem?_append_right (Nat.le_refl _), Nat.sub_self]; rfl
  · rw [if_neg e, List.getElem?_append_left (by omega)]
theorem rd_replicate {n : Nat} {i : Int} : rd (List.replicate n 0) i = 0 := by
  unfold rd
  rw [List.getD_eq_getElem?_getD, List.getElem?_replicate]
  split <;> rfl
theorem rd_all {P : Int → Prop} {l : List Int} (h : ∀ x ∈ l, P x) {i : Int} (h0 : 0 ≤ i) (h1 : i < l.length) : P (rd l i) := by
  unfold rd
  rw [List.getD_eq_getElem?_getD, List.getElem?_eq_getElem (by omega)]
  exact h _ (List.getElem_mem _)
theorem ext_rd {xs ys : List Int} (hl : xs.length = ys.length) (h : ∀ i : Int, 0 ≤ i → i < xs.length → rd xs i = rd ys i) : xs = ys := by
  apply List.ext_getElem hl
  intro i h1 h2
  have := h i (by omega) (by omega)
  unfold rd at this
  rw [Int.toNat_natCast, List.getD_eq_getElem?_getD, List.getD_eq_getElem?_getD, List.getElem?_eq_getElem h1, List.getElem?_eq_getElem h2] at this
  exact this
end Go.Proofs.Ytnaeondfkkiimaa.Num
