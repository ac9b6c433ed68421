/- The functions of the packages fix and psalteryref01, as far as the key Tuner has them, as plain functions on whole numbers. -/
import Derived.Test.YtiiebkfeodmefaaDoorPTunerx0
import Derived.Test.YtiiebkfeodmefaaDoorPTunerx1
import Derived.Test.YtiiebkfeodmefaaDoorPTunerx2
import Derived.Test.YtiiebkfeodmefaaDoorPTunerx3
import Derived.Test.YtiiebkfeodmefaaDoorPTunerx4
import Derived.Test.YtiiebkfeodmefaaDoorPTunerx5
import Derived.Test.YtiiebkfeodmefaaDoorPTunerx6
import Derived.Test.YtiiebkfeodmefaaDoorNum
namespace Go.Proofs.YtiiebkfeodmefaaDoor.FixBaseTuner
open Go.RowKit Go.Proofs.YtiiebkfeodmefaaDoor.PTuner Go.Proofs.YtiiebkfeodmefaaDoor.Num Go.Proofs.YtiiebkfeodmefaaDoorW.PrintWords Go.Proofs.YtiiebkfeodmefaaDoorW.PrintLast Go.Proofs.YtiiebkfeodmefaaDoorW.PrintMore
set_option linter.unusedSimpArgs false
set_option linter.unusedVariables false

theorem within_int_eq (a lo hi : Int) : fix_within_int.f a lo hi = some (clip a lo hi) := by
  unfold fix_within_int.f clip; (repeat' split) <;> rfl
theorem within64_eq (a lo hi : Int) : fix_within_int64.f a lo hi = some (clip a lo hi) := by
  unfold fix_within_int64.f clip; (repeat' split) <;> rfl
theorem Round_eq {n : Int} (s : Int) (h1 : -9223372036854775808 ≤ n) (h2 : n ≤ 9223372036854775807) : fix_Round.f n s = some (rnd n s) := by
  unfold fix_Round.f
  rw [within_int_eq]; simp only [Option.bind_some]
  by_cases h0 : s ≤ 0
  · have e : clip s 0 62 = 0 := by unfold clip; split <;> (try split) <;> omega
    rw [if_pos e]; unfold rnd; rw [if_pos h0]
  · have e : clip s 0 62 = min s 62 := by unfold clip; rw [if_neg (by omega)]; split <;> omega
    have e2 : rnd n s = rnd n (min s 62) := by
      unfold rnd; rw [if_neg h0, if_neg (by omega)]; rw [show min (min s 62) 62 = min s 62 by omega]
    rw [e, e2]
    generalize hm : min s 62 = m
    have hm1 : 1 ≤ m := by omega
    have hm2 : m ≤ 62 := by omega
    have e3 : wrap64 (m - 1) = m - 1 := w64 (by omega) (by omega)
    rw [if_neg (by omega), if_pos (by omega), e3, if_pos (by omega), land1, ← rnd_bit hm1 hm2]
    unfold shr
    rw [show min m.toNat IntKind.i64.bits = m.toNat by show min m.toNat 64 = _; omega, show min (m - 1).toNat IntKind.i64.bits = m.toNat - 1 by show min (m - 1).toNat 64 = _; omega]
    have a1 := ediv_range (pow_pos' m.toNat) (by decide +kernel) (by decide +kernel) h1 h2
    have a3 := rnd_range (s := m) (by decide +kernel) (by decide +kernel) h1 h2
    rw [← rnd_bit hm1 hm2] at a3
    rw [w64 a3.1 a3.2]
theorem Clip_eq (n lo hi : Int) : fix_Clip.f n lo hi = some (clip n lo hi) := by
  unfold fix_Clip.f; rw [within64_eq]; rfl
theorem prod32 {a b : Int} (h1 : -2147483648 ≤ a) (h2 : a ≤ 2147483647) (h3 : -2147483648 ≤ b) (h4 : b ≤ 2147483647) : -4611686018427387904 ≤ a * b ∧ a * b ≤ 4611686018427387904 := by
  have := mul_abs (A := 2147483648) (B := 2147483648) (by omega) (by omega : a ≤ 2147483648) (by omega) (by omega : b ≤ 2147483648)
  omega
/-! the reference -/
theorem shl1_31 : shl .i64 1 31 = 2147483648 := by decide +kernel
theorem shl1_15 : shl .i64 1 15 = 32768 := by decide +kernel
theorem down_cases {n d : Int} (hd : 1 ≤ d) : (Int.tmod n d < 0 ∧ Int.tdiv n d = n / d + 1) ∨ (¬ Int.tmod n d < 0 ∧ Int.tdiv n d = n / d) := by
  rw [Int.tdiv_eq_ediv, Int.tmod_eq_emod]
  have h1 := Int.emod_nonneg n (show d ≠ 0 by omega)
  have h2 := Int.emod_lt_of_pos n (show 0 < d by omega)
  by_cases h : 0 ≤ n ∨ d ∣ n
  · rw [if_pos h, if_pos h]; right; omega
  · rw [if_neg h, if_neg h, Int.sign_eq_one_of_pos (by omega)]; left; omega
theorem rdown_eq {n d : Int} (hd : 1 ≤ d) (h1 : -9223372036854775808 ≤ n) (h2 : n ≤ 9223372036854775807) : psalteryref01_down.f n d = some (n / d) := by
  unfold psalteryref01_down.f
  rw [if_neg (by omega)]
  have r := ediv_range hd (by decide +kernel) (by decide +kernel) h1 h2
  by_cases hn : n < 0
  · have r2 : n / d < 0 := Int.ediv_neg_of_neg_of_pos hn (by omega)
    rcases down_cases (n := n) hd with ⟨a, b⟩ | ⟨a, b⟩
    · rw [if_pos a, b, w64 (a := n / d + 1) (by omega) (by omega), w64 (by omega) (by omega)]; congr 1; omega
    · rw [if_neg a, b, w64 (by omega) (by omega)]
  · rcases down_cases (n := n) hd with ⟨a, b⟩ | ⟨a, b⟩
    · have : 0 ≤ Int.tmod n d := Int.tmod_nonneg _ (by omega)
      omega
    · rw [if_neg a, b, w64 (by omega) (by omega)]
theorem rRound_eq {n : Int} (s : Int) (h1 : -9223372036854775808 ≤ n) (h2 : n ≤ 9223372036854775806) : psalteryref01_Round.f n s = some (rnd n s) := by
  unfold psalteryref01_Round.f
  by_cases h0 : s ≤ 0
  · have e : mx (mn s 62) 0 = 0 := by unfold mx mn; (repeat' split) <;> omega
    rw [if_pos e]; unfold rnd; rw [if_pos h0]
  · have e : mx (mn s 62) 0 = min s 62 := by unfold mx mn; (repeat' split) <;> omega
    rw [e, if_neg (by omega), wu64 (by omega) (by omega), if_pos (by omega)]
    have e1 : shl .i64 1 (min s 62 - 1) = 2 ^ ((min s 62).toNat - 1) := by
      unfold shl
      have hb : min (min s 62 - 1).toNat IntKind.i64.bits = (min s 62).toNat - 1 := by show min (min s 62 - 1).toNat 64 = _; omega
      rw [hb, Int.one_mul, i64_w]
      have := pow_pos' ((min s 62).toNat - 1)
      have := pow_le' (show (min s 62).toNat - 1 ≤ 61 by omega)
      have e : (2 : Int) ^ 61 = 2305843009213693952 := by decide +kernel
      exact w64 (by omega) (by omega)
    rw [e1, rdown_eq (pow_pos' _) h1 (by omega)]
    simp only [Option.bind_some]
    have r := ediv_range (pow_pos' ((min s 62).toNat - 1)) (by decide +kernel) (by decide +kernel) h1 h2
    rw [w64 (by omega) (by omega), rdown_eq (by decide +kernel) (by omega) (by omega)]
    unfold rnd; rw [if_neg h0]; rfl
/-! how many bits -/
/-- L is how many bits x has. -/
def HasBits (x L : Int) : Prop := 0 ≤ L ∧ x < 2 ^ L.toNat ∧ (L = 0 ∨ 2 ^ (L.toNat - 1) ≤ x)
theorem HasBits.unique {x L M : Int} (hx : 0 ≤ x) (h : HasBits x L) (g : HasBits x M) : L = M := by
  obtain ⟨h0, h1, h2⟩ := h
  obtain ⟨g0, g1, g2⟩ := g
  rcases Int.lt_trichotomy L M with hlt | rfl | hlt
  · exfalso
    rcases g2 with rfl | g2
    · omega
    · have := pow_le' (show L.toNat ≤ M.toNat - 1 by omega); omega
  · rfl
  · exfalso
    rcases h2 with rfl | h2
    · omega
    · have := pow_le' (show M.toNat ≤ L.toNat - 1 by omega); omega
theorem HasBits.le {x L : Int} {n : Nat} (hx : x < 2 ^ n) (h : HasBits x L) : L ≤ n := by
  obtain ⟨h0, h1, h2⟩ := h
  rcases h2 with rfl | h2
  · omega
  · apply Classical.byContradiction; intro hn
    have := pow_le' (show n ≤ L.toNat - 1 by omega); omega
theorem HasBits.up {x t : Int} (c : Nat) (hx : 2 ^ c ≤ x) (h : HasBits (x / 2 ^ c) t) : HasBits x (c + t) := by
  obtain ⟨h0, h1, h2⟩ := h
  have hp := pow_pos' c
  have y1 : 1 ≤ x / 2 ^ c := by rw [Int.le_ediv_iff_mul_le (by omega)]; omega
  have ht : t ≠ 0 := by rintro rfl; rw [show ((0 : Int).toNat) = 0 from rfl, Int.pow_zero] at h1; omega
  refine ⟨by omega, ?_, .inr ?_⟩
  · rw [Int.ediv_lt_iff_lt_mul (by omega)] at h1
    rw [show ((c : Int) + t).toNat = t.toNat + c by omega, Int.pow_add]; exact h1
  · rcases h2 with h2 | h2
    · exact absurd h2 ht
    · rw [Int.le_ediv_iff_mul_le (by omega)] at h2
      rw [show ((c : Int) + t).toNat - 1 = (t.toNat - 1) + c by omega, Int.pow_add]; exact h2
def tab : ByteArray := ⟨#[0, 1, 2, 2, 3, 3, 3, 3, 4, 4, 4, 4, 4, 4, 4, 4, 5, 5, 5, 5, 5, 5, 5, 5, 5, 5, 5, 5, 5, 5, 5, 5, 6, 6, 6, 6, 6, 6, 6, 6, 6, 6, 6, 6, 6, 6, 6, 6, 6, 6, 6, 6, 6, 6, 6, 6, 6, 6, 6, 6, 6, 6, 6, 6, 7, 7, 7, 7, 7, 7, 7, 7, 7, 7, 7, 7, 7, 7, 7, 7, 7, 7, 7, 7, 7, 7, 7, 7, 7, 7, 7, 7, 7, 7, 7, 7, 7, 7, 7, 7, 7, 7, 7, 7, 7, 7, 7, 7, 7, 7, 7, 7, 7, 7, 7, 7, 7, 7, 7, 7, 7, 7, 7, 7, 7, 7, 7, 7, 8, 8, 8, 8, 8, 8, 8, 8, 8, 8, 8, 8, 8, 8, 8, 8, 8, 8, 8, 8, 8, 8, 8, 8, 8, 8, 8, 8, 8, 8, 8, 8, 8, 8, 8, 8, 8, 8, 8, 8, 8, 8, 8, 8, 8, 8, 8, 8, 8, 8, 8, 8, 8, 8, 8, 8, 8, 8, 8, 8, 8, 8, 8, 8, 8, 8, 8, 8, 8, 8, 8, 8, 8, 8, 8, 8, 8, 8, 8, 8, 8, 8, 8, 8, 8, 8, 8, 8, 8, 8, 8, 8, 8, 8, 8, 8, 8, 8, 8, 8, 8, 8, 8, 8, 8, 8, 8, 8, 8, 8, 8, 8, 8, 8, 8, 8, 8, 8, 8, 8, 8, 8, 8, 8, 8, 8, 8, 8]⟩
theorem tab_spec : ∀ i : Fin 256, (0 : Int) ≤ bt tab i.val ∧ ((i.val : Nat) : Int) < 2 ^ (bt tab i.val).toNat ∧ (bt tab i.val = 0 ∨ 2 ^ ((bt tab i.val).toNat - 1) ≤ ((i.val : Nat) : Int)) := by decide +kernel
theorem tab_bits {i : Int} (h0 : 0 ≤ i) (h1 : i < 256) : HasBits i (bt tab i) := by
  have := tab_spec ⟨i.toNat, by omega⟩
  simp only [Int.toNat_of_nonneg h0] at this
  exact this
theorem tab_le (i : Int) : 0 ≤ bt tab i ∧ bt tab i ≤ 255 := bt_range tab i
/-- How often a may be doubled. -/
def Spares (a k : Int) : Prop := 0 ≤ k ∧ k ≤ 31 ∧ -2147483648 ≤ a * 2 ^ k.toNat ∧ a * 2 ^ k.toNat ≤ 2147483647 ∧ (k = 31 ∨ a * 2 ^ (k.toNat + 1) < -2147483648 ∨ 2147483647 < a * 2 ^ (k.toNat + 1))
theorem Spares.back {a k : Int} (h : Spares a k) : shr .i32 (shl .i32 a (IntKind.u64.wrap k)) (IntKind.u64.wrap k) = a := by
  obtain ⟨h0, h1, h2, h3, _⟩ := h
  rw [wu64 (by omega) (by omega)]
  unfold shr shl
  rw [show min k.toNat IntKind.i32.bits = k.toNat by show min k.toNat 32 = _; omega, i32_w, w32 h2 h3]
  exact Int.mul_ediv_cancel _ (by have := pow_pos' k.toNat; omega)
theorem Spares.unique {a k j : Int} (h : Spares a k) (g : Spares a j) : k = j := by
  have key : ∀ {k j : Int}, Spares a k → Spares a j → ¬ k < j := by
    intro k j h g hlt
    obtain ⟨h0, h1, h2, h3, h4⟩ := h
    obtain ⟨g0, g1, g2, g3, g4⟩ := g
    have hp := pow_pos' (j.toNat - (k.toNat + 1))
    have e : (2 : Int) ^ j.toNat = 2 ^ (k.toNat + 1) * 2 ^ (j.toNat - (k.toNat + 1)) := by rw [← Int.pow_add]; congr 1; omega
    rw [e, ← Int.mul_assoc] at g2 g3
    generalize (2 : Int) ^ (j.toNat - (k.toNat + 1)) = Q at *
    generalize a * 2 ^ (k.toNat + 1) = A at *
    rcases h4 with h4 | h4 | h4
    · omega
    · have := Int.mul_le_mul_of_nonpos_left (show A ≤ 0 by omega) hp; omega
    · have := Int.mul_le_mul_of_nonneg_left hp (show 0 ≤ A by omega); omega
  have a1 := key h g
  have a2 := key g h
  omega
end Go.Proofs.YtiiebkfeodmefaaDoor.FixBaseTuner
