/- Planes, their bands and scales, numbers in a few bits and back: the functions of quant and psalteryref13 as plain functions on whole numbers. -/
import Derived.Test.YtnaeondfkkiimaaPPairsx7
import Derived.Test.YtnaeondfkkiimaaPPairsx8
import Derived.Test.YtnaeondfkkiimaaPPairsx4
import Derived.Test.YtnaeondfkkiimaaNum
namespace Go.Proofs.Ytnaeondfkkiimaa.PairsLib
open Go.RowKit Go.Proofs.Ytnaeondfkkiimaa.PPairs Go.Proofs.Ytnaeondfkkiimaa.Num Go.Proofs.YtnaeondfkkiimaaW.PrintWords Go.Proofs.YtnaeondfkkiimaaW.PrintLast Go.Proofs.YtnaeondfkkiimaaW.PrintMore
set_option linter.unusedSimpArgs false
set_option linter.unusedVariables false

theorem Clip_eq (n lo hi : Int) : fix_Clip.f n lo hi = some (clip n lo hi) := by
  unfold fix_Clip.f fix_within_int64.f clip; split
  · rfl
  · split <;> rfl

/-- May a scale and bits be? -/
def may (s b : Int) : Prop := 0 ≤ s ∧ s ≤ 15 ∧ (b = 0 ∨ (2 ≤ b ∧ b ≤ 16))
instance (s b : Int) : Decidable (may s b) := by unfold may; exact inferInstance
theorem may_eq (s b : Int) : quant_may.f s b = some (decide (may s b)) := by
  unfold quant_may.f may
  (repeat' split) <;> (congr 1; first | exact (decide_eq_true (by omega)).symm | exact (decide_eq_false (by omega)).symm | exact decide_eq_decide.2 (by omega))
/-- The reach of a scale, the levels of bits. -/
def reach (s : Int) : Int := 2 ^ (s + 1).toNat
def levels (b : Int) : Int := 2 ^ b.toNat - 1
theorem reach_range {s : Int} (h0 : 0 ≤ s) (h1 : s ≤ 15) : 2 ≤ reach s ∧ reach s ≤ 65536 := by
  unfold reach
  have a := pow_le' (show 1 ≤ (s + 1).toNat by omega)
  have b := pow_le' (show (s + 1).toNat ≤ 16 by omega)
  exact ⟨a, b⟩
theorem levels_range {b : Int} (h0 : 2 ≤ b) (h1 : b ≤ 16) : 3 ≤ levels b ∧ levels b ≤ 65535 := by
  unfold levels
  have a := pow_le' (show 2 ≤ b.toNat by omega)
  have c := pow_le' (show b.toNat ≤ 16 by omega)
  have e1 : (2 : Int) ^ 2 = 4 := by decide
  have e2 : (2 : Int) ^ 16 = 65536 := by decide
  omega
theorem shl2 {s : Int} (h0 : 0 ≤ s) (h1 : s ≤ 15) : shl .i64 2 s = reach s := by
  have r := reach_range h0 h1
  unfold shl
  rw [show min s.toNat IntKind.i64.bits = s.toNat by show min s.toNat 64 = _; omega, ← pow_succ', show s.toNat + 1 = (s + 1).toNat by omega, i64_w]
  exact w64 (by unfold reach at r; omega) (by unfold reach at r; omega)
theorem shl1 {b : Int} (h0 : 2 ≤ b) (h1 : b ≤ 16) : shl .i64 1 b = levels b + 1 := by
  have r := levels_range h0 h1
  unfold shl
  unfold levels at r ⊢
  rw [show min b.toNat IntKind.i64.bits = b.toNat by show min b.toNat 64 = _; omega, Int.one_mul, i64_w]
  rw [w64 (by omega) (by omega)]; omega
theorem shr_reach {n s : Int} (h0 : 0 ≤ s) (h1 : s ≤ 15) : shr .i64 n (s + 1) = n / reach s := by
  unfold shr reach
  rw [show min (s + 1).toNat IntKind.i64.bits = (s + 1).toNat by show min (s + 1).toNat 64 = _; omega]

/-- A number in a few bits. -/
def quant (x s b : Int) : Int × Int :=
  if may s b then (if b = 0 then (0, 0) else ((clip x (1 - reach s) (reach s - 1) * levels b / reach s + levels b) / 2, 0)) else (0, 1)
theorem Quant_eq {x s b : Int} (h1 : -2147483648 ≤ x) (h2 : x ≤ 2147483647) : quant_Quant.f x s b = some (quant x s b) := by
  unfold quant_Quant.f quant
  rw [may_eq]; simp only [Option.bind_some]
  by_cases hm : may s b
  · rw [decide_eq_true hm, if_pos rfl, if_pos hm]
    by_cases hb : b = 0
    · rw [if_pos hb, if_pos hb]
    · rw [if_neg hb, if_neg hb]
      obtain ⟨s0, s1, hbb⟩ := hm
      have hb2 : 2 ≤ b ∧ b ≤ 16 := by omega
      have hR := reach_range s0 s1
      have hL := levels_range hb2.1 hb2.2
      rw [if_pos s0, if_pos (by omega), shl2 s0 s1, shl1 hb2.1 hb2.2, w64 (a := x) (by omega) (by omega), w64 (a := 1 - reach s) (by omega) (by omega), w64 (a := reach s - 1) (by omega) (by omega), Clip_eq]
      simp only [Option.bind_some]
      have hc := clip_range (n := x) (show 1 - reach s ≤ reach s - 1 by omega)
      generalize clip x (1 - reach s) (reach s - 1) = c at *
      rw [w64 (a := s + 1) (by omega) (by omega), if_pos (by omega), w64 (a := levels b + 1 - 1) (by omega) (by omega), show levels b + 1 - 1 = levels b by omega]
      have hp := mul_abs (a := c) (b := levels b) (A := 65536) (B := 65536) (by omega) (by omega) (by omega) (by omega)
      rw [w64 (a := c * levels b) (by omega) (by omega), shr_reach s0 s1]
      have hd := ediv_range (n := c * levels b) (p := reach s) (lo := -4294967296) (hi := 4294967296) (by omega) (by decide) (by decide) (by omega) (by omega)
      rw [w64 (by omega) (by omega)]
  · rw [decide_eq_false hm, if_neg Bool.false_ne_true, if_neg hm]

/-! the reference -/
theorem power_l0 (n : Int) (hn : n ≤ 62) (d : Nat) : ∀ (k : Nat) (i : Int), 0 ≤ i → i ≤ n → n - i = d → d < k → psalteryref13_power.l0 k n (2 ^ i.toNat) i = some (2 ^ n.toNat) := by
  induction d with
  | zero =>
    intro k i i0 i1 hd hk
    obtain ⟨k, rfl⟩ : ∃ m, k = m + 1 := ⟨k - 1, by omega⟩
    simp only [psalteryref13_power.l0]
    rw [if_neg (by omega)]
    obtain rfl : i = n := by omega
    rfl
  | succ d ih =>
    intro k i i0 i1 hd hk
    obtain ⟨k, rfl⟩ : ∃ m, k = m + 1 := ⟨k - 1, by omega⟩
    simp only [psalteryref13_power.l0]
    have e : (2 : Int) ^ i.toNat * 2 = 2 ^ (i + 1).toNat := by rw [show (i + 1).toNat = i.toNat + 1 by omega, Int.pow_succ]
    have hp := pow_pos' (i + 1).toNat
    have hq := pow_le' (show (i + 1).toNat ≤ 62 by omega)
    have e62 : (2 : Int) ^ 62 = 4611686018427387904 := by decide +kernel
    rw [if_pos (by omega), e, w64 (by omega) (by omega), w64 (by omega) (by omega)]
    exact ih k (i + 1) (by omega) (by omega) (by omega) (by omega)
theorem power_eq {n : Int} (h0 : 0 ≤ n) (h1 : n ≤ 62) {k : Nat} (hk : n.toNat < k) : psalteryref13_power.f k n = some (2 ^ n.toNat) := by
  have := power_l0 n h1 n.toNat k 0 (by omega) h0 (by omega) hk
  rw [show ((0 : Int).toNat) = 0 from rfl, Int.pow_zero] at this
  exact this
theorem tdiv_cases {n d : Int} (hd : 1 ≤ d) : (Int.tdiv n d * d > n ∧ Int.tdiv n d = n / d + 1) ∨ (¬ Int.tdiv n d * d > n ∧ Int.tdiv n d = n / d) := by
  have h1 := Int.emod_nonneg n (show d ≠ 0 by omega)
  have h3 := Int.emod_add_mul_ediv n d
  have h2 := Int.emod_lt_of_pos n (show 0 < d by omega)
  rw [Int.tdiv_eq_ediv]
  by_cases h : 0 ≤ n ∨ d ∣ n
  · rw [if_pos h, Int.add_zero, Int.mul_comm]; right; omega
  · rw [if_neg h, Int.sign_eq_one_of_pos (by omega), Int.add_mul, Int.mul_comm (n / d)]; left; omega
theorem rdown_eq {n d : Int} (hd : 1 ≤ d) (hd2 : d ≤ 4294967296) (h1 : -4611686018427387904 ≤ n) (h2 : n ≤ 4611686018427387904) : psalteryref13_down.f n d = some (n / d) := by
  unfold psalteryref13_down.f
  rw [if_neg (by omega)]
  have r := ediv_range hd (by decide) (by decide) h1 h2
  have h1' := Int.emod_nonneg n (show d ≠ 0 by omega)
  have h3 := Int.emod_add_mul_ediv n d
  have h2' := Int.emod_lt_of_pos n (show 0 < d by omega)
  rw [Int.mul_comm] at h3
  rcases tdiv_cases (n := n) hd with ⟨a, b⟩ | ⟨a, b⟩
  · rw [b] at a ⊢
    rw [Int.add_mul, Int.one_mul] at a
    rw [w64 (a := n / d + 1) (by omega) (by omega), Int.add_mul, Int.one_mul, w64 (by omega) (by omega), if_pos a, w64 (by omega) (by omega)]; congr 1; omega
  · rw [b] at a ⊢
    rw [w64 (a := n / d) (by omega) (by omega), w64 (by omega) (by omega), if_neg a]
/-- The number of a few bits. -/
def level (q s b : Int) : Int × Int :=
  if may s b ∧ 0 ≤ q ∧ (b = 0 → q = 0) ∧ (b ≠ 0 → q < levels b) then (if b = 0 then (0, 0) else ((2 * q + 1) * reach s / levels b - reach s, 0)) else (0, 1)
theorem level_math {q s b : Int} (hs0 : 0 ≤ s) (hs1 : s ≤ 15) (hb0 : 2 ≤ b) (hb1 : b ≤ 16) (q0 : 0 ≤ q) (q1 : q < levels b) :
    0 ≤ (2 * q + 1) * reach s ∧ (2 * q + 1) * reach s ≤ 8589934592 ∧ 0 ≤ (2 * q + 1) * reach s / levels b ∧ (2 * q + 1) * reach s / levels b ≤ 131072 := by
  have hR := reach_range hs0 hs1
  have hL := levels_range hb0 hb1
  have a := Int.mul_nonneg (show 0 ≤ 2 * q + 1 by omega) (show 0 ≤ reach s by omega)
  have b' := Int.mul_le_mul_of_nonneg_right (show 2 * q + 1 ≤ 2 * levels b by omega) (show 0 ≤ reach s by omega)
  have c := Int.mul_le_mul_of_nonneg_left (show reach s ≤ 65536 by omega) (show 0 ≤ 2 * levels b by omega)
  refine ⟨a, by omega, Int.ediv_nonneg a (by omega), ?_⟩
  have : (2 * q + 1) * reach s / levels b < 131073 := by
    rw [Int.ediv_lt_iff_lt_mul (by omega)]; omega
  omega
theorem Level_eq {q s b : Int} (h1 : -9223372036854775808 ≤ q) (h2 : q ≤ 9223372036854775807) {k : Nat} (hk : 0 < k) : quant_Level.f k q s b = some (level q s b) := by
  obtain ⟨k, rfl⟩ : ∃ m, k = m + 1 := ⟨k - 1, by omega⟩
  unfold quant_Level.f level
  rw [may_eq]; simp only [Option.bind_some]
  by_cases hm : may s b
  · rw [decide_eq_true hm, if_pos rfl]
    have hm' := hm
    obtain ⟨s0, s1, hbb⟩ := hm'
    by_cases hq : q < 0
    · rw [if_pos hq, decide_eq_true hq, if_neg (by omega)]; simp only [quant_Level.j0, if_true]
    · rw [if_neg hq]
      by_cases hb : b = 0
      · subst hb
        rw [if_pos rfl]
        by_cases hq0 : q = 0
        · subst hq0
          rw [if_pos rfl, if_neg (by decide)]; simp only [quant_Level.j0]
          simp only [if_true]; rw [if_neg Bool.false_ne_true, if_pos ⟨hm, Int.le_refl _, fun _ => trivial, fun h => absurd rfl h⟩]
        · rw [if_neg hq0, if_neg (by omega), bne_iff_ne.2 hq0]; simp only [quant_Level.j0, if_true]
      · have hb2 : 2 ≤ b ∧ b ≤ 16 := by omega
        have hR := reach_range s0 s1
        have hL := levels_range hb2.1 hb2.2
        rw [if_neg hb, if_pos (by omega), if_pos (by omega), shl1 hb2.1 hb2.2, w64 (by omega) (by omega), show levels b + 1 - 1 = levels b by omega]
        by_cases hq1 : q ≥ levels b
        · rw [decide_eq_true hq1, if_neg (by omega)]; simp only [quant_Level.j0, if_true]
        · rw [decide_eq_false hq1, if_pos ⟨hm, by omega, by omega, by omega⟩, if_neg hb]; simp only [quant_Level.j0]
          have m := level_math s0 s1 hb2.1 hb2.2 (show 0 ≤ q by omega) (by omega)
          rw [if_neg Bool.false_ne_true, if_neg hb, if_pos s0, if_pos (by omega), shl1 hb2.1 hb2.2, w64 (a := levels b + 1 - 1) (by omega) (by omega), show levels b + 1 - 1 = levels b by omega, if_neg (by omega), shl2 s0 s1]
          rw [w64 (a := 2 * q) (by omega) (by omega), w64 (a := 2 * q + 1) (by omega) (by omega), w64 (a := (2 * q + 1) * reach s) (by omega) (by omega), Int.tdiv_eq_ediv_of_nonneg m.1, w64 (a := _ / _) (by omega) (by omega), w64 (by omega) (by omega), w32 (by omega) (by omega)]
  · rw [decide_eq_false hm, if_neg Bool.false_ne_true, if_neg (fun h => hm h.1)]; simp only [quant_Level.j0, Bool.not_false, if_true]
/-! scales -/
theorem Scale_l0 (m : Int) (d : Nat) : ∀ (k : Nat) (i : Int), 0 ≤ i → i ≤ 15 → 15 - i = d → d + 17 < k → ∃ r, quant_Scale.l0 k m i = some r ∧ psalteryref13_Scale.l0 k m i = some r ∧ 0 ≤ r ∧ r ≤ 15 := by
  induction d with
  | zero =>
    intro k i i0 i1 hd hk
    obtain ⟨k, rfl⟩ : ∃ m, k = m + 1 := ⟨k - 1, by omega⟩
    simp only [quant_Scale.l0, psalteryref13_Scale.l0]
    rw [if_neg (by omega), if_neg (by omega)]
    exact ⟨15, by congr 1; omega, rfl, by decide, by decide⟩
  | succ d ih =>
    intro k i i0 i1 hd hk
    obtain ⟨k, rfl⟩ : ∃ m, k = m + 1 := ⟨k - 1, by omega⟩
    simp only [quant_Scale.l0, psalteryref13_Scale.l0]
    rw [if_pos (show i < 15 by omega), if_pos i0, if_pos (show i < 15 by omega), shl2 i0 i1, w64 (a := i + 1) (by omega) (by omega), power_eq (by omega) (by omega) (by omega)]
    simp only [Option.bind_some]
    rw [show (2 : Int) ^ (i + 1).toNat = reach i from rfl]
    by_cases g : m ≥ reach i
    · rw [if_pos g, if_neg (by omega)]
      exact ih k (i + 1) (by omega) (by omega) (by omega) (by omega)
    · rw [if_neg g, if_pos (by omega)]; exact ⟨i, rfl, rfl, i0, i1⟩
theorem Scale_eq (m : Int) {k : Nat} (hk : 40 < k) : ∃ r, quant_Scale.f k m = some r ∧ psalteryref13_Scale.f k m = some r ∧ 0 ≤ r ∧ r ≤ 15 :=
  Scale_l0 m 15 k 0 (by decide) (by decide) (by decide) (by omega)
theorem alive_eq {k : Nat} (hk : 40 < k) : psalterylaw13_alive.f k = some true := by
  unfold psalterylaw13_alive.f
  have e1 : quant_Scale.f k 1 = some 0 := by
    obtain ⟨k, rfl⟩ : ∃ m, k = m + 1 := ⟨k - 1, by omega⟩
    unfold quant_Scale.f; simp only [quant_Scale.l0]
    rw [if_pos (by decide), if_pos (by decide), if_neg (by decide +kernel)]
  have e2 : quant_Scale.f k 2 = some 1 := by
    obtain ⟨k, rfl⟩ : ∃ m, k = m + 2 := ⟨k - 2, by omega⟩
    unfold quant_Scale.f; simp only [quant_Scale.l0]
    rw [if_pos (by decide), if_pos (by decide), if_pos (by decide +kernel), show wrap64 (0 + 1) = 1 by decide +kernel, if_pos (by decide), if_pos (by decide), if_neg (by decide +kernel)]
  rw [Quant_eq (by decide) (by decide), Level_eq (by decide) (by decide) (by omega), Level_eq (by decide) (by decide) (by omega), e1, e2]
  simp only [Option.bind_some]
  decide +kernel
theorem within64_eq (a lo hi : Int) : fix_within_int64.f a lo hi = some (clip a lo hi) := by
  unfold fix_within_int64.f clip; (repeat' split) <;> rfl
theorem Sat32_eq (n : Int) : fix_Sat32.f n = some (sat32 n) := by
  unfold fix_Sat32.f; rw [within64_eq]; simp only [Option.bind_some]
  have := clip_range (n := n) (show (-2147483648 : Int) ≤ 2147483647 by decide +kernel)
  rw [w32 this.1 this.2]; rfl
theorem Add_eq {a b : Int} (h1 : -2147483648 ≤ a) (h2 : a ≤ 2147483647) (h3 : -2147483648 ≤ b) (h4 : b ≤ 2147483647) : fix_Add.f a b = some (sat32 (a + b)) := by
  unfold fix_Add.f
  rw [w64 (a := a) (by omega) (by omega), w64 (a := b) (by omega) (by omega), w64 (by omega) (by omega), Sat32_eq]; rfl
theorem Sub_eq {a b : Int} (h1 : -2147483648 ≤ a) (h2 : a ≤ 2147483647) (h3 : -2147483648 ≤ b) (h4 : b ≤ 2147483647) : fix_Sub.f a b = some (sat32 (a - b)) := by
  unfold fix_Sub.f
  rw [w64 (a := a) (by omega) (by omega), w64 (a := b) (by omega) (by omega), w64 (by omega) (by omega), Sat32_eq]; rfl

/-! the reference -/
theorem shl1_31 : shl .i64 1 31 = 2147483648 := by decide +kernel
theorem rSat32_eq (n : Int) : psalteryref01_Sat.f n 32 = some (sat32 n) := by
  unfold psalteryref01_Sat.f sat32 clip
  rw [show IntKind.u64.wrap (wrap64 (32 - 1)) = 31 by decide +kernel, shl1_31, show wrap64 (2147483648 - 1) = 2147483647 by decide +kernel, show wrap64 (wrap64 (-2147483647) - 1) = -2147483648 by decide +kernel, if_pos (by decide +kernel)]
  (repeat' split) <;> first | rfl | omega
theorem rdL_mem {l : List (List Int)} {i : Int} (h0 : 0 ≤ i) (h1 : i < l.length) : rd_L1 l i ∈ l := by
  unfold rd_L1
  rw [List.getD_eq_getElem?_getD, List.getElem?_eq_getElem (by omega)]
  exact List.getElem_mem _

/-- What is asked of a plane that came in. -/
def Plane (l : List (List Int)) : Prop := l.length ≤ 9223372036854775807 ∧ ∀ r ∈ l, r.length ≤ 9223372036854775807 ∧ ∀ x ∈ r, -2147483648 ≤ x ∧ x ≤ 2147483647

theorem Far_l0 {l : List (List Int)} (hl : l.length ≤ 40) (d : Nat) : ∀ (k : Nat) (i : Int), 0 ≤ i → i ≤ l.length → (l.length : Int) - i = d → d < k →
    (psalteryref13_Far.l0 k l i = some true) ∨ (psalteryref13_Far.l0 k l i = some false) := by
  induction d with
  | zero =>
    intro k i i0 i1 hd hk
    obtain ⟨k, rfl⟩ : ∃ m, k = m + 1 := ⟨k - 1, by omega⟩
    simp only [psalteryref13_Far.l0]
    rw [if_neg (by omega)]; exact .inr rfl
  | succ d ih =>
    intro k i i0 i1 hd hk
    obtain ⟨k, rfl⟩ : ∃ m, k = m + 1 := ⟨k - 1, by omega⟩
    simp only [psalteryref13_Far.l0]
    rw [if_pos (by omega), if_pos i0]
    split
    · exact .inl rfl
    · rw [w64 (by omega) (by omega)]; exact ih k (i + 1) (by omega) (by omega) (by omega) (by omega)
/-- Far tells something; if it is false the plane has at most 40 rows. -/
theorem Far_eq (l : List (List Int)) {k : Nat} (hk : 41 < k) : psalteryref13_Far.f k l = some true ∨ (psalteryref13_Far.f k l = some false ∧ l.length ≤ 40) := by
  unfold psalteryref13_Far.f
  by_cases h : (l.length : Int) > 40
  · rw [if_pos h]; exact .inl rfl
  · rw [if_neg h]
    rcases Far_l0 (l := l) (by omega) l.length k 0 (by omega) (by omega) (by omega) (by omega) with g | g
    · exact .inl g
    · exact .inr ⟨g, by omega⟩

/-- The bands of a plane: 0 where it is none. -/
def Even (l : List (List Int)) (n : Int) : Prop := ∀ i : Int, 0 ≤ i → i < l.length → ((rd_L1 l i).length : Int) = n
theorem bands_l0 {l : List (List Int)} (hl : 0 < l.length) (hl2 : l.length ≤ 40) (d : Nat) : ∀ (k : Nat) (i : Int), 0 ≤ i → i ≤ l.length → (l.length : Int) - i = d → d < k →
    (∀ j : Int, 0 ≤ j → j < i → ((rd_L1 l j).length : Int) = ((rd_L1 l 0).length : Int)) →
    (quant_bands.l0 k l l (l.length : Int) i = some ((rd_L1 l 0).length : Int) ∧ psalteryref13_Bands.l0 k l ((rd_L1 l 0).length : Int) i = (if ((rd_L1 l 0).length : Int) > 8 then some 0 else some ((rd_L1 l 0).length : Int)) ∧ Even l (rd_L1 l 0).length) ∨
    (quant_bands.l0 k l l (l.length : Int) i = some 0 ∧ psalteryref13_Bands.l0 k l ((rd_L1 l 0).length : Int) i = some 0) := by
  induction d with
  | zero =>
    intro k i i0 i1 hd hk hj
    obtain ⟨k, rfl⟩ : ∃ m, k = m + 1 := ⟨k - 1, by omega⟩
    simp only [quant_bands.l0, psalteryref13_Bands.l0]
    have hge : ¬ i < (l.length : Int) := by omega
    rw [if_neg hge, if_neg hge, if_pos (show (0 : Int) < (l.length : Int) by omega)]
    exact .inl ⟨rfl, rfl, fun j h0 h1 => hj j h0 (by omega)⟩
  | succ d ih =>
    intro k i i0 i1 hd hk hj
    obtain ⟨k, rfl⟩ : ∃ m, k = m + 1 := ⟨k - 1, by omega⟩
    simp only [quant_bands.l0, psalteryref13_Bands.l0]
    have hlt : i < (l.length : Int) := by omega
    simp only [if_pos hlt, if_pos i0, if_pos (show (0 : Int) < (l.length : Int) by omega)]
    by_cases e : ((rd_L1 l i).length : Int) = ((rd_L1 l 0).length : Int)
    · simp only [if_pos e]
      rw [w64 (by omega) (by omega)]
      refine ih k (i + 1) (by omega) (by omega) (by omega) (by omega) fun j h0 h1 => ?_
      by_cases ej : j = i
      · rw [ej]; exact e
      · exact hj j h0 (by omega)
    · simp only [if_neg e]; exact .inr ⟨trivial, trivial⟩
theorem Bands_eq {l : List (List Int)} (hl2 : l.length ≤ 40) {k : Nat} (hk : 50 < k) :
    ∃ n : Int, quant_bands.f k l = some n ∧ psalteryref13_Bands.f k l = some n ∧ 0 ≤ n ∧ n ≤ 8 ∧ (n ≠ 0 → 0 < l.length ∧ Even l n) := by
  obtain ⟨k, rfl⟩ : ∃ m, k = m + 1 := ⟨k - 1, by omega⟩
  unfold quant_bands.f psalteryref13_Bands.f
  by_cases h0 : (l.length : Int) = 0
  · rw [if_pos h0, if_pos h0]
    exact ⟨0, by simp only [quant_bands.j0, if_true], rfl, by decide, by decide, fun h => absurd rfl h⟩
  · rw [if_neg h0, if_neg h0, if_pos (by omega), if_pos (by omega)]
    have hj0 : ∀ j : Int, 0 ≤ j → j < 0 → ((rd_L1 l j).length : Int) = ((rd_L1 l 0).length : Int) := fun j a b => by omega
    have g1 := bands_l0 (l := l) (by omega) hl2 l.length (k + 1) 0 (by omega) (by omega) (by omega) (by omega) hj0
    have g2 := bands_l0 (l := l) (by omega) hl2 l.length k 0 (by omega) (by omega) (by omega) (by omega) hj0
    simp only [quant_bands.j0]
    by_cases h8 : ((rd_L1 l 0).length : Int) > 8
    · rw [decide_eq_true h8]
      simp only [if_true]
      refine ⟨0, rfl, ?_, by decide, by decide, fun h => absurd rfl h⟩
      rcases g1 with ⟨_, a, _⟩ | ⟨_, a⟩
      · rw [a, if_pos h8]
      · exact a
    · rw [decide_eq_false h8]
      simp only [Bool.false_eq_true, if_false]
      rcases g2 with ⟨a, _, c⟩ | ⟨a, b'⟩
      · rcases g1 with ⟨_, b, _⟩ | ⟨b0, b⟩
        · rw [if_neg h8] at b
          exact ⟨_, a, b, by omega, by omega, fun _ => ⟨by omega, c⟩⟩
        · -- the two ways are one: more rounds tell the same
          have := (quant_bands.mono_l k).2 l l (l.length : Int) 0 _ a
          rw [b0] at this
          have e := Option.some.inj this
          exact ⟨_, a, by rw [b]; exact congrArg some e, by omega, by omega, fun _ => ⟨by omega, c⟩⟩
      · refine ⟨0, a, ?_, by decide, by decide, fun h => absurd rfl h⟩
        have := (quant_bands.mono_l k).2 l l (l.length : Int) 0 _ a
        rcases g1 with ⟨b0, b, _⟩ | ⟨b0, b⟩
        · rw [b0] at this
          have e := Option.some.inj this
          rw [b, if_neg h8]; exact congrArg some e
        · exact b

/-- The greatest size in band b of the first i rows. -/
def most (l : List (List Int)) (b : Int) : Nat → Int
  | 0 => 0
  | i + 1 => max (most l b i) (max (rd (rd_L1 l i) b) (-(rd (rd_L1 l i) b)))
theorem most_range {l : List (List Int)} (hp : Plane l) {n b : Int} (he : Even l n) (b0 : 0 ≤ b) (b1 : b < n) (i : Nat) : i ≤ l.length → 0 ≤ most l b i ∧ most l b i ≤ 2147483648 := by
  induction i with
  | zero => intro _; exact ⟨Int.le_refl 0, show (0 : Int) ≤ 2147483648 by decide⟩
  | succ i ih =>
    intro hi
    have a := ih (by omega)
    have x := rd_all (hp.2 _ (rdL_mem (l := l) (i := i) (by omega) (by omega))).2 (i := b) b0 (by rw [he i (by omega) (by omega)]; exact b1)
    simp only [most]; omega
def scaleOf (m : Int) : Int := (quant_Scale.f 41 m).getD 0
theorem Scale_val (m : Int) {k : Nat} (hk : 40 < k) : quant_Scale.f k m = some (scaleOf m) ∧ psalteryref13_Scale.f k m = some (scaleOf m) := by
  obtain ⟨r, a, b, _⟩ := Scale_eq m (k := 41) (by decide)
  obtain ⟨r', a', b', _⟩ := Scale_eq m hk
  have := at_rounds (g := fun k => quant_Scale.f k m) (fun k => quant_Scale.mono m k) (show 41 ≤ k by omega) a
  have e : r' = r := by rw [a'] at this; exact Option.some.inj this
  have e2 : scaleOf m = r := by unfold scaleOf; rw [a]; rfl
  rw [e2, ← e]; exact ⟨a', b'⟩

theorem Scales_l2 {l : List (List Int)} {n : Int} (hp : Plane l) (hl : l.length ≤ 40) (he : Even l n) (n0 : 0 ≤ n) (n8 : n ≤ 8) {ms : List Int} (hm : ms.length = n.toNat) (hv : ∀ b : Int, 0 ≤ b → b < n → rd ms b = most l b l.length) (d : Nat) : ∀ (k : Nat) (out : List Int) (b : Int), 0 ≤ b → b ≤ n → n - b = d → d + 45 < k → out.length = n.toNat →
    (∀ j : Int, 0 ≤ j → j < b → rd out j = scaleOf (most l j l.length)) →
    ∃ r, quant_Scales.l2 k out ms (ms.length : Int) b = some (r, 0) ∧ r.length = n.toNat ∧ ∀ j : Int, 0 ≤ j → j < n → rd r j = scaleOf (most l j l.length) := by
  induction d with
  | zero =>
    intro k out b b0 b1 hd hk ho hj
    obtain ⟨k, rfl⟩ : ∃ m, k = m + 1 := ⟨k - 1, by omega⟩
    simp only [quant_Scales.l2]
    rw [if_neg (by omega)]
    exact ⟨out, rfl, ho, fun j h0 h1 => hj j h0 (by omega)⟩
  | succ d ih =>
    intro k out b b0 b1 hd hk ho hj
    obtain ⟨k, rfl⟩ : ∃ m, k = m + 1 := ⟨k - 1, by omega⟩
    simp only [quant_Scales.l2]
    rw [if_pos (by omega), if_pos b0, if_pos (by omega), hv b b0 (by omega), (Scale_val _ (show 40 < k by omega)).1]
    simp only [Option.bind_some]
    rw [if_pos (by omega), w64 (by omega) (by omega)]
    refine ih k _ (b + 1) (by omega) (by omega) (by omega) (by omega) (by rw [List.length_set]; exact ho) fun j h0 h1 => ?_
    rw [rd_set b0 (by omega) h0]
    split
    · rename_i e; rw [e]
    · exact hj j h0 (by omega)
/-- The rows one by one, the bands of each. -/
theorem Scales_l01 {l : List (List Int)} {n : Int} (hp : Plane l) (hl : l.length ≤ 40) (he : Even l n) (n0 : 0 ≤ n) (n8 : n ≤ 8) (d : Nat) : (∀ (k : Nat) (ms : List Int) (i : Int), 0 ≤ i → i ≤ l.length → (l.length : Int) - i = d → d * 10 + 70 < k → ms.length = n.toNat → (∀ b : Int, 0 ≤ b → b < n → rd ms b = most l b i.toNat) →
      ∃ r, quant_Scales.l0 k n ms l (l.length : Int) i = some (r, 0) ∧ r.length = n.toNat ∧ ∀ j : Int, 0 ≤ j → j < n → rd r j = scaleOf (most l j l.length)) := by
  induction d with
  | zero =>
    intro k ms i i0 i1 hd hk hm hv
    obtain ⟨k, rfl⟩ : ∃ m, k = m + 1 := ⟨k - 1, by omega⟩
    simp only [quant_Scales.l0]
    rw [if_neg (by omega), if_pos n0, if_pos (by omega)]
    have e : i.toNat = l.length := by omega
    rw [e] at hv
    exact Scales_l2 hp hl he n0 n8 hm hv n.toNat k _ 0 (by omega) (by omega) (by omega) (by omega) (by simp) (fun j a b => by omega)
  | succ d ih =>
    intro k ms i i0 i1 hd hk hm hv
    obtain ⟨k, rfl⟩ : ∃ m, k = m + 1 := ⟨k - 1, by omega⟩
    have hlt : i < (l.length : Int) := by omega
    have hrow := he i i0 hlt
    have hmem := rdL_mem i0 hlt
    have inner : ∀ (c : Nat) (k : Nat) (ms : List Int) (b : Int), 0 ≤ b → b ≤ n → n - b = c → c + d * 10 + 71 < k → ms.length = n.toNat →
        (∀ j : Int, 0 ≤ j → j < n → rd ms j = if j < b then most l j (i.toNat + 1) else most l j i.toNat) →
        ∃ r, quant_Scales.l1 k n ms l (l.length : Int) i (rd_L1 l i) ((rd_L1 l i).length : Int) b = some (r, 0) ∧ r.length = n.toNat ∧ ∀ j : Int, 0 ≤ j → j < n → rd r j = scaleOf (most l j l.length) := by
      intro c
      induction c with
      | zero =>
        intro k ms b b0 b1 hc hk hm hv
        obtain ⟨k, rfl⟩ : ∃ m, k = m + 1 := ⟨k - 1, by omega⟩
        simp only [quant_Scales.l1]
        rw [if_neg (by omega), w64 (by omega) (by omega)]
        refine ih k ms (i + 1) (by omega) (by omega) (by omega) (by omega) hm fun j h0 h1 => ?_
        rw [hv j h0 h1, if_pos (by omega), show (i + 1).toNat = i.toNat + 1 by omega]
      | succ c ihc =>
        intro k ms b b0 b1 hc hk hm hv
        obtain ⟨k, rfl⟩ : ∃ m, k = m + 1 := ⟨k - 1, by omega⟩
        simp only [quant_Scales.l1]
        have x := rd_all (hp.2 _ hmem).2 (i := b) b0 (by omega)
        rw [if_pos (by omega), if_pos b0, if_pos (by omega), if_pos (by omega), w64 (a := rd (rd_L1 l i) b) (by omega) (by omega), w64 (a := -(rd (rd_L1 l i) b)) (by omega) (by omega), w64 (a := b + 1) (by omega) (by omega)]
        refine ihc k _ (b + 1) (by omega) (by omega) (by omega) (by omega) (by rw [List.length_set]; exact hm) fun j h0 h1 => ?_
        rw [rd_set b0 (by omega) h0]
        by_cases e : j = b
        · subst e
          rw [if_pos rfl, if_pos (by omega), hv j b0 h1, if_neg (by omega)]
          have ei : ((i.toNat : Nat) : Int) = i := Int.toNat_of_nonneg i0
          simp only [most, mx, ei]
          (repeat' split) <;> omega
        · rw [if_neg e, hv j h0 h1]
          by_cases g : j < b
          · rw [if_pos g, if_pos (by omega)]
          · rw [if_neg g, if_neg (by omega)]
    simp only [quant_Scales.l0]
    rw [if_pos hlt, if_pos i0, if_pos hlt]
    exact inner n.toNat k ms 0 (by omega) (by omega) (by omega) (by omega) hm (fun j h0 h1 => by rw [if_neg (by omega)]; exact hv j h0 h1)
theorem rScales_l1 {l : List (List Int)} {n : Int} (hp : Plane l) (hl : l.length ≤ 40) (he : Even l n) (n0 : 0 ≤ n) (n8 : n ≤ 8) {b : Int} (b0 : 0 ≤ b) (b1 : b < n) (out : List Int) (ho : out.length ≤ 8) (d : Nat) : ∀ (k : Nat) (i : Int), 0 ≤ i → i ≤ l.length → (l.length : Int) - i = d → d + 45 < k →
    ∃ k', d + k' + 1 = k ∧ psalteryref13_Scales.l1 k l out b (most l b i.toNat) i = psalteryref13_Scales.l0 k' l (out ++ [scaleOf (most l b l.length)]) (b + 1) := by
  induction d with
  | zero =>
    intro k i i0 i1 hd hk
    obtain ⟨k, rfl⟩ : ∃ m, k = m + 1 := ⟨k - 1, by omega⟩
    refine ⟨k, by omega, ?_⟩
    simp only [psalteryref13_Scales.l1]
    have e : i.toNat = l.length := by omega
    rw [if_neg (by omega), e, (Scale_val _ (show 40 < k by omega)).2]
    simp only [Option.bind_some]
    rw [if_pos (by omega), w64 (by omega) (by omega)]
  | succ d ih =>
    intro k i i0 i1 hd hk
    obtain ⟨k, rfl⟩ : ∃ m, k = m + 1 := ⟨k - 1, by omega⟩
    have hlt : i < (l.length : Int) := by omega
    have x := rd_all (hp.2 _ (rdL_mem i0 hlt)).2 (i := b) b0 (by rw [he i i0 hlt]; exact b1)
    have m := most_range hp he b0 b1 i.toNat (by omega)
    obtain ⟨k', hk', g⟩ := ih k (i + 1) (by omega) (by omega) (by omega) (by omega)
    refine ⟨k', by omega, ?_⟩
    rw [← g]
    have ei : ((i.toNat : Nat) : Int) = i := Int.toNat_of_nonneg i0
    have hms : most l b (i + 1).toNat = max (most l b i.toNat) (max (rd (rd_L1 l i) b) (-(rd (rd_L1 l i) b))) := by
      rw [show (i + 1).toNat = i.toNat + 1 by omega]; simp only [most, ei]
    simp only [psalteryref13_Scales.l1]
    rw [if_pos hlt, if_pos i0, if_pos b0, if_pos (by rw [he i i0 hlt]; exact b1), w64 (a := rd (rd_L1 l i) b) (by omega) (by omega), w64 (a := -(rd (rd_L1 l i) b)) (by omega) (by omega), w64 (a := i + 1) (by omega) (by omega), hms]
    generalize rd (rd_L1 l i) b = y at *
    generalize most l b i.toNat = z at *
    by_cases s : y < 0
    · rw [if_pos s]
      by_cases s2 : -y > z
      · rw [if_pos s2, show max z (max y (-y)) = -y by omega]
      · rw [if_neg s2, show max z (max y (-y)) = z by omega]
    · rw [if_neg s]
      by_cases s2 : y > z
      · rw [if_pos s2, show max z (max y (-y)) = y by omega]
      · rw [if_neg s2, show max z (max y (-y)) = z by omega]
theorem rScales_l0 {l : List (List Int)} {n : Int} (hp : Plane l) (hl : l.length ≤ 40) (he : Even l n) (n0 : 0 ≤ n) (n8 : n ≤ 8) (h0 : 0 < l.length) (d : Nat) : ∀ (k : Nat) (out : List Int) (b : Int), 0 ≤ b → b ≤ n → n - b = d → d * 50 + 50 < k → (out.length : Int) = b → (∀ j : Int, 0 ≤ j → j < b → rd out j = scaleOf (most l j l.length)) →
    ∃ r, psalteryref13_Scales.l0 k l out b = some r ∧ r.length = n.toNat ∧ ∀ j : Int, 0 ≤ j → j < n → rd r j = scaleOf (most l j l.length) := by
  have hn0 : ((rd_L1 l 0).length : Int) = n := he 0 (by decide) (by omega)
  induction d with
  | zero =>
    intro k out b b0 b1 hd hk ho hj
    obtain ⟨k, rfl⟩ : ∃ m, k = m + 1 := ⟨k - 1, by omega⟩
    simp only [psalteryref13_Scales.l0]
    rw [if_pos (by omega), if_neg (by omega)]
    exact ⟨out, rfl, by omega, fun j a c => hj j a (by omega)⟩
  | succ d ih =>
    intro k out b b0 b1 hd hk ho hj
    obtain ⟨k, rfl⟩ : ∃ m, k = m + 1 := ⟨k - 1, by omega⟩
    simp only [psalteryref13_Scales.l0]
    rw [if_pos (by omega), if_pos (by omega)]
    obtain ⟨k', hk', g⟩ := rScales_l1 hp hl he n0 n8 b0 (by omega) out (by omega) l.length k 0 (by omega) (by omega) (by omega) (by omega)
    rw [show most l b (0 : Int).toNat = 0 from rfl] at g
    rw [g]
    refine ih k' _ (b + 1) (by omega) (by omega) (by omega) (by omega) (by rw [List.length_append, List.length_singleton]; omega) fun j a c => ?_
    rw [rd_snoc a (by omega)]
    by_cases e : j = out.length
    · rw [if_pos e, e, ho]
    · rw [if_neg e]; exact hj j a (by omega)
theorem near_math {c R L m q e y : Int} (hR : 2 ≤ R) (hL : 3 ≤ L) (c0 : 1 - R ≤ c) (c1 : c ≤ R - 1) (hm : m = c * L / R) (hq : q = (m + L) / 2) (he : e = (2 * q + 1) * R / L) (hy : y = e - R) :
    0 ≤ q ∧ q < L ∧ y - c ≤ 2 * R / L + 1 ∧ -(2 * R / L + 1) ≤ y - c ∧ (L < R → 1 - R ≤ y ∧ y ≤ R - 1 ∧ (y * L / R + L) / 2 = q) := by
  have m1 : m * R ≤ c * L := by rw [hm]; exact Int.ediv_mul_le _ (by omega)
  have m2 : c * L < m * R + R := by
    have := Int.lt_ediv_add_one_mul_self (c * L) (show 0 < R by omega)
    rw [Int.add_mul, Int.one_mul, ← hm] at this; exact this
  have e1 : e * L ≤ (2 * q + 1) * R := by rw [he]; exact Int.ediv_mul_le _ (by omega)
  have e2 : (2 * q + 1) * R < e * L + L := by
    have := Int.lt_ediv_add_one_mul_self ((2 * q + 1) * R) (show 0 < L by omega)
    rw [← he, Int.add_mul e, Int.one_mul L] at this; exact this
  have hc0 : (1 - R) * L ≤ c * L := Int.mul_le_mul_of_nonneg_right c0 (by omega)
  have hc1 : c * L ≤ (R - 1) * L := Int.mul_le_mul_of_nonneg_right c1 (by omega)
  rw [Int.sub_mul, Int.one_mul] at hc0 hc1
  have cm : R * L = L * R := Int.mul_comm _ _
  -- m lies from -L to L - 1
  have ma : -L ≤ m := by
    apply Classical.byContradiction; intro h
    have := Int.mul_le_mul_of_nonneg_right (show m ≤ -L - 1 by omega) (show 0 ≤ R by omega)
    rw [Int.sub_mul, Int.neg_mul, Int.one_mul] at this; omega
  have mb : m ≤ L - 1 := by
    apply Classical.byContradiction; intro h
    have := Int.mul_le_mul_of_nonneg_right (show L ≤ m by omega) (show 0 ≤ R by omega)
    omega
  have q0 : 0 ≤ q := by omega
  have q1 : q < L := by omega
  have hqR : (2 * q + 1) * R = 2 * (q * R) + R := by rw [Int.add_mul, Int.one_mul, Int.mul_assoc]
  have qm : 2 * q ≤ m + L ∧ m + L ≤ 2 * q + 1 := by omega
  have qa : 2 * q * R ≤ (m + L) * R := Int.mul_le_mul_of_nonneg_right qm.1 (by omega)
  have qb : (m + L) * R ≤ (2 * q + 1) * R := Int.mul_le_mul_of_nonneg_right qm.2 (by omega)
  rw [Int.add_mul] at qa qb
  rw [Int.mul_assoc] at qa
  -- the step
  have s1 : 2 * R / L * L ≤ 2 * R := Int.ediv_mul_le _ (by omega)
  have s2 : 2 * R < 2 * R / L * L + L := by
    have := Int.lt_ediv_add_one_mul_self (2 * R) (show 0 < L by omega)
    rw [Int.add_mul, Int.one_mul] at this; exact this
  have yL : y * L = e * L - R * L := by rw [hy, Int.sub_mul]
  have s0 : 0 ≤ 2 * R / L := Int.ediv_nonneg (by omega) (by omega)
  refine ⟨q0, q1, ?_, ?_, ?_⟩
  · apply Classical.byContradiction; intro h
    have := Int.mul_le_mul_of_nonneg_right (show c + (2 * R / L) + 2 ≤ y by omega) (show 0 ≤ L by omega)
    rw [Int.add_mul, Int.add_mul] at this; omega
  · apply Classical.byContradiction; intro h
    have := Int.mul_le_mul_of_nonneg_right (show y ≤ c - (2 * R / L) - 2 by omega) (show 0 ≤ L by omega)
    rw [Int.sub_mul, Int.sub_mul] at this; omega
  · intro hLR
    have y0 : 1 ≤ e := by
      apply Classical.byContradiction; intro h
      have := Int.mul_le_mul_of_nonneg_right (show e ≤ 0 by omega) (show 0 ≤ L by omega)
      have := Int.mul_nonneg q0 (show 0 ≤ R by omega)
      omega
    have y1 : e ≤ 2 * R - 1 := by
      apply Classical.byContradiction; intro h
      have a := Int.mul_le_mul_of_nonneg_right (show 2 * R ≤ e by omega) (show 0 ≤ L by omega)
      have b := Int.mul_le_mul_of_nonneg_right (show q ≤ L - 1 by omega) (show 0 ≤ R by omega)
      rw [Int.sub_mul, Int.one_mul] at b
      rw [Int.mul_assoc] at a
      omega
    refine ⟨by omega, by omega, ?_⟩
    -- y L / R + L = 2 q or 2 q + 1
    have d1 : y * L / R * R ≤ y * L := Int.ediv_mul_le _ (by omega)
    have d2 : y * L < y * L / R * R + R := by
      have := Int.lt_ediv_add_one_mul_self (y * L) (show 0 < R by omega)
      rw [Int.add_mul, Int.one_mul] at this; exact this
    generalize hd : y * L / R = d at *
    have u : d + L ≤ 2 * q + 1 := by
      apply Classical.byContradiction; intro h
      have := Int.mul_le_mul_of_nonneg_right (show 2 * q + 2 ≤ d + L by omega) (show 0 ≤ R by omega)
      rw [Int.add_mul, Int.add_mul, Int.mul_assoc] at this; omega
    have v : 2 * q ≤ d + L := by
      apply Classical.byContradiction; intro h
      have := Int.mul_le_mul_of_nonneg_right (show d + L ≤ 2 * q - 1 by omega) (show 0 ≤ R by omega)
      rw [Int.add_mul, Int.sub_mul, Int.mul_assoc] at this; omega
    omega

/-! planes -/
theorem rdL_nat (l : List (List Int)) (i : Nat) : rd_L1 l (i : Int) = l.getD i [] := by
  unfold rd_L1; rw [Int.toNat_natCast]
theorem rd_nat (l : List Int) (i : Nat) : rd l (i : Int) = l.getD i 0 := by
  unfold rd; rw [Int.toNat_natCast]
theorem Even.row {l : List (List Int)} {n : Int} (h : Even l n) {i : Nat} (hi : i < l.length) : ((l.getD i []).length : Int) = n := by
  have := h (i : Int) (by omega) (by omega); rwa [rdL_nat] at this
theorem Plane.num {l : List (List Int)} (h : Plane l) {i k : Nat} (hi : i < l.length) : -2147483648 ≤ (l.getD i []).getD k 0 ∧ (l.getD i []).getD k 0 ≤ 2147483647 := by
  have hm : l.getD i [] ∈ l := by rw [List.getD_eq_getElem?_getD, List.getElem?_eq_getElem hi]; exact List.getElem_mem _
  by_cases hk : k < (l.getD i []).length
  · refine (h.2 _ hm).2 _ ?_
    generalize l.getD i [] = r at hk ⊢
    rw [List.getD_eq_getElem?_getD, List.getElem?_eq_getElem hk]; exact List.getElem_mem _
  · rw [List.getD_eq_getElem?_getD, List.getElem?_eq_none (by omega)]; exact ⟨by decide, by decide⟩
theorem mapP_length (g : Int → Int → Int) (l r : List (List Int)) : (mapP g l r).length = l.length := by simp [mapP]
theorem mapP_row (g : Int → Int → Int) (l r : List (List Int)) {i : Nat} (hi : i < l.length) : (mapP g l r).getD i [] = mapR g (l.getD i []) (r.getD i []) := by
  rw [mapP, List.getD_eq_getElem?_getD, List.getElem?_map, List.getElem?_range hi]; rfl
theorem mapP_at (g : Int → Int → Int) (l r : List (List Int)) {i k : Nat} (hi : i < l.length) (hk : k < (l.getD i []).length) : ((mapP g l r).getD i []).getD k 0 = g ((l.getD i []).getD k 0) ((r.getD i []).getD k 0) := by
  rw [mapP_row g l r hi, mapR_at g _ _ hk]
theorem mapP_next (g : Int → Int → Int) (l r : List (List Int)) {i : Nat} (hi : i < l.length) : (mapP g l r).take i ++ [mapR g (l.getD i []) (r.getD i [])] = (mapP g l r).take (i + 1) := by
  have h1 : i < (mapP g l r).length := by rw [mapP_length]; exact hi
  rw [List.take_succ_eq_append_getElem h1, ← mapP_row g l r hi, List.getD_eq_getElem?_getD, List.getElem?_eq_getElem h1]; rfl
theorem mapP_even {g : Int → Int → Int} {l r : List (List Int)} {n : Int} (h : Even l n) : Even (mapP g l r) n := fun i h0 h1 => by
  rw [mapP_length] at h1
  obtain ⟨j, rfl⟩ : ∃ j : Nat, i = (j : Int) := ⟨i.toNat, by omega⟩
  rw [rdL_nat, mapP_row g l r (by omega), mapR_length]; exact h.row (by omega)
theorem mapP_plane {g : Int → Int → Int} {l r : List (List Int)} (hp : Plane l) (hg : ∀ a b, -2147483648 ≤ g a b ∧ g a b ≤ 2147483647) : Plane (mapP g l r) := by
  refine ⟨by rw [mapP_length]; exact hp.1, fun q hq => ?_⟩
  obtain ⟨i, hi, rfl⟩ := List.mem_map.1 hq
  have hi := List.mem_range.1 hi
  have hm : l.getD i [] ∈ l := by rw [List.getD_eq_getElem?_getD, List.getElem?_eq_getElem hi]; exact List.getElem_mem _
  refine ⟨by rw [mapR_length]; exact (hp.2 _ hm).1, fun x hx => ?_⟩
  obtain ⟨k, _, rfl⟩ := List.mem_map.1 hx
  exact hg _ _
theorem wrap32_range (a : Int) : -2147483648 ≤ wrap32 a ∧ wrap32 a ≤ 2147483647 := by unfold wrap32; omega
theorem gM_range (a b : Int) : -2147483648 ≤ gM a b ∧ gM a b ≤ 2147483647 := wrap32_range _
theorem hM_range (a b : Int) : -2147483648 ≤ hM a b ∧ hM a b ≤ 2147483647 := wrap32_range _
theorem gM_eq {a b : Int} (h1 : -2147483648 ≤ a) (h2 : a ≤ 2147483647) (h3 : -2147483648 ≤ b) (h4 : b ≤ 2147483647) : gM a b = (a + b) / 2 := by
  unfold gM; rw [w64 (a := a) (by omega) (by omega), w64 (a := b) (by omega) (by omega), w64 (by omega) (by omega), w32 (by omega) (by omega)]
theorem hM_eq {a b : Int} (h1 : -2147483648 ≤ a) (h2 : a ≤ 2147483647) (h3 : -2147483648 ≤ b) (h4 : b ≤ 2147483647) : hM a b = (a - b) / 2 := by
  unfold hM; rw [w64 (a := a) (by omega) (by omega), w64 (a := b) (by omega) (by omega), w64 (by omega) (by omega), w32 (by omega) (by omega)]
theorem S_eq {a b : Int} (h1 : -2147483648 ≤ a) (h2 : a ≤ 2147483647) (h3 : -2147483648 ≤ b) (h4 : b ≤ 2147483647) : gS a b = sat32 (a + b) ∧ hS a b = sat32 (a - b) := by
  unfold gS hS quant_Sides_clo1.f
  rw [Add_eq h1 h2 h3 h4, Sub_eq h1 h2 h3 h4]; exact ⟨rfl, rfl⟩
/-- The bands of two planes that fit. -/
def Fits (l r : List (List Int)) (n : Int) : Prop := 1 ≤ n ∧ n ≤ 8 ∧ 0 < l.length ∧ l.length ≤ 40 ∧ r.length = l.length ∧ Even l n ∧ Even r n
theorem Fits.fitB {l r : List (List Int)} {n : Int} (h : Fits l r n) : PPairs.fitB l r = true := by
  obtain ⟨n1, n8, l0, l4, lr, e1, e2⟩ := h
  unfold PPairs.fitB
  rw [Bool.and_eq_true, Bool.and_eq_true, decide_eq_true_eq, decide_eq_true_eq, List.all_eq_true]
  refine ⟨⟨by omega, l0⟩, fun i hi => ?_⟩
  have hi := List.mem_range.1 hi
  rw [Bool.and_eq_true, decide_eq_true_eq, decide_eq_true_eq]
  have a := e1.row (i := i) hi
  have b := e2.row (i := i) (by omega)
  omega
theorem pair_cases {l r : List (List Int)} (hl : l.length ≤ 40) (hr : r.length ≤ 40) :
    (∃ n, Fits l r n ∧ (∀ k, 50 < k → quant_bands.f k l = some n ∧ quant_bands.f k r = some n ∧ psalteryref13_Bands.f k l = some n ∧ psalteryref13_Bands.f k r = some n)) ∨
    (∃ n m, (∀ k, 50 < k → quant_bands.f k l = some n ∧ quant_bands.f k r = some m ∧ psalteryref13_Bands.f k l = some n ∧ psalteryref13_Bands.f k r = some m) ∧ 0 ≤ n ∧ (n = 0 ∨ n ≠ m ∨ l.length ≠ r.length)) := by
  obtain ⟨n, a1, a2, a3, a4, a5⟩ := Bands_eq hl (k := 51) (by decide)
  obtain ⟨m, b1, b2, b3, b4, b5⟩ := Bands_eq hr (k := 51) (by decide)
  have up : ∀ k, 50 < k → quant_bands.f k l = some n ∧ quant_bands.f k r = some m ∧ psalteryref13_Bands.f k l = some n ∧ psalteryref13_Bands.f k r = some m := fun k hk =>
    ⟨at_rounds (g := fun k => quant_bands.f k l) (fun k => quant_bands.mono l k) (show 51 ≤ k by omega) a1, at_rounds (g := fun k => quant_bands.f k r) (fun k => quant_bands.mono r k) (show 51 ≤ k by omega) b1, at_rounds (g := fun k => psalteryref13_Bands.f k l) (fun k => psalteryref13_Bands.mono l k) (show 51 ≤ k by omega) a2, at_rounds (g := fun k => psalteryref13_Bands.f k r) (fun k => psalteryref13_Bands.mono r k) (show 51 ≤ k by omega) b2⟩
  by_cases h : n = 0 ∨ n ≠ m ∨ l.length ≠ r.length
  · exact .inr ⟨n, m, up, a3, h⟩
  · have h0 : n ≠ 0 := fun e => h (.inl e)
    have h1 : n = m := Classical.byContradiction fun e => h (.inr (.inl e))
    have h2 : l.length = r.length := Classical.byContradiction fun e => h (.inr (.inr e))
    subst h1
    obtain ⟨p1, p2⟩ := a5 h0
    obtain ⟨_, p4⟩ := b5 h0
    exact .inl ⟨n, ⟨by omega, a4, p1, hl, h2.symm, p2, p4⟩, up⟩
theorem Middle_fit {l r : List (List Int)} {n : Int} (h : Fits l r n) (hb : quant_bands.f 1000 l = some n ∧ quant_bands.f 1000 r = some n) : quant_Middle.f l r = some (mapP gM l r, mapP hM l r, 0) := by
  unfold quant_Middle.f
  have h' := h
  obtain ⟨n1, n8, l0, l4, lr, e1, e2⟩ := h'
  rw [hb.1, hb.2]; simp only [Option.bind_some]
  rw [if_neg (by omega), if_pos h.fitB]
theorem Sides_fit {l r : List (List Int)} {n : Int} (h : Fits l r n) (hb : quant_bands.f 1000 l = some n ∧ quant_bands.f 1000 r = some n) : quant_Sides.f l r = some (mapP gS l r, mapP hS l r, 0) := by
  unfold quant_Sides.f
  have h' := h
  obtain ⟨n1, n8, l0, l4, lr, e1, e2⟩ := h'
  rw [hb.1, hb.2]; simp only [Option.bind_some]
  rw [if_neg (by omega), if_pos h.fitB]
theorem Middle_bad {l r : List (List Int)} {n m : Int} (hb : quant_bands.f 1000 l = some n ∧ quant_bands.f 1000 r = some m) (h : n = 0 ∨ n ≠ m ∨ l.length ≠ r.length) : quant_Middle.f l r = some ([], [], 1) ∧ quant_Sides.f l r = some ([], [], 1) := by
  unfold quant_Middle.f quant_Sides.f
  rw [hb.1, hb.2]; simp only [Option.bind_some]
  rw [if_pos h, if_pos h]; exact ⟨rfl, rfl⟩
/-- A plane's bands, told by its form. -/
theorem bands_even {l : List (List Int)} {n : Int} (n1 : 1 ≤ n) (n8 : n ≤ 8) (l0 : 0 < l.length) (hl : l.length ≤ 40) (he : Even l n) {k : Nat} (hk : 50 < k) : quant_bands.f k l = some n := by
  obtain ⟨m, a1, a2, a3, a4, a5⟩ := Bands_eq hl hk
  by_cases hm : m = 0
  · subst hm
    exfalso
    obtain ⟨k, rfl⟩ : ∃ m, k = m + 1 := ⟨k - 1, by omega⟩
    unfold psalteryref13_Bands.f at a2
    rw [if_neg (by omega), if_pos (by omega)] at a2
    have h0 : ((rd_L1 l 0).length : Int) = n := he 0 (by decide) (by omega)
    have key : ∀ (d : Nat) (k : Nat) (i : Int), 0 ≤ i → i ≤ l.length → (l.length : Int) - i = d → psalteryref13_Bands.l0 k l n i ≠ some 0 := by
      intro d
      induction d with
      | zero =>
        intro k i i0 i1 hd
        rcases k with _ | k
        · simp [psalteryref13_Bands.l0]
        · simp only [psalteryref13_Bands.l0]
          rw [if_neg (by omega), if_neg (by omega)]
          intro e; have := Option.some.inj e; omega
      | succ d ih =>
        intro k i i0 i1 hd
        rcases k with _ | k
        · simp [psalteryref13_Bands.l0]
        · simp only [psalteryref13_Bands.l0]
          rw [if_pos (by omega), if_pos i0, if_pos (he i i0 (by omega)), w64 (by omega) (by omega)]
          exact ih k (i + 1) (by omega) (by omega) (by omega)
    rw [h0] at a2
    exact key l.length _ 0 (by decide) (by omega) (by omega) a2
  · obtain ⟨_, p⟩ := a5 hm
    have e1 := he 0 (by decide) (by omega)
    have e2 := p 0 (by decide) (by omega)
    rw [a1]; congr 1; omega
theorem Sides_of_middle {l r : List (List Int)} {n : Int} (h : Fits l r n) : quant_Sides.f (mapP gM l r) (mapP hM l r) = some (mapP gS (mapP gM l r) (mapP hM l r), mapP hS (mapP gM l r) (mapP hM l r), 0) := by
  obtain ⟨n1, n8, l0, l4, lr, e1, e2⟩ := h
  have hf : Fits (mapP gM l r) (mapP hM l r) n := ⟨n1, n8, by rw [mapP_length]; exact l0, by rw [mapP_length]; exact l4, by rw [mapP_length, mapP_length], mapP_even e1, mapP_even e1⟩
  exact Sides_fit hf ⟨bands_even n1 n8 hf.2.2.1 hf.2.2.2.1 hf.2.2.2.2.2.1 (by decide), bands_even n1 n8 (by rw [mapP_length]; exact l0) (by rw [mapP_length]; exact l4) hf.2.2.2.2.2.2 (by decide)⟩
end Go.Proofs.Ytnaeondfkkiimaa.PairsLib
