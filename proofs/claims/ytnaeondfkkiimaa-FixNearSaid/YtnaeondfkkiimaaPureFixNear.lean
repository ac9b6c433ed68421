/- The plain statement of the law FixNear: what is rounded is at most one half away; products of parts of one aren't greater than either; spare doublings lose nothing. No condition. -/
import Derived.Test.YtnaeondfkkiimaaFixLib
namespace Go.Proofs.Ytnaeondfkkiimaa.Pure
open Go.RowKit Go.Proofs.Ytnaeondfkkiimaa.PFix Go.Proofs.Ytnaeondfkkiimaa.Num Go.Proofs.Ytnaeondfkkiimaa.FixLib Go.Proofs.YtnaeondfkkiimaaW.PrintWords Go.Proofs.YtnaeondfkkiimaaW.PrintLast Go.Proofs.YtnaeondfkkiimaaW.PrintMore
set_option linter.unusedVariables false

/-- A part of one times another: no greater than either. -/
theorem part_le {a b m : Int} (h1 : -2147483648 ≤ a) (h2 : a ≤ 2147483647) (h3 : -2147483648 ≤ b) (h4 : b ≤ 2147483647) (hm : m = if a < -a then -a else a) :
    sat32 (rnd (a * b) 31) ≤ m ∧ -m ≤ sat32 (rnd (a * b) 31) := by
  have hm0 : 0 ≤ m ∧ -m ≤ a ∧ a ≤ m := by split at hm <;> omega
  have hp := mul_abs (a := a) (b := b) (A := m) (B := 2147483648) (by omega) (by omega) (by omega) (by omega)
  have e : rnd (a * b) 31 = (a * b / 1073741824 + 1) / 2 := by unfold rnd; rw [if_neg (by decide)]; rfl
  have : -m ≤ rnd (a * b) 31 ∧ rnd (a * b) 31 ≤ m := by rw [e]; generalize a * b = p at *; omega
  unfold sat32 clip
  (repeat' split) <;> omega
theorem Near_j2 (k : Nat) {a b : Int} (h1 : -2147483648 ≤ a) (h2 : a ≤ 2147483647) (h3 : -2147483648 ≤ b) (h4 : b ≤ 2147483647) : psalterylaw01_FixNear.j2 (k + 1) a b false = some true := by
  simp only [psalterylaw01_FixNear.j2]
  rw [if_neg (by decide), Mul31_eq h1 h2 h3 h4]; simp only [Option.bind_some]
  have s1 := sat32_range (rnd (a * b) 31)
  have hpl := part_le h1 h2 h3 h4 rfl
  have hz : b = 0 → sat32 (rnd (a * b) 31) = 0 := by rintro rfl; rw [Int.mul_zero]; decide +kernel
  have em : mx a (-a) = if a < -a then -a else a := rfl
  rw [w64 (by omega) (by omega), w64 (a := a) (by omega) (by omega), w64 (a := -a) (by omega) (by omega), w64 (a := b) (by omega) (by omega)]
  have hm : -2147483648 ≤ mx a (-a) ∧ mx a (-a) ≤ 2147483648 := by unfold mx; split <;> omega
  rw [w64 (a := -mx a (-a)) (by omega) (by omega), em, if_pos hpl.1, if_pos hpl.2]
  rw [Mul31_eq h3 h4 h1 h2, Int.mul_comm b a]; simp only [Option.bind_some]
  rw [if_pos trivial, Add_eq h1 h2 h3 h4, Add_eq h3 h4 h1 h2, Int.add_comm b a]; simp only [Option.bind_some]
  by_cases hb : b = 0
  · rw [if_pos hb, if_pos (hz hb)]; simp
  · rw [if_neg hb]; simp
theorem Near_j1 (k : Nat) {a b : Int} (h1 : -2147483648 ≤ a) (h2 : a ≤ 2147483647) (h3 : -2147483648 ≤ b) (h4 : b ≤ 2147483647) : psalterylaw01_FixNear.j1 (k + 2) a b = some true := by
  simp only [psalterylaw01_FixNear.j1]
  obtain ⟨r, hr, hs⟩ := Spare_eq (a := a) h1 h2
  have hs' := hs.back
  obtain ⟨s0, s1, _⟩ := hs
  rw [hr]; simp only [Option.bind_some]
  rw [if_neg (by omega), if_neg (by omega), if_pos (by rw [wu64 (by omega) (by omega)]; omega), hs', bne_self_eq_false]
  exact Near_j2 k h1 h2 h3 h4
theorem Near_j0 (k : Nat) {n s a b : Int} (hn : -1152921504606846976 ≤ n) (hn' : n ≤ 1152921504606846976) (hs : 1 ≤ s) (hs' : s ≤ 40) (h1 : -2147483648 ≤ a) (h2 : a ≤ 2147483647) (h3 : -2147483648 ≤ b) (h4 : b ≤ 2147483647) :
    psalterylaw01_FixNear.j0 (k + 3) n s a b true = some true := by
  simp only [psalterylaw01_FixNear.j0, if_true]
  rw [Round_eq s (by omega) (by omega)]; simp only [Option.bind_some]
  rw [wu64 (a := s) (by omega) (by omega), if_pos (by omega), w64 (a := s - 1) (by omega) (by omega), wu64 (by omega) (by omega), if_pos (by omega)]
  have hp := pow_pos' (s.toNat - 1)
  have hpl := pow_le' (show s.toNat - 1 ≤ 39 by omega)
  have e39 : (2 : Int) ^ 39 = 549755813888 := by decide +kernel
  have e1 : shl .i64 1 (s - 1) = 2 ^ (s.toNat - 1) := by
    unfold shl
    rw [show min (s - 1).toNat IntKind.i64.bits = s.toNat - 1 by show min (s - 1).toNat 64 = _; omega, Int.one_mul, i64_w]
    exact w64 (by omega) (by omega)
  have e2 : shl .i64 1 s = 2 * 2 ^ (s.toNat - 1) := by
    unfold shl
    rw [show min s.toNat IntKind.i64.bits = (s.toNat - 1) + 1 by show min s.toNat 64 = _; omega, Int.one_mul, i64_w, pow_succ']
    exact w64 (by omega) (by omega)
  rw [e1, e2, rnd_half hs (by omega)]
  generalize (2 : Int) ^ (s.toNat - 1) = p at *
  have hr1 := Int.emod_add_mul_ediv (n + p) (2 * p)
  have hr2 := Int.emod_nonneg (n + p) (show 2 * p ≠ 0 by omega)
  have hr3 := Int.emod_lt_of_pos (n + p) (show 0 < 2 * p by omega)
  rw [Int.mul_comm (2 * p)] at hr1
  generalize (n + p) / (2 * p) * (2 * p) = q at *
  rw [w64 (a := q) (by omega) (by omega), w64 (a := n - q) (by omega) (by omega), w64 (a := -p) (by omega) (by omega), if_neg (by omega), if_neg (by omega)]
  exact Near_j1 k h1 h2 h3 h4
theorem Near_j0' (k : Nat) {n s a b : Int} (h1 : -2147483648 ≤ a) (h2 : a ≤ 2147483647) (h3 : -2147483648 ≤ b) (h4 : b ≤ 2147483647) :
    psalterylaw01_FixNear.j0 (k + 3) n s a b false = some true := by
  simp only [psalterylaw01_FixNear.j0]
  rw [if_neg (by decide)]
  exact Near_j1 k h1 h2 h3 h4
theorem FixNear : psalterylaw01_FixNear.Pure := by
  intro n s a b hn hs ha hb
  have ha := i32_of ha
  have hb := i32_of hb
  refine ⟨3, ?_⟩
  unfold psalterylaw01_FixNear.f
  rw [alive_eq]; simp only [Option.bind_some, if_true]
  by_cases g1 : s ≥ 1
  · rw [if_pos g1]
    by_cases g2 : s ≤ 40
    · rw [if_pos g2]
      by_cases g3 : n ≥ -1152921504606846976
      · rw [if_pos g3]
        by_cases g4 : n ≤ 1152921504606846976
        · rw [decide_eq_true g4]; exact Near_j0 0 g3 g4 g1 g2 ha.1 ha.2 hb.1 hb.2
        · rw [decide_eq_false g4]; exact Near_j0' 0 ha.1 ha.2 hb.1 hb.2
      · rw [if_neg g3]; exact Near_j0' 0 ha.1 ha.2 hb.1 hb.2
    · rw [if_neg g2]; exact Near_j0' 0 ha.1 ha.2 hb.1 hb.2
  · rw [if_neg g1]; exact Near_j0' 0 ha.1 ha.2 hb.1 hb.2

end Go.Proofs.Ytnaeondfkkiimaa.Pure
