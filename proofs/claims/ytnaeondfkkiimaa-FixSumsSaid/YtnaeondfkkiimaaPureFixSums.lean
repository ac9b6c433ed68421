/- The plain statement of the law FixSums: sums of products of any lists are those of the reference. No condition. -/
import Derived.Test.YtnaeondfkkiimaaFixLib
namespace Go.Proofs.Ytnaeondfkkiimaa.Pure
open Go.RowKit Go.Proofs.Ytnaeondfkkiimaa.PFix Go.Proofs.Ytnaeondfkkiimaa.Num Go.Proofs.Ytnaeondfkkiimaa.FixLib Go.Proofs.YtnaeondfkkiimaaW.PrintWords Go.Proofs.YtnaeondfkkiimaaW.PrintLast Go.Proofs.YtnaeondfkkiimaaW.PrintMore
set_option linter.unusedVariables false

theorem rd_all {P : Int → Prop} {l : List Int} (h : ∀ x ∈ l, P x) {i : Int} (h0 : 0 ≤ i) (h1 : i < l.length) : P (rd l i) := by
  unfold rd
  rw [List.getD_eq_getElem?_getD, List.getElem?_eq_getElem (by omega)]
  exact h _ (List.getElem_mem _)
/-- Both sums go alike, round by round; each step is below 2^46. -/
theorem Sums_l0 {a b : List Int} {s : Int} (ha : ∀ x ∈ a, -2147483648 ≤ x ∧ x ≤ 2147483647) (hb : ∀ x ∈ b, -32768 ≤ x ∧ x ≤ 32767) (hl : a.length = b.length) (hlen : a.length ≤ 65536) (d : Nat) :
    ∀ (k : Nat) (n i : Int), 0 ≤ i → i ≤ a.length → (a.length : Int) - i = d → d < k → -70368744177664 * i ≤ n → n ≤ 70368744177664 * i →
    ∃ r, fix_Dot.l0 k b s n a (a.length : Int) i = some (r, 0) ∧ psalteryref01_Dot.l0 k a b s n i = some (r, 0) := by
  induction d with
  | zero =>
    intro k n i i0 i1 hd hk n0 n1
    obtain ⟨k, rfl⟩ : ∃ m, k = m + 1 := ⟨k - 1, by omega⟩
    simp only [fix_Dot.l0, psalteryref01_Dot.l0]
    rw [if_neg (by omega), if_neg (by omega), Round_eq s (by omega) (by omega), rRound_eq s (by omega) (by omega)]; simp only [Option.bind_some]
    rw [Sat32_eq, rSat32_eq]; simp only [Option.bind_some]
    have s1 := sat32_range (rnd n s)
    rw [w32 s1.1 s1.2]; exact ⟨_, rfl, rfl⟩
  | succ d ih =>
    intro k n i i0 i1 hd hk n0 n1
    obtain ⟨k, rfl⟩ : ∃ m, k = m + 1 := ⟨k - 1, by omega⟩
    simp only [fix_Dot.l0, psalteryref01_Dot.l0]
    have x := rd_all ha i0 (by omega)
    have y := rd_all hb i0 (by omega)
    have p := mul_abs (A := 2147483648) (B := 32768) (by omega) (show rd a i ≤ 2147483648 by omega) (by omega) (show rd b i ≤ 32768 by omega)
    rw [if_pos (by omega), if_pos i0, if_pos (by omega), if_pos (by omega), if_pos (by omega), if_pos (by omega), if_pos (by omega)]
    rw [w64 (a := rd a i) (by omega) (by omega), w64 (a := rd b i) (by omega) (by omega), w64 (a := rd a i * rd b i) (by omega) (by omega), w64 (a := n + _) (by omega) (by omega), w64 (a := i + 1) (by omega) (by omega)]
    exact ih k _ (i + 1) (by omega) (by omega) (by omega) (by omega) (by omega) (by omega)
theorem Dots {a b : List Int} {s : Int} (ha : ∀ x ∈ a, -2147483648 ≤ x ∧ x ≤ 2147483647) (hb : ∀ x ∈ b, -32768 ≤ x ∧ x ≤ 32767) (k : Nat) (hk : a.length + 2 < k) :
    ∃ r e, fix_Dot.f k a b s = some (r, e) ∧ psalteryref01_Dot.f k a b s = some (r, e) := by
  obtain ⟨k, rfl⟩ : ∃ m, k = m + 1 := ⟨k - 1, by omega⟩
  unfold fix_Dot.f psalteryref01_Dot.f
  by_cases hl : (a.length : Int) = (b.length : Int)
  · rw [if_pos hl, if_pos hl]
    by_cases h0 : s < 0
    · rw [if_pos h0, if_pos h0, decide_eq_true h0]
      exact ⟨0, 1, by simp only [fix_Dot.j0]; rw [if_pos trivial], by simp only [psalteryref01_Dot.j0]; rw [if_pos trivial]⟩
    · rw [if_neg h0, if_neg h0]
      simp only [fix_Dot.j0, psalteryref01_Dot.j0]
      by_cases h1 : s > 62
      · rw [decide_eq_true h1]; exact ⟨0, 1, rfl, rfl⟩
      · rw [decide_eq_false h1, if_neg Bool.false_ne_true, if_neg Bool.false_ne_true]
        by_cases h2 : (a.length : Int) > 65536
        · rw [if_pos h2, if_pos h2]; exact ⟨0, 2, rfl, rfl⟩
        · rw [if_neg h2, if_neg h2]
          obtain ⟨r, g1, g2⟩ := Sums_l0 (s := s) ha hb (by omega) (by omega) a.length k 0 0 (by omega) (by omega) (by omega) (by omega) (by omega) (by omega)
          exact ⟨r, 0, g1, g2⟩
  · rw [if_neg hl, if_neg hl]
    have e : ((a.length : Int) != (b.length : Int)) = true := by simpa using hl
    rw [e]
    exact ⟨0, 1, by simp only [fix_Dot.j0]; rw [if_pos trivial], by simp only [psalteryref01_Dot.j0]; rw [if_pos trivial]⟩
theorem FixSums : psalterylaw01_FixSums.Pure := by
  intro a b s _ _ ha _ _ hb hs
  refine ⟨a.length + 5, ?_⟩
  unfold psalterylaw01_FixSums.f
  rw [alive_eq]; simp only [Option.bind_some, if_true, psalterylaw01_FixSums.j0]
  obtain ⟨r, e, h1, h2⟩ := Dots (s := s) (fun x hx => i32_of (ha x hx)) (fun x hx => i16_of (hb x hx)) (a.length + 4) (by omega)
  rw [h1, h2]; simp only [Option.bind_some, if_true, beq_self_eq_true]
  (repeat' split) <;> rfl

end Go.Proofs.Ytnaeondfkkiimaa.Pure
