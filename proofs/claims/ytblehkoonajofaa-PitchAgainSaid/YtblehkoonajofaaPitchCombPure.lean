/- Pitch: what the comb combs is what the document combs. -/
import Derived.Test.YtblehkoonajofaaPitchPure
import Derived.Test.YtblehkoonajofaaPitchComb
namespace Go.Proofs.Ytblehkoonajofaa.PPitch
open Go.RowKit Go.Proofs.YtblehkoonajofaaW.PrintWords Go.Proofs.YtblehkoonajofaaW.PrintLast Go.Proofs.YtblehkoonajofaaW.PrintMore
open Go.Proofs.Ytblehkoonajofaa.Num Go.Proofs.Ytblehkoonajofaa.FixBasePitch
set_option linter.unusedVariables false
set_option linter.unusedSimpArgs false
/-- A pitch that may be. -/
def okPitch (lag st : Int) : Bool := if st = 0 then lag == 0 else decide (1 ≤ st ∧ st ≤ 3 ∧ 16 ≤ lag ∧ lag ≤ 79)
theorem refCheck_eq (lag st : Int) : psalteryref18_Check.f lag st = some (okPitch lag st) := by
  unfold psalteryref18_Check.f okPitch
  by_cases c : st = 0
  · rw [if_pos c, if_pos c]
  · rw [if_neg c, if_neg c]
    by_cases c1 : 1 ≤ st
    · by_cases c2 : st ≤ 3
      · by_cases c3 : 16 ≤ lag
        · rw [if_pos c1, if_pos c2, if_pos c3]; simp [c1, c2, c3]
        · rw [if_pos c1, if_pos c2, if_neg c3]; simp [c3]
      · rw [if_pos c1, if_neg c2]; simp [c2]
    · rw [if_neg c1]; simp [c1]
theorem check_eq (lag st : Int) : pitch_Check.f lag st = some (if okPitch lag st = true then 0 else 1) := by
  unfold pitch_Check.f okPitch
  by_cases c : st = 0
  · subst c
    by_cases c0 : lag = 0
    · subst c0; simp
    · simp [c0]
  · have h1 : (lag == 0 && (st == 0)) = false := by simp [c]
    rw [h1, if_neg (by decide), if_neg c]
    simp only [decide_eq_true_eq]
    (repeat' split) <;> first | rfl | omega
theorem okPitch_range {lag st : Int} (h : okPitch lag st = true) : (0 ≤ lag ∧ lag ≤ 79) ∧ (0 ≤ st ∧ st ≤ 3) := by
  unfold okPitch at h
  split at h
  · rename_i c; simp at h; omega
  · simp at h; omega
section
variable {A x : List Int} {n : Nat}
theorem rd_range32 {B : List Int} (hr : ∀ v ∈ B, -2147483648 ≤ v ∧ v ≤ 2147483647) (i : Int) : -2147483648 ≤ rd B i ∧ rd B i ≤ 2147483647 := by
  unfold rd
  rw [List.getD_eq_getElem?_getD]
  cases h : B[i.toNat]? with
  | none => exact ⟨by decide, by decide⟩
  | some v => exact hr v (List.mem_of_getElem? h)
theorem mulG {a G : Int} (ha : -2147483648 ≤ a ∧ a ≤ 2147483647) (h0 : 0 ≤ G) (h1 : G ≤ 32768) : -70368744177664 ≤ a * G ∧ a * G ≤ 70368744177664 := by
  have h2 : (a + 2147483648) * G ≥ 0 := Int.mul_nonneg (by omega) h0
  have h3 : (2147483648 - a) * G ≥ 0 := Int.mul_nonneg (by omega) h0
  rw [Int.add_mul] at h2
  rw [Int.sub_mul] at h3
  omega
theorem combOne_range {a b G : Int} (ha : -2147483648 ≤ a ∧ a ≤ 2147483647) (hb : -2147483648 ≤ b ∧ b ≤ 2147483647) (h0 : 0 ≤ G) (h1 : G ≤ 32768) :
    combOne a b G = a * (32768 - G) + b * G ∧ -140737488355328 ≤ combOne a b G ∧ combOne a b G ≤ 140737488355328 := by
  have g1 := mulG ha (G := 32768 - G) (by omega) (by omega)
  have g2 := mulG hb h0 h1
  unfold combOne
  rw [w64 (n := 32768 - G) (by omega) (by omega), w64 (n := a * (32768 - G)) (by omega) (by omega), w64 (n := b * G) (by omega) (by omega), w64 (by omega) (by omega)]
  omega
theorem i16_sat (v : Int) : IntKind.i16.wrap (sat16 v) = sat16 v := by
  have h := sat16_range v
  exact IntWalk.i16_in _ (by omega)
theorem combL_take (all : List Int) (lag G : Int) {n m : Nat} (h : m < n) : (combL all lag G n).take (m + 1) = (combL all lag G n).take m ++ [sat16 (rnd (combOne (rd all (79 + (m : Int))) (rd all (79 + (m : Int) - lag)) G) 15)] := by
  rw [List.take_add_one, combL, List.getElem?_map, List.getElem?_range h]; rfl
theorem Comb_l0 (hx : x.length = n) (hn : n ≤ 1000) (hB : A.length + n < 1000000) (lag st : Int) (hl : 0 ≤ lag ∧ lag ≤ 79) (hs : 0 ≤ st ∧ st ≤ 3) (hr : ∀ v ∈ A ++ x, -2147483648 ≤ v ∧ v ≤ 2147483647) (d : Nat) :
    ∀ m, m + d = n → Ev (fun k => psalteryref18_Comb.l0 k (A ++ x) ((combL (lasts A ++ x) lag (wrap64 (st * 4096)) n).take m) ((A.length : Int) + m) lag st) (combL (lasts A ++ x) lag (wrap64 (st * 4096)) n) := by
  have hlen : ((A ++ x).length : Int) = (A.length : Int) + n := by rw [List.length_append, hx]; omega
  have hG : wrap64 (4096 * st) = wrap64 (st * 4096) := by rw [Int.mul_comm]
  have hG0 : 0 ≤ wrap64 (st * 4096) ∧ wrap64 (st * 4096) ≤ 32768 := by rw [w64 (by omega) (by omega)]; omega
  induction d with
  | zero =>
    intro m hm
    obtain rfl : m = n := by omega
    refine Ev.step (fun k => ?_) (Ev.now _)
    simp only [psalteryref18_Comb.l0]
    rw [if_neg (by rw [hlen]; omega), List.take_of_length_le (by rw [combL_length]; exact Nat.le_refl _)]
  | succ d ih =>
    intro m hm
    refine Ev.step (fun k => ?_) (ih (m + 1) (by omega))
    have hb : back (A ++ x) ((A.length : Int) + m - lag) = rd (lasts A ++ x) (79 + (m : Int) - lag) := (lasts_back A x m lag hl.1 hl.2).symm
    have hf : rd (A ++ x) ((A.length : Int) + m) = rd (lasts A ++ x) (79 + (m : Int)) := by have := lasts_front A x m; rw [Int.sub_zero] at this; exact this.symm
    have ha := rd_range32 hr ((A.length : Int) + m)
    have hb2 : -2147483648 ≤ back (A ++ x) ((A.length : Int) + m - lag) ∧ back (A ++ x) ((A.length : Int) + m - lag) ≤ 2147483647 := by
      unfold back; split
      · exact ⟨by decide, by decide⟩
      · exact rd_range32 hr _
    have hc := combOne_range ha hb2 hG0.1 hG0.2
    simp only [psalteryref18_Comb.l0]
    rw [if_pos (by rw [hlen]; omega), if_pos (by omega), show wrap64 ((A.length : Int) + m - lag) = (A.length : Int) + m - lag from w64 (by omega) (by omega), at_eq (by rw [hlen]; omega)]
    simp only [Option.bind_some]
    rw [show wrap64 ((A.length : Int) + m + 1) = (A.length : Int) + ((m + 1 : Nat) : Int) from by rw [w64 (by omega) (by omega)]; omega]
    rw [hG]
    have e : wrap64 (wrap64 (rd (A ++ x) ((A.length : Int) + m) * wrap64 (32768 - wrap64 (st * 4096))) + wrap64 (back (A ++ x) ((A.length : Int) + m - lag) * wrap64 (st * 4096))) = combOne (rd (A ++ x) ((A.length : Int) + m)) (back (A ++ x) ((A.length : Int) + m - lag)) (wrap64 (st * 4096)) := rfl
    rw [e, rRound_eq 15 (by omega) (by omega)]
    simp only [Option.bind_some]
    rw [rSat16_eq]
    simp only [Option.bind_some]
    rw [if_pos (by rw [List.length_take, combL_length]; omega), i16_sat, combL_take _ _ _ (by omega), hb, hf]
theorem Comb_is (hx : x.length = n) (hn : n ≤ 1000) (hB : A.length + n < 1000000) (lag st : Int) (hl : 0 ≤ lag ∧ lag ≤ 79) (hs : 0 ≤ st ∧ st ≤ 3) (hr : ∀ v ∈ A ++ x, -2147483648 ≤ v ∧ v ≤ 2147483647) :
    Ev (fun k => psalteryref18_Comb.f k (A ++ x) n lag st) (combL (lasts A ++ x) lag (wrap64 (st * 4096)) n) := by
  have hlen : ((A ++ x).length : Int) = (A.length : Int) + n := by rw [List.length_append, hx]; omega
  refine Ev.congr (fun k => ?_) (Comb_l0 hx hn hB lag st hl hs hr n 0 (by omega))
  unfold psalteryref18_Comb.f
  rw [hlen, show wrap64 ((A.length : Int) + n - n) = (A.length : Int) + ((0 : Nat) : Int) from by rw [w64 (by omega) (by omega)]; omega]
  rfl
end
end Go.Proofs.Ytblehkoonajofaa.PPitch
