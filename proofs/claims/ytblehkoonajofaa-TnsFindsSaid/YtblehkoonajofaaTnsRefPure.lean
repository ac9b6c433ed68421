/- Tns: the reference's Find, its parts. -/
import Derived.Test.YtblehkoonajofaaTnsBackPure
import Derived.Test.YtblehkoonajofaaTnsParts
import Derived.Test.YtblehkoonajofaaRefLogsTns
namespace Go.Proofs.Ytblehkoonajofaa.PTns
open Go.RowKit Go.Proofs.YtblehkoonajofaaW.PrintWords Go.Proofs.YtblehkoonajofaaW.PrintLast Go.Proofs.YtblehkoonajofaaW.PrintMore Go.Proofs.Ytblehkoonajofaa.RowAt
attribute [local go_sem] max2_int min2_int max_two min_two max_three min_three max_four min_four   -- for this text's walks alone
set_option linter.unusedVariables false
set_option linter.unusedSimpArgs false
theorem half_neg {x : Int} (h0 : x < 0) (h1 : -1099511627776 ≤ x) : wrap64 (Int.tdiv (wrap64 (x - 1)) 2) = x / 2 := by
  rw [show wrap64 (x - 1) = x - 1 from by unfold wrap64; omega]
  have e : Int.tdiv (x - 1) 2 = x / 2 := by
    have h := Int.neg_tdiv (-(x - 1)) 2
    rw [Int.neg_neg] at h
    rw [h, Int.tdiv_eq_ediv_of_nonneg (by omega)]
    omega
  rw [e]; unfold wrap64; omega
theorem half_pos {x : Int} (h0 : ¬ x < 0) (h1 : x ≤ 1099511627776) : wrap64 (Int.tdiv x 2) = x / 2 := by
  rw [Int.tdiv_eq_ediv_of_nonneg (by omega)]; unfold wrap64; omega
theorem rdown_l0 (x1 : Int) (hx1 : x1 ≤ 1000) (d : Nat) : ∀ (k : Nat) (x x5 : Int), -1099511627776 ≤ x → x ≤ 1099511627776 → 0 ≤ x5 → x1 - x5 = d → d < k → psalteryref17_down.l0 k x x1 x5 = some (x / 2 ^ d) := by
  induction d with
  | zero =>
    intro k x x5 h0 h1 h5 hd hk
    obtain ⟨k, rfl⟩ : ∃ m, k = m + 1 := ⟨k - 1, by omega⟩
    simp only [psalteryref17_down.l0]
    rw [if_neg (by omega)]
    simp
  | succ d ih =>
    intro k x x5 h0 h1 h5 hd hk
    obtain ⟨k, rfl⟩ : ∃ m, k = m + 1 := ⟨k - 1, by omega⟩
    simp only [psalteryref17_down.l0]
    have h5w : wrap64 (x5 + 1) = x5 + 1 := by unfold wrap64; omega
    have e : x / 2 ^ (d + 1) = x / 2 / 2 ^ d := by
      rw [Int.pow_succ, Int.mul_comm, Int.ediv_ediv_of_nonneg (by decide)]
    rw [if_pos (by omega), h5w, e]
    by_cases h : x < 0
    · rw [if_pos h, half_neg h h0]; exact ih k _ _ (by omega) (by omega) (by omega) (by omega) (by omega)
    · rw [if_neg h, half_pos h h1]; exact ih k _ _ (by omega) (by omega) (by omega) (by omega) (by omega)
theorem rdown_of {x : Int} (hx : In32 x) {h : Nat} (hh : h ≤ 17) : psalteryref17_down.f 1000 x (h : Int) = some (x / 2 ^ h) := by
  unfold psalteryref17_down.f
  have := hx.1; have := hx.2
  exact rdown_l0 h (by omega) h 1000 x 0 (by omega) (by omega) (by decide) (by omega) (by omega)
theorem rapart_of {k : Int} (hk : -32767 ≤ k ∧ k ≤ 32767) {i : Nat} (hi : i ≤ 16) : psalteryref17_apart.f k (partV (i : Int)) = some (apartV k i) := by
  have hp := (part_of (i := (i : Int)) (by omega) (by omega)).2
  unfold psalteryref17_apart.f apartV mx
  have := hp.1; have := hp.2
  generalize partV (i : Int) = p at *
  split
  · rw [show wrap64 (k - p) = k - p from by unfold wrap64; omega]; split <;> congr 1 <;> omega
  · rw [show wrap64 (p - k) = p - k from by unfold wrap64; omega]; split <;> congr 1 <;> omega
theorem corr_step (a : Nat → Int) (j t : Nat) : corr a j (j + (t + 1)) = corr a j (j + t) + a t * a (t + j) := by
  show corr a j (j + t + 1) = _
  simp only [corr]
  rw [if_pos (by omega), show j + t - j = t by omega, Int.mul_comm, show j + t = t + j by omega]
theorem corr_end (a : Nat → Int) (j t n : Nat) (h : n ≤ j + t) (h2 : t = 0 ∨ j + t = n) : corr a j (j + t) = corr a j n := by
  rcases h2 with rfl | rfl
  · rw [Nat.add_zero, corr_start a j j (Nat.le_refl _), corr_start a j n (by omega)]
  · rfl
theorem most_neg {m v : Int} (hm : 0 ≤ m) (hv : v < 0) : (if -v > m then -v else m) = mx (mx m v) (-v) := by
  unfold mx; split <;> (split <;> try split) <;> omega
theorem most_pos {m v : Int} (hm : 0 ≤ m) (hv : ¬ v < 0) : (if v > m then v else m) = mx (mx m v) (-v) := by
  unfold mx; split <;> (split <;> try split) <;> omega
/-- The lines, shifted, as a list. -/
def aL (x : List Int) : List Int := (List.range x.length).map (aV x)
theorem aL_length (x : List Int) : (aL x).length = x.length := by simp [aL]
theorem aL_at (x : List Int) {i : Nat} (hi : i < x.length) : (aL x).getD i 0 = aV x i := by
  rw [aL, List.getD_eq_getElem?_getD, List.getElem?_map, List.getElem?_range hi]; rfl
/-- The rows of the recursion as the reference holds them: the first is one shorter at each step. -/
def uR (R : List Int) (m : Nat) : List Int := (uvS R m).1.take (4 - m)
def vR (R : List Int) (m : Nat) : List Int := (uvS R m).2.take (if m = 0 then 4 else 5 - m)
theorem uR_length {R : List Int} (hR : R.length = 5) (m : Nat) : (uR R m).length = 4 - m := by
  rw [uR, List.length_take, (uvS_len R hR m).1]; omega
theorem vR_length {R : List Int} (hR : R.length = 5) (m : Nat) : (vR R m).length = if m = 0 then 4 else 5 - m := by
  rw [vR, List.length_take, (uvS_len R hR m).2]; split <;> omega
theorem take_getD {L : List Int} {n i : Nat} (h : i < n) : (L.take n).getD i 0 = L.getD i 0 := by
  rw [List.getD_eq_getElem?_getD, List.getElem?_take, if_pos h, List.getD_eq_getElem?_getD]
theorem uR_at (R : List Int) {m i : Nat} (h : i < 4 - m) : (uR R m).getD i 0 = (uvS R m).1.getD i 0 := take_getD h
theorem vR_at (R : List Int) {m i : Nat} (h : i < (if m = 0 then 4 else 5 - m)) : (vR R m).getD i 0 = (uvS R m).2.getD i 0 := take_getD h
theorem uR_next (R : List Int) {m j : Nat} (hj : j + 1 < 4 - m) : (uR R (m + 1)).getD j 0 = (uR R m).getD (j + 1) 0 + Go.Proofs.Ytblehkoonajofaa.Num.rnd (kS R m * (vR R m).getD (j + 1) 0) 15 := by
  rw [uR_at R (by omega), uR_at R hj, vR_at R (by split <;> omega)]
  show (uL (kV (uvS R m).1 (uvS R m).2) (uvS R m).1 (uvS R m).2 (4 - m)).getD j 0 = _
  rw [uL_at _ _ _ _ (by omega)]
  unfold uNew kS
  rw [if_pos hj]
theorem vR_next (R : List Int) {m j : Nat} (hj : j < 4 - m) : (vR R (m + 1)).getD j 0 = (vR R m).getD j 0 + Go.Proofs.Ytblehkoonajofaa.Num.rnd (kS R m * (uR R m).getD j 0) 15 := by
  rw [vR_at R (by rw [if_neg (by omega)]; omega), uR_at R hj, vR_at R (by split <;> omega)]
  show (vL (kV (uvS R m).1 (uvS R m).2) (uvS R m).1 (uvS R m).2 (4 - m)).getD j 0 = _
  rw [vL_at _ _ _ _ (by omega)]
  unfold vNew kS
  rw [if_pos hj]
theorem kS_of (R : List Int) {m : Nat} (hm : m < 4) : kS R m = if (vR R m).getD 0 0 > 0 then Go.Proofs.Ytblehkoonajofaa.Num.clip (Int.tdiv (-((uR R m).getD 0 0) * 32768) ((vR R m).getD 0 0)) (-32767) 32767 else 0 := by
  rw [uR_at R (by omega), vR_at R (by split <;> omega)]
  rfl
theorem uR_in (R : List Int) (hR : R.length = 5) (hB : InB 137438953472 R) {m : Nat} (hm : m ≤ 4) (j : Nat) : -2199023255552 ≤ (uR R m).getD j 0 ∧ (uR R m).getD j 0 ≤ 2199023255552 := by
  have h := (uvS_in R hR hB m).1 j
  have hp : (137438953472 : Int) * 2 ^ m ≤ 2199023255552 := by
    have hc : m = 0 ∨ m = 1 ∨ m = 2 ∨ m = 3 ∨ m = 4 := by omega
    rcases hc with rfl | rfl | rfl | rfl | rfl <;> decide
  by_cases hj : j < 4 - m
  · rw [uR_at R hj]; omega
  · rw [out_zero (uR_length hR m) hj]; decide
theorem vR_in (R : List Int) (hR : R.length = 5) (hB : InB 137438953472 R) {m : Nat} (hm : m ≤ 4) (j : Nat) : -2199023255552 ≤ (vR R m).getD j 0 ∧ (vR R m).getD j 0 ≤ 2199023255552 := by
  have h := (uvS_in R hR hB m).2 j
  have hp : (137438953472 : Int) * 2 ^ m ≤ 2199023255552 := by
    have hc : m = 0 ∨ m = 1 ∨ m = 2 ∨ m = 3 ∨ m = 4 := by omega
    rcases hc with rfl | rfl | rfl | rfl | rfl <;> decide
  by_cases hj : j < (if m = 0 then 4 else 5 - m)
  · rw [vR_at R hj]; omega
  · rw [out_zero (vR_length hR m) hj]; decide
theorem take_more {L : List Int} {j : Nat} (h : L.length ≤ j) : L.take (j + 1) = L.take j := by
  rw [List.take_of_length_le h, List.take_of_length_le (by omega)]
/-- Every index so far is the one of nothing. -/
def eightsB (R : List Int) (m : Nat) : Bool := ((idxS R).take m).all fun i => decide (i = 8)
theorem eights_next (R : List Int) {m : Nat} (hm : m < 4) : eightsB R (m + 1) = (eightsB R m && decide (((nearUpto (kS R m) 17 : Nat) : Int) = 8)) := by
  unfold eightsB
  rw [← take_next (by rw [idxS_length]; exact hm), List.all_append, idxS_at R hm]
  simp
theorem eights_all (R : List Int) : eightsB R 4 = decide (idxS R = [8, 8, 8, 8]) := by
  obtain ⟨i0, i1, i2, i3, h⟩ := four (idxS_length R)
  unfold eightsB
  rw [h]
  by_cases e0 : i0 = 8 <;> by_cases e1 : i1 = 8 <;> by_cases e2 : i2 = 8 <;> by_cases e3 : i3 = 8 <;> simp [e0, e1, e2, e3]
theorem vR_last (R : List Int) : (vR R 4).getD 0 0 = (uvS R 4).2.getD 0 0 := vR_at R (by decide)
end Go.Proofs.Ytblehkoonajofaa.PTns
