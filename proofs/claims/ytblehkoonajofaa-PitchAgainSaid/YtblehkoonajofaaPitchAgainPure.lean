/- Pitch: samples that come again; a comb of no strength: the plain law. -/
import Derived.Test.YtblehkoonajofaaPitchCombPure
namespace Go.Proofs.Ytblehkoonajofaa.PPitch
open Go.RowKit Go.Proofs.YtblehkoonajofaaW.PrintWords Go.Proofs.YtblehkoonajofaaW.PrintLast Go.Proofs.YtblehkoonajofaaW.PrintMore
open Go.Proofs.Ytblehkoonajofaa.LogsBasePitch Go.Proofs.Ytblehkoonajofaa.RefLogsPitch
open Go.Proofs.Ytblehkoonajofaa.Num Go.Proofs.Ytblehkoonajofaa.FixBasePitch
set_option linter.unusedVariables false
set_option linter.unusedSimpArgs false
/-- A sum over the first n. -/
def sumN (h : Nat → Int) : Nat → Int
  | 0 => 0
  | n + 1 => sumN h n + h n
theorem sumN_congr {h g : Nat → Int} : ∀ n, (∀ i, i < n → h i = g i) → sumN h n = sumN g n
  | 0, _ => rfl
  | n + 1, e => by unfold sumN; rw [sumN_congr n (fun i hi => e i (by omega)), e n (by omega)]
theorem sumN_shift1 (h : Nat → Int) : ∀ n, sumN (fun i => h (i + 1)) n + h 0 = sumN h n + h n
  | 0 => by simp [sumN]
  | n + 1 => by
    have := sumN_shift1 h n
    unfold sumN
    omega
theorem sumN_period {h : Nat → Int} {n : Nat} (hp : ∀ j, h (j + n) = h j) : ∀ t, sumN (fun i => h (i + t)) n = sumN h n
  | 0 => rfl
  | t + 1 => by
    have h1 := sumN_period hp t
    have h2 := sumN_shift1 (fun i => h (i + t)) n
    have h3 := hp t
    have e : sumN (fun i => h (i + (t + 1))) n = sumN (fun i => (fun i => h (i + t)) (i + 1)) n := sumN_congr n (fun i _ => by dsimp only; congr 1; omega)
    rw [e, ← h1]
    dsimp only at h2 ⊢
    rw [Nat.zero_add] at h2
    rw [Nat.add_comm n t] at h2
    rw [h3] at h2
    omega
theorem sumN_nonneg {h : Nat → Int} (hh : ∀ i, 0 ≤ h i) : ∀ n, 0 ≤ sumN h n
  | 0 => Int.le_refl _
  | n + 1 => by unfold sumN; have := sumN_nonneg hh n; have := hh n; omega
theorem sumN_ge {h : Nat → Int} (hh : ∀ i, 0 ≤ h i) {i : Nat} : ∀ n, i < n → h i ≤ sumN h n
  | n + 1, hi => by
    unfold sumN
    rcases Nat.lt_or_ge i n with c | c
    · have := sumN_ge hh n c; have := hh n; omega
    · obtain rfl : i = n := by omega
      have := sumN_nonneg hh i; omega
theorem psumZ_is (all : List Int) (a b : Int) : ∀ n, psumZ all a b n = sumN (fun i => rd all (79 + (i : Int) - a) * rd all (79 + (i : Int) - b)) n
  | 0 => rfl
  | n + 1 => by unfold psumZ sumN; rw [psumZ_is all a b n]
theorem pbest_max (all : List Int) (K : Nat) : ∀ m l : Nat, 16 ≤ l → l ≤ 16 + m → psum all 0 l K ≤ (pbest all K m).2
  | 0, l, h0, h1 => by
    obtain rfl : l = 16 := by omega
    exact Int.le_refl _
  | m + 1, l, h0, h1 => by
    unfold pbest
    rcases Nat.lt_or_ge l (17 + m) with c | c
    · have := pbest_max all K m l h0 (by omega)
      split
      · dsimp; omega
      · exact this
    · obtain rfl : l = 17 + m := by omega
      have e : (((17 + m : Nat) : Int)) = 17 + (m : Int) := by omega
      rw [e]
      split
      · exact Int.le_refl _
      · omega
theorem sq_nonneg (a : Int) : 0 ≤ a * a := by
  rcases Int.le_total 0 a with h | h
  · exact Int.mul_nonneg h h
  · exact Int.mul_nonneg_of_nonpos_of_nonpos h h
/-- What comes again, over and over. -/
def over (l : List Int) (j : Nat) : Int := l.getD (j % l.length) 0
def againL (l : List Int) (n : Nat) : List Int := (List.range n).map (over l)
theorem againL_length (l : List Int) (n : Nat) : (againL l n).length = n := by simp [againL]
theorem againL_at (l : List Int) {n i : Nat} (h : i < n) : (againL l n).getD i 0 = over l i := by
  rw [List.getD_eq_getElem?_getD, againL, List.getElem?_map, List.getElem?_range h]; rfl
theorem over_add (l : List Int) (j : Nat) : over l (j + l.length) = over l j := by unfold over; rw [Nat.add_mod_right]
theorem over_mul (l : List Int) (j m : Nat) : over l (j + m * l.length) = over l j := by unfold over; rw [Nat.add_mul_mod_self_right]
/-- Behind whole turns of what comes again, of a list that isn't quiet, what comes again has the greatest strength. -/
theorem again_strong {l A x : List Int} {n m t : Nat} (hd0 : 16 ≤ l.length) (hd1 : l.length ≤ 79) (hn : n = m * l.length) (hn1 : n ≤ 120) (hA : A.length = t * l.length) (hA1 : 79 ≤ A.length) (hB : A.length + n < 1000000)
    (hx : x.length = n) (hall : ∀ j, j < A.length + n → (A ++ x).getD j 0 = over l j) (hr : ∀ v ∈ lasts A ++ x, -32768 ≤ v ∧ v ≤ 32767) (hbig : ∃ i, i < l.length ∧ l.getD i 0 ≠ 0) (hm : 1 ≤ m)
    {s : Int} {ks : Nat} (hs : pitch_strength.f ks (pbest (lasts A ++ x) n 63).2 (IntKind.u64.wrap (psum (lasts A ++ x) 0 0 n)) (IntKind.u64.wrap (psum (lasts A ++ x) (pbest (lasts A ++ x) n 63).1 (pbest (lasts A ++ x) n 63).1 n)) = some s) : s = 3 := by
  obtain ⟨lag, c, hlc⟩ : ∃ lag c, pbest (lasts A ++ x) n 63 = (lag, c) := ⟨_, _, rfl⟩
  have hlag := pbest_lag (lasts A ++ x) n 63
  have hc := pbest_is (lasts A ++ x) n 63
  have hmax := pbest_max (lasts A ++ x) n 63 l.length hd0 (by omega)
  rw [hlc] at hlag hc hmax hs
  dsimp at hlag hc hmax hs
  -- a number read, in terms of what comes again
  have hread : ∀ (i : Nat) (a : Nat), i < n → a ≤ 79 → rd (lasts A ++ x) (79 + (i : Int) - a) = over l (i + (A.length - a)) := by
    intro i a hi ha
    rw [lasts_back A x i a (by omega) (by omega)]
    unfold back
    rw [if_neg (by omega)]
    have e : ((A.length : Int) + i - a).toNat = i + (A.length - a) := by omega
    rw [rd, e, hall _ (by omega)]
  obtain ⟨lg, hlg⟩ : ∃ lg : Nat, lag = lg := ⟨lag.toNat, by omega⟩
  subst hlg
  have per : ∀ f : Int → Int, ∀ j, (fun j => f (over l j)) (j + n) = (fun j => f (over l j)) j := fun f j => by dsimp only; rw [hn, over_mul]
  have PS : ∀ t, sumN (fun i => over l (i + t) * over l (i + t)) n = sumN (fun i => over l i * over l i) n := fun t => sumN_period (h := fun j => over l j * over l j) (per (fun v => v * v)) t
  have hE : psumZ (lasts A ++ x) 0 0 n = sumN (fun i => over l i * over l i) n := by
    rw [psumZ_is, ← PS A.length]
    refine sumN_congr n fun i hi => ?_
    have h0 := hread i 0 hi (by omega)
    rw [show (((0 : Nat) : Int)) = 0 from rfl] at h0
    rw [h0]; rfl
  have hD : psumZ (lasts A ++ x) lg lg n = sumN (fun i => over l i * over l i) n := by
    rw [psumZ_is, ← PS (A.length - lg)]
    refine sumN_congr n fun i hi => ?_
    rw [hread i lg hi (by omega)]
  have hC : psumZ (lasts A ++ x) 0 l.length n = sumN (fun i => over l i * over l i) n := by
    rw [psumZ_is, ← PS A.length]
    refine sumN_congr n fun i hi => ?_
    have h0 := hread i 0 hi (by omega)
    rw [show (((0 : Nat) : Int)) = 0 from rfl] at h0
    rw [h0, hread i l.length hi hd1]
    have e : i + (A.length - 0) = i + (A.length - l.length) + l.length := by omega
    rw [show over l (i + (A.length - 0)) = over l (i + (A.length - l.length)) from by rw [e, over_add]]
    show _ = over l (i + A.length) * over l (i + A.length)
    rw [show over l (i + A.length) = over l (i + (A.length - l.length)) from by rw [show i + A.length = i + (A.length - l.length) + l.length by omega, over_add]]
  obtain ⟨S, hS⟩ : ∃ S, S = sumN (fun i => over l i * over l i) n := ⟨_, rfl⟩
  rw [← hS] at hE hD hC
  have hSpos : 1 ≤ S := by
    obtain ⟨i, hi, hne⟩ := hbig
    have h1 := sumN_ge (h := fun i => over l i * over l i) (fun i => sq_nonneg _) (i := i) n (by have : l.length ≤ m * l.length := Nat.le_mul_of_pos_left _ (by omega); omega)
    have h2 : over l i = l.getD i 0 := by unfold over; rw [Nat.mod_eq_of_lt hi]
    have h1 : over l i * over l i ≤ sumN (fun i => over l i * over l i) n := h1
    rw [h2] at h1
    have h3 : 0 < l.getD i 0 * l.getD i 0 := by
      rcases Int.lt_or_gt_of_ne hne with g | g
      · exact Int.mul_pos_of_neg_of_neg g g
      · exact Int.mul_pos g g
    omega
  obtain ⟨e1, e2, e3⟩ := psum_plain hr 0 0 n (by omega)
  obtain ⟨d1, d2, d3⟩ := psum_plain hr lg lg n (by omega)
  obtain ⟨c1, c2, c3⟩ := psum_plain hr 0 lg n (by omega)
  obtain ⟨g1, g2, g3⟩ := psum_plain hr 0 l.length n (by omega)
  rw [hE] at e1 e2 e3
  rw [hD] at d1
  rw [hC] at g1
  rw [g1] at hmax
  rw [c1] at hc
  have hS2 : S ≤ 137438953472 := by omega
  have u : IntKind.u64.wrap S = S := by rw [IntKind.wrap_u64]; omega
  rw [e1, d1, u] at hs
  obtain ⟨p, hp1, hp2, _⟩ := Root_eq (n := S) (by omega) (by omega) (k := 40) (Nat.le_refl _)
  have hps := root_small hp2 hS2
  have hp0 := hp2.1
  have hpp : 1 ≤ p := by
    by_cases g : 1 ≤ p
    · exact g
    · have : p = 0 := by omega
      subst this
      have := hp2.2.2
      omega
  have hL : ∀ k, 40 ≤ k → logs_Root.f k S = some p := fun k hk => by
    obtain ⟨p', g1, g2, _⟩ := Root_eq (n := S) (by omega) (by omega) hk
    rw [g1, hp2.unique g2]
  have hpq : 1 ≤ p * p ∧ p * p ≤ 274877906944 := by
    have h1 : 1 * 1 ≤ p * p := Int.mul_le_mul hpp hpp (by decide) hp0
    have h2 : p * p ≤ 524288 * 524288 := Int.mul_le_mul hps hps hp0 (by decide)
    exact ⟨by omega, by omega⟩
  have hs2 := at_rounds (fun k => pitch_strength.mono c S S k) (show ks ≤ ks + 60 by omega) hs
  have wp : wrap64 p = p := w64 (by omega) (by omega)
  have ws : wrap64 (p * p) = p * p := w64 (by omega) (by omega)
  unfold pitch_strength.f at hs2
  rw [hL (ks + 60) (by omega)] at hs2
  simp only [Option.bind_some, wp, ws] at hs2
  have hple := hp2.2.1
  have w1 : wrap64 (c * 256) = c * 256 := w64 (by omega) (by omega)
  have hq : 256 ≤ Int.tdiv (c * 256) (p * p) ∧ Int.tdiv (c * 256) (p * p) ≤ c * 256 := by
    rw [Int.tdiv_eq_ediv_of_nonneg (by omega)]
    exact ⟨Int.le_ediv_of_mul_le (by omega) (by omega), Int.ediv_le_self _ (by omega)⟩
  have w2 : wrap64 (Int.tdiv (c * 256) (p * p)) = Int.tdiv (c * 256) (p * p) := w64 (by omega) (by omega)
  rw [if_neg (by omega), pitch_strength.j0, if_neg (by simp; omega), if_neg (by omega), w1, w2, show ks + 59 = (ks + 55) + 4 from rfl, str_l0] at hs2
  injection hs2 with hs2
  rw [← hs2, strQ, if_pos (by omega)]
/-- A comb of no strength. -/
theorem comb_none (x : List Int) (hr : ∀ v ∈ x, -32768 ≤ v ∧ v ≤ 32767) : combL (List.replicate 79 0 ++ x) 0 (wrap64 (0 * 4096)) x.length = x := by
  rw [show wrap64 (0 * 4096) = 0 from by unfold wrap64; decide]
  apply List.ext_getElem?
  intro i
  by_cases hi : i < x.length
  · have h1 := combL_at (List.replicate 79 0 ++ x) 0 0 hi
    rw [List.getElem?_eq_getElem (by rw [combL_length]; exact hi), List.getElem?_eq_getElem hi]
    congr 1
    rw [List.getD_eq_getElem?_getD, List.getElem?_eq_getElem (by rw [combL_length]; exact hi)] at h1
    have e1 : rd (List.replicate 79 0 ++ x) (79 + (i : Int)) = x[i] := by
      rw [rd, show (79 + (i : Int)).toNat = 79 + i by omega, List.getD_eq_getElem?_getD, List.getElem?_append_right (by rw [List.length_replicate]; omega), List.length_replicate, Nat.add_sub_cancel_left, List.getElem?_eq_getElem hi]; rfl
    have hv := hr _ (List.getElem_mem hi)
    have e2 : combOne x[i] x[i] 0 = x[i] * 32768 := by
      have := combOne_range (a := x[i]) (b := x[i]) (G := 0) (by omega) (by omega) (by decide) (by decide)
      rw [this.1]; omega
    rw [Int.sub_zero, e1, e2] at h1
    have e3 : rnd (x[i] * 32768) 15 = x[i] := by unfold rnd; rw [if_neg (by decide), show ((min (15:Int) 62).toNat - 1) = 14 from rfl]; omega
    have e4 : sat16 x[i] = x[i] := by unfold sat16 clip; rw [if_neg (by omega), if_neg (by omega)]
    rw [e3, e4] at h1
    simpa using h1
  · rw [List.getElem?_eq_none (by rw [combL_length]; omega), List.getElem?_eq_none (by omega)]
end Go.Proofs.Ytblehkoonajofaa.PPitch
