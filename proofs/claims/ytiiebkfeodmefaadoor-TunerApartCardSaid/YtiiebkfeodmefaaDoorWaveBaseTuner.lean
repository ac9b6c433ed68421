/- Sines: the functions of wave and psalteryref03, as far as the key Tuner has them, as one plain function of an angle. -/
import Derived.Test.YtiiebkfeodmefaaDoorPTunerx0
import Derived.Test.YtiiebkfeodmefaaDoorPTunerx1
import Derived.Test.YtiiebkfeodmefaaDoorPTunerx2
import Derived.Test.YtiiebkfeodmefaaDoorPTunerx3
import Derived.Test.YtiiebkfeodmefaaDoorPTunerx4
import Derived.Test.YtiiebkfeodmefaaDoorPTunerx5
import Derived.Test.YtiiebkfeodmefaaDoorPTunerx6
import Derived.Test.YtiiebkfeodmefaaDoorNum
import Derived.Test.YtiiebkfeodmefaaDoorFixBaseTuner
namespace Go.Proofs.YtiiebkfeodmefaaDoor.WaveBaseTuner
open Go.RowKit Go.Proofs.YtiiebkfeodmefaaDoor.PTuner Go.Proofs.YtiiebkfeodmefaaDoor.Num Go.Proofs.YtiiebkfeodmefaaDoor.FixBaseTuner Go.Proofs.YtiiebkfeodmefaaDoorW.PrintWords Go.Proofs.YtiiebkfeodmefaaDoorW.PrintLast Go.Proofs.YtiiebkfeodmefaaDoorW.PrintMore
set_option linter.unusedSimpArgs false
set_option linter.unusedVariables false

/-- The sum of powers, of the square u. -/
def chain (u : Int) : Int := 1686629713 - (693598668 - (85569306 - (5026995 - 172272 * u / 1073741824) * u / 1073741824) * u / 1073741824) * u / 1073741824
/-- The sine of a part of a quarter. -/
def fine (t : Int) : Int := clip (rnd (chain (t * t / 1073741824) * t / 1073741824) 15) 0 32767
theorem sub_part {c p u lo hi : Int} (h0 : 0 ≤ lo) (h1 : lo ≤ p) (h2 : p ≤ hi) (hh : hi ≤ 1686629713) (u0 : 0 ≤ u) (u1 : u ≤ 1073741824) : 0 ≤ p * u ∧ p * u ≤ 1811019860344668160 ∧ c - hi ≤ c - p * u / 1073741824 ∧ c - p * u / 1073741824 ≤ c := by
  have a := Int.mul_nonneg (show 0 ≤ p by omega) u0
  have b := Int.mul_le_mul_of_nonneg_left u1 (show 0 ≤ p by omega)
  have d := Int.mul_le_mul_of_nonneg_right (show p ≤ hi by omega) (show (0 : Int) ≤ 1073741824 by decide)
  omega
theorem square_range {t : Int} (t0 : 0 ≤ t) (t1 : t ≤ 1073741824) : 0 ≤ t * t ∧ t * t ≤ 1152921504606846976 ∧ 0 ≤ t * t / 1073741824 ∧ t * t / 1073741824 ≤ 1073741824 := by
  have a := Int.mul_nonneg t0 t0
  have b := Int.mul_le_mul_of_nonneg_left t1 t0
  omega
theorem chain_range {u : Int} (u0 : 0 ≤ u) (u1 : u ≤ 1073741824) :
    (0 ≤ 172272 * u ∧ 172272 * u ≤ 1811019860344668160) ∧ (4854723 ≤ 5026995 - 172272 * u / 1073741824 ∧ 5026995 - 172272 * u / 1073741824 ≤ 5026995) ∧
    (0 ≤ (5026995 - 172272 * u / 1073741824) * u ∧ (5026995 - 172272 * u / 1073741824) * u ≤ 1811019860344668160) ∧ (80542311 ≤ 85569306 - (5026995 - 172272 * u / 1073741824) * u / 1073741824 ∧ 85569306 - (5026995 - 172272 * u / 1073741824) * u / 1073741824 ≤ 85569306) ∧
    (0 ≤ (85569306 - (5026995 - 172272 * u / 1073741824) * u / 1073741824) * u ∧ (85569306 - (5026995 - 172272 * u / 1073741824) * u / 1073741824) * u ≤ 1811019860344668160) ∧ (608029362 ≤ 693598668 - (85569306 - (5026995 - 172272 * u / 1073741824) * u / 1073741824) * u / 1073741824 ∧ 693598668 - (85569306 - (5026995 - 172272 * u / 1073741824) * u / 1073741824) * u / 1073741824 ≤ 693598668) ∧
    (0 ≤ (693598668 - (85569306 - (5026995 - 172272 * u / 1073741824) * u / 1073741824) * u / 1073741824) * u ∧ (693598668 - (85569306 - (5026995 - 172272 * u / 1073741824) * u / 1073741824) * u / 1073741824) * u ≤ 1811019860344668160) ∧ (993031045 ≤ chain u ∧ chain u ≤ 1686629713) := by
  unfold chain
  have a1 := sub_part (c := 5026995) (p := 172272) (lo := 172272) (hi := 172272) (by decide) (by decide) (by decide) (by decide) u0 u1
  generalize 5026995 - 172272 * u / 1073741824 = p1 at *
  have a2 := sub_part (c := 85569306) (p := p1) (lo := 4854723) (hi := 5026995) (by decide) (by omega) (by omega) (by decide) u0 u1
  generalize 85569306 - p1 * u / 1073741824 = p2 at *
  have a3 := sub_part (c := 693598668) (p := p2) (lo := 80542311) (hi := 85569306) (by decide) (by omega) (by omega) (by decide) u0 u1
  generalize 693598668 - p2 * u / 1073741824 = p3 at *
  have a4 := sub_part (c := 1686629713) (p := p3) (lo := 608029362) (hi := 693598668) (by decide) (by omega) (by omega) (by decide) u0 u1
  omega
theorem fine_range (t : Int) : 0 ≤ fine t ∧ fine t ≤ 32767 := clip_range (by decide)
theorem top_range {t : Int} (t0 : 0 ≤ t) (t1 : t ≤ 1073741824) : 0 ≤ chain (t * t / 1073741824) * t ∧ chain (t * t / 1073741824) * t ≤ 1811019860344668160 ∧ 0 ≤ chain (t * t / 1073741824) * t / 1073741824 ∧ chain (t * t / 1073741824) * t / 1073741824 ≤ 1686641546 := by
  have s := square_range t0 t1
  have c := (chain_range s.2.2.1 s.2.2.2).2.2.2.2.2.2.2
  have a := sub_part (c := 0) (p := chain (t * t / 1073741824)) (lo := 993031045) (hi := 1686629713) (by decide) c.1 c.2 (by decide) t0 t1
  omega

/-- The sine of an angle: num parts of den. -/
def ang (num den : Int) : Int :=
  if 4 * (num % den) / den ≥ 2 then -fine ((if 4 * (num % den) / den % 2 = 1 then den - 4 * (num % den) % den else 4 * (num % den) % den) * 1073741824 / den)
  else fine ((if 4 * (num % den) / den % 2 = 1 then den - 4 * (num % den) % den else 4 * (num % den) % den) * 1073741824 / den)
theorem ang_range (num den : Int) : -32767 ≤ ang num den ∧ ang num den ≤ 32767 := by
  unfold ang
  split
  · have := fine_range ((if 4 * (num % den) / den % 2 = 1 then den - 4 * (num % den) % den else 4 * (num % den) % den) * 1073741824 / den); omega
  · have := fine_range ((if 4 * (num % den) / den % 2 = 1 then den - 4 * (num % den) % den else 4 * (num % den) % den) * 1073741824 / den); omega
theorem part_range {r den : Int} (hd : 1 ≤ den) (h0 : 0 ≤ r) (h1 : r ≤ den) : 0 ≤ r * 1073741824 / den ∧ r * 1073741824 / den ≤ 1073741824 := by
  refine ⟨Int.ediv_nonneg (by omega) (by omega), ?_⟩
  have : r * 1073741824 / den < 1073741825 := by
    rw [Int.ediv_lt_iff_lt_mul (by omega)]; omega
  omega
theorem tmod_cases {n d : Int} (hd : 1 ≤ d) : (Int.tmod n d < 0 ∧ Int.tmod n d = n % d - d) ∨ (0 ≤ Int.tmod n d ∧ Int.tmod n d = n % d) := by
  rw [Int.tmod_eq_emod]
  have h1 := Int.emod_nonneg n (show d ≠ 0 by omega)
  have h2 := Int.emod_lt_of_pos n (show 0 < d by omega)
  split
  · right; omega
  · left; omega
theorem modulo_eq {n d : Int} (hd : 1 ≤ d) (hd2 : d ≤ 4294967296) : wave_modulo.f n d = some (n % d) := by
  unfold wave_modulo.f
  have h1 := Int.emod_nonneg n (show d ≠ 0 by omega)
  have h2 := Int.emod_lt_of_pos n (show 0 < d by omega)
  rw [if_neg (by omega)]
  rcases tmod_cases (n := n) hd with ⟨a, b⟩ | ⟨a, b⟩
  · rw [if_pos a, b, w64 (by omega) (by omega)]; congr 1; omega
  · rw [if_neg (by omega), b]
theorem height_eq {n d : Int} (hd : 1 ≤ d) (hd2 : d ≤ 4194304) : wave_height.f n d = some ((if 4 * (n % d) / d % 2 = 1 then d - 4 * (n % d) % d else 4 * (n % d) % d) * 1073741824 / d, 4 * (n % d) / d) := by
  unfold wave_height.f
  have h1 := Int.emod_nonneg n (show d ≠ 0 by omega)
  have h2 := Int.emod_lt_of_pos n (show 0 < d by omega)
  rw [modulo_eq hd (by omega)]; simp only [Option.bind_some]
  have g1 := Int.emod_nonneg (4 * (n % d)) (show d ≠ 0 by omega)
  have g2 := Int.emod_lt_of_pos (4 * (n % d)) (show 0 < d by omega)
  have q := ediv_range (n := 4 * (n % d)) (p := d) (lo := 0) (hi := 16777216) hd (by decide) (by decide) (by omega) (by omega)
  rw [w64 (a := 4 * (n % d)) (by omega) (by omega), if_neg (by omega), Int.tdiv_eq_ediv_of_nonneg (by omega), w64 (a := 4 * (n % d) / d) (by omega) (by omega), land1, Int.tmod_eq_emod_of_nonneg (by omega), wu64 (a := d) (by omega) (by omega)]
  by_cases h : 4 * (n % d) / d % 2 = 1
  · have r := part_range (r := d - 4 * (n % d) % d) hd (by omega) (by omega)
    rw [if_pos h, if_neg (by omega), if_pos h, w64 (a := d - _) (by omega) (by omega), wu64 (a := d - _) (by omega) (by omega), wu64 (a := (d - _) * _) (by omega) (by omega), Int.tdiv_eq_ediv_of_nonneg (by omega), wu64 (by omega) (by omega)]
  · have r := part_range (r := 4 * (n % d) % d) hd (by omega) (by omega)
    rw [if_neg h, if_neg (by omega), if_neg h, wu64 (a := 4 * (n % d) % d) (by omega) (by omega), wu64 (a := (4 * (n % d) % d) * _) (by omega) (by omega), Int.tdiv_eq_ediv_of_nonneg (by omega), wu64 (by omega) (by omega)]
theorem arr_at {i v : Int} (h : arr_wave_sine_22.f i = some v) : True := trivial
theorem arr0 : arr_wave_sine_22.f 0 = some 5026995 := by decide +kernel
theorem arr1 : arr_wave_sine_22.f 1 = some 85569306 := by decide +kernel
theorem arr2 : arr_wave_sine_22.f 2 = some 693598668 := by decide +kernel
theorem arr3 : arr_wave_sine_22.f 3 = some 1686629713 := by decide +kernel
theorem sine_l0 {t q : Int} (t0 : 0 ≤ t) (t1 : t ≤ 1073741824) {k : Nat} (hk : 5 ≤ k) : wave_sine.l0 k t q (t * t / 1073741824) 172272 0 = some (if q ≥ 2 then -fine t else fine t) := by
  have s := square_range t0 t1
  have tr := top_range t0 t1
  unfold fine
  have fr := clip_range (n := rnd (chain (t * t / 1073741824) * t / 1073741824) 15) (show (0 : Int) ≤ 32767 by decide)
  generalize hu : t * t / 1073741824 = u at *
  obtain ⟨a0, a1, b0, b1, c0, c1, d0, d1⟩ := chain_range s.2.2.1 s.2.2.2
  obtain ⟨k, rfl⟩ : ∃ m, k = m + 1 := ⟨k - 1, by omega⟩
  simp only [wave_sine.l0]
  rw [if_pos (by decide), arr0]; simp only [Option.bind_some]
  rw [wu64 (a := 172272 * u) (by omega) (by omega), wu64 (a := 5026995 - _) (by omega) (by omega), show wrap64 (0 + 1) = 1 by decide +kernel]
  obtain ⟨k, rfl⟩ : ∃ m, k = m + 1 := ⟨k - 1, by omega⟩
  simp only [wave_sine.l0]
  rw [if_pos (by decide), arr1]; simp only [Option.bind_some]
  rw [wu64 (a := (5026995 - _) * u) (by omega) (by omega), wu64 (a := 85569306 - _) (by omega) (by omega), show wrap64 (1 + 1) = 2 by decide +kernel]
  obtain ⟨k, rfl⟩ : ∃ m, k = m + 1 := ⟨k - 1, by omega⟩
  simp only [wave_sine.l0]
  rw [if_pos (by decide), arr2]; simp only [Option.bind_some]
  rw [wu64 (a := (85569306 - _) * u) (by omega) (by omega), wu64 (a := 693598668 - _) (by omega) (by omega), show wrap64 (2 + 1) = 3 by decide +kernel]
  obtain ⟨k, rfl⟩ : ∃ m, k = m + 1 := ⟨k - 1, by omega⟩
  simp only [wave_sine.l0]
  rw [if_pos (by decide), arr3]; simp only [Option.bind_some]
  unfold chain at d1 tr fr ⊢
  rw [wu64 (a := (693598668 - _) * u) (by omega) (by omega), wu64 (a := 1686629713 - _) (by omega) (by omega), show wrap64 (3 + 1) = 4 by decide +kernel]
  obtain ⟨k, rfl⟩ : ∃ m, k = m + 1 := ⟨k - 1, by omega⟩
  simp only [wave_sine.l0]
  rw [if_neg (by decide)]
  rw [wu64 (a := (1686629713 - _) * t) (by omega) (by omega), w64 (a := _ / _) (by omega) (by omega), Round_eq 15 (by omega) (by omega)]; simp only [Option.bind_some]
  rw [Clip_eq]; simp only [Option.bind_some]
  by_cases h : q ≥ 2
  · rw [if_pos h, if_pos h, w64 (by omega) (by omega), wi16 (by omega) (by omega)]
  · rw [if_neg h, if_neg h, wi16 (by omega) (by omega)]
theorem sine_eq {n d : Int} (hd : 1 ≤ d) (hd2 : d ≤ 4194304) {k : Nat} (hk : 5 ≤ k) : wave_sine.f k n d = some (ang n d) := by
  unfold wave_sine.f
  rw [height_eq hd hd2]; simp only [Option.bind_some]
  have g1 := Int.emod_nonneg (4 * (n % d)) (show d ≠ 0 by omega)
  have g2 := Int.emod_lt_of_pos (4 * (n % d)) (show 0 < d by omega)
  have r : 0 ≤ (if 4 * (n % d) / d % 2 = 1 then d - 4 * (n % d) % d else 4 * (n % d) % d) ∧ (if 4 * (n % d) / d % 2 = 1 then d - 4 * (n % d) % d else 4 * (n % d) % d) ≤ d := by split <;> omega
  have pr := part_range hd r.1 r.2
  have sq := square_range pr.1 pr.2
  rw [wu64 (by omega) (by omega), sine_l0 pr.1 pr.2 hk]
  simp only [ang]

/-- The four quarters. -/
theorem ang_cases {n d m : Int} (hd : 1 ≤ d) (hm : n % d = m) :
    (4 * m < d ∧ ang n d = fine (4 * m * 1073741824 / d)) ∨ (d ≤ 4 * m ∧ 4 * m < 2 * d ∧ ang n d = fine ((2 * d - 4 * m) * 1073741824 / d)) ∨
    (2 * d ≤ 4 * m ∧ 4 * m < 3 * d ∧ ang n d = -fine ((4 * m - 2 * d) * 1073741824 / d)) ∨ (3 * d ≤ 4 * m ∧ 4 * m < 4 * d ∧ ang n d = -fine ((4 * d - 4 * m) * 1073741824 / d)) := by
  have h1 := Int.emod_nonneg n (show d ≠ 0 by omega)
  have h2 := Int.emod_lt_of_pos n (show 0 < d by omega)
  rw [hm] at h1 h2
  unfold ang
  rw [hm]
  have uq := fun (q r : Int) => (@Int.ediv_emod_unique (4 * m) d r q (show 0 < d by omega)).2
  by_cases c1 : 4 * m < d
  · obtain ⟨e1, e2⟩ := uq 0 (4 * m) ⟨by omega, by omega, c1⟩
    left; rw [e1, e2]; exact ⟨c1, rfl⟩
  · right
    by_cases c2 : 4 * m < 2 * d
    · obtain ⟨e1, e2⟩ := uq 1 (4 * m - d) ⟨by omega, by omega, by omega⟩
      left; rw [e1, e2]; refine ⟨by omega, c2, ?_⟩
      rw [if_neg (by decide), if_pos (by decide)]; congr 2; omega
    · right
      by_cases c3 : 4 * m < 3 * d
      · obtain ⟨e1, e2⟩ := uq 2 (4 * m - 2 * d) ⟨by omega, by omega, by omega⟩
        left; rw [e1, e2]; refine ⟨by omega, c3, ?_⟩
        rw [if_pos (by decide), if_neg (by decide)]
      · obtain ⟨e1, e2⟩ := uq 3 (4 * m - 3 * d) ⟨by omega, by omega, by omega⟩
        right; rw [e1, e2]; refine ⟨by omega, by omega, ?_⟩
        rw [if_pos (by decide), if_pos (by decide)]; congr 3; omega
theorem Sine_eq {n d : Int} {k : Nat} (hk : 5 ≤ k) : wave_Sine.f k n d = some (if 1 ≤ d ∧ d ≤ 1048576 then (ang n d, 0) else (0, 1)) := by
  unfold wave_Sine.f
  by_cases h1 : d < 1
  · rw [if_pos h1, if_neg (by omega)]
  · rw [if_neg h1]
    by_cases h2 : d > 1048576
    · rw [if_pos h2, if_neg (by omega)]
    · rw [if_neg h2, if_pos (by omega), sine_eq (by omega) (by omega) hk]; rfl
theorem Cosine_eq {n d : Int} {k : Nat} (hk : 6 ≤ k) : wave_Cosine.f k n d = some (if 1 ≤ d ∧ d ≤ 1048576 then (ang (4 * (n % d) + d) (4 * d), 0) else (0, 1)) := by
  obtain ⟨k, rfl⟩ : ∃ m, k = m + 1 := ⟨k - 1, by omega⟩
  unfold wave_Cosine.f
  by_cases h1 : d < 1
  · rw [if_pos h1, if_neg (by omega)]; simp only [wave_Cosine.j0, if_true]
  · rw [if_neg h1]; simp only [wave_Cosine.j0]
    by_cases h2 : d > 1048576
    · rw [decide_eq_true h2, if_pos rfl, if_neg (by omega)]
    · have m1 := Int.emod_nonneg n (show d ≠ 0 by omega)
      have m2 := Int.emod_lt_of_pos n (show 0 < d by omega)
      rw [decide_eq_false h2, if_neg Bool.false_ne_true, if_pos (by omega), modulo_eq (by omega) (by omega)]; simp only [Option.bind_some]
      rw [w64 (a := 4 * (n % d)) (by omega) (by omega), w64 (a := 4 * (n % d) + d) (by omega) (by omega), w64 (a := 4 * d) (by omega) (by omega), sine_eq (by omega) (by omega) (by omega)]; rfl

/-! the reference -/
theorem part_eq {n d : Int} (h0 : 0 ≤ n * d) (h1 : n * d ≤ 9223372036854775807) : psalteryref03_part.f n d = some (n * d / 1073741824) := by
  unfold psalteryref03_part.f
  rw [w64 (a := n * d) (by omega) (by omega), Int.tdiv_eq_ediv_of_nonneg h0, w64 (by omega) (by omega)]
theorem signed_j0 {r d : Int} (b : Bool) (hd : 1 ≤ d) (hd2 : d ≤ 8388608) (r0 : 0 ≤ r) (r1 : r ≤ d) (k : Nat) : psalteryref03_signed.j0 (k + 1) d b r = some (if b then -fine (r * 1073741824 / d) else fine (r * 1073741824 / d)) := by
  have pr := part_range hd r0 r1
  simp only [psalteryref03_signed.j0]
  rw [if_neg (by omega), w64 (a := r * 1073741824) (by omega) (by omega), Int.tdiv_eq_ediv_of_nonneg (by omega), w64 (a := _ / _) (by omega) (by omega)]
  generalize r * 1073741824 / d = t at *
  have s := square_range pr.1 pr.2
  have tr := top_range pr.1 pr.2
  unfold fine
  rw [part_eq s.1 (by omega)]; simp only [Option.bind_some]
  generalize hu : t * t / 1073741824 = u at *
  obtain ⟨a0, a1, b0, b1, c0, c1, d0, d1⟩ := chain_range s.2.2.1 s.2.2.2
  unfold chain at d1 tr ⊢
  rw [part_eq a0.1 (by omega)]; simp only [Option.bind_some]
  rw [w64 (a := 5026995 - _) (by omega) (by omega), part_eq b0.1 (by omega)]; simp only [Option.bind_some]
  rw [w64 (a := 85569306 - _) (by omega) (by omega), part_eq c0.1 (by omega)]; simp only [Option.bind_some]
  rw [w64 (a := 693598668 - _) (by omega) (by omega), part_eq d0.1 (by omega)]; simp only [Option.bind_some]
  rw [w64 (a := 1686629713 - _) (by omega) (by omega), part_eq tr.1 (by omega)]; simp only [Option.bind_some]
  rw [rRound_eq 15 (by omega) (by omega)]; simp only [Option.bind_some]
  have rr := rnd_range (n := (1686629713 - (693598668 - (85569306 - (5026995 - 172272 * u / 1073741824) * u / 1073741824) * u / 1073741824) * u / 1073741824) * t / 1073741824) (s := 15) (lo := 0) (hi := 1686641546) (by decide) (by decide) (by omega) (by omega)
  generalize rnd ((1686629713 - (693598668 - (85569306 - (5026995 - 172272 * u / 1073741824) * u / 1073741824) * u / 1073741824) * u / 1073741824) * t / 1073741824) 15 = y at *
  unfold clip
  rw [if_neg (show ¬ y < 0 by omega)]
  by_cases h : y > 32767
  · rw [if_pos h, if_pos h]; cases b <;> rfl
  · rw [if_neg h, if_neg h]
    cases b
    · rw [if_neg Bool.false_ne_true, wi16 (by omega) (by omega)]; rfl
    · rw [if_pos rfl, w64 (by omega) (by omega), wi16 (by omega) (by omega)]; rfl
theorem signed_eq {n d : Int} (b : Bool) (hd : 1 ≤ d) (hd2 : d ≤ 8388608) (n0 : 0 ≤ n) (n1 : 2 * n ≤ d) {k : Nat} (hk : 1 ≤ k) : psalteryref03_signed.f k n d b = some (if b then -fine ((if 4 * n ≥ d then 2 * d - 4 * n else 4 * n) * 1073741824 / d) else fine ((if 4 * n ≥ d then 2 * d - 4 * n else 4 * n) * 1073741824 / d)) := by
  obtain ⟨k, rfl⟩ : ∃ m, k = m + 1 := ⟨k - 1, by omega⟩
  unfold psalteryref03_signed.f
  rw [w64 (a := 4 * n) (by omega) (by omega), w64 (a := 2 * d) (by omega) (by omega), w64 (a := 2 * d - 4 * n) (by omega) (by omega)]
  by_cases h : 4 * n ≥ d
  · rw [if_pos h, if_pos h]; exact signed_j0 b hd hd2 (by omega) (by omega) k
  · rw [if_neg h, if_neg h]; exact signed_j0 b hd hd2 (by omega) (by omega) k
theorem of_eq {n d : Int} (hd : 1 ≤ d) (hd2 : d ≤ 4194304) (hs : (n < 0 ∧ -d < n) ∨ (0 ≤ n ∧ n < d)) (hb : 2 * (if n < 0 then n + d else n) ≥ d) {k : Nat} (hk : 2 ≤ k) :
    psalteryref03_of.f k (2 * n) (2 * d) = some (-fine ((if 4 * (if n < 0 then n + d else n) ≥ 3 * d then 4 * d - 4 * (if n < 0 then n + d else n) else 4 * (if n < 0 then n + d else n) - 2 * d) * 1073741824 / d)) := by
  obtain ⟨k, rfl⟩ : ∃ m, k = m + 1 := ⟨k - 1, by omega⟩
  have key : ∀ m : Int, 0 ≤ m → m < d → 2 * m ≥ d → psalteryref03_of.j0 (k + 1) (2 * d) (2 * m) = some (-fine ((if 4 * m ≥ 3 * d then 4 * d - 4 * m else 4 * m - 2 * d) * 1073741824 / d)) := by
    intro m m0 m1 hm
    simp only [psalteryref03_of.j0]
    rw [w64 (a := 2 * (2 * m)) (by omega) (by omega), if_pos (by omega), Int.tdiv_eq_ediv_of_nonneg (by omega), show 2 * d / 2 = d by omega, w64 (a := d) (by omega) (by omega), w64 (a := 2 * m - d) (by omega) (by omega), signed_eq true (by omega) (by omega) (by omega) (by omega) (by omega)]
    simp only [Option.bind_some, if_true]
    congr 2
    by_cases h : 4 * m ≥ 3 * d
    · rw [if_pos (by omega), if_pos h, show (2 * (2 * d) - 4 * (2 * m - d)) * 1073741824 = 2 * ((4 * d - 4 * m) * 1073741824) by omega, Int.mul_ediv_mul_of_pos _ _ (by decide)]
    · rw [if_neg (by omega), if_neg h, show 4 * (2 * m - d) * 1073741824 = 2 * ((4 * m - 2 * d) * 1073741824) by omega, Int.mul_ediv_mul_of_pos _ _ (by decide)]
  unfold psalteryref03_of.f
  by_cases h : n < 0
  · rw [if_pos h] at hb
    rw [if_pos (by omega), w64 (by omega) (by omega), if_pos h, show 2 * n + 2 * d = 2 * (n + d) by omega]
    exact key _ (by omega) (by omega) hb
  · rw [if_neg h] at hb
    rw [if_neg (by omega), if_neg h]
    exact key _ (by omega) (by omega) hb
theorem Of_j0 {n d m : Int} (hd : 1 ≤ d) (hd2 : d ≤ 4194304) (hm : n % d = m) {k : Nat} (hk : 2 ≤ k) : psalteryref03_Of.j0 (k + 1) n d m = some (ang n d) := by
  have h1 := Int.emod_nonneg n (show d ≠ 0 by omega)
  have h2 := Int.emod_lt_of_pos n (show 0 < d by omega)
  rw [hm] at h1 h2
  simp only [psalteryref03_Of.j0]
  rw [w64 (a := 2 * m) (by omega) (by omega)]
  have cs := ang_cases hd hm
  by_cases hb : 2 * m ≥ d
  · rw [if_pos hb, decide_eq_true hb]
    have val : ang n d = -fine ((if 4 * m ≥ 3 * d then 4 * d - 4 * m else 4 * m - 2 * d) * 1073741824 / d) := by
      rcases cs with ⟨a, _⟩ | ⟨_, a, _⟩ | ⟨a, b, e⟩ | ⟨a, b, e⟩
      · omega
      · omega
      · rw [e, if_neg (by omega)]
      · rw [e, if_pos (by omega)]
    by_cases ho : Int.tmod d 2 = 1
    · rw [if_pos ho, if_neg (by omega)]
      have e2 : (if Int.tmod n d < 0 then Int.tmod n d + d else Int.tmod n d) = m := by
        rcases tmod_cases (n := n) hd with ⟨a, b⟩ | ⟨a, b⟩
        · rw [if_pos a]; omega
        · rw [if_neg (by omega)]; omega
      have hs : (Int.tmod n d < 0 ∧ -d < Int.tmod n d) ∨ (0 ≤ Int.tmod n d ∧ Int.tmod n d < d) := by
        rcases tmod_cases (n := n) hd with ⟨a, b⟩ | ⟨a, b⟩
        · left
          refine ⟨a, ?_⟩
          rw [b, hm]
          by_cases hm0 : m = 0
          · exfalso; rw [Int.tmod_eq_emod, if_pos (.inr (Int.dvd_of_emod_eq_zero (by omega)))] at a; omega
          · omega
        · right; omega
      rw [w64 (a := 2 * Int.tmod n d) (by omega) (by omega), w64 (a := 2 * d) (by omega) (by omega), of_eq hd hd2 hs (by rw [e2]; exact hb) hk, e2, val]; rfl
    · rw [if_neg ho]
      have e2 : Int.tdiv d 2 = d / 2 ∧ 2 * (d / 2) = d := by
        rw [Int.tmod_eq_emod_of_nonneg (by omega)] at ho
        exact ⟨Int.tdiv_eq_ediv_of_nonneg (by omega), by omega⟩
      rw [e2.1, w64 (a := d / 2) (by omega) (by omega), w64 (a := m - d / 2) (by omega) (by omega), signed_eq true (by omega) (by omega) (by omega) (by omega) (by omega), val]
      simp only [Option.bind_some, if_true]
      congr 3
      by_cases h : 4 * m ≥ 3 * d
      · rw [if_pos (by omega), if_pos h]; congr 1; omega
      · rw [if_neg (by omega), if_neg h]; congr 1; omega
  · rw [if_neg hb, decide_eq_false hb, signed_eq false (by omega) (by omega) (by omega) (by omega) (by omega)]
    simp only [Option.bind_some, Bool.false_eq_true, if_false]
    rcases cs with ⟨a, e⟩ | ⟨a, b, e⟩ | ⟨a, _⟩ | ⟨a, _⟩
    · rw [e, if_neg (by omega)]
    · rw [e, if_pos (by omega)]
    · omega
    · omega
theorem Of_eq {n d : Int} (hd : 1 ≤ d) (hd2 : d ≤ 4194304) {k : Nat} (hk : 3 ≤ k) : psalteryref03_Of.f k n d = some (ang n d) := by
  obtain ⟨k, rfl⟩ : ∃ m, k = m + 1 := ⟨k - 1, by omega⟩
  have h1 := Int.emod_nonneg n (show d ≠ 0 by omega)
  have h2 := Int.emod_lt_of_pos n (show 0 < d by omega)
  unfold psalteryref03_Of.f
  rw [if_neg (by omega)]
  rcases tmod_cases (n := n) hd with ⟨a, b⟩ | ⟨a, b⟩
  · rw [if_pos a, w64 (by omega) (by omega)]; exact Of_j0 hd hd2 (by omega) (by omega)
  · rw [if_neg (by omega)]; exact Of_j0 hd hd2 (by omega) (by omega)
/-- Whole turns change nothing. -/
theorem ang_turn (n d j : Int) : ang (n + d * j) d = ang n d := by unfold ang; rw [Int.add_mul_emod_self_left]
end Go.Proofs.YtiiebkfeodmefaaDoor.WaveBaseTuner
