/- The plain statement of the law WaveTurns: the other way round below 0, whole turns and finer parts change nothing, squares are together nearly one. No condition. -/
import Derived.Test.YtgmgdbcfgbgnlaaWaveLib
import Derived.Test.YtgmgdbcfgbgnlaaWaveCert
namespace Go.Proofs.Ytgmgdbcfgbgnlaa.Pure
open Go.RowKit Go.Proofs.Ytgmgdbcfgbgnlaa.PWave Go.Proofs.Ytgmgdbcfgbgnlaa.Num Go.Proofs.Ytgmgdbcfgbgnlaa.FixBaseWave Go.Proofs.Ytgmgdbcfgbgnlaa.WaveBaseWave Go.Proofs.Ytgmgdbcfgbgnlaa.WaveLib Go.Proofs.Ytgmgdbcfgbgnlaa.WaveCert Go.Proofs.YtgmgdbcfgbgnlaaW.PrintWords Go.Proofs.YtgmgdbcfgbgnlaaW.PrintLast Go.Proofs.YtgmgdbcfgbgnlaaW.PrintMore
set_option linter.unusedVariables false

theorem fine0 : fine 0 = 0 := by decide +kernel
theorem ang_neg {n d : Int} (hd : 1 ≤ d) : ang (-n) d = -ang n d := by
  have h1 := Int.emod_nonneg n (show d ≠ 0 by omega)
  have h2 := Int.emod_lt_of_pos n (show 0 < d by omega)
  by_cases h0 : n % d = 0
  · have e : (-n) % d = 0 := Int.emod_eq_zero_of_dvd ((Int.dvd_neg).2 (Int.dvd_of_emod_eq_zero h0))
    have z : 4 * 0 * 1073741824 / d = 0 := by simp
    have v : ∀ m : Int, m % d = 0 → ang m d = 0 := by
      intro m hm
      rcases ang_cases hd hm with ⟨_, a⟩ | ⟨a, b, _⟩ | ⟨a, b, _⟩ | ⟨a, b, _⟩
      · rw [a, z, fine0]
      · omega
      · omega
      · omega
    rw [v _ e, v _ h0]; rfl
  · have e : (-n) % d = d - n % d := by
      have := Int.emod_add_mul_ediv n d
      rw [show -n = (d - n % d) + d * (-(n / d) - 1) by rw [Int.mul_sub, Int.mul_neg, Int.mul_one]; omega, Int.add_mul_emod_self_left, Int.emod_eq_of_lt (by omega) (by omega)]
    generalize hm : n % d = m at *
    have c1 := ang_cases hd hm
    have c2 := ang_cases hd e
    rcases c1 with ⟨a, va⟩ | ⟨a, a', va⟩ | ⟨a, a', va⟩ | ⟨a, a', va⟩
    · rcases c2 with ⟨b, vb⟩ | ⟨b, b', vb⟩ | ⟨b, b', vb⟩ | ⟨b, b', vb⟩
      · omega
      · omega
      · omega
      · rw [va, vb, show 4 * d - 4 * (d - m) = 4 * m by omega]
    · rcases c2 with ⟨b, vb⟩ | ⟨b, b', vb⟩ | ⟨b, b', vb⟩ | ⟨b, b', vb⟩
      · omega
      · omega
      · rw [va, vb, show 4 * (d - m) - 2 * d = 2 * d - 4 * m by omega]
      · rw [va, vb, show 4 * d - 4 * (d - m) = 2 * d - 4 * m by omega]
    · rcases c2 with ⟨b, vb⟩ | ⟨b, b', vb⟩ | ⟨b, b', vb⟩ | ⟨b, b', vb⟩
      · omega
      · rw [va, vb, show 2 * d - 4 * (d - m) = 4 * m - 2 * d by omega, Int.neg_neg]
      · rw [va, vb, show 4 * m - 2 * d = 0 by omega, show 4 * (d - m) - 2 * d = 0 by omega, Int.zero_mul, Int.zero_ediv, fine0]; rfl
      · omega
    · rcases c2 with ⟨b, vb⟩ | ⟨b, b', vb⟩ | ⟨b, b', vb⟩ | ⟨b, b', vb⟩
      · rw [va, vb, show 4 * (d - m) = 4 * d - 4 * m by omega, Int.neg_neg]
      · rw [va, vb, show 2 * d - 4 * (d - m) = 4 * d - 4 * m by omega, Int.neg_neg]
      · omega
      · omega
theorem ang_fine {n d j : Int} (hd : 1 ≤ d) (hj : 1 ≤ j) : ang (n * j) (d * j) = ang n d := by
  unfold ang
  have e1 : n * j % (d * j) = (n % d) * j := by
    rw [Int.mul_comm n, Int.mul_comm d, Int.mul_emod_mul_of_pos _ _ (by omega), Int.mul_comm]
  have e2 : 4 * (n % d * j) = j * (4 * (n % d)) := by rw [← Int.mul_assoc, Int.mul_comm j]
  have e3 : j * (4 * (n % d)) / (d * j) = 4 * (n % d) / d := by rw [Int.mul_comm d, Int.mul_ediv_mul_of_pos _ _ (by omega)]
  have e4 : j * (4 * (n % d)) % (d * j) = j * (4 * (n % d) % d) := by rw [Int.mul_comm d, Int.mul_emod_mul_of_pos _ _ (by omega)]
  have e5 : (if 4 * (n % d) / d % 2 = 1 then d * j - j * (4 * (n % d) % d) else j * (4 * (n % d) % d)) = j * (if 4 * (n % d) / d % 2 = 1 then d - 4 * (n % d) % d else 4 * (n % d) % d) := by
    split
    · rw [Int.mul_sub, Int.mul_comm d]
    · rfl
  rw [e1, e2, e3, e4, e5, Int.mul_assoc, Int.mul_comm d j, Int.mul_ediv_mul_of_pos _ _ (by omega)]
/-- Sine and cosine of one angle: of counterparts in the quarter. -/
theorem counter {n d : Int} (hd : 1 ≤ d) : ∃ r, 0 ≤ r ∧ r ≤ d ∧ (ang n d = fine (r * 1073741824 / d) ∨ ang n d = -fine (r * 1073741824 / d)) ∧
    (ang (4 * (n % d) + d) (4 * d) = fine ((d - r) * 1073741824 / d) ∨ ang (4 * (n % d) + d) (4 * d) = -fine ((d - r) * 1073741824 / d)) := by
  have h1 := Int.emod_nonneg n (show d ≠ 0 by omega)
  have h2 := Int.emod_lt_of_pos n (show 0 < d by omega)
  generalize hm : n % d = m at *
  have four : ∀ x : Int, 4 * x * 1073741824 / (4 * d) = x * 1073741824 / d := fun x => by rw [Int.mul_assoc, Int.mul_ediv_mul_of_pos _ _ (by decide)]
  by_cases hw : 4 * m + d < 4 * d
  · have c2 := ang_cases (n := 4 * m + d) (d := 4 * d) (by omega) (Int.emod_eq_of_lt (by omega) hw)
    rcases ang_cases hd hm with ⟨a, va⟩ | ⟨a, a', va⟩ | ⟨a, a', va⟩ | ⟨a, a', va⟩
    · refine ⟨4 * m, by omega, by omega, .inl va, ?_⟩
      rcases c2 with ⟨b, vb⟩ | ⟨b, b', vb⟩ | ⟨b, b', vb⟩ | ⟨b, b', vb⟩
      · omega
      · left; rw [vb, show 2 * (4 * d) - 4 * (4 * m + d) = 4 * (d - 4 * m) by omega, four]
      · omega
      · omega
    · refine ⟨2 * d - 4 * m, by omega, by omega, .inl va, ?_⟩
      rcases c2 with ⟨b, vb⟩ | ⟨b, b', vb⟩ | ⟨b, b', vb⟩ | ⟨b, b', vb⟩
      · omega
      · omega
      · right; rw [vb, show 4 * (4 * m + d) - 2 * (4 * d) = 4 * (d - (2 * d - 4 * m)) by omega, four]
      · omega
    · refine ⟨4 * m - 2 * d, by omega, by omega, .inr va, ?_⟩
      rcases c2 with ⟨b, vb⟩ | ⟨b, b', vb⟩ | ⟨b, b', vb⟩ | ⟨b, b', vb⟩
      · omega
      · omega
      · omega
      · right; rw [vb, show 4 * (4 * d) - 4 * (4 * m + d) = 4 * (d - (4 * m - 2 * d)) by omega, four]
    · omega
  · have e : (4 * m + d) % (4 * d) = 4 * m - 3 * d := by
      rw [show 4 * m + d = (4 * m - 3 * d) + 4 * d * 1 by omega, Int.add_mul_emod_self_left, Int.emod_eq_of_lt (by omega) (by omega)]
    have c2 := ang_cases (n := 4 * m + d) (d := 4 * d) (by omega) e
    rcases ang_cases hd hm with ⟨a, va⟩ | ⟨a, a', va⟩ | ⟨a, a', va⟩ | ⟨a, a', va⟩
    · omega
    · omega
    · omega
    · refine ⟨4 * d - 4 * m, by omega, by omega, .inr va, ?_⟩
      rcases c2 with ⟨b, vb⟩ | ⟨b, b', vb⟩ | ⟨b, b', vb⟩ | ⟨b, b', vb⟩
      · left; rw [vb, show 4 * (4 * m - 3 * d) = 4 * (d - (4 * d - 4 * m)) by omega, four]
      · omega
      · omega
      · omega
theorem nearly {n d : Int} (hd : 1 ≤ d) : ang n d * ang n d + ang (4 * (n % d) + d) (4 * d) * ang (4 * (n % d) + d) (4 * d) - 1073741824 ≤ 262144 ∧
    -262144 ≤ ang n d * ang n d + ang (4 * (n % d) + d) (4 * d) * ang (4 * (n % d) + d) (4 * d) - 1073741824 := by
  obtain ⟨r, r0, r1, hs, hc⟩ := counter (n := n) hd
  have p1 := part_range hd r0 r1
  have p2 := part_range (r := d - r) hd (by omega) (by omega)
  have q1 : r * 1073741824 / d * d ≤ r * 1073741824 := Int.ediv_mul_le _ (by omega)
  have q2 : r * 1073741824 < r * 1073741824 / d * d + d := by
    have := Int.lt_ediv_add_one_mul_self (r * 1073741824) (show 0 < d by omega)
    rw [Int.add_mul, Int.one_mul] at this; exact this
  have q3 : (d - r) * 1073741824 / d * d ≤ (d - r) * 1073741824 := Int.ediv_mul_le _ (by omega)
  have q4 : (d - r) * 1073741824 < (d - r) * 1073741824 / d * d + d := by
    have := Int.lt_ediv_add_one_mul_self ((d - r) * 1073741824) (show 0 < d by omega)
    rw [Int.add_mul, Int.one_mul] at this; exact this
  generalize r * 1073741824 / d = t at *
  generalize (d - r) * 1073741824 / d = s at *
  have h1 : t + s ≤ 1073741824 := Int.le_of_mul_le_mul_right (show (t + s) * d ≤ 1073741824 * d by rw [Int.add_mul]; omega) (show 0 < d by omega)
  have h0 : 1073741823 ≤ t + s := by
    have : 1073741822 < t + s := Int.lt_of_mul_lt_mul_right (show 1073741822 * d < (t + s) * d by rw [Int.add_mul]; omega) (show 0 ≤ d by omega)
    omega
  have sq := squares p1.1 p2.1 h0 h1
  have e1 : ang n d * ang n d = fine t * fine t := by
    rcases hs with h | h <;> rw [h]
    rw [Int.neg_mul_neg]
  have e2 : ang (4 * (n % d) + d) (4 * d) * ang (4 * (n % d) + d) (4 * d) = fine s * fine s := by
    rcases hc with h | h <;> rw [h]
    rw [Int.neg_mul_neg]
  rw [e1, e2]; exact sq
theorem WaveTurns : psalterylaw03_WaveTurns.Pure := by
  intro n den times hn hden htimes
  have hn := i32_of hn
  have hden := u16_of hden
  have htimes := u16_of htimes
  refine ⟨10, ?_⟩
  unfold psalterylaw03_WaveTurns.f
  rw [alive_eq (by decide)]; simp only [Option.bind_some, if_true]
  rw [w64 (a := n) (by omega) (by omega), w64 (a := den) (by omega) (by omega), w64 (a := times) (by omega) (by omega), w64 (a := 1 + den) (by omega) (by omega), Int.tmod_eq_emod_of_nonneg (by omega), w64 (a := 1 + times % 16) (by omega) (by omega), w64 (a := -n) (by omega) (by omega)]
  obtain ⟨d, hd⟩ : ∃ d, d = 1 + den := ⟨_, rfl⟩
  obtain ⟨j, hj⟩ : ∃ j, j = 1 + times % 16 := ⟨_, rfl⟩
  rw [← hd, ← hj]
  have m1 := mul_abs (a := j) (b := d) (A := 16) (B := 65536) (by omega) (by omega) (by omega) (by omega)
  have m2 := mul_abs (a := n) (b := j) (A := 2147483648) (B := 16) (by omega) (by omega) (by omega) (by omega)
  have m3 : 1 ≤ d * j := by
    have := Int.mul_le_mul (show 1 ≤ d by omega) (show 1 ≤ j by omega) (by decide) (by omega); omega
  have cm : j * d = d * j := Int.mul_comm _ _
  rw [w64 (a := j * d) (by omega) (by omega), w64 (a := n + j * d) (by omega) (by omega), w64 (a := n * j) (by omega) (by omega), w64 (a := d * j) (by omega) (by omega)]
  rw [Sine_eq (by decide), Sine_eq (by decide), Sine_eq (by decide), Sine_eq (by decide), Cosine_eq (by decide)]
  rw [if_pos (by omega), if_pos (by omega), if_pos (by omega), if_pos (by omega), if_pos (by omega)]
  have r1 := ang_range n d
  have r2 := ang_range (4 * (n % d) + d) (4 * d)
  simp only [Option.bind_some, if_true]
  rw [ang_neg (by omega), wi16 (by omega) (by omega), if_pos rfl, cm, ang_turn, if_pos rfl, ang_fine (by omega) (by omega), if_pos rfl]
  have s := nearly (n := n) (d := d) (by omega)
  have t1 := mul_abs (a := ang n d) (b := ang n d) (A := 32767) (B := 32767) (by omega) (by omega) (by omega) (by omega)
  have t2 := mul_abs (a := ang (4 * (n % d) + d) (4 * d)) (b := ang (4 * (n % d) + d) (4 * d)) (A := 32767) (B := 32767) (by omega) (by omega) (by omega) (by omega)
  generalize ang (4 * (n % d) + d) (4 * d) = y at *
  generalize ang n d = x at *
  rw [w64 (a := x) (by omega) (by omega), w64 (a := y) (by omega) (by omega), w64 (a := x * x) (by omega) (by omega), w64 (a := y * y) (by omega) (by omega), w64 (a := x * x + y * y) (by omega) (by omega), w64 (a := _ - _) (by omega) (by omega), if_pos s.1, decide_eq_true s.2]

end Go.Proofs.Ytgmgdbcfgbgnlaa.Pure
