/- Sine and cosine of an angle: their squares are together nearly one. By cells of the quarter, each reckoned by the kernel. -/
import Derived.Test.YtgmgdbcfgbgnlaaWaveBaseWave
namespace Go.Proofs.Ytgmgdbcfgbgnlaa.WaveCert
open Go.RowKit Go.Proofs.Ytgmgdbcfgbgnlaa.Num Go.Proofs.Ytgmgdbcfgbgnlaa.WaveBaseWave
set_option linter.unusedVariables false

/-- The sum of powers, in natural numbers. -/
def chainN (u : Nat) : Nat := 1686629713 - (693598668 - (85569306 - (5026995 - 172272 * u / 1073741824) * u / 1073741824) * u / 1073741824) * u / 1073741824
def rn (w : Nat) : Nat := min 32767 ((w / 16384 + 1) / 2)
def fineN (t : Nat) : Nat := rn (chainN (t * t / 1073741824) * t / 1073741824)

theorem cast_sub {c p u : Nat} {P : Int} (hP : (p : Int) = P) (h : P * u / 1073741824 ≤ c) : ((c - p * u / 1073741824 : Nat) : Int) = c - P * u / 1073741824 := by
  subst hP
  have e : ((p * u / 1073741824 : Nat) : Int) = (p : Int) * u / 1073741824 := by rw [Int.natCast_ediv, Int.natCast_mul]; rfl
  omega
theorem chainN_cast {u : Nat} (hu : u ≤ 1073741824) : ((chainN u : Nat) : Int) = chain u := by
  obtain ⟨a0, a1, b0, b1, c0, c1, d0, d1⟩ := chain_range (u := (u : Int)) (by omega) (by omega)
  unfold chainN
  unfold chain at d1 ⊢
  refine cast_sub (cast_sub (cast_sub (cast_sub rfl ?_) ?_) ?_) ?_
  · show (172272 : Int) * u / 1073741824 ≤ 5026995; omega
  · show (5026995 - 172272 * (u : Int) / 1073741824) * u / 1073741824 ≤ 85569306; omega
  · show (85569306 - (5026995 - 172272 * (u : Int) / 1073741824) * u / 1073741824) * u / 1073741824 ≤ 693598668; omega
  · show (693598668 - (85569306 - (5026995 - 172272 * (u : Int) / 1073741824) * u / 1073741824) * u / 1073741824) * u / 1073741824 ≤ 1686629713; omega
theorem rn_cast (w : Nat) : ((rn w : Nat) : Int) = clip (rnd w 15) 0 32767 := by
  have e : rnd (w : Int) 15 = ((w : Int) / 16384 + 1) / 2 := by unfold rnd; rw [if_neg (by decide)]; rfl
  rw [e]; unfold rn clip
  split
  · omega
  · split <;> omega
theorem fine_cast {t : Nat} (ht : t ≤ 1073741824) : fine t = ((fineN t : Nat) : Int) := by
  have s := square_range (t := (t : Int)) (by omega) (by omega)
  unfold fine fineN
  rw [rn_cast]
  have e1 : ((t * t / 1073741824 : Nat) : Int) = (t : Int) * t / 1073741824 := by rw [Int.natCast_ediv, Int.natCast_mul]; rfl
  have e2 := chainN_cast (u := t * t / 1073741824) (by omega)
  rw [e1] at e2
  rw [← e2]
  congr 2

def lo4 (u0 u1 : Nat) : Nat × Nat :=
  let h1 := 5026995 - 172272 * u0 / 1073741824
  let l1 := 5026995 - 172272 * u1 / 1073741824
  let h2 := 85569306 - l1 * u0 / 1073741824
  let l2 := 85569306 - h1 * u1 / 1073741824
  let h3 := 693598668 - l2 * u0 / 1073741824
  let l3 := 693598668 - h2 * u1 / 1073741824
  (1686629713 - h3 * u1 / 1073741824, 1686629713 - l3 * u0 / 1073741824)
def cell (a b : Nat) : Nat × Nat :=
  let p := lo4 (a * a / 1073741824) (b * b / 1073741824)
  (rn (p.1 * a / 1073741824), rn (p.2 * b / 1073741824))
def okCell (i : Nat) : Bool :=
  let s := cell (i * 65536) (i * 65536 + 65536)
  let c := cell (1073741824 - (i * 65536 + 65537)) (1073741824 - i * 65536)
  Nat.ble (s.2 * s.2 + c.2 * c.2) 1074003968 && Nat.ble 1073741824 (s.1 * s.1 + c.1 * c.1 + 262144)
def chunk (s : Nat) : Nat → Bool
  | 0 => true
  | n + 1 => okCell (s + n) && chunk s n
theorem all_ok : chunk 0 8192 = true := by decide +kernel
theorem chunk_at {s n : Nat} (h : chunk s n = true) : ∀ i, i < n → okCell (s + i) = true := by
  induction n with
  | zero => intro i hi; omega
  | succ n ih =>
    simp only [chunk, Bool.and_eq_true] at h
    intro i hi
    by_cases e : i = n
    · rw [e]; exact h.1
    · exact ih h.2 i (by omega)

theorem sub_mono {c p q u v : Nat} (h : p ≤ q) (g : u ≤ v) : c - q * v / 1073741824 ≤ c - p * u / 1073741824 :=
  Nat.sub_le_sub_left (Nat.div_le_div_right (Nat.mul_le_mul h g)) c
theorem lo4_sound {u0 u u1 : Nat} (h0 : u0 ≤ u) (h1 : u ≤ u1) : (lo4 u0 u1).1 ≤ chainN u ∧ chainN u ≤ (lo4 u0 u1).2 := by
  have a1 := sub_mono (c := 5026995) (Nat.le_refl 172272) h0
  have b1 := sub_mono (c := 5026995) (Nat.le_refl 172272) h1
  have a2 := sub_mono (c := 85569306) b1 h0
  have b2 := sub_mono (c := 85569306) a1 h1
  have a3 := sub_mono (c := 693598668) b2 h0
  have b3 := sub_mono (c := 693598668) a2 h1
  exact ⟨sub_mono (c := 1686629713) a3 h1, sub_mono (c := 1686629713) b3 h0⟩
theorem rn_mono {a b : Nat} (h : a ≤ b) : rn a ≤ rn b := by unfold rn; omega
theorem cell_sound {a t b : Nat} (h0 : a ≤ t) (h1 : t ≤ b) : (cell a b).1 ≤ fineN t ∧ fineN t ≤ (cell a b).2 := by
  have s := lo4_sound (u0 := a * a / 1073741824) (u := t * t / 1073741824) (u1 := b * b / 1073741824) (Nat.div_le_div_right (Nat.mul_le_mul h0 h0)) (Nat.div_le_div_right (Nat.mul_le_mul h1 h1))
  exact ⟨rn_mono (Nat.div_le_div_right (Nat.mul_le_mul s.1 h0)), rn_mono (Nat.div_le_div_right (Nat.mul_le_mul s.2 h1))⟩
/-- t in the first half, its counterpart behind it. -/
theorem near_one {t s : Nat} (ht : t ≤ 536870912) (h0 : 1073741823 ≤ t + s) (h1 : t + s ≤ 1073741824) :
    fineN t * fineN t + fineN s * fineN s ≤ 1074003968 ∧ 1073741824 ≤ fineN t * fineN t + fineN s * fineN s + 262144 := by
  obtain ⟨i, hi, g0, g1⟩ : ∃ i, i < 8192 ∧ i * 65536 ≤ t ∧ t ≤ i * 65536 + 65536 := by
    by_cases e : t = 536870912
    · exact ⟨8191, by decide, by omega, by omega⟩
    · exact ⟨t / 65536, by omega, by omega, by omega⟩
  have ok := chunk_at all_ok i hi
  rw [Nat.zero_add] at ok
  unfold okCell at ok
  have cs := cell_sound g0 g1
  have cc := cell_sound (a := 1073741824 - (i * 65536 + 65537)) (t := s) (b := 1073741824 - i * 65536) (by omega) (by omega)
  simp only [Bool.and_eq_true, Nat.ble_eq] at ok
  generalize cell (i * 65536) (i * 65536 + 65536) = p at *
  generalize cell (1073741824 - (i * 65536 + 65537)) (1073741824 - i * 65536) = q at *
  have m1 := Nat.mul_le_mul cs.1 cs.1
  have m2 := Nat.mul_le_mul cs.2 cs.2
  have m3 := Nat.mul_le_mul cc.1 cc.1
  have m4 := Nat.mul_le_mul cc.2 cc.2
  omega
theorem squares {t s : Int} (t0 : 0 ≤ t) (s0 : 0 ≤ s) (h0 : 1073741823 ≤ t + s) (h1 : t + s ≤ 1073741824) :
    fine t * fine t + fine s * fine s - 1073741824 ≤ 262144 ∧ -262144 ≤ fine t * fine t + fine s * fine s - 1073741824 := by
  obtain ⟨t, rfl⟩ := Int.eq_ofNat_of_zero_le t0
  obtain ⟨s, rfl⟩ := Int.eq_ofNat_of_zero_le s0
  rw [fine_cast (by omega), fine_cast (by omega)]
  have e : ∀ a : Nat, (a : Int) * (a : Int) = ((a * a : Nat) : Int) := fun a => (Int.natCast_mul a a).symm
  rw [e, e]
  by_cases h : t ≤ 536870912
  · have := near_one (t := t) (s := s) h (by omega) (by omega); omega
  · have := near_one (t := s) (s := t) (by omega) (by omega) (by omega); omega
end Go.Proofs.Ytgmgdbcfgbgnlaa.WaveCert
