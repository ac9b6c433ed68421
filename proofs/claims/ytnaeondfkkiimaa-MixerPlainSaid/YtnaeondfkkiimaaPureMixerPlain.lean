/- The plain statement of the law MixerPlain: equal rates leave a list, a share 0 leaves the other list alone, and what is more often is as long as it must be and within the ends of the list. No condition. -/
import Derived.Test.YtnaeondfkkiimaaMixLib
namespace Go.Proofs.Ytnaeondfkkiimaa.Pure
open Go.RowKit Go.Proofs.Ytnaeondfkkiimaa.PMixer Go.Proofs.Ytnaeondfkkiimaa.Num Go.Proofs.Ytnaeondfkkiimaa.MixLib Go.Proofs.Ytnaeondfkkiimaa.SameLibMixer Go.Proofs.Ytnaeondfkkiimaa.FixBaseMixer Go.Proofs.YtnaeondfkkiimaaW.PrintWords Go.Proofs.YtnaeondfkkiimaaW.PrintLast Go.Proofs.YtnaeondfkkiimaaW.PrintMore
set_option linter.unusedVariables false
theorem ends_l0 {x0 x18 : List Int} (s : Sams x0) (hl : x0.length ≤ 1000000) (d : Nat) : ∀ (k : Nat) (lo hi i : Int), 0 ≤ i → (x0.length : Int) - i = d → lo ≤ 0 → 0 ≤ hi → -32768 ≤ lo → hi ≤ 32767 →
    (∀ j : Int, 0 ≤ j → j < i → lo ≤ rd x0 j ∧ rd x0 j ≤ hi) →
    ∃ lo2 hi2, psalterylaw33_MixerPlain.l0 (k + d + 1) x0 x18 lo hi i = psalterylaw33_MixerPlain.l1 k x18 lo2 hi2 0 ∧ lo2 ≤ 0 ∧ 0 ≤ hi2 ∧ -32768 ≤ lo2 ∧ hi2 ≤ 32767 ∧ ∀ j : Int, 0 ≤ j → j < x0.length → lo2 ≤ rd x0 j ∧ rd x0 j ≤ hi2 := by
  induction d with
  | zero =>
    intro k lo hi i i0 hd h1 h2 h3 h4 h5
    simp only [psalterylaw33_MixerPlain.l0]
    rw [if_neg (by omega)]
    exact ⟨lo, hi, rfl, h1, h2, h3, h4, fun j j0 j1 => h5 j j0 (by omega)⟩
  | succ d ih =>
    intro k lo hi i i0 hd h1 h2 h3 h4 h5
    obtain ⟨m, hm⟩ : ∃ m, m = k + d + 1 := ⟨_, rfl⟩
    rw [show k + (d + 1) + 1 = m + 1 by omega]
    simp only [psalterylaw33_MixerPlain.l0]
    subst hm
    have r := s.at i0 (by omega)
    rw [if_pos (by omega), if_pos i0, w64 (by omega) (by omega)]
    have a : mn lo (rd x0 i) ≤ lo ∧ mn lo (rd x0 i) ≤ rd x0 i ∧ -32768 ≤ mn lo (rd x0 i) := by unfold mn; split <;> omega
    have b : hi ≤ mx hi (rd x0 i) ∧ rd x0 i ≤ mx hi (rd x0 i) ∧ mx hi (rd x0 i) ≤ 32767 := by unfold mx; split <;> omega
    exact ih k _ _ (i + 1) (by omega) (by omega) (by omega) (by omega) (by omega) (by omega) fun j j0 j1 => by
      by_cases e : j = i
      · subst e; omega
      · have := h5 j j0 (by omega); omega
theorem ends_l1 {x18 : List Int} {lo hi : Int} (hl : x18.length ≤ 1000000) (h : ∀ j : Int, 0 ≤ j → j < x18.length → lo ≤ rd x18 j ∧ rd x18 j ≤ hi) (d : Nat) : ∀ (k : Nat) (i : Int), 0 ≤ i → (x18.length : Int) - i = d → d < k → psalterylaw33_MixerPlain.l1 k x18 lo hi i = some true := by
  induction d with
  | zero =>
    intro k i i0 hd hk
    obtain ⟨k, rfl⟩ : ∃ m, k = m + 1 := ⟨k - 1, by omega⟩
    simp only [psalterylaw33_MixerPlain.l1]
    rw [if_neg (by omega)]
  | succ d ih =>
    intro k i i0 hd hk
    obtain ⟨k, rfl⟩ : ∃ m, k = m + 1 := ⟨k - 1, by omega⟩
    simp only [psalterylaw33_MixerPlain.l1]
    have r := h i i0 (by omega)
    rw [if_pos (by omega), if_pos i0, if_neg (by omega), if_neg (by omega), w64 (by omega) (by omega)]
    exact ih k (i + 1) (by omega) (by omega) (by omega)
theorem floor_between {a b f up lo hi : Int} (u : 1 ≤ up) (f0 : 0 ≤ f) (f1 : f < up) (a0 : lo ≤ a) (a1 : a ≤ hi) (b0 : lo ≤ b) (b1 : b ≤ hi) : lo ≤ (a * (up - f) + b * f + up / 2) / up ∧ (a * (up - f) + b * f + up / 2) / up ≤ hi := by
  have g0 : 0 ≤ up - f := by omega
  have h1 := Int.mul_le_mul_of_nonneg_right a0 g0
  have h2 := Int.mul_le_mul_of_nonneg_right a1 g0
  have h3 := Int.mul_le_mul_of_nonneg_right b0 f0
  have h4 := Int.mul_le_mul_of_nonneg_right b1 f0
  have e1 : lo * (up - f) + lo * f = lo * up := by rw [← Int.mul_add]; congr 1; omega
  have e2 : hi * (up - f) + hi * f = hi * up := by rw [← Int.mul_add]; congr 1; omega
  constructor
  · rw [Int.le_ediv_iff_mul_le (by omega)]; omega
  · have : (a * (up - f) + b * f + up / 2) / up < hi + 1 := by
      rw [Int.ediv_lt_iff_lt_mul (by omega), Int.add_mul, Int.one_mul]; omega
    omega
theorem MixerPlain : psalterylaw33_MixerPlain.Pure := by
  intro l other x n up down _ _ hl _ _ ho hx hn hup hdown
  have sl := Sams.of hl
  have so := Sams.of ho
  have hx := i16_of hx
  have hn := u8_of hn
  have hup := u8_of hup
  have hdown := u8_of hdown
  refine ⟨300000, ?_⟩
  unfold psalterylaw33_MixerPlain.f
  rw [alive_eq (by decide)]; simp only [Option.bind_some, if_true]
  have far : psalterylaw33_MixerPlain.j0 300000 l other x n up down true = some true := by simp only [psalterylaw33_MixerPlain.j0]; rw [if_pos trivial]
  by_cases c1 : (l.length : Int) > 300
  · rw [if_pos c1]; exact far
  rw [if_neg c1]
  by_cases c2 : (other.length : Int) > (l.length : Int)
  · rw [decide_eq_true c2]; exact far
  rw [decide_eq_false c2]
  simp only [psalterylaw33_MixerPlain.j0]
  rw [if_neg Bool.false_ne_true]
  have rate : ∀ v : Int, 0 ≤ v → v ≤ 255 → wrap64 (1 + (Int.tmod (wrap64 v) 64)) = 1 + v % 64 := fun v v0 v1 => by
    rw [w64 (a := v) (by omega) (by omega), Int.tmod_eq_emod_of_nonneg v0, w64 (by omega) (by omega)]
  rw [rate n hn.1 hn.2]
  obtain ⟨r, e, hr, hok⟩ := Resample_eq (up := 1 + n % 64) (down := 1 + n % 64) (k := 299999) sl (by decide) (fun a b c d => by have := (resL_le a b c d).2.1; omega)
  unfold ResOk at hok
  rw [if_neg (by omega), if_neg (by omega)] at hok
  obtain ⟨rfl, fr⟩ := hok
  have er : r = l := by
    refine fr.eq (m := l.length) (W := fun j => rd l j) ⟨rfl, fun _ _ _ => rfl⟩ ?_ fun j j0 j1 => ?_
    · unfold resL
      rw [Int.mul_ediv_cancel _ (by omega)]; omega
    · have j2 : j < l.length := by
        have : resL l (1 + n % 64) (1 + n % 64) = l.length := by unfold resL; rw [Int.mul_ediv_cancel _ (by omega)]; omega
        omega
      show resV l _ _ j = rd l j
      have s := sl.at j0 j2
      have em : j * (1 + n % 64) / (1 + n % 64) = j := Int.mul_ediv_cancel _ (by omega)
      have em2 : j * (1 + n % 64) % (1 + n % 64) = 0 := Int.mul_emod_left _ _
      have es : smp l j = rd l j := by unfold smp; rw [if_pos j2]
      have fb := floor_between (a := rd l j) (b := rd l j) (f := 0) (up := 1 + n % 64) (lo := rd l j) (hi := rd l j) (by omega) (by omega) (by omega) (by omega) (by omega) (by omega) (by omega)
      unfold resV resN
      rw [em, em2, es, Int.mul_zero]
      rw [Int.mul_zero] at fb
      have : (rd l j * (1 + n % 64 - 0) + 0 + (1 + n % 64) / 2) / (1 + n % 64) = rd l j := by omega
      rw [this]
      exact sat16_self s.1 s.2
  obtain rfl : l = r := er.symm
  rw [hr]; simp only [Option.bind_some]
  rw [if_pos trivial, Same_eq (by omega) (by omega)]; simp only [Option.bind_some]
  simp only [psalterylaw33_MixerPlain.j1]
  rw [if_neg (by decide)]
  obtain ⟨m, hm, fm⟩ := Mix_eq (x := x) (y := 0) (k := 299998) sl so hx (by omega) (by omega) (by omega) (by omega) (by omega)
  obtain ⟨m2, hm2, fm2⟩ := Mix_eq (x := x) (y := 5) (k := 299998) sl Sams.nil hx (by omega) (by omega) (by simp) (by omega) (by simp)
  have emm : m = m2 := fm.eq fm2 (by simp; omega) fun j j0 j1 => by
    unfold mixV
    have : smp ([] : List Int) j = 0 := by unfold smp; rw [if_neg (by simp; omega)]
    rw [this, Int.mul_zero, Int.zero_mul]
  subst emm
  have lm := fm.1
  rw [hm, hm2]; simp only [Option.bind_some]
  rw [Same_eq (by omega) (by omega)]; simp only [Option.bind_some, if_true]
  rw [rate up hup.1 hup.2, rate down hdown.1 hdown.2]
  obtain ⟨b, e, hb, hok⟩ := Resample_eq (up := 1 + up % 64) (down := 1 + down % 64) (k := 299998) sl (by decide) (fun a b c d => by have := (resL_le a b c d).2.1; omega)
  unfold ResOk at hok
  rw [if_neg (by omega), if_neg (by omega)] at hok
  obtain ⟨rfl, fb⟩ := hok
  rw [hb]; simp only [Option.bind_some]
  have bl := resL_le (l := l) (up := 1 + up % 64) (down := 1 + down % 64) (by omega) (by omega) (by omega) (by omega)
  rw [if_pos trivial, if_neg (by omega), w64 (a := l.length * _) (by omega) (by omega), Int.tdiv_eq_ediv_of_nonneg (by omega)]
  have eb : (l.length : Int) * (1 + up % 64) / (1 + down % 64) = (b.length : Int) := by rw [fb.1]; unfold resL; omega
  rw [eb, w64 (by have := fb.1; omega) (by have := fb.1; omega)]
  rw [show (((b.length : Nat) : Int) != (b.length : Int)) = false by simp]
  simp only [psalterylaw33_MixerPlain.j2]
  rw [if_neg Bool.false_ne_true]
  obtain ⟨lo, hi, h1, h2, h3, h4, h5, h6⟩ := ends_l0 (x18 := b) sl (by omega) l.length (299996 - l.length) 0 0 0 (by decide) (by omega) (by decide) (by decide) (by decide) (by decide) (fun j j0 j1 => by omega)
  rw [show 299996 - l.length + l.length + 1 = 299997 by omega] at h1
  rw [h1]
  have sm : ∀ i : Int, 0 ≤ i → lo ≤ smp l i ∧ smp l i ≤ hi := fun i i0 => by
    unfold smp
    split
    · exact h6 i i0 ‹_›
    · omega
  refine ends_l1 (by have := fb.1; omega) (fun j j0 j1 => ?_) b.length _ 0 (by decide) (by omega) (by have := fb.1; omega)
  rw [fb.2 j j0 (by have := fb.1; omega)]
  unfold resV resN
  have p0 : 0 ≤ j * (1 + down % 64) := Int.mul_nonneg j0 (by omega)
  have q0 := Int.ediv_nonneg p0 (show (0 : Int) ≤ 1 + up % 64 by omega)
  have g := floor_between (up := 1 + up % 64) (lo := lo) (hi := hi) (by omega) (Int.emod_nonneg (j * (1 + down % 64)) (by omega)) (Int.emod_lt_of_pos _ (by omega)) (sm _ q0).1 (sm _ q0).2 (sm (j * (1 + down % 64) / (1 + up % 64) + 1) (by omega)).1 (sm _ (by omega)).2
  rw [sat16_self (by omega) (by omega)]
  exact g
end Go.Proofs.Ytnaeondfkkiimaa.Pure
