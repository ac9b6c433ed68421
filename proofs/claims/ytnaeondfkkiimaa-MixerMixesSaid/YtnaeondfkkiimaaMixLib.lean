/- Lists together, faded, in two channels, at another rate: the functions of mixer and psalteryref33 as plain functions. -/
import Derived.Test.YtnaeondfkkiimaaFixBaseMixer
import Derived.Test.YtnaeondfkkiimaaSameLibMixer
import Derived.Test.YtnaeondfkkiimaaFill
namespace Go.Proofs.Ytnaeondfkkiimaa.MixLib
open Go.RowKit Go.Proofs.Ytnaeondfkkiimaa.PMixer Go.Proofs.Ytnaeondfkkiimaa.Num Go.Proofs.Ytnaeondfkkiimaa.FixBaseMixer Go.Proofs.Ytnaeondfkkiimaa.SameLibMixer Go.Proofs.YtnaeondfkkiimaaW.PrintWords Go.Proofs.YtnaeondfkkiimaaW.PrintLast Go.Proofs.YtnaeondfkkiimaaW.PrintMore
set_option linter.unusedVariables false
set_option linter.unusedSimpArgs false

theorem clo_eq {l : List Int} (h : Sams l) {i : Int} (h0 : 0 ≤ i) : mixer_of_clo1.f i l = some (smp l i) := by
  unfold mixer_of_clo1.f smp
  by_cases h1 : i < l.length
  · have := h.at h0 h1
    rw [if_neg (by omega), if_pos h0, if_pos h1, if_pos h1, w64 (by omega) (by omega)]
  · rw [if_pos (by omega), if_neg h1]
theorem rat_eq {l : List Int} (h : Sams l) {i : Int} (h0 : 0 ≤ i) : psalteryref33_at.f l i = some (smp l i) := by
  unfold psalteryref33_at.f smp
  by_cases h1 : i < l.length
  · have := h.at h0 h1
    rw [if_pos h1, if_pos h0, if_pos h1, w64 (by omega) (by omega)]
  · rw [if_neg h1, if_neg h1]
theorem share_eq {n : Int} (h1 : -9223372036854775808 ≤ n) (h2 : n ≤ 9223372036854775807) : mixer_share.f n = some (sat16 (rnd n 15)) := by
  unfold mixer_share.f
  rw [Round_eq 15 h1 h2]; simp only [Option.bind_some]
  rw [Sat16_eq]; simp only [Option.bind_some]
theorem prod16 {a b : Int} (h1 : -32768 ≤ a) (h2 : a ≤ 32767) (h3 : -32768 ≤ b) (h4 : b ≤ 32767) : -1073741824 ≤ a * b ∧ a * b ≤ 1073741824 := by
  have := mul_abs (A := 32768) (B := 32768) (a := a) (b := b) (by omega) (by omega) (by omega) (by omega); omega

/-! two lists together -/
def mixV (a b : List Int) (x y j : Int) : Int := sat16 (rnd (smp a j * x + smp b j * y) 15)
theorem Mix_l0 {a b : List Int} (ha : Sams a) (hb : Sams b) {x y : Int} (hx : -32768 ≤ x ∧ x ≤ 32767) (hy : -32768 ≤ y ∧ y ≤ 32767) (n : Nat) (hn : n ≤ 1000000) (d : Nat) : ∀ (k : Nat) (out : List Int) (i : Int), 0 ≤ i → (n : Int) - i = d → d < k → out.length = n → Upto (mixV a b x y) out i →
    ∃ r, mixer_Mix.l0 k x y out a b (n : Int) i = some r ∧ Fills n (mixV a b x y) r := by
  induction d with
  | zero =>
    intro k out i i0 hd hk ho hu
    obtain ⟨k, rfl⟩ : ∃ m, k = m + 1 := ⟨k - 1, by omega⟩
    simp only [mixer_Mix.l0]
    rw [if_neg (by omega)]
    exact ⟨out, rfl, hu.fills ho (by omega)⟩
  | succ d ih =>
    intro k out i i0 hd hk ho hu
    obtain ⟨k, rfl⟩ : ∃ m, k = m + 1 := ⟨k - 1, by omega⟩
    simp only [mixer_Mix.l0]
    rw [if_pos (by omega), clo_eq ha i0]; simp only [Option.bind_some]
    rw [clo_eq hb i0]; simp only [Option.bind_some]
    have sa := ha.smp i0
    have sb := hb.smp i0
    have p := prod16 sa.1 sa.2 hx.1 hx.2
    have q := prod16 sb.1 sb.2 hy.1 hy.2
    rw [w64 (a := x) (by omega) (by omega), w64 (a := y) (by omega) (by omega), w64 (a := smp a i * x) (by omega) (by omega), w64 (a := smp b i * y) (by omega) (by omega), w64 (a := smp a i * x + smp b i * y) (by omega) (by omega), share_eq (by omega) (by omega)]
    simp only [Option.bind_some]
    rw [if_pos i0, if_pos (by omega), w64 (by omega) (by omega)]
    exact ih k _ (i + 1) (by omega) (by omega) (by omega) (len_set ho) (hu.set i0 (by omega) rfl)
theorem Mix_eq {a b : List Int} (ha : Sams a) (hb : Sams b) {x y : Int} (hx : -32768 ≤ x ∧ x ≤ 32767) (hy : -32768 ≤ y ∧ y ≤ 32767) (hl : a.length ≤ 1000000) (hl2 : b.length ≤ 1000000) {k : Nat} (hk : a.length < k) (hk2 : b.length < k) :
    ∃ r, mixer_Mix.f k a b x y = some r ∧ Fills (max a.length b.length) (mixV a b x y) r := by
  have e : mx (a.length : Int) (b.length : Int) = ((max a.length b.length : Nat) : Int) := by unfold mx; split <;> omega
  unfold mixer_Mix.f
  rw [e, if_pos (by omega), if_pos (by omega), Int.toNat_natCast]
  simp only [Option.bind_some, List.length_replicate]
  exact Mix_l0 ha hb hx hy (max a.length b.length) (by omega) (max a.length b.length) k _ 0 (by decide) (by omega) (by omega) (by simp) (Upto.none _ _)
theorem rMix_l0 {a b : List Int} (ha : Sams a) (hb : Sams b) {x y : Int} (hx : -32768 ≤ x ∧ x ≤ 32767) (hy : -32768 ≤ y ∧ y ≤ 32767) (hl : max a.length b.length ≤ 1000000) (d : Nat) : ∀ (k : Nat) (out : List Int) (i : Int), 0 ≤ i → ((max a.length b.length : Nat) : Int) - i = d → 2 * d + 1 < k → (out.length : Int) = i → Upto (mixV a b x y) out i →
    ∃ r, psalteryref33_Mix.l0 k a b x y out i = some r ∧ Fills (max a.length b.length) (mixV a b x y) r := by
  induction d with
  | zero =>
    intro k out i i0 hd hk ho hu
    obtain ⟨k, rfl⟩ : ∃ m, k = m + 2 := ⟨k - 2, by omega⟩
    simp only [psalteryref33_Mix.l0]
    rw [if_neg (by omega), decide_eq_false (by omega)]
    simp only [psalteryref33_Mix.j1]
    rw [if_neg Bool.false_ne_true]
    exact ⟨out, rfl, hu.fills (by omega) (by omega)⟩
  | succ d ih =>
    intro k out i i0 hd hk ho hu
    obtain ⟨k, rfl⟩ : ∃ m, k = m + 2 := ⟨k - 2, by omega⟩
    simp only [psalteryref33_Mix.l0]
    have st : psalteryref33_Mix.j1 (k + 1) a b x y out i true = psalteryref33_Mix.l0 k a b x y (out ++ [mixV a b x y i]) (i + 1) := by
      simp only [psalteryref33_Mix.j1]
      rw [if_pos trivial, rat_eq ha i0]; simp only [Option.bind_some]
      rw [rat_eq hb i0]; simp only [Option.bind_some]
      have sa := ha.smp i0
      have sb := hb.smp i0
      have p := prod16 sa.1 sa.2 hx.1 hx.2
      have q := prod16 sb.1 sb.2 hy.1 hy.2
      rw [w64 (a := x) (by omega) (by omega), w64 (a := y) (by omega) (by omega), w64 (a := smp a i * x) (by omega) (by omega), w64 (a := smp b i * y) (by omega) (by omega), w64 (a := smp a i * x + smp b i * y) (by omega) (by omega), rRound_eq 15 (by omega) (by omega)]
      simp only [Option.bind_some]
      rw [rSat16_eq]; simp only [Option.bind_some]
      have s := sat16_range (rnd (smp a i * x + smp b i * y) 15)
      rw [if_pos (by omega), w64 (by omega) (by omega), wi16 s.1 s.2]; rfl
    by_cases h1 : i < a.length
    · rw [if_pos h1, st]
      exact ih k _ (i + 1) (by omega) (by omega) (by omega) (len_snoc ho) (hu.snoc (by omega) rfl)
    · rw [if_neg h1, decide_eq_true (by omega), st]
      exact ih k _ (i + 1) (by omega) (by omega) (by omega) (len_snoc ho) (hu.snoc (by omega) rfl)
theorem rMix_eq {a b : List Int} (ha : Sams a) (hb : Sams b) {x y : Int} (hx : -32768 ≤ x ∧ x ≤ 32767) (hy : -32768 ≤ y ∧ y ≤ 32767) (hl : max a.length b.length ≤ 1000000) {k : Nat} (hk : 2 * max a.length b.length + 1 < k) :
    ∃ r, psalteryref33_Mix.f k a b x y = some r ∧ Fills (max a.length b.length) (mixV a b x y) r := by
  unfold psalteryref33_Mix.f
  exact rMix_l0 ha hb hx hy hl (max a.length b.length) k [] 0 (by decide) (by omega) (by omega) rfl (Upto.none _ _)

/-! from a share to another -/
def fadeV (l : List Int) (x y j : Int) : Int := sat16 (rnd (rd l j * (x + Int.tdiv (j * (y - x)) l.length)) 15)
theorem fade_range {n j x y : Int} (hn : 1 ≤ n) (hj : 0 ≤ j) (hj2 : j ≤ 1000000) (hx : -32768 ≤ x ∧ x ≤ 32767) (hy : -32768 ≤ y ∧ y ≤ 32767) :
    -65535000000 ≤ j * (y - x) ∧ j * (y - x) ≤ 65535000000 ∧ -65535100000 ≤ x + Int.tdiv (j * (y - x)) n ∧ x + Int.tdiv (j * (y - x)) n ≤ 65535100000 := by
  have p := mul_abs (A := 1000000) (B := 65535) (a := j) (b := y - x) (by omega) (by omega) (by omega) (by omega)
  have q := tdiv_range (A := 65535000000) hn (by omega) (show j * (y - x) ≤ 65535000000 by omega)
  omega
theorem fade_prod {a b : Int} (h1 : -32768 ≤ a) (h2 : a ≤ 32767) (h3 : -65535100000 ≤ b) (h4 : b ≤ 65535100000) : -2147454156800000 ≤ a * b ∧ a * b ≤ 2147454156800000 := by
  have := mul_abs (A := 32768) (B := 65535100000) (a := a) (b := b) (by omega) (by omega) (by omega) (by omega); omega
theorem Fade_l0 {l : List Int} (h : Sams l) {x y : Int} (hx : -32768 ≤ x ∧ x ≤ 32767) (hy : -32768 ≤ y ∧ y ≤ 32767) (hl : l.length ≤ 1000000) (d : Nat) : ∀ (k : Nat) (out : List Int) (i : Int), 0 ≤ i → (l.length : Int) - i = d → d < k → out.length = l.length → Upto (fadeV l x y) out i →
    ∃ r, mixer_Fade.l0 k l x out (y - x) l (l.length : Int) i = some r ∧ Fills l.length (fadeV l x y) r := by
  induction d with
  | zero =>
    intro k out i i0 hd hk ho hu
    obtain ⟨k, rfl⟩ : ∃ m, k = m + 1 := ⟨k - 1, by omega⟩
    simp only [mixer_Fade.l0]
    rw [if_neg (by omega)]
    exact ⟨out, rfl, hu.fills ho (by omega)⟩
  | succ d ih =>
    intro k out i i0 hd hk ho hu
    obtain ⟨k, rfl⟩ : ∃ m, k = m + 1 := ⟨k - 1, by omega⟩
    simp only [mixer_Fade.l0]
    have s := h.at i0 (by omega)
    have f := fade_range (n := l.length) (j := i) (by omega) i0 (by omega) hx hy
    have p := fade_prod s.1 s.2 f.2.2.1 f.2.2.2
    have t := tdiv_range (A := 65535000000) (n := (l.length : Int)) (by omega) f.1 f.2.1
    rw [if_pos (by omega), if_pos i0, if_pos (by omega), if_neg (by omega), w64 (a := rd l i) (by omega) (by omega), w64 (a := x) (by omega) (by omega), w64 (a := i * (y - x)) (by omega) (by omega), w64 (a := Int.tdiv _ _) (by omega) (by omega), w64 (a := x + _) (by omega) (by omega), w64 (a := rd l i * _) (by omega) (by omega), share_eq (by omega) (by omega)]
    simp only [Option.bind_some]
    rw [if_pos (by omega), w64 (by omega) (by omega)]
    exact ih k _ (i + 1) (by omega) (by omega) (by omega) (len_set ho) (hu.set i0 (by omega) rfl)
theorem Fade_eq {l : List Int} (h : Sams l) {x y : Int} (hx : -32768 ≤ x ∧ x ≤ 32767) (hy : -32768 ≤ y ∧ y ≤ 32767) (hl : l.length ≤ 1000000) {k : Nat} (hk : l.length < k) : ∃ r, mixer_Fade.f k l x y = some r ∧ Fills l.length (fadeV l x y) r := by
  unfold mixer_Fade.f
  rw [if_pos (by omega), if_pos (by omega), Int.toNat_natCast, w64 (a := y) (by omega) (by omega), w64 (a := x) (by omega) (by omega), w64 (by omega) (by omega)]
  exact Fade_l0 h hx hy hl l.length k _ 0 (by decide) (by omega) hk (by simp) (Upto.none _ _)
theorem rFade_l0 {l : List Int} (h : Sams l) {x y : Int} (hx : -32768 ≤ x ∧ x ≤ 32767) (hy : -32768 ≤ y ∧ y ≤ 32767) (hl : l.length ≤ 1000000) (d : Nat) : ∀ (k : Nat) (out : List Int) (i : Int), 0 ≤ i → (l.length : Int) - i = d → d < k → (out.length : Int) = i → Upto (fadeV l x y) out i →
    ∃ r, psalteryref33_Fade.l0 k l x y out (l.length : Int) i = some r ∧ Fills l.length (fadeV l x y) r := by
  induction d with
  | zero =>
    intro k out i i0 hd hk ho hu
    obtain ⟨k, rfl⟩ : ∃ m, k = m + 1 := ⟨k - 1, by omega⟩
    simp only [psalteryref33_Fade.l0]
    rw [if_neg (by omega)]
    exact ⟨out, rfl, hu.fills (by omega) (by omega)⟩
  | succ d ih =>
    intro k out i i0 hd hk ho hu
    obtain ⟨k, rfl⟩ : ∃ m, k = m + 1 := ⟨k - 1, by omega⟩
    simp only [psalteryref33_Fade.l0]
    have s := h.at i0 (by omega)
    have f := fade_range (n := l.length) (j := i) (by omega) i0 (by omega) hx hy
    have p := fade_prod s.1 s.2 f.2.2.1 f.2.2.2
    have t := tdiv_range (A := 65535000000) (n := (l.length : Int)) (by omega) f.1 f.2.1
    rw [if_pos (by omega), if_neg (by omega), if_pos i0, if_pos (by omega), w64 (a := rd l i) (by omega) (by omega), w64 (a := x) (by omega) (by omega), w64 (a := y) (by omega) (by omega), w64 (a := y - x) (by omega) (by omega), w64 (a := i * (y - x)) (by omega) (by omega), w64 (a := Int.tdiv _ _) (by omega) (by omega), w64 (a := x + _) (by omega) (by omega), w64 (a := rd l i * _) (by omega) (by omega), rRound_eq 15 (by omega) (by omega)]
    simp only [Option.bind_some]
    rw [rSat16_eq]; simp only [Option.bind_some]
    have z := sat16_range (rnd (rd l i * (x + Int.tdiv (i * (y - x)) l.length)) 15)
    rw [if_pos (by omega), wi16 z.1 z.2, w64 (by omega) (by omega)]
    exact ih k _ (i + 1) (by omega) (by omega) (by omega) (len_snoc ho) (hu.snoc (by omega) rfl)
theorem rFade_eq {l : List Int} (h : Sams l) {x y : Int} (hx : -32768 ≤ x ∧ x ≤ 32767) (hy : -32768 ≤ y ∧ y ≤ 32767) (hl : l.length ≤ 1000000) {k : Nat} (hk : l.length < k) : ∃ r, psalteryref33_Fade.f k l x y = some r ∧ Fills l.length (fadeV l x y) r := by
  unfold psalteryref33_Fade.f
  exact rFade_l0 h hx hy hl l.length k [] 0 (by decide) (by omega) hk rfl (Upto.none _ _)

/-! at another rate -/
def resN (l : List Int) (up down j : Int) : Int := smp l (j * down / up) * (up - j * down % up) + smp l (j * down / up + 1) * (j * down % up) + up / 2
def resV (l : List Int) (up down j : Int) : Int := sat16 (resN l up down j / up)
theorem resN_range {l : List Int} (h : Sams l) {up down j : Int} (u1 : 1 ≤ up) (u2 : up ≤ 64) (d1 : 1 ≤ down) (hj : 0 ≤ j) : -5000000 ≤ resN l up down j ∧ resN l up down j ≤ 5000000 ∧
    (-2097152 ≤ smp l (j * down / up) * (up - j * down % up) ∧ smp l (j * down / up) * (up - j * down % up) ≤ 2097152) ∧ (-2097152 ≤ smp l (j * down / up + 1) * (j * down % up) ∧ smp l (j * down / up + 1) * (j * down % up) ≤ 2097152) := by
  have p0 : 0 ≤ j * down := Int.mul_nonneg hj (by omega)
  have i0 := Int.ediv_nonneg p0 (show (0 : Int) ≤ up by omega)
  have m0 := Int.emod_nonneg (j * down) (show up ≠ 0 by omega)
  have m1 := Int.emod_lt_of_pos (j * down) (show 0 < up by omega)
  have s := h.smp i0
  have t := h.smp (show 0 ≤ j * down / up + 1 by omega)
  have a := mul_abs (A := 32768) (B := 64) (a := smp l (j * down / up)) (b := up - j * down % up) (by omega) (by omega) (by omega) (by omega)
  have b := mul_abs (A := 32768) (B := 64) (a := smp l (j * down / up + 1)) (b := j * down % up) (by omega) (by omega) (by omega) (by omega)
  unfold resN
  omega
theorem Resample_l0 {l : List Int} (h : Sams l) {up down : Int} (u1 : 1 ≤ up) (u2 : up ≤ 64) (d1 : 1 ≤ down) (d2 : down ≤ 64) (n : Nat) (hn : n ≤ 1000000) (d : Nat) : ∀ (k : Nat) (out : List Int) (i : Int), 0 ≤ i → (n : Int) - i = d → d < k → out.length = n → Upto (resV l up down) out i →
    ∃ r, mixer_Resample.l0 k up down out l (n : Int) i = some (r, 0) ∧ Fills n (resV l up down) r := by
  induction d with
  | zero =>
    intro k out i i0 hd hk ho hu
    obtain ⟨k, rfl⟩ : ∃ m, k = m + 1 := ⟨k - 1, by omega⟩
    simp only [mixer_Resample.l0]
    rw [if_neg (by omega)]
    exact ⟨out, rfl, hu.fills ho (by omega)⟩
  | succ d ih =>
    intro k out i i0 hd hk ho hu
    obtain ⟨k, rfl⟩ : ∃ m, k = m + 1 := ⟨k - 1, by omega⟩
    simp only [mixer_Resample.l0]
    have p0 : 0 ≤ i * down := Int.mul_nonneg i0 (by omega)
    have p1 := mul_abs (A := 1000000) (B := 64) (a := i) (b := down) (by omega) (by omega) (by omega) (by omega)
    have q0 := Int.ediv_nonneg p0 (show (0 : Int) ≤ up by omega)
    have q1 := Int.ediv_le_self up p0
    have m0 := Int.emod_nonneg (i * down) (show up ≠ 0 by omega)
    have m1 := Int.emod_lt_of_pos (i * down) (show 0 < up by omega)
    have r := resN_range (up := up) (down := down) (j := i) h u1 u2 d1 i0
    rw [if_pos (by omega), if_neg (by omega), w64 (a := i * down) (by omega) (by omega), Int.tdiv_eq_ediv_of_nonneg p0, Int.tmod_eq_emod_of_nonneg p0, Int.tdiv_eq_ediv_of_nonneg (show 0 ≤ up by omega), w64 (a := i * down / up) (by omega) (by omega), clo_eq h q0]
    simp only [Option.bind_some]
    rw [w64 (a := i * down / up + 1) (by omega) (by omega), clo_eq h (by omega)]
    simp only [Option.bind_some]
    have e1 : wrap64 (smp l (i * down / up) * (wrap64 (up - i * down % up))) = smp l (i * down / up) * (up - i * down % up) := by rw [w64 (a := up - _) (by omega) (by omega), w64 (by omega) (by omega)]
    have e2 : wrap64 (smp l (i * down / up + 1) * (i * down % up)) = smp l (i * down / up + 1) * (i * down % up) := w64 (by omega) (by omega)
    have e3 : wrap64 ((wrap64 (smp l (i * down / up) * (up - i * down % up) + smp l (i * down / up + 1) * (i * down % up))) + wrap64 (up / 2)) = resN l up down i := by
      unfold resN at r ⊢
      rw [w64 (a := up / 2) (by omega) (by omega), w64 (a := smp l (i * down / up) * (up - i * down % up) + _) (by omega) (by omega), w64 (by omega) (by omega)]
    rw [e1, e2, e3]
    have nx : ∀ v, v = resV l up down i → (if 0 ≤ i then (if i < (out.length : Int) then (mixer_Resample.l0 k up down (out.set (i : Int).toNat v) l (n : Int) (wrap64 (i + 1))) else (none)) else (none)) = mixer_Resample.l0 k up down (out.set i.toNat (resV l up down i)) l (n : Int) (i + 1) := by
      intro v hv
      rw [if_pos i0, if_pos (by omega), w64 (by omega) (by omega), hv]
    have dr := ediv_range (n := resN l up down i) (p := up) (lo := -5000000) (hi := 5000000) (by omega) (by omega) (by omega) (by omega) (by omega)
    have fin := ih k (out.set i.toNat (resV l up down i)) (i + 1) (by omega) (by omega) (by omega) (len_set ho) (hu.set i0 (by omega) rfl)
    rcases down_cases (n := resN l up down i) (d := up) (by omega) with ⟨c, e⟩ | ⟨c, e⟩
    · rw [if_pos c, e, w64 (a := resN l up down i / up + 1) (by omega) (by omega), w64 (a := _ - 1) (by omega) (by omega), Sat16_eq]
      simp only [Option.bind_some]
      rw [nx _ (by unfold resV; rw [show resN l up down i / up + 1 - 1 = resN l up down i / up by omega])]
      exact fin
    · rw [if_neg c, e, w64 (a := resN l up down i / up) (by omega) (by omega), Sat16_eq]
      simp only [Option.bind_some]
      rw [nx (sat16 (resN l up down i / up)) rfl]
      exact fin
def resL (l : List Int) (up down : Int) : Nat := (l.length * up / down).toNat
theorem resL_le {l : List Int} (hl : l.length ≤ 4096) {up down : Int} (u1 : 1 ≤ up) (u2 : up ≤ 64) (d1 : 1 ≤ down) : 0 ≤ l.length * up / down ∧ resL l up down ≤ 262144 ∧ 0 ≤ (l.length : Int) * up ∧ (l.length : Int) * up ≤ 262144 := by
  have p0 : 0 ≤ (l.length : Int) * up := Int.mul_nonneg (by omega) (by omega)
  have p1 := mul_abs (A := 4096) (B := 64) (a := (l.length : Int)) (b := up) (by omega) (by omega) (by omega) (by omega)
  have q0 := Int.ediv_nonneg p0 (show (0 : Int) ≤ down by omega)
  have q1 := Int.ediv_le_self down p0
  unfold resL
  omega
/-- What resampling comes to. -/
def ResOk (l : List Int) (up down : Int) (r : List Int) (e : Int) : Prop :=
  if up < 1 ∨ up > 64 ∨ down < 1 ∨ down > 64 then r = [] ∧ e = 1 else if l.length > 4096 then r = [] ∧ e = 2 else e = 0 ∧ Fills (resL l up down) (resV l up down) r
theorem Resample_eq {l : List Int} (h : Sams l) {up down : Int} {k : Nat} (hk : 2 ≤ k) (hk2 : l.length ≤ 4096 → 1 ≤ up → up ≤ 64 → 1 ≤ down → resL l up down + 1 < k) : ∃ r e, mixer_Resample.f k l up down = some (r, e) ∧ ResOk l up down r e := by
  obtain ⟨k, rfl⟩ : ∃ m, k = m + 1 := ⟨k - 1, by omega⟩
  have bad : mixer_Resample.j0 (k + 1) l up down true = some ([], 1) := by simp only [mixer_Resample.j0]; rw [if_pos trivial]
  unfold mixer_Resample.f ResOk
  by_cases c1 : up < 1
  · rw [if_pos c1, bad]; exact ⟨_, _, rfl, by rw [if_pos (by omega)]; exact ⟨rfl, rfl⟩⟩
  · rw [if_neg c1]
    by_cases c2 : up > 64
    · rw [if_pos c2, bad]; exact ⟨_, _, rfl, by rw [if_pos (by omega)]; exact ⟨rfl, rfl⟩⟩
    · rw [if_neg c2]
      by_cases c3 : down < 1
      · rw [if_pos c3, bad]; exact ⟨_, _, rfl, by rw [if_pos (by omega)]; exact ⟨rfl, rfl⟩⟩
      · rw [if_neg c3]
        by_cases c4 : down > 64
        · rw [decide_eq_true c4, bad]; exact ⟨_, _, rfl, by rw [if_pos (by omega)]; exact ⟨rfl, rfl⟩⟩
        · rw [decide_eq_false c4]
          simp only [mixer_Resample.j0]
          rw [if_neg Bool.false_ne_true]
          by_cases c5 : (l.length : Int) > 4096
          · rw [if_pos c5]; exact ⟨_, _, rfl, by rw [if_neg (by omega), if_pos (by omega)]; exact ⟨rfl, rfl⟩⟩
          · rw [if_neg c5, if_neg (by omega)]
            have b := resL_le (l := l) (down := down) (by omega) (show 1 ≤ up by omega) (by omega) (by omega)
            rw [w64 (a := l.length * up) (by omega) (by omega), Int.tdiv_eq_ediv_of_nonneg (by omega)]
            have e : (l.length : Int) * up / down = ((resL l up down : Nat) : Int) := by unfold resL; omega
            rw [e, w64 (by omega) (by omega), if_pos (by omega), if_pos (by omega), Int.toNat_natCast]
            simp only [Option.bind_some, List.length_replicate]
            obtain ⟨r, hr, hf⟩ := Resample_l0 (up := up) (down := down) h (by omega) (by omega) (by omega) (by omega) (resL l up down) (by omega) (resL l up down) k (List.replicate (resL l up down) 0) 0 (by decide) (by omega) (by have := hk2 (by omega) (by omega) (by omega) (by omega); omega) (by simp) (Upto.none _ _)
            exact ⟨r, 0, hr, by rw [if_neg (by omega), if_neg (by omega)]; exact ⟨rfl, hf⟩⟩
theorem rRes_l1 {l : List Int} (h : Sams l) {up down : Int} (u1 : 1 ≤ up) (u2 : up ≤ 64) (d1 : 1 ≤ down) (d2 : down ≤ 64) {j : Int} (j0 : 0 ≤ j) (j1 : j ≤ 1000000) (out : List Int) (hout : out.length ≤ 1000000) (d : Nat) : ∀ (k : Nat) (acc t : Int), 0 ≤ t → up - t = d →
    acc = up / 2 + (if t < j * down % up then t * smp l (j * down / up + 1) else (j * down % up) * smp l (j * down / up + 1) + (t - j * down % up) * smp l (j * down / up)) →
    psalteryref33_Resample.l1 (k + d + 1) l up down out j (j * down) acc t = psalteryref33_Resample.l0 k l up down (out ++ [resV l up down j]) (j + 1) := by
  have p0 : 0 ≤ j * down := Int.mul_nonneg j0 (by omega)
  have p1 := mul_abs (A := 1000000) (B := 64) (a := j) (b := down) (by omega) (by omega) (by omega) (by omega)
  have q0 := Int.ediv_nonneg p0 (show (0 : Int) ≤ up by omega)
  have q1 := Int.ediv_le_self up p0
  have m0 := Int.emod_nonneg (j * down) (show up ≠ 0 by omega)
  have m1 := Int.emod_lt_of_pos (j * down) (show 0 < up by omega)
  have r := resN_range (up := up) (down := down) (j := j) h u1 u2 d1 j0
  have s := h.smp q0
  have s2 := h.smp (show 0 ≤ j * down / up + 1 by omega)
  induction d with
  | zero =>
    intro k acc t t0 hd hacc
    have ea : acc = resN l up down j := by
      rw [hacc, if_neg (by omega)]
      unfold resN
      have : t = up := by omega
      subst this
      rw [Int.mul_comm (j * down % t), Int.mul_comm (t - j * down % t)]; omega
    simp only [psalteryref33_Resample.l1]
    rw [if_neg (by omega), if_neg (by omega), ea]
    have dr := ediv_range (n := resN l up down j) (p := up) (lo := -5000000) (hi := 5000000) (by omega) (by omega) (by omega) (by omega) (by omega)
    have sr := sat16_range (resN l up down j / up)
    have em := Int.mul_ediv_add_emod (resN l up down j) up
    have mm0 := Int.emod_nonneg (resN l up down j) (show up ≠ 0 by omega)
    have mm1 := Int.emod_lt_of_pos (resN l up down j) (show 0 < up by omega)
    have cm : resN l up down j / up * up = up * (resN l up down j / up) := Int.mul_comm _ _
    have am : (resN l up down j / up + 1) * up = resN l up down j / up * up + up := by rw [Int.add_mul, Int.one_mul]
    rcases down_cases (n := resN l up down j) (d := up) (by omega) with ⟨c, e⟩ | ⟨c, e⟩
    · have tm := Int.mul_tdiv_add_tmod (resN l up down j) up
      have cm2 : resN l up down j / up * up + up = up * (resN l up down j / up + 1) := by rw [Int.mul_add, Int.mul_comm]; omega
      rw [e] at tm
      rw [e, w64 (a := resN l up down j / up + 1) (by omega) (by omega), am, w64 (a := _ * up + up) (by omega) (by omega), if_pos (by omega), w64 (a := _ - 1) (by omega) (by omega), rSat16_eq]
      simp only [Option.bind_some]
      rw [if_pos (by omega), w64 (by omega) (by omega), show resN l up down j / up + 1 - 1 = resN l up down j / up by omega, wi16 sr.1 sr.2]
      rfl
    · rw [e, w64 (a := resN l up down j / up) (by omega) (by omega), w64 (a := _ * up) (by omega) (by omega), if_neg (by omega), rSat16_eq]
      simp only [Option.bind_some]
      rw [if_pos (by omega), w64 (by omega) (by omega), wi16 sr.1 sr.2]
      rfl
  | succ d ih =>
    intro k acc t t0 hd hacc
    have ha : -4400000 ≤ acc ∧ acc ≤ 4400000 := by
      rw [hacc]
      split
      · have a := mul_abs (A := 64) (B := 32768) (a := t) (b := smp l (j * down / up + 1)) (by omega) (by omega) (by omega) (by omega)
        omega
      · have a := mul_abs (A := 64) (B := 32768) (a := j * down % up) (b := smp l (j * down / up + 1)) (by omega) (by omega) (by omega) (by omega)
        have b := mul_abs (A := 64) (B := 32768) (a := t - j * down % up) (b := smp l (j * down / up)) (by omega) (by omega) (by omega) (by omega)
        omega
    obtain ⟨m, hm⟩ : ∃ m, m = k + d + 1 := ⟨_, rfl⟩
    rw [show k + (d + 1) + 1 = m + 1 by omega]
    simp only [psalteryref33_Resample.l1]
    subst hm
    rw [if_pos (by omega), if_neg (by omega), Int.tdiv_eq_ediv_of_nonneg p0, Int.tmod_eq_emod_of_nonneg p0, w64 (a := j * down / up) (by omega) (by omega), w64 (a := j * down / up + 1) (by omega) (by omega), rat_eq h (by omega), rat_eq h q0]
    simp only [Option.bind_some]
    by_cases c : t < j * down % up
    · rw [if_pos c, w64 (a := acc + _) (by omega) (by omega), w64 (by omega) (by omega)]
      refine ih k _ (t + 1) (by omega) (by omega) ?_
      rw [hacc, if_pos c]
      have em : (t + 1) * smp l (j * down / up + 1) = t * smp l (j * down / up + 1) + smp l (j * down / up + 1) := by rw [Int.add_mul, Int.one_mul]
      by_cases c2 : t + 1 < j * down % up
      · rw [if_pos c2, em]; omega
      · rw [if_neg c2, show j * down % up = t + 1 by omega, em, Int.sub_self, Int.zero_mul]; omega
    · rw [if_neg c, w64 (a := acc + _) (by omega) (by omega), w64 (by omega) (by omega)]
      refine ih k _ (t + 1) (by omega) (by omega) ?_
      rw [hacc, if_neg c, if_neg (by omega)]
      have em : (t + 1 - j * down % up) * smp l (j * down / up) = (t - j * down % up) * smp l (j * down / up) + smp l (j * down / up) := by rw [show t + 1 - j * down % up = (t - j * down % up) + 1 by omega, Int.add_mul, Int.one_mul]
      rw [em]; omega
theorem rRes_l0 {l : List Int} (h : Sams l) (hl : l.length ≤ 4096) {up down : Int} (u1 : 1 ≤ up) (u2 : up ≤ 64) (d1 : 1 ≤ down) (d2 : down ≤ 64) (d : Nat) : ∀ (k : Nat) (out : List Int) (i : Int), 0 ≤ i → (resL l up down : Int) - i = d → 66 * d < k → (out.length : Int) = i → Upto (resV l up down) out i →
    ∃ r, psalteryref33_Resample.l0 k l up down out i = some (r, 0) ∧ Fills (resL l up down) (resV l up down) r := by
  have b := resL_le (l := l) (down := down) hl u1 u2 d1
  have e : (l.length : Int) * up / down = ((resL l up down : Nat) : Int) := by unfold resL; omega
  induction d with
  | zero =>
    intro k out i i0 hd hk ho hu
    obtain ⟨k, rfl⟩ : ∃ m, k = m + 1 := ⟨k - 1, by omega⟩
    simp only [psalteryref33_Resample.l0]
    rw [if_neg (by omega), w64 (a := l.length * up) (by omega) (by omega), Int.tdiv_eq_ediv_of_nonneg (by omega), e, w64 (by omega) (by omega), if_neg (by omega)]
    exact ⟨out, rfl, hu.fills (by omega) (by omega)⟩
  | succ d ih =>
    intro k out i i0 hd hk ho hu
    obtain ⟨k, rfl⟩ : ∃ m, k = (m + up.toNat + 1) + 1 := ⟨k - up.toNat - 2, by omega⟩
    simp only [psalteryref33_Resample.l0]
    have p0 : 0 ≤ i * down := Int.mul_nonneg i0 (by omega)
    have p1 := mul_abs (A := 262144) (B := 64) (a := i) (b := down) (by omega) (by omega) (by omega) (by omega)
    rw [if_neg (by omega), w64 (a := l.length * up) (by omega) (by omega), Int.tdiv_eq_ediv_of_nonneg (a := l.length * up) (by omega), e, w64 (a := ((resL l up down : Nat) : Int)) (by omega) (by omega), if_pos (by omega), w64 (a := i * down) (by omega) (by omega), Int.tdiv_eq_ediv_of_nonneg (by omega), w64 (by omega) (by omega)]
    rw [rRes_l1 h u1 u2 d1 d2 i0 (by omega) out (by omega) up.toNat k _ 0 (by decide) (by omega) (by
      have m0 := Int.emod_nonneg (i * down) (show up ≠ 0 by omega)
      split
      · rw [Int.zero_mul]; omega
      · rw [show i * down % up = 0 by omega, Int.zero_mul, Int.sub_self, Int.zero_mul]; omega)]
    exact ih k _ (i + 1) (by omega) (by omega) (by omega) (len_snoc ho) (hu.snoc (by omega) rfl)
theorem rResample_eq {l : List Int} (h : Sams l) {up down : Int} {k : Nat} (hk : 2 ≤ k) (hk2 : l.length ≤ 4096 → 1 ≤ up → up ≤ 64 → 1 ≤ down → 66 * resL l up down + 1 < k) : ∃ r e, psalteryref33_Resample.f k l up down = some (r, e) ∧ ResOk l up down r e := by
  obtain ⟨k, rfl⟩ : ∃ m, k = m + 1 := ⟨k - 1, by omega⟩
  have bad : psalteryref33_Resample.j0 (k + 1) l up down true = some ([], 1) := by simp only [psalteryref33_Resample.j0]; rw [if_pos trivial]
  unfold psalteryref33_Resample.f ResOk
  by_cases c1 : up < 1
  · rw [if_pos c1, bad]; exact ⟨_, _, rfl, by rw [if_pos (by omega)]; exact ⟨rfl, rfl⟩⟩
  · rw [if_neg c1]
    by_cases c2 : up > 64
    · rw [if_pos c2, bad]; exact ⟨_, _, rfl, by rw [if_pos (by omega)]; exact ⟨rfl, rfl⟩⟩
    · rw [if_neg c2]
      by_cases c3 : down < 1
      · rw [if_pos c3, bad]; exact ⟨_, _, rfl, by rw [if_pos (by omega)]; exact ⟨rfl, rfl⟩⟩
      · rw [if_neg c3]
        by_cases c4 : down > 64
        · rw [decide_eq_true c4, bad]; exact ⟨_, _, rfl, by rw [if_pos (by omega)]; exact ⟨rfl, rfl⟩⟩
        · rw [decide_eq_false c4]
          simp only [psalteryref33_Resample.j0]
          rw [if_neg Bool.false_ne_true]
          by_cases c5 : (l.length : Int) > 4096
          · rw [if_pos c5]; exact ⟨_, _, rfl, by rw [if_neg (by omega), if_pos (by omega)]; exact ⟨rfl, rfl⟩⟩
          · rw [if_neg c5]
            obtain ⟨r, hr, hf⟩ := rRes_l0 (up := up) (down := down) h (by omega) (by omega) (by omega) (by omega) (by omega) (resL l up down) k [] 0 (by decide) (by omega) (by have := hk2 (by omega) (by omega) (by omega) (by omega); omega) rfl (Upto.none _ _)
            exact ⟨r, 0, hr, by rw [if_neg (by omega), if_neg (by omega)]; exact ⟨rfl, hf⟩⟩
theorem ResOk.unique {l : List Int} {up down : Int} {r s : List Int} {e f : Int} (h : ResOk l up down r e) (g : ResOk l up down s f) : r = s ∧ e = f := by
  unfold ResOk at h g
  split at h
  · rw [if_pos ‹_›] at g; exact ⟨h.1.trans g.1.symm, h.2.trans g.2.symm⟩
  · rw [if_neg ‹_›] at g
    split at h
    · rw [if_pos ‹_›] at g; exact ⟨h.1.trans g.1.symm, h.2.trans g.2.symm⟩
    · rw [if_neg ‹_›] at g; exact ⟨h.2.unique g.2, h.1.trans g.1.symm⟩
theorem alive_eq {k : Nat} (hk : 20 ≤ k) : psalterylaw33_alive.f k = some true := by
  obtain ⟨k, rfl⟩ : ∃ m, k = m + 20 := ⟨k - 20, by omega⟩
  unfold psalterylaw33_alive.f
  have s : Sams [0, 10] := by intro x hx; simp at hx; omega
  obtain ⟨r, e, hr, ho⟩ := Resample_eq (up := 2) (down := 1) (k := k + 20) s (by omega) (fun _ _ _ _ => by unfold resL; simp)
  obtain ⟨r2, e2, hr2, ho2⟩ := Resample_eq (up := 0) (down := 1) (k := k + 20) Sams.nil (by omega) (fun _ _ _ _ => by omega)
  unfold ResOk at ho ho2
  rw [if_neg (by omega), if_neg (by simp)] at ho
  rw [if_pos (by omega)] at ho2
  obtain ⟨rfl, hf⟩ := ho
  obtain ⟨rfl, rfl⟩ := ho2
  have e4 : r = [0, 5, 10, 5] := by
    refine hf.eq (m := 4) (W := fun j => rd [0, 5, 10, 5] j) ⟨rfl, fun _ _ _ => rfl⟩ (by unfold resL; rfl) fun j h0 h1 => ?_
    have h4 : j < 4 := by have : resL [0, 10] 2 1 = 4 := rfl; omega
    have : j = 0 ∨ j = 1 ∨ j = 2 ∨ j = 3 := by omega
    rcases this with rfl | rfl | rfl | rfl <;> decide +kernel
  subst e4
  rw [hr, hr2]; simp only [Option.bind_some]
  rw [if_pos trivial, Same_eq (by simp) (by simp)]; simp only [Option.bind_some]
  rw [if_pos trivial]; rfl
end Go.Proofs.Ytnaeondfkkiimaa.MixLib
