/- Tuner: how much of a wave is in samples, as plain functions. -/
import Derived.Test.YtiiebkfeodmefaaDoorTunerLib
import Derived.Test.YtiiebkfeodmefaaDoorWaveBaseTuner
namespace Go.Proofs.YtiiebkfeodmefaaDoor.TunerSum
open Go.RowKit Go.Proofs.YtiiebkfeodmefaaDoor.PTuner Go.Proofs.YtiiebkfeodmefaaDoor.Num Go.Proofs.YtiiebkfeodmefaaDoor.FixBaseTuner Go.Proofs.YtiiebkfeodmefaaDoor.WaveBaseTuner Go.Proofs.YtiiebkfeodmefaaDoor.TunerLib Go.Proofs.YtiiebkfeodmefaaDoorW.PrintWords Go.Proofs.YtiiebkfeodmefaaDoorW.PrintLast Go.Proofs.YtiiebkfeodmefaaDoorW.PrintMore
set_option linter.unusedSimpArgs false
set_option linter.unusedVariables false
def cosv (num den : Int) (j : Nat) : Int := ang (4 * (((j : Int) * num) % den) + den) (4 * den)
def sinv (num den : Int) (j : Nat) : Int := ang ((j : Int) * num) den
/-- The sum of the first i products. -/
def sumV (g : Nat → Int) (x : List Int) : Nat → Int
  | 0 => 0
  | i+1 => sumV g x i + rd x (i : Int) * g i
theorem prod_in {a b : Int} (ha : -32768 ≤ a ∧ a ≤ 32768) (hb : -32768 ≤ b ∧ b ≤ 32768) : -1073741824 ≤ a * b ∧ a * b ≤ 1073741824 := by
  have := mul_abs (a := a) (b := b) (A := 32768) (B := 32768) ha.1 ha.2 hb.1 hb.2; omega
theorem rd_in {x : List Int} (hx : ∀ a ∈ x, -32768 ≤ a ∧ a ≤ 32767) (i : Int) : -32768 ≤ rd x i ∧ rd x i ≤ 32768 := by
  unfold rd
  rw [List.getD_eq_getElem?_getD]
  by_cases h : i.toNat < x.length
  · rw [List.getElem?_eq_getElem h]; have := hx _ (List.getElem_mem h); simp only [Option.getD_some]; omega
  · rw [List.getElem?_eq_none (by omega)]; decide
theorem sumV_in {g : Nat → Int} (hg : ∀ j, -32768 ≤ g j ∧ g j ≤ 32768) {x : List Int} (hx : ∀ a ∈ x, -32768 ≤ a ∧ a ≤ 32767) : ∀ i : Nat, -(1073741824 * (i : Int)) ≤ sumV g x i ∧ sumV g x i ≤ 1073741824 * (i : Int)
  | 0 => by simp [sumV]
  | i+1 => by
    have h := sumV_in hg hx i
    have p := prod_in (rd_in hx (i : Int)) (hg i)
    simp only [sumV]
    omega
theorem cosv_in (num den : Int) (j : Nat) : -32768 ≤ cosv num den j ∧ cosv num den j ≤ 32768 := by have := ang_range (4 * (((j : Int) * num) % den) + den) (4 * den); unfold cosv; omega
theorem sinv_in (num den : Int) (j : Nat) : -32768 ≤ sinv num den j ∧ sinv num den j ≤ 32768 := by have := ang_range ((j : Int) * num) den; unfold sinv; omega
def cSum (x : List Int) (num den : Int) : Int := rnd (sumV (cosv num den) x x.length) 15
def sSum (x : List Int) (num den : Int) : Int := rnd (sumV (sinv num den) x x.length) 15
def pow2 (x : List Int) (num den : Int) : Int := cSum x num den * cSum x num den + sSum x num den * sSum x num den
theorem jn_in {j : Nat} {num : Int} (hj : j ≤ 4096) (h0 : 0 ≤ num) (h1 : num ≤ 4096) : 0 ≤ (j : Int) * num ∧ (j : Int) * num ≤ 16777216 := by
  refine ⟨Int.mul_nonneg (by omega) h0, ?_⟩
  have h := Int.mul_le_mul (a := (j : Int)) (b := num) (c := 4096) (d := 4096) (by omega) h1 h0 (by decide)
  omega
theorem tParts_l0 {x : List Int} (hx : ∀ a ∈ x, -32768 ≤ a ∧ a ≤ 32767) (hn : x.length ≤ 4096) {num den : Int} (h0 : 0 ≤ num) (h1 : num ≤ den) (d1 : 1 ≤ den) (d2 : den ≤ 4096) (d : Nat) : ∀ (k i : Nat), i + d = x.length → d + 20 < k → tuner_Parts.l0 k num den (sumV (cosv num den) x i) (sumV (sinv num den) x i) x (x.length : Int) (i : Int) = some (cSum x num den, sSum x num den, 0) := by
  induction d with
  | zero =>
    intro k i hi hk
    obtain ⟨k, rfl⟩ : ∃ m, k = m + 1 := ⟨k - 1, by omega⟩
    simp only [tuner_Parts.l0]
    have e : i = x.length := by omega
    subst e
    have b1 := sumV_in (cosv_in num den) hx x.length
    have b2 := sumV_in (sinv_in num den) hx x.length
    rw [if_neg (by omega), Round_eq 15 (by omega) (by omega), Round_eq 15 (by omega) (by omega)]
    rfl
  | succ d ih =>
    intro k i hi hk
    obtain ⟨k, rfl⟩ : ∃ m, k = m + 1 := ⟨k - 1, by omega⟩
    simp only [tuner_Parts.l0]
    have jn := jn_in (j := i) (by omega) h0 (show num ≤ 4096 by omega)
    have b1 := sumV_in (cosv_in num den) hx i
    have b2 := sumV_in (sinv_in num den) hx i
    have p1 := prod_in (rd_in hx (i : Int)) (cosv_in num den i)
    have p2 := prod_in (rd_in hx (i : Int)) (sinv_in num den i)
    rw [if_pos (by omega), if_pos (by omega), if_pos (by omega), w64 (a := (i : Int) * num) (by omega) (by omega), Cosine_eq (by omega), Sine_eq (by omega), if_pos (by omega), if_pos (by omega)]
    simp only [Option.bind_some]
    show tuner_Parts.l0 k num den (wrap64 (sumV (cosv num den) x i + wrap64 (wrap64 (rd x (i : Int)) * wrap64 (cosv num den i)))) (wrap64 (sumV (sinv num den) x i + wrap64 (wrap64 (rd x (i : Int)) * wrap64 (sinv num den i)))) x (x.length : Int) (wrap64 ((i : Int) + 1)) = _
    have r1 := rd_in hx (i : Int)
    have c1 := cosv_in num den i
    have c2 := sinv_in num den i
    rw [w64 (a := rd x (i : Int)) (by omega) (by omega), w64 (a := cosv num den i) (by omega) (by omega), w64 (a := sinv num den i) (by omega) (by omega), w64 (a := rd x (i : Int) * cosv num den i) (by omega) (by omega), w64 (a := rd x (i : Int) * sinv num den i) (by omega) (by omega), w64 (a := sumV (cosv num den) x i + _) (by omega) (by omega), w64 (a := sumV (sinv num den) x i + _) (by omega) (by omega), w64 (a := (i : Int) + 1) (by omega) (by omega)]
    exact ih k (i + 1) (by omega) (by omega)
theorem rParts_l0 {x : List Int} (hx : ∀ a ∈ x, -32768 ≤ a ∧ a ≤ 32767) (hn : x.length ≤ 4096) {num den : Int} (h0 : 0 ≤ num) (h1 : num ≤ den) (d1 : 1 ≤ den) (d2 : den ≤ 4096) (d : Nat) : ∀ (k i : Nat), i + d = x.length → d + 20 < k → psalteryref37_Parts.l0 k x num den (sumV (cosv num den) x i) (sumV (sinv num den) x i) (i : Int) = some (cSum x num den, sSum x num den) := by
  induction d with
  | zero =>
    intro k i hi hk
    obtain ⟨k, rfl⟩ : ∃ m, k = m + 1 := ⟨k - 1, by omega⟩
    simp only [psalteryref37_Parts.l0]
    have e : i = x.length := by omega
    subst e
    have b1 := sumV_in (cosv_in num den) hx x.length
    have b2 := sumV_in (sinv_in num den) hx x.length
    rw [if_neg (by omega), rRound_eq 15 (by omega) (by omega), rRound_eq 15 (by omega) (by omega)]
    rfl
  | succ d ih =>
    intro k i hi hk
    obtain ⟨k, rfl⟩ : ∃ m, k = m + 1 := ⟨k - 1, by omega⟩
    simp only [psalteryref37_Parts.l0]
    have jn := jn_in (j := i) (by omega) h0 (show num ≤ 4096 by omega)
    have b1 := sumV_in (cosv_in num den) hx i
    have b2 := sumV_in (sinv_in num den) hx i
    have p1 := prod_in (rd_in hx (i : Int)) (cosv_in num den i)
    have p2 := prod_in (rd_in hx (i : Int)) (sinv_in num den i)
    have m1 := Int.emod_nonneg ((i : Int) * num) (show den ≠ 0 by omega)
    have m2 := Int.emod_lt_of_pos ((i : Int) * num) (show 0 < den by omega)
    have ea : ang ((i : Int) * num % den) den = sinv num den i := by unfold sinv ang; rw [Int.emod_emod]
    rw [if_pos (by omega), if_pos (by omega), if_neg (by omega), w64 (a := (i : Int) * num) (by omega) (by omega), Int.tmod_eq_emod_of_nonneg jn.1, w64 (a := 4 * ((i : Int) * num % den)) (by omega) (by omega), w64 (a := 4 * ((i : Int) * num % den) + den) (by omega) (by omega), w64 (a := 4 * den) (by omega) (by omega), Of_eq (by omega) (by omega) (by omega), Of_eq (by omega) (by omega) (by omega), ea]
    simp only [Option.bind_some]
    show psalteryref37_Parts.l0 k x num den (wrap64 (sumV (cosv num den) x i + wrap64 (wrap64 (rd x (i : Int)) * wrap64 (cosv num den i)))) (wrap64 (sumV (sinv num den) x i + wrap64 (wrap64 (rd x (i : Int)) * wrap64 (sinv num den i)))) (wrap64 ((i : Int) + 1)) = _
    have r1 := rd_in hx (i : Int)
    have c1 := cosv_in num den i
    have c2 := sinv_in num den i
    rw [w64 (a := rd x (i : Int)) (by omega) (by omega), w64 (a := cosv num den i) (by omega) (by omega), w64 (a := sinv num den i) (by omega) (by omega), w64 (a := rd x (i : Int) * cosv num den i) (by omega) (by omega), w64 (a := rd x (i : Int) * sinv num den i) (by omega) (by omega), w64 (a := sumV (cosv num den) x i + _) (by omega) (by omega), w64 (a := sumV (sinv num den) x i + _) (by omega) (by omega), w64 (a := (i : Int) + 1) (by omega) (by omega)]
    exact ih k (i + 1) (by omega) (by omega)
theorem may_eq (x : List Int) (num den : Int) : tuner_may.f x num den = psalteryref37_May.f x num den := rfl
/-- Samples and a wave that may be. -/
theorem may_ok {x : List Int} (hn : x.length ≤ 4096) {num den : Int} (h0 : 0 ≤ num) (h1 : num ≤ den) (d1 : 1 ≤ den) (d2 : den ≤ 4096) : tuner_may.f x num den = some 0 := by
  unfold tuner_may.f
  rw [if_neg (by omega), if_neg (by omega), if_neg (by omega), if_neg (by omega), if_neg (by omega)]
theorem Parts_eq {x : List Int} (hx : ∀ a ∈ x, -32768 ≤ a ∧ a ≤ 32767) (hn : x.length ≤ 4096) {num den : Int} (h0 : 0 ≤ num) (h1 : num ≤ den) (d1 : 1 ≤ den) (d2 : den ≤ 4096) {k : Nat} (hk : 5000 ≤ k) : tuner_Parts.f k x num den = some (cSum x num den, sSum x num den, 0) := by
  unfold tuner_Parts.f
  rw [may_ok hn h0 h1 d1 d2, Option.bind_some, if_pos rfl]
  exact tParts_l0 hx hn h0 h1 d1 d2 x.length k 0 (by omega) (by omega)
theorem rParts_eq {x : List Int} (hx : ∀ a ∈ x, -32768 ≤ a ∧ a ≤ 32767) (hn : x.length ≤ 4096) {num den : Int} (h0 : 0 ≤ num) (h1 : num ≤ den) (d1 : 1 ≤ den) (d2 : den ≤ 4096) {k : Nat} (hk : 5000 ≤ k) : psalteryref37_Parts.f k x num den = some (cSum x num den, sSum x num den) := by
  unfold psalteryref37_Parts.f
  exact rParts_l0 hx hn h0 h1 d1 d2 x.length k 0 (by omega) (by omega)
theorem rnd_in {n B : Int} (h : -(1073741824 * B) ≤ n ∧ n ≤ 1073741824 * B) (hB : 0 ≤ B) : -(32768 * B) ≤ rnd n 15 ∧ rnd n 15 ≤ 32768 * B := by
  have h2 : (2 : Int) ^ ((min 15 62 : Int).toNat - 1) = 16384 := by decide
  unfold rnd
  rw [if_neg (by decide), h2]
  omega
theorem cSum_in {x : List Int} (hx : ∀ a ∈ x, -32768 ≤ a ∧ a ≤ 32767) (num den : Int) : -(32768 * (x.length : Int)) ≤ cSum x num den ∧ cSum x num den ≤ 32768 * (x.length : Int) := rnd_in (sumV_in (cosv_in num den) hx x.length) (by omega)
theorem sSum_in {x : List Int} (hx : ∀ a ∈ x, -32768 ≤ a ∧ a ≤ 32767) (num den : Int) : -(32768 * (x.length : Int)) ≤ sSum x num den ∧ sSum x num den ≤ 32768 * (x.length : Int) := rnd_in (sumV_in (sinv_in num den) hx x.length) (by omega)
theorem sq_in {a : Int} (h : -134217728 ≤ a ∧ a ≤ 134217728) : 0 ≤ a * a ∧ a * a ≤ 18014398509481984 := by
  have := mul_abs (a := a) (b := a) (A := 134217728) (B := 134217728) h.1 h.2 h.1 h.2
  have h2 : 0 ≤ a * a := by rw [← Int.natAbs_mul_self]; omega
  omega
theorem pow_in {x : List Int} (hx : ∀ a ∈ x, -32768 ≤ a ∧ a ≤ 32767) (hn : x.length ≤ 4096) (num den : Int) : 0 ≤ cSum x num den * cSum x num den ∧ cSum x num den * cSum x num den ≤ 18014398509481984 ∧ 0 ≤ sSum x num den * sSum x num den ∧ sSum x num den * sSum x num den ≤ 18014398509481984 := by
  have c := cSum_in hx num den
  have s := sSum_in hx num den
  have a := sq_in (a := cSum x num den) (by omega)
  have b := sq_in (a := sSum x num den) (by omega)
  exact ⟨a.1, a.2, b.1, b.2⟩
theorem Power_eq {x : List Int} (hx : ∀ a ∈ x, -32768 ≤ a ∧ a ≤ 32767) (hn : x.length ≤ 4096) {num den : Int} (h0 : 0 ≤ num) (h1 : num ≤ den) (d1 : 1 ≤ den) (d2 : den ≤ 4096) {k : Nat} (hk : 5000 ≤ k) : tuner_Power.f k x num den = some (pow2 x num den, 0) := by
  unfold tuner_Power.f
  rw [Parts_eq hx hn h0 h1 d1 d2 hk]
  simp only [Option.bind_some]
  obtain ⟨a0, a1, b0, b1⟩ := pow_in hx hn num den
  unfold pow2
  generalize cSum x num den * cSum x num den = a at *
  generalize sSum x num den * sSum x num den = b at *
  rw [w64 (a := a) (by omega) (by omega), w64 (a := b) (by omega) (by omega), w64 (a := a + b) (by omega) (by omega), wu64 (by omega) (by omega)]
theorem rPower_eq {x : List Int} (hx : ∀ a ∈ x, -32768 ≤ a ∧ a ≤ 32767) (hn : x.length ≤ 4096) {num den : Int} (h0 : 0 ≤ num) (h1 : num ≤ den) (d1 : 1 ≤ den) (d2 : den ≤ 4096) {k : Nat} (hk : 5000 ≤ k) : psalteryref37_Power.f k x num den = some (pow2 x num den) := by
  unfold psalteryref37_Power.f
  rw [rParts_eq hx hn h0 h1 d1 d2 hk]
  simp only [Option.bind_some]
  obtain ⟨a0, a1, b0, b1⟩ := pow_in hx hn num den
  unfold pow2
  generalize cSum x num den * cSum x num den = a at *
  generalize sSum x num den * sSum x num den = b at *
  rw [w64 (a := a) (by omega) (by omega), w64 (a := b) (by omega) (by omega), wu64 (a := a) (by omega) (by omega), wu64 (a := b) (by omega) (by omega), wu64 (by omega) (by omega)]
/-- The first place of 1 .. m at which p is greatest; 0 where there is none. -/
def IsFirst (p : Nat → Int) (m b : Nat) : Prop := (m = 0 ∧ b = 0) ∨ (1 ≤ b ∧ b ≤ m ∧ (∀ j, 1 ≤ j → j ≤ m → p j ≤ p b) ∧ ∀ j, 1 ≤ j → j < b → p j < p b)
theorem IsFirst.unique {p : Nat → Int} {m a b : Nat} (h : IsFirst p m a) (g : IsFirst p m b) : a = b := by
  rcases h with ⟨h0, h1⟩ | ⟨h0, h1, h2, h3⟩
  · rcases g with ⟨_, g1⟩ | ⟨g0, g1, _⟩
    · omega
    · omega
  · rcases g with ⟨g0, _⟩ | ⟨g0, g1, g2, g3⟩
    · omega
    · rcases Nat.lt_trichotomy a b with c | c | c
      · have := g3 a h0 c; have := h2 b g0 g1; omega
      · exact c
      · have := h3 b g0 c; have := g2 a h0 h1; omega
theorem tStrong_l0 {x : List Int} {den : Int} {p : Nat → Int} {m : Nat} (hm : wrap64 (Int.tdiv den 2) = (m : Int)) (hm2 : m ≤ 4096) (hp : ∀ k j, 5000 ≤ k → 1 ≤ j → j ≤ m → tuner_Power.f k x (j : Int) den = some (p j, 0)) (d : Nat) :
    ∀ (k i b : Nat), i + d = m + 1 → 5000 + d < k → 1 ≤ b → b < i → (∀ j, 1 ≤ j → j < i → p j ≤ p b) → (∀ j, 1 ≤ j → j < b → p j < p b) → ∃ r : Nat, tuner_Strongest.l0 k x den (b : Int) (p b) (i : Int) = some (((r : Nat) : Int), (0 : Int)) ∧ IsFirst p m r := by
  induction d with
  | zero =>
    intro k i b hi hk h1 h2 h3 h4
    obtain ⟨k, rfl⟩ : ∃ n, k = n + 1 := ⟨k - 1, by omega⟩
    simp only [tuner_Strongest.l0]
    rw [hm, if_neg (by omega)]
    exact ⟨b, rfl, .inr ⟨h1, by omega, fun j a c => h3 j a (by omega), h4⟩⟩
  | succ d ih =>
    intro k i b hi hk h1 h2 h3 h4
    obtain ⟨k, rfl⟩ : ∃ n, k = n + 1 := ⟨k - 1, by omega⟩
    simp only [tuner_Strongest.l0]
    rw [hm, if_pos (by omega), hp k i (by omega) (by omega) (by omega)]
    simp only [Option.bind_some]
    rw [if_neg (by omega), w64 (a := (i : Int) + 1) (by omega) (by omega)]
    by_cases c : p i > p b
    · rw [if_pos c]
      exact ih k (i + 1) i (by omega) (by omega) (by omega) (by omega) (fun j a e => by
        by_cases e2 : j = i
        · subst e2; exact Int.le_refl _
        · have := h3 j a (by omega); omega) (fun j a e => by have := h3 j a (by omega); omega)
    · rw [if_neg c]
      exact ih k (i + 1) b (by omega) (by omega) h1 (by omega) (fun j a e => by
        by_cases e2 : j = i
        · subst e2; omega
        · exact h3 j a (by omega)) h4
theorem rStrong_l0 {x : List Int} {den : Int} {p : Nat → Int} {m : Nat} (hm2 : m ≤ 4096) (hp : ∀ k j, 5000 ≤ k → 1 ≤ j → j ≤ m → psalteryref37_Power.f k x (j : Int) den = some (p j)) (d : Nat) :
    ∀ (k b : Nat), 5000 + d < k → 1 ≤ b → b ≤ m → d < b → (∀ j, d < j → j ≤ m → p j ≤ p b) → (∀ j, d < j → j < b → p j < p b) → ∃ r : Nat, psalteryref37_Strongest.l0 k x den (b : Int) (d : Int) = some ((r : Nat) : Int) ∧ IsFirst p m r := by
  induction d with
  | zero =>
    intro k b hk h1 hb h2 h3 h4
    obtain ⟨k, rfl⟩ : ∃ n, k = n + 1 := ⟨k - 1, by omega⟩
    simp only [psalteryref37_Strongest.l0]
    rw [if_neg (by omega)]
    exact ⟨b, rfl, .inr ⟨h1, hb, fun j a c => h3 j (by omega) c, fun j a c => h4 j (by omega) c⟩⟩
  | succ d ih =>
    intro k b hk h1 hb h2 h3 h4
    obtain ⟨k, rfl⟩ : ∃ n, k = n + 1 := ⟨k - 1, by omega⟩
    simp only [psalteryref37_Strongest.l0]
    rw [if_pos (by omega), if_neg (by omega), hp k (d + 1) (by omega) (by omega) (by omega), hp k b (by omega) h1 hb]
    simp only [Option.bind_some]
    rw [w64 (a := ((d + 1 : Nat) : Int) - 1) (by omega) (by omega), show ((d + 1 : Nat) : Int) - 1 = (d : Int) from by omega]
    by_cases c : p (d + 1) ≥ p b
    · rw [if_pos c]
      exact ih k (d + 1) (by omega) (by omega) (by omega) (by omega) (fun j a e => by
        by_cases e2 : j = d + 1
        · subst e2; exact Int.le_refl _
        · have := h3 j (by omega) e; omega) (fun j a e => absurd e (by omega))
    · rw [if_neg c]
      exact ih k b (by omega) h1 hb (by omega) (fun j a e => by
        by_cases e2 : j = d + 1
        · subst e2; omega
        · exact h3 j (by omega) e) (fun j a e => by
        by_cases e2 : j = d + 1
        · subst e2; omega
        · exact h4 j (by omega) e)
theorem Strongest_eq {x : List Int} (hx : ∀ a ∈ x, -32768 ≤ a ∧ a ≤ 32767) (hn : x.length ≤ 4096) {den : Int} (d1 : 1 ≤ den) (d2 : den ≤ 4096) {k : Nat} (hk : 10000 ≤ k) : ∃ r : Nat, tuner_Strongest.f k x den = some ((r : Int), 0) ∧ psalteryref37_Strongest.f k x den = some (r : Int) := by
  obtain ⟨m, hm⟩ : ∃ m : Nat, (m : Int) = den / 2 := ⟨(den / 2).toNat, by omega⟩
  have e : wrap64 (Int.tdiv den 2) = (m : Int) := by rw [Int.tdiv_eq_ediv_of_nonneg (by omega), hm]; exact w64 (by omega) (by omega)
  have hp : ∀ k j, 5000 ≤ k → 1 ≤ j → j ≤ m → tuner_Power.f k x (j : Int) den = some (pow2 x (j : Int) den, 0) := fun k j a b c => Power_eq hx hn (by omega) (by omega) d1 d2 a
  have hq : ∀ k j, 5000 ≤ k → 1 ≤ j → j ≤ m → psalteryref37_Power.f k x (j : Int) den = some (pow2 x (j : Int) den) := fun k j a b c => rPower_eq hx hn (by omega) (by omega) d1 d2 a
  unfold tuner_Strongest.f psalteryref37_Strongest.f
  rw [may_ok hn (by decide) (by omega) d1 d2, Option.bind_some, if_pos rfl, e]
  obtain ⟨k, rfl⟩ : ∃ n, k = n + 1 := ⟨k - 1, by omega⟩
  simp only [tuner_Strongest.l0, psalteryref37_Strongest.l0]
  rw [e]
  by_cases c : m = 0
  · rw [if_neg (by omega), if_neg (by omega)]
    exact ⟨0, rfl, rfl⟩
  · rw [if_pos (by omega), if_pos (by omega), if_pos trivial]
    have h1 := hp k 1 (by omega) (by decide) (by omega)
    rw [show ((1 : Nat) : Int) = 1 from rfl] at h1
    rw [h1]
    simp only [Option.bind_some]
    rw [if_pos trivial, show wrap64 (1 + 1) = ((2 : Nat) : Int) from by decide +kernel, w64 (a := (m : Int) - 1) (by omega) (by omega), show (m : Int) - 1 = ((m - 1 : Nat) : Int) from by omega]
    obtain ⟨r, hr, fr⟩ := tStrong_l0 (p := fun j => pow2 x (j : Int) den) e (by omega) hp (m - 1) k 2 1 (by omega) (by omega) (by decide) (by decide) (fun j a b => (by have e0 : j = 1 := (by omega); subst e0; exact Int.le_refl _)) (fun j a b => absurd b (by omega))
    obtain ⟨s, hs, fs⟩ := rStrong_l0 (p := fun j => pow2 x (j : Int) den) (by omega) hq (m - 1) k m (by omega) (by omega) (Nat.le_refl _) (by omega) (fun j a b => (by have e0 : j = m := (by omega); subst e0; exact Int.le_refl _)) (fun j a b => absurd b (by omega))
    have := fr.unique fs
    subst this
    exact ⟨r, hr, hs⟩
end Go.Proofs.YtiiebkfeodmefaaDoor.TunerSum
