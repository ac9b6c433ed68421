/- The plain statement of the law TunerApart: unlike notes have unlike names, pitches rise, and a sum of samples' squares bounds the power. No condition. -/
import Derived.Test.YtiiebkfeodmefaaDoorTunerSum
namespace Go.Proofs.YtiiebkfeodmefaaDoor.Pure
open Go.RowKit Go.Proofs.YtiiebkfeodmefaaDoor.PTuner Go.Proofs.YtiiebkfeodmefaaDoor.Num Go.Proofs.YtiiebkfeodmefaaDoor.TunerLib Go.Proofs.YtiiebkfeodmefaaDoor.TunerSum Go.Proofs.YtiiebkfeodmefaaDoorW.PrintWords Go.Proofs.YtiiebkfeodmefaaDoorW.PrintLast Go.Proofs.YtiiebkfeodmefaaDoorW.PrintMore
set_option linter.unusedSimpArgs false
set_option linter.unusedVariables false
/-- The sum of the squares of the first i samples. -/
def sqs (x : List Int) : Nat → Int
  | 0 => 0
  | i+1 => sqs x i + rd x (i : Int) * rd x (i : Int)
theorem mul_nn (a : Int) : 0 ≤ a * a := by rw [← Int.natAbs_mul_self]; omega
theorem sqs_in {x : List Int} (hx : ∀ a ∈ x, -32768 ≤ a ∧ a ≤ 32767) : ∀ i : Nat, 0 ≤ sqs x i ∧ sqs x i ≤ 1073741824 * (i : Int)
  | 0 => by simp [sqs]
  | i+1 => by
    have h := sqs_in hx i
    have p := prod_in (rd_in hx (i : Int)) (rd_in hx (i : Int))
    have n := mul_nn (rd x (i : Int))
    simp only [sqs]
    omega
/-- The square of a sum is at most so many times the sum of the squares. -/
theorem cauchy_step {A B a n : Int} (hn : 0 ≤ n) (h : A * A ≤ n * B) (hB : 0 ≤ B) : (A + a) * (A + a) ≤ (n + 1) * (B + a * a) := by
  have e1 : (A + a) * (A + a) = A * A + 2 * (A * a) + a * a := by rw [Int.add_mul, Int.mul_add, Int.mul_add, Int.mul_comm a A]; omega
  have e2 : (n + 1) * (B + a * a) = n * B + n * (a * a) + B + a * a := by rw [Int.add_mul, Int.mul_add, Int.one_mul]; omega
  rw [e1, e2]
  rcases Int.lt_or_eq_of_le hn with hp | hz
  · -- n times the wanted: (n a - A)^2 is no less than 0
    have h3 := mul_nn (n * a - A)
    have e3 : (n * a - A) * (n * a - A) = n * (n * (a * a)) - 2 * (n * (A * a)) + A * A := by
      rw [Int.sub_mul, Int.mul_sub, Int.mul_sub]
      have p1 : n * a * (n * a) = n * (n * (a * a)) := by rw [Int.mul_assoc, ← Int.mul_assoc a n a, Int.mul_comm a n, Int.mul_assoc n a a]
      have p2 : n * a * A = n * (A * a) := by rw [Int.mul_assoc, Int.mul_comm a A]
      have p3 : A * (n * a) = n * (A * a) := by rw [Int.mul_comm A (n * a), p2]
      rw [p1, p2, p3]; omega
    have h4 : 2 * (n * (A * a)) ≤ n * (n * (a * a)) + n * B := by omega
    have h5 : n * (2 * (A * a)) ≤ n * (n * (a * a) + B) := by
      rw [Int.mul_add]
      have : n * (2 * (A * a)) = 2 * (n * (A * a)) := by rw [← Int.mul_assoc, Int.mul_comm n 2, Int.mul_assoc]
      omega
    have h6 := Int.le_of_mul_le_mul_left h5 hp
    omega
  · subst hz
    have hA : A = 0 := by
      have h0 : A * A ≤ 0 := by rw [Int.zero_mul] at h; exact h
      have := mul_nn A
      have h1 : A * A = 0 := by omega
      rcases Int.mul_eq_zero.1 h1 with h2 | h2 <;> exact h2
    subst hA
    simp; omega
theorem sq_le_mul {x g : Int} (hg : -32768 ≤ g ∧ g ≤ 32768) : x * g * (x * g) ≤ 1073741824 * (x * x) := by
  have e : x * g * (x * g) = (g * g) * (x * x) := by rw [Int.mul_assoc, ← Int.mul_assoc g x g, Int.mul_comm g x, Int.mul_assoc x g g, ← Int.mul_assoc, Int.mul_comm]
  rw [e]
  exact Int.mul_le_mul_of_nonneg_right (prod_in hg hg).2 (mul_nn x)
/-- The squares of the products. -/
def sqg (g : Nat → Int) (x : List Int) : Nat → Int
  | 0 => 0
  | i+1 => sqg g x i + rd x (i : Int) * g i * (rd x (i : Int) * g i)
theorem sqg_nn (g : Nat → Int) (x : List Int) : ∀ i, 0 ≤ sqg g x i
  | 0 => by simp [sqg]
  | i+1 => by have h := sqg_nn g x i; have n := mul_nn (rd x (i : Int) * g i); simp only [sqg]; omega
theorem sqg_le {g : Nat → Int} (hg : ∀ j, -32768 ≤ g j ∧ g j ≤ 32768) (x : List Int) : ∀ i, sqg g x i ≤ 1073741824 * sqs x i
  | 0 => by simp [sqg, sqs]
  | i+1 => by have h := sqg_le hg x i; have n := sq_le_mul (x := rd x (i : Int)) (hg i); simp only [sqg, sqs]; omega
theorem cauchy (g : Nat → Int) (x : List Int) : ∀ i : Nat, sumV g x i * sumV g x i ≤ (i : Int) * sqg g x i
  | 0 => by simp [sumV, sqg]
  | i+1 => by
    have h := cauchy_step (a := rd x (i : Int) * g i) (by omega : (0 : Int) ≤ (i : Int)) (cauchy g x i) (sqg_nn g x i)
    simp only [sumV, sqg]
    rw [show ((i + 1 : Nat) : Int) = (i : Int) + 1 from by omega]
    exact h
/-- A part's square: at most so many times the squares, and one half more. -/
theorem rnd_sq {c T K : Int} (hT : 0 ≤ T) (hK : 0 ≤ K) (h : c * c ≤ 1073741824 * T) (hc : -(1073741824 * K) ≤ c ∧ c ≤ 1073741824 * K) : rnd c 15 * rnd c 15 ≤ T + 32768 * K := by
  have h2 : (2 : Int) ^ ((min 15 62 : Int).toNat - 1) = 16384 := by decide
  obtain ⟨r, hr⟩ : ∃ r, r = rnd c 15 := ⟨_, rfl⟩
  have hb : -16384 ≤ c - 32768 * r ∧ c - 32768 * r ≤ 16384 := by
    rw [hr]; unfold rnd; rw [if_neg (by decide), h2]; omega
  rw [← hr]
  obtain ⟨e, he⟩ : ∃ e, e = c - 32768 * r := ⟨_, rfl⟩
  rw [← he] at hb
  have hc2 : c = 32768 * r + e := by omega
  -- (2^15 r)^2 = (c - e)^2 <= c^2 + 2 |c| |e| + e^2
  have e1 : 32768 * r * (32768 * r) = c * c - 2 * (c * e) + e * e := by
    have : 32768 * r = c - e := by omega
    rw [this, Int.sub_mul, Int.mul_sub, Int.mul_sub, Int.mul_comm e c]; omega
  have e2 : 32768 * r * (32768 * r) = 1073741824 * (r * r) := by rw [Int.mul_assoc, ← Int.mul_assoc r 32768 r, Int.mul_comm r 32768, Int.mul_assoc 32768 r r, ← Int.mul_assoc]; rfl
  have m1 := mul_abs (a := c) (b := e) (A := 1073741824 * K) (B := 16384) hc.1 hc.2 hb.1 hb.2
  have m2 := mul_abs (a := e) (b := e) (A := 16384) (B := 16384) hb.1 hb.2 hb.1 hb.2
  have m3 : 1073741824 * K * 16384 = 17592186044416 * K := by omega
  omega
theorem names_all : ((List.range 128).map fun n => (nameS n).toList).Nodup := by decide +kernel
theorem name_inj {n m : Nat} (hn : n < 128) (hm : m < 128) (h : (nameS n).toList = (nameS m).toList) : n = m := by
  have hp := List.pairwise_iff_getElem.1 names_all
  rcases Nat.lt_trichotomy n m with c | c | c
  · have := hp n m (by simp; exact hn) (by simp; exact hm) c
    simp only [List.getElem_map, List.getElem_range] at this
    exact absurd h this
  · exact c
  · have := hp m n (by simp; exact hm) (by simp; exact hn) c
    simp only [List.getElem_map, List.getElem_range] at this
    exact absurd h.symm this
theorem part_sq {g : Nat → Int} (hg : ∀ j, -32768 ≤ g j ∧ g j ≤ 32768) {x : List Int} (hx : ∀ a ∈ x, -32768 ≤ a ∧ a ≤ 32767) : rnd (sumV g x x.length) 15 * rnd (sumV g x x.length) 15 ≤ (x.length : Int) * sqs x x.length + 32768 * (x.length : Int) := by
  have h1 := cauchy g x x.length
  have h2 := sqg_le hg x x.length
  have h3 := sqs_in hx x.length
  refine rnd_sq (Int.mul_nonneg (by omega) h3.1) (by omega) ?_ (sumV_in hg hx x.length)
  have h4 := Int.mul_le_mul_of_nonneg_left h2 (show (0 : Int) ≤ (x.length : Int) by omega)
  have h5 : (x.length : Int) * (1073741824 * sqs x x.length) = 1073741824 * ((x.length : Int) * sqs x x.length) := by rw [← Int.mul_assoc, Int.mul_comm (x.length : Int), Int.mul_assoc]
  omega
theorem pow_le {x : List Int} (hx : ∀ a ∈ x, -32768 ≤ a ∧ a ≤ 32767) (num den : Int) : pow2 x num den ≤ 2 * ((x.length : Int) * sqs x x.length + 2 * (x.length : Int) * 40000 + 1) := by
  have h1 := part_sq (cosv_in num den) hx
  have h2 := part_sq (sinv_in num den) hx
  unfold pow2 cSum sSum
  omega
theorem apart_l0 {x : List Int} (hx : ∀ a ∈ x, -32768 ≤ a ∧ a ≤ 32767) (hn : x.length ≤ 100) (num den : Int) (d : Nat) : ∀ (k i : Nat), i + d = x.length → d < k → psalterylaw37_TunerApart.l0 k x (pow2 x num den) 0 (sqs x i) (i : Int) = some true := by
  induction d with
  | zero =>
    intro k i hi hk
    obtain ⟨k, rfl⟩ : ∃ m, k = m + 1 := ⟨k - 1, by omega⟩
    simp only [psalterylaw37_TunerApart.l0]
    have e : i = x.length := by omega
    subst e
    have h := pow_le hx num den
    have s := sqs_in hx x.length
    have t0 : 0 ≤ (x.length : Int) * sqs x x.length := Int.mul_nonneg (by omega) s.1
    have t1 : (x.length : Int) * sqs x x.length ≤ 100 * 107374182400 := Int.mul_le_mul (by omega) (by omega) s.1 (by decide)
    rw [if_neg (by omega), if_pos (by first | trivial | rfl), wu64 (a := (x.length : Int)) (by omega) (by omega)]
    generalize (x.length : Int) * sqs x x.length = t at h t0 t1 ⊢
    rw [wu64 (a := t) (by omega) (by omega), wu64 (a := 2 * (x.length : Int)) (by omega) (by omega), wu64 (a := 2 * (x.length : Int) * 40000) (by omega) (by omega), wu64 (a := t + _) (by omega) (by omega), wu64 (a := t + 2 * (x.length : Int) * 40000 + 1) (by omega) (by omega), wu64 (a := 2 * (t + 2 * (x.length : Int) * 40000 + 1)) (by omega) (by omega), decide_eq_true h]
  | succ d ih =>
    intro k i hi hk
    obtain ⟨k, rfl⟩ : ∃ m, k = m + 1 := ⟨k - 1, by omega⟩
    simp only [psalterylaw37_TunerApart.l0]
    have s := sqs_in hx i
    have r := rd_in hx (i : Int)
    have p := prod_in r r
    have n := mul_nn (rd x (i : Int))
    rw [if_pos (by omega), if_pos (by omega), w64 (a := rd x (i : Int)) (by omega) (by omega), w64 (a := rd x (i : Int) * rd x (i : Int)) (by omega) (by omega), wu64 (a := rd x (i : Int) * rd x (i : Int)) (by omega) (by omega), wu64 (a := sqs x i + _) (by omega) (by omega), w64 (a := (i : Int) + 1) (by omega) (by omega)]
    exact ih k (i + 1) (by omega) (by omega)
theorem apart_j1 {x : List Int} (hx : ∀ a ∈ x, -32768 ≤ a ∧ a ≤ 32767) (num den : Int) (hn : 0 ≤ num ∧ num ≤ 255) (hd : 0 ≤ den ∧ den ≤ 255) (b : Bool) (hb : b = false → x.length ≤ 100) (k : Nat) (hk : 6000 ≤ k) : psalterylaw37_TunerApart.j1 (k + 1) x num den b = some true := by
  simp only [psalterylaw37_TunerApart.j1]
  cases b with
  | true => rw [if_pos rfl]
  | false =>
    have hl := hb rfl
    have e1 : Int.tmod den 60 = den % 60 := Int.tmod_eq_emod_of_nonneg hd.1
    have m1 := Int.emod_nonneg den (show (60 : Int) ≠ 0 by decide)
    have m2 := Int.emod_lt_of_pos den (show (0 : Int) < 60 by decide)
    rw [if_neg (by decide), w64 (a := den) (by omega) (by omega), w64 (a := num) (by omega) (by omega), e1]
    generalize den % 60 = q at m1 m2 ⊢
    rw [w64 (a := 1 + q) (by omega) (by omega), w64 (a := 1 + q + 1) (by omega) (by omega), if_neg (by omega), Int.tmod_eq_emod_of_nonneg hn.1]
    have m3 := Int.emod_nonneg num (show (1 + q + 1 : Int) ≠ 0 by omega)
    have m4 := Int.emod_lt_of_pos num (show (0 : Int) < 1 + q + 1 by omega)
    rw [Power_eq hx (by omega) m3 (by omega) (by omega) (by omega) (by omega)]
    simp only [Option.bind_some]
    exact apart_l0 hx hl _ _ x.length k 0 (by omega) (by omega)
theorem apart_j0 {x : List Int} (hx : ∀ a ∈ x, -32768 ≤ a ∧ a ≤ 32767) (num den : Int) (hn : 0 ≤ num ∧ num ≤ 255) (hd : 0 ≤ den ∧ den ≤ 255) (k : Nat) (hk : 6001 ≤ k) : psalterylaw37_TunerApart.j0 (k + 1) x num den false = some true := by
  obtain ⟨k, rfl⟩ : ∃ n, k = n + 1 := ⟨k - 1, by omega⟩
  simp only [psalterylaw37_TunerApart.j0]
  rw [if_neg (by decide)]
  by_cases c : (x.length : Int) > 100
  · rw [if_pos c]; exact apart_j1 hx num den hn hd true (fun h => by cases h) k (by omega)
  · rw [if_neg c]; exact apart_j1 hx num den hn hd _ (fun _ => by omega) k (by omega)
theorem TunerApart_all (a b : Int) (x : List Int) (num den : Int) (ha : (Lit.int .u8 a).wf = true) (hb : (Lit.int .u8 b).wf = true) (hx0 : ∀ a ∈ x, (Lit.int .i16 a).wf = true) (hn : (Lit.int .u8 num).wf = true) (hd : (Lit.int .u8 den).wf = true) : ∃ k, psalterylaw37_TunerApart.f k a b x num den = some true := by
  have hx : ∀ a ∈ x, -32768 ≤ a ∧ a ≤ 32767 := fun a h => i16_of (hx0 a h)
  have ra := u8_of ha
  have rb := u8_of hb
  refine ⟨7000 + 1, ?_⟩
  have hj := apart_j0 hx num den (u8_of hn) (u8_of hd) 7000 (by decide)
  unfold psalterylaw37_TunerApart.f
  rw [alive_eq, Option.bind_some, if_pos rfl, w64 (a := a) (by omega) (by omega), w64 (a := b) (by omega) (by omega), Int.tmod_eq_emod_of_nonneg ra.1, Int.tmod_eq_emod_of_nonneg rb.1, Pitch_eq, Pitch_eq]
  obtain ⟨n, hn1⟩ : ∃ n : Nat, (n : Int) = a % 128 := ⟨(a % 128).toNat, by omega⟩
  obtain ⟨m, hm1⟩ : ∃ m : Nat, (m : Int) = b % 128 := ⟨(b % 128).toNat, by omega⟩
  rw [← hn1, ← hm1]
  have n1 : n < 128 := by omega
  have m1 : m < 128 := by omega
  unfold tuner_Name.f
  rw [if_pos (by omega), if_pos (by omega), if_pos (by omega), if_pos (by omega)]
  simp only [Option.bind_some, Int.toNat_natCast]
  have hne : (((nameS n).toList == (nameS m).toList) != ((n : Int) == (m : Int))) = false := by
    by_cases c : n = m
    · subst c; simp
    · have c2 : ¬ (nameS n).toList = (nameS m).toList := fun h => c (name_inj n1 m1 h)
      have c3 : ¬ ((n : Int) = (m : Int)) := by omega
      rw [show ((nameS n).toList == (nameS m).toList) = false from beq_eq_false_iff_ne.2 c2, show ((n : Int) == (m : Int)) = false from beq_eq_false_iff_ne.2 c3]; rfl
  rw [hne, if_neg (by decide)]
  by_cases c : (n : Int) < (m : Int)
  · rw [if_pos c, show decide (pitchV n ≥ pitchV m) = false from by unfold pitchV; simp; omega]; exact hj
  · rw [if_neg c]; exact hj
end Go.Proofs.YtiiebkfeodmefaaDoor.Pure
