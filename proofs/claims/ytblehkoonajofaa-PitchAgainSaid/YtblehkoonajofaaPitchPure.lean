/- Pitch: what the hunter hunts is what the document hunts. -/
import Derived.Test.YtblehkoonajofaaPitchFeed
import Derived.Test.YtblehkoonajofaaLogsBasePitch
import Derived.Test.YtblehkoonajofaaRefLogsPitch
namespace Go.Proofs.Ytblehkoonajofaa.PPitch
open Go.RowKit Go.Proofs.YtblehkoonajofaaW.PrintWords Go.Proofs.YtblehkoonajofaaW.PrintLast Go.Proofs.YtblehkoonajofaaW.PrintMore
open Go.Proofs.Ytblehkoonajofaa.LogsBasePitch Go.Proofs.Ytblehkoonajofaa.RefLogsPitch
set_option linter.unusedVariables false
set_option linter.unusedSimpArgs false
/-- What the hunter keeps of a history: its last 79, 0 ahead of its beginning. -/
def lasts (A : List Int) : List Int := (List.replicate 79 0 ++ A).drop A.length
theorem lasts_length (A : List Int) : (lasts A).length = 79 := by rw [lasts, List.length_drop, List.length_append, List.length_replicate]; omega
theorem lasts_next (A x : List Int) : (lasts A ++ x).drop x.length = lasts (A ++ x) := by
  unfold lasts
  rw [← List.drop_append_of_le_length (by rw [List.length_append, List.length_replicate]; omega), List.drop_drop, List.append_assoc, List.length_append]
theorem lasts_nil : lasts [] = List.replicate 79 0 := by simp [lasts]
theorem lasts_at (A x : List Int) (i : Nat) : rd (lasts A ++ x) (i : Int) = (List.replicate 79 0 ++ (A ++ x)).getD (A.length + i) 0 := by
  unfold rd lasts
  rw [← List.drop_append_of_le_length (by rw [List.length_append, List.length_replicate]; omega), List.getD_eq_getElem?_getD, List.getElem?_drop, List.append_assoc, Int.toNat_natCast, List.getD_eq_getElem?_getD]
/-- What the document reads l ahead of the i-th that came. -/
def back (B : List Int) (j : Int) : Int := if j < 0 then 0 else rd B j
theorem at_eq {B : List Int} {j : Int} (h : j < B.length) : psalteryref18_at.f B j = some (back B j) := by
  unfold psalteryref18_at.f back
  by_cases c : j < 0
  · rw [if_pos c, if_pos c]
  · rw [if_neg c, if_neg c, if_pos (by omega), if_pos h]
theorem lasts_back (A x : List Int) (i : Nat) (l : Int) (h0 : 0 ≤ l) (h1 : l ≤ 79) : rd (lasts A ++ x) (79 + (i : Int) - l) = back (A ++ x) ((A.length : Int) + i - l) := by
  obtain ⟨m, hm⟩ : ∃ m : Nat, l = m := ⟨l.toNat, by omega⟩
  subst hm
  have e : (79 + (i : Int) - (m : Int)) = ((79 + i - m : Nat) : Int) := by omega
  rw [e, lasts_at, List.getD_eq_getElem?_getD]
  unfold back
  by_cases c : (A.length : Int) + i - m < 0
  · rw [if_pos c, List.getElem?_append_left (by rw [List.length_replicate]; omega), List.getElem?_replicate]
    split <;> rfl
  · rw [if_neg c, List.getElem?_append_right (by rw [List.length_replicate]; omega), rd, List.getD_eq_getElem?_getD, List.length_replicate, show A.length + (79 + i - m) - 79 = ((A.length : Int) + i - m).toNat by omega]
theorem lasts_front (A x : List Int) (i : Nat) : rd (lasts A ++ x) (79 + (i : Int) - 0) = rd (A ++ x) ((A.length : Int) + i) := by
  rw [lasts_back A x i 0 (by decide) (by decide), back, if_neg (by omega), Int.sub_zero]
theorem back_self (B : List Int) {j : Int} (h : 0 ≤ j) : back B j = rd B j := by unfold back; rw [if_neg (by omega)]
section
variable {A x : List Int} {n : Nat}
theorem w64 {n : Int} (h0 : -9223372036854775808 ≤ n) (h1 : n ≤ 9223372036854775807) : wrap64 n = n := by unfold wrap64; omega
theorem w64_nat {m : Nat} {d : Int} (h : m < 1000000) (h0 : 0 ≤ d) (h1 : d ≤ 1000) : wrap64 ((m : Int) - d) = (m : Int) - d := w64 (by omega) (by omega)
/-- The sum at one lag. -/
theorem Hunt_l1 (hx : x.length = n) (hB : A.length + n < 1000000) (x6 x7 : Int) (l : Int) (hl0 : 16 ≤ l) (hl1 : l ≤ 79) (r : Int × Int)
    (h : Ev (fun k => if x6 = 0 then (psalteryref18_Hunt.l0 k (A ++ x) A.length l (psum (lasts A ++ x) 0 l n) (l + 1)) else (if psum (lasts A ++ x) 0 l n > x7 then (psalteryref18_Hunt.l0 k (A ++ x) A.length l (psum (lasts A ++ x) 0 l n) (l + 1)) else (psalteryref18_Hunt.l0 k (A ++ x) A.length x6 x7 (l + 1)))) r) (d : Nat) :
    ∀ m, m + d = n → Ev (fun k => psalteryref18_Hunt.l1 k (A ++ x) A.length x6 x7 l (psum (lasts A ++ x) 0 l m) ((A.length : Int) + m)) r := by
  have hlen : ((A ++ x).length : Int) = (A.length : Int) + n := by rw [List.length_append, hx]; omega
  induction d with
  | zero =>
    intro m hm
    obtain rfl : m = n := by omega
    refine Ev.step (fun k => ?_) h
    simp only [psalteryref18_Hunt.l1]
    rw [if_neg (by rw [hlen]; omega), show wrap64 (l + 1) = l + 1 from w64 (by omega) (by omega)]
  | succ d ih =>
    intro m hm
    refine Ev.step (fun k => ?_) (ih (m + 1) (by omega))
    simp only [psalteryref18_Hunt.l1]
    rw [if_pos (by rw [hlen]; omega), if_pos (by omega), show wrap64 ((A.length : Int) + m - l) = (A.length : Int) + m - l from w64 (by omega) (by omega), at_eq (by rw [hlen]; omega)]
    simp only [Option.bind_some]
    rw [show wrap64 ((A.length : Int) + m + 1) = (A.length : Int) + ((m + 1 : Nat) : Int) from by rw [w64 (by omega) (by omega)]; omega]
    rw [psum, lasts_front, lasts_back A x m l (by omega) hl1]
theorem Hunt_l0 (hx : x.length = n) (hB : A.length + n < 1000000) (r : Int × Int)
    (h : Ev (fun k => psalteryref18_Hunt.l2 k (A ++ x) (pbest (lasts A ++ x) n 63).1 (pbest (lasts A ++ x) n 63).2 0 0 A.length) r) (d : Nat) :
    ∀ m, m + d = 63 → Ev (fun k => psalteryref18_Hunt.l0 k (A ++ x) A.length (pbest (lasts A ++ x) n m).1 (pbest (lasts A ++ x) n m).2 (17 + (m : Int))) r := by
  induction d with
  | zero =>
    intro m hm
    obtain rfl : m = 63 := by omega
    refine Ev.step (fun k => ?_) h
    simp only [psalteryref18_Hunt.l0]
    rw [if_neg (by omega)]
  | succ d ih =>
    intro m hm
    have hl := pbest_lag (lasts A ++ x) n m
    refine Ev.step (f := fun k => psalteryref18_Hunt.l1 k (A ++ x) A.length (pbest (lasts A ++ x) n m).1 (pbest (lasts A ++ x) n m).2 (17 + (m : Int)) (psum (lasts A ++ x) 0 (17 + (m : Int)) 0) ((A.length : Int) + (0 : Nat))) (fun k => ?_) ?_
    · simp only [psalteryref18_Hunt.l0]
      rw [if_pos (by omega), psum]; simp
    · refine Hunt_l1 hx hB _ _ _ (by omega) (by omega) r ?_ n 0 (by omega)
      have := ih (m + 1) (by omega)
      refine Ev.congr (fun k => ?_) this
      rw [if_neg (by omega), pbest, show (17 + (m : Int) + 1) = 17 + ((m + 1 : Nat) : Int) by omega]
      by_cases c : (pbest (lasts A ++ x) n m).2 < psum (lasts A ++ x) 0 (17 + (m : Int)) n
      · rw [if_pos c, if_pos c]
      · rw [if_neg c, if_neg c]
theorem Hunt_start (hx : x.length = n) (hB : A.length + n < 1000000) (r : Int × Int)
    (h : Ev (fun k => psalteryref18_Hunt.l2 k (A ++ x) (pbest (lasts A ++ x) n 63).1 (pbest (lasts A ++ x) n 63).2 0 0 A.length) r) : Ev (fun k => psalteryref18_Hunt.f k (A ++ x) n) r := by
  have hlen : ((A ++ x).length : Int) = (A.length : Int) + n := by rw [List.length_append, hx]; omega
  refine Ev.congr (f := fun k => psalteryref18_Hunt.l0 k (A ++ x) A.length 0 0 16) (fun k => ?_) ?_
  · unfold psalteryref18_Hunt.f
    rw [hlen, show wrap64 ((A.length : Int) + n - n) = A.length from by rw [w64 (by omega) (by omega)]; omega]
  · refine Ev.step (f := fun k => psalteryref18_Hunt.l1 k (A ++ x) A.length 0 0 16 (psum (lasts A ++ x) 0 16 0) ((A.length : Int) + (0 : Nat))) (fun k => ?_) ?_
    · simp only [psalteryref18_Hunt.l0]
      rw [if_pos (by omega), psum]; simp
    · refine Hunt_l1 hx hB _ _ _ (by omega) (by omega) r ?_ n 0 (by omega)
      refine Ev.congr (fun k => ?_) (Hunt_l0 hx hB r h 63 0 rfl)
      rw [if_pos rfl, pbest]
      rfl
end
section
variable {A x : List Int} {n : Nat}
theorem u64_add (a p : Int) : IntKind.u64.wrap (IntKind.u64.wrap a + IntKind.u64.wrap (wrap64 p)) = IntKind.u64.wrap (wrap64 (a + wrap64 p)) := by
  simp only [IntKind.wrap_u64]; unfold wrap64; omega
theorem Hunt_l2 (hx : x.length = n) (hB : A.length + n < 1000000) (l c : Int) (hl0 : 16 ≤ l) (hl1 : l ≤ 79) (r : Int × Int)
    (h : Ev (fun k => (psalteryref02_Root.f k (IntKind.u64.wrap (psum (lasts A ++ x) 0 0 n))).bind fun t112 => ((psalteryref02_Root.f k (IntKind.u64.wrap (psum (lasts A ++ x) l l n))).bind fun t113 => (if c ≤ 0 then (psalteryref18_Hunt.j3 k l c (wrap64 ((wrap64 (t112)) * (wrap64 (t113)))) true) else (psalteryref18_Hunt.j3 k l c (wrap64 ((wrap64 (t112)) * (wrap64 (t113)))) ((wrap64 ((wrap64 (t112)) * (wrap64 (t113)))) == 0))))) r) (d : Nat) :
    ∀ m, m + d = n → Ev (fun k => psalteryref18_Hunt.l2 k (A ++ x) l c (IntKind.u64.wrap (psum (lasts A ++ x) 0 0 m)) (IntKind.u64.wrap (psum (lasts A ++ x) l l m)) ((A.length : Int) + m)) r := by
  have hlen : ((A ++ x).length : Int) = (A.length : Int) + n := by rw [List.length_append, hx]; omega
  induction d with
  | zero =>
    intro m hm
    obtain rfl : m = n := by omega
    refine Ev.step (fun k => ?_) h
    simp only [psalteryref18_Hunt.l2]
    rw [if_neg (by rw [hlen]; omega)]
  | succ d ih =>
    intro m hm
    refine Ev.step (fun k => ?_) (ih (m + 1) (by omega))
    simp only [psalteryref18_Hunt.l2]
    rw [if_pos (by rw [hlen]; omega), if_pos (by omega), show wrap64 ((A.length : Int) + m - l) = (A.length : Int) + m - l from w64 (by omega) (by omega), at_eq (by rw [hlen]; omega)]
    simp only [Option.bind_some]
    rw [show wrap64 ((A.length : Int) + m + 1) = (A.length : Int) + ((m + 1 : Nat) : Int) from by rw [w64 (by omega) (by omega)]; omega]
    rw [psum, psum, lasts_front, lasts_back A x m l (by omega) hl1, u64_add, u64_add]
theorem rd_range {B : List Int} (hr : ∀ v ∈ B, -32768 ≤ v ∧ v ≤ 32767) (i : Int) : -32768 ≤ rd B i ∧ rd B i ≤ 32767 := by
  unfold rd
  rw [List.getD_eq_getElem?_getD]
  cases h : B[i.toNat]? with
  | none => exact ⟨by decide, by decide⟩
  | some v => exact hr v (List.mem_of_getElem? h)
theorem mul_range {a b : Int} (ha : -32768 ≤ a ∧ a ≤ 32767) (hb : -32768 ≤ b ∧ b ≤ 32767) : -1073741824 ≤ a * b ∧ a * b ≤ 1073741824 := by
  have h1 : (a + 32768) * (b + 32768) ≥ 0 := Int.mul_nonneg (by omega) (by omega)
  have h2 : (32768 - a) * (32768 - b) ≥ 0 := Int.mul_nonneg (by omega) (by omega)
  have h3 : (a + 32768) * (32768 - b) ≥ 0 := Int.mul_nonneg (by omega) (by omega)
  have h4 : (32768 - a) * (b + 32768) ≥ 0 := Int.mul_nonneg (by omega) (by omega)
  simp only [Int.add_mul, Int.mul_add, Int.sub_mul, Int.mul_sub] at h1 h2 h3 h4
  omega
/-- The plain sum of products. -/
def psumZ (all : List Int) (a b : Int) : Nat → Int
  | 0 => 0
  | k + 1 => psumZ all a b k + rd all (79 + k - a) * rd all (79 + k - b)
theorem psum_plain {all : List Int} (hr : ∀ v ∈ all, -32768 ≤ v ∧ v ≤ 32767) (a b : Int) : ∀ k : Nat, k ≤ 1000 → psum all a b k = psumZ all a b k ∧ -1073741824 * (k : Int) ≤ psumZ all a b k ∧ psumZ all a b k ≤ 1073741824 * (k : Int)
  | 0, _ => ⟨rfl, by simp [psumZ], by simp [psumZ]⟩
  | k + 1, hk => by
    obtain ⟨h1, h2, h3⟩ := psum_plain hr a b k (by omega)
    have h4 := mul_range (rd_range hr (79 + (k : Int) - a)) (rd_range hr (79 + (k : Int) - b))
    unfold psum psumZ
    rw [h1, w64 (n := rd all (79 + (k : Int) - a) * rd all (79 + (k : Int) - b)) (by omega) (by omega), w64 (by omega) (by omega)]
    exact ⟨rfl, by omega, by omega⟩
theorem psumZ_nonneg (all : List Int) (a : Int) : ∀ k, 0 ≤ psumZ all a a k
  | 0 => Int.le_refl _
  | k + 1 => by
    unfold psumZ
    have h1 := psumZ_nonneg all a k
    have h2 : 0 ≤ rd all (79 + (k : Int) - a) * rd all (79 + (k : Int) - a) := by
      rcases Int.le_total 0 (rd all (79 + (k : Int) - a)) with h | h
      · exact Int.mul_nonneg h h
      · exact Int.mul_nonneg_of_nonpos_of_nonpos h h
    omega
theorem pbest_is (all : List Int) (K : Nat) : ∀ m, (pbest all K m).2 = psum all 0 (pbest all K m).1 K
  | 0 => rfl
  | m + 1 => by
    unfold pbest
    split
    · rfl
    · exact pbest_is all K m
theorem root_small {e q : Int} (h : IsRoot e q) (he : e ≤ 137438953472) : q ≤ 524288 := by
  by_cases c : q ≤ 524288
  · exact c
  · have h1 : (524289 : Int) * 524289 ≤ q * q := Int.mul_le_mul (by omega) (by omega) (by decide) (by omega)
    have := h.2.1
    omega
/-- The strength of a quotient. -/
def strQ (q : Int) : Int := (if q ≥ 230 then 3 else if q ≥ 192 then 2 else if q ≥ 140 then 1 else 0)
theorem str_l0 (q : Int) (k : Nat) : pitch_strength.l0 (k + 4) q 0 0 = some (strQ q) := by
  have a0 : arr_pitch_strength_29.f 0 = some 140 := by decide +kernel
  have a1 : arr_pitch_strength_29.f 1 = some 192 := by decide +kernel
  have a2 : arr_pitch_strength_29.f 2 = some 230 := by decide +kernel
  have w1 : wrap64 (0 + 1) = 1 := by unfold wrap64; decide
  have w2 : wrap64 (1 + 1) = 2 := by unfold wrap64; decide
  have w3 : wrap64 (2 + 1) = 3 := by unfold wrap64; decide
  unfold strQ
  rw [pitch_strength.l0, if_pos (by decide), a0, Option.bind_some, w1]
  by_cases c0 : q ≥ 140
  · rw [if_pos c0, pitch_strength.l0, if_pos (by decide), a1, Option.bind_some, w2]
    by_cases c1 : q ≥ 192
    · rw [if_pos c1, pitch_strength.l0, if_pos (by decide), a2, Option.bind_some, w3]
      by_cases c2 : q ≥ 230
      · rw [if_pos c2, if_pos c2, pitch_strength.l0, if_neg (by decide)]
      · rw [if_neg c2, if_neg c2, if_pos c1, pitch_strength.l0, if_neg (by decide)]
    · rw [if_neg c1, pitch_strength.l0, if_pos (by decide), a2, Option.bind_some, if_neg (by omega), pitch_strength.l0, w3, if_neg (by decide), if_neg (by omega), if_neg c1, if_pos c0]
  · rw [if_neg c0, pitch_strength.l0, if_pos (by decide), a1, Option.bind_some, w2, if_neg (by omega), pitch_strength.l0, if_pos (by decide), a2, Option.bind_some, if_neg (by omega), w3, pitch_strength.l0, if_neg (by decide), if_neg (by omega), if_neg (by omega), if_neg c0]
end
section
variable {A x : List Int} {n : Nat}
/-- The hunter's answer and the document's: one lag, one strength. -/
theorem Hunt_is (hx : x.length = n) (hn : n ≤ 120) (hB : A.length + n < 1000000) (hr : ∀ v ∈ lasts A ++ x, -32768 ≤ v ∧ v ≤ 32767) :
    ∃ s ks, pitch_strength.f ks (pbest (lasts A ++ x) n 63).2 (IntKind.u64.wrap (psum (lasts A ++ x) 0 0 n)) (IntKind.u64.wrap (psum (lasts A ++ x) (pbest (lasts A ++ x) n 63).1 (pbest (lasts A ++ x) n 63).1 n)) = some s ∧
      Ev (fun k => psalteryref18_Hunt.f k (A ++ x) n) (if s = 0 then 0 else (pbest (lasts A ++ x) n 63).1, s) := by
  obtain ⟨l, c, hlc⟩ : ∃ l c, pbest (lasts A ++ x) n 63 = (l, c) := ⟨_, _, rfl⟩
  have hlag := pbest_lag (lasts A ++ x) n 63
  have hc := pbest_is (lasts A ++ x) n 63
  have h := fun r => Hunt_start (A := A) (x := x) hx hB r
  rw [hlc] at hlag hc h ⊢
  dsimp at hlag hc h ⊢
  obtain ⟨e1, e2, e3⟩ := psum_plain hr 0 0 n (by omega)
  obtain ⟨d1, d2, d3⟩ := psum_plain hr l l n (by omega)
  obtain ⟨c1, c2, c3⟩ := psum_plain hr 0 l n (by omega)
  have e4 := psumZ_nonneg (lasts A ++ x) 0 n
  have d4 := psumZ_nonneg (lasts A ++ x) l n
  obtain ⟨E, hE⟩ : ∃ E, E = IntKind.u64.wrap (psum (lasts A ++ x) 0 0 n) := ⟨_, rfl⟩
  obtain ⟨D, hD⟩ : ∃ D, D = IntKind.u64.wrap (psum (lasts A ++ x) l l n) := ⟨_, rfl⟩
  have hE2 : 0 ≤ E ∧ E ≤ 137438953472 := by rw [hE, IntKind.wrap_u64, e1]; omega
  have hD2 : 0 ≤ D ∧ D ≤ 137438953472 := by rw [hD, IntKind.wrap_u64, d1]; omega
  rw [c1] at hc
  have hc2 : -137438953472 ≤ c ∧ c ≤ 137438953472 := by omega
  obtain ⟨p, hp1, hp2, _⟩ := Root_eq hE2.1 (by omega) (k := 40) (Nat.le_refl _)
  obtain ⟨q, hq1, hq2, _⟩ := Root_eq hD2.1 (by omega) (k := 40) (Nat.le_refl _)
  have hps := root_small hp2 hE2.2
  have hqs := root_small hq2 hD2.2
  have hp0 := hp2.1
  have hq0 := hq2.1
  have hpq : 0 ≤ p * q ∧ p * q ≤ 274877906944 := ⟨Int.mul_nonneg hp0 hq0, Int.le_trans (Int.mul_le_mul hps hqs hq0 (by decide)) (by decide)⟩
  have hR : ∀ k, 40 ≤ k → psalteryref02_Root.f k E = some p ∧ psalteryref02_Root.f k D = some q := fun k hk => by
    obtain ⟨p', g1, g2⟩ := rRoot_eq hE2.1 (by omega) hk
    obtain ⟨q', g3, g4⟩ := rRoot_eq hD2.1 (by omega) hk
    exact ⟨by rw [g1, hp2.unique g2], by rw [g3, hq2.unique g4]⟩
  have hL : ∀ k, 40 ≤ k → logs_Root.f k E = some p ∧ logs_Root.f k D = some q := fun k hk => by
    obtain ⟨p', g1, g2, _⟩ := Root_eq hE2.1 (by omega) hk
    obtain ⟨q', g3, g4, _⟩ := Root_eq hD2.1 (by omega) hk
    exact ⟨by rw [g1, hp2.unique g2], by rw [g3, hq2.unique g4]⟩
  have wp : wrap64 p = p := w64 (by omega) (by omega)
  have wq : wrap64 q = q := w64 (by omega) (by omega)
  have ws : wrap64 (p * q) = p * q := w64 (by omega) (by omega)
  have hEv : ∀ r, (∀ k, 40 ≤ k → (if c ≤ 0 then (psalteryref18_Hunt.j3 k l c (p * q) true) else (psalteryref18_Hunt.j3 k l c (p * q) ((p * q) == 0))) = some r) → Ev (fun k => psalteryref18_Hunt.f k (A ++ x) n) r := fun r hrr => by
    refine h r (Hunt_l2 (m := 0) hx hB l c (by omega) (by omega) r ⟨40, fun k hk => ?_⟩ n (by omega)) |> fun g => g
    dsimp only
    rw [← hE, ← hD, (hR k hk).1, (hR k hk).2]
    simp only [Option.bind_some, wp, wq, ws]
    exact hrr k hk
  rw [← hE, ← hD]
  have hS : pitch_strength.f 50 c E D = (if c ≤ 0 then (pitch_strength.j0 50 c (p * q) true) else (pitch_strength.j0 50 c (p * q) (decide (p * q ≤ 0)))) := by
    unfold pitch_strength.f
    rw [(hL 50 (by omega)).1, (hL 50 (by omega)).2]
    simp only [Option.bind_some, wp, wq, ws]
  by_cases c0 : c ≤ 0
  · refine ⟨0, 50, ?_, hEv (if (0 : Int) = 0 then 0 else l, 0) fun k hk => ?_⟩
    · rw [hS, if_pos c0, pitch_strength.j0, if_pos rfl]
    · obtain ⟨k, rfl⟩ : ∃ j, k = j + 1 := ⟨k - 1, by omega⟩
      rw [if_pos c0, psalteryref18_Hunt.j3, if_pos rfl, if_pos rfl]
  · by_cases s0 : p * q = 0
    · refine ⟨0, 50, ?_, hEv (if (0 : Int) = 0 then 0 else l, 0) fun k hk => ?_⟩
      · rw [hS, if_neg c0, pitch_strength.j0, if_pos (by rw [s0]; rfl)]
      · obtain ⟨k, rfl⟩ : ∃ j, k = j + 1 := ⟨k - 1, by omega⟩
        rw [if_neg c0, psalteryref18_Hunt.j3, if_pos (by rw [s0]; rfl), if_pos rfl]
    · have hs1 : 0 < p * q := by omega
      have hq1 : 0 ≤ Int.tdiv (c * 256) (p * q) ∧ Int.tdiv (c * 256) (p * q) ≤ c * 256 := by
        rw [Int.tdiv_eq_ediv_of_nonneg (by omega)]
        exact ⟨Int.ediv_nonneg (by omega) (by omega), Int.ediv_le_self _ (by omega)⟩
      have w1 : wrap64 (c * 256) = c * 256 := w64 (by omega) (by omega)
      have w2 : wrap64 (Int.tdiv (c * 256) (p * q)) = Int.tdiv (c * 256) (p * q) := w64 (by omega) (by omega)
      refine ⟨strQ (Int.tdiv (c * 256) (p * q)), 50, ?_, hEv _ fun k hk => ?_⟩
      · rw [hS, if_neg c0, pitch_strength.j0, if_neg (by simp; omega), if_neg s0, w1, w2]
        exact str_l0 _ 45
      · obtain ⟨k, rfl⟩ : ∃ j, k = j + 1 := ⟨k - 1, by omega⟩
        rw [if_neg c0, psalteryref18_Hunt.j3, if_neg (by simpa using s0), if_neg s0, w1, w2]
        unfold strQ
        by_cases g3 : Int.tdiv (c * 256) (p * q) ≥ 230
        · rw [if_pos g3, if_pos g3, if_neg (by decide)]
        · rw [if_neg g3, if_neg g3]
          by_cases g2 : Int.tdiv (c * 256) (p * q) ≥ 192
          · rw [if_pos g2, if_pos g2, if_neg (by decide)]
          · rw [if_neg g2, if_neg g2]
            by_cases g1 : Int.tdiv (c * 256) (p * q) ≥ 140
            · rw [if_pos g1, if_pos g1, if_neg (by decide)]
            · rw [if_neg g1, if_neg g1, if_pos rfl]
end
end Go.Proofs.Ytblehkoonajofaa.PPitch
