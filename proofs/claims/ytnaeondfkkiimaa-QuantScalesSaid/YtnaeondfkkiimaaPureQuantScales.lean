/- The plain statement of the law QuantScales: the scales of any plane are those of the reference. No condition but that its rows are rows of int32. -/
import Derived.Test.YtnaeondfkkiimaaQuantLib
namespace Go.Proofs.Ytnaeondfkkiimaa.Pure
open Go.RowKit Go.Proofs.Ytnaeondfkkiimaa.PQuant Go.Proofs.Ytnaeondfkkiimaa.Num Go.Proofs.Ytnaeondfkkiimaa.QuantLib Go.Proofs.YtnaeondfkkiimaaW.PrintWords Go.Proofs.YtnaeondfkkiimaaW.PrintLast Go.Proofs.YtnaeondfkkiimaaW.PrintMore
set_option linter.unusedVariables false

theorem rdL_mem {l : List (List Int)} {i : Int} (h0 : 0 ≤ i) (h1 : i < l.length) : rd_L1 l i ∈ l := by
  unfold rd_L1
  rw [List.getD_eq_getElem?_getD, List.getElem?_eq_getElem (by omega)]
  exact List.getElem_mem _

/-- What is asked of a plane that came in. -/
def Plane (l : List (List Int)) : Prop := l.length ≤ 9223372036854775807 ∧ ∀ r ∈ l, r.length ≤ 9223372036854775807 ∧ ∀ x ∈ r, -2147483648 ≤ x ∧ x ≤ 2147483647

theorem Far_l0 {l : List (List Int)} (hl : l.length ≤ 40) (d : Nat) : ∀ (k : Nat) (i : Int), 0 ≤ i → i ≤ l.length → (l.length : Int) - i = d → d < k →
    (psalteryref13_Far.l0 k l i = some true) ∨ (psalteryref13_Far.l0 k l i = some false) := by
  induction d with
  | zero =>
    intro k i i0 i1 hd hk
    obtain ⟨k, rfl⟩ : ∃ m, k = m + 1 := ⟨k - 1, by omega⟩
    simp only [psalteryref13_Far.l0]
    rw [if_neg (by omega)]; exact .inr rfl
  | succ d ih =>
    intro k i i0 i1 hd hk
    obtain ⟨k, rfl⟩ : ∃ m, k = m + 1 := ⟨k - 1, by omega⟩
    simp only [psalteryref13_Far.l0]
    rw [if_pos (by omega), if_pos i0]
    split
    · exact .inl rfl
    · rw [w64 (by omega) (by omega)]; exact ih k (i + 1) (by omega) (by omega) (by omega) (by omega)
/-- Far tells something; if it is false the plane has at most 40 rows. -/
theorem Far_eq (l : List (List Int)) {k : Nat} (hk : 41 < k) : psalteryref13_Far.f k l = some true ∨ (psalteryref13_Far.f k l = some false ∧ l.length ≤ 40) := by
  unfold psalteryref13_Far.f
  by_cases h : (l.length : Int) > 40
  · rw [if_pos h]; exact .inl rfl
  · rw [if_neg h]
    rcases Far_l0 (l := l) (by omega) l.length k 0 (by omega) (by omega) (by omega) (by omega) with g | g
    · exact .inl g
    · exact .inr ⟨g, by omega⟩

/-- The bands of a plane: 0 where it is none. -/
def Even (l : List (List Int)) (n : Int) : Prop := ∀ i : Int, 0 ≤ i → i < l.length → ((rd_L1 l i).length : Int) = n
theorem bands_l0 {l : List (List Int)} (hl : 0 < l.length) (hl2 : l.length ≤ 40) (d : Nat) : ∀ (k : Nat) (i : Int), 0 ≤ i → i ≤ l.length → (l.length : Int) - i = d → d < k →
    (∀ j : Int, 0 ≤ j → j < i → ((rd_L1 l j).length : Int) = ((rd_L1 l 0).length : Int)) →
    (quant_bands.l0 k l l (l.length : Int) i = some ((rd_L1 l 0).length : Int) ∧ psalteryref13_Bands.l0 k l ((rd_L1 l 0).length : Int) i = (if ((rd_L1 l 0).length : Int) > 8 then some 0 else some ((rd_L1 l 0).length : Int)) ∧ Even l (rd_L1 l 0).length) ∨
    (quant_bands.l0 k l l (l.length : Int) i = some 0 ∧ psalteryref13_Bands.l0 k l ((rd_L1 l 0).length : Int) i = some 0) := by
  induction d with
  | zero =>
    intro k i i0 i1 hd hk hj
    obtain ⟨k, rfl⟩ : ∃ m, k = m + 1 := ⟨k - 1, by omega⟩
    simp only [quant_bands.l0, psalteryref13_Bands.l0]
    have hge : ¬ i < (l.length : Int) := by omega
    rw [if_neg hge, if_neg hge, if_pos (show (0 : Int) < (l.length : Int) by omega)]
    exact .inl ⟨rfl, rfl, fun j h0 h1 => hj j h0 (by omega)⟩
  | succ d ih =>
    intro k i i0 i1 hd hk hj
    obtain ⟨k, rfl⟩ : ∃ m, k = m + 1 := ⟨k - 1, by omega⟩
    simp only [quant_bands.l0, psalteryref13_Bands.l0]
    have hlt : i < (l.length : Int) := by omega
    simp only [if_pos hlt, if_pos i0, if_pos (show (0 : Int) < (l.length : Int) by omega)]
    by_cases e : ((rd_L1 l i).length : Int) = ((rd_L1 l 0).length : Int)
    · simp only [if_pos e]
      rw [w64 (by omega) (by omega)]
      refine ih k (i + 1) (by omega) (by omega) (by omega) (by omega) fun j h0 h1 => ?_
      by_cases ej : j = i
      · rw [ej]; exact e
      · exact hj j h0 (by omega)
    · simp only [if_neg e]; exact .inr ⟨trivial, trivial⟩
theorem Bands_eq {l : List (List Int)} (hl2 : l.length ≤ 40) {k : Nat} (hk : 50 < k) :
    ∃ n : Int, quant_bands.f k l = some n ∧ psalteryref13_Bands.f k l = some n ∧ 0 ≤ n ∧ n ≤ 8 ∧ (n ≠ 0 → 0 < l.length ∧ Even l n) := by
  obtain ⟨k, rfl⟩ : ∃ m, k = m + 1 := ⟨k - 1, by omega⟩
  unfold quant_bands.f psalteryref13_Bands.f
  by_cases h0 : (l.length : Int) = 0
  · rw [if_pos h0, if_pos h0]
    exact ⟨0, by simp only [quant_bands.j0, if_true], rfl, by decide, by decide, fun h => absurd rfl h⟩
  · rw [if_neg h0, if_neg h0, if_pos (by omega), if_pos (by omega)]
    have hj0 : ∀ j : Int, 0 ≤ j → j < 0 → ((rd_L1 l j).length : Int) = ((rd_L1 l 0).length : Int) := fun j a b => by omega
    have g1 := bands_l0 (l := l) (by omega) hl2 l.length (k + 1) 0 (by omega) (by omega) (by omega) (by omega) hj0
    have g2 := bands_l0 (l := l) (by omega) hl2 l.length k 0 (by omega) (by omega) (by omega) (by omega) hj0
    simp only [quant_bands.j0]
    by_cases h8 : ((rd_L1 l 0).length : Int) > 8
    · rw [decide_eq_true h8]
      simp only [if_true]
      refine ⟨0, rfl, ?_, by decide, by decide, fun h => absurd rfl h⟩
      rcases g1 with ⟨_, a, _⟩ | ⟨_, a⟩
      · rw [a, if_pos h8]
      · exact a
    · rw [decide_eq_false h8]
      simp only [Bool.false_eq_true, if_false]
      rcases g2 with ⟨a, _, c⟩ | ⟨a, b'⟩
      · rcases g1 with ⟨_, b, _⟩ | ⟨b0, b⟩
        · rw [if_neg h8] at b
          exact ⟨_, a, b, by omega, by omega, fun _ => ⟨by omega, c⟩⟩
        · -- the two ways are one: more rounds tell the same
          have := (quant_bands.mono_l k).2 l l (l.length : Int) 0 _ a
          rw [b0] at this
          have e := Option.some.inj this
          exact ⟨_, a, by rw [b]; exact congrArg some e, by omega, by omega, fun _ => ⟨by omega, c⟩⟩
      · refine ⟨0, a, ?_, by decide, by decide, fun h => absurd rfl h⟩
        have := (quant_bands.mono_l k).2 l l (l.length : Int) 0 _ a
        rcases g1 with ⟨b0, b, _⟩ | ⟨b0, b⟩
        · rw [b0] at this
          have e := Option.some.inj this
          rw [b, if_neg h8]; exact congrArg some e
        · exact b

/-- The greatest size in band b of the first i rows. -/
def most (l : List (List Int)) (b : Int) : Nat → Int
  | 0 => 0
  | i + 1 => max (most l b i) (max (rd (rd_L1 l i) b) (-(rd (rd_L1 l i) b)))
theorem most_range {l : List (List Int)} (hp : Plane l) {n b : Int} (he : Even l n) (b0 : 0 ≤ b) (b1 : b < n) (i : Nat) : i ≤ l.length → 0 ≤ most l b i ∧ most l b i ≤ 2147483648 := by
  induction i with
  | zero => intro _; exact ⟨Int.le_refl 0, show (0 : Int) ≤ 2147483648 by decide⟩
  | succ i ih =>
    intro hi
    have a := ih (by omega)
    have x := rd_all (hp.2 _ (rdL_mem (l := l) (i := i) (by omega) (by omega))).2 (i := b) b0 (by rw [he i (by omega) (by omega)]; exact b1)
    simp only [most]; omega
def scaleOf (m : Int) : Int := (quant_Scale.f 41 m).getD 0
theorem Scale_val (m : Int) {k : Nat} (hk : 40 < k) : quant_Scale.f k m = some (scaleOf m) ∧ psalteryref13_Scale.f k m = some (scaleOf m) := by
  obtain ⟨r, a, b, _⟩ := Scale_eq m (k := 41) (by decide)
  obtain ⟨r', a', b', _⟩ := Scale_eq m hk
  have := at_rounds (g := fun k => quant_Scale.f k m) (fun k => quant_Scale.mono m k) (show 41 ≤ k by omega) a
  have e : r' = r := by rw [a'] at this; exact Option.some.inj this
  have e2 : scaleOf m = r := by unfold scaleOf; rw [a]; rfl
  rw [e2, ← e]; exact ⟨a', b'⟩

theorem Scales_l2 {l : List (List Int)} {n : Int} (hp : Plane l) (hl : l.length ≤ 40) (he : Even l n) (n0 : 0 ≤ n) (n8 : n ≤ 8) {ms : List Int} (hm : ms.length = n.toNat) (hv : ∀ b : Int, 0 ≤ b → b < n → rd ms b = most l b l.length) (d : Nat) : ∀ (k : Nat) (out : List Int) (b : Int), 0 ≤ b → b ≤ n → n - b = d → d + 45 < k → out.length = n.toNat →
    (∀ j : Int, 0 ≤ j → j < b → rd out j = scaleOf (most l j l.length)) →
    ∃ r, quant_Scales.l2 k out ms (ms.length : Int) b = some (r, 0) ∧ r.length = n.toNat ∧ ∀ j : Int, 0 ≤ j → j < n → rd r j = scaleOf (most l j l.length) := by
  induction d with
  | zero =>
    intro k out b b0 b1 hd hk ho hj
    obtain ⟨k, rfl⟩ : ∃ m, k = m + 1 := ⟨k - 1, by omega⟩
    simp only [quant_Scales.l2]
    rw [if_neg (by omega)]
    exact ⟨out, rfl, ho, fun j h0 h1 => hj j h0 (by omega)⟩
  | succ d ih =>
    intro k out b b0 b1 hd hk ho hj
    obtain ⟨k, rfl⟩ : ∃ m, k = m + 1 := ⟨k - 1, by omega⟩
    simp only [quant_Scales.l2]
    rw [if_pos (by omega), if_pos b0, if_pos (by omega), hv b b0 (by omega), (Scale_val _ (show 40 < k by omega)).1]
    simp only [Option.bind_some]
    rw [if_pos (by omega), w64 (by omega) (by omega)]
    refine ih k _ (b + 1) (by omega) (by omega) (by omega) (by omega) (by rw [List.length_set]; exact ho) fun j h0 h1 => ?_
    rw [rd_set b0 (by omega) h0]
    split
    · rename_i e; rw [e]
    · exact hj j h0 (by omega)
/-- The rows one by one, the bands of each. -/
theorem Scales_l01 {l : List (List Int)} {n : Int} (hp : Plane l) (hl : l.length ≤ 40) (he : Even l n) (n0 : 0 ≤ n) (n8 : n ≤ 8) (d : Nat) : (∀ (k : Nat) (ms : List Int) (i : Int), 0 ≤ i → i ≤ l.length → (l.length : Int) - i = d → d * 10 + 70 < k → ms.length = n.toNat → (∀ b : Int, 0 ≤ b → b < n → rd ms b = most l b i.toNat) →
      ∃ r, quant_Scales.l0 k n ms l (l.length : Int) i = some (r, 0) ∧ r.length = n.toNat ∧ ∀ j : Int, 0 ≤ j → j < n → rd r j = scaleOf (most l j l.length)) := by
  induction d with
  | zero =>
    intro k ms i i0 i1 hd hk hm hv
    obtain ⟨k, rfl⟩ : ∃ m, k = m + 1 := ⟨k - 1, by omega⟩
    simp only [quant_Scales.l0]
    rw [if_neg (by omega), if_pos n0, if_pos (by omega)]
    have e : i.toNat = l.length := by omega
    rw [e] at hv
    exact Scales_l2 hp hl he n0 n8 hm hv n.toNat k _ 0 (by omega) (by omega) (by omega) (by omega) (by simp) (fun j a b => by omega)
  | succ d ih =>
    intro k ms i i0 i1 hd hk hm hv
    obtain ⟨k, rfl⟩ : ∃ m, k = m + 1 := ⟨k - 1, by omega⟩
    have hlt : i < (l.length : Int) := by omega
    have hrow := he i i0 hlt
    have hmem := rdL_mem i0 hlt
    have inner : ∀ (c : Nat) (k : Nat) (ms : List Int) (b : Int), 0 ≤ b → b ≤ n → n - b = c → c + d * 10 + 71 < k → ms.length = n.toNat →
        (∀ j : Int, 0 ≤ j → j < n → rd ms j = if j < b then most l j (i.toNat + 1) else most l j i.toNat) →
        ∃ r, quant_Scales.l1 k n ms l (l.length : Int) i (rd_L1 l i) ((rd_L1 l i).length : Int) b = some (r, 0) ∧ r.length = n.toNat ∧ ∀ j : Int, 0 ≤ j → j < n → rd r j = scaleOf (most l j l.length) := by
      intro c
      induction c with
      | zero =>
        intro k ms b b0 b1 hc hk hm hv
        obtain ⟨k, rfl⟩ : ∃ m, k = m + 1 := ⟨k - 1, by omega⟩
        simp only [quant_Scales.l1]
        rw [if_neg (by omega), w64 (by omega) (by omega)]
        refine ih k ms (i + 1) (by omega) (by omega) (by omega) (by omega) hm fun j h0 h1 => ?_
        rw [hv j h0 h1, if_pos (by omega), show (i + 1).toNat = i.toNat + 1 by omega]
      | succ c ihc =>
        intro k ms b b0 b1 hc hk hm hv
        obtain ⟨k, rfl⟩ : ∃ m, k = m + 1 := ⟨k - 1, by omega⟩
        simp only [quant_Scales.l1]
        have x := rd_all (hp.2 _ hmem).2 (i := b) b0 (by omega)
        rw [if_pos (by omega), if_pos b0, if_pos (by omega), if_pos (by omega), w64 (a := rd (rd_L1 l i) b) (by omega) (by omega), w64 (a := -(rd (rd_L1 l i) b)) (by omega) (by omega), w64 (a := b + 1) (by omega) (by omega)]
        refine ihc k _ (b + 1) (by omega) (by omega) (by omega) (by omega) (by rw [List.length_set]; exact hm) fun j h0 h1 => ?_
        rw [rd_set b0 (by omega) h0]
        by_cases e : j = b
        · subst e
          rw [if_pos rfl, if_pos (by omega), hv j b0 h1, if_neg (by omega)]
          have ei : ((i.toNat : Nat) : Int) = i := Int.toNat_of_nonneg i0
          simp only [most, mx, ei]
          (repeat' split) <;> omega
        · rw [if_neg e, hv j h0 h1]
          by_cases g : j < b
          · rw [if_pos g, if_pos (by omega)]
          · rw [if_neg g, if_neg (by omega)]
    simp only [quant_Scales.l0]
    rw [if_pos hlt, if_pos i0, if_pos hlt]
    exact inner n.toNat k ms 0 (by omega) (by omega) (by omega) (by omega) hm (fun j h0 h1 => by rw [if_neg (by omega)]; exact hv j h0 h1)
theorem rScales_l1 {l : List (List Int)} {n : Int} (hp : Plane l) (hl : l.length ≤ 40) (he : Even l n) (n0 : 0 ≤ n) (n8 : n ≤ 8) {b : Int} (b0 : 0 ≤ b) (b1 : b < n) (out : List Int) (ho : out.length ≤ 8) (d : Nat) : ∀ (k : Nat) (i : Int), 0 ≤ i → i ≤ l.length → (l.length : Int) - i = d → d + 45 < k →
    ∃ k', d + k' + 1 = k ∧ psalteryref13_Scales.l1 k l out b (most l b i.toNat) i = psalteryref13_Scales.l0 k' l (out ++ [scaleOf (most l b l.length)]) (b + 1) := by
  induction d with
  | zero =>
    intro k i i0 i1 hd hk
    obtain ⟨k, rfl⟩ : ∃ m, k = m + 1 := ⟨k - 1, by omega⟩
    refine ⟨k, by omega, ?_⟩
    simp only [psalteryref13_Scales.l1]
    have e : i.toNat = l.length := by omega
    rw [if_neg (by omega), e, (Scale_val _ (show 40 < k by omega)).2]
    simp only [Option.bind_some]
    rw [if_pos (by omega), w64 (by omega) (by omega)]
  | succ d ih =>
    intro k i i0 i1 hd hk
    obtain ⟨k, rfl⟩ : ∃ m, k = m + 1 := ⟨k - 1, by omega⟩
    have hlt : i < (l.length : Int) := by omega
    have x := rd_all (hp.2 _ (rdL_mem i0 hlt)).2 (i := b) b0 (by rw [he i i0 hlt]; exact b1)
    have m := most_range hp he b0 b1 i.toNat (by omega)
    obtain ⟨k', hk', g⟩ := ih k (i + 1) (by omega) (by omega) (by omega) (by omega)
    refine ⟨k', by omega, ?_⟩
    rw [← g]
    have ei : ((i.toNat : Nat) : Int) = i := Int.toNat_of_nonneg i0
    have hms : most l b (i + 1).toNat = max (most l b i.toNat) (max (rd (rd_L1 l i) b) (-(rd (rd_L1 l i) b))) := by
      rw [show (i + 1).toNat = i.toNat + 1 by omega]; simp only [most, ei]
    simp only [psalteryref13_Scales.l1]
    rw [if_pos hlt, if_pos i0, if_pos b0, if_pos (by rw [he i i0 hlt]; exact b1), w64 (a := rd (rd_L1 l i) b) (by omega) (by omega), w64 (a := -(rd (rd_L1 l i) b)) (by omega) (by omega), w64 (a := i + 1) (by omega) (by omega), hms]
    generalize rd (rd_L1 l i) b = y at *
    generalize most l b i.toNat = z at *
    by_cases s : y < 0
    · rw [if_pos s]
      by_cases s2 : -y > z
      · rw [if_pos s2, show max z (max y (-y)) = -y by omega]
      · rw [if_neg s2, show max z (max y (-y)) = z by omega]
    · rw [if_neg s]
      by_cases s2 : y > z
      · rw [if_pos s2, show max z (max y (-y)) = y by omega]
      · rw [if_neg s2, show max z (max y (-y)) = z by omega]
theorem rScales_l0 {l : List (List Int)} {n : Int} (hp : Plane l) (hl : l.length ≤ 40) (he : Even l n) (n0 : 0 ≤ n) (n8 : n ≤ 8) (h0 : 0 < l.length) (d : Nat) : ∀ (k : Nat) (out : List Int) (b : Int), 0 ≤ b → b ≤ n → n - b = d → d * 50 + 50 < k → (out.length : Int) = b → (∀ j : Int, 0 ≤ j → j < b → rd out j = scaleOf (most l j l.length)) →
    ∃ r, psalteryref13_Scales.l0 k l out b = some r ∧ r.length = n.toNat ∧ ∀ j : Int, 0 ≤ j → j < n → rd r j = scaleOf (most l j l.length) := by
  have hn0 : ((rd_L1 l 0).length : Int) = n := he 0 (by decide) (by omega)
  induction d with
  | zero =>
    intro k out b b0 b1 hd hk ho hj
    obtain ⟨k, rfl⟩ : ∃ m, k = m + 1 := ⟨k - 1, by omega⟩
    simp only [psalteryref13_Scales.l0]
    rw [if_pos (by omega), if_neg (by omega)]
    exact ⟨out, rfl, by omega, fun j a c => hj j a (by omega)⟩
  | succ d ih =>
    intro k out b b0 b1 hd hk ho hj
    obtain ⟨k, rfl⟩ : ∃ m, k = m + 1 := ⟨k - 1, by omega⟩
    simp only [psalteryref13_Scales.l0]
    rw [if_pos (by omega), if_pos (by omega)]
    obtain ⟨k', hk', g⟩ := rScales_l1 hp hl he n0 n8 b0 (by omega) out (by omega) l.length k 0 (by omega) (by omega) (by omega) (by omega)
    rw [show most l b (0 : Int).toNat = 0 from rfl] at g
    rw [g]
    refine ih k' _ (b + 1) (by omega) (by omega) (by omega) (by omega) (by rw [List.length_append, List.length_singleton]; omega) fun j a c => ?_
    rw [rd_snoc a (by omega)]
    by_cases e : j = out.length
    · rw [if_pos e, e, ho]
    · rw [if_neg e]; exact hj j a (by omega)
theorem Law_l0 {a b : List Int} (h : a = b) (hl : a.length ≤ 1000) (d : Nat) : ∀ (k : Nat) (i : Int), 0 ≤ i → i ≤ a.length → (a.length : Int) - i = d → d < k → psalterylaw13_QuantScales.l0 k a b i = some true := by
  subst h
  induction d with
  | zero =>
    intro k i i0 i1 hd hk
    obtain ⟨k, rfl⟩ : ∃ m, k = m + 1 := ⟨k - 1, by omega⟩
    simp only [psalterylaw13_QuantScales.l0]
    rw [if_neg (by omega)]
  | succ d ih =>
    intro k i i0 i1 hd hk
    obtain ⟨k, rfl⟩ : ∃ m, k = m + 1 := ⟨k - 1, by omega⟩
    simp only [psalterylaw13_QuantScales.l0]
    rw [if_pos (by omega), if_pos i0, if_pos (by omega), if_true, w64 (by omega) (by omega)]
    exact ih k (i + 1) (by omega) (by omega) (by omega) (by omega)
theorem QuantScales (l : List (List Int)) (hp : Plane l) : ∃ k, psalterylaw13_QuantScales.f k l = some true := by
  refine ⟨600, ?_⟩
  unfold psalterylaw13_QuantScales.f
  rw [alive_eq (by decide)]; simp only [Option.bind_some, if_true]
  rcases Far_eq l (k := 600) (by decide) with hf | ⟨hf, hl⟩
  · rw [hf]; rfl
  · rw [hf]; simp only [Option.bind_some, Bool.false_eq_true, if_false]
    obtain ⟨n, b1, b2, n0, n8, hn⟩ := Bands_eq hl (k := 600) (by decide)
    unfold quant_Scales.f
    rw [b1, b2]; simp only [Option.bind_some]
    by_cases e : n = 0
    · rw [if_pos e]; simp only [Option.bind_some, if_pos e]; rfl
    · obtain ⟨h0, he⟩ := hn e
      rw [if_neg e, if_pos n0, if_pos (by omega)]
      obtain ⟨r, g1, g2, g3⟩ := Scales_l01 hp hl he n0 n8 l.length 600 (List.replicate n.toNat 0) 0 (by omega) (by omega) (by omega) (by omega) (by simp) (fun b _ _ => rd_replicate)
      obtain ⟨q, f1, f2, f3⟩ := rScales_l0 hp hl he n0 n8 h0 n.toNat 600 [] 0 (by omega) n0 (by omega) (by omega) rfl (fun j a c => by omega)
      rw [g1]; simp only [Option.bind_some, if_neg e]
      unfold psalteryref13_Scales.f
      rw [f1]; simp only [Option.bind_some, if_true]
      have hrq : r = q := ext_rd (by omega) fun i h0 h1 => by rw [g3 i h0 (by omega), f3 i h0 (by omega)]
      have hne : ((r.length : Int) != (q.length : Int)) = false := by rw [hrq, bne_self_eq_false]
      rw [hne]; simp only [psalterylaw13_QuantScales.j0, Bool.false_eq_true, if_false]
      exact Law_l0 hrq (by omega) r.length 599 0 (by omega) (by omega) (by omega) (by omega)

end Go.Proofs.Ytnaeondfkkiimaa.Pure
