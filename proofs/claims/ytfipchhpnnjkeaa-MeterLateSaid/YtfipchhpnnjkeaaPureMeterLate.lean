/- The plain statement of the law MeterLate: a list that comes later is as late as that, or less; louder is no less loud; a list isn't less near to itself than to another one; where it is still. No condition. -/
import Derived.Test.YtfipchhpnnjkeaaMeterStill
namespace Go.Proofs.Ytfipchhpnnjkeaa.Pure
open Go.RowKit Go.Proofs.Ytfipchhpnnjkeaa.PMeter Go.Proofs.Ytfipchhpnnjkeaa.Num Go.Proofs.Ytfipchhpnnjkeaa.LogsBaseMeter Go.Proofs.Ytfipchhpnnjkeaa.MeterLib Go.Proofs.Ytfipchhpnnjkeaa.MeterStill Go.Proofs.YtfipchhpnnjkeaaW.PrintWords Go.Proofs.YtfipchhpnnjkeaaW.PrintLast Go.Proofs.YtfipchhpnnjkeaaW.PrintMore
set_option linter.unusedVariables false

theorem two_prod (x y : Int) : 2 * (x * y) ≤ x * x + y * y := by
  have h : 0 ≤ (x - y) * (x - y) := by
    rcases Int.le_total 0 (x - y) with h | h
    · exact Int.mul_nonneg h h
    · exact Int.mul_nonneg_of_nonpos_of_nonpos h h
  rw [Int.sub_mul, Int.mul_sub, Int.mul_sub, Int.mul_comm y x] at h
  omega
/-- Behind D zeros the list itself stands. -/
theorem rd_behind {l : List Int} {D : Nat} {i : Int} (h : D ≤ i) : rd (List.replicate D 0 ++ l) i = rd l (i - D) := by
  unfold rd
  rw [List.getD_eq_getElem?_getD, List.getD_eq_getElem?_getD, List.getElem?_append_right (by rw [List.length_replicate]; omega), List.length_replicate]
  congr 2; omega
theorem fitS_le {l : List Int} (D s n : Nat) : 2 * fitS l (List.replicate D 0 ++ l) (D + s) n ≤ sumSq l n + sumSq l (n + s) - sumSq l s := by
  induction n with
  | zero => simp [fitS, sumSq]
  | succ n ih =>
    have e : rd (List.replicate D 0 ++ l) ((n : Int) + (D + s)) = rd l ((n + s : Nat) : Int) := by
      rw [rd_behind (by omega)]; congr 1; omega
    have t := two_prod (rd l n) (rd l ((n + s : Nat) : Int))
    simp only [fitS, e]
    rw [show n + 1 + s = (n + s) + 1 by omega]
    simp only [sumSq]
    omega
theorem fitS_self (l : List Int) (D n : Nat) : fitS l (List.replicate D 0 ++ l) D n = sumSq l n := by
  induction n with
  | zero => rfl
  | succ n ih =>
    have e : rd (List.replicate D 0 ++ l) ((n : Int) + D) = rd l n := by rw [rd_behind (by omega)]; congr 1; omega
    simp only [fitS, sumSq, e, ih]
theorem fitV_self (l : List Int) (D : Nat) : fitV l (List.replicate D 0 ++ l) D = energy l := by
  unfold fitV energy
  have ht : terms l (List.replicate D 0 ++ l) D = l.length := by
    unfold terms; rw [List.length_append, List.length_replicate]; omega
  rw [ht, fitS_self]
theorem fitV_later {l : List Int} (hl : Sams l) (D s : Nat) : fitV l (List.replicate D 0 ++ l) (D + s) ≤ energy l := by
  unfold fitV
  have ht : terms l (List.replicate D 0 ++ l) (D + s) = l.length - s := by
    unfold terms; rw [List.length_append, List.length_replicate]; omega
  rw [ht]
  have a := fitS_le (l := l) D s (l.length - s)
  have b := (sumSq_range hl s).1
  have c := sumSq_mono hl (show l.length - s ≤ l.length by omega)
  by_cases h : s ≤ l.length
  · have d := sumSq_mono hl (show l.length - s + s ≤ l.length by omega)
    unfold energy; omega
  · rw [show l.length - s = 0 by omega] at a c ⊢
    have := (sumSq_range hl l.length).1
    simp only [fitS]; unfold energy; omega
theorem bestD_fit (a b : List Int) (n : Nat) : fitV a b n ≤ fitV a b (bestD a b n) := by
  cases n with
  | zero => exact Int.le_refl _
  | succ n =>
    simp only [bestD]
    rw [show (((n + 1 : Nat)) : Int) = (n : Int) + 1 by omega]
    split <;> omega
theorem bestD_late {l : List Int} (hl : Sams l) (D : Nat) (n : Nat) : bestD l (List.replicate D 0 ++ l) n ≤ D := by
  have key : ∀ m : Nat, bestD l (List.replicate D 0 ++ l) (D + m) ≤ D ∧ energy l ≤ fitV l (List.replicate D 0 ++ l) (bestD l (List.replicate D 0 ++ l) (D + m)) := by
    intro m
    induction m with
    | zero =>
      refine ⟨(bestD_range _ _ _).2, ?_⟩
      have := bestD_fit l (List.replicate D 0 ++ l) D
      rw [fitV_self] at this; exact this
    | succ m ih =>
      have f := fitV_later hl D (m + 1)
      rw [show D + (m + 1) = (D + m) + 1 by omega]
      simp only [bestD]
      rw [show (D : Int) + ((m + 1 : Nat) : Int) = ((D + m : Nat) : Int) + 1 by omega] at f
      rw [if_neg (by omega)]; exact ih
  by_cases h : n ≤ D
  · have := (bestD_range l (List.replicate D 0 ++ l) n).2; omega
  · have := (key (n - D)).1
    rw [show D + (n - D) = n by omega] at this; exact this
theorem sq_le {a b : Int} (h1 : -max b (-b) ≤ a) (h2 : a ≤ max b (-b)) : a * a ≤ b * b := by
  have m := mul_abs (a := a) (b := a) (A := max b (-b)) (B := max b (-b)) h1 h2 h1 h2
  have e : max b (-b) * max b (-b) = b * b := by
    rcases Int.le_total 0 b with h | h
    · rw [show max b (-b) = b by omega]
    · rw [show max b (-b) = -b by omega, Int.neg_mul_neg]
  omega
theorem sumSq_half {l h : List Int} (hh : ∀ i : Int, 0 ≤ i → i < l.length → rd h i = Int.tdiv (rd l i) 2) (n : Nat) : n ≤ l.length → sumSq h n ≤ sumSq l n := by
  induction n with
  | zero => intro _; exact Int.le_refl _
  | succ n ih =>
    intro hn
    have a := ih (by omega)
    have e := hh n (by omega) (by omega)
    have s : rd h n * rd h n ≤ rd l n * rd l n := by
      rw [e]
      refine sq_le ?_ ?_
      · rw [Int.tdiv_eq_ediv, show Int.sign 2 = 1 from rfl]; split <;> omega
      · rw [Int.tdiv_eq_ediv, show Int.sign 2 = 1 from rfl]; split <;> omega
    simp only [sumSq]; omega
theorem sumSq_zero {r : List Int} (h : ∀ i : Int, 0 ≤ i → i < r.length → rd r i = 0) (n : Nat) : n ≤ r.length → sumSq r n = 0 := by
  induction n with
  | zero => intro _; rfl
  | succ n ih => intro hn; simp only [sumSq]; rw [ih (by omega), h n (by omega) (by omega)]; rfl
theorem Late_l1 {l : List Int} (hl : l.length ≤ 150) {a n : Int} (hs : IsStill l a n) (d : Nat) : ∀ (k : Nat) (i : Int), a ≤ i → i ≤ a + n → a + n - i = d → d < k → psalterylaw31_MeterLate.l1 k l a n i = some true := by
  have hs' := hs
  obtain ⟨a0, n0, hz, hb, hm⟩ := hs
  have bound : a + n ≤ 300 := by
    by_cases h : n = 0
    · have : a = 0 := by
        apply Classical.byContradiction; intro hn
        exact hm 0 (by decide) (by omega) (by intro j x y; omega)
      omega
    · have := (hz (n - 1) (by omega) (by omega)).1; omega
  induction d with
  | zero =>
    intro k i i0 i1 hd hk
    obtain ⟨k, rfl⟩ : ∃ m, k = m + 1 := ⟨k - 1, by omega⟩
    simp only [psalterylaw31_MeterLate.l1]
    rw [w64 (a := a + n) (by omega) (by omega), if_neg (by omega), if_pos a0, decide_eq_true n0]
  | succ d ih =>
    intro k i i0 i1 hd hk
    obtain ⟨k, rfl⟩ : ∃ m, k = m + 1 := ⟨k - 1, by omega⟩
    have z := hz (i - a) (by omega) (by omega)
    rw [show a + (i - a) = i by omega] at z
    simp only [psalterylaw31_MeterLate.l1]
    rw [w64 (a := a + n) (by omega) (by omega), if_pos (by omega), if_neg (by omega), if_pos (by omega), if_pos z.1, if_pos z.2, w64 (by omega) (by omega)]
    exact ih k (i + 1) (by omega) (by omega) (by omega) (by omega)
theorem Late_j3 {l : List Int} (hl : l.length ≤ 150) {k : Nat} (hk : 400 ≤ k) : psalterylaw31_MeterLate.j3 k l false = some true := by
  obtain ⟨k, rfl⟩ : ∃ m, k = m + 1 := ⟨k - 1, by omega⟩
  simp only [psalterylaw31_MeterLate.j3, Bool.false_eq_true, if_false]
  obtain ⟨a, n, h1, h2⟩ := Still_eq (l := l) (by omega) (k := k) (by omega)
  rw [h1]; simp only [Option.bind_some]
  have n0 := h2.2.1
  have nb : n ≤ 150 := by
    by_cases h : n = 0
    · omega
    · have := (h2.2.2.1 (n - 1) (by omega) (by omega)).1; have := h2.1; omega
  exact Late_l1 hl h2 n.toNat k a (by omega) (by omega) (by omega) (by omega)
/-- The second half of the law: the halved list, and what is near. -/
theorem Late_l0 {l o : List Int} (hl : Sams l) (ho : Sams o) (hlen : l.length ≤ 150) (hlen2 : o.length ≤ 150) (d : Nat) : ∀ (k : Nat) (h : List Int) (i : Int), 0 ≤ i → i ≤ l.length → (l.length : Int) - i = d → d + 500 < k → h.length = l.length → Sams h → (∀ j : Int, 0 ≤ j → j < i → rd h j = Int.tdiv (rd l j) 2) →
    psalterylaw31_MeterLate.l0 k l o h i = some true := by
  induction d with
  | zero =>
    intro k h i i0 i1 hd hk hh sh hj
    obtain ⟨k, rfl⟩ : ∃ m, k = m + 1 := ⟨k - 1, by omega⟩
    have hi : i = (l.length : Int) := by omega
    have eh := energy_range sh (by omega)
    have el := energy_range hl (by omega)
    have le : energy h ≤ energy l := by
      unfold energy; rw [hh]; exact sumSq_half (fun j x y => hj j x (by omega)) l.length (Nat.le_refl _)
    have lv : levelV h ≤ levelV l := by
      unfold levelV
      rw [hh]
      have q := Int.ediv_le_ediv (show 0 < max (l.length : Int) 1 by omega) le
      have q0 : 0 ≤ energy h / max (l.length : Int) 1 := Int.ediv_nonneg eh.1 (by omega)
      exact logV_mono (by omega) (by omega)
    obtain ⟨r, h1, h2⟩ := Ratio_eq hl hl (.inl (by omega)) (k := k) (by omega) (.inl (by omega))
    obtain ⟨s, h3, h4⟩ := Ratio_eq hl ho (.inl (by omega)) (k := k) (by omega) (.inl (by omega))
    simp only [psalterylaw31_MeterLate.l0]
    rw [if_neg (by omega), Level_eq sh (by omega) (by omega) (by omega), Level_eq hl (by omega) (by omega) (by omega)]
    simp only [Option.bind_some]
    rw [if_neg (by omega), h1, h3]; simp only [Option.bind_some]
    by_cases g : ratioV l r < ratioV l s
    · rw [if_pos g]
      have : ¬ ((o.length : Int) ≥ (l.length : Int)) := by
        intro hge
        have a1 := h2.1
        have a2 := h4.1
        have z := sumSq_zero (r := r) (fun j x y => by rw [h2.2 j x y, Int.sub_self]; rfl) r.length (Nat.le_refl _)
        have er : energy r = 0 := z
        have es := energy_range h4.sams (by omega)
        have l0 := logV_range (n := energy s + 1) (by omega) (by omega)
        have l1 : logV 1 = 0 := by decide +kernel
        unfold ratioV at g
        rw [er, show r.length = s.length by omega, Int.zero_add, l1] at g
        omega
      rw [decide_eq_false this]; exact Late_j3 hlen (by omega)
    · rw [if_neg g]; exact Late_j3 hlen (by omega)
  | succ d ih =>
    intro k h i i0 i1 hd hk hh sh hj
    obtain ⟨k, rfl⟩ : ∃ m, k = m + 1 := ⟨k - 1, by omega⟩
    have v := hl.el i
    have tv : -32768 ≤ Int.tdiv (rd l i) 2 ∧ Int.tdiv (rd l i) 2 ≤ 32767 := by
      rw [Int.tdiv_eq_ediv, show Int.sign 2 = 1 from rfl]; split <;> omega
    simp only [psalterylaw31_MeterLate.l0]
    rw [if_pos (by omega), if_pos i0, if_pos (by omega), wi16 tv.1 tv.2, w64 (by omega) (by omega)]
    refine ih k _ (i + 1) (by omega) (by omega) (by omega) (by omega) (by rw [List.length_set]; exact hh) (fun x hx => ?_) fun j x y => ?_
    · rcases List.mem_or_eq_of_mem_set hx with h | h
      · exact sh x h
      · rw [h]; exact tv
    · rw [rd_set i0 (by omega) x]
      split
      · rename_i e; rw [e]
      · exact hj j x (by omega)
theorem Late_j1 {l o : List Int} (hl : Sams l) (ho : Sams o) (hlen : l.length ≤ 150) (hlen2 : o.length ≤ 150) {k : Nat} (hk : 700 ≤ k) : psalterylaw31_MeterLate.j1 k l o false = some true := by
  obtain ⟨k, rfl⟩ : ∃ m, k = m + 1 := ⟨k - 1, by omega⟩
  simp only [psalterylaw31_MeterLate.j1, Bool.false_eq_true, if_false]
  rw [if_pos (by omega), if_pos (by omega), Int.toNat_natCast]
  refine Late_l0 hl ho hlen hlen2 l.length k _ 0 (by decide) (by omega) (by omega) (by omega) (by simp) (fun x hx => ?_) (fun j x y => by omega)
  rw [List.eq_of_mem_replicate hx]; decide
theorem MeterLate : psalterylaw31_MeterLate.Pure := by
  intro l late more o _ _ hl h1 h2 _ _ ho
  have hl : Sams l := fun x hx => i16_of (hl x hx)
  have ho : Sams o := fun x hx => i16_of (ho x hx)
  have h1 := u8_of h1
  have h2 := u8_of h2
  refine ⟨5001, ?_⟩
  generalize hk : 5001 = k
  unfold psalterylaw31_MeterLate.f
  rw [alive_eq (by omega)]; simp only [Option.bind_some, if_true]
  obtain ⟨k, rfl⟩ : ∃ m, k = m + 1 := ⟨k - 1, by omega⟩
  simp only [psalterylaw31_MeterLate.j0, if_true]
  by_cases c1 : (l.length : Int) > 150
  · rw [if_pos c1]
  · rw [if_neg c1]
    by_cases c2 : (o.length : Int) > 150
    · rw [decide_eq_true c2, if_pos rfl]
    · rw [decide_eq_false c2, if_neg Bool.false_ne_true, w64 (a := late) (by omega) (by omega), w64 (a := more) (by omega) (by omega), Int.tmod_eq_emod_of_nonneg h1.1, Int.tmod_eq_emod_of_nonneg h2.1]
      obtain ⟨D, hD⟩ : ∃ D : Nat, late % 40 = D := ⟨(late % 40).toNat, by omega⟩
      have hD40 : D < 40 := by omega
      rw [hD, if_pos (by omega), if_pos (by omega), Int.toNat_natCast]; simp only [Option.bind_some]
      rw [List.length_replicate, if_pos (by omega), w64 (by omega) (by omega)]
      have sb : Sams (List.replicate D 0 ++ l) := fun x hx => by
        rcases List.mem_append.1 hx with h | h
        · rw [List.eq_of_mem_replicate h]; decide
        · exact hl x h
      have lb : (List.replicate D (0 : Int) ++ l).length = D + l.length := by rw [List.length_append, List.length_replicate]
      rw [Delay_eq hl sb (.inl (by omega)) (fun _ _ => by omega), if_neg (by omega), if_neg (by omega)]
      simp only [Option.bind_some, if_true]
      have bl := bestD_late hl D ((D : Int) + more % 40).toNat
      have br := bestD_range l (List.replicate D 0 ++ l) ((D : Int) + more % 40).toNat
      rw [if_neg (by omega), decide_eq_false (by omega)]
      exact Late_j1 hl ho (by omega) (by omega) (by omega)

end Go.Proofs.Ytfipchhpnnjkeaa.Pure
