/- Where it is still, and what is cut; the chapter's examples. -/
import Derived.Test.YtfipchhpnnjkeaaMeterLib
namespace Go.Proofs.Ytfipchhpnnjkeaa.MeterStill
open Go.RowKit Go.Proofs.Ytfipchhpnnjkeaa.PMeter Go.Proofs.Ytfipchhpnnjkeaa.Num Go.Proofs.Ytfipchhpnnjkeaa.MeterLib Go.Proofs.YtfipchhpnnjkeaaW.PrintWords Go.Proofs.YtfipchhpnnjkeaaW.PrintLast Go.Proofs.YtfipchhpnnjkeaaW.PrintMore
set_option linter.unusedVariables false

theorem alive_300 : psalterylaw31_alive.f 300 = some true := by decide +kernel
theorem alive_eq {k : Nat} (hk : 300 ≤ k) : psalterylaw31_alive.f k = some true := at_rounds (fun k => psalterylaw31_alive.mono k) hk alive_300

/-- m zeros from i on. -/
def Zeros (l : List Int) (i m : Int) : Prop := ∀ j : Int, 0 ≤ j → j < m → i + j < l.length ∧ rd l (i + j) = 0
/-- The longest run of zeros, the first of the longest. -/
def IsStill (l : List Int) (a n : Int) : Prop := 0 ≤ a ∧ 0 ≤ n ∧ Zeros l a n ∧ (∀ i m : Int, 0 ≤ i → Zeros l i m → m ≤ n) ∧ ∀ i : Int, 0 ≤ i → i < a → ¬ Zeros l i n
theorem IsStill.unique {l : List Int} {a n b m : Int} (h : IsStill l a n) (g : IsStill l b m) : a = b ∧ n = m := by
  obtain ⟨h0, h1, h2, h3, h4⟩ := h
  obtain ⟨g0, g1, g2, g3, g4⟩ := g
  have e : n = m := by have := h3 b m g0 g2; have := g3 a n h0 h2; omega
  subst e
  refine ⟨?_, rfl⟩
  rcases Int.lt_trichotomy a b with hlt | rfl | hlt
  · exact absurd h2 (g4 a h0 hlt)
  · rfl
  · exact absurd g2 (h4 b g0 hlt)
/-- Zeros of a run that ends at e at most. -/
def ZeroIn (l : List Int) (e : Int) (i m : Int) : Prop := i + m ≤ e ∧ ∀ j : Int, 0 ≤ j → j < m → rd l (i + j) = 0
theorem Still_l0 {l : List Int} (hl : l.length ≤ 5000) (d : Nat) : ∀ (k : Nat) (a n run i : Int), 0 ≤ i → i ≤ l.length → (l.length : Int) - i = d → d < k →
    0 ≤ run → run ≤ n → ZeroIn l i (i - run) run → 0 ≤ i - run → (∀ s : Int, 0 ≤ s → s ≤ i → ZeroIn l i s (i - s) → i - s ≤ run) →
    0 ≤ a → ZeroIn l i a n → (∀ s m : Int, 0 ≤ s → ZeroIn l i s m → m ≤ n) → (∀ s : Int, 0 ≤ s → s < a → ¬ ZeroIn l i s n) →
    ∃ b m, meter_Still.l0 k a n run l (l.length : Int) i = some (b, m) ∧ IsStill l b m := by
  induction d with
  | zero =>
    intro k a n run i i0 i1 hd hk r0 rn hr hr0 hmax a0 ha hbest hmin
    obtain ⟨k, rfl⟩ : ∃ m, k = m + 1 := ⟨k - 1, by omega⟩
    simp only [meter_Still.l0]
    rw [if_neg (by omega)]
    obtain rfl : i = (l.length : Int) := by omega
    have conv : ∀ s m : Int, 0 ≤ s → Zeros l s m → 0 ≤ m → ZeroIn l l.length s m ∨ m = 0 := by
      intro s m s0 hz m0
      by_cases h : m = 0
      · exact .inr h
      · have := (hz (m - 1) (by omega) (by omega)).1
        exact .inl ⟨by omega, fun j x y => (hz j x y).2⟩
    refine ⟨a, n, rfl, a0, by omega, fun j x y => ⟨by have := ha.1; omega, ha.2 j x y⟩, fun s m s0 hz => ?_, fun s s0 hs hz => ?_⟩
    · by_cases m0 : 0 ≤ m
      · rcases conv s m s0 hz m0 with h | h
        · exact hbest s m s0 h
        · omega
      · omega
    · rcases conv s n s0 hz (by omega) with h | h
      · exact hmin s s0 hs h
      · subst h
        exact hmin s s0 hs ⟨by have := ha.1; omega, fun j x y => by omega⟩
  | succ d ih =>
    intro k a n run i i0 i1 hd hk r0 rn hr hr0 hmax a0 ha hbest hmin
    obtain ⟨k, rfl⟩ : ∃ m, k = m + 1 := ⟨k - 1, by omega⟩
    have up : ∀ s m : Int, ZeroIn l i s m → ZeroIn l (i + 1) s m := fun s m h => ⟨by have := h.1; omega, h.2⟩
    simp only [meter_Still.l0]
    rw [if_pos (by omega), if_pos i0, if_pos (by omega), w64 (a := i + 1) (by omega) (by omega)]
    by_cases z : rd l i = 0
    · rw [if_pos z, w64 (a := run + 1) (by omega) (by omega)]
      have down : ∀ s m : Int, ZeroIn l (i + 1) s m → s + m = i + 1 → 0 ≤ s → 0 < m → i - s ≤ run := fun s m h e s0 m0 => hmax s s0 (by omega) ⟨by omega, fun j x y => h.2 j x (by omega)⟩
      have hr' : ZeroIn l (i + 1) (i + 1 - (run + 1)) (run + 1) := ⟨by omega, fun j x y => by
        by_cases e : j = run
        · rw [show i + 1 - (run + 1) + j = i by omega]; exact z
        · rw [show i + 1 - (run + 1) + j = i - run + j by omega]; exact hr.2 j x (by omega)⟩
      have hmax' : ∀ s : Int, 0 ≤ s → s ≤ i + 1 → ZeroIn l (i + 1) s (i + 1 - s) → i + 1 - s ≤ run + 1 := fun s s0 s1 h => by
        by_cases e : s = i + 1
        · omega
        · have := down s (i + 1 - s) h (by omega) s0 (by omega); omega
      by_cases g : run + 1 > n
      · rw [if_pos g, w64 (by omega) (by omega)]
        refine ih k _ _ _ (i + 1) (by omega) (by omega) (by omega) (by omega) (by omega) (by omega) hr' (by omega) hmax' (by omega) hr' (fun s m s0 h => ?_) (fun s s0 hs h => ?_)
        · by_cases e : s + m ≤ i
          · have := hbest s m s0 ⟨e, h.2⟩; omega
          · by_cases m0 : 0 < m
            · have := down s m h (by have := h.1; omega) s0 m0; have := h.1; omega
            · omega
        · have := hbest s (run + 1) s0 ⟨by omega, h.2⟩; omega
      · rw [if_neg g]
        refine ih k _ _ _ (i + 1) (by omega) (by omega) (by omega) (by omega) (by omega) (by omega) hr' (by omega) hmax' a0 (up _ _ ha) (fun s m s0 h => ?_) (fun s s0 hs h => ?_)
        · by_cases e : s + m ≤ i
          · exact hbest s m s0 ⟨e, h.2⟩
          · by_cases m0 : 0 < m
            · have := down s m h (by have := h.1; omega) s0 m0; have := h.1; omega
            · omega
        · exact hmin s s0 hs ⟨by have := ha.1; omega, h.2⟩
    · rw [if_neg z]
      have ends : ∀ s m : Int, ZeroIn l (i + 1) s m → 0 ≤ s → 0 < m → s + m ≤ i := fun s m h s0 m0 => by
        apply Classical.byContradiction; intro hn
        have := h.2 (i - s) (by have := h.1; omega) (by omega)
        rw [show s + (i - s) = i by omega] at this; exact z this
      refine ih k _ _ _ (i + 1) (by omega) (by omega) (by omega) (by omega) (by omega) (by omega) ⟨by omega, fun j x y => by omega⟩ (by omega) (fun s s0 s1 h => ?_) a0 (up _ _ ha) (fun s m s0 h => ?_) (fun s s0 hs h => ?_)
      · by_cases e : s = i + 1
        · omega
        · have := ends s _ h s0 (by omega); omega
      · by_cases m0 : 0 < m
        · exact hbest s m s0 ⟨ends s m h s0 m0, h.2⟩
        · omega
      · exact hmin s s0 hs ⟨by have := ha.1; omega, h.2⟩
theorem Still_eq {l : List Int} (hl : l.length ≤ 5000) {k : Nat} (hk : l.length < k) : ∃ b m, meter_Still.f k l = some (b, m) ∧ IsStill l b m := by
  unfold meter_Still.f
  refine Still_l0 hl l.length k 0 0 0 0 (by decide) (by omega) (by omega) hk (by decide) (by decide) ⟨by decide, fun j x y => by omega⟩ (by decide) (fun s x y h => by omega) (by decide) ⟨by decide, fun j x y => by omega⟩ (fun s m s0 h => ?_) (fun s x y h => by omega)
  have := h.1; omega
/-! the reference -/
theorem Run_l0 {l : List Int} (hl : l.length ≤ 5000) {i : Int} (i0 : 0 ≤ i) (i1 : i ≤ l.length) (d : Nat) : ∀ (k : Nat) (n : Int), 0 ≤ n → i + n ≤ l.length → (l.length : Int) - i - n = d → d < k → Zeros l i n →
    ∃ m, psalteryref31_Run.l0 k l i n = some m ∧ 0 ≤ m ∧ i + m ≤ l.length ∧ Zeros l i m ∧ ∀ j, Zeros l i j → j ≤ m := by
  induction d with
  | zero =>
    intro k n n0 n1 hd hk hz
    obtain ⟨k, rfl⟩ : ∃ m, k = m + 1 := ⟨k - 1, by omega⟩
    simp only [psalteryref31_Run.l0]
    rw [w64 (a := i + n) (by omega) (by omega), if_neg (by omega)]
    refine ⟨n, rfl, n0, n1, hz, fun j hj => ?_⟩
    apply Classical.byContradiction; intro hn
    have := (hj n n0 (by omega)).1; omega
  | succ d ih =>
    intro k n n0 n1 hd hk hz
    obtain ⟨k, rfl⟩ : ∃ m, k = m + 1 := ⟨k - 1, by omega⟩
    simp only [psalteryref31_Run.l0]
    rw [w64 (a := i + n) (by omega) (by omega), if_pos (by omega), if_pos (by omega)]
    by_cases z : rd l (i + n) = 0
    · rw [if_pos z, w64 (a := n + 1) (by omega) (by omega)]
      refine ih k (n + 1) (by omega) (by omega) (by omega) (by omega) fun j x y => ?_
      by_cases e : j = n
      · rw [e]; exact ⟨by omega, z⟩
      · exact hz j x (by omega)
    · rw [if_neg z]
      refine ⟨n, rfl, n0, n1, hz, fun j hj => ?_⟩
      apply Classical.byContradiction; intro hn
      exact z (hj n n0 (by omega)).2
theorem Run_eq {l : List Int} (hl : l.length ≤ 5000) {i : Int} (i0 : 0 ≤ i) (i1 : i ≤ l.length) {k : Nat} (hk : l.length < k) : ∃ m, psalteryref31_Run.f k l i = some m ∧ 0 ≤ m ∧ i + m ≤ l.length ∧ Zeros l i m ∧ ∀ j, Zeros l i j → j ≤ m := by
  unfold psalteryref31_Run.f
  exact Run_l0 hl i0 i1 ((l.length : Int) - i).toNat k 0 (by decide) (by omega) (by omega) (by omega) (fun j x y => by omega)
theorem rStill_l0 {l : List Int} (hl : l.length ≤ 5000) (d : Nat) : ∀ (k : Nat) (a n i : Int), 0 ≤ i → i ≤ l.length → (l.length : Int) - i = d → d + l.length + 1 < k →
    0 ≤ a → 0 ≤ n → Zeros l a n → (∀ s m : Int, 0 ≤ s → s < i → Zeros l s m → m ≤ n) → (∀ s : Int, 0 ≤ s → s < a → ¬ Zeros l s n) →
    ∃ b m, psalteryref31_Still.l0 k l a n i = some (b, m) ∧ IsStill l b m := by
  induction d with
  | zero =>
    intro k a n i i0 i1 hd hk a0 n0 ha hbest hmin
    obtain ⟨k, rfl⟩ : ∃ m, k = m + 1 := ⟨k - 1, by omega⟩
    simp only [psalteryref31_Still.l0]
    rw [if_neg (by omega)]
    refine ⟨a, n, rfl, a0, n0, ha, fun s m s0 hz => ?_, hmin⟩
    by_cases h : s < i
    · exact hbest s m s0 h hz
    · apply Classical.byContradiction; intro hn
      have := (hz 0 (by decide) (by omega)).1; omega
  | succ d ih =>
    intro k a n i i0 i1 hd hk a0 n0 ha hbest hmin
    obtain ⟨k, rfl⟩ : ∃ m, k = m + 1 := ⟨k - 1, by omega⟩
    obtain ⟨m, hm, m0, m1, hz, hmax⟩ := Run_eq hl i0 i1 (k := k) (by omega)
    simp only [psalteryref31_Still.l0]
    rw [if_pos (by omega), hm]; simp only [Option.bind_some]
    rw [w64 (a := i + 1) (by omega) (by omega)]
    by_cases g : m > n
    · rw [if_pos g]
      refine ih k i m (i + 1) (by omega) (by omega) (by omega) (by omega) i0 m0 hz (fun s j s0 hs h => ?_) (fun s s0 hs h => ?_)
      · by_cases e : s = i
        · rw [e] at h; exact hmax j h
        · have := hbest s j s0 (by omega) h; omega
      · have := hbest s m s0 hs h; omega
    · rw [if_neg g]
      refine ih k a n (i + 1) (by omega) (by omega) (by omega) (by omega) a0 n0 ha (fun s j s0 hs h => ?_) hmin
      by_cases e : s = i
      · rw [e] at h; have := hmax j h; omega
      · exact hbest s j s0 (by omega) h
theorem rStill_eq {l : List Int} (hl : l.length ≤ 5000) {k : Nat} (hk : 2 * l.length + 2 ≤ k) : ∃ b m, psalteryref31_Still.f k l = some (b, m) ∧ IsStill l b m := by
  unfold psalteryref31_Still.f
  exact rStill_l0 hl l.length k 0 0 0 (by decide) (by omega) (by omega) (by omega) (by decide) (by decide) (fun j x y => by omega) (fun s m x y h => by omega) (fun s x y h => by omega)

/-! what is cut -/
def cutN (l : List Int) : Nat → Int
  | 0 => 0
  | n + 1 => if rd l n = 32767 ∨ rd l n = -32768 then cutN l n + 1 else cutN l n
theorem cutN_range (l : List Int) (n : Nat) : 0 ≤ cutN l n ∧ cutN l n ≤ n := by
  induction n with
  | zero => simp [cutN]
  | succ n ih => simp only [cutN]; split <;> omega
theorem Clipped_l0 {l : List Int} (hl : l.length ≤ 5000) (d : Nat) : ∀ (k : Nat) (i : Nat), i ≤ l.length → l.length - i = d → d < k → meter_Clipped.l0 k (cutN l i) l (l.length : Int) (i : Int) = some (cutN l l.length) := by
  induction d with
  | zero =>
    intro k i i1 hd hk
    obtain ⟨k, rfl⟩ : ∃ m, k = m + 1 := ⟨k - 1, by omega⟩
    simp only [meter_Clipped.l0]
    rw [if_neg (by omega)]
    obtain rfl : i = l.length := by omega
    rfl
  | succ d ih =>
    intro k i i1 hd hk
    obtain ⟨k, rfl⟩ : ∃ m, k = m + 1 := ⟨k - 1, by omega⟩
    have next := ih k (i + 1) (by omega) (by omega) (by omega)
    have c := cutN_range l i
    simp only [cutN] at next
    simp only [meter_Clipped.l0]
    rw [if_pos (by omega), if_pos (by omega), if_pos (by omega), w64 (a := (i : Int) + 1) (by omega) (by omega), w64 (a := cutN l i + 1) (by omega) (by omega)]
    rw [show (((i + 1 : Nat)) : Int) = (i : Int) + 1 by omega] at next
    by_cases g1 : rd l i = 32767
    · rw [if_pos g1]; rw [if_pos (.inl g1)] at next; exact next
    · rw [if_neg g1]
      by_cases g2 : rd l i = -32768
      · rw [if_pos g2]; rw [if_pos (.inr g2)] at next; exact next
      · rw [if_neg g2]; rw [if_neg (by omega)] at next; exact next
theorem Clipped_eq {l : List Int} (hl : l.length ≤ 5000) {k : Nat} (hk : l.length < k) : meter_Clipped.f k l = some (cutN l l.length) := by
  unfold meter_Clipped.f
  exact Clipped_l0 hl l.length k 0 (by omega) (by omega) hk
theorem Same_l0 {a : List Int} (hl : a.length ≤ 5000) (d : Nat) : ∀ (k : Nat) (i : Int), 0 ≤ i → i ≤ a.length → (a.length : Int) - i = d → d < k → psalteryref04_Same.l0 k a a i = some true := by
  induction d with
  | zero =>
    intro k i i0 i1 hd hk
    obtain ⟨k, rfl⟩ : ∃ m, k = m + 1 := ⟨k - 1, by omega⟩
    simp only [psalteryref04_Same.l0]
    rw [if_neg (by omega)]
  | succ d ih =>
    intro k i i0 i1 hd hk
    obtain ⟨k, rfl⟩ : ∃ m, k = m + 1 := ⟨k - 1, by omega⟩
    simp only [psalteryref04_Same.l0]
    rw [if_pos (by omega), if_pos i0, if_pos (by omega), if_true, w64 (by omega) (by omega)]
    exact ih k (i + 1) (by omega) (by omega) (by omega) (by omega)
theorem Same_eq {a : List Int} (hl : a.length ≤ 5000) {k : Nat} (hk : a.length < k) : psalteryref04_Same.f k a a = some true := by
  unfold psalteryref04_Same.f
  rw [if_pos rfl]
  exact Same_l0 hl a.length k 0 (by decide) (by omega) (by omega) hk
end Go.Proofs.Ytfipchhpnnjkeaa.MeterStill
