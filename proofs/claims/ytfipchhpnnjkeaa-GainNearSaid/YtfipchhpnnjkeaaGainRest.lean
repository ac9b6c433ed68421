/- What is restored of steps: gain.Restore beside psalteryref19.Restore; what is left in single bits. -/
import Derived.Test.YtfipchhpnnjkeaaGainLib
namespace Go.Proofs.Ytfipchhpnnjkeaa.GainRest
open Go.RowKit Go.Proofs.Ytfipchhpnnjkeaa.PGain Go.Proofs.Ytfipchhpnnjkeaa.Num Go.Proofs.Ytfipchhpnnjkeaa.FixBaseGain Go.Proofs.Ytfipchhpnnjkeaa.LogsBaseGain Go.Proofs.Ytfipchhpnnjkeaa.RefLogsGain Go.Proofs.Ytfipchhpnnjkeaa.GainLib Go.Proofs.YtfipchhpnnjkeaaW.PrintWords Go.Proofs.YtfipchhpnnjkeaaW.PrintLast Go.Proofs.YtfipchhpnnjkeaaW.PrintMore
set_option linter.unusedSimpArgs false
set_option linter.unusedVariables false

theorem u16_wrap (a : Int) : IntKind.u16.wrap a = a % 65536 := IntKind.wrap_u16 a
/-- Are all steps small, from an index on? -/
def Small (q : List Int) (i : Int) : Prop := ∀ j : Int, i ≤ j → j < q.length → -32767 ≤ rd q j ∧ rd q j ≤ 32767
theorem Small.next {q : List Int} {i : Int} (h : Small q (i + 1)) (v : -32767 ≤ rd q i ∧ rd q i ≤ 32767) : Small q i := fun j a b => by
  by_cases e : j = i
  · rw [e]; exact v
  · exact h j (by omega) b
theorem may_l0 {q : List Int} (hl : q.length ≤ 120) {s : Int} (hs : -9223372036854775808 ≤ s) (hs2 : s ≤ 9223372036854775807) (d : Nat) : ∀ (k : Nat) (i : Int), 0 ≤ i → i ≤ q.length → (q.length : Int) - i = d → d < k →
    (Small q i ∧ gain_may.l0 k s q (q.length : Int) i = some (s, 0) ∧ psalteryref19_May.l0 k q i = some 0) ∨ (¬ Small q i ∧ gain_may.l0 k s q (q.length : Int) i = some (0, 1) ∧ psalteryref19_May.l0 k q i = some 1) := by
  induction d with
  | zero =>
    intro k i i0 i1 hd hk
    obtain ⟨k, rfl⟩ : ∃ m, k = m + 1 := ⟨k - 1, by omega⟩
    simp only [gain_may.l0, psalteryref19_May.l0]
    rw [if_neg (by omega), if_neg (by omega), w64 hs hs2]
    exact .inl ⟨fun j a b => by omega, rfl, rfl⟩
  | succ d ih =>
    intro k i i0 i1 hd hk
    obtain ⟨k, rfl⟩ : ∃ m, k = m + 1 := ⟨k - 1, by omega⟩
    simp only [gain_may.l0, psalteryref19_May.l0]
    rw [if_pos (show i < (q.length : Int) by omega), if_pos i0, if_pos (show i < (q.length : Int) by omega), if_pos (show i < (q.length : Int) by omega), if_pos i0]
    by_cases c1 : rd q i < -32767
    · rw [if_pos c1, if_neg (by omega), if_pos c1]
      exact .inr ⟨fun h => by have := h i (by omega) (by omega); omega, rfl, rfl⟩
    · rw [if_neg c1]
      by_cases c2 : rd q i > 32767
      · rw [if_pos c2, if_pos c2]
        exact .inr ⟨fun h => by have := h i (by omega) (by omega); omega, rfl, rfl⟩
      · rw [if_neg c2, if_neg c2, if_neg c1, w64 (by omega) (by omega)]
        rcases ih k (i + 1) (by omega) (by omega) (by omega) (by omega) with ⟨a, b, c⟩ | ⟨a, b, c⟩
        · exact .inl ⟨a.next (by omega), b, c⟩
        · exact .inr ⟨fun h => a fun j x y => h j (by omega) y, b, c⟩
/-- May these be restored, or the error: both say so alike. -/
theorem may_eq (n : Int) (q : List Int) (g : Int) {k : Nat} (hk : 130 ≤ k) :
    (n ≤ 120 ∧ q.length ≤ 120 ∧ (0 ≤ g ∧ g ≤ 240) ∧ n = q.length ∧ Small q 0 ∧ gain_may.f k n q g = some (expV (32 * g), 0) ∧ psalteryref19_May.f k n q g = some 0) ∨
    (¬ (n ≤ 120 ∧ q.length ≤ 120 ∧ (0 ≤ g ∧ g ≤ 240) ∧ n = q.length ∧ Small q 0) ∧ ∃ e, e ≠ 0 ∧ gain_may.f k n q g = some (0, e) ∧ psalteryref19_May.f k n q g = some e) := by
  obtain ⟨k, rfl⟩ : ∃ m, k = m + 1 := ⟨k - 1, by omega⟩
  have big : ∀ b, b = true → gain_may.j0 (k + 1) n q g b = some (0, 2) ∧ psalteryref19_May.j0 (k + 1) n q g b = some 2 := fun b e => by
    subst e; simp only [gain_may.j0, psalteryref19_May.j0, if_true]; exact ⟨trivial, trivial⟩
  unfold gain_may.f psalteryref19_May.f
  by_cases c1 : n > 120
  · rw [if_pos c1, if_pos c1, (big _ rfl).1, (big _ rfl).2]; exact .inr ⟨fun h => by omega, 2, by decide, rfl, rfl⟩
  · rw [if_neg c1, if_neg c1]
    by_cases c2 : (q.length : Int) > 120
    · rw [(big _ (decide_eq_true c2)).1, (big _ (decide_eq_true c2)).2]; exact .inr ⟨fun h => by omega, 2, by decide, rfl, rfl⟩
    · rw [decide_eq_false c2]
      simp only [gain_may.j0, psalteryref19_May.j0, Bool.false_eq_true, if_false]
      rw [Step_eq g (by omega), rStep_eq g (by omega)]; simp only [Option.bind_some]
      unfold stepV
      obtain ⟨k, rfl⟩ : ∃ m, k = m + 1 := ⟨k - 1, by omega⟩
      by_cases hg : 0 ≤ g ∧ g ≤ 240
      · have r := step_range hg.1 hg.2
        rw [if_pos hg, if_pos hg]; simp only [if_true]
        rw [if_neg (by omega)]
        by_cases c3 : n = q.length
        · rw [show (n != (q.length : Int)) = false by simp [c3]]
          simp only [gain_may.j1, psalteryref19_May.j1, Bool.false_eq_true, if_false]
          rcases may_l0 (q := q) (by omega) (s := expV (32 * g)) (by omega) (by omega) q.length k 0 (by decide) (by omega) (by omega) (by omega) with ⟨a, b, c⟩ | ⟨a, b, c⟩
          · rw [b, c]; exact .inl ⟨by omega, by omega, hg, c3, a, rfl, rfl⟩
          · rw [b, c]; exact .inr ⟨fun h => a h.2.2.2.2, 1, by decide, rfl, rfl⟩
        · rw [show (n != (q.length : Int)) = true by simp [c3]]
          simp only [gain_may.j1, psalteryref19_May.j1, if_true]
          exact .inr ⟨fun h => c3 h.2.2.2.1, 1, by decide, rfl, rfl⟩
      · rw [if_neg hg, if_neg hg, if_neg (by decide), if_pos rfl]
        simp only [gain_may.j1, psalteryref19_May.j1, if_true]
        exact .inr ⟨fun h => hg h.2.2.1, 1, by decide, rfl, rfl⟩
/-- How many aren't 0, from an index on. -/
def nz (q : List Int) : Nat → Int → Int
  | 0, _ => 0
  | d + 1, i => (if rd q i = 0 then 0 else 1) + nz q d (i + 1)
theorem nz_range (q : List Int) (d : Nat) : ∀ i, 0 ≤ nz q d i ∧ nz q d i ≤ d := by
  induction d with
  | zero => intro i; exact ⟨Int.le_refl _, Int.le_refl _⟩
  | succ d ih => intro i; have := ih (i + 1); unfold nz; split <;> omega
theorem count_eq {q rests : List Int} (hl : q.length ≤ 120) {noise lines : Int} (d : Nat) : ∀ (k : Nat) (i c : Int), 0 ≤ i → i ≤ q.length → (q.length : Int) - i = d → 0 ≤ c → c ≤ i →
    gain_restorable.l0 (k + d + 1) q rests noise lines c q (q.length : Int) i = gain_restorable.l1 k q rests noise lines (c + nz q d i) rests (rests.length : Int) 0 ∧ psalteryref19_Nonzero.l0 (k + d + 1) q c i = some (c + nz q d i) := by
  induction d with
  | zero =>
    intro k i c i0 i1 hd c0 c1
    simp only [Nat.add_zero, gain_restorable.l0, psalteryref19_Nonzero.l0, nz, Int.add_zero]
    rw [if_neg (by omega), if_neg (by omega)]; exact ⟨rfl, rfl⟩
  | succ d ih =>
    intro k i c i0 i1 hd c0 c1
    rw [show k + (d + 1) + 1 = (k + d + 1) + 1 by omega]
    have ih := ih k
    generalize k + d + 1 = m_ at ih ⊢
    simp only [gain_restorable.l0, psalteryref19_Nonzero.l0, nz]
    rw [if_pos (show i < (q.length : Int) by omega), if_pos i0, if_pos (show i < (q.length : Int) by omega), if_pos (show i < (q.length : Int) by omega), if_pos i0, w64 (a := i + 1) (by omega) (by omega), w64 (a := c + 1) (by omega) (by omega)]
    by_cases e : rd q i = 0
    · rw [if_pos e, if_pos e, if_pos e, Int.zero_add]; exact ih (i + 1) c (by omega) (by omega) (by omega) c0 (by omega)
    · rw [if_neg e, if_neg e, if_neg e, ← Int.add_assoc]; exact ih (i + 1) (c + 1) (by omega) (by omega) (by omega) (by omega) (by omega)
/-- Are all bits, from an index on? -/
def Bits (r : List Int) (i : Int) : Prop := ∀ j : Int, i ≤ j → j < r.length → rd r j = 0 ∨ rd r j = 1
theorem Bits.next {q : List Int} {i : Int} (h : Bits q (i + 1)) (v : rd q i = 0 ∨ rd q i = 1) : Bits q i := fun j a b => by
  by_cases e : j = i
  · rw [e]; exact v
  · exact h j (by omega) b
theorem bits_eq {q rests : List Int} (hl : rests.length ≤ 300) {noise lines c : Int} (d : Nat) : ∀ (k : Nat) (i : Int), 0 ≤ i → i ≤ rests.length → (rests.length : Int) - i = d → d < k →
    (Bits rests i ∧ gain_restorable.l1 k q rests noise lines c rests (rests.length : Int) i = some (decide ((rests.length : Int) ≤ c ∧ 0 ≤ noise ∧ noise ≤ 7 ∧ 0 ≤ lines ∧ lines ≤ q.length))) ∨ (¬ Bits rests i ∧ gain_restorable.l1 k q rests noise lines c rests (rests.length : Int) i = some false) := by
  induction d with
  | zero =>
    intro k i i0 i1 hd hk
    obtain ⟨k, rfl⟩ : ∃ m, k = m + 1 := ⟨k - 1, by omega⟩
    simp only [gain_restorable.l1]
    rw [if_neg (by omega)]
    refine .inl ⟨fun j a b => by omega, ?_⟩
    by_cases c1 : (rests.length : Int) ≤ c
    · rw [if_pos c1]
      by_cases c2 : noise ≥ 0
      · rw [if_pos c2]
        by_cases c3 : noise ≤ 7
        · rw [if_pos c3]
          by_cases c4 : lines ≥ 0
          · rw [if_pos c4]; congr 1; simp [c1, c2, c3, c4]
          · rw [if_neg c4]; congr 1; exact (decide_eq_false (by omega)).symm
        · rw [if_neg c3]; congr 1; exact (decide_eq_false (by omega)).symm
      · rw [if_neg c2]; congr 1; exact (decide_eq_false (by omega)).symm
    · rw [if_neg c1]; congr 1; exact (decide_eq_false (by omega)).symm
  | succ d ih =>
    intro k i i0 i1 hd hk
    obtain ⟨k, rfl⟩ : ∃ m, k = m + 1 := ⟨k - 1, by omega⟩
    simp only [gain_restorable.l1]
    rw [if_pos (by omega), if_pos i0, if_pos (by omega), w64 (a := i + 1) (by omega) (by omega)]
    have n := ih k (i + 1) (by omega) (by omega) (by omega) (by omega)
    by_cases c1 : rd rests i = 0
    · rw [if_pos c1]
      rcases n with ⟨a, b⟩ | ⟨a, b⟩
      · exact .inl ⟨a.next (.inl c1), b⟩
      · exact .inr ⟨fun h => a fun j x y => h j (by omega) y, b⟩
    · rw [if_neg c1]
      by_cases c2 : rd rests i = 1
      · rw [if_pos c2]
        rcases n with ⟨a, b⟩ | ⟨a, b⟩
        · exact .inl ⟨a.next (.inr c2), b⟩
        · exact .inr ⟨fun h => a fun j x y => h j (by omega) y, b⟩
      · rw [if_neg c2]
        exact .inr ⟨fun h => by have := h i (by omega) (by omega); omega, rfl⟩
theorem rbits_eq {q rests : List Int} (hl : rests.length ≤ 300) {g noise lines dice : Int} (d : Nat) : ∀ (k : Nat) (i : Int), 0 ≤ i → i ≤ rests.length → (rests.length : Int) - i = d →
    (Bits rests i ∧ psalteryref19_Restore.l0 (k + d + 1) q g rests noise lines dice i = psalteryref19_Restore.l1 k q g rests noise lines dice 0) ∨ (¬ Bits rests i ∧ psalteryref19_Restore.l0 (k + d + 1) q g rests noise lines dice i = some ([], 1)) := by
  induction d with
  | zero =>
    intro k i i0 i1 hd
    simp only [Nat.add_zero, psalteryref19_Restore.l0]
    rw [if_neg (by omega)]
    exact .inl ⟨fun j a b => by omega, rfl⟩
  | succ d ih =>
    intro k i i0 i1 hd
    rw [show k + (d + 1) + 1 = (k + d + 1) + 1 by omega]
    have ih := ih k
    generalize k + d + 1 = m_ at ih ⊢
    simp only [psalteryref19_Restore.l0]
    rw [if_pos (by omega), if_pos i0, w64 (a := i + 1) (by omega) (by omega)]
    have n := ih (i + 1) (by omega) (by omega) (by omega)
    by_cases c1 : rd rests i = 0
    · rw [if_pos c1]
      rcases n with ⟨a, b⟩ | ⟨a, b⟩
      · exact .inl ⟨a.next (.inl c1), b⟩
      · exact .inr ⟨fun h => a fun j x y => h j (by omega) y, b⟩
    · rw [if_neg c1]
      by_cases c2 : rd rests i = 1
      · rw [if_pos c2]
        rcases n with ⟨a, b⟩ | ⟨a, b⟩
        · exact .inl ⟨a.next (.inr c2), b⟩
        · exact .inr ⟨fun h => a fun j x y => h j (by omega) y, b⟩
      · rw [if_neg c2]
        exact .inr ⟨fun h => by have := h i (by omega) (by omega); omega, rfl⟩
theorem size_eq {v : Int} (h1 : -32767 ≤ v) (h2 : v ≤ 32767) : gain_size_int.f v = some (max v (-v)) := by
  unfold gain_size_int.f mx
  rw [w64 (by omega) (by omega)]
  split <;> exact congrArg some (by omega)
theorem rsize_eq {v : Int} (h1 : -32767 ≤ v) (h2 : v ≤ 32767) : psalteryref19_abs.f v = some (max v (-v)) := rabs_eq (by omega) (by omega)
/-- The dice that both begin with. -/
theorem dice_eq {q rests : List Int} (hl : q.length ≤ 120) (hq : Small q 0) {g noise lines s : Int} (hg : stepV g = s) (d : Nat) : ∀ (k k' : Nat) (i acc : Int), 50 ≤ k' → 0 ≤ i → i ≤ q.length → (q.length : Int) - i = d → 0 ≤ acc → acc ≤ 32767 * i → ∃ D, 0 ≤ D ∧ D < 65536 ∧
    gain_Restore.l0 (k + d + 1) q rests noise lines s q (q.length : Int) i (acc % 65536) = gain_Restore.l1 k rests noise lines s (List.replicate q.length 0) q (q.length : Int) 0 D ∧
    psalteryref19_Restore.l1 (k' + d + 1) q g rests noise lines acc i = psalteryref19_Restore.l2 k' q rests noise lines D s [] 0 0 := by
  induction d with
  | zero =>
    intro k k' i acc hk i0 i1 hd a0 a1
    simp only [Nat.add_zero, gain_Restore.l0, psalteryref19_Restore.l1]
    rw [if_neg (show ¬ i < (q.length : Int) by omega), if_neg (show ¬ i < (q.length : Int) by omega), if_pos (show (0 : Int) ≤ (q.length : Int) by omega), Int.toNat_natCast, if_pos (show q.length ≤ 70368744177664 by omega), rStep_eq g hk, hg]
    simp only [Option.bind_some]
    rw [Int.tmod_eq_emod_of_nonneg a0]
    exact ⟨acc % 65536, by omega, by omega, rfl, rfl⟩
  | succ d ih =>
    intro k k' i acc hk i0 i1 hd a0 a1
    have v := hq i i0 (by omega)
    rw [show k + (d + 1) + 1 = (k + d + 1) + 1 by omega, show k' + (d + 1) + 1 = (k' + d + 1) + 1 by omega]
    have ih := ih k k'
    generalize k + d + 1 = m_ at ih ⊢
    generalize k' + d + 1 = m2_ at ih ⊢
    simp only [gain_Restore.l0, psalteryref19_Restore.l1]
    rw [if_pos (show i < (q.length : Int) by omega), if_pos i0, if_pos (show i < (q.length : Int) by omega), if_pos (show i < (q.length : Int) by omega), if_pos i0, size_eq v.1 v.2, rsize_eq v.1 v.2]
    simp only [Option.bind_some]
    rw [w64 (a := i + 1) (by omega) (by omega), w64 (a := acc + _) (by omega) (by omega), u16_wrap, u16_wrap, show (acc % 65536 + max (rd q i) (-(rd q i)) % 65536) % 65536 = (acc + max (rd q i) (-(rd q i))) % 65536 by omega]
    exact ih (i + 1) (acc + max (rd q i) (-(rd q i))) hk (by omega) (by omega) (by omega) (by omega) (by omega)
/-- Lines that are near to what their steps tell. -/
def Told (s : Int) (q r : List Int) : Prop := ∀ j : Int, 0 ≤ j → j < r.length → rd q j ≠ 0 → ∃ a, max (rd q j) (-(rd q j)) * s - s / 4 ≤ a ∧ a ≤ max (rd q j) (-(rd q j)) * s + s / 4 ∧ rd r j = sat32 (if rd q j < 0 then -rnd a 16 else rnd a 16)
theorem Told.snoc {s v : Int} {q r : List Int} (h : Told s q r) (hv : rd q r.length ≠ 0 → ∃ a, max (rd q r.length) (-(rd q r.length)) * s - s / 4 ≤ a ∧ a ≤ max (rd q r.length) (-(rd q r.length)) * s + s / 4 ∧ v = sat32 (if rd q r.length < 0 then -rnd a 16 else rnd a 16)) : Told s q (r ++ [v]) := fun j a b c => by
  rw [List.length_append, List.length_singleton] at b
  rw [rd_snoc a (by omega)]
  by_cases e : j = r.length
  · rw [if_pos e]; rw [e] at c ⊢; exact hv c
  · rw [if_neg e]; exact h j a (by omega) c
theorem put_next {out : List Int} {d : Nat} {i v : Int} (h : (out.length : Int) = i) : (out ++ List.replicate (d + 1) 0).set i.toNat v = (out ++ [v]) ++ List.replicate d 0 := by
  rw [← h, Int.toNat_natCast, List.set_append_right _ _ (Nat.le_refl _), Nat.sub_self, List.replicate_succ, List.set_cons_zero, List.append_assoc]; rfl
theorem rd_drop {r : List Int} {n : Int} (h : 0 ≤ n) : rd (r.drop n.toNat) 0 = rd r n := by
  unfold rd
  rw [List.getD_eq_getElem?_getD, List.getD_eq_getElem?_getD, List.getElem?_drop]; rfl
theorem mul_range {a s : Int} (a0 : 0 ≤ a) (a1 : a ≤ 32767) (hs : 4 ≤ s) (hs2 : s ≤ 140737488355327) : 0 ≤ a * s ∧ a * s ≤ 4611545280939000000 := by
  have := mul_abs (a := a) (b := s) (A := 32767) (B := 140737488355327) (by omega) a1 (by omega) hs2
  exact ⟨Int.mul_nonneg a0 (by omega), by omega⟩
theorem throw_eq {D : Int} (h0 : 0 ≤ D) (h1 : D < 65536) : gain_dice_throw.f D = some (decide ((D * 13849 + 16831) % 65536 ≥ 32768), (D * 13849 + 16831) % 65536) := by
  unfold gain_dice_throw.f
  rw [u16_wrap, u16_wrap, show (13849 * D % 65536 + 16831) % 65536 = (D * 13849 + 16831) % 65536 by omega]
theorem sat0 : sat32 0 = 0 := by decide

set_option maxHeartbeats 1000000 in
theorem restore_sim {q rests : List Int} (hl : q.length ≤ 120) (hq : Small q 0) (hr : rests.length ≤ 300) (hb : Bits rests 0) {noise lines s : Int} (hs : 4 ≤ s) (hs2 : s ≤ 140737488355327) (n0 : 0 ≤ noise) (n1 : noise ≤ 7) (d : Nat) :
    ∀ (k : Nat) (i nx D : Int) (out : List Int), 2 * d < k → 0 ≤ i → i ≤ q.length → (q.length : Int) - i = d → (out.length : Int) = i → 0 ≤ nx → nx ≤ rests.length → 0 ≤ D → D < 65536 → Told s q out →
    ∃ r, gain_Restore.l1 k (rests.drop nx.toNat) noise lines s (out ++ List.replicate d 0) q (q.length : Int) i D = some (r, 0) ∧ psalteryref19_Restore.l2 k q rests noise lines D s out nx i = some (r, 0) ∧ r.length = q.length ∧ Told s q r := by
  induction d with
  | zero =>
    intro k i nx D out hk i0 i1 hd ho x0 x1 d0 d1 ht
    obtain ⟨k, rfl⟩ : ∃ m, k = m + 1 := ⟨k - 1, by omega⟩
    simp only [gain_Restore.l1, psalteryref19_Restore.l2]
    rw [if_neg (by omega), if_neg (by omega)]
    exact ⟨out, by simp, rfl, by omega, ht⟩
  | succ d ih =>
    intro k i nx D out hk i0 i1 hd ho x0 x1 d0 d1 ht
    obtain ⟨m_, rfl⟩ : ∃ m, k = m + 1 := ⟨k - 1, by omega⟩
    obtain ⟨k, hm_⟩ : ∃ m, m_ = m + 1 := ⟨m_ - 1, by omega⟩
    have v := hq i i0 (by omega)
    have olen : ((out ++ List.replicate (d + 1) 0).length : Int) = q.length := by rw [List.length_append, List.length_replicate]; omega
    have next : ∀ (k' : Nat) (nx' D' v' : Int), 2 * d < k' → 0 ≤ nx' → nx' ≤ rests.length → 0 ≤ D' → D' < 65536 → (rd q i ≠ 0 → ∃ a, max (rd q i) (-(rd q i)) * s - s / 4 ≤ a ∧ a ≤ max (rd q i) (-(rd q i)) * s + s / 4 ∧ v' = sat32 (if rd q i < 0 then -rnd a 16 else rnd a 16)) →
        ∃ r, gain_Restore.l1 k' (rests.drop nx'.toNat) noise lines s ((out ++ [v']) ++ List.replicate d 0) q (q.length : Int) (i + 1) D' = some (r, 0) ∧ psalteryref19_Restore.l2 k' q rests noise lines D' s (out ++ [v']) nx' (i + 1) = some (r, 0) ∧ r.length = q.length ∧ Told s q r := by
      intro k' nx' D' v' hk' a0 a1 b0 b1 hv
      exact ih k' (i + 1) nx' D' (out ++ [v']) hk' (by omega) (by omega) (by omega) (by rw [List.length_append, List.length_singleton]; omega) a0 a1 b0 b1 (ht.snoc (by rw [ho]; exact hv))
    simp only [gain_Restore.l1, psalteryref19_Restore.l2]
    subst hm_
    rw [if_pos (show i < (q.length : Int) by omega), if_pos i0, if_pos (show i < (q.length : Int) by omega), if_pos (show i < (q.length : Int) by omega), if_pos i0, size_eq v.1 v.2, rsize_eq v.1 v.2]
    simp only [Option.bind_some]
    have m := mul_range (a := max (rd q i) (-(rd q i))) (by omega) (by omega) hs hs2
    rw [w64 (a := max _ _ * s) (by omega) (by omega)]
    have w1 : wrap64 (i + 1) = i + 1 := w64 (by omega) (by omega)
    by_cases e : rd q i = 0
    · rw [if_pos e, if_pos e]
      have none_ : ∀ b : Bool, b = false → ∃ r, gain_Restore.j4 (k + 1) (rests.drop nx.toNat) noise lines s (out ++ List.replicate (d + 1) 0) i q (q.length : Int) i b D = some (r, 0) ∧ psalteryref19_Restore.j4 (k + 1) q rests noise lines D s out nx i 0 b = some (r, 0) ∧ r.length = q.length ∧ Told s q r := by
        intro b hb; subst hb
        simp only [gain_Restore.j4, psalteryref19_Restore.j4, Bool.false_eq_true, if_false]
        rw [rSat32_eq, sat0]; simp only [Option.bind_some]
        rw [if_pos (by omega), w1, w32 (by decide) (by decide)]
        have h := next k nx D 0 (by omega) x0 x1 d0 d1 (fun c => absurd e c)
        rw [show (out ++ [0]) ++ List.replicate d 0 = out ++ List.replicate (d + 1) 0 by rw [List.append_assoc, List.replicate_succ]; rfl] at h
        exact h
      by_cases c1 : noise > 0
      · rw [if_pos c1, if_pos c1]
        by_cases c2 : i < lines
        · rw [decide_eq_true c2]
          simp only [gain_Restore.j4, psalteryref19_Restore.j4, if_true]
          have m2 := mul_range (a := noise) n0 (by omega) hs hs2
          have m3 : noise * s / 16 ≤ 4611545280939000000 ∧ 0 ≤ noise * s / 16 := by omega
          have rr := rnd_range (n := noise * s / 16) (s := 16) (lo := 0) (hi := 4611545280939000000) (by decide) (by decide) m3.2 m3.1
          rw [w64 (a := noise * s) (by omega) (by omega), Int.tdiv_eq_ediv_of_nonneg m2.1, w64 (a := noise * s / 16) (by omega) (by omega), Round_eq 16 (by omega) (by omega), rRound_eq 16 (by omega) (by omega), throw_eq d0 d1]
          simp only [Option.bind_some]
          rw [w64 (a := D * 13849) (by omega) (by omega), w64 (a := D * 13849 + 16831) (by omega) (by omega), Int.tmod_eq_emod_of_nonneg (show 0 ≤ D * 13849 + 16831 by omega), w64 (a := -rnd _ 16) (by omega) (by omega)]
          by_cases c3 : (D * 13849 + 16831) % 65536 ≥ 32768
          · rw [decide_eq_true c3, if_pos rfl, if_pos c3, Sat32_eq, rSat32_eq]; simp only [Option.bind_some]
            have sr := sat32_range (-rnd (noise * s / 16) 16)
            rw [if_pos i0, if_pos (by omega), if_pos (by omega), w1, w32 sr.1 sr.2, put_next ho]
            exact next k nx _ _ (by omega) x0 x1 (by omega) (by omega) (fun c => absurd e c)
          · rw [decide_eq_false c3, if_neg Bool.false_ne_true, if_neg c3, Sat32_eq, rSat32_eq]; simp only [Option.bind_some]
            have sr := sat32_range (rnd (noise * s / 16) 16)
            rw [if_pos i0, if_pos (by omega), if_pos (by omega), w1, w32 sr.1 sr.2, put_next ho]
            exact next k nx _ _ (by omega) x0 x1 (by omega) (by omega) (fun c => absurd e c)
        · exact none_ _ (decide_eq_false c2)
      · rw [if_neg c1, if_neg c1]; exact none_ _ rfl
    · rw [if_neg e, if_neg e]
      -- what both do with a
      have tail : ∀ (a nx' : Int), max (rd q i) (-(rd q i)) * s - s / 4 ≤ a → a ≤ max (rd q i) (-(rd q i)) * s + s / 4 → 0 ≤ nx' → nx' ≤ rests.length → ∃ r,
          ((fix_Round.f a 16).bind fun t229 => ((gain_signed_int.f t229 (rd q i)).bind fun t230 => ((fix_Sat32.f t230).bind fun t231 => (if i < ((out ++ List.replicate (d + 1) 0).length : Int) then (gain_Restore.l1 (k + 1) (rests.drop nx'.toNat) noise lines s ((out ++ List.replicate (d + 1) 0).set (i : Int).toNat t231) q (q.length : Int) (wrap64 (i + 1)) D) else (none))))) = some (r, 0) ∧
          psalteryref19_Restore.j5 (k + 1) q rests noise lines D s out nx' i a = some (r, 0) ∧ r.length = q.length ∧ Told s q r := by
        intro a nx' a0 a1 y0 y1
        have rr := rnd_range (n := a) (s := 16) (lo := -140737488355327) (hi := 4611800000000000000) (by decide) (by decide) (by omega) (by omega)
        simp only [psalteryref19_Restore.j5]
        rw [Round_eq 16 (by omega) (by omega), rRound_eq 16 (by omega) (by omega)]
        simp only [Option.bind_some]
        unfold gain_signed_int.f
        rw [if_pos i0, if_pos (show i < (q.length : Int) by omega), w64 (a := -rnd a 16) (by omega) (by omega), w1]
        by_cases c : rd q i < 0
        · rw [if_pos c, if_pos c]; simp only [Option.bind_some]
          rw [Sat32_eq, rSat32_eq]; simp only [Option.bind_some]
          have sr := sat32_range (-rnd a 16)
          rw [if_pos (by omega), if_pos (by omega), w32 sr.1 sr.2, put_next ho]
          obtain ⟨r, h1, h2, h3⟩ := next k nx' D (sat32 (-rnd a 16)) (by omega) y0 y1 d0 d1 (fun _ => ⟨a, a0, a1, by rw [if_pos c]⟩)
          have h1' := (gain_Restore.mono_l k).2.2.2.1 _ _ _ _ _ _ _ _ _ _ h1
          exact ⟨r, h1', h2, h3⟩
        · rw [if_neg c, if_neg c]; simp only [Option.bind_some]
          rw [Sat32_eq, rSat32_eq]; simp only [Option.bind_some]
          have sr := sat32_range (rnd a 16)
          rw [if_pos (by omega), if_pos (by omega), w32 sr.1 sr.2, put_next ho]
          obtain ⟨r, h1, h2, h3⟩ := next k nx' D (sat32 (rnd a 16)) (by omega) y0 y1 d0 d1 (fun _ => ⟨a, a0, a1, by rw [if_neg c]⟩)
          have h1' := (gain_Restore.mono_l k).2.2.2.1 _ _ _ _ _ _ _ _ _ _ h1
          exact ⟨r, h1', h2, h3⟩
      by_cases c1 : nx < rests.length
      · have dl : ((rests.drop nx.toNat).length : Int) = rests.length - nx := by rw [List.length_drop]; omega
        rw [if_pos (by omega), if_pos (by omega), if_pos (by omega), if_pos c1, if_pos x0, rd_drop x0, List.drop_drop, w64 (a := nx + 1) (by omega) (by omega)]
        rw [Int.tdiv_eq_ediv_of_nonneg (show 0 ≤ s by omega), w64 (a := s / 4) (by omega) (by omega)]
        rw [show nx.toNat + 1 = (nx + 1).toNat by omega]
        rcases hb nx x0 c1 with b | b
        · rw [b, if_neg (by decide), show wrap64 (wrap64 (2 * 0) - 1) = -1 by decide +kernel, show (-1 : Int) * (s / 4) = -(s / 4) by omega, w64 (a := -(s / 4)) (by omega) (by omega), show max (rd q i) (-(rd q i)) * s + -(s / 4) = max (rd q i) (-(rd q i)) * s - s / 4 by omega, w64 (a := _ - s / 4) (by omega) (by omega)]
          exact tail (max (rd q i) (-(rd q i)) * s - s / 4) (nx + 1) (by omega) (by omega) (by omega) (by omega)
        · rw [b, if_pos rfl, show wrap64 (wrap64 (2 * 1) - 1) = 1 by decide +kernel, Int.one_mul, w64 (a := s / 4) (by omega) (by omega), w64 (a := _ + s / 4) (by omega) (by omega)]
          exact tail (max (rd q i) (-(rd q i)) * s + s / 4) (nx + 1) (by omega) (by omega) (by omega) (by omega)
      · have dl : ((rests.drop nx.toNat).length : Int) = 0 := by rw [List.length_drop]; omega
        rw [if_neg (by omega), if_neg c1]
        exact tail (max (rd q i) (-(rd q i)) * s) nx (by omega) (by omega) x0 x1
theorem err_j0 (q rests : List Int) (noise lines s e : Int) (h : e ≠ 0) : gain_Restore.j0 1000 q rests noise lines s e false = some ([], e) := by
  simp only [gain_Restore.j0, gain_Restore.j1, Bool.false_eq_true, if_false]; rw [if_neg h]
theorem bad_j0 (q rests : List Int) (noise lines s e : Int) : gain_Restore.j0 1000 q rests noise lines s e true = some ([], 1) := by
  simp only [gain_Restore.j0, gain_Restore.j1, if_true]; rw [if_neg (by decide)]
/-- May these be restored? -/
abbrev Fit (q rests : List Int) (noise lines : Int) : Prop := (rests.length : Int) ≤ nz q q.length 0 ∧ 0 ≤ noise ∧ noise ≤ 7 ∧ 0 ≤ lines ∧ lines ≤ q.length
theorem chain {α : Type} (J : Bool → α) (q rests : List Int) (noise lines : Int) : (if (rests.length : Int) > nz q q.length 0 then J true else (if noise < 0 then J true else (if noise > 7 then J true else (if lines < 0 then J true else J (decide (lines > (q.length : Int))))))) = J (!decide (Fit q rests noise lines)) := by
  by_cases c1 : (rests.length : Int) > nz q q.length 0
  · rw [if_pos c1, decide_eq_false (by omega)]; rfl
  · rw [if_neg c1]
    by_cases c2 : noise < 0
    · rw [if_pos c2, decide_eq_false (by omega)]; rfl
    · rw [if_neg c2]
      by_cases c3 : noise > 7
      · rw [if_pos c3, decide_eq_false (by omega)]; rfl
      · rw [if_neg c3]
        by_cases c4 : lines < 0
        · rw [if_pos c4, decide_eq_false (by omega)]; rfl
        · rw [if_neg c4]
          by_cases c5 : lines > (q.length : Int)
          · rw [decide_eq_true c5, decide_eq_false (by omega)]; rfl
          · rw [decide_eq_false c5, decide_eq_true (by omega)]; rfl
theorem restore_eq {q rests : List Int} (hr : rests.length ≤ 300) (g noise lines : Int) : ∃ r e, gain_Restore.f 1000 q g rests noise lines = some (r, e) ∧ psalteryref19_Restore.f 1000 q g rests noise lines = some (r, e) ∧ r.length ≤ 120 ∧
    (q.length ≤ 120 → 0 ≤ g ∧ g ≤ 240 → Small q 0 → Bits rests 0 → Fit q rests noise lines → e = 0 ∧ r.length = q.length ∧ Told (expV (32 * g)) q r) := by
  unfold gain_Restore.f psalteryref19_Restore.f
  rcases may_eq q.length q g (k := 1000) (by decide) with ⟨_, hl, hg, _, hq, m1, m2⟩ | ⟨hn, e, he, m1, m2⟩
  · rw [m1, m2]; simp only [Option.bind_some, if_true]
    have sr := step_range hg.1 hg.2
    have h1 := count_eq (q := q) (rests := rests) hl (noise := noise) (lines := lines) q.length (999 - q.length) 0 0 (by decide) (by omega) (by omega) (by decide) (by decide)
    rw [show (999 - q.length) + q.length + 1 = 1000 by omega, Int.zero_add] at h1
    unfold gain_restorable.f psalteryref19_Nonzero.f
    rw [h1.1, h1.2]
    simp only [Option.bind_some]
    rw [chain (fun b => psalteryref19_Restore.j0 1000 q g rests noise lines b)]
    have rb := rbits_eq (q := q) (rests := rests) hr (g := g) (noise := noise) (lines := lines) (dice := 0) rests.length (998 - rests.length) 0 (by decide) (by omega) (by omega)
    rw [show (998 - rests.length) + rests.length + 1 = 999 by omega] at rb
    have good : ∀ b, b = false → psalteryref19_Restore.j0 1000 q g rests noise lines b = psalteryref19_Restore.l0 999 q g rests noise lines 0 0 := fun b h => by
      subst h; simp only [psalteryref19_Restore.j0, Bool.false_eq_true, if_false]
    have bad : ∀ b, b = true → psalteryref19_Restore.j0 1000 q g rests noise lines b = some ([], 1) := fun b h => by
      subst h; simp only [psalteryref19_Restore.j0, if_true]
    rcases bits_eq (q := q) (rests := rests) hr (noise := noise) (lines := lines) (c := nz q q.length 0) rests.length (999 - q.length) 0 (by decide) (by omega) (by omega) (by omega) with ⟨b, hb⟩ | ⟨b, hb⟩
    · rw [hb]; simp only [Option.bind_some]
      rw [show decide ((rests.length : Int) ≤ nz q q.length 0 ∧ 0 ≤ noise ∧ noise ≤ 7 ∧ 0 ≤ lines ∧ lines ≤ q.length) = decide (Fit q rests noise lines) from rfl]
      by_cases hf : Fit q rests noise lines
      · rw [decide_eq_true hf, Bool.not_true, good _ rfl]
        rcases rb with ⟨_, rb⟩ | ⟨x, _⟩
        · rw [rb]
          obtain ⟨D, d0, d1, e1, e2⟩ := dice_eq (q := q) (rests := rests) hl hq (g := g) (noise := noise) (lines := lines) (s := expV (32 * g)) (by unfold stepV; rw [if_pos hg]) q.length (997 - q.length) (997 - rests.length - q.length) 0 0 (by omega) (by decide) (by omega) (by omega) (by decide) (by decide)
          rw [show (997 - q.length) + q.length + 1 = 998 by omega, show (0 : Int) % 65536 = 0 from rfl] at e1
          rw [show (997 - rests.length - q.length) + q.length + 1 = 998 - rests.length by omega] at e2
          rw [e2]
          simp only [gain_Restore.j0, gain_Restore.j1, Bool.false_eq_true, if_false, if_true]
          rw [e1]
          obtain ⟨r, s1, s2, s3, s4⟩ := restore_sim (q := q) (rests := rests) hl hq hr b (noise := noise) (lines := lines) sr.1 sr.2 hf.2.1 hf.2.2.1 q.length (997 - rests.length - q.length) 0 0 D [] (by omega) (by decide) (by omega) (by omega) rfl (by decide) (by omega) d0 d1 (fun j a b => by simp at b; omega)
          rw [s2]
          have s1' := at_rounds (g := fun k => gain_Restore.l1 k rests noise lines (expV (32 * g)) (List.replicate q.length 0) q (q.length : Int) 0 D) (fun k => (gain_Restore.mono_l k).2.2.2.1 _ _ _ _ _ _ _ _ _) (show 997 - rests.length - q.length ≤ 997 - q.length by omega) s1
          exact ⟨r, 0, s1', rfl, by omega, fun _ _ _ _ _ => ⟨rfl, s3, s4⟩⟩
        · exact absurd b x
      · rw [decide_eq_false hf, Bool.not_false, bad _ rfl, bad_j0]
        exact ⟨[], 1, rfl, rfl, by decide, fun _ _ _ _ x => absurd x hf⟩
    · rw [hb]; simp only [Option.bind_some]
      rw [show (!false) = true from rfl, bad_j0]
      have e : (fun b => psalteryref19_Restore.j0 1000 q g rests noise lines b) (!decide (Fit q rests noise lines)) = some ([], 1) := by
        show psalteryref19_Restore.j0 1000 q g rests noise lines (!decide (Fit q rests noise lines)) = some ([], 1)
        by_cases hf : Fit q rests noise lines
        · rw [decide_eq_true hf, Bool.not_true, good _ rfl]
          rcases rb with ⟨x, _⟩ | ⟨_, rb⟩
          · exact absurd x b
          · exact rb
        · rw [decide_eq_false hf, Bool.not_false, bad _ rfl]
      exact ⟨[], 1, rfl, e, by decide, fun _ _ _ x _ => absurd x b⟩
  · rw [m1, m2]; simp only [Option.bind_some]
    rw [if_neg he, if_neg he, err_j0 _ _ _ _ _ _ he]
    exact ⟨[], e, rfl, rfl, by decide, fun a b c _ _ => absurd ⟨by omega, a, b, rfl, c⟩ hn⟩
end Go.Proofs.Ytfipchhpnnjkeaa.GainRest
